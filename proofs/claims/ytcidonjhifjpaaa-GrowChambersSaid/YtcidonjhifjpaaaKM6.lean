/- Patterns of data: holes as arguments of a function. Code with marks: at a mark a function of the holes stands for the run of the code. -/
import Derived.Test.YtcidonjhifjpaaaKM5
namespace Go.AM

structure PT (X : Type) where
  Cur : Type → Type
  unc : {β : Type} → (X → β) → Cur β
  dec : {β : Type} → X → Cur β → Option β
  law : ∀ x, (∀ (β : Type) (g : X → β), dec x (unc g) = some (g x)) ∨ (∀ (β : Type) (f : Cur β), dec x f = none)

namespace PT
variable {X Y : Type}

def hole : PT X := ⟨fun β => X → β, fun g => g, fun x f => some (f x), fun _ => .inl fun _ _ => rfl⟩

def lift (p : PT X) (mk : X → Y) (un : Y → Option X) (h : ∀ y x, un y = some x → mk x = y) : PT Y :=
  ⟨p.Cur, fun g => p.unc fun x => g (mk x), fun y f => match un y with | some x => p.dec x f | none => none, fun y => by
    cases hu : un y with
    | none => exact .inr fun _ _ => rfl
    | some x =>
      rcases p.law x with hl | hr
      · exact .inl fun β g => by simp only [hl]; rw [h y x hu]
      · exact .inr fun β f => by simp only [hr]⟩

/-- A constant: no hole. -/
def const (x : X) (is : X → Bool) (h : ∀ y, is y = true → y = x) : PT X :=
  ⟨fun β => β, fun g => g x, fun y f => match is y with | true => some f | false => none, fun y => by
    cases hi : is y with
    | true => have := h y hi; subst this; exact .inl fun _ _ => rfl
    | false => exact .inr fun _ _ => rfl⟩

def pair (p : PT X) (q : PT Y) : PT (X × Y) :=
  ⟨fun β => p.Cur (q.Cur β), fun g => p.unc fun x => q.unc fun y => g (x, y), fun z f => match p.dec z.1 f with | some f' => q.dec z.2 f' | none => none, fun z => by
    rcases p.law z.1 with hl | hr
    · rcases q.law z.2 with hl' | hr'
      · exact .inl fun β g => by simp only [hl, hl']
      · refine .inr fun β f => ?_
        split
        · exact hr' _ _
        · rfl
    · exact .inr fun β f => by simp only [hr]⟩

def nil : PT (List X) := const [] (fun l => match l with | [] => true | _ :: _ => false) (fun l h => by cases l with | nil => rfl | cons a r => cases h)
def cons (p : PT X) (q : PT (List X)) : PT (List X) :=
  (pair p q).lift (fun z => z.1 :: z.2) (fun l => match l with | [] => none | a :: r => some (a, r)) (fun l z h => by cases l with | nil => cases h | cons a r => simp only [Option.some.injEq] at h; subst h; rfl)
def ofL : List (PT X) → PT (List X)
  | [] => nil
  | p :: r => cons p (ofL r)

def eqN (n : Nat) (p : PT Y) : PT (Nat × Y) := p.lift (fun y => (n, y)) (fun z => if z.1 = n then some z.2 else none) (fun z y h => by
  split at h
  · rename_i hn; simp only [Option.some.injEq] at h; subst h; subst hn; rfl
  · cases h)
def eqB (b : Bool) (p : PT Y) : PT (Bool × Y) := p.lift (fun y => (b, y)) (fun z => if z.1 = b then some z.2 else none) (fun z y h => by
  split at h
  · rename_i hn; simp only [Option.some.injEq] at h; subst h; subst hn; rfl
  · cases h)
end PT

open PT

/-! ### Data -/

def dI (k : IntKind) : PT DC := hole.lift (fun n => .v (.int k n)) (fun d => match d with | .v (.int k' n) => if k' = k then some n else none | _ => none) (fun d n h => by
  split at h
  · split at h
    · rename_i hk; simp only [Option.some.injEq] at h; subst h; subst hk; rfl
    · cases h
  · cases h)
def dB : PT DC := hole.lift (fun n => .v (.bool n)) (fun d => match d with | .v (.bool n) => some n | _ => none) (fun d n h => by
  split at h
  · simp only [Option.some.injEq] at h; subst h; rfl
  · cases h)
def dS : PT DC := hole.lift (fun n => .v (.string n)) (fun d => match d with | .v (.string n) => some n | _ => none) (fun d n h => by
  split at h
  · simp only [Option.some.injEq] at h; subst h; rfl
  · cases h)
def dF (k : FloatKind) : PT DC := hole.lift (fun n => .v (.float k n)) (fun d => match d with | .v (.float k' n) => if k' = k then some n else none | _ => none) (fun d n h => by
  split at h
  · split at h
    · rename_i hk; simp only [Option.some.injEq] at h; subst h; subst hk; rfl
    · cases h
  · cases h)
def dX (k : FloatKind) : PT DC := (pair hole hole).lift (fun (n : Nat × Nat) => .v (.complex k n.1 n.2)) (fun d => match d with | .v (.complex k' n m) => if k' = k then some (n, m) else none | _ => none) (fun d n h => by
  split at h
  · split at h
    · rename_i hk; simp only [Option.some.injEq] at h; subst h; subst hk; rfl
    · cases h
  · cases h)
def dL : PT DC := hole.lift (fun n => .sl n) (fun d => match d with | .sl n => some n | _ => none) (fun d n h => by
  split at h
  · simp only [Option.some.injEq] at h; subst h; rfl
  · cases h)
def dFn (f : Nat) (caps : List (PT DC)) : PT DC := (ofL caps).lift (fun cs => .fn f cs) (fun d => match d with | .fn f' cs => if f' = f then some cs else none | _ => none) (fun d n h => by
  split at h
  · split at h
    · rename_i hk; simp only [Option.some.injEq] at h; subst h; subst hk; rfl
    · cases h
  · cases h)
def dP (cs : List (PT DC)) (off : Nat) : PT DC := (ofL cs).lift (fun cs => .cref cs off) (fun d => match d with | .cref cs o => if o = off then some cs else none | _ => none) (fun d n h => by
  split at h
  · split at h
    · rename_i hk; simp only [Option.some.injEq] at h; subst h; subst hk; rfl
    · cases h
  · cases h)
def dNF : PT DC := const (.v .nilFunc) (fun d => match d with | .v .nilFunc => true | _ => false) (fun d h => by split at h <;> first | rfl | cases h)
def dNP : PT DC := const (.v (.pointer none)) (fun d => match d with | .v (.pointer none) => true | _ => false) (fun d h => by split at h <;> first | rfl | cases h)

/-! ### Cells, values, entries, states -/

def cD (p : PT DC) : PT C := p.lift .d (fun c => match c with | .d x => some x | _ => none) (fun d n h => by
  split at h
  · simp only [Option.some.injEq] at h; subst h; rfl
  · cases h)
def cNil : PT C := const .nils (fun c => match c with | .nils => true | _ => false) (fun d h => by split at h <;> first | rfl | cases h)
def cUnd : PT C := const .und (fun c => match c with | .und => true | _ => false) (fun d h => by split at h <;> first | rfl | cases h)
def cUnk : PT C := const .unk (fun c => match c with | .unk => true | _ => false) (fun d h => by split at h <;> first | rfl | cases h)
def cRef (n : Nat) : PT C := const (.ref n) (fun c => match c with | .ref m => m == n | _ => false) (fun d h => by
  split at h
  · rename_i m; have : m = n := by simpa using h
    rw [this]
  · cases h)
def cPtr (n off : Nat) : PT C := const (.ptr n off) (fun c => match c with | .ptr m o => m == n && o == off | _ => false) (fun d h => by
  split at h
  · rename_i m o; have : m = n ∧ o = off := by simpa using h
    rw [this.1, this.2]
  · cases h)
def cE (n off : Nat) : PT C := hole.lift (fun i => .eptr n i off) (fun c => match c with | .eptr m i o => if m = n ∧ o = off then some i else none | _ => none) (fun d i h => by
  split at h
  · split at h
    · rename_i hk; simp only [Option.some.injEq] at h; subst h; rw [hk.1, hk.2]
    · cases h
  · cases h)
def cSub (n : Nat) : PT C := (pair hole hole).lift (fun (i : Nat × Nat) => .sub n i.1 i.2) (fun c => match c with | .sub m i o => if m = n then some (i, o) else none | _ => none) (fun d i h => by
  split at h
  · split at h
    · rename_i hk; simp only [Option.some.injEq] at h; subst h; rw [hk]
    · cases h
  · cases h)
def pCp (n : Nat) : PT Cap := const (.ptr n) (fun c => match c with | .ptr m => m == n | _ => false) (fun d h => by
  split at h
  · rename_i m; have : m = n := by simpa using h
    rw [this]
  · cases h)
def pCd (p : PT DC) : PT Cap := p.lift .d (fun c => match c with | .d x => some x | _ => none) (fun d n h => by
  split at h
  · simp only [Option.some.injEq] at h; subst h; rfl
  · cases h)
def cFn (f : Nat) (caps : List (PT Cap)) : PT C := (ofL caps).lift (fun cs => .fn f cs) (fun d => match d with | .fn f' cs => if f' = f then some cs else none | _ => none) (fun d n h => by
  split at h
  · split at h
    · rename_i hk; simp only [Option.some.injEq] at h; subst h; subst hk; rfl
    · cases h
  · cases h)
def aV (b : Bool) (cs : List (PT C)) : PT AV := (ofL cs).lift (fun cs => .val b cs) (fun a => match a with | .val b' cs => if b' = b then some cs else none | _ => none) (fun d n h => by
  split at h
  · split at h
    · rename_i hk; simp only [Option.some.injEq] at h; subst h; subst hk; rfl
    · cases h
  · cases h)
def aT (l : List (PT (Bool × List C))) : PT AV := (ofL l).lift (fun cs => .tup cs) (fun a => match a with | .tup cs => some cs | _ => none) (fun d n h => by
  split at h
  · simp only [Option.some.injEq] at h; subst h; rfl
  · cases h)
def aTc (b : Bool) (cs : List (PT C)) : PT (Bool × List C) := eqB b (ofL cs)
/-- A slot. -/
def sl (n : Nat) (p : PT AV) : PT (Nat × AV) := eqN n p
def s1 (n : Nat) (p : PT DC) : PT (Nat × AV) := eqN n (aV false [cD p])
def eBox (n : Nat) (cs : List (PT C)) : PT (Nat × Entry) := eqN n ((ofL cs).lift (fun cs => .box cs) (fun a => match a with | .box cs => some cs | _ => none) (fun d n h => by
  split at h
  · simp only [Option.some.injEq] at h; subst h; rfl
  · cases h))
def eOwn (n sz : Nat) : PT (Nat × Entry) := eqN n (hole.lift (fun rows => .own sz rows) (fun a => match a with | .own s rows => if s = sz then some rows else none | _ => none) (fun d n h => by
  split at h
  · split at h
    · rename_i hk; simp only [Option.some.injEq] at h; subst h; subst hk; rfl
    · cases h
  · cases h))
def eImm (n : Nat) : PT (Nat × Entry) := eqN n (hole.lift (fun rows => .imm rows) (fun a => match a with | .imm rows => some rows | _ => none) (fun d n h => by
  split at h
  · simp only [Option.some.injEq] at h; subst h; rfl
  · cases h))
def eDead (n : Nat) : PT (Nat × Entry) := eqN n (const .dead (fun c => match c with | .dead => true | _ => false) (fun d h => by split at h <;> first | rfl | cases h))
def pS (ts : List (PT (Nat × AV))) (tb : List (PT (Nat × Entry))) : PT St :=
  (pair (ofL ts) (ofL tb)).lift (fun z => ⟨z.1, z.2, []⟩) (fun σ => match σ with | ⟨a, b, []⟩ => some (a, b) | _ => none) (fun d n h => by
  split at h
  · simp only [Option.some.injEq] at h; subst h; rfl
  · cases h)
/-- Arguments, results. -/
def pV (b : Bool) (cs : List (PT DC)) : PT DV := eqB b (ofL cs)
def pA (l : List (PT DV)) : PT (List DV) := ofL l
def rD (p : PT DC) : PT RC := p.lift .d (fun c => match c with | .d x => some x | _ => none) (fun d n h => by
  split at h
  · simp only [Option.some.injEq] at h; subst h; rfl
  · cases h)
def rO (sz : Nat) : PT RC := hole.lift (fun rows => .own sz rows) (fun a => match a with | .own s rows => if s = sz then some rows else none | _ => none) (fun d n h => by
  split at h
  · split at h
    · rename_i hk; simp only [Option.some.injEq] at h; subst h; subst hk; rfl
    · cases h
  · cases h)
def pR (b : Bool) (cs : List (PT RC)) : PT RV := eqB b (ofL cs)
def pRs (l : List (PT RV)) : PT (List RV) := ofL l

/-! ### Code with marks -/

variable {α β : Type} {P : Program} {E : EnvK} {sh : List (Nat × List Sh)}

/-- A function of a state's holes that stands for a run. -/
structure MarkT : Type 1 where
  p : PT St
  F : (α : Type) → (Exit → St → Option α) → p.Cur (Option α)
/-- What an iterator hands over, as elements of a type. -/
structure XT : Type 1 where
  X : Type
  dx : List Value → Option X
  ex : X → List Value
  hx : ∀ v x, dx v = some x → v = ex x
def decL (x : XT) : List (List Value) → Option (List x.X)
  | [] => some []
  | v :: r => match x.dx v with
    | some a => match decL x r with
      | some b => some (a :: b)
      | none => none
    | none => none
theorem decL_ex {x : XT} : ∀ {xs : List (List Value)} {ys : List x.X}, decL x xs = some ys → xs = ys.map x.ex
  | [], ys, h => by simp only [decL, Option.some.injEq] at h; subst h; rfl
  | v :: r, ys, h => by
    simp only [decL] at h
    split at h
    · rename_i a ha
      split at h
      · rename_i b hb
        simp only [Option.some.injEq] at h; subst h
        rw [x.hx v a ha, decL_ex hb]; rfl
      · cases h
    · cases h
def xK (x : XT) (xs : List (List Value)) (f : List x.X → Option α) : Option α := match decL x xs with | some ys => f ys | none => none
def qK (o : Option (List (List Value))) (x : XT) (f : List x.X → Option α) : Option α := listK o fun xs => xK x xs f
structure MarkR : Type 1 where
  x : XT
  p : PT St
  F : (α : Type) → (Exit → St → Option α) → List x.X → p.Cur (Option α)
def xII : XT := ⟨Int × Int, fun v => match v with | [.int .i64 a, .int .i64 b] => some (a, b) | _ => none, fun y => [.int .i64 y.1, .int .i64 y.2], fun v x h => by
  split at h
  · simp only [Option.some.injEq] at h; subst h; rfl
  · cases h⟩
/-- One round. -/
def roundT (fa fb : (Exit → St → Option α) → St → Option α) (ps : List Nat) (td : Option Tidy) (Kn : St → Option α) (Q : Exit → St → Option α) (x : List Value) (σ : St) : Option α :=
  if x.length = ps.length then fa (thenK (fb (roundK td Kn Q)) (fun _ _ => none)) ⟨setPs ps x σ.tmps, σ.tab, σ.tmps⟩ else none

inductive MCode : Type 1 where
  | skip
  | ret
  | exit (id : Nat)
  | region (ops : List AOper) (prs : List (Nat × Nat)) (td : Option Tidy)
  | seq (a b : MCode)
  | cond (c : Operand) (a b : MCode)
  | block (id : Nat) (b : MCode)
  | loop (td : Option Tidy) (l : List MarkT) (b : MCode)
  | mark (l : List MarkT) (c : MCode)
  | rangeF (g : Operand) (ps : List Nat) (td : Option Tidy) (l : List MarkR) (a b : MCode)

def MCode.erase : MCode → ACode
  | .skip => .skip
  | .ret => .ret
  | .exit id => .exit id
  | .region ops prs td => .region ops prs td
  | .seq a b => .seq a.erase b.erase
  | .cond c a b => .cond c a.erase b.erase
  | .block id b => .block id b.erase
  | .loop td _ b => .loop td b.erase
  | .mark _ c => c.erase
  | .rangeF g ps td _ a b => .rangeF g ps td a.erase b.erase

def decK (p : PT St) (f : p.Cur (Option α)) (σ : St) (r : Option α) : Option α := match p.dec σ f with | some o => o | none => r
def decT (K : Exit → St → Option α) (σ : St) (r : Option α) : List MarkT → Option α
  | [] => r
  | m :: l => decK m.p (m.F α K) σ (decT K σ r l)
def decR (K : Exit → St → Option α) (xs : List (List Value)) (σ : St) (r : Option α) : List MarkR → Option α
  | [] => r
  | m :: l => match m.p.dec σ (m.p.unc fun _ => ()) with
    | some _ => xK m.x xs fun ys => decK m.p (m.F α K ys) σ none
    | none => decR K xs σ r l

/-- Rounds from a state that is tidied. -/
def loopT (f : (Exit → St → Option α) → St → Option α) (td : Option Tidy) (Q : Exit → St → Option α) : Nat → St → Option α
  | 0, _ => none
  | k + 1, σ => f (thenK (fun σ => tidyK td σ (loopT f td Q k)) Q) σ

def runM (P : Program) (E : EnvK) (sh : List (Nat × List Sh)) : MCode → (Exit → St → Option α) → St → Option α
  | .skip, K, σ => K .normal σ
  | .ret, K, σ => K .ret σ
  | .exit id, K, σ => K (.exit id) σ
  | .region ops prs td, K, σ => regionK P E sh ops prs (fun σ' => tidyK td σ' (K .normal)) σ
  | .seq a b, K, σ => runM P E sh a (thenK (runM P E sh b K) K) σ
  | .cond c a b, K, σ => boolK (boolA (evO σ.tmps c)) (runM P E sh a K σ) (runM P E sh b K σ)
  | .block id b, K, σ => runM P E sh b (blockK id K) σ
  | .loop td l _, K, σ => tidyK td σ fun σ => decT K σ none l
  | .mark l c, K, σ => decT K σ (runM P E sh c K σ) l
  | .rangeF g _ _ l _ _, K, σ => listK (seqOf E.env (evO σ.tmps g) σ.sv) fun xs => decR K xs σ none l

def AllM {X : Type 1} : List X → (X → Prop) → Prop
  | [], _ => True
  | x :: r, p => p x ∧ AllM r p

/-- The marks say what the code does. -/
def MCode.Good (P : Program) (E : EnvK) (sh : List (Nat × List Sh)) : MCode → Prop
  | .seq a b => a.Good P E sh ∧ b.Good P E sh
  | .cond _ a b => a.Good P E sh ∧ b.Good P E sh
  | .block _ b => b.Good P E sh
  | .loop td l b => b.Good P E sh ∧ AllM l fun m => ∀ (α : Type) (K : Exit → St → Option α), m.F α K = m.p.unc fun σ => loopT (runM P E sh b) td K fuel σ
  | .mark l c => c.Good P E sh ∧ AllM l fun m => ∀ (α : Type) (K : Exit → St → Option α), m.F α K = m.p.unc fun σ => runM P E sh c K σ
  | .rangeF _ ps td l a b => (a.Good P E sh ∧ b.Good P E sh) ∧ AllM l fun m => ∀ (α : Type) (K : Exit → St → Option α) (ys : List m.x.X), m.F α K ys = m.p.unc fun σ => roundsK (runM P E sh a) (runM P E sh b) ps td K (ys.map m.x.ex) σ
  | _ => True

theorem decT_some {g : (α : Type) → (Exit → St → Option α) → St → Option α} {K : Exit → St → Option α} {σ : St} {r : Option α} {a : α} : ∀ {l : List MarkT}, AllM l (fun m => ∀ (α : Type) (K : Exit → St → Option α), m.F α K = m.p.unc (g α K)) → decT K σ r l = some a → g α K σ = some a ∨ r = some a
  | [], _, h => .inr h
  | m :: l, hl, h => by
    simp only [decT, decK] at h
    rw [hl.1 α K] at h
    rcases m.p.law σ with hL | hR
    · rw [hL] at h; exact .inl h
    · rw [hR] at h; exact decT_some hl.2 h

theorem decR_some {g : (α : Type) → (Exit → St → Option α) → List (List Value) → St → Option α} {K : Exit → St → Option α} {xs : List (List Value)} {σ : St} {r : Option α} {a : α} : ∀ {l : List MarkR}, AllM l (fun m => ∀ (α : Type) (K : Exit → St → Option α) (ys : List m.x.X), m.F α K ys = m.p.unc (g α K (ys.map m.x.ex))) → decR K xs σ r l = some a → g α K xs σ = some a ∨ r = some a
  | [], _, h => .inr h
  | m :: l, hl, h => by
    simp only [decR] at h
    rcases m.p.law σ with hL | hR
    · rw [hL] at h
      simp only [xK] at h
      split at h
      · rename_i ys hy
        have hxs := decL_ex hy
        simp only [decK] at h
        rw [hl.1 α K ys, ← hxs, hL] at h
        exact .inl h
      · cases h
    · rw [hR] at h; exact decR_some hl.2 h

theorem decT_bind {g : (α : Type) → (Exit → St → Option α) → St → Option α} {K : Exit → St → Option α} {gg : α → Option β} {σ : St} {r : Option α} (hg : ∀ σ, (g α K σ).bind gg = g β (fun e σ => (K e σ).bind gg) σ) :
    ∀ {l : List MarkT}, AllM l (fun m => ∀ (α : Type) (K : Exit → St → Option α), m.F α K = m.p.unc (g α K)) → (decT K σ r l).bind gg = decT (fun e σ => (K e σ).bind gg) σ (r.bind gg) l
  | [], _ => rfl
  | m :: l, hl => by
    simp only [decT, decK]
    rw [hl.1 α K, hl.1 β]
    rcases m.p.law σ with hL | hR
    · rw [hL, hL]; exact hg σ
    · rw [hR, hR]; exact decT_bind hg hl.2

theorem decR_bind {g : (α : Type) → (Exit → St → Option α) → List (List Value) → St → Option α} {K : Exit → St → Option α} {xs : List (List Value)} {gg : α → Option β} {σ : St} {r : Option α} (hg : ∀ σ, (g α K xs σ).bind gg = g β (fun e σ => (K e σ).bind gg) xs σ) :
    ∀ {l : List MarkR}, AllM l (fun m => ∀ (α : Type) (K : Exit → St → Option α) (ys : List m.x.X), m.F α K ys = m.p.unc (g α K (ys.map m.x.ex))) → (decR K xs σ r l).bind gg = decR (fun e σ => (K e σ).bind gg) xs σ (r.bind gg) l
  | [], _ => rfl
  | m :: l, hl => by
    simp only [decR]
    rcases m.p.law σ with hL | hR
    · rw [hL]
      simp only [xK]
      split
      · rename_i ys hy
        have hxs := decL_ex hy
        simp only [decK]
        rw [hl.1 α K, hl.1 β, ← hxs, hL, hL]
        exact hg σ
      · rfl
    · rw [hR]; exact decR_bind hg hl.2

theorem loopK_T {f : (Exit → St → Option α) → St → Option α} {td : Option Tidy} {Q : Exit → St → Option α} : ∀ n σ, loopK f td Q n σ = tidyK td σ (loopT f td Q n)
  | 0, σ => by unfold tidyK; split <;> rfl
  | n + 1, σ => by
    have : loopK f td Q n = fun σ => tidyK td σ (loopT f td Q n) := funext (loopK_T n)
    simp only [loopK, this]
    rfl

theorem runM_le (hE : E.Nat') : ∀ (c : MCode), c.Good P E sh → ∀ {α : Type} {K : Exit → St → Option α} {σ : St} {a : α}, runM P E sh c K σ = some a → runK P E sh c.erase K σ = some a := by
  have mono : ∀ (c : ACode) {α : Type} {K K' : Exit → St → Option α} {σ : St} {a : α}, (∀ e σ, K e σ = some a → K' e σ = some a) → runK P E sh c K σ = some a → runK P E sh c K' σ = some a := by
    intro c α K K' σ a hK h
    have h1 := runK_bind (g := (some : Exit × St → Option (Exit × St))) hE c (K := fun e σ => some (e, σ)) (σ := σ) (P := P) (sh := sh)
    have h2 := runK_bind (g := fun p : Exit × St => K p.1 p.2) hE c (K := fun e σ => some (e, σ)) (σ := σ) (P := P) (sh := sh)
    have h3 := runK_bind (g := fun p : Exit × St => K' p.1 p.2) hE c (K := fun e σ => some (e, σ)) (σ := σ) (P := P) (sh := sh)
    simp only [Option.bind_some] at h2 h3
    rw [← h2] at h
    rw [← h3]
    obtain ⟨p, hp, hk⟩ := Option.bind_eq_some_iff.1 h
    rw [hp]
    exact hK _ _ hk
  intro c
  induction c with
  | skip => intro _ α K σ a h; exact h
  | ret => intro _ α K σ a h; exact h
  | exit id => intro _ α K σ a h; exact h
  | region ops prs td => intro _ α K σ a h; exact h
  | seq x y ihx ihy =>
    intro hg α K σ a h
    simp only [runM] at h
    have h1 := ihx hg.1 h
    simp only [MCode.erase, runK]
    refine mono x.erase (fun e σ hs => ?_) h1
    cases e with
    | normal => exact ihy hg.2 hs
    | ret => exact hs
    | exit id => exact hs
    | _ => cases hs
  | cond c x y ihx ihy =>
    intro hg α K σ a h
    simp only [runM, boolK] at h
    simp only [MCode.erase, runK, boolK]
    split at h
    · rename_i b hb
      cases b with
      | true => exact ihx hg.1 h
      | false => exact ihy hg.2 h
    · cases h
  | block id b ih => intro hg α K σ a h; exact ih hg h
  | mark l c ih =>
    intro hg α K σ a h
    simp only [runM] at h
    rcases decT_some (g := fun α K => runM P E sh c K) hg.2 h with h | h <;> exact ih hg.1 h
  | loop td l b ih =>
    intro hg α K σ a h
    simp only [runM, tidyK] at h
    simp only [MCode.erase, runK]
    rw [loopK_T]
    unfold tidyK
    split at h
    · rename_i σ1 h1
      have h2 := (decT_some (g := fun α K => loopT (runM P E sh b) td K fuel) hg.2 h).resolve_right nofun
      have key : ∀ n σ, loopT (runM P E sh b) td K n σ = some a → loopT (runK P E sh b.erase) td K n σ = some a := by
        intro n
        induction n with
        | zero => intro σ h; cases h
        | succ n ihn =>
          intro σ h
          refine mono _ (fun e σ hs => ?_) (ih hg.1 h)
          cases e with
          | normal =>
            simp only [thenK, tidyK] at hs ⊢
            split at hs
            · rename_i σ' h'; exact ihn _ hs
            · cases hs
          | ret => exact hs
          | exit id => exact hs
          | _ => cases hs
      exact key _ _ h2
    · cases h
  | rangeF g ps td l x y ihx ihy =>
    intro hg α K σ a h
    simp only [runM, listK] at h
    simp only [MCode.erase, runK, listK]
    split at h
    · rename_i xs hxs
      have h2 := (decR_some (g := fun α K xs => roundsK (runM P E sh x) (runM P E sh y) ps td K xs) hg.2 h).resolve_right nofun
      have key : ∀ xs σ, roundsK (runM P E sh x) (runM P E sh y) ps td K xs σ = some a → roundsK (runK P E sh x.erase) (runK P E sh y.erase) ps td K xs σ = some a := by
        intro xs
        induction xs with
        | nil => intro σ h; exact h
        | cons v xs ihn =>
          intro σ h
          simp only [roundsK] at h ⊢
          split at h
          · rename_i hl
            rw [if_pos hl]
            refine mono _ (fun e σ hs => ?_) (ihx hg.1.1 h)
            cases e with
            | normal =>
              refine mono _ (fun e σ hs => ?_) (ihy hg.1.2 hs)
              cases e with
              | normal =>
                simp only [roundK, tidyK] at hs ⊢
                split at hs
                · exact ihn _ hs
                · cases hs
              | ret => exact hs
              | exit id => exact hs
              | _ => cases hs
            | ret => exact hs
            | exit id => exact hs
            | _ => cases hs
          · cases h
      exact key _ _ h2
    · cases h

theorem runM_bind (hE : E.Nat') : ∀ (c : MCode), c.Good P E sh → ∀ {α β : Type} {g : α → Option β} {K : Exit → St → Option α} {σ : St}, (runM P E sh c K σ).bind g = runM P E sh c (fun e σ => (K e σ).bind g) σ := by
  intro c
  induction c with
  | skip => intro _ α β g K σ; rfl
  | ret => intro _ α β g K σ; rfl
  | exit id => intro _ α β g K σ; rfl
  | region ops prs td => intro _ α β g K σ; simp only [runM]; rw [regionK_bind hE]; congr 1; funext σ; exact tidyK_bind
  | seq x y ihx ihy => intro hg α β g K σ; simp only [runM]; rw [ihx hg.1, thenK_bind]; congr 2; funext σ; exact ihy hg.2
  | cond c x y ihx ihy =>
    intro hg α β g K σ
    simp only [runM, boolK]
    split
    · rw [cK_bind, ihx hg.1, ihy hg.2]
    · rfl
  | block id b ih => intro hg α β g K σ; simp only [runM]; rw [ih hg, blockK_bind]
  | mark l c ih =>
    intro hg α β g K σ
    simp only [runM]
    rw [decT_bind (g := fun α K => runM P E sh c K) (fun σ => ih hg.1) hg.2, ih hg.1]
  | loop td l b ih =>
    intro hg α β g K σ
    simp only [runM]
    rw [tidyK_bind]
    congr 1
    funext σ
    refine (decT_bind (r := none) (g := fun α K => loopT (runM P E sh b) td K fuel) (fun σ => ?_) hg.2).trans rfl
    have key : ∀ n σ, (loopT (runM P E sh b) td K n σ).bind g = loopT (runM P E sh b) td (fun e σ => (K e σ).bind g) n σ := by
      intro n
      induction n with
      | zero => intro σ; rfl
      | succ n ihn =>
        intro σ
        simp only [loopT]
        rw [ih hg.1, thenK_bind]
        congr 2
        funext σ
        rw [tidyK_bind]
        congr 1
        funext σ
        exact ihn σ
    exact key fuel σ
  | rangeF gg ps td l x y ihx ihy =>
    intro hg α β g K σ
    simp only [runM, listK]
    split
    · rename_i xs hxs
      refine (decR_bind (r := none) (g := fun α K xs => roundsK (runM P E sh x) (runM P E sh y) ps td K xs) (fun σ => ?_) hg.2).trans rfl
      have key : ∀ xs σ, (roundsK (runM P E sh x) (runM P E sh y) ps td K xs σ).bind g = roundsK (runM P E sh x) (runM P E sh y) ps td (fun e σ => (K e σ).bind g) xs σ := by
        intro xs
        induction xs with
        | nil => intro σ; rfl
        | cons v xs ihn =>
          intro σ
          simp only [roundsK]
          rw [ite_bind, ihx hg.1.1, thenK_bind]
          congr 3
          funext σ
          rw [ihy hg.1.2]
          congr 1
          funext e σ
          cases e with
          | normal => simp only [roundK]; rw [tidyK_bind]; congr 1; funext σ; exact ihn σ
          | _ => rfl
      exact key xs σ
    · rfl

/-! ### A function -/

def fnM (P : Program) (E : EnvK) (sh : List (Nat × List Sh)) (c : MCode) (rs : List AResV) (k : List RV → Option α) (ds : List DV) : Option α := runM P E sh c (retK rs k) (initS ds)

def callM (p : PT (List DV)) (f : p.Cur (Option α)) (ds : List DV) (r : Option α) : Option α := match p.dec ds f with | some o => o | none => r

/-- A function as functions of the holes of its arguments: one for each pattern. -/
def callsM (k : List RV → Option α) (ds : List DV) : List (Sigma fun p : PT (List DV) => (α : Type) → (List RV → Option α) → p.Cur (Option α)) → Option α
  | [] => none
  | x :: r => callM x.1 (x.2 α k) ds (callsM k ds r)

theorem AllM.mem {X : Type 1} {p : X → Prop} : ∀ {l : List X}, AllM l p → ∀ x ∈ l, p x
  | y :: r, h, x, hx => by
    rcases List.mem_cons.1 hx with h1 | h1
    · subst h1; exact h.1
    · exact AllM.mem h.2 x h1

structure FnGood (P : Program) (E : EnvK) (rs : List AResV) (ac : ACode) (x : Sigma fun p : PT (List DV) => (α : Type) → (List RV → Option α) → p.Cur (Option α)) : Prop where
  ex : ∃ (sh : List (Nat × List Sh)) (c : MCode), c.erase = ac ∧ c.Good P E sh ∧ ∀ (α : Type) (k : List RV → Option α), x.2 α k = x.1.unc fun ds => fnM P E sh c rs k ds

abbrev Inst : Type 1 := Sigma fun p : PT (List DV) => (α : Type) → (List RV → Option α) → p.Cur (Option α)

/-- A function at some shape of its arguments: what it computes is what a call comes to. -/
structure InstOk (P : Program) (f nt : Nat) (x : Inst) : Prop where
  nat : ∀ (α β : Type) (k : List RV → Option α) (g : α → Option β) (ds : List DV), (∃ r, x.1.dec ds (x.2 α k) = some r ∧ x.1.dec ds (x.2 β fun r => (k r).bind g) = some (r.bind g)) ∨ (x.1.dec ds (x.2 α k) = none ∧ x.1.dec ds (x.2 β fun r => (k r).bind g) = none)
  ok : ∀ (ds : List DV) (res : List RV), ds.length ≤ nt → x.1.dec ds (x.2 _ some) = some (some res) → Contract P f ds res ∧ Bodied P f

theorem inst_ok (hE : E.Ok P) (hm : P.follows .mixedOrders = true) {f : FuncId} {nt : Nat} {tr tl : List (Nat × Tidy)} {ac : ACode} {rs : List AResV} (hf : FnIs P f nt tr tl ac rs) {x : Inst} (hx : FnGood P E rs ac x) : InstOk P f nt x := by
  obtain ⟨sh, c, h1, h2, h3⟩ := hx.ex
  refine ⟨fun α β k g ds => ?_, fun ds res hn h => ?_⟩
  · rcases x.1.law ds with hL | hR
    · refine .inl ⟨fnM P E sh c rs k ds, ?_, ?_⟩
      · rw [h3, hL]
      · rw [h3, hL]
        simp only [fnM]
        rw [runM_bind hE.nat c h2, retK_bind]
    · exact .inr ⟨hR _ _, hR _ _⟩
  · rw [h3] at h
    rcases x.1.law ds with hL | hR
    · rw [hL] at h
      simp only [Option.some.injEq, fnM] at h
      have := runM_le hE.nat c h2 h
      rw [h1] at this
      exact fnK_contract (sh := sh) hE hm hf hn this
    · rw [hR] at h; cases h

/-- A function whose calls are known otherwise. -/
theorem inst_of {f nt : Nat} {x : Inst} {r : List DV → Option (List RV)} (h : ∀ (α : Type) (k : List RV → Option α), x.2 α k = x.1.unc fun ds => (r ds).bind k) (hc : ∀ ds res, r ds = some res → Contract P f ds res ∧ Bodied P f) : InstOk P f nt x := by
  refine ⟨fun α β k g ds => ?_, fun ds res _ hr => ?_⟩
  · rw [h, h]
    rcases x.1.law ds with hL | hR
    · refine .inl ⟨(r ds).bind k, hL _ _, ?_⟩
      rw [hL]
      cases r ds <;> rfl
    · exact .inr ⟨hR _ _, hR _ _⟩
  · rw [h] at hr
    rcases x.1.law ds with hL | hR
    · rw [hL] at hr
      simp only [Option.some.injEq] at hr
      refine hc ds res ?_
      cases hq : r ds with
      | none => rw [hq] at hr; cases hr
      | some y => rw [hq] at hr; exact hr
    · rw [hR] at hr; cases hr

structure CallRow : Type 1 where
  f : Nat
  nt : Nat
  l : List Inst

def callE (k : List RV → Option α) (f : Nat) (ds : List DV) : List CallRow → Option α
  | [] => none
  | c :: r => if c.f = f then (if ds.length ≤ c.nt then callsM k ds c.l else none) else callE k f ds r

/-- An environment of these functions. -/
def EnvK.of (l : List CallRow) (sq : Nat → List DC → Option (List (List Value))) : EnvK := ⟨fun _ f ds k => callE k f ds l, sq⟩

theorem EnvK.of_ok {sq : Nat → List DC → Option (List (List Value))} (hs : ∀ f caps xs, sq f caps = some xs → IterOk P f caps xs ∧ Bodied P f) {l : List CallRow} (h : AllM l fun c => AllM c.l (InstOk P c.f c.nt)) : (EnvK.of l sq).Ok P := by
  have hN : ∀ {f nt : Nat} (l : List Inst), AllM l (InstOk P f nt) → ∀ (α β : Type) (ds : List DV) (k : List RV → Option α) (g : α → Option β), (callsM k ds l).bind g = callsM (fun r => (k r).bind g) ds l := by
    intro f nt l
    induction l with
    | nil => intro _ α β ds k g; rfl
    | cons x r ih =>
      intro hl α β ds k g
      simp only [callsM, callM]
      rcases hl.1.nat α β k g ds with ⟨r', h1, h2⟩ | ⟨h1, h2⟩
      · rw [h1, h2]
      · rw [h1, h2]; exact ih hl.2 α β ds k g
  have hC : ∀ {f nt : Nat} (l : List Inst), AllM l (InstOk P f nt) → ∀ (ds : List DV) (res : List RV), ds.length ≤ nt → callsM some ds l = some res → Contract P f ds res ∧ Bodied P f := by
    intro f nt l
    induction l with
    | nil => intro _ ds res hn h; cases h
    | cons x r ih =>
      intro hl ds res hn h
      simp only [callsM, callM] at h
      split at h
      · rename_i o ho; subst h; exact hl.1.ok ds res hn ho
      · exact ih hl.2 ds res hn h
  refine ⟨fun α β f ds k g => ?_, fun f ds res hg => ?_, hs⟩
  · simp only [EnvK.of]
    induction l with
    | nil => rfl
    | cons c r ih =>
      simp only [callE]
      split
      · split
        · exact hN _ h.1 α β ds k g
        · rfl
      · exact ih h.2
  · simp only [EnvK.env, EnvK.of] at hg
    induction l with
    | nil => cases hg
    | cons c r ih =>
      simp only [callE] at hg
      split at hg
      · rename_i he
        subst he
        split at hg
        · rename_i hn; exact hC _ h.1 ds res hn hg
        · cases hg
      · exact ih h.2 hg

/-- Iterators by functions of what they hold. -/
structure SeqRow : Type 1 where
  f : Nat
  p : PT (List DC)
  F : p.Cur (Option (List (List Value)))
def seqE : List SeqRow → Nat → List DC → Option (List (List Value))
  | [], _, _ => none
  | c :: r, f, caps => if c.f = f then (match c.p.dec caps c.F with | some o => o | none => none) else seqE r f caps
def SeqOk (P : Program) (c : SeqRow) : Prop := ∀ caps xs, c.p.dec caps c.F = some (some xs) → IterOk P c.f caps xs ∧ Bodied P c.f
theorem seqE_ok : ∀ {l : List SeqRow}, AllM l (SeqOk P) → ∀ f caps xs, seqE l f caps = some xs → IterOk P f caps xs ∧ Bodied P f
  | [], _, f, caps, xs, h => by cases h
  | c :: r, hl, f, caps, xs, h => by
    simp only [seqE] at h
    split at h
    · rename_i hf
      subst hf
      split at h
      · rename_i o ho; subst h; exact hl.1 caps xs ho
      · cases h
    · exact seqE_ok hl.2 f caps xs h
def noSeq : Nat → List DC → Option (List (List Value)) := fun _ _ => none
theorem noSeq_ok : ∀ f caps xs, noSeq f caps = some xs → IterOk P f caps xs ∧ Bodied P f := fun _ _ _ h => nomatch h

end Go.AM
