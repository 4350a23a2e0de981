/- The abstract machine: steps, and regions in the order of the text. -/
import Derived.Test.YtcidonjhifjpaaaAM19
import Derived.OrdersIn
import Derived.RangeFuncFrom
import Derived.RangeFuncLeaves
namespace Go.AM
open Go.RowKit

def noSelB : AOp → Bool
  | .pure o => match o.op with
    | .select _ _ => false
    | _ => true
  | _ => true

theorem noSel_of {ao : AOp} (h : noSelB ao = true) : noSel ao := by
  cases ao <;> try trivial
  case pure o =>
    intro cs b hc
    simp [noSelB, hc] at h

def guardOf (ops : Array Oper) : Option (Nat × Bool) → Option (Option (Nat × Bool))
  | none => some none
  | some (j, want) => ((ops[j]?).bind (·.dst)).map fun t => some (t, want)

def dstOk (nt : Nat) : Option Nat → Bool
  | none => true
  | some d => decide (d < nt)

/-- An operation without what its value does not hang on. -/
def bareO (o : Oper) : Oper := { dst := none, op := o.op, type := o.type, pos := "", after := #[], guard := none }

theorem execOp_bare {ρ : Operand → Value} {o : Oper} : execOp ρ (bareO o) = execOp ρ o := rfl

theorem eff_bare {P : Program} {E : Env} {T : Tab} {ρ : Operand → AV} {dst : Nat} {o : Oper} : eff P E T ρ dst (.pure (bareO o)) = eff P E T ρ dst (.pure o) := rfl

/-- A slice of an own slice may be taken as the slice itself from now on. -/
def moved (mvs : List Nat) (dst : Option Nat) : AOp → AOp
  | .slice s b x lo hi => match dst with
    | some d => if mvs.any fun m => m == d then .slice s true x lo hi else if mvs.any fun m => m == d + 100000 then .view s x lo hi else .slice s b x lo hi
    | none => .slice s b x lo hi
  | .pure o => .pure (bareO o)
  | op => op

def compileO (P : Program) (mvs : List Nat) (nt : Nat) (ops : Array Oper) (o : Oper) : Option AOper :=
  match guardOf ops o.guard with
  | some gd =>
    let op := moved mvs o.dst ((compileOp P o).getD .bad)
    if dstOk nt o.dst && noSelB op then some ⟨o.dst, op, gd⟩ else none
  | none => none

/-- An operation of the machine stands for one of the program's. -/
def Compiled (P : Program) (o : Oper) (ao : AOp) : Prop :=
  ao = .bad ∨ compileOp P o = some ao ∨ (∃ s b x lo hi, compileOp P o = some (.slice s b x lo hi) ∧ (ao = .slice s true x lo hi ∨ ao = .view s x lo hi)) ∨ ∃ o', compileOp P o = some (.pure o') ∧ ao = .pure (bareO o')

/-- Is the operation wanted? -/
def wantA (tmps : List (Nat × AV)) : Option (Nat × Bool) → Option Bool
  | none => some true
  | some (t, b) => match aget tmps t with
    | some (.val false [.d (.v (.bool x))]) => some (if b then x else !x)
    | some (.val false [.und]) => some false
    | _ => none

def putT (tmps : List (Nat × AV)) (dst : Option Nat) (y : AV) : List (Nat × AV) :=
  match dst with
  | some d => (d, y) :: tmps
  | none => tmps

/-- What an operation comes to. -/
def outA (P : Program) (E : Env) (ao : AOper) (σ : St) : Option (AV × List (Nat × Entry)) :=
  match wantA σ.tmps ao.guard with
  | some true => eff P E σ.tab (evO σ.tmps) (ao.dst.getD 9999) ao.op
  | some false => some (.val false [.und], [])
  | none => none

def applyA (σ : St) (dst : Option Nat) (y : AV) (es : List (Nat × Entry)) : St := ⟨putT σ.tmps dst y, aputs σ.tab es, σ.sv⟩

def stepA (P : Program) (E : Env) (ao : AOper) (σ : St) : Option St :=
  match outA P E ao σ with
  | some (y, es) => some (applyA σ ao.dst y es)
  | none => none

/-- The blocks that a run may write. -/
def owned (g : Gh) (T : Tab) : Nat → Prop := fun b => ∃ n, live T n ∧ g.blk n = some b

section
variable {w0 : Base} {N0 : Nat → Prop} {g g' : Gh} {T T' : Tab} {w w' : World}

/-- A run may be taken as beginning here. -/
theorem Mem.rebase (hM : Mem w0 N0 g T w) : Mem ⟨w, owned g T⟩ N0 g T w :=
  ⟨.refl, hM.ents, hM.inj, fun n b h1 h2 => ⟨.inr ⟨n, h1, h2⟩, (hM.rng n b h1 h2).2⟩, fun b hb => ⟨Nat.lt_of_lt_of_le (hM.n0 b hb).1 hM.below.size, fun ⟨n, h1, h2⟩ => by
    have h3 := hM.n0 b hb
    exact (hM.rng n b h1 h2).1.elim (fun h => by omega) h3.2⟩⟩

theorem Mem.unbase' (hM : Mem w0 N0 g T w) {O : Nat → Prop} (hO : ∀ b, O b → owned g T b ∨ w0.w.heap.size ≤ b) (h : Mem ⟨w, O⟩ N0 g' T' w') : Mem w0 N0 g' T' w' :=
  ⟨hM.below.trans ⟨h.below.os, h.below.tape, h.below.output, h.below.size, fun k hk ho => h.below.block k (Nat.lt_of_lt_of_le hk hM.below.size) fun hk' => by
      rcases hO k hk' with ⟨n, h1, h2⟩ | h1
      · exact (hM.rng n k h1 h2).1.elim (fun h => by omega) ho
      · omega⟩,
    h.ents, h.inj, fun n b h1 h2 => ⟨(h.rng n b h1 h2).1.elim (fun hh => .inl (Nat.le_trans hM.below.size hh)) fun hh => by
      rcases hO b hh with ⟨m, h3, h4⟩ | h3
      · exact (hM.rng m b h3 h4).1
      · exact .inl h3, (h.rng n b h1 h2).2⟩, hM.n0⟩

theorem Mem.unbase (hM : Mem w0 N0 g T w) (h : Mem ⟨w, owned g T⟩ N0 g' T' w') : Mem w0 N0 g' T' w' :=
  ⟨hM.below.trans ⟨h.below.os, h.below.tape, h.below.output, h.below.size, fun k hk ho => h.below.block k (Nat.lt_of_lt_of_le hk hM.below.size) fun ⟨n, h1, h2⟩ =>
      (hM.rng n k h1 h2).1.elim (fun h => by omega) ho⟩,
    h.ents, h.inj, fun n b h1 h2 => ⟨(h.rng n b h1 h2).1.elim (fun hh => .inl (Nat.le_trans hM.below.size hh)) fun ⟨m, h3, h4⟩ => (hM.rng m b h3 h4).1, (h.rng n b h1 h2).2⟩, hM.n0⟩

/-- What is no cells is nobody's. -/
theorem Mem.not_owned (hM : Mem w0 N0 g T w) {b : Nat} {o : Obj} (hb : w.heap[b]? = some o) (ho : o.isCells = false) : ¬ owned g T b := by
  rintro ⟨n, h1, h2⟩
  unfold live at h1
  cases he : aget T n with
  | none => rw [he] at h1; exact h1
  | some e =>
    rw [he] at h1
    have h0 := hM.ents n e he
    cases e with
    | box cs =>
      obtain ⟨b', cells, t, k1, k2, _⟩ := h0
      rw [h2] at k1
      simp only [Option.some.injEq] at k1
      subst k1
      rw [hb] at k2
      simp only [Option.some.injEq] at k2
      subst k2
      simp [Obj.isCells] at ho
    | own sz rows =>
      rcases h0.1 with ⟨_, _, k⟩ | ⟨b', off, cap, cells, t, fz, k1, _, k2, _⟩
      · rw [h2] at k; cases k
      · rw [h2] at k1
        simp only [Option.some.injEq] at k1
        subst k1
        rw [hb] at k2
        simp only [Option.some.injEq] at k2
        subst k2
        simp [Obj.isCells] at ho
    | imm rows => exact h1
    | dead => exact h1

/-- What is no cells lies as it lay. -/
theorem Mem.others (hM : Mem w0 N0 g T w) (h : Mem ⟨w, owned g T⟩ N0 g' T' w') {b : Nat} {o : Obj} (hb : w.heap[b]? = some o) (ho : o.isCells = false) : w'.heap[b]? = some o := by
  have hlt : b < w.heap.size := (Array.getElem?_eq_some_iff.1 hb).1
  rw [h.below.block b hlt (hM.not_owned hb ho), hb]

theorem DRel.cells {N N' : Nat → Prop} (hs : w.heap.size ≤ w'.heap.size) (hh : ∀ (b o : Nat) (c : Value), w.cell? ⟨b, o, none⟩ = some c → w'.cell? ⟨b, o, none⟩ = some c)
    (hn : ∀ b, b < w.heap.size → N' b → N b) {d : DC} {v : Value} (h : DRel w N d v) : DRel w' N' d v := by
  induction h with
  | v h => exact .v h
  | nil => exact .nil
  | @sl rows b off cap sz f hne hN hb hsz hl hcap hc hd ih =>
    exact .sl f hne (fun h => hN (hn _ hb h)) (Nat.lt_of_lt_of_le hb hs) hsz hl hcap (fun i j hi hj => hh _ _ _ (hc i j hi hj)) ih
  | fn hl hd ih => exact .fn hl ih
  | cref f hN hb hc hd ih => exact .cref f (fun h => hN (hn _ hb h)) (Nat.lt_of_lt_of_le hb hs) (fun j hj => hh _ _ _ (hc j hj)) ih

/-- A block that is no cells is turned. -/
theorem Mem.putObj (hM : Mem w0 N0 g T w) {l : Nat} {o o' : Obj} (hl : w.heap[l]? = some o) (ho : o.isCells = false) (hown : w0.w.heap.size ≤ l ∨ w0.own l) : Mem w0 N0 g T (w.putObj l o') ∧ Keeps N0 g T w g T (w.putObj l o') := by
  have hcell : ∀ (b o : Nat) (c : Value), w.cell? ⟨b, o, none⟩ = some c → (w.putObj l o').cell? ⟨b, o, none⟩ = some c := by
    intro b k c hc
    by_cases hb : b = l
    · subst hb
      simp only [World.cell?, hl] at hc
      cases o <;> simp_all [Obj.isCells]
    · simpa [World.cell?, World.putObj_heap_other hb] using hc
  have hK : Keeps N0 g T w g T (w.putObj l o') := ⟨fun d v h => h.cells (by simp) hcell (fun _ _ h => h), fun _ h => h, fun _ _ => ⟨rfl, rfl, rfl⟩⟩
  have hno := hM.not_owned hl ho
  refine ⟨hM.upd ⟨rfl, rfl, rfl, by simp, fun k hk hk' => World.putObj_heap_other fun e => ?_⟩ hK (fun m e he => .inl ⟨he, fun b hlv hb => World.putObj_heap_other fun e => hno ⟨m, hlv, e ▸ hb⟩⟩) hM.inj (fun n b h1 h2 => by simpa using hM.rng n b h1 h2), hK⟩
  subst e
  rcases hown with h | h
  · omega
  · exact hk' h

/-- New memory of others. -/
theorem Mem.grow (hM : Mem w0 N0 g T w) (h : Below w.heap.size w w') : Mem w0 N0 g T w' ∧ Keeps N0 g T w g T w' := by
  have hK : Keeps N0 g T w g T w' := Keeps.of h.size (fun b hb _ => h.block b hb) (fun _ _ h => h) (fun _ h => h) fun _ _ => ⟨rfl, rfl, rfl⟩
  exact ⟨hM.upd (.of h hM.below.size) hK (fun m e he => .inl ⟨he, fun b hlv hb => h.block b (hM.rng m b hlv hb).2⟩) hM.inj (fun n b h1 h2 => ⟨(hM.rng n b h1 h2).1, Nat.lt_of_lt_of_le (hM.rng n b h1 h2).2 h.size⟩), hK⟩
end

/-- The marks of loops over functions among the deferred calls. -/
def Marks (w0 : Base) (svv : Array Value) (l : List Deferred) (w : World) : Prop :=
  l.Nodup ∧ (0 < svv.size → l = []) ∧ ∀ d ∈ l, ∃ D, d = { target := .collected D, args := #[] } ∧ w0.w.heap.size ≤ D ∧ w.heap[D]? = some (.deferred (some []))

/-- A state against a frame and a world. -/
def Rel (w0 : Base) (N0 : Nat → Prop) (nt : Nat) (svv : Array Value) (σ : St) (a : Act) (w : World) : Prop :=
  ∃ g, Mem w0 N0 g σ.tab w ∧ SRel w (avoid N0 g σ.tab) g σ.tab σ.tmps a.tmps ∧ a.tmps.size = nt ∧ Marks w0 svv a.defers w ∧ SRel w (avoid N0 g σ.tab) g σ.tab σ.sv svv

variable {P : Program} {E : Env} {w0 : Base} {w w' : World} {N0 : Nat → Prop} {g g' : Gh} {T T' : Tab} {r : Option Nat} {n nt : Nat} {mvs : List Nat} {svv : Array Value} {o : Oper} {a : Act} {σ σ' : St} {ops : Array Oper}
  {ao : AOper} {y : AV} {es : List (Nat × Entry)}

theorem Marks.mono {l : List Deferred} (h : Marks w0 svv l w) (hk : ∀ (b : Nat) (o : Obj), w.heap[b]? = some o → o.isCells = false → w'.heap[b]? = some o) : Marks w0 svv l w' :=
  ⟨h.1, h.2.1, fun d hd => by obtain ⟨D, h1, h2, h3⟩ := h.2.2 d hd; exact ⟨D, h1, h2, hk _ _ h3 rfl⟩⟩

theorem SRel.put {tmps : List (Nat × AV)} {vals : Array Value} {N : Nat → Prop} (h : SRel w N g T tmps vals) {d : Nat} {y : AV} {v : Value} (hd : d < vals.size) (hv : AVRel w N g T y v) :
    SRel w N g T ((d, y) :: tmps) (vals.setIfInBounds d v) := by
  intro t x hx
  simp only [aget] at hx
  split at hx
  · rename_i ht
    simp only [Option.some.injEq] at hx
    subst hx; subst ht
    simpa [Array.getD, hd] using hv
  · rename_i ht
    have := h t x hx
    rw [Array.getD_eq_getD_getElem?, Array.getElem?_setIfInBounds_ne ht, ← Array.getD_eq_getD_getElem?]
    exact this

theorem Rel.put (hM : Mem w0 N0 g T w) (hs : SRel w (avoid N0 g T) g T σ.tmps a.tmps) (hsz : a.tmps.size = nt) (hds : Marks w0 svv a.defers w) {dst : Option Nat} (hd : dstOk nt dst = true) {y : AV} {v : Value}
    (hv : AVRel w (avoid N0 g T) g T y v) (hs2 : SRel w (avoid N0 g T) g T σ.sv svv) : Rel w0 N0 nt svv ⟨putT σ.tmps dst y, T, σ.sv⟩ (a.put dst v) w := by
  cases dst with
  | none => exact ⟨g, hM, hs, hsz, hds, hs2⟩
  | some d =>
    simp only [dstOk, decide_eq_true_eq] at hd
    exact ⟨g, hM, hs.put (by omega) hv, by simpa [Act.put] using hsz, hds, hs2⟩

theorem moved_compiled {mvs : List Nat} {dst : Option Nat} {o : Oper} : Compiled P o (moved mvs dst ((compileOp P o).getD .bad)) := by
  cases hc : compileOp P o with
  | none => exact .inl rfl
  | some op =>
    simp only [Option.getD_some]
    unfold moved
    split
    · split
      · split
        · exact .inr (.inr (.inl ⟨_, _, _, _, _, hc, .inl rfl⟩))
        · split
          · exact .inr (.inr (.inl ⟨_, _, _, _, _, hc, .inr rfl⟩))
          · exact .inr (.inl hc)
      · exact .inr (.inl hc)
    · exact .inr (.inr (.inr ⟨_, hc, rfl⟩))
    · exact .inr (.inl hc)

theorem compileO_spec (h : compileO P mvs nt ops o = some ao) : Compiled P o ao.op ∧ guardOf ops o.guard = some ao.guard ∧ dstOk nt o.dst = true ∧ ao.dst = o.dst ∧ noSelB ao.op = true := by
  unfold compileO at h
  split at h
  · rename_i gd h2
    simp only [] at h
    split at h
    · rename_i h3
      simp only [Bool.and_eq_true] at h3
      simp only [Option.some.injEq] at h
      subst h
      exact ⟨moved_compiled, h2, h3.1, rfl, h3.2⟩
    · cases h
  · cases h

theorem compile_slice {s : Nat} {b : Bool} {x : Operand} {lo hi : Option Operand} (h : compileOp P o = some (.slice s b x lo hi)) :
    ∃ t e, o.op = .slice t x lo hi none ∧ P.underlying t = some (.slice e) ∧ sizeT P e = some s := by
  cases ho : o.op
  case slice t y l u mx =>
    cases mx with
    | some m => simp [compileOp, ho] at h
    | none =>
      simp only [compileOp, ho] at h
      split at h
      · rename_i e hu
        simp only [Option.map_eq_some_iff, AOp.slice.injEq] at h
        obtain ⟨s', h1, rfl, _, rfl, rfl, rfl⟩ := h
        exact ⟨t, e, rfl, hu, h1⟩
      · simp at h
      · cases h
  case call c =>
    exfalso
    simp only [compileOp, ho] at h
    unfold compileCall at h
    repeat' split at h
    all_goals simp at h
  all_goals (exfalso; simp only [compileOp, ho] at h)
  case makeFunc fn first caps => cases fn <;> simp at h <;> split at h <;> simp at h
  case build t ps =>
    repeat' split at h
    all_goals (try (simp at h; done))
    all_goals (simp only [Option.map_eq_some_iff, Option.bind_eq_some_iff] at h; obtain ⟨_, _, _, _, h⟩ := h; cases h)
  all_goals (repeat' split at h)
  all_goals (try (simp at h; done))
  all_goals (try (simp only [Option.map_eq_some_iff] at h; obtain ⟨_, _, h⟩ := h; cases h))

theorem effC_ok {ρ : Operand → AV} {dst : Nat} (hE : EnvOk P E) (hM : Mem w0 N0 g T w) (hρ : ∀ x, AVRel w (avoid N0 g T) g T (ρ x) (a.eval x)) {aop : AOp} (hc : Compiled P o aop)
    (he : eff P E T ρ dst aop = some (y, es)) : OpOk r n P o a w (Res w0 N0 g T w y es) := by
  rcases hc with rfl | hc | ⟨s, b, x, lo, hi, hc, rfl | rfl⟩ | ⟨o', hc, rfl⟩
  · cases he
  · exact eff_ok hE hM hρ hc he
  · obtain ⟨t, e, h1, h2, h3⟩ := compile_slice hc
    exact ok_slice hM hρ h1 h2 h3 he
  · obtain ⟨t, e, h1, h2, h3⟩ := compile_slice hc
    exact ok_view hM hρ h1 h2 h3 he
  · exact eff_ok hE hM hρ hc (by rw [← eff_bare]; exact he)

theorem wantA_rel {tmps : List (Nat × AV)} (hs : SRel w (avoid N0 g T) g T tmps a.tmps) (hsz : a.tmps.size = nt) (hnt : ∀ d, ((∃ j : Nat, ((ops[j]?).bind (·.dst)) = some d) → d < nt)) {og : Option (Nat × Bool)} {gd : Option (Nat × Bool)}
    (hg : guardOf ops og = some gd) {b : Bool} (hw : wantA tmps gd = some b) {o : Oper} (ho : o.guard = og) : Region.wanted o (yielded ops a.tmps) = b := by
  unfold Region.wanted
  rw [ho]
  cases og with
  | none =>
    simp only [guardOf, Option.some.injEq] at hg
    subst hg
    simp only [wantA, Option.some.injEq] at hw
    exact hw
  | some p =>
    obtain ⟨j, want⟩ := p
    simp only [guardOf, Option.map_eq_some_iff] at hg
    obtain ⟨t, ht, rfl⟩ := hg
    have htn := hnt t ⟨j, ht⟩
    have hget : a.tmps[t]? = some (a.tmps.getD t undef) := by simp [Array.getD, hsz, htn]
    simp only [yielded, ht, Option.bind_some, hget]
    simp only [wantA] at hw
    split at hw
    · rename_i x hx
      simp only [Option.some.injEq] at hw
      obtain ⟨c, h1, h2⟩ := hs t _ hx
      simp only [List.cons.injEq, and_true] at h1
      subst h1
      rw [(dv_rel h2).1, ← hw]
      cases x <;> cases want <;> simp
    · rename_i hx
      simp only [Option.some.injEq] at hw
      obtain ⟨c, h1, h2⟩ := hs t _ hx
      simp only [List.cons.injEq, and_true] at h1
      subst h1
      rw [show a.tmps.getD t undef = undef from h2, ← hw]
      simp [undef]
    · cases hw

def dstsOk (nt : Nat) (ops : Array Oper) : Bool := ops.toList.all fun o => dstOk nt o.dst

theorem dstsOk_spec (h : dstsOk nt ops = true) : ∀ d, ((∃ j : Nat, ((ops[j]?).bind (·.dst)) = some d) → d < nt) := by
  rintro d ⟨j, hj⟩
  cases ho : ops[j]? with
  | none => simp [ho] at hj
  | some o =>
    simp only [ho, Option.bind_some] at hj
    have := List.all_eq_true.1 h o (by obtain ⟨h1, h2⟩ := Array.getElem?_eq_some_iff.1 ho; rw [← h2]; simp)
    rw [hj] at this
    simpa [dstOk] using this

/-- One operation of a region. -/
theorem stepA_ok (hE : EnvOk P E) (hc : compileO P mvs nt ops o = some ao) (hds : dstsOk nt ops = true) {i : Nat} (hi : ops[i]? = some o) (hR : Rel w0 N0 nt svv σ a w) (hs : stepA P E ao σ = some σ')
    {K : Act → World → Prop} {Q : Exit → Act → World → Prop} (hK : ∀ a' w', Rel w0 N0 nt svv σ' a' w' → K a' w') : wpOpIn (Fw r) n P ops Q i K a w := by
  obtain ⟨g, hM, hS, hsz, hdf, hS2⟩ := hR
  obtain ⟨h1, h2, h3, h4, h5⟩ := compileO_spec hc
  unfold stepA at hs
  split at hs
  · rename_i y es hout
    simp only [Option.some.injEq] at hs
    subst hs
    unfold outA at hout
    split at hout
    · rename_i hw
      have hwant := wantA_rel hS hsz (dstsOk_spec hds) h2 hw rfl
      have hok := effC_ok (r := r) (n := n) hE hM.rebase (fun x => evO_rel hS x) h1 hout
      unfold wpOpIn
      simp only [hi]
      rw [if_pos hwant]
      refine hok K Q ?_
      rintro v w' ⟨g', hM', hKp, hv⟩
      refine hK _ _ ?_
      unfold applyA
      rw [h4]
      refine Rel.put (σ := σ) (w0 := w0) (N0 := N0) (g := g') (T := aputs σ.tab es) (hM.unbase hM') (fun t x hx => hKp.a (hS t x hx)) hsz (Marks.mono hdf fun b o => hM.others hM') h3 hv (fun t x hx => hKp.a (hS2 t x hx))
    · rename_i hw
      simp only [Option.some.injEq, Prod.mk.injEq] at hout
      obtain ⟨rfl, rfl⟩ := hout
      have hwant := wantA_rel hS hsz (dstsOk_spec hds) h2 hw rfl
      unfold wpOpIn
      simp only [hi]
      rw [if_neg (by rw [hwant]; simp)]
      refine ⟨fun _ _ => trivial, hK _ _ ?_⟩
      unfold applyA
      rw [h4]
      exact Rel.put (σ := σ) (w0 := w0) (N0 := N0) (g := g) (T := aputs σ.tab []) hM hS hsz hdf h3 ⟨_, rfl, rfl⟩ hS2
    · cases hout
  · cases hs

def runA (P : Program) (E : Env) : List AOper → St → Option St
  | [], σ => some σ
  | ao :: l, σ => match stepA P E ao σ with
    | some σ' => runA P E l σ'
    | none => none

def compileOs (P : Program) (mvs : List Nat) (nt : Nat) (ops : Array Oper) : List Oper → Option (List AOper)
  | [] => some []
  | o :: l => match compileO P mvs nt ops o, compileOs P mvs nt ops l with
    | some ao, some as => some (ao :: as)
    | _, _ => none

theorem runA_ok (hE : EnvOk P E) (hds : dstsOk nt ops = true) {Q : Exit → Act → World → Prop} : ∀ (l : List Oper) (as : List AOper) (k : Nat) (σ : St) (a : Act) (w : World), compileOs P mvs nt ops l = some as → (∀ j, l[j]? = ops[k + j]?) →
    Rel w0 N0 nt svv σ a w → runA P E as σ = some σ' → (∀ a' w', Rel w0 N0 nt svv σ' a' w' → Q .normal a' w') → wpOpsIn (Fw r) n P ops Q (List.range' k l.length) a w
  | [], as, k, σ, a, w, hc, hl, hR, hs, hQ => by
    simp only [compileOs, Option.some.injEq] at hc
    subst hc
    simp only [runA, Option.some.injEq] at hs
    subst hs
    exact hQ a w hR
  | o :: l, as, k, σ, a, w, hc, hl, hR, hs, hQ => by
    simp only [compileOs] at hc
    split at hc
    · rename_i ao as' h1 h2
      simp only [Option.some.injEq] at hc
      subst hc
      simp only [runA] at hs
      split at hs
      · rename_i σ1 h3
        have h0 : ops[k]? = some o := by simpa using (hl 0).symm
        rw [List.length_cons, List.range'_succ, wpOpsIn_cons]
        exact stepA_ok hE h1 hds h0 hR h3 fun a' w' hR' => runA_ok hE hds l as' (k + 1) σ1 a' w' h2 (fun j => by have := hl (j + 1); simpa [Nat.add_assoc, Nat.add_comm 1 j] using this) hR' hs hQ
      · cases hs
    · cases hc

/-- A region that draws no order. -/
theorem region_ok (hE : EnvOk P E) (hds : dstsOk nt ops = true) {as : List AOper} (hc : compileOs P mvs nt ops ops.toList = some as) {id : Nat} {Q : Exit → Act → World → Prop} (hR : Rel w0 N0 nt svv σ a w) (hs : runA P E as σ = some σ')
    (hQ : ∀ a' w', Rel w0 N0 nt svv σ' a' w' → Q .normal a' w') : (Code.region id ops false).wpIn (Fw r) n P Q a w :=
  wpIn_region (by
    have := runA_ok (r := r) (n := n) hE hds ops.toList as 0 σ a w hc (by simp) hR hs hQ
    rw [List.range_eq_range']
    simpa using this)

end Go.AM
