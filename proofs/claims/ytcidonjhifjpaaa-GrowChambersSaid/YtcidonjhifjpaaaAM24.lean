/- The abstract machine: control flow, and what it says of the program's code. -/
import Derived.Test.YtcidonjhifjpaaaAM23
import Derived.LoopNIn
namespace Go.AM
open Go.RowKit

inductive ACode where
  | skip
  | ret
  | exit (id : Nat)
  | region (ops : List AOper) (prs : List (Nat × Nat)) (td : Option Tidy)
  | seq (a b : ACode)
  | cond (c : Operand) (a b : ACode)
  | block (id : Nat) (b : ACode)
  | loop (td : Option Tidy) (b : ACode)
  | rangeF (g : Operand) (ps : List Nat) (td : Option Tidy) (a b : ACode)

def outW (o : Option (AV × List (Nat × Entry))) (K : AV → List (Nat × Entry) → Prop) : Prop :=
  match o with
  | some (y, es) => K y es
  | none => False

/-- Both ways of a condition. -/
def condW (o : Option Bool) (X Y : Prop) : Prop :=
  match o with
  | some b => (b = true → X) ∧ (b = false → Y)
  | none => False

def runW (P : Program) (E : Env) : List AOper → (St → Prop) → St → Prop
  | [], K, σ => K σ
  | ao :: l, K, σ => condW (wantA σ.tmps ao.guard) (outW (eff P E σ.tab (evO σ.tmps) (ao.dst.getD 9999) ao.op) fun y es => runW P E l K (applyA σ ao.dst y es))
      (runW P E l K (applyA σ ao.dst (.val false [.und]) []))

def outsW (P : Program) (E : Env) : List AOper → (List Outc → St → Prop) → List Outc → St → Prop
  | [], K, acc, σ => K acc.reverse σ
  | ao :: l, K, acc, σ => condW (wantA σ.tmps ao.guard) (outW (eff P E σ.tab (evO σ.tmps) (ao.dst.getD 9999) ao.op) fun y es => outsW P E l K (⟨ao.dst, y, es, lkA σ ao es⟩ :: acc) (applyA σ ao.dst y es))
      (outsW P E l K (⟨ao.dst, .val false [.und], [], lkA σ ao []⟩ :: acc) (applyA σ ao.dst (.val false [.und]) []))

def regionW (P : Program) (E : Env) (ops : List AOper) (prs : List (Nat × Nat)) (K : St → Prop) (σ : St) : Prop :=
  match prs with
  | [] => runW P E ops K σ
  | _ :: _ => outsW P E ops (fun os σ' => prs.all (pairOk os) = true ∧ K σ') [] σ

/-- What must hold where a code is left in some way, if the body did what it should. -/
def thenA (K : St → Prop) (Q : Exit → St → Prop) : Exit → St → Prop
  | .normal, σ => K σ
  | .exit id, σ => Q (.exit id) σ
  | .ret, σ => Q .ret σ
  | _, _ => False

def blockA (id : Nat) (Q : Exit → St → Prop) : Exit → St → Prop
  | .normal, σ => Q .normal σ
  | .exit id', σ => if id' = id then Q .normal σ else Q (.exit id') σ
  | .ret, σ => Q .ret σ
  | _, _ => False

def someA (o : Option St) (K : St → Prop) : Prop :=
  match o with
  | some σ => K σ
  | none => False

def loopN (f : (Exit → St → Prop) → St → Prop) (td : Option Tidy) (Q : Exit → St → Prop) : Nat → St → Prop
  | 0, _ => False
  | k + 1, σ => someA (tidyO td σ) (f (thenA (loopN f td Q k) Q))

/-- A round's parameters. -/
def setPs : List Nat → List Value → List (Nat × AV) → List (Nat × AV)
  | p :: ps, v :: vs, l => setPs ps vs ((p, .val false [.d (.v v)]) :: l)
  | _, _, l => l

def roundQ (td : Option Tidy) (K : St → Prop) (Q : Exit → St → Prop) : Exit → St → Prop
  | .normal, σ => someA (tidyO td ⟨σ.sv, σ.tab, []⟩) K
  | .ret, σ => Q .ret ⟨σ.sv, σ.tab, []⟩
  | .exit id, σ => Q (.exit id) ⟨σ.sv, σ.tab, []⟩
  | _, _ => False

def roundsA (fa fb : (Exit → St → Prop) → St → Prop) (ps : List Nat) (td : Option Tidy) (Q : Exit → St → Prop) : List (List Value) → St → Prop
  | [], σ => Q .normal σ
  | x :: xs, σ => x.length = ps.length ∧ fa (thenA (fb (roundQ td (roundsA fa fb ps td Q xs) Q)) (fun _ _ => False)) ⟨setPs ps x σ.tmps, σ.tab, σ.tmps⟩

def seqOf (E : Env) (x : AV) (sv : List (Nat × AV)) : Option (List (List Value)) :=
  match oneA x, sv with
  | some (.d (.fn f caps)), [] => E.seq f caps
  | _, _ => none

def someL (o : Option (List (List Value))) (K : List (List Value) → Prop) : Prop :=
  match o with
  | some xs => K xs
  | none => False

def wpA (P : Program) (E : Env) : ACode → (Exit → St → Prop) → St → Prop
  | .skip, Q, σ => Q .normal σ
  | .ret, Q, σ => Q .ret σ
  | .exit id, Q, σ => Q (.exit id) σ
  | .region ops prs td, Q, σ => regionW P E ops prs (fun σ' => someA (tidyO td σ') (Q .normal)) σ
  | .seq a b, Q, σ => wpA P E a (thenA (wpA P E b Q) Q) σ
  | .cond c a b, Q, σ => condW (boolA (evO σ.tmps c)) (wpA P E a Q σ) (wpA P E b Q σ)
  | .block id b, Q, σ => wpA P E b (blockA id Q) σ
  | .loop td b, Q, σ => ∃ k, loopN (wpA P E b) td Q k σ
  | .rangeF g ps td a b, Q, σ => someL (seqOf E (evO σ.tmps g) σ.sv) fun xs => roundsA (wpA P E a) (wpA P E b) ps td Q xs σ

/-! ### Out of the model's code -/

def befL (ops : Array Oper) : List (List Nat) :=
  (ops.toList.foldl (fun (acc : List (List Nat)) o =>
    (((o.after.toList.filter (Region.binds .any)).flatMap fun e => e.on :: ((acc.reverse).getD e.on [])).eraseDups) :: acc) []).reverse

def prsL (as : List AOper) (bef : List (List Nat)) : List (Nat × Nat) :=
  (List.range as.length).flatMap fun j => (List.range j).filterMap fun i =>
    if (befOf bef j).contains i then none else match as[i]?, as[j]? with
      | some x, some y => if calmPair x y then none else some (i, j)
      | _, _ => none

def firstR : Code → Nat
  | .region id _ _ => id
  | .seq a b => match firstR a with
    | 0 => firstR b
    | k => k
  | .cond _ a b => match firstR a with
    | 0 => firstR b
    | k => k
  | .block _ b | .loop b | .scope b => firstR b
  | _ => 0

/-- The slices that are moved, told among the annotations. -/
def mvsOf : List (Nat × Tidy) → List Nat
  | [] => []
  | (k, _) :: r => if 1000000 ≤ k then (k - 1000000) :: mvsOf r else mvsOf r

def mk (P : Program) (nt : Nat) (tr tl : List (Nat × Tidy)) (top : Bool) : Code → Option ACode
  | .skip => some .skip
  | .ret => some .ret
  | .exit id => some (.exit id)
  | .region id ops d => match compileOs P (mvsOf tr) nt ops ops.toList with
    | some as =>
      if dstsOk nt ops then
        if d then
          if befOk ops (befL ops) && pairsOk as (befL ops) (prsL as (befL ops)) then some (.region as (prsL as (befL ops)) (aget tr id)) else none
        else some (.region as [] (aget tr id))
      else none
    | none => none
  | .seq a b => match mk P nt tr tl top a, mk P nt tr tl top b with
    | some x, some y => some (.seq x y)
    | _, _ => none
  | .cond c a b => match mk P nt tr tl top a, mk P nt tr tl top b with
    | some x, some y => some (.cond c x y)
    | _, _ => none
  | .block id b => (mk P nt tr tl top b).map (.block id)
  | .loop b => (mk P nt tr tl top b).map (.loop (aget tl (firstR b)))
  | .rangeFunc g ps a b => if top && ps.toList.all (fun p => decide (p < nt)) then match mk P nt tr tl false a, mk P nt tr tl false b with
      | some x, some y => some (.rangeF g ps.toList (aget tl (firstR b)) x y)
      | _, _ => none
    else none
  | _ => none

variable {P : Program} {E : Env} {w0 : Base} {w w' : World} {N0 : Nat → Prop} {g g' : Gh} {T T' : Tab} {r : Option Nat} {n nt : Nat} {svv : Array Value} {a : Act} {σ σ' : St} {tr tl : List (Nat × Tidy)}

theorem someA_spec {o : Option St} {K : St → Prop} (h : someA o K) : ∃ σ, o = some σ ∧ K σ := by
  cases o with
  | none => exact h.elim
  | some σ => exact ⟨σ, rfl, h⟩

theorem condW_spec {o : Option Bool} {X Y : Prop} (h : condW o X Y) : (o = some true ∧ X) ∨ (o = some false ∧ Y) := by
  cases o with
  | none => exact h.elim
  | some b => cases b with
    | true => exact .inl ⟨rfl, h.1 rfl⟩
    | false => exact .inr ⟨rfl, h.2 rfl⟩

theorem outW_spec {o : Option (AV × List (Nat × Entry))} {K : AV → List (Nat × Entry) → Prop} (h : outW o K) : ∃ y es, o = some (y, es) ∧ K y es := by
  cases o with
  | none => exact h.elim
  | some p => exact ⟨p.1, p.2, rfl, h⟩

theorem runW_spec {K : St → Prop} : ∀ (l : List AOper) (σ : St), runW P E l K σ → ∃ σ', runA P E l σ = some σ' ∧ K σ'
  | [], σ, h => ⟨σ, rfl, h⟩
  | ao :: l, σ, h => by
    rcases condW_spec h with ⟨h1, h2⟩ | ⟨h1, h2⟩
    · obtain ⟨y, es, h3, h4⟩ := outW_spec h2
      obtain ⟨σ', h5, h6⟩ := runW_spec l _ h4
      exact ⟨σ', by simp only [runA, stepA, outA, h1, h3, h5], h6⟩
    · obtain ⟨σ', h5, h6⟩ := runW_spec l _ h2
      exact ⟨σ', by simp only [runA, stepA, outA, h1, h5], h6⟩

theorem outsW_spec {K : List Outc → St → Prop} : ∀ (l : List AOper) (acc : List Outc) (σ : St), outsW P E l K acc σ → ∃ os σ', outsA P E l σ = some (os, σ') ∧ K (acc.reverse ++ os) σ'
  | [], acc, σ, h => ⟨[], σ, rfl, by rw [List.append_nil]; exact h⟩
  | ao :: l, acc, σ, h => by
    rcases condW_spec h with ⟨h1, h2⟩ | ⟨h1, h2⟩
    · obtain ⟨y, es, h3, h4⟩ := outW_spec h2
      obtain ⟨os, σ', h5, h6⟩ := outsW_spec l _ _ h4
      exact ⟨⟨ao.dst, y, es, lkA σ ao es⟩ :: os, σ', by simp only [outsA, outA, h1, h3, h5], by simpa using h6⟩
    · obtain ⟨os, σ', h5, h6⟩ := outsW_spec l _ _ h2
      exact ⟨⟨ao.dst, .val false [.und], [], lkA σ ao []⟩ :: os, σ', by simp only [outsA, outA, h1, h5], by simpa using h6⟩

/-- A post of the machine against a post of the model. -/
def Posts (w0 : Base) (N0 : Nat → Prop) (nt : Nat) (svv : Array Value) (Q : Exit → St → Prop) (Q' : Exit → Act → World → Prop) : Prop :=
  ∀ e σ a w, Q e σ → Rel w0 N0 nt svv σ a w → Q' e a w

/-- What the walk of code says of the model. -/
def Sound (P : Program) (E : Env) (nt : Nat) (c : Code) (ac : ACode) (r : Option Nat) : Prop :=
  ∀ (n : Nat) (w0 : Base) (N0 : Nat → Prop) (svv : Array Value) (Q : Exit → St → Prop) (Q' : Exit → Act → World → Prop) (σ : St) (a : Act) (w : World),
    (r = none → svv.size = 0) → Posts w0 N0 nt svv Q Q' → Rel w0 N0 nt svv σ a w → wpA P E ac Q σ → c.wpIn (Fw r) n P Q' a w

theorem setPs_rel {N : Nat → Prop} {sz : Nat} : ∀ (ps : List Nat) (x : List Value) (l : List (Nat × AV)) (vals : Array Value), vals.size = sz → (∀ p ∈ ps, p < sz) → (∀ v ∈ x, plain v = true) → SRel w N g T l vals →
    ((ps.zip x).foldl (fun t (q : Nat × Value) => t.setIfInBounds q.1 q.2) vals).size = sz ∧ SRel w N g T (setPs ps x l) ((ps.zip x).foldl (fun t (q : Nat × Value) => t.setIfInBounds q.1 q.2) vals)
  | [], x, l, vals, hsz, _, _, h => by cases x <;> exact ⟨hsz, h⟩
  | p :: ps, [], l, vals, hsz, _, _, h => ⟨hsz, h⟩
  | p :: ps, v :: x, l, vals, hsz, hp, hx, h => by
    simp only [List.zip_cons_cons, List.foldl_cons, setPs]
    exact setPs_rel ps x _ _ (by simpa using hsz) (fun q hq => hp q (List.mem_cons_of_mem _ hq)) (fun u hu => hx u (List.mem_cons_of_mem _ hu))
      (h.put (by rw [hsz]; exact hp p (by simp)) ⟨_, rfl, .v (hx v (by simp))⟩)

theorem srel_push {N : Nat → Prop} {l : List (Nat × AV)} {vals : Array Value} : SRel w N g T l (vals.push undef) ↔ SRel w N g T l vals := by
  have e : ∀ t, (vals.push undef).getD t undef = vals.getD t undef := fun t => by
    simp only [Array.getD_eq_getD_getElem?, Array.getElem?_push]
    split
    · rename_i h; simp [h]
    · rfl
  unfold SRel
  simp only [e]

theorem renA_sv {r : Ren} (h : renA σ r = some σ') (hs : σ.sv = []) : σ'.sv = [] := by
  unfold renA at h
  split at h
  · simp only [Option.some.injEq] at h; subst h; exact hs
  unfold ren1A at h
  split at h
  · split at h
    · simp only [Option.some.injEq] at h; subst h; exact hs
    · unfold nameNil at h
      split at h
      · split at h
        · split at h
          · simp only [Option.some.injEq] at h; subst h; exact hs
          · cases h
        · split at h
          · simp only [Option.some.injEq] at h; subst h; exact hs
          · cases h
      · cases h
  · split at h
    · simp only [Option.some.injEq] at h; subst h; exact hs
    · simp only [Option.some.injEq] at h; subst h; simp [swapS, hs, swapV]
  · simp only [Option.some.injEq] at h; subst h; exact hs

theorem rensA_sv : ∀ (l : List Ren) {σ : St}, rensA l σ = some σ' → σ.sv = [] → σ'.sv = []
  | [], σ, h, hs => by simp only [rensA, Option.some.injEq] at h; subst h; exact hs
  | r :: l, σ, h, hs => by
    simp only [rensA] at h
    split at h
    · rename_i σ1 h1; exact rensA_sv l h (renA_sv h1 hs)
    · cases h

theorem gcO_sv {b : Bool} (h : gcO b σ = some σ') (hs : σ.sv = []) : σ'.sv = [] := by
  unfold gcO at h
  split at h
  · simp only [gcA] at h
    split at h
    · simp only [Option.some.injEq] at h; subst h; exact hs
    · cases h
  · simp only [Option.some.injEq] at h; subst h; exact hs

theorem fzsA_sv : ∀ (l : List Nat) {σ : St}, σ.sv = [] → (fzsA l σ).sv = []
  | [], _, hs => hs
  | t :: l, σ, hs => fzsA_sv l (by
      unfold fzA
      split
      · split <;> exact hs
      · exact hs)

theorem tidy_sv {td : Option Tidy} (h : tidyO td σ = some σ') (hs : σ.sv = []) : σ'.sv = [] := by
  cases td with
  | none => simp only [tidyO, Option.some.injEq] at h; subst h; exact hs
  | some t =>
    simp only [tidyO, tidyA] at h
    split at h
    · rename_i σ1 h1
      split at h
      · rename_i σ2 h2
        exact gcO_sv h (rensA_sv _ h2 (gcO_sv h1 (fzsA_sv _ hs)))
      · cases h
    · cases h

theorem range_ok (hE : EnvOk P E) {g : Operand} {ps : Array Tmp} {ca cb : Code} {aa ab : ACode} {td : Option Tidy} (hps : ∀ p ∈ ps.toList, p < nt) (ha : ∀ l, Sound P E nt ca aa (some l)) (hb : ∀ l, Sound P E nt cb ab (some l)) :
    Sound P E nt (.rangeFunc g ps ca cb) (.rangeF g ps.toList td aa ab) none := by
  intro n w0 N0 svv Q Q' σ a w hsvv hQ hR hw
  obtain ⟨g0, hM0, hS0, hsz, hmk, _⟩ := hR
  simp only [wpA] at hw
  unfold someL seqOf at hw
  split at hw
  · rename_i xs hseq
    split at hseq
    · rename_i f caps hone hsv
      obtain ⟨⟨hplain, hiter⟩, fn0, hf0, hbody0, hname0⟩ := hE.seq f caps xs hseq
      have hcl := oneA_rel (evO_rel (a := a) hS0 g) hone
      generalize hgv : a.eval g = gv at hcl
      cases hcl with
      | @fn _ _ lb hlen hlb =>
      refine wpIn_rangeFunc ?_
      intro fn hfn
      obtain ⟨rec, hrec⟩ : ∃ rec : LoopState → Option Code → Loop, rec = fun st pe => { state := st, pending := pe, fn, tmps := a.tmps, params := ps, assign := ca, body := cb, defers := w.heap.size } := ⟨_, rfl⟩
      obtain ⟨W1, hW1⟩ : ∃ W1, (w.alloc (.deferred (some []))).alloc (.loop (rec .ready none)) = W1 := ⟨_, rfl⟩
      have hL1 : W1.heap[w.heap.size + 1]? = some (.loop (rec .ready none)) := by
        rw [← hW1]; have := World.alloc_heap_new (w.alloc (.deferred (some []))) (.loop (rec .ready none)); rwa [World.size_alloc] at this
      have hD1 : W1.heap[w.heap.size]? = some (.deferred (some [])) := by
        rw [← hW1]; exact (Below.heap_alloc _ _ _ (by simp)).trans (World.alloc_heap_new w _)
      have hgrow : Below w.heap.size w W1 := by
        rw [← hW1]; exact (((Below.refl _ w).alloc (Nat.le_refl _) _).alloc (by simp) _)
      have hszW : W1.heap.size = w.heap.size + 2 := by rw [← hW1]; simp
      obtain ⟨hM1, hK1⟩ := hM0.grow hgrow
      have hS1 : SRel W1 (avoid N0 g0 σ.tab) g0 σ.tab σ.tmps a.tmps := fun t x hx => hK1.a (hS0 t x hx)
      let O : Nat → Prop := fun b => owned g0 σ.tab b ∨ b = w.heap.size + 1 ∨ b = w.heap.size
      have hN0 : ∀ b, N0 b → b < w.heap.size ∧ ¬ owned g0 σ.tab b := fun b hb => ⟨Nat.lt_of_lt_of_le (hM0.n0 b hb).1 hM0.below.size, fun ⟨m, h1, h2⟩ => by
        have h3 := hM0.n0 b hb
        exact (hM0.rng m b h1 h2).1.elim (fun h => by omega) h3.2⟩
      have hMB : Mem ⟨W1, O⟩ N0 g0 σ.tab W1 := ⟨.refl, hM1.ents, hM1.inj, fun m b h1 h2 => ⟨.inr (.inl ⟨m, h1, h2⟩), (hM1.rng m b h1 h2).2⟩, fun b hb => by
        obtain ⟨h1, h2⟩ := hN0 b hb
        exact ⟨by rw [hszW]; omega, fun h => h.elim h2 fun h => by omega⟩⟩
      have hO : ∀ b, O b → owned g0 σ.tab b ∨ w0.w.heap.size ≤ b := fun b hb => by
        have := hM0.below.size
        rcases hb with h | h | h
        · exact .inl h
        · exact .inr (by omega)
        · exact .inr (by omega)
      have hmk1 : ∀ (W : World) (g' : Gh) (T' : Tab), Mem ⟨W1, O⟩ N0 g' T' W → Marks w0 svv a.defers W := fun W g' T' hM => by
        refine ⟨hmk.1, hmk.2.1, fun d hd => ?_⟩
        obtain ⟨D, h1, h2, h3⟩ := hmk.2.2 d hd
        have hlt := (Array.getElem?_eq_some_iff.1 h3).1
        refine ⟨D, h1, h2, ?_⟩
        rw [hM.below.block D (by simp only; omega) fun h => ?_]
        · rw [hgrow.block D hlt]; exact h3
        · rcases h with h | h | h
          · exact hM0.not_owned h3 rfl h
          · omega
          · omega
      -- the state between two rounds
      let K : List (List Value) → St → Prop := roundsA (wpA P E aa) (wpA P E ab) ps.toList td Q
      let Mid : St → World → Prop := fun τ W => ∃ g', Mem ⟨W1, O⟩ N0 g' τ.tab W ∧ SRel W (avoid N0 g' τ.tab) g' τ.tab τ.tmps a.tmps ∧ τ.sv = [] ∧ W.heap[w.heap.size]? = some (.deferred (some []))
      let J : Nat → World → Prop := fun i W => ∃ τ, K (xs.drop i) τ ∧ Mid τ W ∧ W.heap[w.heap.size + 1]? = some (.loop (rec .ready none))
      let Jx : World → Prop := fun W => ∃ τ c, ((c = Code.ret ∧ Q .ret τ) ∨ ∃ id, c = Code.exit id ∧ Q (.exit id) τ) ∧ Mid τ W ∧ W.heap[w.heap.size + 1]? = some (.loop (rec .done (some c)))
      have hMidGrow : ∀ τ W W', Mid τ W → Below W.heap.size W W' → Mid τ W' := fun τ W W' h hb => by
        obtain ⟨g', h1, h2, h3, h4⟩ := h
        obtain ⟨h5, h6⟩ := h1.grow hb
        exact ⟨g', h5, fun t x hx => h6.a (h2 t x hx), h3, by rw [hb.block _ (Array.getElem?_eq_some_iff.1 h4).1]; exact h4⟩
      have hMidPut : ∀ τ W o o', Mid τ W → W.heap[w.heap.size + 1]? = some o → o.isCells = false → Mid τ (W.putObj (w.heap.size + 1) o') := fun τ W o o' h hl ho => by
        obtain ⟨g', h1, h2, h3, h4⟩ := h
        obtain ⟨h5, h6⟩ := h1.putObj (o' := o') hl ho (.inr (.inr (.inl rfl)))
        exact ⟨g', h5, fun t x hx => h6.a (h2 t x hx), h3, by rw [World.putObj_heap_other (by omega)]; exact h4⟩
      -- a stretch of code within a round
      have stretch : ∀ (c : Code) (ac : ACode), Sound P E nt c ac (some (w.heap.size + 1)) → ∀ (Q1 : Exit → St → Prop) (Q2 : Exit → Act → World → Prop) (τ : St) (tmps : Array Value) (W : World) (o : Obj), wpA P E ac Q1 τ →
          W.heap[w.heap.size + 1]? = some o → o.isCells = false → (∃ g', Mem ⟨W1, O⟩ N0 g' τ.tab W ∧ SRel W (avoid N0 g' τ.tab) g' τ.tab τ.tmps tmps ∧ tmps.size = nt ∧ SRel W (avoid N0 g' τ.tab) g' τ.tab τ.sv a.tmps ∧ W.heap[w.heap.size]? = some (.deferred (some []))) →
          (∀ e τ' a' W', Q1 e τ' → (∃ g', Mem ⟨W1, O⟩ N0 g' τ'.tab W' ∧ SRel W' (avoid N0 g' τ'.tab) g' τ'.tab τ'.tmps a'.tmps ∧ a'.tmps.size = nt ∧ SRel W' (avoid N0 g' τ'.tab) g' τ'.tab τ'.sv a.tmps ∧ W'.heap[w.heap.size]? = some (.deferred (some []))) →
            W'.heap[w.heap.size + 1]? = some o → (∀ b, b < W1.heap.size → ¬ O b → W'.heap[b]? = W1.heap[b]?) → W.heap.size ≤ W'.heap.size → a'.defers = [] → Q2 e a' W') →
          c.wpIn ((Fw none).inRound (w.heap.size + 1)) (n + 1) P Q2 { tmps := tmps, defers := [] } W := by
        intro c ac hsound Q1 Q2 τ tmps W o hwp hl ho hst hpost
        obtain ⟨g', h1, h2, h3, h4, h5⟩ := hst
        refine hsound (n + 1) ⟨W, owned g' τ.tab⟩ N0 (a.tmps.push undef) Q1 Q2 τ _ W (fun h => by cases h) (fun e τ' a' W' hq hR' => ?_) ⟨g', h1.rebase, h2, h3, ⟨List.nodup_nil, fun _ => rfl, fun d hd => by simp at hd⟩, (srel_push).2 h4⟩ hwp
        obtain ⟨g2, k1, k2, k3, km, k4'⟩ := hR'
        have k4 := srel_push.1 k4'
        have hdf : a'.defers = [] := km.2.1 (by simp)
        have hun := h1.unbase k1
        exact hpost e τ' a' W' hq ⟨g2, hun, k2, k3, k4, h1.others k1 h5 rfl⟩ (h1.others k1 hl ho) (fun b hb hob => hun.below.block b hb hob) k1.below.size hdf
      refine ⟨w.heap.size + 1, [{ target := .collected w.heap.size, args := #[] }], W1, { target := .fn (.func f) lb, args := #[.func (.yield (w.heap.size + 1)) #[] #[]] }, W1, f,
        #[.func (.yield (w.heap.size + 1)) #[] #[]] ++ lb, W1, ?_, ?_, fun _ _ => trivial, ?_, fun h => by simp [Fw, Fence.wide] at h, ?_⟩
      · rw [← hW1, hrec]; exact run_enterLoop_outer _ _ _ _ _
      · simp only [resolve, hgv]
        simp [go_sem]
      · simp [invoke, go_sem, run_callFunc hf0 hbody0 hname0]
      · let N : Nat → Prop := fun b => avoid N0 g0 σ.tab b ∨ b = w.heap.size + 1 ∨ b = w.heap.size
        have hcalls := hiter W1 N lb (w.heap.size + 1) J Jx (n + 1) (fun b hb => by
            rcases hb with h | h | h
            · exact avoid_lt hM1 h
            · omega
            · omega) hlen
          (fun i d v hd hv => (hlb i d v hd hv).mono hgrow.size (fun b hb _ => hgrow.block b hb) (fun b hb hN => by
            rcases hN with h | h | h
            · exact h
            · omega
            · omega))
          (fun i W W' ⟨τ, h1, h2, h3⟩ hb => ⟨τ, h1, hMidGrow τ W W' h2 hb, by rw [hb.block _ (Array.getElem?_eq_some_iff.1 h3).1]; exact h3⟩)
          (fun W W' ⟨τ, c, h1, h2, h3⟩ hb => ⟨τ, c, h1, hMidGrow τ W W' h2 hb, by rw [hb.block _ (Array.getElem?_eq_some_iff.1 h3).1]; exact h3⟩)
          ?_ ⟨σ, by simpa [K] using hw, ⟨g0, hMB, hS1, hsv, hD1⟩, hL1⟩
        · -- behind the iterator
          refine callsIn_wide.2 (hcalls.mono ?_)
          have fin : ∀ τ W jump, Mid τ W → (W.heap[w.heap.size + 1]? = some (.loop jump)) → Rel w0 N0 nt svv τ { a with defers := { target := .collected w.heap.size, args := #[] } :: a.defers } (W.putObj (w.heap.size + 1) (.loop { jump with state := .exhausted })) := fun τ W jump hm hl => by
            obtain ⟨g', h1, h2, h3, h4⟩ := hMidPut τ W _ (.loop { jump with state := .exhausted }) hm hl rfl
            refine ⟨g', hM1.unbase' hO h1, h2, hsz, ⟨List.nodup_cons.2 ⟨fun hin => ?_, hmk.1⟩, fun h => by have := hsvv rfl; omega, fun d hd => ?_⟩, fun t x hx => by rw [h3] at hx; simp [aget] at hx⟩
            · obtain ⟨D, k1, k2, k3⟩ := hmk.2.2 _ hin
              simp only [Deferred.mk.injEq, Target.collected.injEq, and_true] at k1
              have := (Array.getElem?_eq_some_iff.1 k3).1
              omega
            · rcases List.mem_cons.1 hd with rfl | hd
              · exact ⟨_, rfl, hM0.below.size, h4⟩
              · exact (hmk1 _ _ _ h1).2.2 d hd
          rintro e W2 ⟨⟨v, rfl⟩, hJ | hJ⟩
          · obtain ⟨τ, h1, h2, h3⟩ := hJ
            refine ⟨none, _, by have := run_endLoop (P := P) h3 (by rw [hrec]; simp); rw [hrec] at this; exact this, ?_⟩
            have hq : Q .normal τ := by simpa [K, roundsA] using h1
            have := fin τ W2 _ h2 h3
            rw [hrec] at this
            exact hQ _ _ _ _ hq this
          · obtain ⟨τ, c, h1, h2, h3⟩ := hJ
            refine ⟨some c, _, by have := run_endLoop (P := P) h3 (by rw [hrec]; simp); rw [hrec] at this; exact this, ?_⟩
            have := fin τ W2 _ h2 h3
            rw [hrec] at this
            rcases h1 with ⟨rfl, hq⟩ | ⟨id, rfl, hq⟩
            · exact wpIn_ret (hQ _ _ _ _ hq this)
            · exact wpIn_exit (hQ _ _ _ _ hq this)
        · -- a round
          rintro i x W' hx ⟨τ, hk, ⟨g', m1, m2, m3, m4⟩, hl⟩
          have hdrop : xs.drop i = x :: xs.drop (i + 1) := by
            obtain ⟨hi, hxi⟩ := List.getElem?_eq_some_iff.1 hx
            rw [List.drop_eq_getElem_cons hi, hxi]
          simp only [K, hdrop, roundsA] at hk
          obtain ⟨hlenx, hwp⟩ := hk
          have hxmem : x ∈ xs := List.mem_of_getElem? hx
          have hy := run_yield (P := P) (args := x.toArray) hl (by rw [hrec]; simpa using hlenx)
          rw [hrec] at hy
          refine ⟨fn, _, ca, cb, hy, roundIn_of_wpIn hfn ?_⟩
          have htm : ((ps.zip x.toArray).foldl (fun tmps (q : Tmp × Value) => tmps.setIfInBounds q.1 q.2) a.tmps) = ((ps.toList.zip x).foldl (fun t (q : Nat × Value) => t.setIfInBounds q.1 q.2) a.tmps) := by
            rw [← Array.foldl_toList, Array.toList_zip]
          obtain ⟨hps1, hps2⟩ := setPs_rel ps.toList x τ.tmps a.tmps hsz hps (hplain x hxmem) m2
          have htm' : ((ps.zip x.toArray).foldl (fun tmps (x : Tmp × Value) => match x with | (t, a) => tmps.setIfInBounds t a) a.tmps) = ((ps.toList.zip x).foldl (fun t (q : Nat × Value) => t.setIfInBounds q.1 q.2) a.tmps) := htm
          simp only [] at htm' ⊢
          rw [htm']
          refine stretch ca aa (ha _) _ _ ⟨setPs ps.toList x τ.tmps, τ.tab, τ.tmps⟩ _ W' _ hwp hl rfl ⟨g', m1, hps2, hps1, m2, m4⟩ (fun e τ1 a1 w1 hq1 hst1 hl1 hov1 hsz1 hdf1 => ?_)
          cases e with
          | normal =>
            obtain ⟨g1, n1, n2, n3, n4, n5⟩ := hst1
            refine ⟨_, run_beginRound hl1 (by rw [hrec]), ?_⟩
            have hlt1 : w.heap.size + 1 < w1.heap.size := (Array.getElem?_eq_some_iff.1 hl1).1
            obtain ⟨p1, p2⟩ := n1.putObj (o' := .loop { rec .ready none with state := .busy }) hl1 rfl (.inr (.inr (.inl rfl)))
            have hbody := stretch cb ab (hb _) (roundQ td (K (xs.drop (i + 1))) Q) (roundPost P (w.heap.size + 1) fun e W'' => Kept W1.heap.size N W' W'' ∧ ((e = .returned (.bool true) ∧ J (i + 1) W'') ∨ (e = .returned (.bool false) ∧ Jx W'')))
              τ1 a1.tmps (w1.putObj (w.heap.size + 1) (.loop { rec .ready none with state := .busy })) (.loop { rec .ready none with state := .busy }) hq1 (World.putObj_heap_same hlt1) rfl
              ⟨g1, p1, fun t x hx => p2.a (n2 t x hx), n3, fun t x hx => p2.a (n4 t x hx), by rw [World.putObj_heap_other (by omega)]; exact n5⟩
              (fun e2 τ2 a2 w2 hq2 hst2 hl2 hov2 hsz2 _ => by
                obtain ⟨g2, q1, q2, q3, q4, q5⟩ := hst2
                have hkept : ∀ o', Kept W1.heap.size N W' (w2.putObj (w.heap.size + 1) o') := fun o' => ⟨by simp at hsz2 ⊢; omega, fun b hb hN => by
                  have hOb : ¬ O b := fun h => hN (h.elim (fun h => .inl (.inr h)) .inr)
                  rw [World.putObj_heap_other (fun h => hN (.inr (.inl h))), hov2 b hb hOb, m1.below.block b hb hOb]⟩
                have hmid2 : Mid ⟨τ2.sv, τ2.tab, []⟩ w2 := ⟨g2, q1, q4, rfl, q5⟩
                have hlt2 : w.heap.size + 1 < w2.heap.size := (Array.getElem?_eq_some_iff.1 hl2).1
                cases e2 with
                | normal =>
                  obtain ⟨τ3, h3, h4⟩ := someA_spec hq2
                  have hrel : Rel ⟨W1, O⟩ N0 nt #[] ⟨τ2.sv, τ2.tab, []⟩ { tmps := a.tmps, defers := [] } w2 := ⟨g2, q1, q4, hsz, ⟨List.nodup_nil, fun _ => rfl, fun d hd => by simp at hd⟩, fun t x hx => by simp [aget] at hx⟩
                  obtain ⟨g3, r1, r2, _, _, _⟩ := hrel.tidy h3
                  have hmid3 : Mid τ3 w2 := ⟨g3, r1, r2, tidy_sv h3 rfl, q5⟩
                  have hend := run_endRound (P := P) none hl2
                  refine ⟨_, _, hend, hkept _, .inl ⟨rfl, τ3, h4, hMidPut τ3 w2 _ _ hmid3 hl2 rfl, ?_⟩⟩
                  rw [World.putObj_heap_same hlt2, hrec]
                  rfl
                | ret =>
                  have hend := run_endRound (P := P) (some .ret) hl2
                  refine ⟨_, _, hend, hkept _, .inr ⟨rfl, ⟨τ2.sv, τ2.tab, []⟩, .ret, .inl ⟨rfl, hq2⟩, hMidPut _ w2 _ _ hmid2 hl2 rfl, ?_⟩⟩
                  rw [World.putObj_heap_same hlt2, hrec]
                  rfl
                | exit id =>
                  have hend := run_endRound (P := P) (some (.exit id)) hl2
                  refine ⟨_, _, hend, hkept _, .inr ⟨rfl, ⟨τ2.sv, τ2.tab, []⟩, .exit id, .inr ⟨id, rfl, hq2⟩, hMidPut _ w2 _ _ hmid2 hl2 rfl, ?_⟩⟩
                  rw [World.putObj_heap_same hlt2, hrec]
                  rfl
                | _ => exact hq2.elim)
            have ha1 : a1 = { tmps := a1.tmps, defers := [] } := by rw [← hdf1]
            rw [ha1]
            exact hbody
          | exit id => exact hq1.elim
          | ret => exact hq1.elim
          | _ => exact hq1.elim
    · cases hseq
  · exact hw.elim

theorem wpA_ok (hE : EnvOk P E) (hm : P.follows .mixedOrders = true) : ∀ (c : Code) (top : Bool) (ac : ACode), mk P nt tr tl top c = some ac → ∀ (r : Option Nat), (top = true → r = none) → Sound P E nt c ac r := by
  intro c
  induction c with
  | skip => intro top ac h r htop n w0 N0 svv Q Q' σ a w hsv hQ hR hw; simp only [mk, Option.some.injEq] at h; subst h; exact wpIn_skip (hQ _ _ _ _ hw hR)
  | ret => intro top ac h r htop n w0 N0 svv Q Q' σ a w hsv hQ hR hw; simp only [mk, Option.some.injEq] at h; subst h; exact wpIn_ret (hQ _ _ _ _ hw hR)
  | exit id => intro top ac h r htop n w0 N0 svv Q Q' σ a w hsv hQ hR hw; simp only [mk, Option.some.injEq] at h; subst h; exact wpIn_exit (hQ _ _ _ _ hw hR)
  | region id ops d =>
    intro top ac h r htop n w0 N0 svv Q Q' σ a w hsv hQ hR hw
    simp only [mk] at h
    split at h
    · rename_i as hc
      split at h
      · rename_i hds
        have fin : ∀ σ1, someA (tidyO (aget tr id) σ1) (Q .normal) → ∀ a' w', Rel w0 N0 nt svv σ1 a' w' → Q' .normal a' w' := fun σ1 h1 a' w' hR' => by
          obtain ⟨σ2, h2, h3⟩ := someA_spec h1
          exact hQ _ _ _ _ h3 (hR'.tidy h2)
        split at h
        · rename_i hd
          split at h
          · rename_i hb
            simp only [Bool.and_eq_true] at hb
            simp only [Option.some.injEq] at h
            subst h
            subst hd
            have : ∃ os σ1, outsA P E as σ = some (os, σ1) ∧ (prsL as (befL ops)).all (pairOk os) = true ∧ someA (tidyO (aget tr id) σ1) (Q .normal) := by
              simp only [wpA] at hw
              revert hw
              unfold regionW
              split
              · rename_i hnil
                intro hw
                obtain ⟨σ1, h1, h2⟩ := runW_spec _ _ hw
                obtain ⟨os, hos⟩ := outs_of_run as σ σ1 h1
                exact ⟨os, σ1, hos, by rw [hnil]; rfl, h2⟩
              · intro hw
                obtain ⟨os, σ1, h1, h2, h3⟩ := outsW_spec _ _ _ hw
                exact ⟨os, σ1, h1, by simpa using h2, h3⟩
            obtain ⟨os, σ1, hos, hp, h2⟩ := this
            exact draw_ok hE hm hds hc hb.1 hb.2 hos hp hR (fin σ1 h2)
          · cases h
        · rename_i hd
          simp only [Option.some.injEq] at h
          subst h
          obtain ⟨σ1, h1, h2⟩ := runW_spec _ _ hw
          have hd' : d = false := by simpa using hd
          subst hd'
          exact region_ok hE hds hc hR h1 (fin σ1 h2)
      · cases h
    · cases h
  | seq x y ihx ihy =>
    intro top ac h r htop n w0 N0 svv Q Q' σ a w hsv hQ hR hw
    simp only [mk] at h
    split at h
    · rename_i ax ay hx hy
      simp only [Option.some.injEq] at h
      subst h
      refine wpIn_seq (ihx top ax hx r htop n w0 N0 svv _ _ σ a w hsv (fun e σ1 a1 w1 h1 hR1 => ?_) hR hw)
      cases e with
      | normal => exact ihy top ay hy r htop n w0 N0 svv Q Q' σ1 a1 w1 hsv hQ hR1 h1
      | exit id => exact hQ _ _ _ _ h1 hR1
      | ret => exact hQ _ _ _ _ h1 hR1
      | _ => exact h1.elim
    · cases h
  | cond c x y ihx ihy =>
    intro top ac h r htop n w0 N0 svv Q Q' σ a w hsv hQ hR hw
    simp only [mk] at h
    split at h
    · rename_i ax ay hx hy
      simp only [Option.some.injEq] at h
      subst h
      obtain ⟨g, hM, hS, hsz, hd, hS2⟩ := hR
      have hR : Rel w0 N0 nt svv σ a w := ⟨g, hM, hS, hsz, hd, hS2⟩
      rcases condW_spec hw with ⟨hb, hw⟩ | ⟨hb, hw⟩
      · exact wpIn_cond_true (boolA_rel (evO_rel hS c) hb) (ihx top ax hx r htop n w0 N0 svv Q Q' σ a w hsv hQ hR hw)
      · exact wpIn_cond_false (boolA_rel (evO_rel hS c) hb) (ihy top ay hy r htop n w0 N0 svv Q Q' σ a w hsv hQ hR hw)
    · cases h
  | block id b ih =>
    intro top ac h r htop n w0 N0 svv Q Q' σ a w hsv hQ hR hw
    simp only [mk, Option.map_eq_some_iff] at h
    obtain ⟨ab, hb, rfl⟩ := h
    refine wpIn_block (ih top ab hb r htop n w0 N0 svv _ _ σ a w hsv (fun e σ1 a1 w1 h1 hR1 => ?_) hR hw)
    cases e with
    | normal => exact hQ _ _ _ _ h1 hR1
    | exit id' =>
      simp only [blockA] at h1
      simp only [Exit.inBlock]
      split at h1
      · rename_i he; rw [if_pos he]; exact hQ _ _ _ _ h1 hR1
      · rename_i he; rw [if_neg he]; exact hQ _ _ _ _ h1 hR1
    | ret => exact hQ _ _ _ _ h1 hR1
    | _ => exact h1.elim
  | loop b ih =>
    intro top ac h r htop n w0 N0 svv Q Q' σ a w hsv hQ hR hw
    simp only [mk, Option.map_eq_some_iff] at h
    obtain ⟨ab, hb, rfl⟩ := h
    obtain ⟨k, hk⟩ := hw
    refine wpIn_loop_rounds k ?_
    have key : ∀ k σ a w, Rel w0 N0 nt svv σ a w → loopN (wpA P E ab) (aget tl (firstR b)) Q k σ → Code.roundsIn (Fw r) n P b Q' k a w := by
      intro k
      induction k with
      | zero => intro σ a w _ h; exact h.elim
      | succ k ihk =>
        intro σ a w hR h
        obtain ⟨σ1, h1, h2⟩ := someA_spec h
        rw [roundsIn_succ]
        refine ih top ab hb r htop n w0 N0 svv _ _ σ1 a w hsv (fun e σ2 a2 w2 h3 hR2 => ?_) (hR.tidy h1) h2
        cases e with
        | normal => exact ihk σ2 a2 w2 hR2 h3
        | exit id => exact hQ _ _ _ _ h3 hR2
        | ret => exact hQ _ _ _ _ h3 hR2
        | _ => exact h3.elim
    exact key k σ a w hR hk
  | rangeFunc g ps ca cb iha ihb =>
    intro top ac h r htop
    simp only [mk] at h
    split at h
    · rename_i hcond
      simp only [Bool.and_eq_true] at hcond
      split at h
      · rename_i x y hx hy
        simp only [Option.some.injEq] at h
        subst h
        rw [htop hcond.1]
        exact range_ok hE (fun p hp => by simpa using List.all_eq_true.1 hcond.2 p hp) (fun l => iha false x hx (some l) fun h => by cases h) (fun l => ihb false y hy (some l) fun h => by cases h)
      · cases h
    · cases h
  | _ => intro top ac h; simp [mk] at h

/-! ### Results -/

inductive AResV where
  | tmp (t : Nat)
  | cell (t : Nat) (agg : Bool) (sz : Nat)

def resAV (σ : St) : AResV → Option AV
  | .tmp t => some (evO σ.tmps (.tmp t))
  | .cell t agg sz => match oneA (evO σ.tmps (.tmp t)) with
    | some (.ptr n off) => match aget σ.tab n with
      | some (.box cs) => if off + sz ≤ cs.length then aggA agg ((cs.drop off).take sz) else none
      | _ => none
    | _ => none

def resAVs (σ : St) : List AResV → Option (List AV)
  | [] => some []
  | x :: r => match resAV σ x, resAVs σ r with
    | some y, some ys => some (y :: ys)
    | _, _ => none

/-- Where the slices that are handed over stand. -/
def ownCs (T : Tab) (i : Nat) : Nat → List C → List ((Nat × Nat) × Nat)
  | _, [] => []
  | j, c :: r => match c with
    | .ref n => match aget T n with
      | some (.own _ _) => ((i, j), n) :: ownCs T i (j + 1) r
      | _ => ownCs T i (j + 1) r
    | _ => ownCs T i (j + 1) r

def ownAs (T : Tab) : Nat → List AV → List ((Nat × Nat) × Nat)
  | _, [] => []
  | i, x :: r => (match x with | .val _ cs => ownCs T i 0 cs | .tup _ => []) ++ ownAs T (i + 1) r

def cellR (T : Tab) (c : C) : Option (RC × List Nat) :=
  match c with
  | .ref n => match aget T n with
    | some (.own sz rows) => some (.own sz rows, [])
    | some (.imm rows) => some (.d (.sl rows), [n])
    | _ => none
  | c => (toDC T 4 c).map fun d => (.d d, namesC T 4 c)

def cellsR (T : Tab) : List C → Option (List RC × List Nat)
  | [] => some ([], [])
  | c :: r => match cellR T c, cellsR T r with
    | some (x, l), some (xs, ls) => some (x :: xs, l ++ ls)
    | _, _ => none

def avsR (T : Tab) : List AV → Option (List RV × List Nat)
  | [] => some ([], [])
  | .val b cs :: r => match cellsR T cs, avsR T r with
    | some (x, l), some (xs, ls) => some ((b, x) :: xs, l ++ ls)
    | _, _ => none
  | .tup _ :: _ => none

def ownsOk (l : List ((Nat × Nat) × Nat)) (names : List Nat) : Bool :=
  l.all fun p => !inN names p.2 && l.all fun q => !(p.2 == q.2) || (p.1.1 == q.1.1 && p.1.2 == q.1.2)

def resOut (rs : List AResV) (σ : St) : Option (List RV) :=
  match resAVs σ rs with
  | some avs => match avsR σ.tab avs with
    | some (res, names) => if ownsOk (ownAs σ.tab 0 avs) names then some res else none
    | none => none
  | none => none

def fnRes (P : Program) : List ResultVar → Option (List AResV)
  | [] => some []
  | .tmp t :: r => (fnRes P r).map (.tmp t :: ·)
  | .cell t ty :: r => match P.underlying ty, sizeT P ty with
    | some d, some s => (fnRes P r).map (.cell t (isAggD d) (if isAggD d then s else 1) :: ·)
    | _, _ => none

end Go.AM
