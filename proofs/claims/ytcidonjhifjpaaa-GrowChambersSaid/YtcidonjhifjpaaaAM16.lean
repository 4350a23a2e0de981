/- The abstract machine: calls. -/
import Derived.Test.YtcidonjhifjpaaaAM15
namespace Go.AM
open Go.RowKit

variable {P : Program} {E : Env} {w0 : Base} {w w' : World} {N0 : Nat → Prop} {g g' : Gh} {T T' : Tab} {r : Option Nat} {n : Nat} {o : Oper} {a : Act} {ρ : Operand → AV} {dst : Nat}
  {y : AV} {es : List (Nat × Entry)}

theorem freezeNames_ok : ∀ (names : List Nat) {T : Tab}, Mem w0 N0 g T w → Mem w0 N0 g (aputs T (freezeNames T names)) w ∧ Keeps N0 g T w g (aputs T (freezeNames T names)) w ∧
    ∀ b, avoid N0 g (aputs T (freezeNames T names)) b → butFor N0 g T names b
  | [], T, hM => ⟨hM, Keeps.refl, fun b h => by
      rcases h with h | ⟨m, h1, h2⟩
      · exact .inl h
      · exact .inr ⟨m, by simp, h1, h2⟩⟩
  | n :: rest, T, hM => by
    have step : ∀ {e : Entry}, (match e with | .box _ | .own _ _ => False | _ => True) → ∀ b, butFor N0 g (aput T n e) rest b → butFor N0 g T (n :: rest) b := by
      intro e he b hb
      rcases hb with h | ⟨m, h1, h2, h3⟩
      · exact .inl h
      · rw [live_aput] at h2
        by_cases hm : m = n
        · subst hm
          simp only [if_true] at h2
          cases e <;> simp_all
        · simp only [hm, if_false] at h2
          exact .inr ⟨m, by simp [hm, h1], h2, h3⟩
    simp only [freezeNames]
    split
    · rename_i s rows hm
      obtain ⟨h1, h2⟩ := hM.freeze hm
      obtain ⟨k1, k2, k3⟩ := freezeNames_ok rest h1
      exact ⟨k1, h2.trans k2, fun b hb => step (e := .imm rows) trivial b (k3 b hb)⟩
    · rename_i cs hm
      obtain ⟨h1, h2⟩ := hM.retire (n := n) (e := .dead) (isSome_of_get hm) trivial (fun _ => trivial)
      obtain ⟨k1, k2, k3⟩ := freezeNames_ok rest h1
      exact ⟨k1, h2.trans k2, fun b hb => step (e := .dead) trivial b (k3 b hb)⟩
    · rename_i hx hy
      obtain ⟨k1, k2, k3⟩ := freezeNames_ok rest hM
      refine ⟨k1, k2, fun b hb => ?_⟩
      rcases k3 b hb with h | ⟨m, h1, h2, h3⟩
      · exact .inl h
      · refine .inr ⟨m, ?_, h2, h3⟩
        simp only [List.mem_cons, not_or]
        refine ⟨fun e => ?_, h1⟩
        subst e
        unfold live at h2
        cases hq : aget T m with
        | none => rw [hq] at h2; exact h2
        | some q =>
          rw [hq] at h2
          cases q with
          | box cs => exact hy cs hq
          | own s rows => exact hx s rows hq
          | imm rows => exact h2
          | dead => exact h2

/-- A new slice in a result: its place, its rows, its value. -/
structure Imp where
  i : Nat
  j : Nat
  sz : Nat
  rows : List (List DC)
  x : Value

def Imp.name (dst : Nat) (q : Imp) : Nat := dst + 640000 * q.i + 10000 * q.j
def Imp.entry (dst : Nat) (q : Imp) : Nat × Entry := (q.name dst, .own q.sz q.rows)

theorem imp_cs (i : Nat) : ∀ (cs : List RC) (j : Nat) (xs : List Value), cs.length = xs.length →
    ∃ L : List Imp, (importCs (dst + 640000 * i) j cs).2 = L.map (Imp.entry dst) ∧ (importCs (dst + 640000 * i) j cs).1.length = cs.length ∧
      ∀ (N : Nat → Prop) (ob : Nat → Nat → Option Nat), (∀ (k : Nat) (c : RC) (x : Value), cs[k]? = some c → xs[k]? = some x → RCRel w N (ob i (j + k)) c x) →
      (∀ q ∈ L, SliceOwn w N q.sz q.rows q.x (ob q.i q.j)) ∧
      ∀ (k : Nat) (c : C) (x : Value), (importCs (dst + 640000 * i) j cs).1[k]? = some c → xs[k]? = some x → (∃ d, c = .d d ∧ DRel w N d x) ∨ ∃ q ∈ L, c = .ref (q.name dst) ∧ q.x = x
  | [], j, xs, hl => ⟨[], rfl, rfl, fun N ob h => ⟨by simp, by simp [importCs]⟩⟩
  | c :: rest, j, [], hl => by simp at hl
  | c :: rest, j, x :: xs, hl => by
    obtain ⟨L, h1, h3, h⟩ := imp_cs i rest (j + 1) xs (by simpa using hl)
    cases c with
    | d y =>
      refine ⟨L, by simpa [importCs] using h1, by simp [importCs, h3], fun N ob hr => ?_⟩
      obtain ⟨h2, h4⟩ := h N ob (fun k c' x' hc hx => by have := hr (k + 1) c' x' (by simpa using hc) (by simpa using hx); rwa [show j + (k + 1) = j + 1 + k by omega] at this)
      refine ⟨h2, fun k c' x' hc hx => ?_⟩
      cases k with
      | zero =>
        have h0 := hr 0 (.d y) x rfl rfl
        simp [importCs] at hc hx
        subst hc; subst hx
        exact .inl ⟨y, rfl, h0⟩
      | succ k => exact h4 k c' x' (by simpa [importCs] using hc) (by simpa using hx)
    | own sz rows =>
      refine ⟨⟨i, j, sz, rows, x⟩ :: L, by simp [importCs, Imp.entry, Imp.name, h1], by simp [importCs, h3], fun N ob hr => ?_⟩
      obtain ⟨h2, h4⟩ := h N ob (fun k c' x' hc hx => by have := hr (k + 1) c' x' (by simpa using hc) (by simpa using hx); rwa [show j + (k + 1) = j + 1 + k by omega] at this)
      refine ⟨fun q hq => ?_, fun k c' x' hc hx => ?_⟩
      · rcases List.mem_cons.1 hq with rfl | hq
        · exact hr 0 (.own sz rows) x rfl rfl
        · exact h2 q hq
      · cases k with
        | zero =>
          simp [importCs] at hc hx
          subst hc; subst hx
          exact .inr ⟨_, List.mem_cons_self, rfl, rfl⟩
        | succ k =>
          rcases h4 k c' x' (by simpa [importCs] using hc) (by simpa using hx) with h | ⟨q, hq, e⟩
          · exact .inl h
          · exact .inr ⟨q, List.mem_cons_of_mem _ hq, e⟩

/-- A value of the result, by its imports. -/
def ImpVl (w : World) (N : Nat → Prop) (dst : Nat) (L : List Imp) (p : Bool × List C) (v : Value) : Prop :=
  ∃ xs : List Value, (if p.1 then v = .agg xs.toArray else xs = [v]) ∧ p.2.length = xs.length ∧
    ∀ (k : Nat) (c : C) (x : Value), p.2[k]? = some c → xs[k]? = some x → (∃ d, c = .d d ∧ DRel w N d x) ∨ ∃ q ∈ L, c = .ref (q.name dst) ∧ q.x = x

theorem ImpVl.more {N : Nat → Prop} {L L' : List Imp} {p : Bool × List C} {v : Value} (h : ImpVl w N dst L p v) (hL : ∀ q ∈ L, q ∈ L') : ImpVl w N dst L' p v := by
  obtain ⟨xs, h1, h2, h4⟩ := h
  refine ⟨xs, h1, h2, fun k c x hc hx => ?_⟩
  rcases h4 k c x hc hx with h | ⟨q, hq, e⟩
  · exact .inl h
  · exact .inr ⟨q, hL q hq, e⟩

theorem imp_rs {N1 : Nat → Prop} {ob1 : Nat → Nat → Option Nat} : ∀ (res : List RV) (i : Nat) (vs : List Value), res.length = vs.length →
    (∀ (k : Nat) (x : RV) (u : Value), res[k]? = some x → vs[k]? = some u → RVRel w N1 (ob1 (i + k)) x u) →
    ∃ L : List Imp, (importRs dst i res).2 = L.map (Imp.entry dst) ∧ (importRs dst i res).1.length = res.length ∧
      ∀ (N : Nat → Prop) (ob : Nat → Nat → Option Nat), (∀ (k : Nat) (x : RV) (u : Value), res[k]? = some x → vs[k]? = some u → RVRel w N (ob (i + k)) x u) →
      (∀ q ∈ L, SliceOwn w N q.sz q.rows q.x (ob q.i q.j)) ∧
      ∀ (k : Nat) (p : Bool × List C) (u : Value), (importRs dst i res).1[k]? = some p → vs[k]? = some u → ImpVl w N dst L p u
  | [], i, vs, hl, _ => ⟨[], rfl, rfl, fun N ob h => ⟨by simp, by simp [importRs]⟩⟩
  | x :: rest, i, [], hl, _ => by simp at hl
  | (b, cs) :: rest, i, u :: vs, hl, hsh => by
    obtain ⟨L, h1, h3, h⟩ := imp_rs (ob1 := ob1) rest (i + 1) vs (by simpa using hl) (fun k c' x' hc hx => by have := hsh (k + 1) c' x' (by simpa using hc) (by simpa using hx); rwa [show i + (k + 1) = i + 1 + k by omega] at this)
    have hx : ∃ xs : List Value, (if b then u = .agg xs.toArray else xs = [u]) ∧ cs.length = xs.length ∧
        ∀ (N : Nat → Prop) (ob : Nat → Option Nat), RVRel w N ob (b, cs) u → ∀ (k : Nat) (c : RC) (x : Value), cs[k]? = some c → xs[k]? = some x → RCRel w N (ob (0 + k)) c x := by
      have h0 := hsh 0 (b, cs) u rfl rfl
      cases b with
      | true =>
        obtain ⟨xs, rfl, e2, _⟩ := h0
        refine ⟨xs.toList, by simp, by simpa using e2, fun N ob hr k c x hc hx => ?_⟩
        obtain ⟨xs', e1, _, e3⟩ := hr
        simp only [Value.agg.injEq] at e1
        subst e1
        rw [Nat.zero_add]
        exact e3 k c x hc (by simpa using hx)
      | false =>
        obtain ⟨c, rfl, _⟩ := h0
        refine ⟨[u], by simp, rfl, fun N ob hr k c' x hc hx => ?_⟩
        obtain ⟨c'', e1, e2⟩ := hr
        simp only [List.cons.injEq, and_true] at e1
        subst e1
        cases k with
        | zero => simp at hc hx; subst hc; subst hx; exact e2
        | succ k => simp at hc
    obtain ⟨xs, e1, e2, e3⟩ := hx
    obtain ⟨L', k1, k3, k⟩ := imp_cs (w := w) (dst := dst) i cs 0 xs e2
    refine ⟨L' ++ L, by simp [importRs, k1, h1], by simp [importRs, h3], fun N ob hr => ?_⟩
    obtain ⟨m1, m2⟩ := h N ob (fun k c' x' hc hx => by have := hr (k + 1) c' x' (by simpa using hc) (by simpa using hx); rwa [show i + (k + 1) = i + 1 + k by omega] at this)
    obtain ⟨n1, n2⟩ := k N ob (e3 N (ob i) (hr 0 (b, cs) u rfl rfl))
    refine ⟨fun q hq => ?_, fun k' p u' hp hu => ?_⟩
    · rcases List.mem_append.1 hq with hq | hq
      · exact n1 q hq
      · exact m1 q hq
    · cases k' with
      | zero =>
        simp [importRs] at hp hu
        subst hp; subst hu
        exact (ImpVl.more ⟨xs, e1, by rw [k3, e2], n2⟩ (fun q hq => List.mem_append_left _ hq))
      | succ k' => exact (m2 k' p u' (by simpa [importRs] using hp) (by simpa using hu)).more (fun q hq => List.mem_append_right _ hq)

theorem notIn_spec {n : Nat} : ∀ {es : List (Nat × Entry)}, notIn n es = true → aget es n = none
  | [], _ => rfl
  | p :: r, h => by
    simp only [notIn] at h
    split at h
    · cases h
    · rename_i hp
      simp only [aget, hp, if_false]
      exact notIn_spec h

/-- Entries laid down under new names. -/
theorem aget_aputs : ∀ {es : List (Nat × Entry)} {T : Tab}, freshAll T es = true → ∀ m, aget (aputs T es) m = (match aget es m with | some e => some e | none => aget T m) ∧ ((aget es m).isSome → aget T m = none)
  | [], T, _, m => ⟨rfl, by simp [aget]⟩
  | (k, e) :: r, T, h, m => by
    simp only [freshAll, Bool.and_eq_true] at h
    obtain ⟨⟨h1, h2⟩, h3⟩ := h
    have hk := none_of_isNone h1
    have hfr : freshAll (aput T k e) r = true := by
      have : ∀ {r : List (Nat × Entry)}, notIn k r = true → freshAll T r = true → freshAll (aput T k e) r = true := by
        intro r
        induction r with
        | nil => intro _ _; rfl
        | cons p r ih =>
          intro a b
          simp only [notIn] at a
          split at a
          · cases a
          · rename_i hp
            simp only [freshAll, Bool.and_eq_true] at b ⊢
            exact ⟨⟨by rw [aget_aput_other _ _ hp]; exact b.1.1, b.1.2⟩, ih a b.2⟩
      exact this h2 h3
    obtain ⟨i1, i2⟩ := aget_aputs hfr m
    simp only [aputs, aget]
    by_cases hm : k = m
    · subst hm
      simp only [if_true]
      rw [i1, notIn_spec h2]
      exact ⟨aget_aput_same _ _ _, fun _ => hk⟩
    · simp only [hm, if_false]
      rw [i1, aget_aput_other _ _ (Ne.symm hm)]
      refine ⟨rfl, fun hs => ?_⟩
      have := i2 hs
      rwa [aget_aput_other _ _ (Ne.symm hm)] at this

theorem aget_map_imp {L : List Imp} {m : Nat} {e : Entry} (h : aget (L.map (Imp.entry dst)) m = some e) : ∃ q ∈ L, q.name dst = m ∧ e = .own q.sz q.rows := by
  induction L with
  | nil => simp [aget] at h
  | cons q r ih =>
    simp only [List.map_cons, Imp.entry, aget] at h
    split at h
    · simp only [Option.some.injEq] at h
      exact ⟨q, List.mem_cons_self, by assumption, h.symm⟩
    · obtain ⟨q', h1, h2⟩ := ih h
      exact ⟨q', List.mem_cons_of_mem _ h1, h2⟩

theorem aget_map_mem {L : List Imp} (q : Imp) (hq : q ∈ L) : (aget (L.map (Imp.entry dst)) (q.name dst)).isSome := by
  induction L with
  | nil => simp at hq
  | cons p r ih =>
    simp only [List.map_cons, Imp.entry, aget]
    split
    · rfl
    · rcases List.mem_cons.1 hq with rfl | hq
      · simp_all
      · exact ih hq

/-- The import that bears a name. -/
def findImp (dst : Nat) (m : Nat) : List Imp → Option Imp
  | [] => none
  | q :: r => if q.name dst = m then some q else findImp dst m r

theorem findImp_get {m : Nat} : ∀ {L : List Imp}, aget (L.map (Imp.entry dst)) m = (findImp dst m L).map fun q => Entry.own q.sz q.rows
  | [] => rfl
  | q :: r => by
    simp only [List.map_cons, Imp.entry, aget, findImp]
    split
    · rfl
    · exact findImp_get

theorem findImp_mem {m : Nat} {q : Imp} : ∀ {L : List Imp}, findImp dst m L = some q → q ∈ L ∧ q.name dst = m
  | [], h => by simp [findImp] at h
  | p :: r, h => by
    simp only [findImp] at h
    split at h
    · simp only [Option.some.injEq] at h; subst h; exact ⟨List.mem_cons_self, by assumption⟩
    · have := findImp_mem h; exact ⟨List.mem_cons_of_mem _ this.1, this.2⟩

/-- No two imports bear one name. -/
theorem findImp_of_mem {q : Imp} : ∀ {L : List Imp} {T : Tab}, freshAll T (L.map (Imp.entry dst)) = true → q ∈ L → findImp dst (q.name dst) L = some q
  | [], _, _, h => by simp at h
  | p :: r, T, hf, h => by
    simp only [List.map_cons, freshAll, Bool.and_eq_true] at hf
    simp only [findImp]
    rcases List.mem_cons.1 h with rfl | h
    · simp
    · have hne : p.name dst ≠ q.name dst := fun e => by
        have h1 := notIn_spec hf.1.2
        have h2 := aget_map_mem (dst := dst) q h
        simp only [Imp.entry] at h1
        rw [e] at h1
        rw [h1] at h2
        cases h2
      rw [if_neg hne]
      exact findImp_of_mem hf.2 h

end Go.AM
