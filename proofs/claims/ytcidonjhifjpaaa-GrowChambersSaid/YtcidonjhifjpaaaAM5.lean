/- The abstract machine: operands and values. -/
import Derived.Test.YtcidonjhifjpaaaAM4
namespace Go.AM
open Go.RowKit

variable {P : Program} {w0 : Base} {w w' : World} {N : Nat → Prop} {N0 : Nat → Prop} {g g' : Gh} {T T' : Tab}

theorem plain_one {x : Value} (h : plain x = true) : x.oneCell' = true := by
  cases x <;> simp_all [plain, Value.oneCell']

theorem DRel.one {d : DC} {v : Value} (h : DRel w N d v) : v.oneCell' = true := by
  cases h with
  | v h => exact plain_one h
  | _ => rfl

theorem CRel.one {c : C} {v : Value} (h : CRel w N g T c v) (ho : okC c = true) : v.oneCell' = true := by
  cases c with
  | d x => exact DRel.one h
  | nils => rw [show v = _ from h]; rfl
  | und => simp [okC] at ho
  | unk => simp [okC] at ho
  | yld l => simp [okC] at ho
  | sub n lo hi => simp [okC] at ho
  | ref n => obtain ⟨_, _, a, l, c, rfl⟩ := h; rfl
  | ptr n off => obtain ⟨_, b, _, rfl⟩ := h; rfl
  | eptr n i off => obtain ⟨_, b, o, len, cap, _, rfl⟩ := h; rfl
  | fn f caps => obtain ⟨cs, rfl, _⟩ := h; rfl

theorem cells_of_one {v : Value} (h : v.oneCell' = true) : v.cells = #[v] := by cases v <;> simp_all [Value.oneCell', Value.cells]

theorem okCs_get {cs : List C} (h : okCs cs = true) : ∀ (i : Nat) (c : C), cs[i]? = some c → okC c = true := by
  induction cs with
  | nil => intro i c hc; simp at hc
  | cons x r ih =>
    simp only [okCs, Bool.and_eq_true] at h
    intro i c hc
    cases i with
    | zero => simp at hc; subst hc; exact h.1
    | succ i => exact ih h.2 i c (by simpa using hc)

theorem okCs_of {cs : List C} (h : ∀ (i : Nat) (c : C), cs[i]? = some c → okC c = true) : okCs cs = true := by
  induction cs with
  | nil => rfl
  | cons x r ih =>
    simp only [okCs, Bool.and_eq_true]
    exact ⟨h 0 x rfl, ih fun i c hc => h (i + 1) c (by simpa using hc)⟩

/-- The cells of a value that may be laid into memory. -/
theorem VlRel.cells {b : Bool} {cs : List C} {v : Value} (h : VlRel w N g T b cs v) (ho : okCs cs = true) :
    v.cells.size = cs.length ∧ (∀ (i : Nat) (c : C) (x : Value), cs[i]? = some c → v.cells[i]? = some x → CRel w N g T c x) ∧ ∀ x ∈ v.cells.toList, x.oneCell' = true := by
  have key : v.cells.size = cs.length ∧ (∀ (i : Nat) (c : C) (x : Value), cs[i]? = some c → v.cells[i]? = some x → CRel w N g T c x) := by
    cases b with
    | true =>
      obtain ⟨xs, rfl, h2, h3⟩ := h
      exact ⟨h2.symm, h3⟩
    | false =>
      obtain ⟨c, rfl, hc⟩ := h
      have hone := hc.one (okCs_get ho 0 c rfl)
      rw [cells_of_one hone]
      refine ⟨rfl, fun i c' x h1 h2 => ?_⟩
      cases i with
      | zero => simp at h1 h2; subst h1; subst h2; exact hc
      | succ i => simp at h1
  refine ⟨key.1, key.2, fun x hx => ?_⟩
  obtain ⟨i, hi⟩ := List.mem_iff_getElem?.1 hx
  have hi' : v.cells[i]? = some x := by simpa using hi
  have hlt : i < cs.length := by rw [← key.1]; exact (Array.getElem?_eq_some_iff.1 hi').1
  exact (key.2 i cs[i] x (by simp [hlt]) hi').one (okCs_get ho i _ (by simp [hlt]))

theorem cellsA_rel {x : AV} {cs : List C} {v : Value} (hx : AVRel w N g T x v) (h : cellsA x = some cs) : ∃ b, VlRel w N g T b cs v := by
  cases x with
  | val b cs' => simp only [cellsA, Option.some.injEq] at h; subst h; exact ⟨b, hx⟩
  | tup l => simp [cellsA] at h

theorem oneA_rel {x : AV} {c : C} {v : Value} (hx : AVRel w N g T x v) (h : oneA x = some c) : CRel w N g T c v := by
  unfold oneA at h
  split at h
  · simp only [Option.some.injEq] at h
    subst h
    obtain ⟨c', h1, h2⟩ := hx
    simp only [List.cons.injEq, and_true] at h1
    subst h1
    exact h2
  · cases h

theorem dv_rel {x : Value} {v : Value} (h : DRel w N (.v x) v) : v = x ∧ plain x = true := by
  cases h with
  | v h => exact ⟨rfl, h⟩

theorem intA_rel {x : AV} {z : Int} {v : Value} (hx : AVRel w N g T x v) (h : intA x = some z) : ∃ k, v = .int k z := by
  unfold intA at h
  split at h
  · simp only [Option.some.injEq] at h
    subst h
    obtain ⟨c', h1, h2⟩ := hx
    simp only [List.cons.injEq, and_true] at h1
    subst h1
    exact ⟨_, (dv_rel h2).1⟩
  · cases h

theorem boolA_rel {x : AV} {b : Bool} {v : Value} (hx : AVRel w N g T x v) (h : boolA x = some b) : v = .bool b := by
  unfold boolA at h
  split at h
  · simp only [Option.some.injEq] at h
    subst h
    obtain ⟨c', h1, h2⟩ := hx
    simp only [List.cons.injEq, and_true] at h1
    subst h1
    exact (dv_rel h2).1
  · cases h

theorem plainC_rel {c : C} {x v : Value} (hc : CRel w N g T c v) (h : plainC c = some x) : v = x := by
  unfold plainC at h
  split at h
  · simp only [Option.some.injEq] at h
    subst h
    exact (dv_rel hc).1
  · cases h

theorem plainCs_spec : ∀ {cs : List C} {xs : List Value}, plainCs cs = some xs → xs.length = cs.length ∧ ∀ (i : Nat) (c : C), cs[i]? = some c → ∃ x, xs[i]? = some x ∧ plainC c = some x
  | [], xs, h => by simp [plainCs] at h; subst h; simp
  | c :: r, xs, h => by
    simp only [plainCs] at h
    split at h
    · rename_i x ys h1 h2
      simp only [Option.some.injEq] at h
      subst h
      obtain ⟨h3, h4⟩ := plainCs_spec h2
      refine ⟨by simp [h3], fun i c' hc' => ?_⟩
      cases i with
      | zero => simp at hc'; subst hc'; exact ⟨x, rfl, h1⟩
      | succ i => obtain ⟨y, hy, hp⟩ := h4 i c' (by simpa using hc'); exact ⟨y, by simpa using hy, hp⟩
    · cases h

theorem toVal_rel {x : AV} {u v : Value} (hx : AVRel w N g T x v) (h : toVal x = some u) : v = u := by
  unfold toVal at h
  split at h
  · rename_i c
    obtain ⟨c', h1, h2⟩ := hx
    simp only [List.cons.injEq, and_true] at h1
    subst h1
    exact plainC_rel h2 h
  · rename_i cs
    obtain ⟨xs, rfl, h2, h3⟩ := hx
    cases hp : plainCs cs with
    | none => simp [hp] at h
    | some ys =>
      simp only [hp, Option.map_some, Option.some.injEq] at h
      subst h
      obtain ⟨h4, h5⟩ := plainCs_spec hp
      congr 1
      apply Array.ext'
      apply List.ext_getElem?
      intro i
      by_cases hi : i < cs.length
      · obtain ⟨y, hy, hc⟩ := h5 i cs[i] (by simp [hi])
        have hlt : i < xs.size := by omega
        have := h3 i cs[i] xs[i] (by simp [hi]) (by simp [hlt])
        rw [show ys.toArray.toList[i]? = some y from by simpa using hy]
        rw [← plainC_rel this hc]
        simp [hlt]
      · have h6 : xs.size ≤ i := by omega
        have h7 : ys.length ≤ i := by omega
        simp [h6, h7]
  · cases h

theorem ofValC_rel (x : Value) : CRel w N g T (ofValC x) x := by
  unfold ofValC
  split
  · rename_i h; exact DRel.v h
  · have key : ∀ y, y = x → CRel w N g T (match y with | .slice none 0 0 => C.nils | .func (.func f) first caps => (if first.size = 0 ∧ caps.size = 0 then C.fn f [] else C.unk) | _ => C.unk) x := by
      intro y hy
      split
      · subst hy; rfl
      · rename_i f first caps
        split
        · rename_i h
          obtain ⟨h1, h2⟩ := h
          have e1 : first = #[] := Array.eq_empty_of_size_eq_zero h1
          have e2 : caps = #[] := Array.eq_empty_of_size_eq_zero h2
          subst e1; subst e2; subst hy
          exact ⟨#[], rfl, rfl, fun i c x hc => by simp at hc⟩
        · trivial
      · trivial
    exact key x rfl

theorem ofVal_rel (x : Value) : AVRel w N g T (ofVal x) x := by
  cases x
  case agg cs =>
    refine ⟨cs, rfl, by simp, fun i c x hc hx => ?_⟩
    simp only [List.getElem?_map, Array.getElem?_toList, hx, Option.map_some, Option.some.injEq] at hc
    subst hc
    exact ofValC_rel x
  all_goals exact ⟨_, rfl, ofValC_rel _⟩

theorem evalPure_run {α : Type} {s : Sem α} {a : α} (h : evalPure P s = some a) (w : World) : s.run P w = .ok a w := by
  induction s with
  | pure b => simp only [evalPure, Option.some.injEq] at h; subst h; rfl
  | program k ih => exact ih P h
  | mark m k ih => exact ih h
  | _ => simp [evalPure] at h

/-- The frame's slots. -/
def SRel (w : World) (N : Nat → Prop) (g : Gh) (T : Tab) (tmps : List (Nat × AV)) (vals : Array Value) : Prop :=
  ∀ t x, aget tmps t = some x → AVRel w N g T x (vals.getD t undef)

theorem evO_rel {tmps : List (Nat × AV)} {a : Act} (h : SRel w N g T tmps a.tmps) (x : Operand) : AVRel w N g T (evO tmps x) (a.eval x) := by
  cases x with
  | tmp t =>
    simp only [evO, Act.eval]
    cases hx : aget tmps t with
    | none => exact ⟨.unk, rfl, trivial⟩
    | some y => exact h t y hx
  | const v => exact ofVal_rel v
  | func f => exact ⟨_, rfl, #[], rfl, rfl, fun i c x hc => by simp at hc⟩
  | global n => exact ⟨.unk, rfl, trivial⟩

end Go.AM
