/- Turns. Plain: segments, their greatest and least numbers, the first and the last one of a kind. -/
import Derived.Test.YtcidonjhifjpaaaKC1
namespace Go.AM
set_option linter.unusedVariables false
set_option linter.unusedSimpArgs false

/-- The numbers from one place to ahead of another one. -/
def seg (L : List Int) (a i : Nat) : List Int := (L.drop a).take (i - a)
theorem seg_len {L : List Int} {a i : Nat} (h1 : a ≤ i) (h2 : i ≤ L.length) : (seg L a i).length = i - a := by simp [seg]; omega
theorem seg_get {L : List Int} {a i j : Nat} (h : a + j < i) : (seg L a i).getD j 0 = L.getD (a + j) 0 := by
  simp only [seg, List.getD_eq_getElem?_getD, List.getElem?_take, List.getElem?_drop]
  rw [if_pos (by omega)]
theorem seg_succ {L : List Int} {a i : Nat} (h1 : a ≤ i) (h2 : i < L.length) : seg L a (i + 1) = seg L a i ++ [L.getD i 0] := by
  have hl : i - a < (L.drop a).length := by simp; omega
  unfold seg
  rw [show i + 1 - a = (i - a) + 1 by omega]
  have h4 : ∀ (S : List Int) (k : Nat) (hi : k < S.length), S.take (k + 1) = S.take k ++ [S[k]'hi] := fun S k hi => by simp
  rw [h4 _ _ hl]
  congr 2
  rw [List.getElem_drop, gD h2]
  congr 1; omega
theorem seg_self {L : List Int} {a : Nat} : seg L a a = [] := by simp [seg]

def mxL (x : Int) (l : List Int) : Int := l.foldl (fun m y => if y > m then y else m) x
def mnL (x : Int) (l : List Int) : Int := l.foldl (fun m y => if y < m then y else m) x
theorem mxL_app {x : Int} {l : List Int} {y : Int} : mxL x (l ++ [y]) = if y > mxL x l then y else mxL x l := by unfold mxL; rw [List.foldl_append]; rfl
theorem mnL_app {x : Int} {l : List Int} {y : Int} : mnL x (l ++ [y]) = if y < mnL x l then y else mnL x l := by unfold mnL; rw [List.foldl_append]; rfl
theorem mxL_is : ∀ (l : List Int) (x : Int), (∀ y ∈ x :: l, y ≤ mxL x l) ∧ mxL x l ∈ x :: l
  | [], x => by simp [mxL]
  | a :: l, x => by
    have ih := mxL_is l (if a > x then a else x)
    have e : mxL x (a :: l) = mxL (if a > x then a else x) l := rfl
    rw [e]
    have hz : (if a > x then a else x) = a ∨ (if a > x then a else x) = x := by split <;> simp
    have hz2 : x ≤ (if a > x then a else x) ∧ a ≤ (if a > x then a else x) := by split <;> omega
    generalize (if a > x then a else x) = z at *
    have h0 := ih.1 z (by simp)
    refine ⟨fun y hy => ?_, ?_⟩
    · simp only [List.mem_cons] at hy
      rcases hy with rfl | rfl | hy
      · omega
      · omega
      · exact ih.1 y (List.mem_cons_of_mem _ hy)
    · rcases List.mem_cons.1 ih.2 with h | h
      · rw [h]; rcases hz with rfl | rfl <;> simp
      · exact List.mem_cons_of_mem _ (List.mem_cons_of_mem _ h)
theorem mnL_is : ∀ (l : List Int) (x : Int), (∀ y ∈ x :: l, mnL x l ≤ y) ∧ mnL x l ∈ x :: l
  | [], x => by simp [mnL]
  | a :: l, x => by
    have ih := mnL_is l (if a < x then a else x)
    have e : mnL x (a :: l) = mnL (if a < x then a else x) l := rfl
    rw [e]
    have hz : (if a < x then a else x) = a ∨ (if a < x then a else x) = x := by split <;> simp
    have hz2 : x ≥ (if a < x then a else x) ∧ a ≥ (if a < x then a else x) := by split <;> omega
    generalize (if a < x then a else x) = z at *
    have h0 := ih.1 z (by simp)
    refine ⟨fun y hy => ?_, ?_⟩
    · simp only [List.mem_cons] at hy
      rcases hy with rfl | rfl | hy
      · omega
      · omega
      · exact ih.1 y (List.mem_cons_of_mem _ hy)
    · rcases List.mem_cons.1 ih.2 with h | h
      · rw [h]; rcases hz with rfl | rfl <;> simp
      · exact List.mem_cons_of_mem _ (List.mem_cons_of_mem _ h)
/-- The greatest one of a list and one more. -/
theorem mx_swap {a x : Int} {l : List Int} : (if mxL a l > x then mxL a l else x) = mxL x (a :: l) := by
  have h1 := mxL_is l a
  have h2 := mxL_is (a :: l) x
  have h3 := h2.1 x (by simp)
  have h4 := h2.1 (mxL a l) (List.mem_cons_of_mem _ h1.2)
  rcases List.mem_cons.1 h2.2 with h | h
  · rw [h] at h4 ⊢
    split <;> omega
  · have := h1.1 _ h
    split <;> omega
theorem mn_swap {a x : Int} {l : List Int} : (if mnL a l < x then mnL a l else x) = mnL x (a :: l) := by
  have h1 := mnL_is l a
  have h2 := mnL_is (a :: l) x
  have h3 := h2.1 x (by simp)
  have h4 := h2.1 (mnL a l) (List.mem_cons_of_mem _ h1.2)
  rcases List.mem_cons.1 h2.2 with h | h
  · rw [h] at h4 ⊢
    split <;> omega
  · have := h1.1 _ h
    split <;> omega

/-- The first and the last place of a kind. -/
def fsI (q : Nat → Bool) (n : Nat) : Option Nat := srch (fun j => if q j = true then some j else none) n 0
def lsI (q : Nat → Bool) : Nat → Option Nat
  | 0 => none
  | j + 1 => if q j = true then some j else lsI q j
theorem srch_succ {B : Type} {p : Nat → Option B} : ∀ {m i : Nat}, srch p (m + 1) i = match srch p m i with | some b => some b | none => p (i + m)
  | 0, i => by simp only [srch]; cases p i <;> rfl
  | m + 1, i => by
    have ih := srch_succ (p := p) (m := m) (i := i + 1)
    have e : ∀ m i, srch p (m + 1) i = (match p i with | some b => some b | none => srch p m (i + 1)) := fun _ _ => rfl
    rw [e (m + 1) i, e m i]
    cases p i with
    | some b => rfl
    | none => simp only; rw [ih, show i + 1 + m = i + (m + 1) by omega]
theorem fsI_succ {q : Nat → Bool} {n : Nat} : fsI q (n + 1) = match fsI q n with | some j => some j | none => if q n = true then some n else none := by
  unfold fsI
  rw [srch_succ, Nat.zero_add]
  cases srch (fun j => if q j = true then some j else none) n 0 <;> rfl
theorem fs_ls {q : Nat → Bool} {n j : Nat} (h : fsI q n = some j) : q j = true ∧ j < n ∧ ∃ k, lsI q n = some k ∧ j ≤ k ∧ k < n ∧ q k = true := by
  induction n with
  | zero => cases h
  | succ n ih =>
    rw [fsI_succ] at h
    simp only [lsI]
    cases hf : fsI q n with
    | some i =>
      rw [hf] at h
      simp only [Option.some.injEq] at h
      subst h
      obtain ⟨h1, h2, k, h3, h4, h5, h6⟩ := ih hf
      refine ⟨h1, by omega, ?_⟩
      by_cases hq : q n = true
      · rw [if_pos hq]; exact ⟨n, rfl, by omega, by omega, hq⟩
      · rw [if_neg hq]; exact ⟨k, h3, h4, by omega, h6⟩
    | none =>
      rw [hf] at h
      simp only at h
      by_cases hq : q n = true
      · rw [if_pos hq] at h ⊢
        simp only [Option.some.injEq] at h
        subst h
        exact ⟨hq, by omega, n, rfl, by omega, by omega, hq⟩
      · rw [if_neg hq] at h; cases h
theorem fs_ex {q : Nat → Bool} {n j : Nat} (h1 : j < n) (h2 : q j = true) : ∃ i, fsI q n = some i := by
  cases hf : fsI q n with
  | some i => exact ⟨i, rfl⟩
  | none =>
    have := srch_none.1 hf j (by omega) (by omega)
    rw [h2] at this; cases this
theorem fsI_congr {q r : Nat → Bool} {n : Nat} (h : ∀ j, j < n → q j = r j) : fsI q n = fsI r n := by
  unfold fsI
  exact srch_congr fun j _ hj => by rw [h j (by omega)]
theorem lsI_congr {q r : Nat → Bool} : ∀ {n : Nat}, (∀ j, j < n → q j = r j) → lsI q n = lsI r n
  | 0, _ => rfl
  | n + 1, h => by simp only [lsI]; rw [h n (by omega), lsI_congr fun j hj => h j (by omega)]

abbrev Turn := Bool × Int × Int × Int
def fsZ (o : Option Nat) (d : Int) (a : Int) : Int := match o with | some j => a + (j : Int) | none => d
/-- A turn of the stretch from a to ahead of i. -/
def trn (q : Nat → Bool) (a i : Nat) (top : Bool) : Turn := (top, fsZ (fsI q (i - a)) (-1) a, fsZ (lsI q (i - a)) 0 a, (i : Int))
def nearT (N : Int) (L : List Int) (a i : Nat) (j : Nat) : Bool := decide (mxL (L.getD i 0) (seg L a i) - 2 * N ≤ L.getD (a + j) 0)
def nearB (N : Int) (L : List Int) (a i : Nat) (j : Nat) : Bool := decide (L.getD (a + j) 0 ≤ mnL (L.getD i 0) (seg L a i) + 2 * N)
/-- A sample more: the way (0 open, 1 up, 2 down), where the stretch begins, the turns. -/
def stp (N : Int) (L : List Int) (i : Nat) (st : Nat × Nat × List Turn) : Nat × Nat × List Turn :=
  if st.1 ≠ 2 ∧ 2 * N < mxL (L.getD i 0) (seg L st.2.1 i) - L.getD i 0 then (2, i, if st.1 = 1 then st.2.2 ++ [trn (nearT N L st.2.1 i) st.2.1 i true] else st.2.2)
  else if st.1 ≠ 1 ∧ 2 * N < L.getD i 0 - mnL (L.getD i 0) (seg L st.2.1 i) then (1, i, if st.1 = 2 then st.2.2 ++ [trn (nearB N L st.2.1 i) st.2.1 i false] else st.2.2)
  else st
def tst (N : Int) (L : List Int) : Nat → Nat × Nat × List Turn
  | 0 => (0, 0, [])
  | 1 => (0, 0, [])
  | i + 2 => stp N L (i + 1) (tst N L (i + 1))
theorem tst_succ {N : Int} {L : List Int} {i : Nat} (h : 1 ≤ i) : tst N L (i + 1) = stp N L i (tst N L i) := by
  obtain ⟨k, rfl⟩ : ∃ k, i = k + 1 := ⟨i - 1, by omega⟩
  rfl

/-- What holds of the turns. -/
structure TI (i : Nat) (st : Nat × Nat × List Turn) : Prop where
  w : st.1 ≤ 2
  f : st.2.1 ≤ i - 1
  n : st.2.2.length ≤ i
  o : st.1 = 0 → st.2.2 = []
  l : ∀ k, k + 1 = st.2.2.length → (st.2.2.getD k (true, 0, 0, 0)).1 = (if st.1 = 2 then true else false) ∧ (st.2.2.getD k (true, 0, 0, 0)).2.2.2 ≤ (st.2.1 : Int)
  a : ∀ k, k + 1 < st.2.2.length → (st.2.2.getD (k + 1) (true, 0, 0, 0)).1 ≠ (st.2.2.getD k (true, 0, 0, 0)).1 ∧ (st.2.2.getD k (true, 0, 0, 0)).2.2.2 < (st.2.2.getD (k + 1) (true, 0, 0, 0)).2.2.2
theorem app_get {A : Type} {l : List A} {x d : A} {k : Nat} : (l ++ [x]).getD k d = if k < l.length then l.getD k d else if k = l.length then x else d := by
  simp only [List.getD_eq_getElem?_getD]
  by_cases h : k < l.length
  · rw [if_pos h, List.getElem?_append_left h]
  · rw [if_neg h, List.getElem?_append_right (by omega)]
    by_cases h2 : k = l.length
    · subst h2; simp
    · rw [if_neg h2, List.getElem?_eq_none (by simp; omega)]; rfl
theorem TI.push {i : Nat} {w f : Nat} {out : List Turn} (h : TI i (w, f, out)) (h1 : 1 ≤ i) {w' : Nat} (hw : (w = 1 ∧ w' = 2) ∨ (w = 2 ∧ w' = 1)) {x y : Int} : TI (i + 1) (w', i, out ++ [(decide (w' = 2), x, y, (i : Int))]) := by
  refine ⟨by simp only; omega, by simp, ?_, fun h0 => by simp only at h0; omega, fun k hk => ?_, fun k hk => ?_⟩
  · have := h.n; simp only [List.length_append, List.length_singleton] at this ⊢; omega
  · simp only [List.length_append, List.length_singleton] at hk
    simp only
    rw [app_get, if_neg (by omega), if_pos (by omega)]
    rcases hw with ⟨_, rfl⟩ | ⟨_, rfl⟩ <;> simp
  · simp only [List.length_append, List.length_singleton] at hk
    simp only
    rw [app_get, app_get]
    by_cases hk2 : k + 1 < out.length
    · rw [if_pos hk2, if_pos (by omega)]; exact h.a k hk2
    · have hkl : k + 1 = out.length := by omega
      rw [if_neg hk2, if_pos hkl, if_pos (by omega)]
      obtain ⟨e1, e2⟩ := h.l k hkl
      have hf := h.f
      simp only at e1 e2 hf ⊢
      rw [e1]
      refine ⟨?_, by omega⟩
      rcases hw with ⟨rfl, rfl⟩ | ⟨rfl, rfl⟩ <;> simp
theorem TI.keep {i : Nat} {st : Nat × Nat × List Turn} (h : TI i st) : TI (i + 1) st := ⟨h.w, by have := h.f; omega, by have := h.n; omega, h.o, h.l, h.a⟩
theorem TI.first {i : Nat} {f : Nat} {out : List Turn} (h : TI i (0, f, out)) {w' : Nat} (hw : w' = 1 ∨ w' = 2) : TI (i + 1) (w', i, out) := by
  have ho := h.o rfl
  simp only at ho
  subst ho
  exact ⟨by simp only; omega, by simp, by simp, fun _ => rfl, fun k hk => by simp at hk, fun k hk => by simp at hk⟩
theorem TI.step {N : Int} {L : List Int} {i : Nat} {st : Nat × Nat × List Turn} (h : TI i st) (h1 : 1 ≤ i) : TI (i + 1) (stp N L i st) := by
  obtain ⟨w, f, out⟩ := st
  unfold stp
  have hw := h.w
  simp only at hw ⊢
  split
  · rename_i hc
    by_cases h2 : w = 1
    · subst h2
      simp only [if_true]
      exact h.push h1 (.inl ⟨rfl, rfl⟩)
    · have : w = 0 := by omega
      subst this
      rw [if_neg (by decide)]
      exact h.first (.inr rfl)
  · split
    · rename_i hc
      by_cases h2 : w = 2
      · subst h2
        simp only [if_true]
        exact h.push h1 (.inr ⟨rfl, rfl⟩)
      · have : w = 0 := by omega
        subst this
        rw [if_neg (by decide)]
        exact h.first (.inl rfl)
    · exact h.keep
theorem tst_ok {N : Int} {L : List Int} : ∀ i, 1 ≤ i → TI i (tst N L i)
  | 1, _ => ⟨by simp [tst], by simp [tst], by simp [tst], fun _ => rfl, fun k hk => by simp [tst] at hk, fun k hk => by simp [tst] at hk⟩
  | i + 2, _ => by
    rw [tst_succ (i := i + 1) (by omega)]
    exact (tst_ok (i + 1) (by omega)).step (by omega)

end Go.AM
