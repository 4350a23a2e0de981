/- Chapter 8: GrowSurely. -/
import Derived.Test.YtcidonjhifjpaaaKG4
namespace Go.AM
set_option linter.unusedVariables false
set_option linter.unusedSimpArgs false

/-! ### Plain -/

def sg (top : Bool) (x : Int) : Int := if top then x else -x
/-- A turn's own sample outdoes all that are not of the turn, by more than twice the noise. -/
def good (N : Int) (L : List Int) (a : Nat) (t : Turn) : Prop :=
  ∃ i F T p : Nat, t.2.1 = (F : Int) ∧ t.2.2.1 = (T : Int) ∧ t.2.2.2 = (i : Int) ∧ a ≤ F ∧ F ≤ p ∧ p ≤ T ∧ T < i ∧ i < L.length ∧ ∀ j, a ≤ j → j ≤ i → (j < F ∨ T < j) → sg t.1 (L.getD j 0) < sg t.1 (L.getD p 0) - 2 * N
theorem fs_min {q : Nat → Bool} {n f j : Nat} (h : fsI q n = some f) (hj : j < f) : q j = false := by
  obtain ⟨i, _, _, h3, h4⟩ := srch_some h
  have hif : i = f := by
    by_cases hq : q i = true
    · rw [if_pos hq] at h3; simpa using h3
    · rw [if_neg hq] at h3; cases h3
  have := h4 j (by omega) (by omega)
  cases hq : q j with
  | false => rfl
  | true => rw [hq] at this; cases this
theorem ls_max {q : Nat → Bool} : ∀ {n t j : Nat}, lsI q n = some t → t < j → j < n → q j = false
  | 0, t, j, h, _, _ => by cases h
  | n + 1, t, j, h, h1, h2 => by
    simp only [lsI] at h
    by_cases hq : q n = true
    · rw [if_pos hq] at h
      simp only [Option.some.injEq] at h
      omega
    · rw [if_neg hq] at h
      by_cases hj : j = n
      · subst hj; simpa using hq
      · exact ls_max h h1 (by omega)
theorem good_top {N : Int} {L : List Int} (hN : 0 ≤ N) {f i : Nat} (hfi : f < i) (h : i < L.length) (hc : 2 * N < mxL (L.getD i 0) (seg L f i) - L.getD i 0) : good N L f (trn (nearT N L f i) f i true) := by
  have h1 := mxL_is (seg L f i) (L.getD i 0)
  have hsl := seg_len (L := L) (a := f) (i := i) (by omega) (by omega)
  obtain ⟨j, hj, hLj⟩ : ∃ j, j < i - f ∧ L.getD (f + j) 0 = mxL (L.getD i 0) (seg L f i) := by
    rcases List.mem_cons.1 h1.2 with h4 | h4
    · omega
    · obtain ⟨j, hj, e⟩ := List.mem_iff_getElem.1 h4
      have hj' := hj
      rw [hsl] at hj'
      have : (seg L f i).getD j 0 = L.getD (f + j) 0 := seg_get (by omega)
      rw [gD hj, e] at this
      exact ⟨j, hj', this.symm⟩
  have hnj : nearT N L f i j = true := by unfold nearT; rw [hLj]; exact decide_eq_true (by omega)
  obtain ⟨ff, hff⟩ := fs_ex hj hnj
  obtain ⟨g1, g2, t, g3, g4, g5, g6⟩ := fs_ls hff
  have hjf : ff ≤ j := by
    by_cases hlt : j < ff
    · rw [fs_min hff hlt] at hnj; cases hnj
    · omega
  have hjt : j ≤ t := by
    by_cases hlt : t < j
    · rw [ls_max g3 hlt hj] at hnj; cases hnj
    · omega
  refine ⟨i, f + ff, f + t, f + j, by simp only [trn, hff, fsZ]; omega, by simp only [trn, g3, fsZ]; omega, rfl, by omega, by omega, by omega, by omega, h, fun k h5 h6 h7 => ?_⟩
  simp only [trn, sg, if_true]
  rw [hLj]
  by_cases hk : k = i
  · subst hk; omega
  · have hq : nearT N L f i (k - f) = false := by
      rcases h7 with h7 | h7
      · exact fs_min hff (by omega)
      · exact ls_max g3 (by omega) (by omega)
    unfold nearT at hq
    rw [show f + (k - f) = k by omega] at hq
    have := of_decide_eq_false hq
    omega
theorem good_bot {N : Int} {L : List Int} (hN : 0 ≤ N) {f i : Nat} (hfi : f < i) (h : i < L.length) (hc : 2 * N < L.getD i 0 - mnL (L.getD i 0) (seg L f i)) : good N L f (trn (nearB N L f i) f i false) := by
  have h1 := mnL_is (seg L f i) (L.getD i 0)
  have hsl := seg_len (L := L) (a := f) (i := i) (by omega) (by omega)
  obtain ⟨j, hj, hLj⟩ : ∃ j, j < i - f ∧ L.getD (f + j) 0 = mnL (L.getD i 0) (seg L f i) := by
    rcases List.mem_cons.1 h1.2 with h4 | h4
    · omega
    · obtain ⟨j, hj, e⟩ := List.mem_iff_getElem.1 h4
      have hj' := hj
      rw [hsl] at hj'
      have : (seg L f i).getD j 0 = L.getD (f + j) 0 := seg_get (by omega)
      rw [gD hj, e] at this
      exact ⟨j, hj', this.symm⟩
  have hnj : nearB N L f i j = true := by unfold nearB; rw [hLj]; exact decide_eq_true (by omega)
  obtain ⟨ff, hff⟩ := fs_ex hj hnj
  obtain ⟨g1, g2, t, g3, g4, g5, g6⟩ := fs_ls hff
  have hjf : ff ≤ j := by
    by_cases hlt : j < ff
    · rw [fs_min hff hlt] at hnj; cases hnj
    · omega
  have hjt : j ≤ t := by
    by_cases hlt : t < j
    · rw [ls_max g3 hlt hj] at hnj; cases hnj
    · omega
  refine ⟨i, f + ff, f + t, f + j, by simp only [trn, hff, fsZ]; omega, by simp only [trn, g3, fsZ]; omega, rfl, by omega, by omega, by omega, by omega, h, fun k h5 h6 h7 => ?_⟩
  simp only [trn, sg, Bool.false_eq_true, if_false]
  rw [hLj]
  by_cases hk : k = i
  · subst hk; omega
  · have hq : nearB N L f i (k - f) = false := by
      rcases h7 with h7 | h7
      · exact fs_min hff (by omega)
      · exact ls_max g3 (by omega) (by omega)
    unfold nearB at hq
    rw [show f + (k - f) = k by omega] at hq
    have := of_decide_eq_false hq
    omega

abbrev tz : Turn := (true, 0, 0, 0)
/-- Each turn is one of its stretch. -/
structure TG (N : Int) (L : List Int) (st : Nat × Nat × List Turn) : Prop where
  z : 0 < st.2.2.length → ∃ a, good N L a (st.2.2.getD 0 tz)
  s : ∀ k, k + 1 < st.2.2.length → ∃ a : Nat, (st.2.2.getD k tz).2.2.2 = (a : Int) ∧ good N L a (st.2.2.getD (k + 1) tz)
  l : ∀ k, k + 1 = st.2.2.length → (st.2.2.getD k tz).2.2.2 = (st.2.1 : Int)
theorem TG.push {N : Int} {L : List Int} {w w' f i : Nat} {out : List Turn} (h : TG N L (w, f, out)) {t : Turn} (ht : good N L f t) (hi : t.2.2.2 = (i : Int)) : TG N L (w', i, out ++ [t]) := by
  refine ⟨fun _ => ?_, fun k hk => ?_, fun k hk => ?_⟩
  · simp only
    rw [app_get]
    by_cases h0 : 0 < out.length
    · rw [if_pos h0]; exact h.z h0
    · rw [if_neg h0, if_pos (by omega)]; exact ⟨f, ht⟩
  · simp only [List.length_append, List.length_singleton] at hk
    simp only
    rw [app_get, app_get]
    by_cases h2 : k + 1 < out.length
    · rw [if_pos h2, if_pos (by omega)]; exact h.s k h2
    · have hkl : k + 1 = out.length := by omega
      rw [if_neg h2, if_pos hkl, if_pos (by omega)]
      exact ⟨f, h.l k hkl, ht⟩
  · simp only [List.length_append, List.length_singleton] at hk
    simp only
    rw [app_get, if_neg (by omega), if_pos (by omega)]
    exact hi
theorem TG.empty {N : Int} {L : List Int} {w f : Nat} : TG N L (w, f, []) := ⟨fun h => by simp at h, fun k hk => by simp at hk, fun k hk => by simp at hk⟩
theorem TG.step {N : Int} {L : List Int} (hN : 0 ≤ N) {i : Nat} (hi : i < L.length) {st : Nat × Nat × List Turn} (h : TG N L st) (hT : TI i st) (h1 : 1 ≤ i) : TG N L (stp N L i st) := by
  obtain ⟨w, f, out⟩ := st
  have hw := hT.w
  have hf := hT.f
  unfold stp
  simp only at hw hf ⊢
  split
  · rename_i hc
    by_cases h2 : w = 1
    · subst h2
      simp only [if_true]
      exact h.push (good_top hN (by omega) hi hc.2) rfl
    · have : w = 0 := by omega
      subst this
      have ho := hT.o rfl
      simp only at ho
      subst ho
      rw [if_neg (by decide)]
      exact TG.empty
  · split
    · rename_i hc
      by_cases h2 : w = 2
      · subst h2
        simp only [if_true]
        exact h.push (good_bot hN (by omega) hi hc.2) rfl
      · have : w = 0 := by omega
        subst this
        have ho := hT.o rfl
        simp only at ho
        subst ho
        rw [if_neg (by decide)]
        exact TG.empty
    · exact h
theorem tst_good {N : Int} {L : List Int} (hN : 0 ≤ N) : ∀ i, 1 ≤ i → i ≤ L.length → TG N L (tst N L i)
  | 1, _, _ => TG.empty
  | i + 2, _, h => by
    rw [tst_succ (i := i + 1) (by omega)]
    exact (tst_good hN (i + 1) (by omega) (by omega)).step hN (by omega) (tst_ok (i + 1) (by omega)) (by omega)

/-- The first greatest one. -/
def bI (V : Nat → Int) (a : Nat) : Nat → Nat
  | 0 => a
  | j + 1 => if V (bI V a j) < V (a + j) then a + j else bI V a j
theorem bI_ok {V : Nat → Int} {a : Nat} : ∀ j, (a ≤ bI V a j ∧ (0 < j → bI V a j < a + j) ∧ (j = 0 → bI V a j = a)) ∧ ∀ k, a ≤ k → k < a + j → V k ≤ V (bI V a j)
  | 0 => ⟨⟨Nat.le_refl _, by omega, fun _ => rfl⟩, fun k h1 h2 => by omega⟩
  | j + 1 => by
    obtain ⟨⟨i1, i2, i3⟩, i4⟩ := bI_ok (V := V) (a := a) j
    simp only [bI]
    by_cases h : V (bI V a j) < V (a + j)
    · rw [if_pos h]
      refine ⟨⟨by omega, fun _ => by omega, by omega⟩, fun k h1 h2 => ?_⟩
      by_cases hk : k = a + j
      · subst hk; exact Int.le_refl _
      · have := i4 k h1 (by omega); omega
    · rw [if_neg h]
      refine ⟨⟨i1, fun _ => ?_, by omega⟩, fun k h1 h2 => ?_⟩
      · by_cases h0 : j = 0
        · have := i3 h0; omega
        · have := i2 (by omega); omega
      · by_cases hk : k = a + j
        · subst hk; omega
        · exact i4 k h1 (by omega)

end Go.AM
namespace Go.AM.K
variable {α : Type}
set_option linter.unusedVariables false
set_option linter.unusedSimpArgs false

/-! ### The statement -/

section
variable {T : List Int} (hT : ∀ i, -3000000 ≤ T.getD i 0 ∧ T.getD i 0 ≤ 3000000)
theorem J5_3 {best k : Nat} {top : Bool} (h1 : best < T.length) (h2 : k < T.length) {K : Bool → Option α} : J5_0_3 α (best : Int) (k : Int) (T.map rI1) top K = K (decide (sg top (T.getD best 0) < sg top (T.getD k 0))) := by
  simp only [J5_0_3, J5_0_3g]
  rw [ixK_N h2, Int.toNat_natCast, ldK_N h2, ixK_N h1, Int.toNat_natCast, ldK_N h1]
  cases top with
  | true =>
    simp only [cK_true, Bool.not_true, cK_false, sg, if_true]
    cases decide (T.getD best 0 < T.getD k 0) <;> rfl
  | false =>
    simp only [cK_true, Bool.not_false, cK_false, sg, Bool.false_eq_true, if_false]
    rw [ixK_N h2, ldK_N h2, ixK_N h1, ldK_N h1]
    have : (-T.getD best 0 < -T.getD k 0) ↔ (T.getD k 0 < T.getD best 0) := by omega
    simp only [this]
theorem J5_5 {best i F U : Nat} {top : Bool} (h1 : best < T.length) (h2 : i < T.length) (h3 : F ≤ best ∧ best ≤ U) (h4 : sg top (T.getD i 0) < sg top (T.getD best 0)) {K : Bool → Option α} : J5_0_5 α (best : Int) (T.map rI1) top (F : Int) (U : Int) (i : Int) K = K false := by
  simp only [J5_0_5, J5_0_5g]
  have e1 : (decide ((F : Int) ≤ (best : Int)) && decide ((best : Int) ≤ (U : Int))) = true := by
    rw [decide_eq_true (show (F : Int) ≤ (best : Int) by omega), decide_eq_true (show (best : Int) ≤ (U : Int) by omega)]; rfl
  rw [f19_eq, e1, ixK_N h2, Int.toNat_natCast, ldK_N h2, ixK_N h1, Int.toNat_natCast, ldK_N h1]
  cases top with
  | true =>
    simp only [sg, if_true] at h4
    have : ¬ T.getD best 0 ≤ T.getD i 0 := by omega
    rw [decide_eq_false this]; rfl
  | false =>
    simp only [sg, Bool.false_eq_true, if_false] at h4
    have : ¬ T.getD i 0 ≤ T.getD best 0 := by omega
    simp only [Bool.not_true, Bool.not_false, cK_false, cK_true]
    rw [ixK_N h2, ldK_N h2, ixK_N h1, ldK_N h1, decide_eq_false this]
theorem L5_4 {a i : Nat} {top : Bool} (hai : a ≤ i) (h : i < T.length) (hl : T.length ≤ 200) {k1 : Int → Int → Bool → Option α} {fin : Int → Option α} (hk : ∀ x y z, k1 x y z = fin x) :
    L5_0_4 α (T.map rI1) top (i : Int) k1 (a : Int) (a : Int) = fin (bI (fun k => sg top (T.getD k 0)) a (i + 1 - a) : Int) := by
  simp only [L5_0_4]
  have hf := fuel_ge
  have := loopF (N := i + 1 - a) (R := fun n (j : Int) (s : Int) => R5_0_4 α (T.map rI1) top (i : Int) k1 n s ((a : Int) + j)) (st := fun j => (bI (fun k => sg top (T.getD k 0)) a j : Int)) (fin := fin (bI (fun k => sg top (T.getD k 0)) a (i + 1 - a) : Int)) (fun n j hj => ?_) (fun n => ?_) (i + 1 - a) 0 fuel (by omega) (by omega)
  · rw [show ((a : Int) + ((0 : Nat) : Int)) = (a : Int) by omega] at this
    exact this
  · have hle : ((a : Int) + (j : Int) ≤ (i : Int)) := by omega
    simp only [R5_0_4, S5_0_4, S5_0_4g, hle, decide_true, cK_true]
    obtain ⟨⟨b1, b2, b3⟩, b4⟩ := bI_ok (V := fun k => sg top (T.getD k 0)) (a := a) j
    have hb : bI (fun k => sg top (T.getD k 0)) a j < T.length := by
      by_cases h0 : j = 0
      · rw [b3 h0]; omega
      · have := b2 (by omega); omega
    rw [show ((a : Int) + (j : Int)) = ((a + j : Nat) : Int) by omega, J5_3 hb (by omega), w64_su (N := T.length) (by omega) (by omega), show ((a + j + 1 : Nat) : Int) = (a : Int) + ((j + 1 : Nat) : Int) by omega]
    simp only [bI]
    by_cases hc : sg top (T.getD (bI (fun k => sg top (T.getD k 0)) a j) 0) < sg top (T.getD (a + j) 0)
    · rw [if_pos hc, decide_eq_true hc, cK_true]
    · rw [if_neg hc, decide_eq_false hc, cK_false]
  · have hle : ¬ ((a : Int) + ((i + 1 - a : Nat) : Int) ≤ (i : Int)) := by omega
    simp only [R5_0_4, S5_0_4, S5_0_4g, hle, decide_false, cK_false, hk]
end

/-- The best one is of the turn. -/
theorem best_in {N : Int} {L T : List Int} (hl : T.length = L.length) (he : ∀ j, L.getD j 0 - N ≤ T.getD j 0 ∧ T.getD j 0 ≤ L.getD j 0 + N) {a a' i F U p : Nat} {top : Bool} (haa : a ≤ a') (hF : a' ≤ F) (h1 : F ≤ p) (h2 : p ≤ U) (h3 : U < i) (h4 : i < L.length)
    (h5 : ∀ j, a ≤ j → j ≤ i → (j < F ∨ U < j) → sg top (L.getD j 0) < sg top (L.getD p 0) - 2 * N) : (F ≤ bI (fun k => sg top (T.getD k 0)) a' (i + 1 - a') ∧ bI (fun k => sg top (T.getD k 0)) a' (i + 1 - a') ≤ U) ∧ sg top (T.getD i 0) < sg top (T.getD (bI (fun k => sg top (T.getD k 0)) a' (i + 1 - a')) 0) := by
  obtain ⟨⟨b1, b2, _⟩, b4⟩ := bI_ok (V := fun k => sg top (T.getD k 0)) (a := a') (i + 1 - a')
  have b2 := b2 (by omega)
  have b5 := b4 p (by omega) (by omega)
  have out : ∀ j, a ≤ j → j ≤ i → (j < F ∨ U < j) → sg top (T.getD j 0) < sg top (T.getD p 0) := fun j g1 g2 g3 => by
    have g4 := h5 j g1 g2 g3
    have g5 := he j
    have g6 := he p
    cases top with
    | true => simp only [sg, if_true] at g4 ⊢; omega
    | false => simp only [sg, Bool.false_eq_true, if_false] at g4 ⊢; omega
  have hi := out i (by omega) (by omega) (by omega)
  generalize bI (fun k => sg top (T.getD k 0)) a' (i + 1 - a') = b at *
  refine ⟨?_, by omega⟩
  by_cases hb : b < F ∨ U < b
  · have := out b (by omega) (by omega) hb
    omega
  · omega

theorem R5_6 {N : Int} {L T : List Int} (hN : 0 ≤ N) (hl : T.length = L.length) (hl2 : L.length ≤ 200) (he : ∀ j, L.getD j 0 - N ≤ T.getD j 0 ∧ T.getD j 0 ≤ L.getD j 0 + N) {st : Nat × Nat × List Turn} (hG : TG N L st) (hn : st.2.2.length ≤ 200) {k1 K : Option α} {k2 : Int → Int → Bool → Option α} (hk : ∀ a b c, k2 a b c = K) :
    ∀ (m k n : Nat), k + m = st.2.2.length → m < n → R5_0_6 α (T.map rI1) (st.2.2.map rT) k1 k2 n (if k = 0 then -1 else (st.2.2.getD (k - 1) tz).2.2.2) (k : Int) = K := by
  intro m
  induction m with
  | zero =>
    intro k n h1 h2
    obtain ⟨n, rfl⟩ : ∃ z, n = z + 1 := ⟨n - 1, by omega⟩
    have : ¬ k < st.2.2.length := by omega
    simp only [R5_0_6, S5_0_6, S5_0_6g, List.length_map, lt_len, this, decide_false, cK_false, hk]
  | succ m ih =>
    intro k n h1 h2
    obtain ⟨n, rfl⟩ : ∃ z, n = z + 1 := ⟨n - 1, by omega⟩
    have hki : k < st.2.2.length := by omega
    simp only [R5_0_6, S5_0_6, S5_0_6g, List.length_map, lt_len, hki, decide_true, cK_true]
    rw [ixK_T hki, Int.toNat_natCast, ldK_T4 hki]
    have ih' := ih (k + 1) n (by omega) (by omega)
    rw [if_neg (by omega), show k + 1 - 1 = k by omega] at ih'
    have hgo : ∀ a : Nat, good N L a (st.2.2.getD k tz) → ∀ fr : Int, ((fr = -1) ∨ fr = (a : Int)) → 
        J5_0_1 α fr (T.map rI1) (st.2.2.getD k t0).2.1 (st.2.2.getD k t0).2.2.1 (st.2.2.getD k t0).2.2.2 (fun x45 => cK x45 k1
            (J5_0_2 α fr
              (L5_0_4 α (T.map rI1) (st.2.2.getD k t0).1 (st.2.2.getD k t0).2.2.2
                (fun (x88 : Int) (x89 : Int) (x90 : Bool) => J5_0_5 α x88 (T.map rI1) (st.2.2.getD k t0).1 (st.2.2.getD k t0).2.1 (st.2.2.getD k t0).2.2.1 (st.2.2.getD k t0).2.2.2
                  (fun (x110 : Bool) => cK x110
                    (k1)
                    (R5_0_6 α (T.map rI1) (st.2.2.map rT) k1 k2 n (st.2.2.getD k t0).2.2.2 (w64 ((k : Int) + 1))))) (st.2.2.getD k t0).2.1 (st.2.2.getD k t0).2.1)
              (fun (x57 : Bool) => L5_0_4 α (T.map rI1) (st.2.2.getD k t0).1 (st.2.2.getD k t0).2.2.2
                (fun (x112 : Int) (x113 : Int) (x114 : Bool) => J5_0_5 α x112 (T.map rI1) (st.2.2.getD k t0).1 (st.2.2.getD k t0).2.1 (st.2.2.getD k t0).2.2.1 (st.2.2.getD k t0).2.2.2
                  (fun (x116 : Bool) => cK x116
                    (k1)
                    (R5_0_6 α (T.map rI1) (st.2.2.map rT) k1 k2 n (st.2.2.getD k t0).2.2.2 (w64 ((k : Int) + 1))))) fr fr))) = K := by
      intro a hg fr hfr
      obtain ⟨i, F, U, p, e1, e2, e3, g1, g2, g3, g4, g5, g6⟩ := hg
      have e3' := e3
      generalize st.2.2.getD k tz = tt at *
      have et : tt = (tt.1, (F : Int), (U : Int), (i : Int)) := by obtain ⟨x1, x2, x3, x4⟩ := tt; simp only at e1 e2 e3; subst e1; subst e2; subst e3; rfl
      rw [e1, e2, e3, w64_su hki (by omega)]
      rw [e3] at ih'
      simp only [J5_0_1, J5_0_1g]
      have w1 : (decide ((0 : Int) ≤ (F : Int)) && decide ((F : Int) ≤ (U : Int))) = true := by
        rw [decide_eq_true (show (0 : Int) ≤ (F : Int) by omega), decide_eq_true (show (F : Int) ≤ (U : Int) by omega)]; rfl
      have w2 : (decide ((0 : Int) ≤ (U : Int)) && decide ((U : Int) ≤ w64 ((i : Int) - 1))) = true := by
        rw [w64_in (by omega) (by omega), decide_eq_true (show (0 : Int) ≤ (U : Int) by omega), decide_eq_true (show (U : Int) ≤ (i : Int) - 1 by omega)]; rfl
      have w3 : ¬ ((((T.map rI1).length : Nat) : Int) ≤ (i : Int)) := by simp; omega
      rw [f19_eq, w1, f19_eq, w2, decide_eq_false w3]
      simp only [Bool.not_true, cK_false]
      rcases hfr with rfl | rfl
      · have n1 : ¬ (0 : Int) ≤ -1 := by omega
        rw [decide_eq_false n1]
        simp only [cK_false, J5_0_2, J5_0_2g]
        rw [decide_eq_true (show (-1 : Int) < 0 by omega), cK_true]
        obtain ⟨c1, c2⟩ := best_in (a' := F) hl he g1 (Nat.le_refl F) g2 g3 g4 g5 g6
        rw [L5_4 (by omega) (by omega) (by omega) (fin := fun x => J5_0_5 α x (T.map rI1) tt.1 (F : Int) (U : Int) (i : Int) fun x110 => cK x110 k1 (R5_0_6 α (T.map rI1) (st.2.2.map rT) k1 k2 n (i : Int) ((k + 1 : Nat) : Int))) (fun _ _ _ => rfl), J5_5 (by omega) (by omega) c1 c2]
        exact ih'
      · have n1 : (0 : Int) ≤ (a : Int) := by omega
        have n2 : ¬ ((F : Int) < (a : Int)) := by omega
        rw [decide_eq_true n1, cK_true, decide_eq_false n2]
        simp only [cK_false, J5_0_2, J5_0_2g]
        rw [decide_eq_false (show ¬ (a : Int) < 0 by omega), cK_false]
        obtain ⟨c1, c2⟩ := best_in (a' := a) hl he (Nat.le_refl a) g1 g2 g3 g4 g5 g6
        rw [L5_4 (by omega) (by omega) (by omega) (fin := fun x => J5_0_5 α x (T.map rI1) tt.1 (F : Int) (U : Int) (i : Int) fun x110 => cK x110 k1 (R5_0_6 α (T.map rI1) (st.2.2.map rT) k1 k2 n (i : Int) ((k + 1 : Nat) : Int))) (fun _ _ _ => rfl), J5_5 (by omega) (by omega) c1 c2]
        exact ih'
    by_cases h0 : k = 0
    · subst h0
      obtain ⟨a, ha⟩ := hG.z hki
      exact hgo a ha (-1) (.inl rfl)
    · obtain ⟨k', rfl⟩ : ∃ k', k = k' + 1 := ⟨k - 1, by omega⟩
      obtain ⟨a, ha, hg⟩ := hG.s k' hki
      rw [if_neg h0, show k' + 1 - 1 = k' by omega]
      exact hgo a hg _ (.inr ha)

/-- The truth. -/
def trF (l : List Nat) (E : List Int) (i : Nat) : List Int := (List.range i).map fun j => smp (l.getD j 0) + E.getD j 0
theorem R5_0 {N : Int} {l : List Nat} {E : List Int} (hs : (chkSig N l).2 = 0) (hl : E.length = l.length) {k1 K : Option α} {k2 : Int → Bool → Rows → Option α} (hk1 : k1 = K) (hk2 : ∀ a b, (∀ j, j < l.length → -N ≤ E.getD j 0 ∧ E.getD j 0 ≤ N) → k2 a b ((trF l E l.length).map rI1) = K) :
    ∀ (m i n : Nat), i + m = l.length → m < n → (∀ j, j < i → -N ≤ E.getD j 0 ∧ E.getD j 0 ≤ N) → R5_0_0 α (E.map rI1) N (l.map rF) k1 k2 n (i : Int) ((trF l E i).map rI1) = K := by
  obtain ⟨g1, g2, g3⟩ := chkSig_ok hs
  intro m
  induction m with
  | zero =>
    intro i n h1 h2 h3
    obtain ⟨n, rfl⟩ : ∃ z, n = z + 1 := ⟨n - 1, by omega⟩
    have : i = l.length := by omega
    subst this
    simp only [R5_0_0, S5_0_0, S5_0_0g, List.length_map, hl, Int.lt_irrefl, decide_false, cK_false]
    exact hk2 _ _ h3
  | succ m ih =>
    intro i n h1 h2 h3
    obtain ⟨n, rfl⟩ : ∃ z, n = z + 1 := ⟨n - 1, by omega⟩
    have hi : i < l.length := by omega
    simp only [R5_0_0, S5_0_0, S5_0_0g, List.length_map, hl, lt_len, hi, decide_true, cK_true]
    rw [rowK_N (by omega) (by omega), Int.toNat_natCast, f19_eq, w64_in (n := 0 - N) (by omega) (by omega)]
    by_cases hw : -N ≤ E.getD i 0 ∧ E.getD i 0 ≤ N
    · have e : (decide (0 - N ≤ E.getD i 0) && decide (E.getD i 0 ≤ N)) = true := by
        rw [decide_eq_true (show 0 - N ≤ E.getD i 0 by omega), decide_eq_true hw.2]; rfl
      obtain ⟨s1, s2, s3⟩ := smp_ok (g3 i hi)
      rw [e, Bool.not_true, cK_false, rowK_F hi, s1]
      show rowK (E.map rI1) (i : Int) [.int .i64] _ = _
      have hs : trF l E (i + 1) = trF l E i ++ [smp (l.getD i 0) + E.getD i 0] := by unfold trF; rw [List.range_succ, List.map_append]; rfl
      rw [rowK_N (by omega) (by omega), Int.toNat_natCast, w64_in (n := smp (l.getD i 0) + E.getD i 0) (by omega) (by omega), w64_su hi (by omega),
        show [[DC.v (Value.int .i64 (smp (l.getD i 0) + E.getD i 0))]] = [smp (l.getD i 0) + E.getD i 0].map rI1 from rfl, apOk_of (enc := rI1) (fun _ => rfl) (by simp [trF]; omega) (by simp [trF]; omega), gK_true, ← List.map_append, ← hs]
      exact ih (i + 1) n (by omega) (by omega) (fun j hj => by
        by_cases hji : j = i
        · subst hji; exact hw
        · exact h3 j (by omega))
    · have e : (decide (0 - N ≤ E.getD i 0) && decide (E.getD i 0 ≤ N)) = false := by
        by_cases ha : 0 - N ≤ E.getD i 0
        · have hb : ¬ E.getD i 0 ≤ N := fun hb => hw ⟨by omega, hb⟩
          rw [decide_eq_true ha, decide_eq_false hb]; rfl
        · rw [decide_eq_false ha]; rfl
      rw [e, Bool.not_false, cK_true, hk1]

theorem law5 {N : Int} {l : List Nat} {E : List Int} {k : Bool → Option α} : f5_0 α N (l.map rF) (E.map rI1) k = k true := by
  simp only [f5_0, f5_0g, f14_0, List.length_map]
  by_cases h60 : (60 : Int) < ((l.length : Nat) : Int)
  · simp [h60]
  by_cases hne : (((E.length : Nat) : Int) != ((l.length : Nat) : Int)) = true
  · simp [h60, hne]
  have hle : E.length = l.length := by
    by_cases h : E.length = l.length
    · exact h
    · exact absurd (bne_iff_ne.2 (by omega)) hne
  have hne' : (((E.length : Nat) : Int) != ((l.length : Nat) : Int)) = false := by simpa using hne
  simp only [h60, hne', decide_false, cK_false]
  rw [f23_eq (by omega)]
  by_cases he : (chkSig N l).2 = 0
  · obtain ⟨g1, g2, g3⟩ := chkSig_ok he
    rw [he]
    simp only [bne_self_eq_false, cK_false, L5_0_0]
    have hf := fuel_ge
    refine R5_0 (α := α) (K := k true) he hle rfl (fun a b hE => ?_) l.length 0 fuel (by omega) (by omega) (fun j hj => by omega)
    rw [f21_eq (by omega), f22_eq (by omega), if_neg (by simp [he]), flT]
    have hlen : (l.map smp).length = l.length := by simp
    have htl : (trF l E l.length).length = l.length := by simp [trF]
    by_cases hz : l.length = 0
    · have hl0 : l = [] := List.length_eq_zero_iff.1 hz
      subst hl0
      obtain ⟨n, hn⟩ : ∃ n, fuel = n + 1 := ⟨fuel - 1, by omega⟩
      simp only [L5_0_6, hn, R5_0_6, S5_0_6, S5_0_6g, tst, trF, List.map_nil, List.length_nil, List.range_zero]
      rfl
    · have hG := tst_good (N := N) (L := l.map smp) g1.1 l.length (by omega) (by omega)
      have hT := tst_ok (N := N) (L := l.map smp) l.length (by omega)
      generalize (tst N (l.map smp) l.length) = st at hG hT ⊢
      have hn := hT.n
      have hnl : ¬ ((((trF l E l.length).length : Nat) : Int) < ((st.2.2.length : Nat) : Int)) := by rw [htl]; omega
      simp only [bne_self_eq_false, cK_false, List.length_map, hnl, decide_false, L5_0_6]
      have := R5_6 (α := α) (N := N) (L := l.map smp) (T := trF l E l.length) g1.1 (by rw [htl, hlen]) (by rw [hlen]; omega) (fun j => by
        by_cases hj : j < l.length
        · have e1 : (l.map smp).getD j 0 = smp (l.getD j 0) := by rw [gD (by simpa using hj), gD hj]; simp
          have e2 : (trF l E l.length).getD j 0 = smp (l.getD j 0) + E.getD j 0 := by
            rw [gD (by rw [htl]; exact hj)]; simp [trF]
          have := hE j hj
          rw [e1, e2]; omega
        · have e1 : (l.map smp).getD j 0 = 0 := by rw [List.getD_eq_getElem?_getD, List.getElem?_eq_none (by rw [hlen]; omega)]; rfl
          have e2 : (trF l E l.length).getD j 0 = 0 := by rw [List.getD_eq_getElem?_getD, List.getElem?_eq_none (by rw [htl]; omega)]; rfl
          rw [e1, e2]; omega) hG (by omega) (k1 := k false) (K := k true) (k2 := fun _ _ _ => k true) (fun _ _ _ => rfl) st.2.2.length 0 fuel (by omega) (by omega)
      exact this
  · have : ((chkSig N l).2 != 0) = true := bne_iff_ne.2 he
    rw [this]; rfl

end Go.AM.K
