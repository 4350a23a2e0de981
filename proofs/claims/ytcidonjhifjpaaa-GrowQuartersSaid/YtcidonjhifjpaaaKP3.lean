/- Chapter 8: GrowRates. -/
import Derived.Test.YtcidonjhifjpaaaKP2
namespace Go.AM.K
variable {α : Type}
set_option linter.unusedVariables false

def okR (lo hi a b : Int) : Prop := (lo ≤ a ∧ a ≤ hi) ∧ (lo ≤ b ∧ b ≤ hi) ∧ a ≤ b
theorem rErr_ok {lo hi a b : Int} (h : okR lo hi a b) : rErr lo hi a b = 0 := by
  unfold rErr okR at *
  rw [if_pos ⟨h.1, h.2.1⟩, if_neg (by omega)]
theorem rErr_bad {lo hi a b : Int} (h : ¬ okR lo hi a b) : rErr lo hi a b = 2 ∨ rErr lo hi a b = 10 := by
  unfold rErr okR at *
  split
  · rename_i h1; rw [if_pos (by omega)]; exact .inr rfl
  · exact .inl rfl

theorem mul_bd {a b A B : Int} (h1 : 0 ≤ a) (h2 : a ≤ A) (h3 : 0 ≤ b) (h4 : b ≤ B) : 0 ≤ a * b ∧ a * b ≤ A * B :=
  ⟨Int.mul_nonneg h1 h3, Int.mul_le_mul h2 h4 h3 (by omega)⟩

theorem f25_eq {a b c d : Int} {k : Int → Int → Int → Option α} : f25_0 α a b c d k =
    if rErr 1 1000000 a b ≠ 0 then k 0 0 (rErr 1 1000000 a b) else if rErr 0 100000 c d ≠ 0 then k 0 0 (rErr 0 100000 c d) else k (a * c / 1000) (cdv (b * d) 1000) 0 := by
  simp only [f25_0, f25_0g, f89_eq, f90_eq]
  rw [show ([[DC.v (.int .i64 (rErr 1 1000000 a b))], [DC.v (.int .i64 (rErr 0 100000 c d))]] : Rows) = [rErr 1 1000000 a b, rErr 0 100000 c d].map rI1 from rfl, f88_eq (by simp)]
  by_cases h1 : okR 1 1000000 a b
  · simp only [rErr_ok h1, firstNZ, if_true, ne_eq, not_true, if_false]
    by_cases h2 : okR 0 100000 c d
    · simp only [rErr_ok h2, if_true, not_true, if_false, bne_self_eq_false, cK_false]
      unfold okR at h1 h2
      have e1 := mul_bd (a := a) (b := c) (A := 1000000) (B := 100000) (by omega) (by omega) (by omega) (by omega)
      have e2 := mul_bd (a := b) (b := d) (A := 1000000) (B := 100000) (by omega) (by omega) (by omega) (by omega)
      rw [w64_in (n := a * c) (by omega) (by omega), w64_in (n := b * d) (by omega) (by omega), f91_eq (by omega) (by omega), f92_eq (by omega) (by omega) (by omega)]
    · rcases rErr_bad h2 with h | h <;> simp [h]
  · rcases rErr_bad h1 with h | h <;> simp [h, firstNZ]

theorem f26_eq {a b t : Int} {k : Int → Int → Int → Option α} : f26_0 α a b t k =
    if rErr 1 1000000 a b ≠ 0 then k 0 0 (rErr 1 1000000 a b) else if 0 ≤ t ∧ t ≤ 1000000 then k (cdv (t * 1000) b) (cdv (t * 1000) a) 0 else k 0 0 2 := by
  simp only [f26_0, f26_0g, f89_eq, f78_eq]
  by_cases h1 : okR 1 1000000 a b
  · simp only [rErr_ok h1, ne_eq, not_true, if_false, bne_self_eq_false, cK_false]
    by_cases h2 : 0 ≤ t
    · by_cases h3 : t ≤ 1000000
      · unfold okR at h1
        simp only [h2, h3, decide_true, Bool.and_self, Bool.not_true, cK_false, and_self, if_true]
        rw [w64_in (n := t * 1000) (by omega) (by omega), f92_eq (by omega) (by omega) (by omega), f92_eq (by omega) (by omega) (by omega)]
      · simp [h2, h3]
    · simp [h2]
  · rcases rErr_bad h1 with h | h <;> simp [h]

theorem f29_eq {a b c d : Int} {k : Int → Int → Option α} (h1 : okR 1 1000000 a b) (h2 : okR 0 100000 c d) : f29_0 α a b c d k = k (a * c / 1000) (cdv (b * d) 1000) := by
  unfold okR at h1 h2
  have e1 := mul_bd (a := a) (b := c) (A := 1000000) (B := 100000) (by omega) (by omega) (by omega) (by omega)
  have e2 := mul_bd (a := b) (b := d) (A := 1000000) (B := 100000) (by omega) (by omega) (by omega) (by omega)
  simp only [f29_0, f29_0g]
  rw [w64_in (n := a * c) (by omega) (by omega), f94_eq (by omega) (by unfold sm; omega), w64_in (n := b * d) (by omega) (by omega), f95_eq (by omega) (by unfold sm; omega)]

theorem f30_eq {a b t : Int} {k : Int → Int → Option α} (h1 : okR 1 1000000 a b) (h2 : 0 ≤ t ∧ t ≤ 1000000) : f30_0 α a b t k = k (cdv (t * 1000) b) (cdv (t * 1000) a) := by
  unfold okR at h1
  simp only [f30_0, f30_0g]
  rw [w64_in (n := 1000 * t) (by omega) (by omega), Int.mul_comm 1000 t, f95_eq (by omega) (by unfold sm; omega), f95_eq (by omega) (by unfold sm; omega)]

theorem cdv_spec {n d : Int} (hd : 0 < d) : n ≤ d * cdv n d ∧ d * (cdv n d - 1) < n := by
  unfold cdv
  have h4 := Int.emod_add_mul_ediv (-n) d
  have h5 := Int.emod_nonneg (-n) (Int.ne_of_gt hd)
  have h6 := Int.emod_lt_of_pos (-n) hd
  rw [Int.mul_sub, Int.mul_neg]
  omega

theorem J6_eq {f s a b c d x y : Int} {k : Bool → Option α} (h1 : okR 1 1000000 a b)
    (h : if rErr 0 100000 c d ≠ 0 then x = 0 ∧ y = 0 ∧ f = rErr 0 100000 c d else x = a * c / 1000 ∧ y = cdv (b * d) 1000 ∧ f = 0) (hs : s = rErr 0 100000 c d) : J6_0_0 α f s a b c d x y k = k false := by
  subst hs
  simp only [J6_0_0, J6_0_0g]
  by_cases h2 : okR 0 100000 c d
  · rw [if_neg (by simp [rErr_ok h2])] at h
    obtain ⟨rfl, rfl, rfl⟩ := h
    simp only [rErr_ok h2, bne_self_eq_false, cK_false, beq_self_eq_true, cK_true, f29_eq h1 h2, Bool.and_self, Bool.not_true]
  · rcases rErr_bad h2 with h3 | h3
    · rw [if_pos (by simp [h3])] at h
      obtain ⟨rfl, rfl, rfl⟩ := h
      simp [h3]
    · rw [if_pos (by simp [h3])] at h
      obtain ⟨rfl, rfl, rfl⟩ := h
      simp [h3]

theorem law6_end {a b t s : Int} {k : Bool → Option α} (hf : (1 ≤ a ∧ a ≤ 1000000) ∧ (1 ≤ b ∧ b ≤ 1000000) ∧ a ≤ b) (hs : t * 1000 ≤ a * s ∧ a * (s - 1) < t * 1000) :
    cK (!(decide (1 ≤ s) && decide (s ≤ 100000))) (k true)
      (if ¬rErr 0 100000 s s = 0 then
        if ¬rErr 0 100000 (w64 (s - 1)) (w64 (s - 1)) = 0 then
          cK (rErr 0 100000 s s == 0) (cK (rErr 0 100000 (w64 (s - 1)) (w64 (s - 1)) == 0) (cK (decide (t ≤ 0)) (k (decide (0 < t))) (k false)) (k false)) (k false)
        else
          cK (rErr 0 100000 s s == 0) (cK true (cK (decide (t ≤ 0)) (k (decide (a * w64 (s - 1) / 1000 < t))) (k false)) (k false)) (k false)
      else
        if ¬rErr 0 100000 (w64 (s - 1)) (w64 (s - 1)) = 0 then
          cK true (cK (rErr 0 100000 (w64 (s - 1)) (w64 (s - 1)) == 0) (cK (decide (t ≤ a * s / 1000)) (k (decide (0 < t))) (k false)) (k false)) (k false)
        else
          cK true (cK true (cK (decide (t ≤ a * s / 1000)) (k (decide (a * w64 (s - 1) / 1000 < t))) (k false)) (k false)) (k false)) = k true := by
  by_cases h1 : 1 ≤ s
  · by_cases h2 : s ≤ 100000
    · rw [w64_in (by omega) (by omega), rErr_ok (a := s) (b := s) (by unfold okR; omega), rErr_ok (a := s - 1) (b := s - 1) (by unfold okR; omega)]
      have h3 : t ≤ a * s / 1000 := by omega
      have h4 : a * (s - 1) / 1000 < t := by omega
      simp [h1, h2, h3, h4]
    · simp [h1, h2]
  · simp [h1]

theorem law6 {a b c d t : Int} {k : Bool → Option α} : f6_0 α a b c d t k = k true := by
  simp only [f6_0, f6_0g, f14_0, f25_eq, f26_eq, f27_eq, f28_eq, f19_eq]
  by_cases h1 : okR 1 1000000 a b
  · have hr := rErr_ok h1
    simp only [hr, ne_eq, not_true, if_false, bne_self_eq_false, cK_false]
    have hJ : ∀ (x y f : Int), (if rErr 0 100000 c d ≠ 0 then x = 0 ∧ y = 0 ∧ f = rErr 0 100000 c d else x = a * c / 1000 ∧ y = cdv (b * d) 1000 ∧ f = 0) → ∀ (kk : Bool → Option α), J6_0_0 α f (rErr 0 100000 c d) a b c d x y kk = kk false := fun x y f h kk => J6_eq h1 h rfl
    by_cases ht : 0 ≤ t ∧ t ≤ 1000000
    · have hs := cdv_spec (n := t * 1000) (d := a) (by unfold okR at h1; omega)
      have hf := h1
      unfold okR at hf
      simp only [if_pos ht]
      split
      · rename_i h
        rw [hJ 0 0 _ (by rw [if_pos h]; exact ⟨rfl, rfl, rfl⟩)]
        simp only [ht.1, ht.2, decide_true, Bool.and_self, Bool.not_true, cK_false, bne_self_eq_false, f30_eq h1 ht, beq_self_eq_true]
        exact law6_end hf hs
      · rename_i h
        rw [hJ _ _ _ (by rw [if_neg h]; exact ⟨rfl, rfl, rfl⟩)]
        simp only [ht.1, ht.2, decide_true, Bool.and_self, Bool.not_true, cK_false, bne_self_eq_false, f30_eq h1 ht, beq_self_eq_true]
        exact law6_end hf hs
    · simp only [if_neg ht]
      have hd : (decide (0 ≤ t) && decide (t ≤ 1000000)) = false := by
        by_cases h3 : 0 ≤ t <;> by_cases h4 : t ≤ 1000000 <;> simp [h3, h4] <;> omega
      split
      · rename_i h
        rw [hJ 0 0 _ (by rw [if_pos h]; exact ⟨rfl, rfl, rfl⟩)]
        simp [hd]
      · rename_i h
        rw [hJ _ _ _ (by rw [if_neg h]; exact ⟨rfl, rfl, rfl⟩)]
        simp [hd]
  · rcases rErr_bad h1 with h | h <;> simp [h]

end Go.AM.K
