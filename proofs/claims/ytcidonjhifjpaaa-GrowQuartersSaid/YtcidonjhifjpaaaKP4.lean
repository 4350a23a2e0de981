/- Chapter 8: GrowQuarters. -/
import Derived.Test.YtcidonjhifjpaaaKP3
namespace Go.AM.K
variable {α : Type}
set_option linter.unusedVariables false

def qOk (i w o : Int) : Prop := (5000 ≤ i ∧ i ≤ 80000) ∧ (1000 ≤ w ∧ w ≤ 200000) ∧ (1 ≤ o ∧ o ≤ 200)
instance (i w o : Int) : Decidable (qOk i w o) := by unfold qOk; infer_instance

theorem f40_eq {i w o : Int} {k : Int → Option α} : f40_0 α i w o k = k (if qOk i w o then 0 else 2) := by
  simp only [f40_0, f40_0g, f19_eq]
  unfold qOk
  by_cases h1 : 5000 ≤ i <;> by_cases h2 : i ≤ 80000 <;> by_cases h3 : 1000 ≤ w <;> by_cases h4 : w ≤ 200000 <;> by_cases h5 : 1 ≤ o <;> by_cases h6 : o ≤ 200 <;> simp [h1, h2, h3, h4, h5, h6]
theorem f98_eq {i w o : Int} {k : Int → Option α} : f98_0 α i w o k = k (if qOk i w o then 0 else 2) := by
  simp only [f98_0, f98_0g, f78_eq]
  unfold qOk
  by_cases h1 : 5000 ≤ i <;> by_cases h2 : i ≤ 80000 <;> by_cases h3 : 1000 ≤ w <;> by_cases h4 : w ≤ 200000 <;> by_cases h5 : 1 ≤ o <;> by_cases h6 : o ≤ 200 <;> simp [h1, h2, h3, h4, h5, h6]

theorem num_bd {i w o : Int} (h : qOk i w o) : 0 ≤ o * w ∧ o * w ≤ 40000000 := by
  unfold qOk at h
  have := mul_bd (a := o) (b := w) (A := 200) (B := 200000) (by omega) (by omega) (by omega) (by omega)
  omega

theorem f99_eq {i w o : Int} {k : Int → Int → Option α} (h : qOk i w o) : f99_0 α i w o k = k (o * w * 10000) (4 * i) := by
  have hb := num_bd h
  unfold qOk at h
  simp only [f99_0, f99_0g]
  rw [w64_in (n := o * w) (by omega) (by omega), w64_in (n := o * w * 10000) (by omega) (by omega), w64_in (n := 4 * i) (by omega) (by omega)]

theorem f37_eq {i w o : Int} {k : Int → Int → Int → Option α} : f37_0 α i w o k = if qOk i w o then k (o * w * 10000 / (4 * i)) (cdv (o * w * 10000) (4 * i)) 0 else k 0 0 2 := by
  simp only [f37_0, f37_0g, f98_eq]
  by_cases h : qOk i w o
  · have hb := num_bd h
    have hq := h
    unfold qOk at hq
    simp only [if_pos h, bne_self_eq_false, cK_false]
    rw [f99_eq h, f91_eq (by omega) (by omega), f92_eq (by omega) (by omega) (by omega)]
  · simp [h]

theorem f41_eq {i w o : Int} {k : Int → Int → Option α} (h : qOk i w o) : f41_0 α i w o k = k (o * w * 10000 / (4 * i)) (cdv (o * w * 10000) (4 * i)) := by
  have hb := num_bd h
  have hq := h
  unfold qOk at hq
  simp only [f41_0, f41_0g]
  rw [w64_in (n := o * w) (by omega) (by omega), w64_in (n := o * w * 10000) (by omega) (by omega), w64_in (n := 4 * i) (by omega) (by omega), f94_eq (by omega) (by unfold sm; omega), f95_eq (by omega) (by unfold sm; omega)]

theorem den_bd {i w o c : Int} (h : qOk i w o) (hc : 0 ≤ c ∧ c ≤ 1000000) : 0 ≤ 4 * i * c ∧ 4 * i * c ≤ 320000000000 := by
  unfold qOk at h
  have := mul_bd (a := 4 * i) (b := c) (A := 320000) (B := 1000000) (by omega) (by omega) (by omega) (by omega)
  omega

theorem den_pos {i w o c : Int} (h : qOk i w o) (hc : 1 ≤ c) : 0 < 4 * i * c := by
  unfold qOk at h
  exact Int.mul_pos (by omega) (by omega)

theorem f38_eq {i w o a b : Int} {k : Int → Int → Int → Option α} : f38_0 α i w o a b k =
    if qOk i w o then (if rErr 0 100000 a b ≠ 0 then k 0 0 (rErr 0 100000 a b) else if a = 0 then k 0 0 9 else k (o * w * 10000 * 1000 / (4 * i * b)) (cdv (o * w * 10000 * 1000) (4 * i * a)) 0) else k 0 0 2 := by
  simp only [f38_0, f38_0g, f98_eq, f90_eq]
  rw [show ([[DC.v (.int .i64 (if qOk i w o then 0 else 2))], [DC.v (.int .i64 (rErr 0 100000 a b))]] : Rows) = [if qOk i w o then 0 else 2, rErr 0 100000 a b].map rI1 from rfl, f88_eq (by simp)]
  by_cases h : qOk i w o
  · have hb := num_bd h
    simp only [if_pos h, firstNZ, if_true]
    by_cases h2 : okR 0 100000 a b
    · simp only [rErr_ok h2, if_true, ne_eq, not_true, if_false, bne_self_eq_false, cK_false]
      by_cases h3 : a = 0
      · simp [h3]
      · have h3' : (a == 0) = false := by simpa using h3
        simp only [h3', cK_false, if_neg h3]
        unfold okR at h2
        have d1 := den_bd (c := a) h (by omega)
        have d2 := den_bd (c := b) h (by omega)
        have d3 := den_pos (c := a) h (by omega)
        have d4 := den_pos (c := b) h (by omega)
        rw [f99_eq h, w64_in (n := o * w * 10000 * 1000) (by omega) (by omega), w64_in (n := 4 * i * b) (by omega) (by omega), w64_in (n := 4 * i * a) (by omega) (by omega), f91_eq d4 (by omega), f92_eq d3 (by omega) (by omega)]
    · rcases rErr_bad h2 with h3 | h3 <;> simp [h3]
  · simp [h, firstNZ]

theorem f42_eq {i w o a b : Int} {k : Int → Int → Option α} (h : qOk i w o) (h2 : okR 0 100000 a b) (h3 : a ≠ 0) : f42_0 α i w o a b k = k (o * w * 10000 * 1000 / (4 * i * b)) (cdv (o * w * 10000 * 1000) (4 * i * a)) := by
  have hb := num_bd h
  have hq := h
  unfold qOk at hq
  unfold okR at h2
  have d1 := den_bd (c := a) h (by omega)
  have d2 := den_bd (c := b) h (by omega)
  have d3 := den_pos (c := a) h (by omega)
  have d4 := den_pos (c := b) h (by omega)
  simp only [f42_0, f42_0g]
  have e : 1000 * o * w * 10000 = o * w * 10000 * 1000 := by rw [Int.mul_assoc 1000 o w]; omega
  have e1 : 1000 * o * w = 1000 * (o * w) := Int.mul_assoc 1000 o w
  rw [w64_in (n := 1000 * o) (by omega) (by omega), w64_in (n := 1000 * o * w) (by rw [e1]; omega) (by rw [e1]; omega), w64_in (n := 1000 * o * w * 10000) (by rw [e]; omega) (by rw [e]; omega), w64_in (n := 4 * i) (by omega) (by omega),
    w64_in (n := 4 * i * b) (by omega) (by omega), w64_in (n := 4 * i * a) (by omega) (by omega), e, f94_eq d4 (by unfold sm; omega), f95_eq d3 (by unfold sm; omega)]

theorem ac_bd {a c i : Int} (ha : 0 ≤ a ∧ a ≤ 1000000) (hc : 0 ≤ c ∧ c ≤ 100000) (hi : 0 ≤ i ∧ i ≤ 80000) : (0 ≤ a * c ∧ a * c ≤ 100000000000) ∧ 0 ≤ a * c * (4 * i) ∧ a * c * (4 * i) ≤ 32000000000000000 := by
  have h1 := mul_bd (a := a) (b := c) (A := 1000000) (B := 100000) (by omega) (by omega) (by omega) (by omega)
  have h2 := mul_bd (a := a * c) (b := 4 * i) (A := 100000000000) (B := 320000) (by omega) (by omega) (by omega) (by omega)
  omega

theorem f39_eq {i w o a b c d : Int} {k : Int → Int → Int → Option α} : f39_0 α i w o a b c d k =
    if qOk i w o then (if rErr 1 1000000 a b ≠ 0 then k 0 0 (rErr 1 1000000 a b) else if rErr 0 100000 c d ≠ 0 then k 0 0 (rErr 0 100000 c d) else
      k ((o * w * 10000 * 1000 + a * c * (4 * i)) / (4 * i * 1000)) (cdv (o * w * 10000 * 1000 + b * d * (4 * i)) (4 * i * 1000)) 0) else k 0 0 2 := by
  simp only [f39_0, f39_0g, f98_eq, f89_eq, f90_eq]
  rw [show ([[DC.v (.int .i64 (if qOk i w o then 0 else 2))], [DC.v (.int .i64 (rErr 1 1000000 a b))], [DC.v (.int .i64 (rErr 0 100000 c d))]] : Rows) = [if qOk i w o then 0 else 2, rErr 1 1000000 a b, rErr 0 100000 c d].map rI1 from rfl, f88_eq (by simp)]
  by_cases h : qOk i w o
  · have hb := num_bd h
    have hq := h
    unfold qOk at hq
    simp only [if_pos h, firstNZ, if_true]
    by_cases h1 : okR 1 1000000 a b
    · simp only [rErr_ok h1, if_true, ne_eq, not_true, if_false]
      by_cases h2 : okR 0 100000 c d
      · simp only [rErr_ok h2, if_true, not_true, if_false, bne_self_eq_false, cK_false]
        unfold okR at h1 h2
        have e1 := ac_bd (a := a) (c := c) (i := i) (by omega) (by omega) (by omega)
        have e2 := ac_bd (a := b) (c := d) (i := i) (by omega) (by omega) (by omega)
        rw [f99_eq h, w64_in (n := o * w * 10000 * 1000) (by omega) (by omega), w64_in (n := a * c) (by omega) (by omega), w64_in (n := a * c * (4 * i)) (by omega) (by omega), w64_in (n := o * w * 10000 * 1000 + a * c * (4 * i)) (by omega) (by omega),
          w64_in (n := b * d) (by omega) (by omega), w64_in (n := b * d * (4 * i)) (by omega) (by omega), w64_in (n := o * w * 10000 * 1000 + b * d * (4 * i)) (by omega) (by omega), w64_in (n := 4 * i * 1000) (by omega) (by omega),
          f91_eq (by omega) (by omega), f92_eq (by omega) (by omega) (by omega)]
      · rcases rErr_bad h2 with h3 | h3 <;> simp [h3]
    · rcases rErr_bad h1 with h3 | h3 <;> simp [h3]
  · simp [h, firstNZ]

theorem f43_eq {i w o a b c d : Int} {k : Int → Int → Option α} (h : qOk i w o) (h1 : okR 1 1000000 a b) (h2 : okR 0 100000 c d) : f43_0 α i w o a b c d k =
    k ((o * w * 10000 * 1000 + a * c * (4 * i)) / (4 * i * 1000)) (cdv (o * w * 10000 * 1000 + b * d * (4 * i)) (4 * i * 1000)) := by
  have hb := num_bd h
  have hq := h
  unfold qOk at hq
  unfold okR at h1 h2
  have e1 := ac_bd (a := a) (c := c) (i := i) (by omega) (by omega) (by omega)
  have e2 := ac_bd (a := b) (c := d) (i := i) (by omega) (by omega) (by omega)
  have d1 := den_bd (c := a) h (by omega)
  have d2 := den_bd (c := b) h (by omega)
  simp only [f43_0, f43_0g]
  have e : 1000 * o * w * 10000 = o * w * 10000 * 1000 := by rw [Int.mul_assoc 1000 o w]; omega
  have e0 : 1000 * o * w = 1000 * (o * w) := Int.mul_assoc 1000 o w
  have q1 : 4 * i * a * c = a * c * (4 * i) := by rw [Int.mul_assoc, Int.mul_comm (4 * i)]
  have q2 : 4 * i * b * d = b * d * (4 * i) := by rw [Int.mul_assoc, Int.mul_comm (4 * i)]
  rw [w64_in (n := 1000 * o) (by omega) (by omega), w64_in (n := 1000 * o * w) (by rw [e0]; omega) (by rw [e0]; omega), w64_in (n := 1000 * o * w * 10000) (by rw [e]; omega) (by rw [e]; omega), w64_in (n := 4 * i) (by omega) (by omega),
    w64_in (n := 4 * i * a) (by omega) (by omega), w64_in (n := 4 * i * b) (by omega) (by omega), w64_in (n := 4 * i * a * c) (by rw [q1]; omega) (by rw [q1]; omega), w64_in (n := 4 * i * b * d) (by rw [q2]; omega) (by rw [q2]; omega), e, q1, q2,
    w64_in (n := o * w * 10000 * 1000 + a * c * (4 * i)) (by omega) (by omega), w64_in (n := o * w * 10000 * 1000 + b * d * (4 * i)) (by omega) (by omega), w64_in (n := 1000 * (4 * i)) (by omega) (by omega), Int.mul_comm 1000 (4 * i),
    f94_eq (by omega) (by unfold sm; omega), f95_eq (by omega) (by unfold sm; omega)]

theorem ends_le {n d y : Int} (hd : 0 < d) (hy : 0 ≤ y) : n / d ≤ (n * 1000 + y) / (d * 1000) ∧ cdv n d ≤ cdv (n * 1000 + y) (d * 1000) := by
  constructor
  · rw [← Int.mul_ediv_mul_of_pos_left n d (by omega : (0 : Int) < 1000)]
    exact Int.ediv_le_ediv (by omega) (by omega)
  · unfold cdv
    rw [← Int.mul_ediv_mul_of_pos_left (-n) d (by omega : (0 : Int) < 1000)]
    have := Int.ediv_le_ediv (a := -(n * 1000 + y)) (b := -n * 1000) (c := d * 1000) (by omega) (by omega)
    omega

theorem law8 {i w o a b c d : Int} {k : Bool → Option α} : f8_0 α i w o a b c d k = k true := by
  simp only [f8_0, f8_0g, f14_0, f37_eq, f38_eq, f39_eq, f40_eq, f28_eq, J8_0_0, J8_0_0g, J8_0_1, J8_0_1g, J8_0_2, J8_0_2g, f27_eq]
  by_cases h : qOk i w o
  · simp only [if_pos h, bne_self_eq_false, cK_false, f41_eq h, beq_self_eq_true, Bool.and_self, Bool.not_true]
    by_cases h2 : okR 0 100000 c d
    · simp only [rErr_ok h2, ne_eq, not_true, if_false, beq_self_eq_true, cK_true, bne_self_eq_false, cK_false]
      by_cases h1 : okR 1 1000000 a b
      · have q := h
        unfold qOk at q
        have q1 := h1
        have q2 := h2
        unfold okR at q1 q2
        have e1 := ac_bd (a := a) (c := c) (i := i) (by omega) (by omega) (by omega)
        have e2 := ac_bd (a := b) (c := d) (i := i) (by omega) (by omega) (by omega)
        have l1 := (ends_le (n := o * w * 10000) (d := 4 * i) (y := a * c * (4 * i)) (by omega) (by omega)).1
        have l2 := (ends_le (n := o * w * 10000) (d := 4 * i) (y := b * d * (4 * i)) (by omega) (by omega)).2
        simp only [rErr_ok h1, not_true, if_false, bne_self_eq_false, cK_false, f43_eq h h1 h2]
        by_cases h3 : c = 0
        · subst h3
          simp [l1, l2]
        · have h3' : (c == 0) = false := by simpa using h3
          simp [h3', h3, f42_eq h h2 h3, l1, l2]
      · by_cases h3 : c = 0
        · subst h3
          rcases rErr_bad h1 with h4 | h4 <;> simp [h4]
        · have h3' : (c == 0) = false := by simpa using h3
          rcases rErr_bad h1 with h4 | h4 <;> simp [h4, h3', h3, f42_eq h h2 h3]
    · by_cases h1 : okR 1 1000000 a b
      · rcases rErr_bad h2 with h4 | h4 <;> simp [h4, rErr_ok h1]
      · rcases rErr_bad h2 with h4 | h4 <;> rcases rErr_bad h1 with h5 | h5 <;> simp [h4, h5]
  · simp [h]

end Go.AM.K
