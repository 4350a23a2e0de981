/- Chapter 2: shares of mixtures; what the program and the document say of mixtures agrees. -/
import Derived.Test.YtehamglokkjipaaGP3
namespace Go.AM.K
set_option linter.unusedVariables false
set_option linter.unusedSimpArgs false
variable {α : Type}
def shN (a b x : Int) : Int := if a * a - b * b < 0 then 0 - 10000 * (x * x - b * b) else 10000 * (x * x - b * b)
def shD (a b : Int) : Int := if a * a - b * b < 0 then 0 - (a * a - b * b) else a * a - b * b
structure Sx (a b x : Int) : Prop where
  a1 : 5000 ≤ a
  a2 : a ≤ 80000
  b1 : 5000 ≤ b
  b2 : b ≤ 80000
  x1 : 5000 ≤ x
  x2 : x ≤ 80000
theorem sq_bd' {a : Int} (h1 : 5000 ≤ a) (h2 : a ≤ 80000) : 25000000 ≤ a * a ∧ a * a ≤ 6400000000 := ⟨Int.mul_le_mul h1 h1 (by decide) (by omega), Int.mul_le_mul h2 h2 (by omega) (by decide)⟩
theorem sq_ne {a b : Int} (ha : 0 < a) (hb : 0 < b) (h : a ≠ b) : a * a ≠ b * b := by
  intro he
  rcases Int.lt_or_gt_of_ne h with hl | hl
  · have h1 := Int.mul_le_mul_of_nonneg_left (show a ≤ b by omega) (show 0 ≤ a by omega)
    have h2 := Int.mul_lt_mul_of_pos_right hl hb
    omega
  · have h1 := Int.mul_le_mul_of_nonneg_left (show b ≤ a by omega) (show 0 ≤ b by omega)
    have h2 := Int.mul_lt_mul_of_pos_right hl ha
    omega
theorem Sx.D_bd {a b x : Int} (h : Sx a b x) (hne : a ≠ b) : 0 < shD a b ∧ shD a b ≤ 6400000000 ∧ -64000000000000 ≤ shN a b x ∧ shN a b x ≤ 64000000000000 := by
  have hA := sq_bd' h.a1 h.a2
  have hB := sq_bd' h.b1 h.b2
  have hX := sq_bd' h.x1 h.x2
  have := sq_ne (by have := h.a1; omega) (by have := h.b1; omega) hne
  unfold shD shN
  split <;> omega
def shOut (a b x : Int) (k : Int → Int → Int → Option α) : Option α :=
  if ¬ (inB a 5000 80000 = true ∧ inB b 5000 80000 = true ∧ inB x 5000 80000 = true) then k 0 0 2 else
  if a = b then k 0 0 9 else
  if inB x (if b < a then b else a) (if b > a then b else a) = false then k 0 0 24 else k (shN a b x / shD a b) (cdv (shN a b x) (shD a b)) 0
theorem Sx.w {a b x : Int} (h : Sx a b x) : w64 (10000 * (w64 ((w64 (x * x)) - (w64 (b * b))))) = 10000 * (x * x - b * b) ∧ w64 ((w64 (a * a)) - (w64 (b * b))) = a * a - b * b := by
  have hA := sq_bd' h.a1 h.a2
  have hB := sq_bd' h.b1 h.b2
  have hX := sq_bd' h.x1 h.x2
  rw [w64_in (n := x * x) (by omega) (by omega), w64_in (n := b * b) (by omega) (by omega), w64_in (n := a * a) (by omega) (by omega), w64_in (n := x * x - b * b) (by omega) (by omega), w64_in (n := a * a - b * b) (by omega) (by omega)]
  exact ⟨w64_in (by omega) (by omega), rfl⟩
theorem f13_eq {a b x : Int} {k : Int → Int → Int → Option α} : f13_0 α a b x k = shOut a b x k := by
  simp only [f13_0, f13_0g, shOut]
  rw [show [[DC.v (.int .i64 a)], [DC.v (.int .i64 b)], [DC.v (.int .i64 x)]] = [a, b, x].map rI1 from rfl, f33_eq (by simp)]
  by_cases hv : inB a 5000 80000 = true ∧ inB b 5000 80000 = true ∧ inB x 5000 80000 = true
  · have hnn : ¬ ¬ (inB a 5000 80000 = true ∧ inB b 5000 80000 = true ∧ inB x 5000 80000 = true) := fun h => h hv
    rw [if_neg hnn, if_pos (by simp [hv.1, hv.2.1, hv.2.2])]
    simp only [bne_self_eq_false, cK_false]
    simp only [inB_iff] at hv
    have h : Sx a b x := ⟨hv.1.1, hv.1.2, hv.2.1.1, hv.2.1.2, hv.2.2.1, hv.2.2.2⟩
    by_cases hab : a = b
    · rw [if_pos hab, show (a == b) = true by simpa using hab, cK_true]
    · rw [if_neg hab, show (a == b) = false by simpa using hab, cK_false, f34_eq]
      cases hin : inB x (if b < a then b else a) (if b > a then b else a) with
      | false => rfl
      | true =>
        obtain ⟨hD, hD2, hN, hN2⟩ := h.D_bd hab
        obtain ⟨w1, w2⟩ := h.w
        simp only [Bool.not_true, cK_false, J13_0_0, J13_0_0g, w1, w2, cK_dec]
        have hX := sq_bd' h.x1 h.x2
        have hB := sq_bd' h.b1 h.b2
        have hA := sq_bd' h.a1 h.a2
        by_cases hlt : a * a - b * b < 0
        · rw [if_pos hlt, w64_in (by omega) (by omega), w64_in (by omega) (by omega)]
          have eN : 0 - 10000 * (x * x - b * b) = shN a b x := by unfold shN; rw [if_pos hlt]
          have eD : 0 - (a * a - b * b) = shD a b := by unfold shD; rw [if_pos hlt]
          rw [eN, eD, f39_eq hD (by omega) (by omega) (by omega)]
          simp
        · rw [if_neg hlt]
          have eN : 10000 * (x * x - b * b) = shN a b x := by unfold shN; rw [if_neg hlt]
          have eD : a * a - b * b = shD a b := by unfold shD; rw [if_neg hlt]
          rw [eN, eD, f39_eq hD (by omega) (by omega) (by omega)]
          simp
  · rw [if_pos hv]
    split
    · rename_i hall
      simp at hall
      exact absurd hall hv
    · rfl
theorem f15_eq {a b x : Int} {k : Int → Int → Int → Option α} : f15_0 α a b x k = shOut a b x k := by
  simp only [f15_0, f15_0g, J15_0_0, J15_0_0g, shOut]
  rw [f40_eq, f40_eq, f40_eq]
  by_cases hv : inB a 5000 80000 = true ∧ inB b 5000 80000 = true ∧ inB x 5000 80000 = true
  · have hnn : ¬ ¬ (inB a 5000 80000 = true ∧ inB b 5000 80000 = true ∧ inB x 5000 80000 = true) := fun h => h hv
    rw [if_neg hnn, hv.1, hv.2.1, hv.2.2]
    simp only [Bool.not_true, cK_false]
    simp only [inB_iff] at hv
    have h : Sx a b x := ⟨hv.1.1, hv.1.2, hv.2.1.1, hv.2.1.2, hv.2.2.1, hv.2.2.2⟩
    by_cases hab : a = b
    · rw [if_pos hab, show (a == b) = true by simpa using hab, cK_true]
    · rw [if_neg hab, show (a == b) = false by simpa using hab, cK_false, f16_eq]
      cases hin : inB x (if b < a then b else a) (if b > a then b else a) with
      | false => rfl
      | true =>
        obtain ⟨hD, hD2, hN, hN2⟩ := h.D_bd hab
        obtain ⟨w1, w2⟩ := h.w
        simp only [Bool.not_true, cK_false, J15_0_1, J15_0_1g, w1, w2, cK_dec]
        have hX := sq_bd' h.x1 h.x2
        have hB := sq_bd' h.b1 h.b2
        have hA := sq_bd' h.a1 h.a2
        by_cases hlt : a * a - b * b < 0
        · rw [if_pos hlt, w64_in (by omega) (by omega), w64_in (by omega) (by omega)]
          have eN : 0 - 10000 * (x * x - b * b) = shN a b x := by unfold shN; rw [if_pos hlt]
          have eD : 0 - (a * a - b * b) = shD a b := by unfold shD; rw [if_pos hlt]
          rw [eN, eD, f43_eq hD (by omega) (by omega) (by omega), f44_eq hD (by omega) (by omega) (by omega)]
          simp
        · rw [if_neg hlt]
          have eN : 10000 * (x * x - b * b) = shN a b x := by unfold shN; rw [if_neg hlt]
          have eD : a * a - b * b = shD a b := by unfold shD; rw [if_neg hlt]
          rw [eN, eD, f43_eq hD (by omega) (by omega) (by omega), f44_eq hD (by omega) (by omega) (by omega)]
          simp
  · rw [if_pos hv]
    cases h1 : inB a 5000 80000 with
    | false => rfl
    | true => cases h2 : inB b 5000 80000 with
      | false => rfl
      | true => cases h3 : inB x 5000 80000 with
        | false => rfl
        | true => exact absurd ⟨h1, h2, h3⟩ hv
def mxOut (a b s : Int) (k : Int → Int → Int → Option α) : Option α :=
  if inB a 5000 80000 = true ∧ inB b 5000 80000 = true ∧ inB s 0 10000 = true then k (if 80000 < mL a b s then 80000 else mL a b s) (mH a b s) 0 else k 0 0 2
theorem mx_iff {a b s : Int} : (inB a 5000 80000 = true ∧ inB b 5000 80000 = true ∧ inB s 0 10000 = true) ↔ Mx a b s := by
  simp only [inB_iff]
  exact ⟨fun h => ⟨h.1.1, h.1.2, h.2.1.1, h.2.1.2, h.2.2.1, h.2.2.2⟩, fun h => ⟨⟨h.a1, h.a2⟩, ⟨h.b1, h.b2⟩, h.s1, h.s2⟩⟩
theorem f12_eq {a b s : Int} {k : Int → Int → Int → Option α} : f12_0 α a b s k = mxOut a b s k := by
  unfold mxOut
  split
  · rename_i h; exact (mx_iff.1 h).f12
  · rename_i h; exact bad12 fun hx => h (mx_iff.2 hx)
theorem f14_eq {a b s : Int} {k : Int → Int → Int → Option α} : f14_0 α a b s k = mxOut a b s k := by
  unfold mxOut
  split
  · rename_i h; exact (mx_iff.1 h).f14
  · rename_i h; exact bad14 fun hx => h (mx_iff.2 hx)
theorem mx_ex (a b s : Int) : ∃ p q r, ∀ {α : Type} (k : Int → Int → Int → Option α), mxOut a b s k = k p q r := by
  by_cases h : inB a 5000 80000 = true ∧ inB b 5000 80000 = true ∧ inB s 0 10000 = true
  · exact ⟨_, _, _, fun k => if_pos h⟩
  · exact ⟨_, _, _, fun k => if_neg h⟩
theorem sh_ex (a b x : Int) : ∃ p q r, ∀ {α : Type} (k : Int → Int → Int → Option α), shOut a b x k = k p q r := by
  by_cases h : ¬ (inB a 5000 80000 = true ∧ inB b 5000 80000 = true ∧ inB x 5000 80000 = true)
  · exact ⟨_, _, _, fun k => if_pos h⟩
  · by_cases h2 : a = b
    · exact ⟨_, _, _, fun k => (if_neg h).trans (if_pos h2)⟩
    · by_cases h3 : inB x (if b < a then b else a) (if b > a then b else a) = false
      · exact ⟨_, _, _, fun k => (if_neg h).trans ((if_neg h2).trans (if_pos h3))⟩
      · exact ⟨_, _, _, fun k => (if_neg h).trans ((if_neg h2).trans (if_neg h3))⟩
end Go.AM.K
