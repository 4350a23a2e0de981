/- Chapter 6: calibrations, what they see and correct. -/
import Derived.Test.YtmhghbkdcdpicaaSML3
import Derived.Test.YtmhghbkdcdpicaaSMH3
namespace Go.AM.K
set_option linter.unusedVariables false
set_option linter.unusedSimpArgs false
variable {α : Type}
theorem mul_bd2 {x y A B : Int} (hx : -A ≤ x ∧ x ≤ A) (hy : -B ≤ y ∧ y ≤ B) : -(A * B) ≤ x * y ∧ x * y ≤ A * B := by
  have h1 := Int.mul_nonneg (show 0 ≤ A - x by omega) (show 0 ≤ B - y by omega)
  have h2 := Int.mul_nonneg (show 0 ≤ A + x by omega) (show 0 ≤ B + y by omega)
  have h3 := Int.mul_nonneg (show 0 ≤ A - x by omega) (show 0 ≤ B + y by omega)
  have h4 := Int.mul_nonneg (show 0 ≤ A + x by omega) (show 0 ≤ B - y by omega)
  have e1 : (A - x) * (B - y) + (A + x) * (B + y) = 2 * (A * B) + 2 * (x * y) := by grind
  have e2 : (A - x) * (B + y) + (A + x) * (B - y) = 2 * (A * B) - 2 * (x * y) := by grind
  omega
def mlo (n lo hi : Int) : Int := n * (if n < 0 then hi else lo)
def mhi (n lo hi : Int) : Int := n * (if n < 0 then lo else hi)
theorem m_bd {n lo hi B : Int} (hn : -B ≤ n ∧ n ≤ B) (hl : -10000000 ≤ lo ∧ lo ≤ 10000000) (hh : -10000000 ≤ hi ∧ hi ≤ 10000000) : (-(B * 10000000) ≤ mlo n lo hi ∧ mlo n lo hi ≤ B * 10000000) ∧ -(B * 10000000) ≤ mhi n lo hi ∧ mhi n lo hi ≤ B * 10000000 := by
  have h1 := mul_bd2 hn hl
  have h2 := mul_bd2 hn hh
  unfold mlo mhi
  by_cases h : n < 0
  · rw [if_pos h, if_pos h]; exact ⟨h2, h1⟩
  · rw [if_neg h, if_neg h]; exact ⟨h1, h2⟩
theorem j1 {sl sh lo hi n : Int} (h0 : -100000000000000 ≤ sl ∧ sl ≤ 100000000000000) (h1 : -100000000000000 ≤ sh ∧ sh ≤ 100000000000000) (hn : -2000000 ≤ n ∧ n ≤ 2000000) (hl : -10000000 ≤ lo ∧ lo ≤ 10000000) (hh : -10000000 ≤ hi ∧ hi ≤ 10000000) {k : Int → Int → Option α} : J23_0_1 α sl sh lo hi n k = k (sl + mlo n lo hi) (sh + mhi n lo hi) := by
  have b1 := mul_bd2 hn hl
  have b2 := mul_bd2 hn hh
  simp only [J23_0_1, J23_0_1g, J23_0_0, J23_0_0g]
  rw [w64_in (n := n * lo) (by omega) (by omega), w64_in (n := n * hi) (by omega) (by omega), w64_in (n := sl + n * lo) (by omega) (by omega), w64_in (n := sl + n * hi) (by omega) (by omega), w64_in (n := sh + n * lo) (by omega) (by omega), w64_in (n := sh + n * hi) (by omega) (by omega)]
  unfold mlo mhi
  by_cases h : n < 0
  · rw [decide_eq_true h, cK_true, if_pos h, if_pos h]
  · rw [decide_eq_false h, cK_false, if_neg h, if_neg h]
theorem j3 {sl sh lo hi n : Int} (h0 : -100000000000000 ≤ sl ∧ sl ≤ 100000000000000) (h1 : -100000000000000 ≤ sh ∧ sh ≤ 100000000000000) (hn : -2000000 ≤ n ∧ n ≤ 2000000) (hl : -10000000 ≤ lo ∧ lo ≤ 10000000) (hh : -10000000 ≤ hi ∧ hi ≤ 10000000) {k : Int → Int → Option α} : J23_0_3 α sl sh lo hi n k = k (sl + mlo n lo hi) (sh + mhi n lo hi) := by
  have b1 := mul_bd2 hn hl
  have b2 := mul_bd2 hn hh
  simp only [J23_0_3, J23_0_3g, J23_0_2, J23_0_2g]
  rw [w64_in (n := n * lo) (by omega) (by omega), w64_in (n := n * hi) (by omega) (by omega), w64_in (n := sl + n * lo) (by omega) (by omega), w64_in (n := sl + n * hi) (by omega) (by omega), w64_in (n := sh + n * lo) (by omega) (by omega), w64_in (n := sh + n * hi) (by omega) (by omega)]
  unfold mlo mhi
  by_cases h : n < 0
  · rw [decide_eq_true h, cK_true, if_pos h, if_pos h]
  · rw [decide_eq_false h, cK_false, if_neg h, if_neg h]
theorem j5 {sl sh lo hi n : Int} (h0 : -100000000000000 ≤ sl ∧ sl ≤ 100000000000000) (h1 : -100000000000000 ≤ sh ∧ sh ≤ 100000000000000) (hn : -2000000 ≤ n ∧ n ≤ 2000000) (hl : -10000000 ≤ lo ∧ lo ≤ 10000000) (hh : -10000000 ≤ hi ∧ hi ≤ 10000000) {k : Int → Int → Option α} : J23_0_5 α sl sh lo hi n k = k (sl + mlo n lo hi) (sh + mhi n lo hi) := by
  have b1 := mul_bd2 hn hl
  have b2 := mul_bd2 hn hh
  simp only [J23_0_5, J23_0_5g, J23_0_4, J23_0_4g]
  rw [w64_in (n := n * lo) (by omega) (by omega), w64_in (n := n * hi) (by omega) (by omega), w64_in (n := sl + n * lo) (by omega) (by omega), w64_in (n := sl + n * hi) (by omega) (by omega), w64_in (n := sh + n * lo) (by omega) (by omega), w64_in (n := sh + n * hi) (by omega) (by omega)]
  unfold mlo mhi
  by_cases h : n < 0
  · rw [decide_eq_true h, cK_true, if_pos h, if_pos h]
  · rw [decide_eq_false h, cK_false, if_neg h, if_neg h]
theorem j7 {sl sh lo hi n : Int} (h0 : -100000000000000 ≤ sl ∧ sl ≤ 100000000000000) (h1 : -100000000000000 ≤ sh ∧ sh ≤ 100000000000000) (hn : -2000000 ≤ n ∧ n ≤ 2000000) (hl : -10000000 ≤ lo ∧ lo ≤ 10000000) (hh : -10000000 ≤ hi ∧ hi ≤ 10000000) {k : Int → Int → Option α} : J23_0_7 α sl sh lo hi n k = k (sl + mlo n lo hi) (sh + mhi n lo hi) := by
  have b1 := mul_bd2 hn hl
  have b2 := mul_bd2 hn hh
  simp only [J23_0_7, J23_0_7g, J23_0_6, J23_0_6g]
  rw [w64_in (n := n * lo) (by omega) (by omega), w64_in (n := n * hi) (by omega) (by omega), w64_in (n := sl + n * lo) (by omega) (by omega), w64_in (n := sl + n * hi) (by omega) (by omega), w64_in (n := sh + n * lo) (by omega) (by omega), w64_in (n := sh + n * hi) (by omega) (by omega)]
  unfold mlo mhi
  by_cases h : n < 0
  · rw [decide_eq_true h, cK_true, if_pos h, if_pos h]
  · rw [decide_eq_false h, cK_false, if_neg h, if_neg h]
theorem j9 {sl sh lo hi n : Int} (h0 : -100000000000000 ≤ sl ∧ sl ≤ 100000000000000) (h1 : -100000000000000 ≤ sh ∧ sh ≤ 100000000000000) (hn : -2000000 ≤ n ∧ n ≤ 2000000) (hl : -10000000 ≤ lo ∧ lo ≤ 10000000) (hh : -10000000 ≤ hi ∧ hi ≤ 10000000) {k : Int → Int → Option α} : J23_0_9 α sl sh lo hi n k = k (sl + mlo n lo hi) (sh + mhi n lo hi) := by
  have b1 := mul_bd2 hn hl
  have b2 := mul_bd2 hn hh
  simp only [J23_0_9, J23_0_9g, J23_0_8, J23_0_8g]
  rw [w64_in (n := n * lo) (by omega) (by omega), w64_in (n := n * hi) (by omega) (by omega), w64_in (n := sl + n * lo) (by omega) (by omega), w64_in (n := sl + n * hi) (by omega) (by omega), w64_in (n := sh + n * lo) (by omega) (by omega), w64_in (n := sh + n * hi) (by omega) (by omega)]
  unfold mlo mhi
  by_cases h : n < 0
  · rw [decide_eq_true h, cK_true, if_pos h, if_pos h]
  · rw [decide_eq_false h, cK_false, if_neg h, if_neg h]
theorem j11 {sl sh lo hi n : Int} (h0 : -100000000000000 ≤ sl ∧ sl ≤ 100000000000000) (h1 : -100000000000000 ≤ sh ∧ sh ≤ 100000000000000) (hn : -2000000 ≤ n ∧ n ≤ 2000000) (hl : -10000000 ≤ lo ∧ lo ≤ 10000000) (hh : -10000000 ≤ hi ∧ hi ≤ 10000000) {k : Int → Int → Option α} : J23_0_11 α sl sh lo hi n k = k (sl + mlo n lo hi) (sh + mhi n lo hi) := by
  have b1 := mul_bd2 hn hl
  have b2 := mul_bd2 hn hh
  simp only [J23_0_11, J23_0_11g, J23_0_10, J23_0_10g]
  rw [w64_in (n := n * lo) (by omega) (by omega), w64_in (n := n * hi) (by omega) (by omega), w64_in (n := sl + n * lo) (by omega) (by omega), w64_in (n := sl + n * hi) (by omega) (by omega), w64_in (n := sh + n * lo) (by omega) (by omega), w64_in (n := sh + n * hi) (by omega) (by omega)]
  unfold mlo mhi
  by_cases h : n < 0
  · rw [decide_eq_true h, cK_true, if_pos h, if_pos h]
  · rw [decide_eq_false h, cK_false, if_neg h, if_neg h]
theorem j13 {sl sh lo hi n : Int} (h0 : -100000000000000 ≤ sl ∧ sl ≤ 100000000000000) (h1 : -100000000000000 ≤ sh ∧ sh ≤ 100000000000000) (hn : -2000000 ≤ n ∧ n ≤ 2000000) (hl : -10000000 ≤ lo ∧ lo ≤ 10000000) (hh : -10000000 ≤ hi ∧ hi ≤ 10000000) {k : Int → Int → Option α} : J23_0_13 α sl sh lo hi n k = k (sl + mlo n lo hi) (sh + mhi n lo hi) := by
  have b1 := mul_bd2 hn hl
  have b2 := mul_bd2 hn hh
  simp only [J23_0_13, J23_0_13g, J23_0_12, J23_0_12g]
  rw [w64_in (n := n * lo) (by omega) (by omega), w64_in (n := n * hi) (by omega) (by omega), w64_in (n := sl + n * lo) (by omega) (by omega), w64_in (n := sl + n * hi) (by omega) (by omega), w64_in (n := sh + n * lo) (by omega) (by omega), w64_in (n := sh + n * hi) (by omega) (by omega)]
  unfold mlo mhi
  by_cases h : n < 0
  · rw [decide_eq_true h, cK_true, if_pos h, if_pos h]
  · rw [decide_eq_false h, cK_false, if_neg h, if_neg h]
theorem j15 {sl sh lo hi n : Int} (h0 : -100000000000000 ≤ sl ∧ sl ≤ 100000000000000) (h1 : -100000000000000 ≤ sh ∧ sh ≤ 100000000000000) (hn : -2000000 ≤ n ∧ n ≤ 2000000) (hl : -10000000 ≤ lo ∧ lo ≤ 10000000) (hh : -10000000 ≤ hi ∧ hi ≤ 10000000) {k : Int → Int → Option α} : J23_0_15 α sl sh lo hi n k = k (sl + mlo n lo hi) (sh + mhi n lo hi) := by
  have b1 := mul_bd2 hn hl
  have b2 := mul_bd2 hn hh
  simp only [J23_0_15, J23_0_15g, J23_0_14, J23_0_14g]
  rw [w64_in (n := n * lo) (by omega) (by omega), w64_in (n := n * hi) (by omega) (by omega), w64_in (n := sl + n * lo) (by omega) (by omega), w64_in (n := sl + n * hi) (by omega) (by omega), w64_in (n := sh + n * lo) (by omega) (by omega), w64_in (n := sh + n * hi) (by omega) (by omega)]
  unfold mlo mhi
  by_cases h : n < 0
  · rw [decide_eq_true h, cK_true, if_pos h, if_pos h]
  · rw [decide_eq_false h, cK_false, if_neg h, if_neg h]
theorem j17 {sl sh lo hi n : Int} (h0 : -100000000000000 ≤ sl ∧ sl ≤ 100000000000000) (h1 : -100000000000000 ≤ sh ∧ sh ≤ 100000000000000) (hn : -2000000 ≤ n ∧ n ≤ 2000000) (hl : -10000000 ≤ lo ∧ lo ≤ 10000000) (hh : -10000000 ≤ hi ∧ hi ≤ 10000000) {k : Int → Int → Option α} : J23_0_17 α sl sh lo hi n k = k (sl + mlo n lo hi) (sh + mhi n lo hi) := by
  have b1 := mul_bd2 hn hl
  have b2 := mul_bd2 hn hh
  simp only [J23_0_17, J23_0_17g, J23_0_16, J23_0_16g]
  rw [w64_in (n := n * lo) (by omega) (by omega), w64_in (n := n * hi) (by omega) (by omega), w64_in (n := sl + n * lo) (by omega) (by omega), w64_in (n := sl + n * hi) (by omega) (by omega), w64_in (n := sh + n * lo) (by omega) (by omega), w64_in (n := sh + n * hi) (by omega) (by omega)]
  unfold mlo mhi
  by_cases h : n < 0
  · rw [decide_eq_true h, cK_true, if_pos h, if_pos h]
  · rw [decide_eq_false h, cK_false, if_neg h, if_neg h]
structure Rg (a0 a1 b0 b1 c0 c1 : Int) : Prop where
  A0 : -10000000 ≤ a0 ∧ a0 ≤ 10000000
  A1 : -10000000 ≤ a1 ∧ a1 ≤ 10000000
  B0 : -10000000 ≤ b0 ∧ b0 ≤ 10000000
  B1 : -10000000 ≤ b1 ∧ b1 ≤ 10000000
  C0 : -10000000 ≤ c0 ∧ c0 ≤ 10000000
  C1 : -10000000 ≤ c1 ∧ c1 ≤ 10000000
  a : a0 ≤ a1
  b : b0 ≤ b1
  c : c0 ≤ c1
theorem Rg.of {a b c d e f : Int} (h : smE a b c d e f = 0) : Rg a b c d e f := by
  obtain ⟨⟨h1, h2, h3⟩, ⟨h4, h5, h6⟩, h7, h8, h9⟩ := smE_ok h
  exact ⟨h1, h2, h4, h5, h7, h8, h3, h6, h9⟩
structure Nb (B n1 n2 n3 n4 n5 n6 n7 n8 n9 : Int) : Prop where
  n1 : -B ≤ n1 ∧ n1 ≤ B
  n2 : -B ≤ n2 ∧ n2 ≤ B
  n3 : -B ≤ n3 ∧ n3 ≤ B
  n4 : -B ≤ n4 ∧ n4 ≤ B
  n5 : -B ≤ n5 ∧ n5 ≤ B
  n6 : -B ≤ n6 ∧ n6 ≤ B
  n7 : -B ≤ n7 ∧ n7 ≤ B
  n8 : -B ≤ n8 ∧ n8 ≤ B
  n9 : -B ≤ n9 ∧ n9 ≤ B
def rl (n m l a0 a1 b0 b1 c0 c1 : Int) : Int := mlo n a0 a1 + mlo m b0 b1 + mlo l c0 c1
def rh (n m l a0 a1 b0 b1 c0 c1 : Int) : Int := mhi n a0 a1 + mhi m b0 b1 + mhi l c0 c1
def okS (x : Int) : Bool := decide (-10000000 ≤ x ∧ x ≤ 10000000)
def mapK (n1 n2 n3 n4 n5 n6 n7 n8 n9 a0 a1 b0 b1 c0 c1 u d : Int) (k : Int → Int → Int → Int → Int → Int → Int → Option α) : Option α :=
  if okS (rl n1 n2 n3 a0 a1 b0 b1 c0 c1 * u / d) = true ∧ okS (cdv (rh n1 n2 n3 a0 a1 b0 b1 c0 c1 * u) d) = true ∧ okS (rl n4 n5 n6 a0 a1 b0 b1 c0 c1 * u / d) = true ∧ okS (cdv (rh n4 n5 n6 a0 a1 b0 b1 c0 c1 * u) d) = true ∧ okS (rl n7 n8 n9 a0 a1 b0 b1 c0 c1 * u / d) = true ∧ okS (cdv (rh n7 n8 n9 a0 a1 b0 b1 c0 c1 * u) d) = true
  then k (rl n1 n2 n3 a0 a1 b0 b1 c0 c1 * u / d) (cdv (rh n1 n2 n3 a0 a1 b0 b1 c0 c1 * u) d) (rl n4 n5 n6 a0 a1 b0 b1 c0 c1 * u / d) (cdv (rh n4 n5 n6 a0 a1 b0 b1 c0 c1 * u) d) (rl n7 n8 n9 a0 a1 b0 b1 c0 c1 * u / d) (cdv (rh n7 n8 n9 a0 a1 b0 b1 c0 c1 * u) d) 0
  else k 0 0 0 0 0 0 8
theorem mapK_form {n1 n2 n3 n4 n5 n6 n7 n8 n9 a0 a1 b0 b1 c0 c1 u d : Int} {k : Int → Int → Int → Int → Int → Int → Int → Option α} :
    (cK (!okS (rl n1 n2 n3 a0 a1 b0 b1 c0 c1 * u / d)) (k 0 0 0 0 0 0 8) (cK (!okS (cdv (rh n1 n2 n3 a0 a1 b0 b1 c0 c1 * u) d)) (k 0 0 0 0 0 0 8)
      (cK (!okS (rl n4 n5 n6 a0 a1 b0 b1 c0 c1 * u / d)) (k 0 0 0 0 0 0 8) (cK (!okS (cdv (rh n4 n5 n6 a0 a1 b0 b1 c0 c1 * u) d)) (k 0 0 0 0 0 0 8)
      (cK (!okS (rl n7 n8 n9 a0 a1 b0 b1 c0 c1 * u / d)) (k 0 0 0 0 0 0 8) (cK (!okS (cdv (rh n7 n8 n9 a0 a1 b0 b1 c0 c1 * u) d)) (k 0 0 0 0 0 0 8)
      (k (rl n1 n2 n3 a0 a1 b0 b1 c0 c1 * u / d) (cdv (rh n1 n2 n3 a0 a1 b0 b1 c0 c1 * u) d) (rl n4 n5 n6 a0 a1 b0 b1 c0 c1 * u / d) (cdv (rh n4 n5 n6 a0 a1 b0 b1 c0 c1 * u) d) (rl n7 n8 n9 a0 a1 b0 b1 c0 c1 * u / d) (cdv (rh n7 n8 n9 a0 a1 b0 b1 c0 c1 * u) d) 0))))))) = mapK n1 n2 n3 n4 n5 n6 n7 n8 n9 a0 a1 b0 b1 c0 c1 u d k := by
  unfold mapK
  cases okS (rl n1 n2 n3 a0 a1 b0 b1 c0 c1 * u / d) <;> cases okS (cdv (rh n1 n2 n3 a0 a1 b0 b1 c0 c1 * u) d) <;> cases okS (rl n4 n5 n6 a0 a1 b0 b1 c0 c1 * u / d) <;> cases okS (cdv (rh n4 n5 n6 a0 a1 b0 b1 c0 c1 * u) d) <;> cases okS (rl n7 n8 n9 a0 a1 b0 b1 c0 c1 * u / d) <;> cases okS (cdv (rh n7 n8 n9 a0 a1 b0 b1 c0 c1 * u) d) <;> simp [cK]
theorem r_bd {n m l a0 a1 b0 b1 c0 c1 B : Int} (hr : Rg a0 a1 b0 b1 c0 c1) (hn : -B ≤ n ∧ n ≤ B) (hm : -B ≤ m ∧ m ≤ B) (hl : -B ≤ l ∧ l ≤ B) : (-(B * 30000000) ≤ rl n m l a0 a1 b0 b1 c0 c1 ∧ rl n m l a0 a1 b0 b1 c0 c1 ≤ B * 30000000) ∧ -(B * 30000000) ≤ rh n m l a0 a1 b0 b1 c0 c1 ∧ rh n m l a0 a1 b0 b1 c0 c1 ≤ B * 30000000 := by
  have h1 := m_bd hn hr.A0 hr.A1
  have h2 := m_bd hm hr.B0 hr.B1
  have h3 := m_bd hl hr.C0 hr.C1
  unfold rl rh
  omega
theorem f58_S {x : Int} {k : Bool → Option α} : f58_0 α x 10000000 k = k (okS x) := f58_eq (by decide) (by decide)
theorem f23_eq {n1 n2 n3 n4 n5 n6 n7 n8 n9 a0 a1 b0 b1 c0 c1 u d : Int} (hn : Nb 2000000 n1 n2 n3 n4 n5 n6 n7 n8 n9) (hr : Rg a0 a1 b0 b1 c0 c1) (hu : 1 ≤ u ∧ u ≤ 1000) (hd : 0 < d) (hd2 : d ≤ 1000000000000) {k : Int → Int → Int → Int → Int → Int → Int → Option α} :
    f23_0 α n1 n2 n3 n4 n5 n6 n7 n8 n9 a0 a1 b0 b1 c0 c1 u d k = mapK n1 n2 n3 n4 n5 n6 n7 n8 n9 a0 a1 b0 b1 c0 c1 u d k := by
  have p1 := m_bd hn.n1 hr.A0 hr.A1
  have p2 := m_bd hn.n2 hr.B0 hr.B1
  have p4 := m_bd hn.n4 hr.A0 hr.A1
  have p5 := m_bd hn.n5 hr.B0 hr.B1
  have p7 := m_bd hn.n7 hr.A0 hr.A1
  have p8 := m_bd hn.n8 hr.B0 hr.B1
  have q1 := r_bd hr hn.n1 hn.n2 hn.n3
  have q2 := r_bd hr hn.n4 hn.n5 hn.n6
  have q3 := r_bd hr hn.n7 hn.n8 hn.n9
  have ub : ∀ x : Int, -60000000000000 ≤ x ∧ x ≤ 60000000000000 → -60000000000000000 ≤ x * u ∧ x * u ≤ 60000000000000000 := fun x hx => by
    have := mul_bd2 hx (show -1000 ≤ u ∧ u ≤ 1000 by omega); omega
  have fl : ∀ x : Int, -60000000000000 ≤ x ∧ x ≤ 60000000000000 → ∀ kk : Int → Option α, f48_0 α (w64 (x * u)) d kk = kk (x * u / d) := fun x hx kk => by
    have := ub x hx
    rw [w64_in (by omega) (by omega), f48_pos hd (by omega) (by omega) (by omega)]
  have ce : ∀ x : Int, -60000000000000 ≤ x ∧ x ≤ 60000000000000 → ∀ kk : Int → Option α, f49_0 α (w64 (x * u)) d kk = kk (cdv (x * u) d) := fun x hx kk => by
    have := ub x hx
    rw [w64_in (by omega) (by omega), f49_pos hd (by omega) (by omega) (by omega)]
  rw [← mapK_form]
  simp only [f23_0, f23_0g, f57_0, f57_0g]
  rw [j1 (by omega) (by omega) hn.n1 hr.A0 hr.A1, Int.zero_add, Int.zero_add, j3 (by omega) (by omega) hn.n2 hr.B0 hr.B1, j5 (by omega) (by omega) hn.n3 hr.C0 hr.C1]
  rw [show mlo n1 a0 a1 + mlo n2 b0 b1 + mlo n3 c0 c1 = rl n1 n2 n3 a0 a1 b0 b1 c0 c1 from rfl, show mhi n1 a0 a1 + mhi n2 b0 b1 + mhi n3 c0 c1 = rh n1 n2 n3 a0 a1 b0 b1 c0 c1 from rfl, fl _ (by omega), ce _ (by omega), f58_S, f58_S]
  rw [j7 (by omega) (by omega) hn.n4 hr.A0 hr.A1, Int.zero_add, Int.zero_add, j9 (by omega) (by omega) hn.n5 hr.B0 hr.B1, j11 (by omega) (by omega) hn.n6 hr.C0 hr.C1]
  rw [show mlo n4 a0 a1 + mlo n5 b0 b1 + mlo n6 c0 c1 = rl n4 n5 n6 a0 a1 b0 b1 c0 c1 from rfl, show mhi n4 a0 a1 + mhi n5 b0 b1 + mhi n6 c0 c1 = rh n4 n5 n6 a0 a1 b0 b1 c0 c1 from rfl, fl _ (by omega), ce _ (by omega), f58_S, f58_S]
  rw [j13 (by omega) (by omega) hn.n7 hr.A0 hr.A1, Int.zero_add, Int.zero_add, j15 (by omega) (by omega) hn.n8 hr.B0 hr.B1, j17 (by omega) (by omega) hn.n9 hr.C0 hr.C1]
  rw [show mlo n7 a0 a1 + mlo n8 b0 b1 + mlo n9 c0 c1 = rl n7 n8 n9 a0 a1 b0 b1 c0 c1 from rfl, show mhi n7 a0 a1 + mhi n8 b0 b1 + mhi n9 c0 c1 = rh n7 n8 n9 a0 a1 b0 b1 c0 c1 from rfl, fl _ (by omega), ce _ (by omega), f58_S, f58_S]
def mn (a b c d : Int) : Int := w64 ((w64 (a * b)) - (w64 (c * d)))
theorem mn_eq {a b c d : Int} (ha : -1000 ≤ a ∧ a ≤ 1000) (hb : -1000 ≤ b ∧ b ≤ 1000) (hc : -1000 ≤ c ∧ c ≤ 1000) (hd : -1000 ≤ d ∧ d ≤ 1000) : mn a b c d = a * b - c * d ∧ -2000000 ≤ mn a b c d ∧ mn a b c d ≤ 2000000 := by
  have h1 := mul_bd2 ha hb
  have h2 := mul_bd2 hc hd
  have e : mn a b c d = a * b - c * d := by
    unfold mn
    rw [w64_in (n := a * b) (by omega) (by omega), w64_in (n := c * d) (by omega) (by omega), w64_in (by omega) (by omega)]
  rw [e]; omega
def dt (n1 n2 n3 n4 n5 n6 n7 n8 n9 : Int) : Int := w64 ((w64 ((w64 (n1 * mn n5 n9 n6 n8)) + (w64 (n2 * mn n6 n7 n4 n9)))) + (w64 (n3 * mn n4 n8 n5 n7)))
theorem dt_eq {n1 n2 n3 n4 n5 n6 n7 n8 n9 : Int} (h : Nb 1000 n1 n2 n3 n4 n5 n6 n7 n8 n9) : dt n1 n2 n3 n4 n5 n6 n7 n8 n9 = n1 * mn n5 n9 n6 n8 + n2 * mn n6 n7 n4 n9 + n3 * mn n4 n8 n5 n7 ∧ -6000000000 ≤ dt n1 n2 n3 n4 n5 n6 n7 n8 n9 ∧ dt n1 n2 n3 n4 n5 n6 n7 n8 n9 ≤ 6000000000 := by
  have p1 := mul_bd2 h.n1 (mn_eq h.n5 h.n9 h.n6 h.n8).2
  have p2 := mul_bd2 h.n2 (mn_eq h.n6 h.n7 h.n4 h.n9).2
  have p3 := mul_bd2 h.n3 (mn_eq h.n4 h.n8 h.n5 h.n7).2
  have e : dt n1 n2 n3 n4 n5 n6 n7 n8 n9 = n1 * mn n5 n9 n6 n8 + n2 * mn n6 n7 n4 n9 + n3 * mn n4 n8 n5 n7 := by
    unfold dt
    rw [w64_in (n := n1 * _) (by omega) (by omega), w64_in (n := n2 * _) (by omega) (by omega), w64_in (n := n3 * _) (by omega) (by omega), w64_in (n := n1 * _ + n2 * _) (by omega) (by omega), w64_in (by omega) (by omega)]
  rw [e]; omega
theorem Nb.of {n1 n2 n3 n4 n5 n6 n7 n8 n9 n : Int} (h : mxE n1 n2 n3 n4 n5 n6 n7 n8 n9 n = 0) : Nb 1000 n1 n2 n3 n4 n5 n6 n7 n8 n9 := by
  have := (mxE_ok h).2
  exact ⟨this _ (by simp), this _ (by simp), this _ (by simp), this _ (by simp), this _ (by simp), this _ (by simp), this _ (by simp), this _ (by simp), this _ (by simp)⟩
theorem Nb.up {n1 n2 n3 n4 n5 n6 n7 n8 n9 A B : Int} (h : Nb A n1 n2 n3 n4 n5 n6 n7 n8 n9) (hb : A ≤ B) : Nb B n1 n2 n3 n4 n5 n6 n7 n8 n9 := by
  obtain ⟨h1, h2, h3, h4, h5, h6, h7, h8, h9⟩ := h
  exact ⟨by omega, by omega, by omega, by omega, by omega, by omega, by omega, by omega, by omega⟩
theorem adj_nb {n1 n2 n3 n4 n5 n6 n7 n8 n9 : Int} (h : Nb 1000 n1 n2 n3 n4 n5 n6 n7 n8 n9) : Nb 2000000 (mn n5 n9 n6 n8) (mn n8 n3 n9 n2) (mn n2 n6 n3 n5) (mn n6 n7 n4 n9) (mn n9 n1 n7 n3) (mn n3 n4 n1 n6) (mn n4 n8 n5 n7) (mn n7 n2 n8 n1) (mn n1 n5 n2 n4) :=
  ⟨(mn_eq h.n5 h.n9 h.n6 h.n8).2, (mn_eq h.n8 h.n3 h.n9 h.n2).2, (mn_eq h.n2 h.n6 h.n3 h.n5).2, (mn_eq h.n6 h.n7 h.n4 h.n9).2, (mn_eq h.n9 h.n1 h.n7 h.n3).2, (mn_eq h.n3 h.n4 h.n1 h.n6).2, (mn_eq h.n4 h.n8 h.n5 h.n7).2, (mn_eq h.n7 h.n2 h.n8 h.n1).2, (mn_eq h.n1 h.n5 h.n2 h.n4).2⟩
def sg (D x : Int) : Int := if D < 0 then -x else x
def corK (n1 n2 n3 n4 n5 n6 n7 n8 n9 n a0 a1 b0 b1 c0 c1 : Int) (k : Int → Int → Int → Int → Int → Int → Int → Option α) : Option α :=
  if dt n1 n2 n3 n4 n5 n6 n7 n8 n9 = 0 then k 0 0 0 0 0 0 28 else
    mapK (sg (dt n1 n2 n3 n4 n5 n6 n7 n8 n9) (mn n5 n9 n6 n8)) (sg (dt n1 n2 n3 n4 n5 n6 n7 n8 n9) (mn n8 n3 n9 n2)) (sg (dt n1 n2 n3 n4 n5 n6 n7 n8 n9) (mn n2 n6 n3 n5)) (sg (dt n1 n2 n3 n4 n5 n6 n7 n8 n9) (mn n6 n7 n4 n9)) (sg (dt n1 n2 n3 n4 n5 n6 n7 n8 n9) (mn n9 n1 n7 n3)) (sg (dt n1 n2 n3 n4 n5 n6 n7 n8 n9) (mn n3 n4 n1 n6)) (sg (dt n1 n2 n3 n4 n5 n6 n7 n8 n9) (mn n4 n8 n5 n7)) (sg (dt n1 n2 n3 n4 n5 n6 n7 n8 n9) (mn n7 n2 n8 n1)) (sg (dt n1 n2 n3 n4 n5 n6 n7 n8 n9) (mn n1 n5 n2 n4))
      a0 a1 b0 b1 c0 c1 n (sg (dt n1 n2 n3 n4 n5 n6 n7 n8 n9) (dt n1 n2 n3 n4 n5 n6 n7 n8 n9)) k
section
variable {n1 n2 n3 n4 n5 n6 n7 n8 n9 n a0 a1 b0 b1 c0 c1 : Int} (h : mxE n1 n2 n3 n4 n5 n6 n7 n8 n9 n = 0) (hs : smE a0 a1 b0 b1 c0 c1 = 0)
include h
omit h in
theorem f22_eq {k : Int → Option α} : f22_0 α n1 n2 n3 n4 n5 n6 n7 n8 n9 n a0 a1 b0 b1 c0 c1 k = k (if mxE n1 n2 n3 n4 n5 n6 n7 n8 n9 n ≠ 0 then mxE n1 n2 n3 n4 n5 n6 n7 n8 n9 n else smE a0 a1 b0 b1 c0 c1) := by
  simp only [f22_0, f22_0g, f31_eq, f42_eq, cK_ne]
  split <;> rfl
include hs
theorem f6_ok {k : Int → Int → Int → Int → Int → Int → Int → Option α} : f6_0 α n1 n2 n3 n4 n5 n6 n7 n8 n9 n a0 a1 b0 b1 c0 c1 k = mapK n1 n2 n3 n4 n5 n6 n7 n8 n9 a0 a1 b0 b1 c0 c1 1 n k := by
  have hn := (mxE_ok h).1
  simp only [f6_0, f6_0g, f22_eq, cK_ne]
  rw [if_neg (fun hh => hh (by rw [if_neg (fun hh => hh h)]; exact hs)), f23_eq ((Nb.of h).up (by decide)) (Rg.of hs) (by decide) (by omega) (by omega)]
theorem f7_ok {k : Int → Int → Int → Int → Int → Int → Int → Option α} : f7_0 α n1 n2 n3 n4 n5 n6 n7 n8 n9 n a0 a1 b0 b1 c0 c1 k = corK n1 n2 n3 n4 n5 n6 n7 n8 n9 n a0 a1 b0 b1 c0 c1 k := by
  have hn := (mxE_ok h).1
  have hb := Nb.of h
  have ha := adj_nb hb
  have hd := (dt_eq hb).2
  simp only [f7_0, f7_0g, f22_eq, cK_ne]
  rw [if_neg (fun hh => hh (by rw [if_neg (fun hh => hh h)]; exact hs))]
  show J7_0_0 α (dt n1 n2 n3 n4 n5 n6 n7 n8 n9) (mn n5 n9 n6 n8) (mn n8 n3 n9 n2) (mn n2 n6 n3 n5) (mn n6 n7 n4 n9) (mn n9 n1 n7 n3) (mn n3 n4 n1 n6) (mn n4 n8 n5 n7) (mn n7 n2 n8 n1) (mn n1 n5 n2 n4) (k 0 0 0 0 0 0 28) _ (fun _ => f23_0 α (mn n5 n9 n6 n8) (mn n8 n3 n9 n2) (mn n2 n6 n3 n5) (mn n6 n7 n4 n9) (mn n9 n1 n7 n3) (mn n3 n4 n1 n6) (mn n4 n8 n5 n7) (mn n7 n2 n8 n1) (mn n1 n5 n2 n4) a0 a1 b0 b1 c0 c1 n (dt n1 n2 n3 n4 n5 n6 n7 n8 n9) _) = _
  unfold corK
  generalize dt n1 n2 n3 n4 n5 n6 n7 n8 n9 = D at *
  generalize mn n5 n9 n6 n8 = m1 at *
  generalize mn n8 n3 n9 n2 = m2 at *
  generalize mn n2 n6 n3 n5 = m3 at *
  generalize mn n6 n7 n4 n9 = m4 at *
  generalize mn n9 n1 n7 n3 = m5 at *
  generalize mn n3 n4 n1 n6 = m6 at *
  generalize mn n4 n8 n5 n7 = m7 at *
  generalize mn n7 n2 n8 n1 = m8 at *
  generalize mn n1 n5 n2 n4 = m9 at *
  obtain ⟨g1, g2, g3, g4, g5, g6, g7, g8, g9⟩ := ha
  simp only [J7_0_0, J7_0_0g]
  by_cases h0 : D = 0
  · rw [if_pos h0, beq_iff_eq.2 h0, cK_true]
  · rw [if_neg h0, beq_eq_false_iff_ne.2 h0, cK_false]
    by_cases hneg : D < 0
    · have s : ∀ x, sg D x = -x := fun x => by unfold sg; rw [if_pos hneg]
      have w : ∀ x, (-2000000 ≤ x ∧ x ≤ 2000000) → w64 (0 - x) = -x := fun x hx => by rw [w64_in (by omega) (by omega)]; omega
      rw [decide_eq_true hneg, cK_true, w64_in (n := 0 - D) (by omega) (by omega), w m1 g1, w m2 g2, w m3 g3, w m4 g4, w m5 g5, w m6 g6, w m7 g7, w m8 g8, w m9 g9, show 0 - D = -D by omega, f23_eq ⟨by omega, by omega, by omega, by omega, by omega, by omega, by omega, by omega, by omega⟩ (Rg.of hs) hn (by omega) (by omega)]
      simp only [s]
    · have s : ∀ x, sg D x = x := fun x => by unfold sg; rw [if_neg hneg]
      rw [decide_eq_false hneg, cK_false, f23_eq ⟨g1, g2, g3, g4, g5, g6, g7, g8, g9⟩ (Rg.of hs) hn (by omega) (by omega)]
      simp only [s]
end
theorem mapK_cases (n1 n2 n3 n4 n5 n6 n7 n8 n9 a0 a1 b0 b1 c0 c1 u d : Int) : ∃ x y z w p q r, ∀ {k : Int → Int → Int → Int → Int → Int → Int → Option α}, mapK n1 n2 n3 n4 n5 n6 n7 n8 n9 a0 a1 b0 b1 c0 c1 u d k = k x y z w p q r := by
  unfold mapK
  split
  · exact ⟨_, _, _, _, _, _, _, fun {k} => rfl⟩
  · exact ⟨_, _, _, _, _, _, _, fun {k} => rfl⟩
theorem corK_cases (n1 n2 n3 n4 n5 n6 n7 n8 n9 n a0 a1 b0 b1 c0 c1 : Int) : ∃ x y z w p q r, ∀ {k : Int → Int → Int → Int → Int → Int → Int → Option α}, corK n1 n2 n3 n4 n5 n6 n7 n8 n9 n a0 a1 b0 b1 c0 c1 k = k x y z w p q r := by
  unfold corK
  split
  · exact ⟨_, _, _, _, _, _, _, fun {k} => rfl⟩
  · exact mapK_cases _ _ _ _ _ _ _ _ _ _ _ _ _ _ _ _ _
end Go.AM.K
