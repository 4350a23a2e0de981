/- Chapter 6: turns. -/
import Derived.Test.YtjifpcjmnhnpkaaML3
namespace Go.AM.K
set_option linter.unusedVariables false
set_option linter.unusedSimpArgs false
variable {α : Type}
theorem cK_bne {a b : Int} {x y : Option α} : cK (a != b) x y = if a ≠ b then x else y := by
  by_cases h : a = b
  · rw [h, bne_self_eq_false]; simp
  · rw [bne_iff_ne.2 h, if_pos h]; rfl
theorem cK_beq {a b : Int} {x y : Option α} : cK (a == b) x y = if a = b then x else y := by
  by_cases h : a = b
  · rw [h, beq_self_eq_true]; simp
  · rw [beq_eq_false_iff_ne.2 h, if_neg h]; rfl
theorem mul_bd2 {x y A B : Int} (hx : -A ≤ x ∧ x ≤ A) (hy : -B ≤ y ∧ y ≤ B) : -(A * B) ≤ x * y ∧ x * y ≤ A * B := by
  have hA : 0 ≤ A := by omega
  have hB : 0 ≤ B := by omega
  have key : ∀ u v : Int, 0 ≤ u → u ≤ A → 0 ≤ v → v ≤ B → u * v ≤ A * B := fun u v h1 h2 h3 h4 => Int.mul_le_mul h2 h4 h3 hA
  have nn : ∀ u v : Int, 0 ≤ u → 0 ≤ v → 0 ≤ u * v := fun u v h1 h2 => Int.mul_nonneg h1 h2
  by_cases h1 : 0 ≤ x <;> by_cases h2 : 0 ≤ y
  · have := key x y h1 hx.2 h2 hy.2; have := nn x y h1 h2; have := nn A B hA hB; omega
  · have := key x (-y) h1 hx.2 (by omega) (by omega); have := nn x (-y) h1 (by omega); rw [Int.mul_neg] at *; have := nn A B hA hB; omega
  · have := key (-x) y (by omega) (by omega) h2 hy.2; have := nn (-x) y (by omega) h2; rw [Int.neg_mul] at *; have := nn A B hA hB; omega
  · have := key (-x) (-y) (by omega) (by omega) (by omega) (by omega); have := nn (-x) (-y) (by omega) (by omega); rw [Int.neg_mul_neg] at *; have := nn A B hA hB; omega
def tnE (p q r : Int) : Int := if 1 ≤ r ∧ r ≤ 1000 then (if ((-r ≤ p ∧ p ≤ r) ∧ -r ≤ q ∧ q ≤ r) ∧ p * p + q * q = r * r then 0 else 12) else 2
theorem f122_eq {n most : Int} (h1 : -1000000000000 ≤ most) (h2 : most ≤ 1000000000000) {k : Bool → Option α} : f122_0 α n most k = k (decide (-most ≤ n ∧ n ≤ most)) := by
  simp only [f122_0, f122_0g]
  rw [w64_in (by omega) (by omega), show 0 - most = -most by omega]
  by_cases h : -most ≤ n <;> simp [h]
theorem tnK {p q r : Int} (hr : 1 ≤ r ∧ r ≤ 1000) {k : Int → Option α} : cK (!decide (-r ≤ p ∧ p ≤ r)) (k 12) (cK (!decide (-r ≤ q ∧ q ≤ r)) (k 12) (cK ((w64 ((w64 (p * p)) + (w64 (q * q)))) != (w64 (r * r))) (k 12) (k 0))) = k (tnE p q r) := by
  unfold tnE
  rw [if_pos hr]
  by_cases a : -r ≤ p ∧ p ≤ r
  · by_cases b : -r ≤ q ∧ q ≤ r
    · have h1 := mul_bd2 (x := p) (y := p) (A := 1000) (B := 1000) (by omega) (by omega)
      have h2 := mul_bd2 (x := q) (y := q) (A := 1000) (B := 1000) (by omega) (by omega)
      have h3 := mul_bd2 (x := r) (y := r) (A := 1000) (B := 1000) (by omega) (by omega)
      rw [decide_eq_true a, decide_eq_true b, Bool.not_true, cK_false, cK_false, w64_in (n := p * p) (by omega) (by omega), w64_in (n := q * q) (by omega) (by omega), w64_in (n := r * r) (by omega) (by omega), w64_in (by omega) (by omega), cK_bne]
      by_cases c : p * p + q * q = r * r
      · rw [if_neg (fun h => h c), if_pos ⟨⟨a, b⟩, c⟩]
      · rw [if_pos c, if_neg (fun h => c h.2)]
    · rw [decide_eq_true a, decide_eq_false b, if_neg (fun h => b h.1.2)]; rfl
  · rw [decide_eq_false a, if_neg (fun h => a h.1.1)]; rfl
theorem f84_eq {p q r : Int} {k : Int → Option α} : f84_0 α p q r k = k (tnE p q r) := by
  simp only [f84_0, f84_0g, J84_0_0, J84_0_0g]
  by_cases a : r < 1
  · rw [decide_eq_true a, cK_true, cK_true]
    unfold tnE; rw [if_neg (by omega)]
  · rw [decide_eq_false a, cK_false]
    by_cases b : 1000 < r
    · rw [decide_eq_true b, cK_true]
      unfold tnE; rw [if_neg (by omega)]
    · rw [decide_eq_false b, cK_false, f122_eq (by omega) (by omega)]
      simp only [f122_eq (show (-1000000000000 : Int) ≤ r by omega) (show r ≤ 1000000000000 by omega)]
      exact tnK (by omega)
theorem f92_eq {p q r : Int} {k : Int → Option α} : f92_0 α p q r k = k (tnE p q r) := by
  simp only [f92_0, f92_0g, f29_eq]
  by_cases a : 1 ≤ r ∧ r ≤ 1000
  · rw [decide_eq_true a, Bool.not_true, cK_false, w64_in (n := 0 - r) (by omega) (by omega), show 0 - r = -r by omega]
    exact tnK a
  · rw [decide_eq_false a, Bool.not_false, cK_true]
    unfold tnE; rw [if_neg a]
theorem tnE_ok {p q r : Int} (h : tnE p q r = 0) : (1 ≤ r ∧ r ≤ 1000) ∧ (-r ≤ p ∧ p ≤ r) ∧ (-r ≤ q ∧ q ≤ r) ∧ p * p + q * q = r * r := by
  unfold tnE at h
  by_cases a : 1 ≤ r ∧ r ≤ 1000
  · rw [if_pos a] at h
    by_cases b : ((-r ≤ p ∧ p ≤ r) ∧ -r ≤ q ∧ q ≤ r) ∧ p * p + q * q = r * r
    · exact ⟨a, b.1.1, b.1.2, b.2⟩
    · rw [if_neg b] at h; cases h
  · rw [if_neg a] at h; cases h
theorem tn_lt {p q r : Int} (h : tnE p q r = 0) (hq : q ≠ 0) : -r < p ∧ p < r := by
  obtain ⟨h1, h2, h3, h4⟩ := tnE_ok h
  have hqq : 0 < q * q := by
    rcases Int.lt_or_gt_of_ne hq with h5 | h5
    · have := Int.mul_pos (a := -q) (b := -q) (by omega) (by omega); rwa [Int.neg_mul_neg] at this
    · exact Int.mul_pos h5 h5
  constructor
  · by_cases hc : -r < p
    · exact hc
    · have : p = -r := by omega
      subst this
      rw [Int.neg_mul_neg] at h4; omega
  · by_cases hc : p < r
    · exact hc
    · have : p = r := by omega
      subst this; omega
end Go.AM.K
