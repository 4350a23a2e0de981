/- Chapter 6: whole pairs. -/
import Derived.Test.YtjifpcjmnhnpkaaMF1
namespace Go.AM.K
open Ieee
set_option linter.unusedVariables false
set_option linter.unusedSimpArgs false
variable {α : Type}
def badD (y : Nat) : Bool := match FloatKind.f64.decode y with | .number s m i => !whl (vl (.number s m i)) | _ => true
def ptv (y : Nat) : Int := match FloatKind.f64.decode y with | .number s m i => sgn s (qt m i) | _ => 0
theorem k7 : ∃ m i, FloatKind.f64.decode (FloatKind.nearest .f64 10000000) = .number false m i ∧ -1074 ≤ i ∧ vl (.number false m i) = 10000000 * (UU : Int) := ⟨5368709120000000, -29, by decide +kernel, by omega, by decide +kernel⟩
theorem k53 : ∃ m i, FloatKind.f64.decode 4845873199050653696 = .number false m i ∧ -1074 ≤ i ∧ vl (.number false m i) = 9007199254740992 * (UU : Int) := ⟨4503599627370496, 1, by decide +kernel, by omega, by decide +kernel⟩
theorem kn53 : ∃ m i, FloatKind.f64.decode 14069245235905429504 = .number true m i ∧ -1074 ≤ i ∧ vl (.number true m i) = -9007199254740992 * (UU : Int) := ⟨4503599627370496, 1, by decide +kernel, by omega, by decide +kernel⟩
theorem big64 {s : Bool} {m : Nat} {i : Int} (hi : -1074 ≤ i) (hm : m < 2 ^ 53) (h : 9007199254740992 * (UU : Int) ≤ (vl (.number s m i)).natAbs) : whl (vl (.number s m i)) = true := by
  rw [vl_abs, sgn_abs] at h
  unfold whl
  rw [vl_abs, sgn_abs]
  have h1 : 9007199254740992 * UU ≤ m * 2 ^ (i + 1074).toNat := by omega
  by_cases hp0 : 0 ≤ i
  · rw [show (i + 1074).toNat = i.toNat + eU by (have := eU_def; omega), Nat.pow_add, ← Nat.mul_assoc]
    exact decide_eq_true (Nat.mul_mod_left _ _)
  · exfalso
    have h2 : 2 ^ (i + 1074).toNat ≤ UU := Nat.pow_le_pow_right (by decide) (by have := eU_def; omega)
    have h3 : m * 2 ^ (i + 1074).toNat ≤ m * UU := Nat.mul_le_mul (Nat.le_refl _) h2
    have h4 : m * UU < 9007199254740992 * UU := Nat.mul_lt_mul_of_pos_right (by omega) UU_pos
    omega
theorem qt_bd {s : Bool} {m : Nat} {i : Int} {B : Nat} (hi : -1074 ≤ i) (h : (vl (.number s m i)).natAbs ≤ B * UU) : qt m i ≤ B := by
  rw [qt_eq hi]
  rw [vl_abs, sgn_abs] at h
  calc m * 2 ^ (i + 1074).toNat / UU ≤ B * UU / UU := Nat.div_le_div_right h
    _ = B := Nat.mul_div_cancel _ UU_pos
theorem f2i_num {y : Nat} {s : Bool} {m : Nat} {i : Int} (hy : FloatKind.f64.decode y = .number s m i) (h : qt m i ≤ 9007199254740992) : f2i .f64 y .i64 = some (sgn s (qt m i)) := by
  unfold f2i
  rw [toInt_num hy]
  simp only
  rw [if_pos]
  have : IntKind.min .i64 = -9223372036854775808 := by decide
  have : IntKind.max .i64 = 9223372036854775807 := by decide
  cases s <;> simp only [sgn, Bool.false_eq_true, if_false, if_true] <;> omega
theorem J107_1_eq {y : Nat} {k : Bool → Option α} : J107_0_1 α y k = k (badD y) := by
  rcases read64 (n := y) with ⟨s, m, i, hy, hi, hi2, hm⟩ | ⟨s, hy⟩ | hn
  · obtain ⟨m1, i1, a1, a2, a3⟩ := k53
    obtain ⟨m2, i2, b1, b2, b3⟩ := kn53
    obtain ⟨m0, i0, c1, c2, c3⟩ := k0
    have hU := UU_pos
    have e0 : ((FloatKind.format .f64).order y y != some Ordering.eq) = false := by
      show (!((FloatKind.format .f64).order y y == some Ordering.eq)) = false
      rw [ord_eq hy hy hi hi]; simp
    have e1 : ((FloatKind.format .f64).order 0 0 != some Ordering.eq) = false := by
      show (!((FloatKind.format .f64).order 0 0 == some Ordering.eq)) = false
      rw [ord_eq c1 c1 c2 c2]; simp
    have hb : badD y = !whl (vl (.number s m i)) := by simp only [badD, hy]
    rw [hb]
    simp only [J107_0_1, J107_0_1g, e0, cK_false, sub_self_num hy, flN, e1]
    rw [ord_lt hy a1 hi a2, ord_gt hy b1 hi b2, a3, b3]
    by_cases h1 : vl (.number s m i) < 9007199254740992 * (UU : Int)
    · rw [decide_eq_true h1, cK_true]
      by_cases h2 : -9007199254740992 * (UU : Int) < vl (.number s m i)
      · rw [decide_eq_true h2, cK_true, f2i_num hy (qt_bd (s := s) hi (by omega))]
        show k (!((FloatKind.format .f64).order (FloatKind.nearest .f64 (sgn s (qt m i))) y == some Ordering.eq)) = _
        obtain ⟨t, m', i', n1, n2, n3⟩ := nearest_num (s := s) hi hi2 hm
        rw [ord_eq n1 hy n2 hi, n3, whl_qt hi]
      · rw [decide_eq_false h2, cK_false, big64 hi hm (by omega)]; rfl
    · rw [decide_eq_false h1, cK_false, big64 hi hm (by omega)]; rfl
  · have e0 : ((FloatKind.format .f64).order y y != some Ordering.eq) = false := by
      show (!((FloatKind.format .f64).order y y == some Ordering.eq)) = false
      rw [ord_self_inf hy hy]; rfl
    have hb : badD y = true := by simp only [badD, hy]
    rw [hb]
    simp only [J107_0_1, J107_0_1g, e0, cK_false, sub_self_inf hy, flN]
  · have e0 : ((FloatKind.format .f64).order y y != some Ordering.eq) = true := by rw [nan_order (.inl hn)]; rfl
    obtain ⟨s, t, hd⟩ := isNaNb_iff.1 hn
    have hb : badD y = true := by simp only [badD, hd]
    rw [hb]
    simp only [J107_0_1, J107_0_1g, e0, cK_true]
theorem R107_2_eq {a b : Nat} {k1 : Option α} {k2 : Int → Bool → Option α} {n : Nat} : R107_0_2 α a b k1 k2 (n + 3) 0 = if badD a = true ∨ badD b = true then k1 else k2 2 false := by
  simp only [R107_0_2, S107_0_2, S107_0_2g, J107_0_0, J107_0_0g, J107_1_eq]
  cases ha : badD a <;> cases hb : badD b <;> rfl
end Go.AM.K
