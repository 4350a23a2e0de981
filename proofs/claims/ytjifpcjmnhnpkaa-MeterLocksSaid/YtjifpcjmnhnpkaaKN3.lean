/- Floats as numbers: size, a float less itself. Plain. -/
import Derived.Test.YtjifpcjmnhnpkaaKN2
namespace Go.AM
open Ieee
set_option linter.unusedVariables false
set_option linter.unusedSimpArgs false
def absF (y : Nat) : Nat := Int.toNat (iAndNot .u64 ((y : Nat) : Int) 9223372036854775808)
theorem absF_eq (y : Nat) : absF y = y % 9223372036854775808 := by
  unfold absF iAndNot
  have e1 : (BitVec.ofInt (IntKind.bits .u64) 9223372036854775808).toNat = 9223372036854775808 := by decide
  have e2 : (BitVec.ofInt (IntKind.bits .u64) ((y : Nat) : Int)).toNat = y % 18446744073709551616 := by
    rw [BitVec.toNat_ofInt]
    show (((y : Nat) : Int) % ((2 ^ 64 : Nat) : Int)).toNat = _
    omega
  have e3 : (BitVec.ofInt (IntKind.bits .u64) ((y : Nat) : Int) &&& ~~~(BitVec.ofInt (IntKind.bits .u64) 9223372036854775808)).toNat = y % 9223372036854775808 := by
    rw [BitVec.toNat_and, BitVec.toNat_not, e1, e2]
    show (y % 18446744073709551616) &&& (2 ^ 63 - 1) = _
    rw [Nat.and_two_pow_sub_one_eq_mod]
    omega
  rw [e3]
  have : IntKind.wrap .u64 ((y % 9223372036854775808 : Nat) : Int) = ((y % 9223372036854775808 : Nat) : Int) := by
    have h1 : (0 : Int) ≤ ((y % 9223372036854775808 : Nat) : Int) := by omega
    have h2 : ((y % 9223372036854775808 : Nat) : Int) < 18446744073709551616 := by omega
    simp only [IntKind.wrap, IntKind.bits, IntKind.signed, Bool.false_eq_true, if_false, false_and]
    first
      | exact Int.emod_eq_of_lt h1 h2
      | (rw [Int.emod_eq_of_lt h1 h2]; try rfl)
  rw [this]; omega
theorem abs_read {y : Nat} : FloatKind.f64.decode (absF y) = match FloatKind.f64.decode y with | .number _ m i => .number false m i | .infinity _ => .infinity false | .nan _ t => .nan false t := by
  have h1 : Ieee.double.signWeight = 9223372036854775808 := by decide
  rw [absF_eq]
  simp only [FloatKind.decode, FloatKind.format, Ieee.Format.read, h1]
  have e1 : y % 9223372036854775808 / 9223372036854775808 = 0 := by omega
  have e2 : y % 9223372036854775808 % 9223372036854775808 = y % 9223372036854775808 := by omega
  rw [e1, e2]
  simp only [Nat.zero_mod]
  split
  · rfl
  · split
    · rfl
    · split <;> rfl
theorem sub_self_num {y : Nat} {s : Bool} {m : Nat} {i : Int} (hy : FloatKind.f64.decode y = .number s m i) : (FloatKind.format .f64).sub y y = some 0 := by
  show ((FloatKind.f64.decode y).sum (FloatKind.f64.decode y).opposite).map Ieee.double.write = some 0
  rw [hy]
  simp only [Datum.opposite, Datum.sum]
  have e : signed s m (i - min i i).toNat + signed (!s) m (i - min i i).toNat = 0 := by
    cases s <;> simp only [signed, Bool.not_true, Bool.not_false, Bool.false_eq_true, if_false, if_true] <;> omega
  rw [e]
  simp only [if_true, Option.map_some, Option.some.injEq]
  have : (s && !s) = false := by cases s <;> rfl
  rw [this]
  show Ieee.double.nearest false (Int.natAbs 0) _ = 0
  unfold Ieee.Format.nearest
  rw [if_pos (by rfl)]
  decide
theorem sub_self_inf {y : Nat} {s : Bool} (hy : FloatKind.f64.decode y = .infinity s) : (FloatKind.format .f64).sub y y = none := by
  show ((FloatKind.f64.decode y).sum (FloatKind.f64.decode y).opposite).map Ieee.double.write = none
  rw [hy]
  cases s <;> rfl
theorem ord_self_inf {y z : Nat} {s : Bool} (hy : FloatKind.f64.decode y = .infinity s) (hz : FloatKind.f64.decode z = .infinity s) : ((FloatKind.format .f64).order z y == some Ordering.eq) = true := by
  show ((FloatKind.f64.decode z).order (FloatKind.f64.decode y) == some Ordering.eq) = true
  rw [hy, hz]
  cases s <;> decide
theorem notNaN {y : Nat} (h : (∃ s m i, FloatKind.f64.decode y = .number s m i) ∨ ∃ s, FloatKind.f64.decode y = .infinity s) : isNaNb .f64 y = false := by
  unfold isNaNb
  rcases h with ⟨s, m, i, h⟩ | ⟨s, h⟩ <;> rw [h]
def mxF : Nat := 9007199254740991 * 2 ^ (971 + eU)
theorem kMax : ∃ m i, FloatKind.f64.decode 9218868437227405311 = .number false m i ∧ -1074 ≤ i ∧ vl (.number false m i) = (mxF : Int) := ⟨9007199254740991, 971, by decide +kernel, by omega, by decide +kernel⟩
theorem le_max {m : Nat} {i : Int} (hi2 : i ≤ 971) (hm : m < 2 ^ 53) : vl (.number false m i) ≤ (mxF : Int) := by
  rw [vl_abs]
  have : m * 2 ^ (i + 1074).toNat ≤ mxF := Nat.mul_le_mul (by omega) (Nat.pow_le_pow_right (by decide) (by have := eU_def; omega))
  exact Int.ofNat_le.2 this
end Go.AM
