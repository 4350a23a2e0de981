/- Floats as numbers: singles. Plain. -/
import Derived.Test.YtjifpcjmnhnpkaaKN3
namespace Go.AM
open Ieee
set_option linter.unusedVariables false
set_option linter.unusedSimpArgs false
def whl (v : Int) : Bool := decide (v.natAbs % UU = 0)
theorem whl_qt {s : Bool} {m : Nat} {i : Int} (hi : -1074 ≤ i) : decide (sgn s (qt m i) * (UU : Int) = vl (.number s m i)) = whl (vl (.number s m i)) := by
  unfold whl
  rw [vl_abs, sgn_abs, qt_eq hi]
  congr 1
  apply propext
  generalize m * 2 ^ (i + 1074).toNat = A
  rw [← sgn_mul]
  have h1 := Nat.div_add_mod A UU
  rw [Nat.mul_comm] at h1
  constructor
  · intro h
    have : A / UU * UU = A := by have := congrArg Int.natAbs h; rwa [sgn_abs, sgn_abs] at this
    omega
  · intro h
    rw [show A / UU * UU = A by omega]
end Go.AM
