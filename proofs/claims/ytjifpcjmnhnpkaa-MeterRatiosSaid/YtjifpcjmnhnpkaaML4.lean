/- MeterRatios. -/
import Derived.Test.YtjifpcjmnhnpkaaML1
import Derived.Test.YtjifpcjmnhnpkaaKTt
namespace Go.AM.K
set_option linter.unusedVariables false
variable {α : Type}
theorem eq5 {x y : Int} : (((x == x) && ((y == y) && true))) = true := by simp
theorem ratK_nat {a b c d e f : Int} {k : Int → Int → Int → Int → Int → Option α} {g : Int → Int → Int → Int → Int → Option α} (h : ∀ x y z w v, k x y z w v = g x y z w v) : ratK a b c d e f k = ratK a b c d e f g := by
  have : k = g := by funext x y z w v; exact h x y z w v
  rw [this]
theorem ratK_self {a b c d e f : Int} {k : Bool → Option α} :
    ratK a b c d e f (fun x7 x8 x9 x10 x11 => ratK a b c d e f fun x y z w v => cK (x11 == v) (k (((x7 == x) && ((x8 == y) && true)) && (((x9 == z) && ((x10 == w) && true)) && true))) (k false)) = k true := by
  unfold ratK
  split
  · rfl
  · split
    · simp
    · split
      · simp
      · simp
theorem law4 {a b c d e f : Int} {k : Bool → Option α} : f4_0 α a b c d e f k = k true := by
  simp only [f4_0, f4_0g, f15_0, f23_eq, f24_eq, J4_0_0, J4_0_0g]
  by_cases h : smE a b c d e f = 0
  · have hE : ¬ (smE a b c d e f ≠ 0) := fun hh => hh h
    simp only [if_neg hE]
    refine Eq.trans (ratK_nat fun x y z w v => ?_) ratK_self
    rw [h, show ((0 : Int) == 0) = true from rfl, cK_true, f25_eq h]
  · simp only [if_pos h]
    rw [beq_eq_false_iff_ne.2 h, cK_false]
    simp
end Go.AM.K
