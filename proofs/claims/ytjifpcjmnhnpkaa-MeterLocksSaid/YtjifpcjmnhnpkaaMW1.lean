/- Chapter 6: whole pairs, the document's way. -/
import Derived.Test.YtjifpcjmnhnpkaaMW0
namespace Go.AM.K
open Ieee
set_option linter.unusedVariables false
set_option linter.unusedSimpArgs false
variable {α : Type}
theorem f71_eq {y : Nat} {k : Bool → Option α} : f71_1 α y k = k (!badD y) := by
  rcases read64 (n := y) with ⟨s, m, i, hy, hi, hi2, hm⟩ | ⟨s, hy⟩ | hn
  · have hU := UU_pos
    rw [f71_num hy hi hi2 hm (fun h => big64 hi hm (by omega))]
    simp only [badD, hy, Bool.not_not]
  · rw [f71_inf hy]; simp only [badD, hy]; rfl
  · have e0 : ((FloatKind.format .f64).order y y != some Ordering.eq) = true := by rw [nan_order (.inl hn)]; rfl
    obtain ⟨s, t, hd⟩ := isNaNb_iff.1 hn
    simp only [f71_1, f71_1g, e0, cK_true, badD, hd]; rfl
end Go.AM.K
