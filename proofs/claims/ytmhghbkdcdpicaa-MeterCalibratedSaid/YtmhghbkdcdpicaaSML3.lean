/- Chapter 6: sums and ratios. -/
import Derived.Test.YtmhghbkdcdpicaaSML1
namespace Go.AM.K
set_option linter.unusedVariables false
set_option linter.unusedSimpArgs false
variable {α : Type}
def smE (a b c d e f : Int) : Int := fst3 (rgE 10000000 a b) (rgE 10000000 c d) (rgE 10000000 e f)
theorem f42_eq {a b c d e f : Int} {k : Int → Option α} : f42_0 α a b c d e f k = k (smE a b c d e f) := by
  simp only [f42_0, f42_0g]
  exact f68_3 (by decide) (by decide)
theorem smE_ok {a b c d e f : Int} (h : smE a b c d e f = 0) : ((-10000000 ≤ a ∧ a ≤ 10000000) ∧ (-10000000 ≤ b ∧ b ≤ 10000000) ∧ a ≤ b) ∧ ((-10000000 ≤ c ∧ c ≤ 10000000) ∧ (-10000000 ≤ d ∧ d ≤ 10000000) ∧ c ≤ d) ∧ (-10000000 ≤ e ∧ e ≤ 10000000) ∧ (-10000000 ≤ f ∧ f ≤ 10000000) ∧ e ≤ f := by
  unfold smE fst3 at h
  rcases rgE_cases 10000000 a b with ⟨h1, h2⟩ | h1 | h1 <;> rcases rgE_cases 10000000 c d with ⟨h3, h4⟩ | h3 | h3 <;> rcases rgE_cases 10000000 e f with ⟨h5, h6⟩ | h5 | h5 <;> rw [h1, h3, h5] at h <;> simp at h
  exact ⟨h2, h4, h6⟩
end Go.AM.K
