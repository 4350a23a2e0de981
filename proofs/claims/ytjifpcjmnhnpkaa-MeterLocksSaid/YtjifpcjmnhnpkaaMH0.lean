/- Chapter 6: powers of i, the document's way. -/
import Derived.Test.YtjifpcjmnhnpkaaMH1
namespace Go.AM.K
set_option linter.unusedVariables false
set_option linter.unusedSimpArgs false
variable {α : Type}
theorem f31_4 {x : Int} {k : Int → Option α} : f31_0 α x 4 k = k (x % 4) := by
  obtain ⟨a1, a2, a3⟩ := tmod4_bd x
  simp only [f31_0, f31_0g]
  rw [gK_of (by decide)]
  by_cases h : Int.tmod x 4 < 0
  · rw [decide_eq_true h, cK_true, w64_in (by omega) (by omega)]; congr 1; omega
  · rw [decide_eq_false h, cK_false]; congr 1; omega
theorem f73_eq {re im p : Int} (h1 : -1000000000000 ≤ re ∧ re ≤ 1000000000000) (h2 : -1000000000000 ≤ im ∧ im ≤ 1000000000000) {k : Int → Int → Option α} : f73_0 α re im p k = k (rtR p re im) (rtI p re im) := by
  obtain ⟨z, hz⟩ : ∃ z, fuel = z + 4 := ⟨fuel - 4, by have := fuel_ge; omega⟩
  have w1 : w64 (0 + 1) = 1 := by decide
  have w2 : w64 (1 + 1) = 2 := by decide
  have w3 : w64 (2 + 1) = 3 := by decide
  have n1 : w64 (0 - im) = -im := by rw [w64_in (by omega) (by omega)]; omega
  have n2 : w64 (0 - re) = -re := by rw [w64_in (by omega) (by omega)]; omega
  have n3 : w64 (0 - -im) = im := by rw [w64_in (by omega) (by omega)]; omega
  have n4 : w64 (0 - -re) = re := by rw [w64_in (by omega) (by omega)]; omega
  simp only [f73_0, f73_0g, L73_0_0, hz, R73_0_0, S73_0_0, S73_0_0g, f31_4, w1, w2, w3, n1, n2, n3, n4]
  unfold rtR rtI
  have hm : p % 4 = 0 ∨ p % 4 = 1 ∨ p % 4 = 2 ∨ p % 4 = 3 := by omega
  rcases hm with h | h | h | h <;> rw [h] <;> rfl
end Go.AM.K
