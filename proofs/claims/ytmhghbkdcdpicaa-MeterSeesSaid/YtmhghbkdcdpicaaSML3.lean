/- Chapter 6: sums and ratios. -/
import Derived.Test.YtmhghbkdcdpicaaSML1
namespace Go.AM.K
set_option linter.unusedVariables false
set_option linter.unusedSimpArgs false
variable {α : Type}
def smE (a b c d e f : Int) : Int := fst3 (rgE 10000000 a b) (rgE 10000000 c d) (rgE 10000000 e f)
theorem f42_eq {a b c d e f : Int} {k : Int → Option α} : f42_0 α a b c d e f k = k (smE a b c d e f) := by
  simp only [f42_0, f42_0g]
  exact f68_3 (by decide) (by decide)
theorem f27_eq {n : Int} {k : Bool → Option α} : f27_0 α n k = k (decide (-10000000 ≤ n ∧ n ≤ 10000000)) := by simp only [f27_0, f27_0g, f24_eq]
theorem rgK {lo hi : Int} {k : Int → Option α} {x : Option α} : (cK (!decide (-10000000 ≤ lo ∧ lo ≤ 10000000)) (k 2) (cK (!decide (-10000000 ≤ hi ∧ hi ≤ 10000000)) (k 2) (cK (decide (hi < lo)) (k 10) x))) = if rgE 10000000 lo hi ≠ 0 then k (rgE 10000000 lo hi) else x := by
  by_cases a : -10000000 ≤ lo ∧ lo ≤ 10000000
  · by_cases b : -10000000 ≤ hi ∧ hi ≤ 10000000
    · by_cases c : hi < lo
      · have e : rgE 10000000 lo hi = 10 := by unfold rgE; rw [if_pos ⟨a, b⟩, if_pos c]
        rw [decide_eq_true a, decide_eq_true b, decide_eq_true c, e]; rfl
      · have e : rgE 10000000 lo hi = 0 := by unfold rgE; rw [if_pos ⟨a, b⟩, if_neg c]
        rw [decide_eq_true a, decide_eq_true b, decide_eq_false c, e]; rfl
    · have e : rgE 10000000 lo hi = 2 := by unfold rgE; rw [if_neg (fun h => b h.2)]
      rw [decide_eq_true a, decide_eq_false b, e]; rfl
  · have e : rgE 10000000 lo hi = 2 := by unfold rgE; rw [if_neg (fun h => a h.1)]
    rw [decide_eq_false a, e]; rfl
theorem f9_eq {a b c d e f : Int} {k : Int → Option α} : f9_0 α a b c d e f k = k (smE a b c d e f) := by
  obtain ⟨z, hz⟩ : ∃ z, fuel = z + 4 := ⟨fuel - 4, by have := fuel_ge; omega⟩
  simp only [f9_0, f9_0g, f26_0, f26_0g, L9_0_2, hz, R9_0_2, S9_0_2, S9_0_2g]
  rw [show decide ((0 : Int) < 3) = true by decide, show w64 (0 + 1) = 1 by decide, show decide ((1 : Int) < 3) = true by decide, show w64 (1 + 1) = 2 by decide, show decide ((2 : Int) < 3) = true by decide, show w64 (2 + 1) = 3 by decide, show decide ((3 : Int) < 3) = false by decide]
  simp only [cK_true, cK_false, J9_0_0, J9_0_0g, J9_0_1, J9_0_1g, Int.reduceBEq, f27_eq, rgK]
  unfold smE fst3
  by_cases h : rgE 10000000 a b = 0
  · rw [h]
    by_cases h' : rgE 10000000 c d = 0
    · rw [h']
      by_cases h'' : rgE 10000000 e f = 0
      · rw [h'']; rfl
      · simp [h'']
    · simp [h']
  · simp [h]
theorem smE_ok {a b c d e f : Int} (h : smE a b c d e f = 0) : ((-10000000 ≤ a ∧ a ≤ 10000000) ∧ (-10000000 ≤ b ∧ b ≤ 10000000) ∧ a ≤ b) ∧ ((-10000000 ≤ c ∧ c ≤ 10000000) ∧ (-10000000 ≤ d ∧ d ≤ 10000000) ∧ c ≤ d) ∧ (-10000000 ≤ e ∧ e ≤ 10000000) ∧ (-10000000 ≤ f ∧ f ≤ 10000000) ∧ e ≤ f := by
  unfold smE fst3 at h
  rcases rgE_cases 10000000 a b with ⟨h1, h2⟩ | h1 | h1 <;> rcases rgE_cases 10000000 c d with ⟨h3, h4⟩ | h3 | h3 <;> rcases rgE_cases 10000000 e f with ⟨h5, h6⟩ | h5 | h5 <;> rw [h1, h3, h5] at h <;> simp at h
  exact ⟨h2, h4, h6⟩
end Go.AM.K
