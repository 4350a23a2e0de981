/- Whole numbers as doubles; roots of whole numbers. Plain. -/
import Derived.Test.YtehamglokkjipaaGreatKN3
import Derived.Test.YtehamglokkjipaaGreatKN6
namespace Go.AM
open Ieee
set_option linter.unusedVariables false
set_option linter.unusedSimpArgs false
def isqGo (n : Nat) : Nat → Nat → Nat
  | 0, r => r
  | k + 1, r => match (r + 2 ^ k) with
    | 0 => isqGo n k r
    | x + 1 => if (x + 1) * (x + 1) ≤ n then isqGo n k (x + 1) else isqGo n k r
def isq (n : Nat) : Nat := isqGo n 29 0
theorem isqGo_bd {n : Nat} : ∀ (k r : Nat), r * r ≤ n → n < (r + 2 ^ k) * (r + 2 ^ k) → isqGo n k r * isqGo n k r ≤ n ∧ n < (isqGo n k r + 1) * (isqGo n k r + 1)
  | 0, r, h1, h2 => ⟨h1, by rw [Nat.pow_zero] at h2; exact h2⟩
  | k + 1, r, h1, h2 => by
    have hp := Nat.two_pow_pos k
    simp only [isqGo]
    split
    · rename_i h; omega
    · rename_i x h
      rw [show x + 1 = r + 2 ^ k by omega]
      by_cases hc : (r + 2 ^ k) * (r + 2 ^ k) ≤ n
      · rw [if_pos hc]
        exact isqGo_bd k _ hc (by rw [Nat.add_assoc, ← Nat.two_mul, ← Nat.pow_succ']; exact h2)
      · rw [if_neg hc]
        exact isqGo_bd k r h1 (by omega)
theorem isq_bd {n : Nat} (h : n < 288230376151711744) : isq n * isq n ≤ n ∧ n < (isq n + 1) * (isq n + 1) :=
  isqGo_bd 29 0 (by omega) (by simpa using h)
theorem isq_lt {n : Nat} (h : n < 288230376151711744) : isq n < 536870912 := by
  obtain ⟨h1, h2⟩ := isq_bd h
  by_cases h3 : isq n < 536870912
  · exact h3
  · have : 536870912 * 536870912 ≤ isq n * isq n := Nat.mul_le_mul (by omega) (by omega)
    omega
end Go.AM
