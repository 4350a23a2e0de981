/- The float root: digits. -/
import Derived.Test.YtjifpcjmnhnpkaaKN4
namespace Go.AM
open Ieee
theorem rootFrom_bd {n : Nat} : ∀ (todo root : Nat), root * root ≤ n → n < (root + 2 ^ todo) * (root + 2 ^ todo) → Datum.rootFrom n todo root * Datum.rootFrom n todo root ≤ n ∧ n < (Datum.rootFrom n todo root + 1) * (Datum.rootFrom n todo root + 1)
  | 0, root, h1, h2 => ⟨h1, by rw [Nat.pow_zero] at h2; exact h2⟩
  | todo + 1, root, h1, h2 => by
    simp only [Datum.rootFrom, Nat.shiftLeft_eq, Nat.one_mul]
    by_cases h : (root + 2 ^ todo) * (root + 2 ^ todo) ≤ n
    · rw [if_pos h]
      exact rootFrom_bd todo _ h (by rw [Nat.add_assoc, ← Nat.two_mul, ← Nat.pow_succ']; exact h2)
    · rw [if_neg h]
      exact rootFrom_bd todo root h1 (by omega)
end Go.AM
