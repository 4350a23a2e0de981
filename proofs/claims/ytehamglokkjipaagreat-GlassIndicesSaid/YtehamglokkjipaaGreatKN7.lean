/- Whole numbers as doubles; roots of whole numbers. Plain. -/
import Derived.Test.YtehamglokkjipaaGreatKN3
import Derived.Test.YtehamglokkjipaaGreatKN6
namespace Go.AM
open Ieee
set_option linter.unusedVariables false
set_option linter.unusedSimpArgs false
theorem whole_small {n : Int} (h : n.natAbs < 9007199254740992) :
    ∃ s m i, FloatKind.f64.decode (FloatKind.nearest .f64 n) = .number s m i ∧ -1074 ≤ i ∧ i ≤ 971 ∧ m < 2 ^ 53 ∧ vl (.number s m i) = n * (UU : Int) := by
  have hl : n.natAbs.log2 ≤ 52 := by
    by_cases h0 : n.natAbs = 0
    · rw [h0]; decide
    · have := (Nat.log2_lt h0 (k := 53)).2 (by omega)
      omega
  obtain ⟨t, m, i, h1, h2, h3⟩ := whole_enc (decide (n < 0)) n.natAbs (.inl hl) (by omega)
  have h1' : FloatKind.f64.decode (FloatKind.nearest .f64 n) = .number t m i := h1
  have hs : sgn (decide (n < 0)) n.natAbs = n := by
    by_cases hn : n < 0
    · rw [decide_eq_true hn]; simp only [sgn, if_true]; omega
    · rw [decide_eq_false hn]; simp only [sgn, Bool.false_eq_true, if_false]; omega
  rw [hs] at h3
  rcases read64 (n := FloatKind.nearest .f64 n) with ⟨s', m', i', e, e1, e2, e3⟩ | ⟨s', e⟩ | e
  · have := h1'.symm.trans e
    injection this with a1 a2 a3
    subst a1; subst a2; subst a3
    exact ⟨t, m, i, h1', h2, e2, e3, h3⟩
  · rw [h1'] at e; cases e
  · rw [isNaNb_iff] at e
    obtain ⟨s', t', e⟩ := e
    have : FloatKind.f64.decode (FloatKind.nearest .f64 n) = .nan s' t' := e
    rw [h1'] at this; cases this
theorem whole_qt {n : Int} {s : Bool} {m : Nat} {i : Int} (hi : -1074 ≤ i) (hv : vl (.number s m i) = n * (UU : Int)) : sgn s (qt m i) = n := by
  have hU := UU_pos
  rw [vl_abs] at hv
  have h1 : m * 2 ^ (i + 1074).toNat = n.natAbs * UU := by
    have := congrArg Int.natAbs hv
    rwa [sgn_abs, Int.natAbs_mul, Int.natAbs_natCast] at this
  rw [qt_eq hi, h1, Nat.mul_div_cancel _ hU]
  rw [h1, sgn_mul] at hv
  exact Int.eq_of_mul_eq_mul_right (by omega) hv
theorem f2i_whole {n : Int} (h : n.natAbs < 9007199254740992) : f2i .f64 (FloatKind.nearest .f64 n) .i64 = some n := by
  obtain ⟨s, m, i, h1, h2, h3, h4, h5⟩ := whole_small h
  unfold f2i
  rw [toInt_num h1, whole_qt h2 h5]
  have m1 : IntKind.min .i64 = -9223372036854775808 := by decide
  have m2 : IntKind.max .i64 = 9223372036854775807 := by decide
  simp only
  rw [if_pos (by omega)]
theorem mulU_lt {a b : Int} : a * (UU : Int) < b * (UU : Int) ↔ a < b := by
  have hU : (0 : Int) < (UU : Int) := by have := UU_pos; omega
  exact ⟨fun h => Int.lt_of_mul_lt_mul_right h (by omega), fun h => Int.mul_lt_mul_of_pos_right h hU⟩
def isqGo (n : Nat) : Nat → Nat → Nat
  | 0, r => r
  | k + 1, r => match (r + 2 ^ k) with
    | 0 => isqGo n k r
    | x + 1 => if (x + 1) * (x + 1) ≤ n then isqGo n k (x + 1) else isqGo n k r
def isq (n : Nat) : Nat := isqGo n 29 0
theorem isqGo_bd {n : Nat} : ∀ (k r : Nat), r * r ≤ n → n < (r + 2 ^ k) * (r + 2 ^ k) → isqGo n k r * isqGo n k r ≤ n ∧ n < (isqGo n k r + 1) * (isqGo n k r + 1)
  | 0, r, h1, h2 => ⟨h1, by rw [Nat.pow_zero] at h2; exact h2⟩
  | k + 1, r, h1, h2 => by
    have hp := Nat.two_pow_pos k
    simp only [isqGo]
    split
    · rename_i h; omega
    · rename_i x h
      rw [show x + 1 = r + 2 ^ k by omega]
      by_cases hc : (r + 2 ^ k) * (r + 2 ^ k) ≤ n
      · rw [if_pos hc]
        exact isqGo_bd k _ hc (by rw [Nat.add_assoc, ← Nat.two_mul, ← Nat.pow_succ']; exact h2)
      · rw [if_neg hc]
        exact isqGo_bd k r h1 (by omega)
theorem isq_bd {n : Nat} (h : n < 288230376151711744) : isq n * isq n ≤ n ∧ n < (isq n + 1) * (isq n + 1) :=
  isqGo_bd 29 0 (by omega) (by simpa using h)
theorem isq_lt {n : Nat} (h : n < 288230376151711744) : isq n < 536870912 := by
  obtain ⟨h1, h2⟩ := isq_bd h
  by_cases h3 : isq n < 536870912
  · exact h3
  · have : 536870912 * 536870912 ≤ isq n * isq n := Nat.mul_le_mul (by omega) (by omega)
    omega
end Go.AM
