/- The first guess of a root: the float root of a whole number below 2 to the power of 58. -/
import Derived.Test.YtjifpcjmnhnpkaaKN5
namespace Go.AM
open Ieee
set_option linter.unusedVariables false
set_option linter.unusedSimpArgs false
theorem near_pos {n : Nat} (h0 : n ≠ 0) (h1 : n < 288230376151711744) :
    ∃ K i, FloatKind.f64.decode (FloatKind.nearest .f64 (n : Int)) = .number false K i ∧ 4503599627370496 ≤ K ∧ K < 9007199254740992 ∧ -52 ≤ i ∧ i ≤ 6 := by
  have hs : decide ((n : Int) < 0) = false := decide_eq_false (by omega)
  have hL : n.log2 < 58 := (Nat.log2_lt h0).2 h1
  obtain ⟨b1, b2⟩ := log2_bd h0
  unfold FloatKind.nearest
  rw [hs, show (n : Int).natAbs = n by omega]
  by_cases h : n.log2 ≤ 52
  · refine ⟨_, _, exactLo h0 h (by omega) (by omega), ?_, ?_, by omega, by omega⟩
    · have : 2 ^ n.log2 * 2 ^ (52 - n.log2) ≤ n * 2 ^ (52 - n.log2) := Nat.mul_le_mul_right _ b1
      rw [← Nat.pow_add, show n.log2 + (52 - n.log2) = 52 by omega] at this
      exact this
    · have : n * 2 ^ (52 - n.log2) < 2 ^ (n.log2 + 1) * 2 ^ (52 - n.log2) := Nat.mul_lt_mul_of_pos_right b2 (Nat.two_pow_pos _)
      rw [← Nat.pow_add, show n.log2 + 1 + (52 - n.log2) = 53 by omega] at this
      exact this
  · obtain ⟨K, i, e, e1, e2, e3, e4⟩ := roundHi (s := false) (m := n) (p := 0) (by omega) (by omega) (by omega)
    exact ⟨K, i, e, e1, by simpa using e2, by omega, by omega⟩
theorem root_bd {K : Nat} {i : Int} (hK1 : 4503599627370496 ≤ K) (hK2 : K < 9007199254740992) (hi1 : -52 ≤ i) (hi2 : i ≤ 6) :
    ∃ M p, Datum.root 54 (.number false K i) = some (.number false M p) ∧ 36028797018963968 ≤ M ∧ M < 72057594037927936 ∧ -56 ≤ p ∧ p ≤ -26 := by
  have hl : K.log2 = 52 := by
    have a1 : K.log2 < 53 := (Nat.log2_lt (by omega)).2 (by omega)
    have a2 : 52 ≤ K.log2 := (Nat.le_log2 (by omega)).2 (by omega)
    omega
  have hK0 : ¬ K = 0 := by omega
  simp only [Datum.root, if_neg hK0, Bool.false_eq_true, if_false, hl]
  obtain ⟨z, hz, hz2⟩ : ∃ z : Nat, ((i - ((2 * 54 - 52 : Nat) : Int)) % 2).toNat = z ∧ z < 2 := ⟨_, rfl, by omega⟩
  rw [hz]
  have hsh : K <<< (2 * 54 - 52 + z) = K * 2 ^ (56 + z) := by rw [Nat.shiftLeft_eq]
  rw [hsh]
  have hp : 2 ^ (56 + z) = 72057594037927936 ∨ 2 ^ (56 + z) = 144115188075855872 := by
    rcases (show z = 0 ∨ z = 1 by omega) with h | h <;> subst h <;> simp
  have hpos : 72057594037927936 ≤ 2 ^ (56 + z) ∧ 2 ^ (56 + z) ≤ 144115188075855872 := by omega
  have g1 : 4503599627370496 * 72057594037927936 ≤ K * 2 ^ (56 + z) := Nat.mul_le_mul hK1 hpos.1
  have g2 : K * 2 ^ (56 + z) < 9007199254740992 * 144115188075855872 := Nat.lt_of_lt_of_le (Nat.mul_lt_mul_of_pos_right hK2 (Nat.two_pow_pos _)) (Nat.mul_le_mul_left _ hpos.2)
  generalize K * 2 ^ (56 + z) = n at *
  have hn : 108 ≤ n.log2 := (Nat.le_log2 (by omega)).2 (by omega)
  have hn2 : n.log2 < 110 := (Nat.log2_lt (by omega)).2 (by omega)
  have hd : n.log2 / 2 + 1 = 55 := by omega
  rw [hd]
  obtain ⟨r1, r2⟩ := rootFrom_bd (n := n) 55 0 (by omega) (by omega)
  generalize Datum.rootFrom n 55 0 = w at *
  have w1 : 18014398509481984 ≤ w := by
    by_cases h : 18014398509481984 ≤ w
    · exact h
    · have : (w + 1) * (w + 1) ≤ 18014398509481984 * 18014398509481984 := Nat.mul_le_mul (by omega) (by omega)
      omega
  have w2 : w < 36028797018963968 := by
    by_cases h : w < 36028797018963968
    · exact h
    · have : 36028797018963968 * 36028797018963968 ≤ w * w := Nat.mul_le_mul (by omega) (by omega)
      omega
  have hb := Bool.toNat_le (w * w != n)
  exact ⟨_, _, rfl, by omega, by omega, by omega, by omega⟩
theorem sqrt_guess {n : Int} (h0 : 0 ≤ n) (h1 : n < 288230376151711744) :
    ∃ y r, FloatKind.f64.format.sqrt (FloatKind.nearest .f64 n) = some y ∧ f2i .f64 y .i64 = some r ∧ 0 ≤ r ∧ r < 2147483648 := by
  obtain ⟨n, rfl⟩ : ∃ m : Nat, n = (m : Int) := ⟨n.toNat, by omega⟩
  by_cases hn : n = 0
  · subst hn
    exact ⟨0, 0, by decide, by decide, by omega, by omega⟩
  · obtain ⟨K, i, e, k1, k2, i1, i2⟩ := near_pos hn (by omega)
    obtain ⟨M, p, e2, m1, m2, p1, p2⟩ := root_bd k1 k2 i1 i2
    have hl : M.log2 = 55 := by
      have a1 : M.log2 < 56 := (Nat.log2_lt (by omega)).2 (by omega)
      have a2 : 55 ≤ M.log2 := (Nat.le_log2 (by omega)).2 (by omega)
      omega
    obtain ⟨K2, i2, e3, _, k4, q1, q2⟩ := roundHi (s := false) (m := M) (p := p) (by omega) (by omega) (by omega)
    rw [hl] at q1 q2
    have e' : FloatKind.f64.format.read (FloatKind.nearest .f64 (n : Int)) = .number false K i := e
    have hq : qt K2 i2 < 2147483648 := by
      unfold qt
      rw [cutZ, show i2.toNat = 0 by omega, Nat.shiftLeft_zero]
      have hl2 : K2.log2 = 52 := by
        have a1 : K2.log2 < 53 := (Nat.log2_lt (by omega)).2 (by omega)
        have a2 : 52 ≤ K2.log2 := (Nat.le_log2 (by omega)).2 (by omega)
        omega
      rw [hl2, Nat.min_eq_left (by omega), Nat.shiftLeft_eq, Nat.one_mul, Nat.div_lt_iff_lt_mul (Nat.two_pow_pos _)]
      have : 2 ^ 22 ≤ 2 ^ (-i2).toNat := Nat.pow_le_pow_right (by decide) (by omega)
      have := Nat.mul_le_mul_left 2147483648 this
      omega
    refine ⟨FloatKind.f64.encode (.number false M p), sgn false (qt K2 i2), ?_, ?_, ?_, ?_⟩
    · show ((FloatKind.f64.format.read (FloatKind.nearest .f64 (n : Int))).root 54).map FloatKind.f64.format.write = _
      rw [e', e2]; rfl
    · unfold f2i
      rw [toInt_num e3]
      simp only [sgn, Bool.false_eq_true, if_false]
      have m1 : IntKind.min .i64 = -9223372036854775808 := by decide
      have m2 : IntKind.max .i64 = 9223372036854775807 := by decide
      rw [if_pos (by omega)]
    · simp [sgn]
    · simp only [sgn, Bool.false_eq_true, if_false]
      omega
end Go.AM
