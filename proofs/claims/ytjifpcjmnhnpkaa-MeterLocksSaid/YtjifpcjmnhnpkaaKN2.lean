/- Floats as numbers: conversions, wholes. Plain. -/
import Derived.Test.YtjifpcjmnhnpkaaKN1
namespace Go.AM
open Ieee
set_option linter.unusedVariables false
set_option linter.unusedSimpArgs false
def eU : Nat := 1074
theorem eU_def : eU = 1074 := rfl
def UU : Nat := 2 ^ eU
theorem UU_pos : 0 < UU := Nat.two_pow_pos eU
def sgn (s : Bool) (a : Nat) : Int := if s then -(a : Int) else (a : Int)
theorem signed_eq (s : Bool) (m k : Nat) : signed s m k = sgn s (m * 2 ^ k) := by
  unfold signed sgn; rw [Nat.shiftLeft_eq]
theorem sgn_abs (s : Bool) (a : Nat) : (sgn s a).natAbs = a := by cases s <;> simp [sgn]
theorem sgn_mul (s : Bool) (a b : Nat) : sgn s (a * b) = sgn s a * (b : Int) := by cases s <;> simp [sgn, Int.neg_mul]
theorem whole_enc (s : Bool) (q : Nat) (h : q.log2 ≤ 52 ∨ q % 2 ^ (q.log2 - 52) = 0) (h2 : q.log2 ≤ 1023) : ∃ t m i, FloatKind.f64.decode (FloatKind.f64.encode (.number s q 0)) = .number t m i ∧ -1074 ≤ i ∧ vl (.number t m i) = sgn s q * (UU : Int) := by
  by_cases h0 : q = 0
  · subst h0
    refine ⟨s, 0, -1074, encode0, by omega, ?_⟩
    simp only [vl, signed_eq, Nat.zero_mul]
    cases s <;> simp [sgn]
  · by_cases hL : q.log2 ≤ 52
    · refine ⟨_, _, _, exactLo h0 hL (by omega) (by omega), by omega, ?_⟩
      simp only [vl, signed_eq]
      rw [Nat.mul_assoc, ← Nat.pow_add, show 52 - q.log2 + ((0 : Int) + q.log2 - 52 + 1074).toNat = eU by (have := eU_def; omega), ← sgn_mul]
      rfl
    · have hd : q % 2 ^ (q.log2 - 52) = 0 := by rcases h with h | h; omega; exact h
      have hpos := Nat.two_pow_pos (q.log2 - 52)
      refine ⟨_, _, _, exactHi (by omega) hd (by omega) (by omega), by omega, ?_⟩
      simp only [vl, signed_eq]
      have e : ((0 : Int) + q.log2 - 52 + 1074).toNat = (q.log2 - 52) + eU := by have := eU_def; omega
      rw [e, Nat.pow_add, ← Nat.mul_assoc, Nat.div_mul_cancel (Nat.dvd_of_mod_eq_zero hd), ← sgn_mul]
      rfl
def qt (m : Nat) (i : Int) : Nat := Toward.zero.cut false (m <<< i.toNat) (-i).toNat
theorem cutZ (s : Bool) (n d : Nat) : Toward.zero.cut s n d = n / (1 <<< min d (n.log2 + 2)) := by simp [Toward.cut]
theorem qt_eq {m : Nat} {i : Int} (hi : -1074 ≤ i) : qt m i = m * 2 ^ (i + 1074).toNat / UU := by
  unfold qt UU
  rw [cutZ]
  by_cases h : 0 ≤ i
  · rw [show (-i).toNat = 0 by omega, Nat.min_eq_left (Nat.zero_le _), Nat.shiftLeft_zero, Nat.div_one, Nat.shiftLeft_eq, show (i + 1074).toNat = i.toNat + eU by (have := eU_def; omega), Nat.pow_add, ← Nat.mul_assoc, Nat.mul_div_cancel _ (Nat.two_pow_pos _)]
  · rw [show i.toNat = 0 by omega, Nat.shiftLeft_zero, Nat.shiftLeft_eq, Nat.one_mul]
    have e : m * 2 ^ (i + 1074).toNat / 2 ^ eU = m / 2 ^ (-i).toNat := by
      rw [show eU = (-i).toNat + (i + 1074).toNat by (have := eU_def; omega), Nat.pow_add, Nat.mul_div_mul_right _ _ (Nat.two_pow_pos _)]
    rw [e]
    by_cases h2 : (-i).toNat ≤ m.log2 + 2
    · rw [Nat.min_eq_left h2]
    · rw [Nat.min_eq_right (by omega)]
      have hm : m < 2 ^ (m.log2 + 1) := by
        by_cases h0 : m = 0
        · subst h0; exact Nat.two_pow_pos _
        · exact Nat.lt_log2_self
      rw [Nat.div_eq_of_lt (Nat.lt_of_lt_of_le hm (Nat.pow_le_pow_right (by decide) (by omega))), Nat.div_eq_of_lt (Nat.lt_of_lt_of_le hm (Nat.pow_le_pow_right (by decide) (by omega)))]
theorem qt_exact {m : Nat} {i : Int} (hi : -1074 ≤ i) (hi2 : i ≤ 971) (hm : m < 2 ^ 53) : ((qt m i).log2 ≤ 52 ∨ qt m i % 2 ^ ((qt m i).log2 - 52) = 0) ∧ (qt m i).log2 ≤ 1023 := by
  by_cases h0 : qt m i = 0
  · rw [h0]; simp
  by_cases h : 0 ≤ i
  · have e : qt m i = m * 2 ^ i.toNat := by
      unfold qt
      rw [cutZ, show (-i).toNat = 0 by omega, Nat.min_eq_left (Nat.zero_le _), Nat.shiftLeft_zero, Nat.div_one, Nat.shiftLeft_eq]
    have hlt : qt m i < 2 ^ (53 + i.toNat) := by
      rw [e, Nat.pow_add]; exact Nat.mul_lt_mul_of_pos_right hm (Nat.two_pow_pos _)
    have hl : (qt m i).log2 < 53 + i.toNat := (Nat.log2_lt h0).2 hlt
    refine ⟨?_, by omega⟩
    by_cases hL : (qt m i).log2 ≤ 52
    · exact .inl hL
    · refine .inr (Nat.mod_eq_zero_of_dvd ?_)
      have hd : 2 ^ ((qt m i).log2 - 52) ∣ 2 ^ i.toNat := Nat.pow_dvd_pow 2 (by omega)
      have : 2 ^ i.toNat ∣ qt m i := by rw [e]; exact Nat.dvd_mul_left _ _
      exact Nat.dvd_trans hd this
  · have hle : qt m i ≤ m := by
      unfold qt
      rw [cutZ, show i.toNat = 0 by omega, Nat.shiftLeft_zero]
      exact Nat.div_le_self _ _
    have hl : (qt m i).log2 < 53 := (Nat.log2_lt h0).2 (by omega)
    exact ⟨.inl (by omega), by omega⟩
theorem cutZs (s : Bool) (n d : Nat) : Toward.zero.cut s n d = Toward.zero.cut false n d := by rw [cutZ, cutZ]
theorem vl_abs {s : Bool} {m : Nat} {i : Int} : vl (.number s m i) = sgn s (m * 2 ^ (i + 1074).toNat) := by simp only [vl, signed_eq]
theorem truncF_num {y : Nat} {s : Bool} {m : Nat} {i : Int} (hy : FloatKind.f64.decode y = .number s m i) (hi : -1074 ≤ i) (hi2 : i ≤ 971) (hm : m < 2 ^ 53) :
    ∃ t m' i', FloatKind.f64.decode (truncF y) = .number t m' i' ∧ -1074 ≤ i' ∧ vl (.number t m' i') = sgn s (qt m i) * (UU : Int) := by
  have e : truncF y = FloatKind.f64.encode (.number s (qt m i) 0) := by
    unfold truncF qt
    rw [hy]
    simp only [Datum.integral]
    rw [cutZs]
  rw [e]
  obtain ⟨h1, h2⟩ := qt_exact hi hi2 hm
  exact whole_enc s _ h1 h2
theorem toInt_num {y : Nat} {s : Bool} {m : Nat} {i : Int} (hy : FloatKind.f64.decode y = .number s m i) : (FloatKind.f64.decode y).toInt .zero = some (sgn s (qt m i)) := by
  unfold qt
  rw [hy]
  simp only [Datum.toInt, Datum.integral, signed_eq, Nat.pow_zero, Nat.mul_one]
  rw [cutZs]
theorem nearest_num {s : Bool} {m : Nat} {i : Int} (hi : -1074 ≤ i) (hi2 : i ≤ 971) (hm : m < 2 ^ 53) :
    ∃ t m' i', FloatKind.f64.decode (FloatKind.nearest .f64 (sgn s (qt m i))) = .number t m' i' ∧ -1074 ≤ i' ∧ vl (.number t m' i') = sgn s (qt m i) * (UU : Int) := by
  obtain ⟨h1, h2⟩ := qt_exact hi hi2 hm
  unfold FloatKind.nearest
  rw [sgn_abs]
  obtain ⟨t, m', i', h3, h4, h5⟩ := whole_enc (decide (sgn s (qt m i) < 0)) (qt m i) h1 h2
  refine ⟨t, m', i', h3, h4, ?_⟩
  rw [h5]
  congr 1
  cases s with
  | false => simp [sgn]; omega
  | true =>
    by_cases h0 : qt m i = 0
    · rw [h0]; rfl
    · have : -(qt m i : Int) < 0 := by omega
      simp [sgn, this]
      intro h; exact absurd h h0
theorem f2f_num {x : Nat} {s : Bool} {m : Nat} {p : Int} (hx : FloatKind.f32.decode x = .number s m p) (hp : -149 ≤ p) (hp2 : p ≤ 104) (hm : m < 2 ^ 24) :
    ∃ y m' i, f2f .f32 x .f64 = some y ∧ FloatKind.f64.decode y = .number s m' i ∧ -1074 ≤ i ∧ i ≤ 971 ∧ m' < 2 ^ 53 ∧ vl (.number s m' i) = vl (.number s m p) := by
  have key : ∃ m' i, FloatKind.f64.decode (FloatKind.f64.encode (.number s m p)) = .number s m' i ∧ -1074 ≤ i ∧ i ≤ 971 ∧ m' < 2 ^ 53 ∧ vl (.number s m' i) = vl (.number s m p) := by
    by_cases h0 : m = 0
    · subst h0
      refine ⟨0, -1074, encode0, by omega, by omega, by decide, ?_⟩
      rw [vl_abs, vl_abs, Nat.zero_mul, Nat.zero_mul]
    · have hl : m.log2 < 24 := (Nat.log2_lt h0).2 hm
      refine ⟨_, _, exactLo h0 (by omega) (by omega) (by omega), by omega, by omega, ?_, ?_⟩
      · obtain ⟨b1, b2⟩ := log2_bd h0
        have : m * 2 ^ (52 - m.log2) < 2 ^ (m.log2 + 1) * 2 ^ (52 - m.log2) := Nat.mul_lt_mul_of_pos_right b2 (Nat.two_pow_pos _)
        rw [← Nat.pow_add, show m.log2 + 1 + (52 - m.log2) = 53 by omega] at this
        exact this
      · rw [vl_abs, vl_abs, Nat.mul_assoc, ← Nat.pow_add, show 52 - m.log2 + (p + m.log2 - 52 + 1074).toNat = (p + 1074).toNat by omega]
  obtain ⟨m', i, h1, h2, h3, h4, h5⟩ := key
  refine ⟨FloatKind.f64.encode (.number s m p), m', i, ?_, h1, h2, h3, h4, h5⟩
  unfold f2f
  rw [if_neg (by decide), hx]
  simp only [h1, Datum.isInfinity]
  rfl
theorem f2f_inf {x : Nat} {s : Bool} (hx : FloatKind.f32.decode x = .infinity s) : ∃ y, f2f .f32 x .f64 = some y ∧ FloatKind.f64.decode y = .infinity s := by
  refine ⟨FloatKind.f64.encode (.infinity s), ?_, ?_⟩
  · unfold f2f; rw [if_neg (by decide), hx]
  · cases s <;> decide
section
variable {a b : Nat} {s t : Bool} {m n : Nat} {i j : Int} (ha : FloatKind.f64.decode a = .number s m i) (hb : FloatKind.f64.decode b = .number t n j) (hi : -1074 ≤ i) (hj : -1074 ≤ j)
include ha hb hi hj
theorem ord_num : (FloatKind.format .f64).order a b = some (compare (vl (.number s m i)) (vl (.number t n j))) := by
  show (FloatKind.f64.decode a).order (FloatKind.f64.decode b) = _
  rw [ha, hb, order_num hi hj]
theorem ord_lt : ((FloatKind.format .f64).order a b == some Ordering.lt) = decide (vl (.number s m i) < vl (.number t n j)) := by
  rw [ord_num ha hb hi hj, cmp_def]
  by_cases h : vl (.number s m i) < vl (.number t n j)
  · simp [h]
  · by_cases h2 : vl (.number s m i) = vl (.number t n j)
    · simp [h2]
    · simp [h, h2]
theorem ord_eq : ((FloatKind.format .f64).order a b == some Ordering.eq) = decide (vl (.number s m i) = vl (.number t n j)) := by
  rw [ord_num ha hb hi hj, cmp_def]
  by_cases h : vl (.number s m i) < vl (.number t n j)
  · have : ¬ vl (.number s m i) = vl (.number t n j) := by omega
    simp [h, this]
  · by_cases h2 : vl (.number s m i) = vl (.number t n j)
    · simp [h2]
    · simp [h, h2]
theorem ord_gt : ((FloatKind.format .f64).order a b == some Ordering.gt) = decide (vl (.number t n j) < vl (.number s m i)) := by
  rw [ord_num ha hb hi hj, cmp_def]
  by_cases h : vl (.number s m i) < vl (.number t n j)
  · have : ¬ vl (.number t n j) < vl (.number s m i) := by omega
    simp [h, this]
  · by_cases h2 : vl (.number s m i) = vl (.number t n j)
    · simp [h2]
    · have : vl (.number t n j) < vl (.number s m i) := by omega
      simp [h, h2, this]
end
theorem k0 : ∃ m i, FloatKind.f64.decode 0 = .number false m i ∧ -1074 ≤ i ∧ vl (.number false m i) = 0 := ⟨0, -1074, by decide, by omega, by decide⟩
theorem k16 : ∃ m i, FloatKind.f64.decode 4846369599423283200 = .number false m i ∧ -1074 ≤ i ∧ vl (.number false m i) = 10000000000000000 * (UU : Int) := ⟨5000000000000000, 1, by decide +kernel, by omega, by decide +kernel⟩
theorem kn16 : ∃ m i, FloatKind.f64.decode 14069741636278059008 = .number true m i ∧ -1074 ≤ i ∧ vl (.number true m i) = -10000000000000000 * (UU : Int) := ⟨5000000000000000, 1, by decide +kernel, by omega, by decide +kernel⟩
end Go.AM
