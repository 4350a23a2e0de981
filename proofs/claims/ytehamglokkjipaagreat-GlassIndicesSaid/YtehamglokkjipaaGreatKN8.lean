/- Floats as numbers: singles. Plain. -/
import Derived.Test.YtehamglokkjipaaGreatKN3
namespace Go.AM
open Ieee
set_option linter.unusedVariables false
set_option linter.unusedSimpArgs false
theorem read_wordS (s : Bool) {q K : Nat} (hq : q ≤ 253) (h1 : 8388608 ≤ K) (h2 : K < 16777216) : Ieee.single.read (Ieee.single.word s (q * 8388608 + K)) = .number s K (-149 + (q : Int)) := by
  have e1 : Ieee.single.signWeight = 2147483648 := by decide
  have e2 : Ieee.single.binade = 8388608 := by decide
  have e3 : Ieee.single.infRung = 2139095040 := by decide
  have e4 : Ieee.single.leastPlace = -149 := by decide
  simp only [Ieee.Format.read, Ieee.Format.word, e1, e2, e3, e4]
  have hm : (if s = true then 2147483648 + (q * 8388608 + K) else q * 8388608 + K) % 2147483648 = q * 8388608 + K := by
    cases s <;> simp <;> omega
  have hs : ((if s = true then 2147483648 + (q * 8388608 + K) else q * 8388608 + K) / 2147483648 % 2 == 1) = s := by
    cases s
    · simp; omega
    · simp; omega
  rw [hm, hs, if_neg (by omega), if_pos (by omega)]
  have a1 : 8388608 + (q * 8388608 + K) % 8388608 = K := by omega
  have a2 : (q * 8388608 + K) / 8388608 - 1 = q := by omega
  rw [a1, a2]
theorem exactLoS {s : Bool} {m : Nat} {p : Int} (h0 : m ≠ 0) (hL : m.log2 ≤ 23) (h1 : -149 ≤ p + m.log2 - 23) (h2 : p + m.log2 ≤ 127) :
    FloatKind.f32.decode (FloatKind.f32.encode (.number s m p)) = .number s (m * 2 ^ (23 - m.log2)) (p + m.log2 - 23) := by
  obtain ⟨b1, b2⟩ := log2_bd h0
  have e1 : Ieee.single.fractionBits = 23 := rfl
  have e2 : Ieee.single.binade = 8388608 := by decide
  have e3 : Ieee.single.infRung = 2139095040 := by decide
  have e4 : Ieee.single.leastPlace = -149 := by decide
  obtain ⟨q, hq⟩ : ∃ q : Nat, p + m.log2 - 23 = -149 + (q : Int) := ⟨(p + m.log2 - 23 + 149).toNat, by omega⟩
  have hK1 : 8388608 ≤ m * 2 ^ (23 - m.log2) := by
    have : 2 ^ m.log2 * 2 ^ (23 - m.log2) ≤ m * 2 ^ (23 - m.log2) := Nat.mul_le_mul_right _ b1
    rw [← Nat.pow_add, show m.log2 + (23 - m.log2) = 23 by omega] at this
    exact this
  have hK2 : m * 2 ^ (23 - m.log2) < 16777216 := by
    have : m * 2 ^ (23 - m.log2) < 2 ^ (m.log2 + 1) * 2 ^ (23 - m.log2) := Nat.mul_lt_mul_of_pos_right b2 (Nat.two_pow_pos _)
    rw [← Nat.pow_add, show m.log2 + 1 + (23 - m.log2) = 24 by omega] at this
    exact this
  show Ieee.single.read (Ieee.single.nearest s m p) = _
  unfold Ieee.Format.nearest
  rw [if_neg h0]
  simp only [e1, e2, e3, e4]
  have hlast : max (p + (m.log2 : Int) - ((23 : Nat) : Int)) (-149) = -149 + (q : Int) := by omega
  rw [hlast, show (-149 + (q : Int) - p).toNat = 0 by omega, cut0, show (p - (-149 + (q : Int))).toNat = 23 - m.log2 by omega, Nat.shiftLeft_eq, show (-149 + (q : Int) - -149).toNat = q by omega, Nat.min_eq_left (by omega), read_wordS s (by omega) hK1 hK2, hq]
theorem exactHiS {s : Bool} {m : Nat} {p : Int} (hL : 23 < m.log2) (hd : m % 2 ^ (m.log2 - 23) = 0) (h1 : -149 ≤ p + m.log2 - 23) (h2 : p + m.log2 ≤ 127) :
    FloatKind.f32.decode (FloatKind.f32.encode (.number s m p)) = .number s (m / 2 ^ (m.log2 - 23)) (p + m.log2 - 23) := by
  have h0 : m ≠ 0 := by rintro rfl; simp at hL
  obtain ⟨b1, b2⟩ := log2_bd h0
  have e1 : Ieee.single.fractionBits = 23 := rfl
  have e2 : Ieee.single.binade = 8388608 := by decide
  have e3 : Ieee.single.infRung = 2139095040 := by decide
  have e4 : Ieee.single.leastPlace = -149 := by decide
  obtain ⟨q, hq⟩ : ∃ q : Nat, p + m.log2 - 23 = -149 + (q : Int) := ⟨(p + m.log2 - 23 + 149).toNat, by omega⟩
  have hpos := Nat.two_pow_pos (m.log2 - 23)
  have hmk : m = m / 2 ^ (m.log2 - 23) * 2 ^ (m.log2 - 23) := by have := Nat.div_add_mod m (2 ^ (m.log2 - 23)); rw [hd] at this; rw [Nat.mul_comm] at this; omega
  have hK1 : 8388608 ≤ m / 2 ^ (m.log2 - 23) := by
    rw [Nat.le_div_iff_mul_le hpos, show 8388608 = 2 ^ 23 by decide, ← Nat.pow_add, show 23 + (m.log2 - 23) = m.log2 by omega]; exact b1
  have hK2 : m / 2 ^ (m.log2 - 23) < 16777216 := by
    rw [Nat.div_lt_iff_lt_mul hpos, show 16777216 = 2 ^ 24 by decide, ← Nat.pow_add, show 24 + (m.log2 - 23) = m.log2 + 1 by omega]; exact b2
  show Ieee.single.read (Ieee.single.nearest s m p) = _
  unfold Ieee.Format.nearest
  rw [if_neg h0]
  simp only [e1, e2, e3, e4]
  have hlast : max (p + (m.log2 : Int) - ((23 : Nat) : Int)) (-149) = -149 + (q : Int) := by omega
  have hcut : Toward.even.cut s m (m.log2 - 23) = m / 2 ^ (m.log2 - 23) := by
    unfold Toward.cut
    have hg : 1 <<< min (m.log2 - 23) (m.log2 + 2) = 2 ^ (m.log2 - 23) := by rw [Nat.min_eq_left (by omega), Nat.shiftLeft_eq, Nat.one_mul]
    simp only [hg, hd, Nat.mul_zero, Nat.not_lt_zero, decide_false, Bool.false_or]
    have : (2 ^ (m.log2 - 23) == 0) = false := by rw [beq_eq_false_iff_ne]; omega
    rw [this]; rfl
  rw [hlast, show (-149 + (q : Int) - p).toNat = m.log2 - 23 by omega, show (p - (-149 + (q : Int))).toNat = 0 by omega, Nat.shiftLeft_zero, hcut, show (-149 + (q : Int) - -149).toNat = q by omega, Nat.min_eq_left (by omega), read_wordS s (by omega) hK1 hK2, hq]
theorem encode0S {s : Bool} {p : Int} : FloatKind.f32.decode (FloatKind.f32.encode (.number s 0 p)) = .number s 0 (-149) := by
  have e : FloatKind.f32.encode (.number s 0 p) = Ieee.single.word s 0 := by
    show Ieee.single.nearest s 0 p = _
    unfold Ieee.Format.nearest
    rw [if_pos rfl]
  rw [e]
  cases s <;> decide
theorem whole_encS (s : Bool) (q : Nat) (h : q.log2 ≤ 23 ∨ q % 2 ^ (q.log2 - 23) = 0) (h2 : q.log2 ≤ 127) : ∃ t m i, FloatKind.f32.decode (FloatKind.f32.encode (.number s q 0)) = .number t m i ∧ -149 ≤ i ∧ vl (.number t m i) = sgn s q * (UU : Int) := by
  by_cases h0 : q = 0
  · subst h0
    refine ⟨s, 0, -149, encode0S, by omega, ?_⟩
    simp only [vl, signed_eq, Nat.zero_mul]
    cases s <;> simp [sgn]
  · by_cases hL : q.log2 ≤ 23
    · refine ⟨_, _, _, exactLoS h0 hL (by omega) (by omega), by omega, ?_⟩
      simp only [vl, signed_eq]
      rw [Nat.mul_assoc, ← Nat.pow_add, show 23 - q.log2 + ((0 : Int) + q.log2 - 23 + 1074).toNat = eU by (have := eU_def; omega), ← sgn_mul]
      rfl
    · have hd : q % 2 ^ (q.log2 - 23) = 0 := by rcases h with h | h; omega; exact h
      have hpos := Nat.two_pow_pos (q.log2 - 23)
      refine ⟨_, _, _, exactHiS (by omega) hd (by omega) (by omega), by omega, ?_⟩
      simp only [vl, signed_eq]
      have e : ((0 : Int) + q.log2 - 23 + 1074).toNat = (q.log2 - 23) + eU := by have := eU_def; omega
      rw [e, Nat.pow_add, ← Nat.mul_assoc, Nat.div_mul_cancel (Nat.dvd_of_mod_eq_zero hd), ← sgn_mul]
      rfl
theorem toInt_numS {y : Nat} {s : Bool} {m : Nat} {i : Int} (hy : FloatKind.f32.decode y = .number s m i) : (FloatKind.f32.decode y).toInt .zero = some (sgn s (qt m i)) := by
  unfold qt
  rw [hy]
  simp only [Datum.toInt, Datum.integral, signed_eq, Nat.pow_zero, Nat.mul_one]
  rw [cutZs]
section
variable {a b : Nat} {s t : Bool} {m n : Nat} {i j : Int} (ha : FloatKind.f32.decode a = .number s m i) (hb : FloatKind.f32.decode b = .number t n j) (hi : -149 ≤ i) (hj : -149 ≤ j)
include ha hb hi hj
theorem ord_numS : (FloatKind.format .f32).order a b = some (compare (vl (.number s m i)) (vl (.number t n j))) := by
  show (FloatKind.f32.decode a).order (FloatKind.f32.decode b) = _
  rw [ha, hb, order_num (by omega) (by omega)]
theorem ord_ltS : ((FloatKind.format .f32).order a b == some Ordering.lt) = decide (vl (.number s m i) < vl (.number t n j)) := by
  rw [ord_numS ha hb hi hj, cmp_def]
  by_cases h : vl (.number s m i) < vl (.number t n j)
  · simp [h]
  · by_cases h2 : vl (.number s m i) = vl (.number t n j)
    · simp [h2]
    · simp [h, h2]
theorem ord_gtS : ((FloatKind.format .f32).order a b == some Ordering.gt) = decide (vl (.number t n j) < vl (.number s m i)) := by
  rw [ord_numS ha hb hi hj, cmp_def]
  by_cases h : vl (.number s m i) < vl (.number t n j)
  · have : ¬ vl (.number t n j) < vl (.number s m i) := by omega
    simp [h, this]
  · by_cases h2 : vl (.number s m i) = vl (.number t n j)
    · simp [h2]
    · have : vl (.number t n j) < vl (.number s m i) := by omega
      simp [h, h2, this]
end
theorem whole_smallS {n : Int} (h : n.natAbs < 16777216) : ∃ s m i, FloatKind.f32.decode (FloatKind.nearest .f32 n) = .number s m i ∧ -149 ≤ i ∧ vl (.number s m i) = n * (UU : Int) := by
  have hl : n.natAbs.log2 ≤ 23 := by
    by_cases h0 : n.natAbs = 0
    · rw [h0]; decide
    · have := (Nat.log2_lt h0 (k := 24)).2 (by omega)
      omega
  obtain ⟨t, m, i, h1, h2, h3⟩ := whole_encS (decide (n < 0)) n.natAbs (.inl hl) (by omega)
  have h1' : FloatKind.f32.decode (FloatKind.nearest .f32 n) = .number t m i := h1
  have hs : sgn (decide (n < 0)) n.natAbs = n := by
    by_cases hn : n < 0
    · rw [decide_eq_true hn]; simp only [sgn, if_true]; omega
    · rw [decide_eq_false hn]; simp only [sgn, Bool.false_eq_true, if_false]; omega
  rw [hs] at h3
  exact ⟨t, m, i, h1', h2, h3⟩
def whl (v : Int) : Bool := decide (v.natAbs % UU = 0)
theorem whl_qt {s : Bool} {m : Nat} {i : Int} (hi : -1074 ≤ i) : decide (sgn s (qt m i) * (UU : Int) = vl (.number s m i)) = whl (vl (.number s m i)) := by
  unfold whl
  rw [vl_abs, sgn_abs, qt_eq hi]
  congr 1
  apply propext
  generalize m * 2 ^ (i + 1074).toNat = A
  rw [← sgn_mul]
  have h1 := Nat.div_add_mod A UU
  rw [Nat.mul_comm] at h1
  constructor
  · intro h
    have : A / UU * UU = A := by have := congrArg Int.natAbs h; rwa [sgn_abs, sgn_abs] at this
    omega
  · intro h
    rw [show A / UU * UU = A by omega]
theorem constS {c : Nat} {n : Int} (h : n.natAbs < 16777216) (hc : FloatKind.nearest .f32 n = c) : ∃ s m i, FloatKind.f32.decode c = .number s m i ∧ -149 ≤ i ∧ vl (.number s m i) = n * (UU : Int) := by
  obtain ⟨s, m, i, h1⟩ := whole_smallS h
  rw [hc] at h1
  exact ⟨s, m, i, h1⟩
end Go.AM
