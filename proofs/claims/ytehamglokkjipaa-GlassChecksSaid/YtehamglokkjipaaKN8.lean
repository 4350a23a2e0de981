/- Floats as numbers: singles. Plain. -/
import Derived.Test.YtehamglokkjipaaKN3
namespace Go.AM
open Ieee
set_option linter.unusedVariables false
set_option linter.unusedSimpArgs false
theorem read_wordS (s : Bool) {q K : Nat} (hq : q ≤ 253) (h1 : 8388608 ≤ K) (h2 : K < 16777216) : Ieee.single.read (Ieee.single.word s (q * 8388608 + K)) = .number s K (-149 + (q : Int)) := by
  have e1 : Ieee.single.signWeight = 2147483648 := by decide
  have e2 : Ieee.single.binade = 8388608 := by decide
  have e3 : Ieee.single.infRung = 2139095040 := by decide
  have e4 : Ieee.single.leastPlace = -149 := by decide
  simp only [Ieee.Format.read, Ieee.Format.word, e1, e2, e3, e4]
  have hm : (if s = true then 2147483648 + (q * 8388608 + K) else q * 8388608 + K) % 2147483648 = q * 8388608 + K := by
    cases s <;> simp <;> omega
  have hs : ((if s = true then 2147483648 + (q * 8388608 + K) else q * 8388608 + K) / 2147483648 % 2 == 1) = s := by
    cases s
    · simp; omega
    · simp; omega
  rw [hm, hs, if_neg (by omega), if_pos (by omega)]
  have a1 : 8388608 + (q * 8388608 + K) % 8388608 = K := by omega
  have a2 : (q * 8388608 + K) / 8388608 - 1 = q := by omega
  rw [a1, a2]
theorem exactLoS {s : Bool} {m : Nat} {p : Int} (h0 : m ≠ 0) (hL : m.log2 ≤ 23) (h1 : -149 ≤ p + m.log2 - 23) (h2 : p + m.log2 ≤ 127) :
    FloatKind.f32.decode (FloatKind.f32.encode (.number s m p)) = .number s (m * 2 ^ (23 - m.log2)) (p + m.log2 - 23) := by
  obtain ⟨b1, b2⟩ := log2_bd h0
  have e1 : Ieee.single.fractionBits = 23 := rfl
  have e2 : Ieee.single.binade = 8388608 := by decide
  have e3 : Ieee.single.infRung = 2139095040 := by decide
  have e4 : Ieee.single.leastPlace = -149 := by decide
  obtain ⟨q, hq⟩ : ∃ q : Nat, p + m.log2 - 23 = -149 + (q : Int) := ⟨(p + m.log2 - 23 + 149).toNat, by omega⟩
  have hK1 : 8388608 ≤ m * 2 ^ (23 - m.log2) := by
    have : 2 ^ m.log2 * 2 ^ (23 - m.log2) ≤ m * 2 ^ (23 - m.log2) := Nat.mul_le_mul_right _ b1
    rw [← Nat.pow_add, show m.log2 + (23 - m.log2) = 23 by omega] at this
    exact this
  have hK2 : m * 2 ^ (23 - m.log2) < 16777216 := by
    have : m * 2 ^ (23 - m.log2) < 2 ^ (m.log2 + 1) * 2 ^ (23 - m.log2) := Nat.mul_lt_mul_of_pos_right b2 (Nat.two_pow_pos _)
    rw [← Nat.pow_add, show m.log2 + 1 + (23 - m.log2) = 24 by omega] at this
    exact this
  show Ieee.single.read (Ieee.single.nearest s m p) = _
  unfold Ieee.Format.nearest
  rw [if_neg h0]
  simp only [e1, e2, e3, e4]
  have hlast : max (p + (m.log2 : Int) - ((23 : Nat) : Int)) (-149) = -149 + (q : Int) := by omega
  rw [hlast, show (-149 + (q : Int) - p).toNat = 0 by omega, cut0, show (p - (-149 + (q : Int))).toNat = 23 - m.log2 by omega, Nat.shiftLeft_eq, show (-149 + (q : Int) - -149).toNat = q by omega, Nat.min_eq_left (by omega), read_wordS s (by omega) hK1 hK2, hq]
theorem exactHiS {s : Bool} {m : Nat} {p : Int} (hL : 23 < m.log2) (hd : m % 2 ^ (m.log2 - 23) = 0) (h1 : -149 ≤ p + m.log2 - 23) (h2 : p + m.log2 ≤ 127) :
    FloatKind.f32.decode (FloatKind.f32.encode (.number s m p)) = .number s (m / 2 ^ (m.log2 - 23)) (p + m.log2 - 23) := by
  have h0 : m ≠ 0 := by rintro rfl; simp at hL
  obtain ⟨b1, b2⟩ := log2_bd h0
  have e1 : Ieee.single.fractionBits = 23 := rfl
  have e2 : Ieee.single.binade = 8388608 := by decide
  have e3 : Ieee.single.infRung = 2139095040 := by decide
  have e4 : Ieee.single.leastPlace = -149 := by decide
  obtain ⟨q, hq⟩ : ∃ q : Nat, p + m.log2 - 23 = -149 + (q : Int) := ⟨(p + m.log2 - 23 + 149).toNat, by omega⟩
  have hpos := Nat.two_pow_pos (m.log2 - 23)
  have hmk : m = m / 2 ^ (m.log2 - 23) * 2 ^ (m.log2 - 23) := by have := Nat.div_add_mod m (2 ^ (m.log2 - 23)); rw [hd] at this; rw [Nat.mul_comm] at this; omega
  have hK1 : 8388608 ≤ m / 2 ^ (m.log2 - 23) := by
    rw [Nat.le_div_iff_mul_le hpos, show 8388608 = 2 ^ 23 by decide, ← Nat.pow_add, show 23 + (m.log2 - 23) = m.log2 by omega]; exact b1
  have hK2 : m / 2 ^ (m.log2 - 23) < 16777216 := by
    rw [Nat.div_lt_iff_lt_mul hpos, show 16777216 = 2 ^ 24 by decide, ← Nat.pow_add, show 24 + (m.log2 - 23) = m.log2 + 1 by omega]; exact b2
  show Ieee.single.read (Ieee.single.nearest s m p) = _
  unfold Ieee.Format.nearest
  rw [if_neg h0]
  simp only [e1, e2, e3, e4]
  have hlast : max (p + (m.log2 : Int) - ((23 : Nat) : Int)) (-149) = -149 + (q : Int) := by omega
  have hcut : Toward.even.cut s m (m.log2 - 23) = m / 2 ^ (m.log2 - 23) := by
    unfold Toward.cut
    have hg : 1 <<< min (m.log2 - 23) (m.log2 + 2) = 2 ^ (m.log2 - 23) := by rw [Nat.min_eq_left (by omega), Nat.shiftLeft_eq, Nat.one_mul]
    simp only [hg, hd, Nat.mul_zero, Nat.not_lt_zero, decide_false, Bool.false_or]
    have : (2 ^ (m.log2 - 23) == 0) = false := by rw [beq_eq_false_iff_ne]; omega
    rw [this]; rfl
  rw [hlast, show (-149 + (q : Int) - p).toNat = m.log2 - 23 by omega, show (p - (-149 + (q : Int))).toNat = 0 by omega, Nat.shiftLeft_zero, hcut, show (-149 + (q : Int) - -149).toNat = q by omega, Nat.min_eq_left (by omega), read_wordS s (by omega) hK1 hK2, hq]
theorem encode0S {s : Bool} {p : Int} : FloatKind.f32.decode (FloatKind.f32.encode (.number s 0 p)) = .number s 0 (-149) := by
  have e : FloatKind.f32.encode (.number s 0 p) = Ieee.single.word s 0 := by
    show Ieee.single.nearest s 0 p = _
    unfold Ieee.Format.nearest
    rw [if_pos rfl]
  rw [e]
  cases s <;> decide
theorem whole_encS (s : Bool) (q : Nat) (h : q.log2 ≤ 23 ∨ q % 2 ^ (q.log2 - 23) = 0) (h2 : q.log2 ≤ 127) : ∃ t m i, FloatKind.f32.decode (FloatKind.f32.encode (.number s q 0)) = .number t m i ∧ -149 ≤ i ∧ vl (.number t m i) = sgn s q * (UU : Int) := by
  by_cases h0 : q = 0
  · subst h0
    refine ⟨s, 0, -149, encode0S, by omega, ?_⟩
    simp only [vl, signed_eq, Nat.zero_mul]
    cases s <;> simp [sgn]
  · by_cases hL : q.log2 ≤ 23
    · refine ⟨_, _, _, exactLoS h0 hL (by omega) (by omega), by omega, ?_⟩
      simp only [vl, signed_eq]
      rw [Nat.mul_assoc, ← Nat.pow_add, show 23 - q.log2 + ((0 : Int) + q.log2 - 23 + 1074).toNat = eU by (have := eU_def; omega), ← sgn_mul]
      rfl
    · have hd : q % 2 ^ (q.log2 - 23) = 0 := by rcases h with h | h; omega; exact h
      have hpos := Nat.two_pow_pos (q.log2 - 23)
      refine ⟨_, _, _, exactHiS (by omega) hd (by omega) (by omega), by omega, ?_⟩
      simp only [vl, signed_eq]
      have e : ((0 : Int) + q.log2 - 23 + 1074).toNat = (q.log2 - 23) + eU := by have := eU_def; omega
      rw [e, Nat.pow_add, ← Nat.mul_assoc, Nat.div_mul_cancel (Nat.dvd_of_mod_eq_zero hd), ← sgn_mul]
      rfl
theorem qt_exactS {m : Nat} {i : Int} (hi : -149 ≤ i) (hi2 : i ≤ 104) (hm : m < 2 ^ 24) : ((qt m i).log2 ≤ 23 ∨ qt m i % 2 ^ ((qt m i).log2 - 23) = 0) ∧ (qt m i).log2 ≤ 127 := by
  by_cases h0 : qt m i = 0
  · rw [h0]; simp
  by_cases h : 0 ≤ i
  · have e : qt m i = m * 2 ^ i.toNat := by
      unfold qt
      rw [cutZ, show (-i).toNat = 0 by omega, Nat.min_eq_left (Nat.zero_le _), Nat.shiftLeft_zero, Nat.div_one, Nat.shiftLeft_eq]
    have hlt : qt m i < 2 ^ (24 + i.toNat) := by
      rw [e, Nat.pow_add]; exact Nat.mul_lt_mul_of_pos_right hm (Nat.two_pow_pos _)
    have hl : (qt m i).log2 < 24 + i.toNat := (Nat.log2_lt h0).2 hlt
    refine ⟨?_, by omega⟩
    by_cases hL : (qt m i).log2 ≤ 23
    · exact .inl hL
    · refine .inr (Nat.mod_eq_zero_of_dvd ?_)
      have hd : 2 ^ ((qt m i).log2 - 23) ∣ 2 ^ i.toNat := Nat.pow_dvd_pow 2 (by omega)
      have : 2 ^ i.toNat ∣ qt m i := by rw [e]; exact Nat.dvd_mul_left _ _
      exact Nat.dvd_trans hd this
  · have hle : qt m i ≤ m := by
      unfold qt
      rw [cutZ, show i.toNat = 0 by omega, Nat.shiftLeft_zero]
      exact Nat.div_le_self _ _
    have hl : (qt m i).log2 < 24 := (Nat.log2_lt h0).2 (by omega)
    exact ⟨.inl (by omega), by omega⟩
theorem toInt_numS {y : Nat} {s : Bool} {m : Nat} {i : Int} (hy : FloatKind.f32.decode y = .number s m i) : (FloatKind.f32.decode y).toInt .zero = some (sgn s (qt m i)) := by
  unfold qt
  rw [hy]
  simp only [Datum.toInt, Datum.integral, signed_eq, Nat.pow_zero, Nat.mul_one]
  rw [cutZs]
theorem nearest_numS {s : Bool} {m : Nat} {i : Int} (hi : -149 ≤ i) (hi2 : i ≤ 104) (hm : m < 2 ^ 24) :
    ∃ t m' i', FloatKind.f32.decode (FloatKind.nearest .f32 (sgn s (qt m i))) = .number t m' i' ∧ -149 ≤ i' ∧ vl (.number t m' i') = sgn s (qt m i) * (UU : Int) := by
  obtain ⟨h1, h2⟩ := qt_exactS hi hi2 hm
  unfold FloatKind.nearest
  rw [sgn_abs]
  obtain ⟨t, m', i', h3, h4, h5⟩ := whole_encS (decide (sgn s (qt m i) < 0)) (qt m i) h1 h2
  refine ⟨t, m', i', h3, h4, ?_⟩
  rw [h5]
  congr 1
  cases s with
  | false => simp [sgn]; omega
  | true =>
    by_cases h0 : qt m i = 0
    · rw [h0]; rfl
    · have : -(qt m i : Int) < 0 := by omega
      simp [sgn, this]
      intro h; exact absurd h h0
theorem sub_self_numS {y : Nat} {s : Bool} {m : Nat} {i : Int} (hy : FloatKind.f32.decode y = .number s m i) : (FloatKind.format .f32).sub y y = some 0 := by
  show ((FloatKind.f32.decode y).sum (FloatKind.f32.decode y).opposite).map Ieee.single.write = some 0
  rw [hy]
  simp only [Datum.opposite, Datum.sum]
  have e : signed s m (i - min i i).toNat + signed (!s) m (i - min i i).toNat = 0 := by
    cases s <;> simp only [signed, Bool.not_true, Bool.not_false, Bool.false_eq_true, if_false, if_true] <;> omega
  rw [e]
  simp only [if_true, Option.map_some, Option.some.injEq]
  have : (s && !s) = false := by cases s <;> rfl
  rw [this]
  show Ieee.single.nearest false (Int.natAbs 0) _ = 0
  unfold Ieee.Format.nearest
  rw [if_pos (by rfl)]
  decide
theorem sub_self_infS {y : Nat} {s : Bool} (hy : FloatKind.f32.decode y = .infinity s) : (FloatKind.format .f32).sub y y = none := by
  show ((FloatKind.f32.decode y).sum (FloatKind.f32.decode y).opposite).map Ieee.single.write = none
  rw [hy]
  cases s <;> rfl
theorem ord_self_infS {y z : Nat} {s : Bool} (hy : FloatKind.f32.decode y = .infinity s) (hz : FloatKind.f32.decode z = .infinity s) : ((FloatKind.format .f32).order z y == some Ordering.eq) = true := by
  show ((FloatKind.f32.decode z).order (FloatKind.f32.decode y) == some Ordering.eq) = true
  rw [hy, hz]
  cases s <;> decide
section
variable {a b : Nat} {s t : Bool} {m n : Nat} {i j : Int} (ha : FloatKind.f32.decode a = .number s m i) (hb : FloatKind.f32.decode b = .number t n j) (hi : -149 ≤ i) (hj : -149 ≤ j)
include ha hb hi hj
theorem ord_numS : (FloatKind.format .f32).order a b = some (compare (vl (.number s m i)) (vl (.number t n j))) := by
  show (FloatKind.f32.decode a).order (FloatKind.f32.decode b) = _
  rw [ha, hb, order_num (by omega) (by omega)]
theorem ord_ltS : ((FloatKind.format .f32).order a b == some Ordering.lt) = decide (vl (.number s m i) < vl (.number t n j)) := by
  rw [ord_numS ha hb hi hj, cmp_def]
  by_cases h : vl (.number s m i) < vl (.number t n j)
  · simp [h]
  · by_cases h2 : vl (.number s m i) = vl (.number t n j)
    · simp [h2]
    · simp [h, h2]
theorem ord_eqS : ((FloatKind.format .f32).order a b == some Ordering.eq) = decide (vl (.number s m i) = vl (.number t n j)) := by
  rw [ord_numS ha hb hi hj, cmp_def]
  by_cases h : vl (.number s m i) < vl (.number t n j)
  · have : ¬ vl (.number s m i) = vl (.number t n j) := by omega
    simp [h, this]
  · by_cases h2 : vl (.number s m i) = vl (.number t n j)
    · simp [h2]
    · simp [h, h2]
theorem ord_gtS : ((FloatKind.format .f32).order a b == some Ordering.gt) = decide (vl (.number t n j) < vl (.number s m i)) := by
  rw [ord_numS ha hb hi hj, cmp_def]
  by_cases h : vl (.number s m i) < vl (.number t n j)
  · have : ¬ vl (.number t n j) < vl (.number s m i) := by omega
    simp [h, this]
  · by_cases h2 : vl (.number s m i) = vl (.number t n j)
    · simp [h2]
    · have : vl (.number t n j) < vl (.number s m i) := by omega
      simp [h, h2, this]
end
theorem notNaNS {y : Nat} (h : (∃ s m i, FloatKind.f32.decode y = .number s m i) ∨ ∃ s, FloatKind.f32.decode y = .infinity s) : isNaNb .f32 y = false := by
  unfold isNaNb
  rcases h with ⟨s, m, i, h⟩ | ⟨s, h⟩ <;> rw [h]
theorem whole_smallS {n : Int} (h : n.natAbs < 16777216) : ∃ s m i, FloatKind.f32.decode (FloatKind.nearest .f32 n) = .number s m i ∧ -149 ≤ i ∧ vl (.number s m i) = n * (UU : Int) := by
  have hl : n.natAbs.log2 ≤ 23 := by
    by_cases h0 : n.natAbs = 0
    · rw [h0]; decide
    · have := (Nat.log2_lt h0 (k := 24)).2 (by omega)
      omega
  obtain ⟨t, m, i, h1, h2, h3⟩ := whole_encS (decide (n < 0)) n.natAbs (.inl hl) (by omega)
  have h1' : FloatKind.f32.decode (FloatKind.nearest .f32 n) = .number t m i := h1
  have hs : sgn (decide (n < 0)) n.natAbs = n := by
    by_cases hn : n < 0
    · rw [decide_eq_true hn]; simp only [sgn, if_true]; omega
    · rw [decide_eq_false hn]; simp only [sgn, Bool.false_eq_true, if_false]; omega
  rw [hs] at h3
  exact ⟨t, m, i, h1', h2, h3⟩
theorem whole_qtS {n : Int} {s : Bool} {m : Nat} {i : Int} (hi : -149 ≤ i) (hv : vl (.number s m i) = n * (UU : Int)) : sgn s (qt m i) = n := by
  have hU := UU_pos
  rw [vl_abs] at hv
  have h1 : m * 2 ^ (i + 1074).toNat = n.natAbs * UU := by
    have := congrArg Int.natAbs hv
    rwa [sgn_abs, Int.natAbs_mul, Int.natAbs_natCast] at this
  rw [qt_eq (by omega), h1, Nat.mul_div_cancel _ hU]
  rw [h1, sgn_mul] at hv
  exact Int.eq_of_mul_eq_mul_right (by omega) hv
def whl (v : Int) : Bool := decide (v.natAbs % UU = 0)
theorem whl_qt {s : Bool} {m : Nat} {i : Int} (hi : -1074 ≤ i) : decide (sgn s (qt m i) * (UU : Int) = vl (.number s m i)) = whl (vl (.number s m i)) := by
  unfold whl
  rw [vl_abs, sgn_abs, qt_eq hi]
  congr 1
  apply propext
  generalize m * 2 ^ (i + 1074).toNat = A
  rw [← sgn_mul]
  have h1 := Nat.div_add_mod A UU
  rw [Nat.mul_comm] at h1
  constructor
  · intro h
    have : A / UU * UU = A := by have := congrArg Int.natAbs h; rwa [sgn_abs, sgn_abs] at this
    omega
  · intro h
    rw [show A / UU * UU = A by omega]
theorem constS {c : Nat} {n : Int} (h : n.natAbs < 16777216) (hc : FloatKind.nearest .f32 n = c) : ∃ s m i, FloatKind.f32.decode c = .number s m i ∧ -149 ≤ i ∧ vl (.number s m i) = n * (UU : Int) := by
  obtain ⟨s, m, i, h1⟩ := whole_smallS h
  rw [hc] at h1
  exact ⟨s, m, i, h1⟩
end Go.AM
