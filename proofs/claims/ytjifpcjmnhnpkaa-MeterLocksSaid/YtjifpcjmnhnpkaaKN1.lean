/- Floats as numbers. Plain. -/
import Derived.Test.YtjifpcjmnhnpkaaKC1
import Derived.Test.YtjifpcjmnhnpkaaKMa
namespace Go.AM
open Ieee
set_option linter.unusedVariables false
set_option linter.unusedSimpArgs false
def vl : Datum → Int
  | .number s m i => signed s m (i + 1074).toNat
  | _ => 0
theorem signed_mul (s : Bool) (m a b : Nat) : signed s m (a + b) = signed s m a * ((2 ^ b : Nat) : Int) := by
  have h : m <<< (a + b) = (m <<< a) * 2 ^ b := by simp only [Nat.shiftLeft_eq, Nat.pow_add, Nat.mul_assoc]
  unfold signed
  rw [h]
  cases s
  · simp
  · simp [Int.neg_mul]
theorem cmp_def (a b : Int) : compare a b = if a < b then .lt else if a = b then .eq else .gt := rfl
theorem cmp_mul (a b : Int) {c : Nat} (hc : 0 < c) : compare (a * (c : Int)) (b * (c : Int)) = compare a b := by
  have hc' : (0 : Int) < (c : Int) := by omega
  rw [cmp_def, cmp_def]
  have h1 : a * (c : Int) < b * (c : Int) ↔ a < b := ⟨fun h => Int.lt_of_mul_lt_mul_right h (by omega), fun h => Int.mul_lt_mul_of_pos_right h hc'⟩
  have h2 : a * (c : Int) = b * (c : Int) ↔ a = b := ⟨fun h => Int.eq_of_mul_eq_mul_right (by omega) h, fun h => by rw [h]⟩
  simp only [h1, h2]
theorem order_num {s t : Bool} {m n : Nat} {i j : Int} (hi : -1074 ≤ i) (hj : -1074 ≤ j) : (Datum.number s m i).order (.number t n j) = some (compare (vl (.number s m i)) (vl (.number t n j))) := by
  simp only [Datum.order, vl, Option.some.injEq]
  obtain ⟨c, hc⟩ : ∃ c : Nat, min i j + 1074 = (c : Int) := ⟨(min i j + 1074).toNat, by omega⟩
  have e1 : (i + 1074).toNat = (i - min i j).toNat + c := by omega
  have e2 : (j + 1074).toNat = (j - min i j).toNat + c := by omega
  rw [e1, e2, signed_mul, signed_mul, cmp_mul _ _ (Nat.two_pow_pos c)]
theorem read64 {n : Nat} : (∃ s m i, FloatKind.f64.decode n = .number s m i ∧ -1074 ≤ i ∧ i ≤ 971 ∧ m < 2 ^ 53) ∨ (∃ s, FloatKind.f64.decode n = .infinity s) ∨ isNaNb .f64 n = true := by
  have h1 : Ieee.double.signWeight = 9223372036854775808 := by decide
  have h2 : Ieee.double.binade = 4503599627370496 := by decide
  have h3 : Ieee.double.infRung = 9218868437227405312 := by decide
  have h4 : Ieee.double.leastPlace = -1074 := by decide
  rw [isNaNb_iff]
  simp only [FloatKind.decode, FloatKind.format, Ieee.Format.read, h1, h2, h3, h4]
  split
  · exact .inl ⟨_, _, _, rfl, by omega, by omega, by omega⟩
  · split
    · exact .inl ⟨_, _, _, rfl, by omega, by omega, by omega⟩
    · split
      · exact .inr (.inl ⟨_, rfl⟩)
      · exact .inr (.inr ⟨_, _, rfl⟩)
theorem read32 {n : Nat} : (∃ s m i, FloatKind.f32.decode n = .number s m i ∧ -149 ≤ i ∧ i ≤ 104 ∧ m < 2 ^ 24) ∨ (∃ s, FloatKind.f32.decode n = .infinity s) ∨ isNaNb .f32 n = true := by
  have h1 : Ieee.single.signWeight = 2147483648 := by decide
  have h2 : Ieee.single.binade = 8388608 := by decide
  have h3 : Ieee.single.infRung = 2139095040 := by decide
  have h4 : Ieee.single.leastPlace = -149 := by decide
  rw [isNaNb_iff]
  simp only [FloatKind.decode, FloatKind.format, Ieee.Format.read, h1, h2, h3, h4]
  split
  · exact .inl ⟨_, _, _, rfl, by omega, by omega, by omega⟩
  · split
    · exact .inl ⟨_, _, _, rfl, by omega, by omega, by omega⟩
    · split
      · exact .inr (.inl ⟨_, rfl⟩)
      · exact .inr (.inr ⟨_, _, rfl⟩)
theorem read_word (s : Bool) {q K : Nat} (hq : q ≤ 2045) (h1 : 4503599627370496 ≤ K) (h2 : K < 9007199254740992) : Ieee.double.read (Ieee.double.word s (q * 4503599627370496 + K)) = .number s K (-1074 + (q : Int)) := by
  have e1 : Ieee.double.signWeight = 9223372036854775808 := by decide
  have e2 : Ieee.double.binade = 4503599627370496 := by decide
  have e3 : Ieee.double.infRung = 9218868437227405312 := by decide
  have e4 : Ieee.double.leastPlace = -1074 := by decide
  simp only [Ieee.Format.read, Ieee.Format.word, e1, e2, e3, e4]
  have hm : (if s = true then 9223372036854775808 + (q * 4503599627370496 + K) else q * 4503599627370496 + K) % 9223372036854775808 = q * 4503599627370496 + K := by
    cases s <;> simp <;> omega
  have hs : ((if s = true then 9223372036854775808 + (q * 4503599627370496 + K) else q * 4503599627370496 + K) / 9223372036854775808 % 2 == 1) = s := by
    cases s
    · simp; omega
    · simp; omega
  rw [hm, hs, if_neg (by omega), if_pos (by omega)]
  have a1 : 4503599627370496 + (q * 4503599627370496 + K) % 4503599627370496 = K := by omega
  have a2 : (q * 4503599627370496 + K) / 4503599627370496 - 1 = q := by omega
  rw [a1, a2]
theorem log2_bd {m : Nat} (h : m ≠ 0) : 2 ^ m.log2 ≤ m ∧ m < 2 ^ (m.log2 + 1) := ⟨Nat.log2_self_le h, Nat.lt_log2_self⟩
theorem cut0 (s : Bool) (n : Nat) : Toward.even.cut s n 0 = n := by
  simp [Toward.cut, Nat.mod_one]
theorem exactLo {s : Bool} {m : Nat} {p : Int} (h0 : m ≠ 0) (hL : m.log2 ≤ 52) (h1 : -1074 ≤ p + m.log2 - 52) (h2 : p + m.log2 ≤ 1023) :
    FloatKind.f64.decode (FloatKind.f64.encode (.number s m p)) = .number s (m * 2 ^ (52 - m.log2)) (p + m.log2 - 52) := by
  obtain ⟨b1, b2⟩ := log2_bd h0
  have e1 : Ieee.double.fractionBits = 52 := rfl
  have e2 : Ieee.double.binade = 4503599627370496 := by decide
  have e3 : Ieee.double.infRung = 9218868437227405312 := by decide
  have e4 : Ieee.double.leastPlace = -1074 := by decide
  obtain ⟨q, hq⟩ : ∃ q : Nat, p + m.log2 - 52 = -1074 + (q : Int) := ⟨(p + m.log2 - 52 + 1074).toNat, by omega⟩
  have hK1 : 4503599627370496 ≤ m * 2 ^ (52 - m.log2) := by
    have : 2 ^ m.log2 * 2 ^ (52 - m.log2) ≤ m * 2 ^ (52 - m.log2) := Nat.mul_le_mul_right _ b1
    rw [← Nat.pow_add, show m.log2 + (52 - m.log2) = 52 by omega] at this
    exact this
  have hK2 : m * 2 ^ (52 - m.log2) < 9007199254740992 := by
    have : m * 2 ^ (52 - m.log2) < 2 ^ (m.log2 + 1) * 2 ^ (52 - m.log2) := Nat.mul_lt_mul_of_pos_right b2 (Nat.two_pow_pos _)
    rw [← Nat.pow_add, show m.log2 + 1 + (52 - m.log2) = 53 by omega] at this
    exact this
  show Ieee.double.read (Ieee.double.nearest s m p) = _
  unfold Ieee.Format.nearest
  rw [if_neg h0]
  simp only [e1, e2, e3, e4]
  have hlast : max (p + (m.log2 : Int) - ((52 : Nat) : Int)) (-1074) = -1074 + (q : Int) := by omega
  rw [hlast, show (-1074 + (q : Int) - p).toNat = 0 by omega, cut0, show (p - (-1074 + (q : Int))).toNat = 52 - m.log2 by omega, Nat.shiftLeft_eq, show (-1074 + (q : Int) - -1074).toNat = q by omega, Nat.min_eq_left (by omega), read_word s (by omega) hK1 hK2, hq]
theorem exactHi {s : Bool} {m : Nat} {p : Int} (hL : 52 < m.log2) (hd : m % 2 ^ (m.log2 - 52) = 0) (h1 : -1074 ≤ p + m.log2 - 52) (h2 : p + m.log2 ≤ 1023) :
    FloatKind.f64.decode (FloatKind.f64.encode (.number s m p)) = .number s (m / 2 ^ (m.log2 - 52)) (p + m.log2 - 52) := by
  have h0 : m ≠ 0 := by rintro rfl; simp at hL
  obtain ⟨b1, b2⟩ := log2_bd h0
  have e1 : Ieee.double.fractionBits = 52 := rfl
  have e2 : Ieee.double.binade = 4503599627370496 := by decide
  have e3 : Ieee.double.infRung = 9218868437227405312 := by decide
  have e4 : Ieee.double.leastPlace = -1074 := by decide
  obtain ⟨q, hq⟩ : ∃ q : Nat, p + m.log2 - 52 = -1074 + (q : Int) := ⟨(p + m.log2 - 52 + 1074).toNat, by omega⟩
  have hpos := Nat.two_pow_pos (m.log2 - 52)
  have hmk : m = m / 2 ^ (m.log2 - 52) * 2 ^ (m.log2 - 52) := by have := Nat.div_add_mod m (2 ^ (m.log2 - 52)); rw [hd] at this; rw [Nat.mul_comm] at this; omega
  have hK1 : 4503599627370496 ≤ m / 2 ^ (m.log2 - 52) := by
    rw [Nat.le_div_iff_mul_le hpos, show 4503599627370496 = 2 ^ 52 by decide, ← Nat.pow_add, show 52 + (m.log2 - 52) = m.log2 by omega]; exact b1
  have hK2 : m / 2 ^ (m.log2 - 52) < 9007199254740992 := by
    rw [Nat.div_lt_iff_lt_mul hpos, show 9007199254740992 = 2 ^ 53 by decide, ← Nat.pow_add, show 53 + (m.log2 - 52) = m.log2 + 1 by omega]; exact b2
  show Ieee.double.read (Ieee.double.nearest s m p) = _
  unfold Ieee.Format.nearest
  rw [if_neg h0]
  simp only [e1, e2, e3, e4]
  have hlast : max (p + (m.log2 : Int) - ((52 : Nat) : Int)) (-1074) = -1074 + (q : Int) := by omega
  have hcut : Toward.even.cut s m (m.log2 - 52) = m / 2 ^ (m.log2 - 52) := by
    unfold Toward.cut
    have hg : 1 <<< min (m.log2 - 52) (m.log2 + 2) = 2 ^ (m.log2 - 52) := by rw [Nat.min_eq_left (by omega), Nat.shiftLeft_eq, Nat.one_mul]
    simp only [hg, hd, Nat.mul_zero, Nat.not_lt_zero, decide_false, Bool.false_or]
    have : (2 ^ (m.log2 - 52) == 0) = false := by rw [beq_eq_false_iff_ne]; omega
    rw [this]; rfl
  rw [hlast, show (-1074 + (q : Int) - p).toNat = m.log2 - 52 by omega, show (p - (-1074 + (q : Int))).toNat = 0 by omega, Nat.shiftLeft_zero, hcut, show (-1074 + (q : Int) - -1074).toNat = q by omega, Nat.min_eq_left (by omega), read_word s (by omega) hK1 hK2, hq]
theorem encode0 {s : Bool} {p : Int} : FloatKind.f64.decode (FloatKind.f64.encode (.number s 0 p)) = .number s 0 (-1074) := by
  have e : FloatKind.f64.encode (.number s 0 p) = Ieee.double.word s 0 := by
    show Ieee.double.nearest s 0 p = _
    unfold Ieee.Format.nearest
    rw [if_pos rfl]
  rw [e]
  cases s <;> decide
end Go.AM
