/- Floats: a number of many digits, rounded as it is written. -/
import Derived.Test.YtjifpcjmnhnpkaaKN2
namespace Go.AM
open Ieee
set_option linter.unusedVariables false
set_option linter.unusedSimpArgs false
theorem cut_bd (s : Bool) (n d : Nat) : n / (1 <<< min d (n.log2 + 2)) ≤ Toward.even.cut s n d ∧ Toward.even.cut s n d ≤ n / (1 <<< min d (n.log2 + 2)) + 1 := by
  simp only [Toward.cut]
  constructor
  · exact Nat.le_add_right _ _
  · refine Nat.add_le_add_left ?_ _
    exact Bool.toNat_le _
theorem roundHi {s : Bool} {m : Nat} {p : Int} (hL : 52 < m.log2) (h1 : -1074 ≤ p + m.log2 - 52) (h2 : p + m.log2 ≤ 1022) :
    ∃ K i, FloatKind.f64.decode (FloatKind.f64.encode (.number s m p)) = .number s K i ∧ 4503599627370496 ≤ K ∧ K < 2 ^ 53 ∧ p + m.log2 - 52 ≤ i ∧ i ≤ p + m.log2 - 51 := by
  have h0 : m ≠ 0 := by rintro rfl; simp at hL
  obtain ⟨b1, b2⟩ := log2_bd h0
  have e1 : Ieee.double.fractionBits = 52 := rfl
  have e2 : Ieee.double.binade = 4503599627370496 := by decide
  have e3 : Ieee.double.infRung = 9218868437227405312 := by decide
  have e4 : Ieee.double.leastPlace = -1074 := by decide
  obtain ⟨q, hq⟩ : ∃ q : Nat, p + m.log2 - 52 = -1074 + (q : Int) := ⟨(p + m.log2 - 52 + 1074).toNat, by omega⟩
  have hpos := Nat.two_pow_pos (m.log2 - 52)
  have hK1 : 4503599627370496 ≤ m / 2 ^ (m.log2 - 52) := by
    rw [Nat.le_div_iff_mul_le hpos, show 4503599627370496 = 2 ^ 52 by decide, ← Nat.pow_add, show 52 + (m.log2 - 52) = m.log2 by omega]; exact b1
  have hK2 : m / 2 ^ (m.log2 - 52) < 9007199254740992 := by
    rw [Nat.div_lt_iff_lt_mul hpos, show 9007199254740992 = 2 ^ 53 by decide, ← Nat.pow_add, show 53 + (m.log2 - 52) = m.log2 + 1 by omega]; exact b2
  obtain ⟨c1, c2⟩ := cut_bd s m (m.log2 - 52)
  rw [Nat.min_eq_left (by omega), Nat.shiftLeft_eq, Nat.one_mul] at c1 c2
  have key : FloatKind.f64.decode (FloatKind.f64.encode (.number s m p)) = Ieee.double.read (Ieee.double.word s (q * 4503599627370496 + Toward.even.cut s m (m.log2 - 52))) := by
    show Ieee.double.read (Ieee.double.nearest s m p) = _
    unfold Ieee.Format.nearest
    rw [if_neg h0]
    simp only [e1, e2, e3, e4]
    have hlast : max (p + (m.log2 : Int) - ((52 : Nat) : Int)) (-1074) = -1074 + (q : Int) := by omega
    rw [hlast, show (-1074 + (q : Int) - p).toNat = m.log2 - 52 by omega, show (p - (-1074 + (q : Int))).toNat = 0 by omega, Nat.shiftLeft_zero, show (-1074 + (q : Int) - -1074).toNat = q by omega, Nat.min_eq_left (by omega)]
  generalize Toward.even.cut s m (m.log2 - 52) = c at *
  rw [key]
  by_cases hc : c < 9007199254740992
  · exact ⟨c, _, read_word s (by omega) (by omega) hc, by omega, by simpa using hc, by omega, by omega⟩
  · have hce : c = 9007199254740992 := by omega
    rw [hce, show q * 4503599627370496 + 9007199254740992 = (q + 1) * 4503599627370496 + 4503599627370496 by omega]
    exact ⟨_, _, read_word s (by omega) (by omega) (by omega), by decide, by decide, by omega, by omega⟩
end Go.AM
