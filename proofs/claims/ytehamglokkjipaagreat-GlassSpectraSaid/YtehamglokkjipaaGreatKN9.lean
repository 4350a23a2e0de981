/- Products and sums of whole doubles. Plain. -/
import Derived.Test.YtehamglokkjipaaGreatKN7
namespace Go.AM
open Ieee
set_option linter.unusedVariables false
set_option linter.unusedSimpArgs false
theorem enc_same {s : Bool} {M : Nat} {P : Int} {n A B : Nat} (hP : P = (A : Int) - (B : Int)) (h : M * 2 ^ A = n * 2 ^ B) (h0 : 0 < n) (hn : n < 9007199254740992) :
    FloatKind.f64.encode (.number s M P) = FloatKind.f64.encode (.number s n 0) := by
  have hM : M ≠ 0 := by
    rintro rfl
    have := Nat.mul_pos h0 (Nat.two_pow_pos B); omega
  have hl : n.log2 ≤ 52 := by
    have := (Nat.log2_lt (by omega : n ≠ 0) (k := 53)).2 (by omega)
    omega
  have hlog : M.log2 + A = n.log2 + B := by
    have e1 : (M * 2 ^ A).log2 = M.log2 + A := by
      obtain ⟨b1, b2⟩ := log2_bd hM
      have p := Nat.two_pow_pos A
      have hz : M * 2 ^ A ≠ 0 := Nat.mul_ne_zero hM (by omega)
      apply Nat.le_antisymm
      · have : (M * 2 ^ A).log2 < M.log2 + 1 + A := (Nat.log2_lt hz).2 (by rw [Nat.pow_add]; exact Nat.mul_lt_mul_of_pos_right b2 p)
        omega
      · rw [Nat.le_log2 hz, Nat.pow_add]; exact Nat.mul_le_mul_right _ b1
    have e2 : (n * 2 ^ B).log2 = n.log2 + B := by
      obtain ⟨b1, b2⟩ := log2_bd (m := n) (by omega)
      have p := Nat.two_pow_pos B
      have hz : n * 2 ^ B ≠ 0 := Nat.mul_ne_zero (by omega) (by omega)
      apply Nat.le_antisymm
      · have : (n * 2 ^ B).log2 < n.log2 + 1 + B := (Nat.log2_lt hz).2 (by rw [Nat.pow_add]; exact Nat.mul_lt_mul_of_pos_right b2 p)
        omega
      · rw [Nat.le_log2 hz, Nat.pow_add]; exact Nat.mul_le_mul_right _ b1
    rw [← e1, ← e2, h]
  have e1 : Ieee.double.fractionBits = 52 := rfl
  have e4 : Ieee.double.leastPlace = -1074 := by decide
  show Ieee.double.nearest s M P = Ieee.double.nearest s n 0
  unfold Ieee.Format.nearest
  rw [if_neg hM, if_neg (by omega : n ≠ 0)]
  simp only [e1, e4]
  have l1 : max (P + (M.log2 : Int) - ((52 : Nat) : Int)) (-1074) = (n.log2 : Int) - 52 := by omega
  have l2 : max ((0 : Int) + (n.log2 : Int) - ((52 : Nat) : Int)) (-1074) = (n.log2 : Int) - 52 := by omega
  rw [l1, l2]
  have k2 : Toward.even.cut s (n <<< ((0 : Int) - ((n.log2 : Int) - 52)).toNat) (((n.log2 : Int) - 52) - 0).toNat = n * 2 ^ (52 - n.log2) := by
    rw [show (((n.log2 : Int) - 52) - 0).toNat = 0 by omega, cut0, Nat.shiftLeft_eq, show ((0 : Int) - ((n.log2 : Int) - 52)).toNat = 52 - n.log2 by omega]
  have k1 : Toward.even.cut s (M <<< (P - ((n.log2 : Int) - 52)).toNat) (((n.log2 : Int) - 52) - P).toNat = n * 2 ^ (52 - n.log2) := by
    by_cases hp : (n.log2 : Int) - 52 ≤ P
    · rw [show (((n.log2 : Int) - 52) - P).toNat = 0 by omega, cut0, Nat.shiftLeft_eq]
      -- M * 2^(P - L + 52) = n * 2^(52 - L)
      have hx : (P - ((n.log2 : Int) - 52)).toNat + B = A + (52 - n.log2) := by omega
      have : M * 2 ^ (P - ((n.log2 : Int) - 52)).toNat * 2 ^ B = n * 2 ^ (52 - n.log2) * 2 ^ B := by
        rw [Nat.mul_assoc, ← Nat.pow_add, hx, Nat.pow_add, ← Nat.mul_assoc, h, Nat.mul_assoc, Nat.mul_assoc, Nat.mul_comm (2 ^ B)]
      exact Nat.eq_of_mul_eq_mul_right (Nat.two_pow_pos B) this
    · rw [show (P - ((n.log2 : Int) - 52)).toNat = 0 by omega, Nat.shiftLeft_zero]
      obtain ⟨d, hd⟩ : ∃ d : Nat, ((n.log2 : Int) - 52) - P = (d : Int) := ⟨(((n.log2 : Int) - 52) - P).toNat, by omega⟩
      rw [hd, Int.toNat_natCast]
      have hAB : A ≤ B := by omega
      have hMn : M = n * 2 ^ (52 - n.log2) * 2 ^ d := by
        have : M * 2 ^ A = n * 2 ^ (52 - n.log2) * 2 ^ d * 2 ^ A := by
          rw [h, Nat.mul_assoc, Nat.mul_assoc, ← Nat.pow_add, ← Nat.pow_add, show 52 - n.log2 + (d + A) = B by omega]
        exact Nat.eq_of_mul_eq_mul_right (Nat.two_pow_pos A) this
      unfold Toward.cut
      have hg : 1 <<< min d (M.log2 + 2) = 2 ^ d := by rw [Nat.min_eq_left (by omega), Nat.shiftLeft_eq, Nat.one_mul]
      have hp2 := Nat.two_pow_pos d
      have hmod : M % 2 ^ d = 0 := by rw [hMn, Nat.mul_mod_left]
      have hdiv : M / 2 ^ d = n * 2 ^ (52 - n.log2) := by rw [hMn, Nat.mul_div_cancel _ hp2]
      simp only [hg, hmod, hdiv, Nat.mul_zero, Nat.not_lt_zero, decide_false, Bool.false_or]
      have : (2 ^ d == 0) = false := by rw [beq_eq_false_iff_ne]; omega
      rw [this]; rfl
  rw [k1, k2]
theorem enc_zero {s : Bool} {p q : Int} : FloatKind.f64.encode (.number s 0 p) = FloatKind.f64.encode (.number s 0 q) := by
  show Ieee.double.nearest s 0 p = Ieee.double.nearest s 0 q
  unfold Ieee.Format.nearest
  rw [if_pos rfl, if_pos rfl]
def WF (y : Nat) (n : Int) : Prop := ∃ s : Bool, sgn s n.natAbs = n ∧ y = FloatKind.f64.encode (.number s n.natAbs 0)
theorem sgn_dec (n : Int) : sgn (decide (n < 0)) n.natAbs = n := by
  by_cases hn : n < 0
  · rw [decide_eq_true hn]; simp only [sgn, if_true]; omega
  · rw [decide_eq_false hn]; simp only [sgn, Bool.false_eq_true, if_false]; omega
theorem wf_nearest (n : Int) : WF (FloatKind.nearest .f64 n) n := ⟨decide (n < 0), sgn_dec n, rfl⟩
theorem sgn_uniq {s : Bool} {n : Int} (h : sgn s n.natAbs = n) (h0 : n ≠ 0) : s = decide (n < 0) := by
  cases s
  · simp only [sgn, Bool.false_eq_true, if_false] at h
    rw [decide_eq_false (by omega)]
  · simp only [sgn, if_true] at h
    rw [decide_eq_true (by omega)]
theorem wf_eq {y : Nat} {n : Int} (h : WF y n) (h0 : n ≠ 0) : y = FloatKind.nearest .f64 n := by
  obtain ⟨s, h1, h2⟩ := h
  rw [h2, sgn_uniq h1 h0]; rfl
theorem wf_read {y : Nat} {n : Int} (h : WF y n) (hn : n.natAbs < 9007199254740992) :
    ∃ s m i, FloatKind.f64.decode y = .number s m i ∧ -1074 ≤ i ∧ m * 2 ^ (i + 1074).toNat = n.natAbs * 2 ^ eU ∧ sgn s n.natAbs = n := by
  obtain ⟨s, h1, h2⟩ := h
  by_cases h0 : n = 0
  · subst h0
    refine ⟨s, 0, -1074, ?_, by omega, by simp only [Nat.zero_mul, Int.natAbs_zero], h1⟩
    rw [h2]; exact encode0
  · have hl : n.natAbs.log2 ≤ 52 := by
      have := (Nat.log2_lt (by omega : n.natAbs ≠ 0) (k := 53)).2 (by omega)
      omega
    rw [h2]
    refine ⟨s, _, _, exactLo (by omega) hl (by omega) (by omega), by omega, ?_, h1⟩
    rw [Nat.mul_assoc, ← Nat.pow_add]
    have hU : eU = 1074 := rfl
    congr 2; omega
theorem sgn_mul2 {s t : Bool} {a b : Nat} : sgn (s ^^ t) (a * b) = sgn s a * sgn t b := by
  cases s <;> cases t <;> simp [sgn, Int.neg_mul, Int.mul_neg]
theorem mulW {x y : Nat} {a b : Int} (hx : WF x a) (hy : WF y b) (ha : a.natAbs < 9007199254740992) (hb : b.natAbs < 9007199254740992) (hab : (a * b).natAbs < 9007199254740992) :
    ∃ z, (FloatKind.format .f64).mul x y = some z ∧ WF z (a * b) := by
  obtain ⟨s, m, i, e1, e2, e3, e4⟩ := wf_read hx ha
  obtain ⟨t, l, j, f1, f2, f3, f4⟩ := wf_read hy hb
  refine ⟨_, by
    show ((FloatKind.f64.decode x).product (FloatKind.f64.decode y)).map Ieee.double.write = _
    rw [e1, f1]; rfl, s ^^ t, ?_, ?_⟩
  · rw [Int.natAbs_mul, sgn_mul2, e4, f4]
  · show FloatKind.f64.encode (.number (s ^^ t) (m * l) (i + j)) = _
    by_cases h0 : (a * b).natAbs = 0
    · have hz : m * l = 0 := by
        have : m * l * (2 ^ (i + 1074).toNat * 2 ^ (j + 1074).toNat) = 0 := by
          have e : m * l * (2 ^ (i + 1074).toNat * 2 ^ (j + 1074).toNat) = (m * 2 ^ (i + 1074).toNat) * (l * 2 ^ (j + 1074).toNat) := by
            simp only [Nat.mul_assoc, Nat.mul_left_comm]
          rw [e, e3, f3, show a.natAbs * 2 ^ eU * (b.natAbs * 2 ^ eU) = a.natAbs * b.natAbs * (2 ^ eU * 2 ^ eU) by simp only [Nat.mul_assoc, Nat.mul_left_comm], ← Int.natAbs_mul, h0, Nat.zero_mul]
        have p1 := Nat.two_pow_pos (i + 1074).toNat
        have p2 := Nat.two_pow_pos (j + 1074).toNat
        rcases Nat.mul_eq_zero.1 this with h | h
        · exact h
        · have := Nat.mul_pos p1 p2; omega
      rw [hz, h0]; exact enc_zero
    · have hU : eU = 1074 := rfl
      refine enc_same (A := (i + 1074).toNat + (j + 1074).toNat) (B := eU + eU) (by omega) ?_ (by omega) hab
      rw [Nat.pow_add, Nat.pow_add, Int.natAbs_mul]
      have e : m * l * (2 ^ (i + 1074).toNat * 2 ^ (j + 1074).toNat) = (m * 2 ^ (i + 1074).toNat) * (l * 2 ^ (j + 1074).toNat) := by
        simp only [Nat.mul_assoc, Nat.mul_left_comm]
      rw [e, e3, f3]
      simp only [Nat.mul_assoc, Nat.mul_left_comm]
theorem sgn_signed {s : Bool} {m i : Nat} : signed s m i = sgn s (m * 2 ^ i) := signed_eq s m i
theorem sumW {s t : Bool} {m l : Nat} {i j : Int} {a b : Int} (hi : -1074 ≤ i) (hj : -1074 ≤ j) (e3 : m * 2 ^ (i + 1074).toNat = a.natAbs * 2 ^ eU) (e4 : sgn s a.natAbs = a) (f3 : l * 2 ^ (j + 1074).toNat = b.natAbs * 2 ^ eU) (f4 : sgn t b.natAbs = b)
    (hab : (a + b).natAbs < 9007199254740992) : ∃ z, ((Datum.number s m i).sum (.number t l j)).map Ieee.double.write = some z ∧ WF z (a + b) := by
  obtain ⟨c, hc⟩ : ∃ c : Nat, min i j + 1074 = (c : Int) := ⟨(min i j + 1074).toNat, by omega⟩
  have e1 : (i + 1074).toNat = (i - min i j).toNat + c := by omega
  have e2 : (j + 1074).toNat = (j - min i j).toNat + c := by omega
  have ht : (signed s m (i - min i j).toNat + signed t l (j - min i j).toNat) * ((2 ^ c : Nat) : Int) = (a + b) * ((2 ^ eU : Nat) : Int) := by
    rw [Int.add_mul, ← signed_mul, ← signed_mul, ← e1, ← e2, sgn_signed, sgn_signed, e3, f3, sgn_mul, sgn_mul, e4, f4, ← Int.add_mul]
  refine ⟨_, rfl, ?_⟩
  obtain ⟨T, hT⟩ : ∃ T, T = signed s m (i - min i j).toNat + signed t l (j - min i j).toNat := ⟨_, rfl⟩
  rw [← hT] at ht
  show WF (FloatKind.f64.encode (.number (if signed s m (i - min i j).toNat + signed t l (j - min i j).toNat = 0 then s && t else decide (signed s m (i - min i j).toNat + signed t l (j - min i j).toNat < 0)) (signed s m (i - min i j).toNat + signed t l (j - min i j).toNat).natAbs (min i j))) (a + b)
  rw [← hT]
  have p1 := Nat.two_pow_pos c
  have p2 := Nat.two_pow_pos eU
  have hn : T.natAbs * 2 ^ c = (a + b).natAbs * 2 ^ eU := by
    have := congrArg Int.natAbs ht
    rwa [Int.natAbs_mul, Int.natAbs_mul, Int.natAbs_natCast, Int.natAbs_natCast] at this
  by_cases h0 : T = 0
  · have hz : a + b = 0 := by
      rw [h0, Int.natAbs_zero, Nat.zero_mul] at hn
      have := (Nat.mul_eq_zero.1 hn.symm).resolve_right (by omega)
      omega
    rw [if_pos h0, h0, hz]
    exact ⟨s && t, by cases (s && t) <;> rfl, enc_zero⟩
  · have hz : a + b ≠ 0 := by
      intro hz
      rw [hz, Int.natAbs_zero, Nat.zero_mul] at hn
      have := (Nat.mul_eq_zero.1 hn).resolve_right (by omega)
      omega
    rw [if_neg h0]
    have hs : decide (T < 0) = decide (a + b < 0) := by
      apply decide_eq_decide.2
      constructor
      · intro h
        apply Int.not_le.1
        intro h2
        have q1 := Int.mul_nonneg h2 (show (0 : Int) ≤ ((2 ^ eU : Nat) : Int) by omega)
        have q2 := Int.mul_neg_of_neg_of_pos h (show (0 : Int) < ((2 ^ c : Nat) : Int) by omega)
        omega
      · intro h
        apply Int.not_le.1
        intro h2
        have q1 := Int.mul_nonneg h2 (show (0 : Int) ≤ ((2 ^ c : Nat) : Int) by omega)
        have q2 := Int.mul_neg_of_neg_of_pos h (show (0 : Int) < ((2 ^ eU : Nat) : Int) by omega)
        omega
    rw [hs]
    refine ⟨decide (a + b < 0), sgn_dec _, ?_⟩
    have hU : eU = 1074 := rfl
    exact enc_same (A := c) (B := eU) (by omega) hn (by omega) hab
theorem addW {x y : Nat} {a b : Int} (hx : WF x a) (hy : WF y b) (ha : a.natAbs < 9007199254740992) (hb : b.natAbs < 9007199254740992) (hab : (a + b).natAbs < 9007199254740992) :
    ∃ z, (FloatKind.format .f64).add x y = some z ∧ WF z (a + b) := by
  obtain ⟨s, m, i, e1, e2, e3, e4⟩ := wf_read hx ha
  obtain ⟨t, l, j, f1, f2, f3, f4⟩ := wf_read hy hb
  obtain ⟨z, h1, h2⟩ := sumW e2 f2 e3 e4 f3 f4 hab
  refine ⟨z, ?_, h2⟩
  show ((FloatKind.f64.decode x).sum (FloatKind.f64.decode y)).map Ieee.double.write = _
  rw [e1, f1]; exact h1
theorem sgn_opp {t : Bool} {b : Int} (f4 : sgn t b.natAbs = b) : sgn (!t) (-b).natAbs = -b := by
  cases t <;> simp [sgn, Int.natAbs_neg] at * <;> omega
theorem subW {x y : Nat} {a b : Int} (hx : WF x a) (hy : WF y b) (ha : a.natAbs < 9007199254740992) (hb : b.natAbs < 9007199254740992) (hab : (a - b).natAbs < 9007199254740992) :
    ∃ z, (FloatKind.format .f64).sub x y = some z ∧ WF z (a - b) := by
  obtain ⟨s, m, i, e1, e2, e3, e4⟩ := wf_read hx ha
  obtain ⟨t, l, j, f1, f2, f3, f4⟩ := wf_read hy hb
  obtain ⟨z, h1, h2⟩ := sumW (b := -b) e2 f2 e3 e4 (by rw [Int.natAbs_neg]; exact f3) (sgn_opp f4) (by rw [← Int.sub_eq_add_neg]; exact hab)
  refine ⟨z, ?_, by rw [Int.sub_eq_add_neg]; exact h2⟩
  show ((FloatKind.f64.decode x).sum (FloatKind.f64.decode y).opposite).map Ieee.double.write = _
  rw [e1, f1]; exact h1
theorem add0 {x : Nat} {a : Int} (hx : WF x a) (ha : a.natAbs < 9007199254740992) : (FloatKind.format .f64).add x 0 = some (FloatKind.nearest .f64 a) := by
  have h00 : FloatKind.nearest .f64 0 = 0 := by decide +kernel
  by_cases h0 : a = 0
  · subst h0
    obtain ⟨s, _, h2⟩ := hx
    have e1 : FloatKind.f64.decode x = .number s 0 (-1074) := by rw [h2]; exact encode0
    have e2 : FloatKind.f64.decode 0 = .number false 0 (-1074) := by decide +kernel
    show ((FloatKind.f64.decode x).sum (FloatKind.f64.decode 0)).map Ieee.double.write = _
    rw [e1, e2, h00]
    cases s <;> decide +kernel
  · have hz : WF 0 0 := by have := wf_nearest 0; rwa [h00] at this
    obtain ⟨z, h1, h2⟩ := addW hx hz ha (by decide) (by rw [Int.add_zero]; exact ha)
    rw [Int.add_zero] at h2
    rw [h1, wf_eq h2 h0]
end Go.AM
