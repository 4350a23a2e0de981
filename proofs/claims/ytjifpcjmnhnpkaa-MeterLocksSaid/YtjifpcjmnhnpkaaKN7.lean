/- Whole numbers as doubles; roots of whole numbers. Plain. -/
import Derived.Test.YtjifpcjmnhnpkaaKN3
import Derived.Test.YtjifpcjmnhnpkaaKN6
namespace Go.AM
open Ieee
set_option linter.unusedVariables false
set_option linter.unusedSimpArgs false
theorem whole_small {n : Int} (h : n.natAbs < 9007199254740992) :
    ∃ s m i, FloatKind.f64.decode (FloatKind.nearest .f64 n) = .number s m i ∧ -1074 ≤ i ∧ i ≤ 971 ∧ m < 2 ^ 53 ∧ vl (.number s m i) = n * (UU : Int) := by
  have hl : n.natAbs.log2 ≤ 52 := by
    by_cases h0 : n.natAbs = 0
    · rw [h0]; decide
    · have := (Nat.log2_lt h0 (k := 53)).2 (by omega)
      omega
  obtain ⟨t, m, i, h1, h2, h3⟩ := whole_enc (decide (n < 0)) n.natAbs (.inl hl) (by omega)
  have h1' : FloatKind.f64.decode (FloatKind.nearest .f64 n) = .number t m i := h1
  have hs : sgn (decide (n < 0)) n.natAbs = n := by
    by_cases hn : n < 0
    · rw [decide_eq_true hn]; simp only [sgn, if_true]; omega
    · rw [decide_eq_false hn]; simp only [sgn, Bool.false_eq_true, if_false]; omega
  rw [hs] at h3
  rcases read64 (n := FloatKind.nearest .f64 n) with ⟨s', m', i', e, e1, e2, e3⟩ | ⟨s', e⟩ | e
  · have := h1'.symm.trans e
    injection this with a1 a2 a3
    subst a1; subst a2; subst a3
    exact ⟨t, m, i, h1', h2, e2, e3, h3⟩
  · rw [h1'] at e; cases e
  · rw [isNaNb_iff] at e
    obtain ⟨s', t', e⟩ := e
    have : FloatKind.f64.decode (FloatKind.nearest .f64 n) = .nan s' t' := e
    rw [h1'] at this; cases this
theorem whole_qt {n : Int} {s : Bool} {m : Nat} {i : Int} (hi : -1074 ≤ i) (hv : vl (.number s m i) = n * (UU : Int)) : sgn s (qt m i) = n := by
  have hU := UU_pos
  rw [vl_abs] at hv
  have h1 : m * 2 ^ (i + 1074).toNat = n.natAbs * UU := by
    have := congrArg Int.natAbs hv
    rwa [sgn_abs, Int.natAbs_mul, Int.natAbs_natCast] at this
  rw [qt_eq hi, h1, Nat.mul_div_cancel _ hU]
  rw [h1, sgn_mul] at hv
  exact Int.eq_of_mul_eq_mul_right (by omega) hv
theorem f2i_whole {n : Int} (h : n.natAbs < 9007199254740992) : f2i .f64 (FloatKind.nearest .f64 n) .i64 = some n := by
  obtain ⟨s, m, i, h1, h2, h3, h4, h5⟩ := whole_small h
  unfold f2i
  rw [toInt_num h1, whole_qt h2 h5]
  have m1 : IntKind.min .i64 = -9223372036854775808 := by decide
  have m2 : IntKind.max .i64 = 9223372036854775807 := by decide
  simp only
  rw [if_pos (by omega)]
theorem mulU_lt {a b : Int} : a * (UU : Int) < b * (UU : Int) ↔ a < b := by
  have hU : (0 : Int) < (UU : Int) := by have := UU_pos; omega
  exact ⟨fun h => Int.lt_of_mul_lt_mul_right h (by omega), fun h => Int.mul_lt_mul_of_pos_right h hU⟩
def isqGo (n : Nat) : Nat → Nat → Nat
  | 0, r => r
  | k + 1, r => match (r + 2 ^ k) with
    | 0 => isqGo n k r
    | x + 1 => if (x + 1) * (x + 1) ≤ n then isqGo n k (x + 1) else isqGo n k r
def isq (n : Nat) : Nat := isqGo n 29 0
theorem isqGo_bd {n : Nat} : ∀ (k r : Nat), r * r ≤ n → n < (r + 2 ^ k) * (r + 2 ^ k) → isqGo n k r * isqGo n k r ≤ n ∧ n < (isqGo n k r + 1) * (isqGo n k r + 1)
  | 0, r, h1, h2 => ⟨h1, by rw [Nat.pow_zero] at h2; exact h2⟩
  | k + 1, r, h1, h2 => by
    have hp := Nat.two_pow_pos k
    simp only [isqGo]
    split
    · rename_i h; omega
    · rename_i x h
      rw [show x + 1 = r + 2 ^ k by omega]
      by_cases hc : (r + 2 ^ k) * (r + 2 ^ k) ≤ n
      · rw [if_pos hc]
        exact isqGo_bd k _ hc (by rw [Nat.add_assoc, ← Nat.two_mul, ← Nat.pow_succ']; exact h2)
      · rw [if_neg hc]
        exact isqGo_bd k r h1 (by omega)
theorem isq_bd {n : Nat} (h : n < 288230376151711744) : isq n * isq n ≤ n ∧ n < (isq n + 1) * (isq n + 1) :=
  isqGo_bd 29 0 (by omega) (by simpa using h)
theorem isq_lt {n : Nat} (h : n < 288230376151711744) : isq n < 536870912 := by
  obtain ⟨h1, h2⟩ := isq_bd h
  by_cases h3 : isq n < 536870912
  · exact h3
  · have : 536870912 * 536870912 ≤ isq n * isq n := Nat.mul_le_mul (by omega) (by omega)
    omega
theorem isq_ge {n a : Nat} (h : n < 288230376151711744) (ha : a * a ≤ n) : a ≤ isq n := by
  obtain ⟨h1, h2⟩ := isq_bd h
  by_cases h3 : a ≤ isq n
  · exact h3
  · have : (isq n + 1) * (isq n + 1) ≤ a * a := Nat.mul_le_mul (by omega) (by omega)
    omega
theorem isq_uniq {n a : Nat} (h : n < 288230376151711744) (h1 : a * a ≤ n) (h2 : n < (a + 1) * (a + 1)) : isq n = a := by
  have h3 := isq_ge h h1
  obtain ⟨h4, h5⟩ := isq_bd h
  by_cases h6 : isq n ≤ a
  · omega
  · have : (a + 1) * (a + 1) ≤ isq n * isq n := Nat.mul_le_mul (by omega) (by omega)
    omega
def btw (a b : Nat × Nat) : Nat × Nat :=
  let x := a.1 + b.1
  let y := a.2 + b.2
  let r := isq (x * x + y * y)
  (x * 67108864 / r, y * 67108864 / r)
structure DirOk (p : Nat × Nat) : Prop where
  le : p.2 ≤ p.1
  lo : 33554432 ≤ p.1
  hi : p.1 ≤ 67108864
theorem sq_bd {x y : Nat} (hx : x ≤ 134217728) (hy : y ≤ 134217728) : x * x + y * y ≤ 36028797018963968 := by
  have := Nat.mul_le_mul hx hx
  have := Nat.mul_le_mul hy hy
  omega
theorem btw_r {a b : Nat × Nat} (ha : DirOk a) (hb : DirOk b) : a.1 + b.1 ≤ isq ((a.1 + b.1) * (a.1 + b.1) + (a.2 + b.2) * (a.2 + b.2)) ∧ isq ((a.1 + b.1) * (a.1 + b.1) + (a.2 + b.2) * (a.2 + b.2)) ≤ 2 * (a.1 + b.1) := by
  have h1 := ha.le; have h2 := hb.le; have h3 := ha.hi; have h4 := hb.hi; have h5 := ha.lo; have h6 := hb.lo
  generalize hx : a.1 + b.1 = x at *
  generalize hy : a.2 + b.2 = y at *
  have hs := sq_bd (x := x) (y := y) (by omega) (by omega)
  refine ⟨isq_ge (by omega) (by omega), ?_⟩
  obtain ⟨g1, g2⟩ := isq_bd (n := x * x + y * y) (by omega)
  generalize isq (x * x + y * y) = r at *
  by_cases h : r ≤ 2 * x
  · exact h
  · have k1 : (2 * x + 1) * (2 * x + 1) ≤ r * r := Nat.mul_le_mul (by omega) (by omega)
    have k2 : y * y ≤ x * x := Nat.mul_le_mul (by omega) (by omega)
    have k3 : (2 * x + 1) * (2 * x + 1) = 4 * (x * x) + 4 * x + 1 := by
      rw [Nat.mul_add, Nat.add_mul, Nat.mul_one, Nat.one_mul, Nat.mul_mul_mul_comm]; omega
    omega
theorem btw_ok {a b : Nat × Nat} (ha : DirOk a) (hb : DirOk b) : DirOk (btw a b) := by
  obtain ⟨h1, h2⟩ := btw_r ha hb
  have h3 := ha.lo; have h4 := hb.lo; have h5 := ha.le; have h6 := hb.le
  have e : btw a b = ((a.1 + b.1) * 67108864 / isq ((a.1 + b.1) * (a.1 + b.1) + (a.2 + b.2) * (a.2 + b.2)), (a.2 + b.2) * 67108864 / isq ((a.1 + b.1) * (a.1 + b.1) + (a.2 + b.2) * (a.2 + b.2))) := rfl
  rw [e]
  generalize isq ((a.1 + b.1) * (a.1 + b.1) + (a.2 + b.2) * (a.2 + b.2)) = r at *
  have hr0 : 0 < r := by omega
  refine ⟨Nat.div_le_div_right (by omega), ?_, ?_⟩
  · show _ ≤ (a.1 + b.1) * 67108864 / r
    rw [Nat.le_div_iff_mul_le hr0]; omega
  · show (a.1 + b.1) * 67108864 / r ≤ _
    rw [← Nat.lt_succ_iff, Nat.div_lt_iff_lt_mul hr0]; omega
def firGo (m : Nat) : Nat → Nat → Nat → Nat × Nat → Nat × Nat → Nat × Nat
  | 0, _, _, a, _ => a
  | f + 1, lo, hi, a, b => if m = lo then a else if m = hi then b else
      if (lo + hi) / 2 ≤ m then firGo m f ((lo + hi) / 2) hi (btw a b) b else firGo m f lo ((lo + hi) / 2) a (btw a b)
def fir (m : Nat) : Nat × Nat := firGo m 20 0 524288 (67108864, 0) (47453132, 47453132)
theorem firGo_ok {m : Nat} : ∀ (f lo hi : Nat) (a b : Nat × Nat), DirOk a → DirOk b → DirOk (firGo m f lo hi a b)
  | 0, _, _, a, _, ha, _ => ha
  | f + 1, lo, hi, a, b, ha, hb => by
    simp only [firGo]
    split
    · exact ha
    · split
      · exact hb
      · split
        · exact firGo_ok f _ _ _ _ (btw_ok ha hb) hb
        · exact firGo_ok f _ _ _ _ ha (btw_ok ha hb)
theorem fir_ok (m : Nat) : DirOk (fir m) := by
  unfold fir
  exact firGo_ok 20 0 524288 (67108864, 0) (47453132, 47453132) ⟨Nat.zero_le _, by simp, by simp⟩ ⟨by simp, by simp, by simp⟩
def quad (m : Nat) : Int × Int := if 524288 < m then ((fir (1048576 - m)).2, (fir (1048576 - m)).1) else ((fir m).1, (fir m).2)
def trn1 (p : Int × Int) : Int × Int := (-p.2, p.1)
def trn2 (p : Int × Int) : Int × Int := (-p.1, -p.2)
def dir (m : Int) : Int × Int :=
  let r := (m % 4194304).toNat
  if 2097152 ≤ r then (if 1048576 ≤ r - 2097152 then trn2 (trn1 (quad (r - 2097152 - 1048576))) else trn2 (quad (r - 2097152)))
  else if 1048576 ≤ r then trn1 (quad (r - 1048576)) else quad r
structure PBd (p : Int × Int) : Prop where
  h1 : -67108864 ≤ p.1
  h2 : p.1 ≤ 67108864
  h3 : -67108864 ≤ p.2
  h4 : p.2 ≤ 67108864
theorem trn1_bd {p : Int × Int} (h : PBd p) : PBd (trn1 p) := by
  have := h.h1; have := h.h2; have := h.h3; have := h.h4
  exact ⟨by simp only [trn1]; omega, by simp only [trn1]; omega, by simp only [trn1]; omega, by simp only [trn1]; omega⟩
theorem trn2_bd {p : Int × Int} (h : PBd p) : PBd (trn2 p) := by
  have := h.h1; have := h.h2; have := h.h3; have := h.h4
  exact ⟨by simp only [trn2]; omega, by simp only [trn2]; omega, by simp only [trn2]; omega, by simp only [trn2]; omega⟩
theorem quad_bd (m : Nat) : PBd (quad m) := by
  unfold quad
  split
  · have h := fir_ok (1048576 - m); have := h.le; have := h.hi; exact ⟨by simp only; omega, by simp only; omega, by simp only; omega, by simp only; omega⟩
  · have h := fir_ok m; have := h.le; have := h.hi; exact ⟨by simp only; omega, by simp only; omega, by simp only; omega, by simp only; omega⟩
theorem dir_bd (m : Int) : PBd (dir m) := by
  unfold dir
  generalize (m % 4194304).toNat = r
  simp only
  split
  · split
    · exact trn2_bd (trn1_bd (quad_bd _))
    · exact trn2_bd (quad_bd _)
  · split
    · exact trn1_bd (quad_bd _)
    · exact quad_bd _
def rdv (n d : Int) : Int := (2 * n + d) / (2 * d)
end Go.AM
