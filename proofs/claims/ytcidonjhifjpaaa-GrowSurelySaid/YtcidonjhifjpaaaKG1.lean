/- Chapter 8: right signals. -/
import Derived.Test.YtcidonjhifjpaaaKT
import Derived.Test.YtcidonjhifjpaaaKN3
namespace Go.AM.K
open Ieee
variable {α : Type}
set_option linter.unusedVariables false
set_option linter.unusedSimpArgs false

theorem f19_eq {n lo hi : Int} {k : Bool → Option α} : f19_0 α n lo hi k = k (decide (lo ≤ n) && decide (n ≤ hi)) := by simp only [f19_0, f19_0g]; exact cK_and
theorem f78_eq {n lo hi : Int} {k : Bool → Option α} : f78_0 α n lo hi k = k (decide (lo ≤ n) && decide (n ≤ hi)) := by simp only [f78_0, f78_0g]; exact cK_and
theorem lt_len {i N : Nat} : (decide ((i : Int) < (N : Int))) = decide (i < N) := by simp
theorem w64_su {i N : Nat} (h : i < N) (hN : N < 1000000) : w64 ((i : Int) + 1) = ((i + 1 : Nat) : Int) := w64_nat h (by omega)

abbrev rF (x : Nat) : List DC := [.v (.float .f32 x)]
theorem rowK_F {s : List Nat} {i : Nat} (h : i < s.length) {f : Nat → Option α} : rowK (s.map rF) (i : Int) [.flt .f32] f = f (s.getD i 0) := by
  rw [gD h]
  exact (rowK_get (sh := [.flt .f32]) (f := f) (r := rF (s[i]'h)) (by simp [h])).trans rfl

/-- Its size in least units. -/
def whl (v : Int) : Bool := decide (v.natAbs % UU = 0)
/-- The error of a sample. -/
def chkX (x : Nat) : Option Int := match FloatKind.f32.decode x with
  | .number s m p => if whl (vl (.number s m p)) = false then some 27 else if vl (.number s m p) < 0 then some 2 else if 1000000 * (UU : Int) < vl (.number s m p) then some 2 else none
  | _ => some 27

theorem whl_qt {s : Bool} {m : Nat} {i : Int} (hi : -1074 ≤ i) : decide (sgn s (qt m i) * (UU : Int) = vl (.number s m i)) = whl (vl (.number s m i)) := by
  unfold whl
  rw [vl_abs, sgn_abs, qt_eq hi]
  congr 1
  apply propext
  generalize m * 2 ^ (i + 1074).toNat = A
  rw [← sgn_mul]
  have h1 := Nat.div_add_mod A UU
  rw [Nat.mul_comm] at h1
  constructor
  · intro h
    have : A / UU * UU = A := by have := congrArg Int.natAbs h; rwa [sgn_abs, sgn_abs] at this
    omega
  · intro h
    rw [show A / UU * UU = A by omega]
section
variable {y : Nat} {s : Bool} {m : Nat} {i : Int} (hy : FloatKind.f64.decode y = .number s m i) (hi : -1074 ≤ i) (hi2 : i ≤ 971) (hm : m < 2 ^ 53)
include hy hi hi2 hm
theorem J20_num {k : Bool → Option α} : J20_0_1 α y k = k (!whl (vl (.number s m i))) := by
  obtain ⟨t, m', i', h1, h2, h3⟩ := truncF_num hy hi hi2 hm
  obtain ⟨mM, iM, h4, h5, h6⟩ := kMax
  simp only [J20_0_1, J20_0_1g, f79_1, f79_1g, notNaN (.inl ⟨s, m, i, hy⟩), cK_false]
  show cK (!((FloatKind.format .f64).order (truncF y) y == some Ordering.eq)) _ _ = _
  rw [ord_eq h1 hy h2 hi, h3, whl_qt hi]
  cases whl (vl (.number s m i)) with
  | false => rfl
  | true =>
    simp only [Bool.not_true, cK_false, f80_0, f80_0g, f123_0, f123_0g, beq_self_eq_true, cK_true]
    show k ((FloatKind.format .f64).order (absF y) 9218868437227405311 == some Ordering.gt) = _
    have ha : FloatKind.f64.decode (absF y) = .number false m i := by rw [abs_read, hy]
    rw [ord_gt ha h4 hi h5, h6]
    have := le_max (m := m) hi2 hm
    have : ¬ (mxF : Int) < vl (.number false m i) := by omega
    rw [decide_eq_false this]
theorem f86_num (hbig : 10000000000000000 * (UU : Int) < (vl (.number s m i)).natAbs → whl (vl (.number s m i)) = true) {k : Bool → Option α} : f86_1 α y k = k (whl (vl (.number s m i))) := by
  obtain ⟨m1, i1, a1, a2, a3⟩ := k16
  obtain ⟨m2, i2, b1, b2, b3⟩ := kn16
  obtain ⟨m0, i0, c1, c2, c3⟩ := k0
  have hU := UU_pos
  have e0 : ((FloatKind.format .f64).order y y != some Ordering.eq) = false := by
    show (!((FloatKind.format .f64).order y y == some Ordering.eq)) = false
    rw [ord_eq hy hy hi hi]; simp
  have e1 : ((FloatKind.format .f64).order 0 0 != some Ordering.eq) = false := by
    show (!((FloatKind.format .f64).order 0 0 == some Ordering.eq)) = false
    rw [ord_eq c1 c1 c2 c2]; simp
  simp only [f86_1, f86_1g, e0, cK_false, sub_self_num hy, flN, e1]
  rw [ord_gt hy b1 hi b2, ord_eq hy b1 hi b2, ord_lt hy a1 hi a2, ord_eq hy a1 hi a2, a3, b3]
  generalize hv : vl (.number s m i) = v at *
  by_cases h1 : -10000000000000000 * (UU : Int) ≤ v
  · have d1 : (decide (-10000000000000000 * (UU : Int) < v) || decide (v = -10000000000000000 * (UU : Int))) = true := by
      by_cases h : -10000000000000000 * (UU : Int) < v
      · simp [h]
      · have : v = -10000000000000000 * (UU : Int) := by omega
        simp [this]
    rw [d1, cK_true]
    by_cases h2 : v ≤ 10000000000000000 * (UU : Int)
    · have d2 : (decide (v < 10000000000000000 * (UU : Int)) || decide (v = 10000000000000000 * (UU : Int))) = true := by
        by_cases h : v < 10000000000000000 * (UU : Int)
        · simp [h]
        · have : v = 10000000000000000 * (UU : Int) := by omega
          simp [this]
      rw [d2, Bool.not_true, cK_false]
      have hq : qt m i ≤ 10000000000000000 := by
        rw [qt_eq hi]
        have hA : m * 2 ^ (i + 1074).toNat ≤ 10000000000000000 * UU := by
          have e : v.natAbs = m * 2 ^ (i + 1074).toNat := by rw [← hv, vl_abs, sgn_abs]
          rw [← e]; omega
        calc m * 2 ^ (i + 1074).toNat / UU ≤ 10000000000000000 * UU / UU := Nat.div_le_div_right hA
          _ = 10000000000000000 := Nat.mul_div_cancel _ hU
      have hf : f2i .f64 y .i64 = some (sgn s (qt m i)) := by
        unfold f2i
        rw [toInt_num hy]
        simp only
        rw [if_pos]
        have : IntKind.min .i64 = -9223372036854775808 := by decide
        have : IntKind.max .i64 = 9223372036854775807 := by decide
        cases s <;> simp only [sgn, Bool.false_eq_true, if_false, if_true] <;> omega
      rw [hf]
      show k ((FloatKind.format .f64).order (FloatKind.nearest .f64 (sgn s (qt m i))) y == some Ordering.eq) = _
      obtain ⟨t, m', i', n1, n2, n3⟩ := nearest_num (s := s) hi hi2 hm
      rw [ord_eq n1 hy n2 hi, n3, ← hv, whl_qt hi]
    · have d2 : (decide (v < 10000000000000000 * (UU : Int)) || decide (v = 10000000000000000 * (UU : Int))) = false := by
        have g1 : ¬ v < 10000000000000000 * (UU : Int) := by omega
        have g2 : ¬ v = 10000000000000000 * (UU : Int) := by omega
        simp [g1, g2]
      rw [d2, Bool.not_false, cK_true, hbig (by omega)]
  · have d1 : (decide (-10000000000000000 * (UU : Int) < v) || decide (v = -10000000000000000 * (UU : Int))) = false := by
      have g1 : ¬ -10000000000000000 * (UU : Int) < v := by omega
      have g2 : ¬ v = -10000000000000000 * (UU : Int) := by omega
      simp only [g1, g2, decide_false, Bool.or_self]
    rw [d1, cK_false, hbig (by omega)]
end
section
variable {y : Nat} {s : Bool} (hy : FloatKind.f64.decode y = .infinity s)
include hy
theorem J20_inf {k : Bool → Option α} : J20_0_1 α y k = k true := by
  obtain ⟨mM, iM, h4, h5, h6⟩ := kMax
  simp only [J20_0_1, J20_0_1g, f79_1, f79_1g, notNaN (.inr ⟨s, hy⟩), cK_false]
  show cK (!((FloatKind.format .f64).order (truncF y) y == some Ordering.eq)) _ _ = _
  rw [ord_self_inf hy (trunc_inf hy)]
  simp only [Bool.not_true, cK_false, f80_0, f80_0g, f123_0, f123_0g, beq_self_eq_true, cK_true]
  show k ((FloatKind.f64.decode (absF y)).order (FloatKind.f64.decode 9218868437227405311) == some Ordering.gt) = _
  rw [abs_read, hy, h4]; rfl
theorem f86_inf {k : Bool → Option α} : f86_1 α y k = k false := by
  have e0 : ((FloatKind.format .f64).order y y != some Ordering.eq) = false := by
    show (!((FloatKind.format .f64).order y y == some Ordering.eq)) = false
    rw [ord_self_inf hy hy]; rfl
  simp only [f86_1, f86_1g, e0, cK_false, sub_self_inf hy, flN]
end
/-- A great single is whole. -/
theorem big32 {s : Bool} {m : Nat} {p : Int} (hp : -149 ≤ p) (hm : m < 2 ^ 24) (h : 10000000000000000 * (UU : Int) < (vl (.number s m p)).natAbs) : whl (vl (.number s m p)) = true := by
  rw [vl_abs, sgn_abs] at h
  unfold whl
  rw [vl_abs, sgn_abs]
  have h1 : 10000000000000000 * UU < m * 2 ^ (p + 1074).toNat := by omega
  by_cases hp0 : 0 ≤ p
  · rw [show (p + 1074).toNat = p.toNat + eU by (have := eU_def; omega), Nat.pow_add, ← Nat.mul_assoc]
    exact decide_eq_true (Nat.mul_mod_left _ _)
  · exfalso
    have h2 : 2 ^ (p + 1074).toNat ≤ UU := Nat.pow_le_pow_right (by decide) (by have := eU_def; omega)
    have h3 : m * 2 ^ (p + 1074).toNat ≤ 2 ^ 24 * UU := Nat.mul_le_mul (by omega) h2
    have := UU_pos
    omega

/-- A sample's check, in both texts. -/
theorem smpA {x : Nat} {bad27 bad2 ok : Option α} : J20_0_0 α x (f79_0 α bad27) (fun x16 => J20_0_1 α x16 (fun x26 => cK x26 bad27 (cK ((FloatKind.format .f64).order x16 0 == some Ordering.lt) bad2 (cK ((FloatKind.format .f64).order x16 4696837146684686336 == some Ordering.gt) bad2 ok)))) =
    match chkX x with | none => ok | some e => if e = 27 then bad27 else bad2 := by
  unfold chkX
  simp only [J20_0_0, J20_0_0g, f79_0, f79_0g]
  rcases read32 (n := x) with ⟨s, m, p, hx, h1, h2, h3⟩ | ⟨s, hx⟩ | hn
  · have hnn : isNaNb .f32 x = false := by unfold isNaNb; rw [hx]
    obtain ⟨y, m', i, e1, e2, e3, e4, e5, e6⟩ := f2f_num hx h1 h2 h3
    obtain ⟨m0, i0, c1, c2, c3⟩ := k0
    obtain ⟨mk, ik, d1, d2, d3⟩ := k1M
    rw [hnn, e1, hx]
    simp only [cK_false, flK]
    rw [J20_num e2 e3 e4 e5, ord_lt e2 c1 e3 c2, ord_gt e2 d1 e3 d2, c3, d3, e6]
    cases hw : whl (vl (.number s m p)) with
    | false => simp
    | true =>
      by_cases g1 : vl (.number s m p) < 0
      · simp [g1]
      · by_cases g2 : 1000000 * (UU : Int) < vl (.number s m p)
        · simp [g1, g2]
        · simp [g1, g2]
  · have hnn : isNaNb .f32 x = false := by unfold isNaNb; rw [hx]
    obtain ⟨y, e1, e2⟩ := f2f_inf hx
    rw [hnn, e1, hx]
    simp only [cK_false, flK]
    rw [J20_inf e2]; rfl
  · obtain ⟨s, t, hd⟩ := isNaNb_iff.1 hn
    rw [hn, hd]; rfl
theorem smpB {x : Nat} {rows : Rows} {i : Int} (hrow : ∀ f : Nat → Option α, rowK rows i [.flt .f32] f = f x) {bad27 bad2 ok : Option α} : J23_0_0 α i rows (f86_0 α bad27) (fun x15 => f86_1 α x15 (fun x17 => cK (!x17) bad27 (cK ((FloatKind.format .f64).order x15 0 == some Ordering.lt) bad2 (cK ((FloatKind.format .f64).order x15 4696837146684686336 == some Ordering.gt) bad2 ok)))) =
    match chkX x with | none => ok | some e => if e = 27 then bad27 else bad2 := by
  unfold chkX
  simp only [J23_0_0, J23_0_0g, f86_0, f86_0g]
  rw [hrow]
  rcases read32 (n := x) with ⟨s, m, p, hx, h1, h2, h3⟩ | ⟨s, hx⟩ | hn
  · have hnn : isNaNb .f32 x = false := by unfold isNaNb; rw [hx]
    obtain ⟨y, m', i, e1, e2, e3, e4, e5, e6⟩ := f2f_num hx h1 h2 h3
    obtain ⟨m0, i0, c1, c2, c3⟩ := k0
    obtain ⟨mk, ik, d1, d2, d3⟩ := k1M
    rw [hnn, e1, hx]
    simp only [cK_false, flK]
    rw [f86_num e2 e3 e4 e5 (fun h => by rw [e6] at h ⊢; exact big32 h1 h3 h), ord_lt e2 c1 e3 c2, ord_gt e2 d1 e3 d2, c3, d3, e6]
    cases hw : whl (vl (.number s m p)) with
    | false => simp
    | true =>
      by_cases g1 : vl (.number s m p) < 0
      · simp [g1]
      · by_cases g2 : 1000000 * (UU : Int) < vl (.number s m p)
        · simp [g1, g2]
        · simp [g1, g2]
  · have hnn : isNaNb .f32 x = false := by unfold isNaNb; rw [hx]
    obtain ⟨y, e1, e2⟩ := f2f_inf hx
    rw [hnn, e1, hx]
    simp only [cK_false, flK]
    rw [f86_inf e2]; rfl
  · obtain ⟨s, t, hd⟩ := isNaNb_iff.1 hn
    rw [hn, hd]; rfl
theorem chkX_err {x : Nat} {e : Int} (h : chkX x = some e) : e = 27 ∨ e = 2 := by
  unfold chkX at h
  split at h
  · split at h
    · simp only [Option.some.injEq] at h; exact .inl h.symm
    · split at h
      · simp only [Option.some.injEq] at h; exact .inr h.symm
      · split at h
        · simp only [Option.some.injEq] at h; exact .inr h.symm
        · cases h
  · simp only [Option.some.injEq] at h; exact .inl h.symm

/-- The number that a right sample is. -/
def smp (x : Nat) : Int := (f2i .f32 x .i64).getD 0
theorem smp_ok {x : Nat} (h : chkX x = none) : f2i .f32 x .i64 = some (smp x) ∧ 0 ≤ smp x ∧ smp x ≤ 1000000 := by
  unfold chkX at h
  split at h
  · rename_i s m p hx
    have hp : -149 ≤ p := by
      rcases read32 (n := x) with ⟨s', m', p', hx', h1, h2, h3⟩ | ⟨s', hx'⟩ | hn
      · rw [hx] at hx'; cases hx'; exact h1
      · rw [hx] at hx'; cases hx'
      · obtain ⟨s', t, hd⟩ := isNaNb_iff.1 hn; rw [hx] at hd; cases hd
    split at h
    · cases h
    · rename_i hw
      split at h
      · cases h
      · rename_i hneg
        split at h
        · cases h
        · rename_i hbig
          rw [vl_abs] at hneg hbig
          have hU := UU_pos
          have ht : (FloatKind.f32.decode x).toInt .zero = some (sgn s (qt m p)) := by
            unfold qt
            rw [hx]
            simp only [Datum.toInt, Datum.integral, signed_eq, Nat.pow_zero, Nat.mul_one]
            rw [cutZs]
          have hq := qt_eq (m := m) (i := p) (by omega)
          generalize m * 2 ^ (p + 1074).toNat = A at *
          have hA : A ≤ 1000000 * UU := by
            cases s
            · simp only [sgn, Bool.false_eq_true, if_false] at hbig; omega
            · simp only [sgn, if_true] at hneg; omega
          have hq2 : qt m p ≤ 1000000 := by
            rw [hq]
            calc A / UU ≤ 1000000 * UU / UU := Nat.div_le_div_right hA
              _ = 1000000 := Nat.mul_div_cancel _ hU
          have hs : sgn s (qt m p) = (qt m p : Int) := by
            cases s
            · rfl
            · have : A = 0 := by simp only [sgn, if_true] at hneg; omega
              rw [hq, this, Nat.zero_div]; rfl
          have hf : f2i .f32 x .i64 = some (qt m p : Int) := by
            unfold f2i
            rw [ht, hs]
            simp only
            rw [if_pos]
            have : IntKind.min .i64 = -9223372036854775808 := by decide
            have : IntKind.max .i64 = 9223372036854775807 := by decide
            omega
          unfold smp
          rw [hf]
          exact ⟨rfl, by simp, by simp; omega⟩
  · cases h

/-- The check of a signal. -/
def sigP (l : List Nat) (i : Nat) : Option (Int × Int) := match chkX (l.getD i 0) with | some e => some ((i : Int), e) | none => none
def chkSig (N : Int) (l : List Nat) : Int × Int :=
  if (decide (0 ≤ N) && decide (N ≤ 1000000)) = false then (0, 2) else if 200 < l.length then (0, 8) else match srch (sigP l) l.length 0 with | some p => p | none => (0, 0)
theorem sigK {l : List Nat} {i : Nat} {bad : Int → Option α} {yes : Int × Int → Option α} {ok : Option α} (h : ∀ e, bad e = yes ((i : Int), e)) : (match chkX (l.getD i 0) with | none => ok | some e => if e = 27 then bad 27 else bad 2) = orK (sigP l i) yes ok := by
  unfold sigP
  cases hc : chkX (l.getD i 0) with
  | none => rfl
  | some e => rcases chkX_err hc with rfl | rfl <;> simp [h]

theorem f20_eq {N : Int} {l : List Nat} (hl : l.length < 1000000) {k : Int → Int → Option α} : f20_0 α N (l.map rF) k = k (chkSig N l).1 (chkSig N l).2 := by
  simp only [f20_0, f20_0g, chkSig, List.length_map]
  rw [f78_eq]
  cases hN : (decide (0 ≤ N) && decide (N ≤ 1000000)) with
  | false => rfl
  | true =>
    simp only [Bool.not_true, cK_false, Bool.true_eq_false, if_false]
    by_cases h2 : 200 < l.length
    · have : (200 : Int) < (l.length : Int) := by omega
      simp [h2, this]
    have h2' : ¬ (200 : Int) < (l.length : Int) := by omega
    simp only [h2, h2', decide_false, cK_false, if_false, L20_0_2]
    refine (loopS (N := l.length) (R := R20_0_2 α (l.map rF) ((l.length : Nat) : Int) (fun x28 x29 => k x28 x29) (fun _ _ => k 0 0)) (p := sigP l) (yes := fun p => k p.1 p.2) (no := k 0 0) (by omega) (fun n i hi => ?_) (fun n => ?_)).trans ?_
    · simp only [R20_0_2, S20_0_2, S20_0_2g, lt_len, hi, decide_true, cK_true]
      rw [rowK_F hi, smpA, w64_su hi (by omega)]
      exact sigK (bad := fun e => k (i : Int) e) (fun e => rfl)
    · simp only [R20_0_2, S20_0_2, S20_0_2g, Int.lt_irrefl, decide_false, cK_false]
    · cases srch (sigP l) l.length 0 <;> rfl
theorem f23_eq {N : Int} {l : List Nat} (hl : l.length < 1000000) {k : Int → Int → Option α} : f23_0 α N (l.map rF) k = k (chkSig N l).1 (chkSig N l).2 := by
  simp only [f23_0, f23_0g, chkSig, List.length_map]
  rw [f19_eq]
  cases hN : (decide (0 ≤ N) && decide (N ≤ 1000000)) with
  | false => rfl
  | true =>
    simp only [Bool.not_true, cK_false, Bool.true_eq_false, if_false]
    by_cases h2 : 200 < l.length
    · have : (200 : Int) < (l.length : Int) := by omega
      simp [h2, this]
    have h2' : ¬ (200 : Int) < (l.length : Int) := by omega
    simp only [h2, h2', decide_false, cK_false, if_false, L23_0_1]
    refine (loopS (N := l.length) (R := R23_0_1 α (l.map rF) (fun x28 x29 => k x28 x29) (fun _ _ => k 0 0)) (p := sigP l) (yes := fun p => k p.1 p.2) (no := k 0 0) (by omega) (fun n i hi => ?_) (fun n => ?_)).trans ?_
    · simp only [R23_0_1, S23_0_1, S23_0_1g, List.length_map, lt_len, hi, decide_true, cK_true]
      rw [smpB (x := l.getD i 0) (fun f => rowK_F hi), w64_su hi (by omega)]
      exact sigK (bad := fun e => k (i : Int) e) (fun e => rfl)
    · simp only [R23_0_1, S23_0_1, S23_0_1g, List.length_map, Int.lt_irrefl, decide_false, cK_false]
    · cases srch (sigP l) l.length 0 <;> rfl

theorem chkSig_ok {N : Int} {l : List Nat} (h : (chkSig N l).2 = 0) : (0 ≤ N ∧ N ≤ 1000000) ∧ l.length ≤ 200 ∧ ∀ i, i < l.length → chkX (l.getD i 0) = none := by
  unfold chkSig at h
  split at h
  · cases h
  · rename_i hN
    split at h
    · cases h
    · rename_i hl
      have hN : (decide (0 ≤ N) && decide (N ≤ 1000000)) = true := by simpa using hN
      simp only [Bool.and_eq_true, decide_eq_true_eq] at hN
      refine ⟨hN, by omega, fun i hi => ?_⟩
      cases hq : srch (sigP l) l.length 0 with
      | some p =>
        rw [hq] at h
        obtain ⟨j, _, _, h3, _⟩ := srch_some hq
        unfold sigP at h3
        cases hc : chkX (l.getD j 0) with
        | none => rw [hc] at h3; cases h3
        | some e =>
          rw [hc] at h3
          simp only [Option.some.injEq] at h3
          subst h3
          simp only at h
          rcases chkX_err hc with rfl | rfl <;> cases h
      | none =>
        have := srch_none.1 hq i (by omega) (by omega)
        unfold sigP at this
        cases hc : chkX (l.getD i 0) with
        | none => rfl
        | some e => rw [hc] at this; cases this

end Go.AM.K
