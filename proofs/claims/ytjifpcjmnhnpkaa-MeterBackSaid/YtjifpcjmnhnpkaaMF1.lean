/- Chapter 6: samples. -/
import Derived.Test.YtjifpcjmnhnpkaaML1
import Derived.Test.YtjifpcjmnhnpkaaKN8
namespace Go.AM.K
open Ieee
set_option linter.unusedVariables false
set_option linter.unusedSimpArgs false
variable {α : Type}
section
variable {y : Nat} {s : Bool} {m : Nat} {i : Int} (hy : FloatKind.f64.decode y = .number s m i) (hi : -1074 ≤ i) (hi2 : i ≤ 971) (hm : m < 2 ^ 53)
include hy hi hi2 hm
theorem f71_num (hbig : 10000000000000000 * (UU : Int) < (vl (.number s m i)).natAbs → whl (vl (.number s m i)) = true) {k : Bool → Option α} : f71_1 α y k = k (whl (vl (.number s m i))) := by
  obtain ⟨m1, i1, a1, a2, a3⟩ := k16
  obtain ⟨m2, i2, b1, b2, b3⟩ := kn16
  obtain ⟨m0, i0, c1, c2, c3⟩ := k0
  have hU := UU_pos
  have e0 : ((FloatKind.format .f64).order y y != some Ordering.eq) = false := by
    show (!((FloatKind.format .f64).order y y == some Ordering.eq)) = false
    rw [ord_eq hy hy hi hi]; simp
  have e1 : ((FloatKind.format .f64).order 0 0 != some Ordering.eq) = false := by
    show (!((FloatKind.format .f64).order 0 0 == some Ordering.eq)) = false
    rw [ord_eq c1 c1 c2 c2]; simp
  simp only [f71_1, f71_1g, e0, cK_false, sub_self_num hy, flN, e1]
  rw [ord_gt hy b1 hi b2, ord_eq hy b1 hi b2, ord_lt hy a1 hi a2, ord_eq hy a1 hi a2, a3, b3]
  generalize hv : vl (.number s m i) = v at *
  by_cases h1 : -10000000000000000 * (UU : Int) ≤ v
  · have d1 : (decide (-10000000000000000 * (UU : Int) < v) || decide (v = -10000000000000000 * (UU : Int))) = true := by
      by_cases h : -10000000000000000 * (UU : Int) < v
      · simp [h]
      · have : v = -10000000000000000 * (UU : Int) := by omega
        simp [this]
    rw [d1, cK_true]
    by_cases h2 : v ≤ 10000000000000000 * (UU : Int)
    · have d2 : (decide (v < 10000000000000000 * (UU : Int)) || decide (v = 10000000000000000 * (UU : Int))) = true := by
        by_cases h : v < 10000000000000000 * (UU : Int)
        · simp [h]
        · have : v = 10000000000000000 * (UU : Int) := by omega
          simp [this]
      rw [d2, Bool.not_true, cK_false]
      have hq : qt m i ≤ 10000000000000000 := by
        rw [qt_eq hi]
        have hA : m * 2 ^ (i + 1074).toNat ≤ 10000000000000000 * UU := by
          have e : v.natAbs = m * 2 ^ (i + 1074).toNat := by rw [← hv, vl_abs, sgn_abs]
          rw [← e]; omega
        calc m * 2 ^ (i + 1074).toNat / UU ≤ 10000000000000000 * UU / UU := Nat.div_le_div_right hA
          _ = 10000000000000000 := Nat.mul_div_cancel _ hU
      have hf : f2i .f64 y .i64 = some (sgn s (qt m i)) := by
        unfold f2i
        rw [toInt_num hy]
        simp only
        rw [if_pos]
        have : IntKind.min .i64 = -9223372036854775808 := by decide
        have : IntKind.max .i64 = 9223372036854775807 := by decide
        cases s <;> simp only [sgn, Bool.false_eq_true, if_false, if_true] <;> omega
      rw [hf]
      show k ((FloatKind.format .f64).order (FloatKind.nearest .f64 (sgn s (qt m i))) y == some Ordering.eq) = _
      obtain ⟨t, m', i', n1, n2, n3⟩ := nearest_num (s := s) hi hi2 hm
      rw [ord_eq n1 hy n2 hi, n3, ← hv, whl_qt hi]
    · have d2 : (decide (v < 10000000000000000 * (UU : Int)) || decide (v = 10000000000000000 * (UU : Int))) = false := by
        have g1 : ¬ v < 10000000000000000 * (UU : Int) := by omega
        have g2 : ¬ v = 10000000000000000 * (UU : Int) := by omega
        simp [g1, g2]
      rw [d2, Bool.not_false, cK_true, hbig (by omega)]
  · have d1 : (decide (-10000000000000000 * (UU : Int) < v) || decide (v = -10000000000000000 * (UU : Int))) = false := by
      have g1 : ¬ -10000000000000000 * (UU : Int) < v := by omega
      have g2 : ¬ v = -10000000000000000 * (UU : Int) := by omega
      simp only [g1, g2, decide_false, Bool.or_self]
    rw [d1, cK_false, hbig (by omega)]
end
section
variable {y : Nat} {s : Bool} (hy : FloatKind.f64.decode y = .infinity s)
include hy
theorem f71_inf {k : Bool → Option α} : f71_1 α y k = k false := by
  have e0 : ((FloatKind.format .f64).order y y != some Ordering.eq) = false := by
    show (!((FloatKind.format .f64).order y y == some Ordering.eq)) = false
    rw [ord_self_inf hy hy]; rfl
  simp only [f71_1, f71_1g, e0, cK_false, sub_self_inf hy, flN]
end
theorem big32 {s : Bool} {m : Nat} {p : Int} (hp : -149 ≤ p) (hm : m < 2 ^ 24) (h : 10000000000000000 * (UU : Int) < (vl (.number s m p)).natAbs) : whl (vl (.number s m p)) = true := by
  rw [vl_abs, sgn_abs] at h
  unfold whl
  rw [vl_abs, sgn_abs]
  have h1 : 10000000000000000 * UU < m * 2 ^ (p + 1074).toNat := by omega
  by_cases hp0 : 0 ≤ p
  · rw [show (p + 1074).toNat = p.toNat + eU by (have := eU_def; omega), Nat.pow_add, ← Nat.mul_assoc]
    exact decide_eq_true (Nat.mul_mod_left _ _)
  · exfalso
    have h2 : 2 ^ (p + 1074).toNat ≤ UU := Nat.pow_le_pow_right (by decide) (by have := eU_def; omega)
    have h3 : m * 2 ^ (p + 1074).toNat ≤ 2 ^ 24 * UU := Nat.mul_le_mul (by omega) h2
    have := UU_pos
    omega
theorem bigS {s : Bool} {m : Nat} {p : Int} (h1 : -149 ≤ p) (h3 : m < 2 ^ 24) (h : 1073741824 * (UU : Int) < (vl (.number s m p)).natAbs) : whl (vl (.number s m p)) = true := by
  rw [vl_abs, sgn_abs] at h
  unfold whl
  rw [vl_abs, sgn_abs]
  have hp : 0 ≤ p := by
    by_cases hp : 0 ≤ p
    · exact hp
    · have h4 : 2 ^ (p + 1074).toNat ≤ UU := Nat.pow_le_pow_right (by decide) (by have := eU_def; omega)
      have h5 : m * 2 ^ (p + 1074).toNat ≤ 16777216 * UU := Nat.mul_le_mul (by omega) h4
      omega
  apply decide_eq_true
  rw [show (p + 1074).toNat = p.toNat + eU by have := eU_def; omega, Nat.pow_add, ← Nat.mul_assoc]
  exact Nat.mul_mod_left _ _
def chkS (x : Nat) : Option Int := match FloatKind.f32.decode x with
  | .number s m p => if whl (vl (.number s m p)) = false then some 27 else if vl (.number s m p) < 0 then some 2 else if 65535 * (UU : Int) < vl (.number s m p) then some 2 else none
  | _ => some 27
def smp (x : Nat) : Int := (f2i .f32 x .i64).getD 0
theorem c30 : ∃ s m i, FloatKind.f32.decode 1317011456 = .number s m i ∧ -149 ≤ i ∧ vl (.number s m i) = 1073741824 * (UU : Int) := by
  obtain ⟨t, m, i, h1, h2, h3⟩ := whole_encS false 1073741824 (.inr (by decide)) (by decide)
  have e : FloatKind.f32.encode (.number false 1073741824 0) = 1317011456 := by decide +kernel
  rw [e] at h1
  exact ⟨t, m, i, h1, h2, h3⟩
theorem cn30 : ∃ s m i, FloatKind.f32.decode 3464495104 = .number s m i ∧ -149 ≤ i ∧ vl (.number s m i) = -1073741824 * (UU : Int) := by
  obtain ⟨t, m, i, h1, h2, h3⟩ := whole_encS true 1073741824 (.inr (by decide)) (by decide)
  have e : FloatKind.f32.encode (.number true 1073741824 0) = 3464495104 := by decide +kernel
  rw [e] at h1
  refine ⟨t, m, i, h1, h2, h3.trans ?_⟩
  simp [sgn]
theorem c65535 : ∃ s m i, FloatKind.f32.decode 1199570688 = .number s m i ∧ -149 ≤ i ∧ vl (.number s m i) = 65535 * (UU : Int) := constS (by decide) (by decide +kernel)
theorem c0S : ∃ s m i, FloatKind.f32.decode 0 = .number s m i ∧ -149 ≤ i ∧ vl (.number s m i) = 0 := ⟨false, 0, -149, by decide, by omega, by decide⟩
theorem f118_eq {x : Nat} {k : Int → Int → Option α} : f118_0 α x 0 65535 k = match chkS x with | none => k (smp x) 0 | some e => k 0 e := by
  unfold chkS
  obtain ⟨s0, m0, i0, z1, z2, z3⟩ := c0S
  obtain ⟨s3, m3, i3, a1, a2, a3⟩ := c30
  obtain ⟨s4, m4, i4, b1, b2, b3⟩ := cn30
  have hU := UU_pos
  simp only [f118_0, f118_0g, J118_0_0, J118_0_0g, J118_0_1, J118_0_1g]
  have ne : ∀ o : Option Ordering, (o != some Ordering.eq) = !(o == some Ordering.eq) := fun o => rfl
  simp only [ne]
  rcases read32 (n := x) with ⟨s, m, p, hx, h1, h2, h3⟩ | ⟨s, hx⟩ | hn
  · rw [hx]
    simp only []
    rw [ord_eqS hx hx h1 h1, decide_eq_true rfl, Bool.not_true, cK_false, sub_self_numS hx]
    simp only [flN]
    rw [ord_eqS z1 z1 z2 z2, decide_eq_true rfl, Bool.not_true, cK_false, ord_gtS hx a1 h1 a2, ord_ltS hx b1 h1 b2, a3, b3]
    by_cases g1 : 1073741824 * (UU : Int) < vl (.number s m p)
    · rw [decide_eq_true g1, cK_true, cK_true, bigS h1 h3 (by omega)]
      have : ¬ vl (.number s m p) < 0 := by omega
      have g : 65535 * (UU : Int) < vl (.number s m p) := by omega
      simp [this, g]
    · rw [decide_eq_false g1, cK_false]
      by_cases g2 : vl (.number s m p) < -1073741824 * (UU : Int)
      · rw [decide_eq_true g2, cK_true, bigS h1 h3 (by omega)]
        have : vl (.number s m p) < 0 := by omega
        simp [this]
      · rw [decide_eq_false g2, cK_false]
        have hq : qt m p ≤ 1073741824 := by
          rw [qt_eq (by omega)]
          have hA : m * 2 ^ (p + 1074).toNat ≤ 1073741824 * UU := by
            have e : (vl (.number s m p)).natAbs = m * 2 ^ (p + 1074).toNat := by rw [vl_abs, sgn_abs]
            rw [← e]; omega
          calc m * 2 ^ (p + 1074).toNat / UU ≤ 1073741824 * UU / UU := Nat.div_le_div_right hA
            _ = 1073741824 := Nat.mul_div_cancel _ hU
        have hf : f2i .f32 x .i64 = some (sgn s (qt m p)) := by
          unfold f2i
          rw [toInt_numS hx]
          simp only
          rw [if_pos]
          have : IntKind.min .i64 = -9223372036854775808 := by decide
          have : IntKind.max .i64 = 9223372036854775807 := by decide
          cases s <;> simp only [sgn, Bool.false_eq_true, if_false, if_true] <;> omega
        have hsm : smp x = sgn s (qt m p) := by unfold smp; rw [hf]; rfl
        obtain ⟨t, m', i', n1, n2, n3⟩ := nearest_numS (s := s) h1 h2 h3
        rw [hf]
        simp only [ivK]
        rw [ord_eqS n1 hx n2 h1, n3, whl_qt (by omega), hsm]
        cases hw : whl (vl (.number s m p)) with
        | false => simp
        | true =>
          have hv : sgn s (qt m p) * (UU : Int) = vl (.number s m p) := by
            have := whl_qt (s := s) (m := m) (i := p) (by omega)
            rw [hw] at this
            exact of_decide_eq_true this
          rw [Bool.not_true, cK_false, f98_eq]
          simp only [Bool.true_eq_false, if_false]
          rw [← hv]
          generalize sgn s (qt m p) = n at *
          have u0 : n * (UU : Int) < 0 ↔ n < 0 := by have := mulU_lt (a := n) (b := 0); rwa [Int.zero_mul] at this
          have u1 : 65535 * (UU : Int) < n * (UU : Int) ↔ 65535 < n := mulU_lt
          by_cases g3 : n < 0
          · rw [decide_eq_false (by omega), if_pos (u0.2 g3)]; rfl
          · rw [if_neg (fun h => g3 (u0.1 h))]
            by_cases g4 : 65535 < n
            · rw [decide_eq_false (by omega), if_pos (u1.2 g4)]; rfl
            · rw [decide_eq_true (by omega), if_neg (fun h => g4 (u1.1 h))]; rfl
  · have h1 := ord_self_infS hx hx
    rw [h1, Bool.not_true, cK_false, sub_self_infS hx, hx]
    rfl
  · obtain ⟨s, t, hd⟩ := isNaNb_iff.1 hn
    have h1 : ((FloatKind.format .f32).order x x == some Ordering.eq) = false := by
      show ((FloatKind.f32.decode x).order (FloatKind.f32.decode x) == some Ordering.eq) = false
      have hd' : FloatKind.f32.decode x = .nan s t := hd
      rw [hd']; rfl
    have hd' : FloatKind.f32.decode x = .nan s t := hd
    rw [h1, Bool.not_false, cK_true, cK_true, hd']
theorem ref_smp {x : Nat} {rows : Rows} {i : Int} (hrow : ∀ f : Nat → Option α, rowK rows i [.flt .f32] f = f x) {bad27 bad2 ok : Option α} :
    (cK (isNaNb .f32 x) (f71_0 α bad27) (flK (f2f .f32 x .f64) fun x14 => f71_1 α x14 fun x15 => cK (!x15) bad27 (rowK rows i [.flt .f32] fun x16 => cK ((FloatKind.format .f32).order x16 0 == some Ordering.lt) bad2 (rowK rows i [.flt .f32] fun x17 => cK ((FloatKind.format .f32).order x17 1199570688 == some Ordering.gt) bad2 ok)))) =
      match chkS x with | none => ok | some e => if e = 27 then bad27 else bad2 := by
  unfold chkS
  obtain ⟨s0, m0, i0, z1, z2, z3⟩ := c0S
  obtain ⟨s3, m3, i3, a1, a2, a3⟩ := c65535
  simp only [hrow, f71_0, f71_0g]
  rcases read32 (n := x) with ⟨s, m, p, hx, h1, h2, h3⟩ | ⟨s, hx⟩ | hn
  · have hnn : isNaNb .f32 x = false := by unfold isNaNb; rw [hx]
    obtain ⟨y, m', i, e1, e2, e3, e4, e5, e6⟩ := f2f_num hx h1 h2 h3
    rw [hnn, e1, hx]
    simp only [cK_false, flK]
    rw [f71_num e2 e3 e4 e5 (fun h => by rw [e6] at h ⊢; exact big32 h1 h3 h), ord_ltS hx z1 h1 z2, ord_gtS hx a1 h1 a2, z3, a3, e6]
    cases hw : whl (vl (.number s m p)) with
    | false => simp
    | true =>
      by_cases g1 : vl (.number s m p) < 0
      · simp [g1]
      · by_cases g2 : 65535 * (UU : Int) < vl (.number s m p)
        · simp [g1, g2]
        · simp [g1, g2]
  · have hnn : isNaNb .f32 x = false := by unfold isNaNb; rw [hx]
    obtain ⟨y, e1, e2⟩ := f2f_inf hx
    rw [hnn, e1, hx]
    simp only [cK_false, flK]
    rw [f71_inf e2]; rfl
  · obtain ⟨s, t, hd⟩ := isNaNb_iff.1 hn
    have hd' : FloatKind.f32.decode x = .nan s t := hd
    rw [hn, hd']; rfl
theorem chkS_err {x : Nat} {e : Int} (h : chkS x = some e) : e = 27 ∨ e = 2 := by
  unfold chkS at h
  split at h
  · split at h
    · simp only [Option.some.injEq] at h; exact .inl h.symm
    · split at h
      · simp only [Option.some.injEq] at h; exact .inr h.symm
      · split at h
        · simp only [Option.some.injEq] at h; exact .inr h.symm
        · cases h
  · simp only [Option.some.injEq] at h; exact .inl h.symm
theorem smp_ok {x : Nat} (h : chkS x = none) : f2i .f32 x .i64 = some (smp x) ∧ 0 ≤ smp x ∧ smp x ≤ 65535 := by
  unfold chkS at h
  split at h
  · rename_i s m p hx
    have hp : -149 ≤ p := by
      rcases read32 (n := x) with ⟨s', m', p', hx', h1, h2, h3⟩ | ⟨s', hx'⟩ | hn
      · rw [hx] at hx'; cases hx'; exact h1
      · rw [hx] at hx'; cases hx'
      · obtain ⟨s', t, hd⟩ := isNaNb_iff.1 hn; have hd' : FloatKind.f32.decode x = .nan s' t := hd; rw [hx] at hd'; cases hd'
    split at h
    · cases h
    · rename_i hw
      split at h
      · cases h
      · rename_i hneg
        split at h
        · cases h
        · rename_i hbig
          have hw' : whl (vl (.number s m p)) = true := by cases hq : whl (vl (.number s m p)); exact absurd hq hw; rfl
          have hv : sgn s (qt m p) * (UU : Int) = vl (.number s m p) := by
            have := whl_qt (s := s) (m := m) (i := p) (by omega)
            rw [hw'] at this
            exact of_decide_eq_true this
          rw [← hv] at hneg hbig
          have n1 : 0 ≤ sgn s (qt m p) := by
            have := mulU_lt (a := sgn s (qt m p)) (b := 0); rw [Int.zero_mul] at this
            have := fun h => hneg (this.2 h)
            omega
          have n2 : sgn s (qt m p) ≤ 65535 := by
            by_cases hc : 65535 < sgn s (qt m p)
            · exact absurd (mulU_lt.2 hc) hbig
            · omega
          have hf : f2i .f32 x .i64 = some (sgn s (qt m p)) := by
            unfold f2i
            rw [toInt_numS hx]
            simp only
            rw [if_pos]
            have : IntKind.min .i64 = -9223372036854775808 := by decide
            have : IntKind.max .i64 = 9223372036854775807 := by decide
            omega
          unfold smp
          rw [hf]
          exact ⟨rfl, n1, n2⟩
  · cases h
end Go.AM.K
