/- Chapter 6: samples. -/
import Derived.Test.YtjifpcjmnhnpkaaML1
import Derived.Test.YtjifpcjmnhnpkaaKN8
namespace Go.AM.K
open Ieee
set_option linter.unusedVariables false
set_option linter.unusedSimpArgs false
variable {α : Type}
theorem bigS {s : Bool} {m : Nat} {p : Int} (h1 : -149 ≤ p) (h3 : m < 2 ^ 24) (h : 1073741824 * (UU : Int) < (vl (.number s m p)).natAbs) : whl (vl (.number s m p)) = true := by
  rw [vl_abs, sgn_abs] at h
  unfold whl
  rw [vl_abs, sgn_abs]
  have hp : 0 ≤ p := by
    by_cases hp : 0 ≤ p
    · exact hp
    · have h4 : 2 ^ (p + 1074).toNat ≤ UU := Nat.pow_le_pow_right (by decide) (by have := eU_def; omega)
      have h5 : m * 2 ^ (p + 1074).toNat ≤ 16777216 * UU := Nat.mul_le_mul (by omega) h4
      omega
  apply decide_eq_true
  rw [show (p + 1074).toNat = p.toNat + eU by have := eU_def; omega, Nat.pow_add, ← Nat.mul_assoc]
  exact Nat.mul_mod_left _ _
def chkS (x : Nat) : Option Int := match FloatKind.f32.decode x with
  | .number s m p => if whl (vl (.number s m p)) = false then some 27 else if vl (.number s m p) < 0 then some 2 else if 65535 * (UU : Int) < vl (.number s m p) then some 2 else none
  | _ => some 27
def smp (x : Nat) : Int := (f2i .f32 x .i64).getD 0
theorem c30 : ∃ s m i, FloatKind.f32.decode 1317011456 = .number s m i ∧ -149 ≤ i ∧ vl (.number s m i) = 1073741824 * (UU : Int) := by
  obtain ⟨t, m, i, h1, h2, h3⟩ := whole_encS false 1073741824 (.inr (by decide)) (by decide)
  have e : FloatKind.f32.encode (.number false 1073741824 0) = 1317011456 := by decide +kernel
  rw [e] at h1
  exact ⟨t, m, i, h1, h2, h3⟩
theorem cn30 : ∃ s m i, FloatKind.f32.decode 3464495104 = .number s m i ∧ -149 ≤ i ∧ vl (.number s m i) = -1073741824 * (UU : Int) := by
  obtain ⟨t, m, i, h1, h2, h3⟩ := whole_encS true 1073741824 (.inr (by decide)) (by decide)
  have e : FloatKind.f32.encode (.number true 1073741824 0) = 3464495104 := by decide +kernel
  rw [e] at h1
  refine ⟨t, m, i, h1, h2, h3.trans ?_⟩
  simp [sgn]
theorem c0S : ∃ s m i, FloatKind.f32.decode 0 = .number s m i ∧ -149 ≤ i ∧ vl (.number s m i) = 0 := ⟨false, 0, -149, by decide, by omega, by decide⟩
theorem f118_eq {x : Nat} {k : Int → Int → Option α} : f118_0 α x 0 65535 k = match chkS x with | none => k (smp x) 0 | some e => k 0 e := by
  unfold chkS
  obtain ⟨s0, m0, i0, z1, z2, z3⟩ := c0S
  obtain ⟨s3, m3, i3, a1, a2, a3⟩ := c30
  obtain ⟨s4, m4, i4, b1, b2, b3⟩ := cn30
  have hU := UU_pos
  simp only [f118_0, f118_0g, J118_0_0, J118_0_0g, J118_0_1, J118_0_1g]
  have ne : ∀ o : Option Ordering, (o != some Ordering.eq) = !(o == some Ordering.eq) := fun o => rfl
  simp only [ne]
  rcases read32 (n := x) with ⟨s, m, p, hx, h1, h2, h3⟩ | ⟨s, hx⟩ | hn
  · rw [hx]
    simp only []
    rw [ord_eqS hx hx h1 h1, decide_eq_true rfl, Bool.not_true, cK_false, sub_self_numS hx]
    simp only [flN]
    rw [ord_eqS z1 z1 z2 z2, decide_eq_true rfl, Bool.not_true, cK_false, ord_gtS hx a1 h1 a2, ord_ltS hx b1 h1 b2, a3, b3]
    by_cases g1 : 1073741824 * (UU : Int) < vl (.number s m p)
    · rw [decide_eq_true g1, cK_true, cK_true, bigS h1 h3 (by omega)]
      have : ¬ vl (.number s m p) < 0 := by omega
      have g : 65535 * (UU : Int) < vl (.number s m p) := by omega
      simp [this, g]
    · rw [decide_eq_false g1, cK_false]
      by_cases g2 : vl (.number s m p) < -1073741824 * (UU : Int)
      · rw [decide_eq_true g2, cK_true, bigS h1 h3 (by omega)]
        have : vl (.number s m p) < 0 := by omega
        simp [this]
      · rw [decide_eq_false g2, cK_false]
        have hq : qt m p ≤ 1073741824 := by
          rw [qt_eq (by omega)]
          have hA : m * 2 ^ (p + 1074).toNat ≤ 1073741824 * UU := by
            have e : (vl (.number s m p)).natAbs = m * 2 ^ (p + 1074).toNat := by rw [vl_abs, sgn_abs]
            rw [← e]; omega
          calc m * 2 ^ (p + 1074).toNat / UU ≤ 1073741824 * UU / UU := Nat.div_le_div_right hA
            _ = 1073741824 := Nat.mul_div_cancel _ hU
        have hf : f2i .f32 x .i64 = some (sgn s (qt m p)) := by
          unfold f2i
          rw [toInt_numS hx]
          simp only
          rw [if_pos]
          have : IntKind.min .i64 = -9223372036854775808 := by decide
          have : IntKind.max .i64 = 9223372036854775807 := by decide
          cases s <;> simp only [sgn, Bool.false_eq_true, if_false, if_true] <;> omega
        have hsm : smp x = sgn s (qt m p) := by unfold smp; rw [hf]; rfl
        obtain ⟨t, m', i', n1, n2, n3⟩ := nearest_numS (s := s) h1 h2 h3
        rw [hf]
        simp only [ivK]
        rw [ord_eqS n1 hx n2 h1, n3, whl_qt (by omega), hsm]
        cases hw : whl (vl (.number s m p)) with
        | false => simp
        | true =>
          have hv : sgn s (qt m p) * (UU : Int) = vl (.number s m p) := by
            have := whl_qt (s := s) (m := m) (i := p) (by omega)
            rw [hw] at this
            exact of_decide_eq_true this
          rw [Bool.not_true, cK_false, f98_eq]
          simp only [Bool.true_eq_false, if_false]
          rw [← hv]
          generalize sgn s (qt m p) = n at *
          have u0 : n * (UU : Int) < 0 ↔ n < 0 := by have := mulU_lt (a := n) (b := 0); rwa [Int.zero_mul] at this
          have u1 : 65535 * (UU : Int) < n * (UU : Int) ↔ 65535 < n := mulU_lt
          by_cases g3 : n < 0
          · rw [decide_eq_false (by omega), if_pos (u0.2 g3)]; rfl
          · rw [if_neg (fun h => g3 (u0.1 h))]
            by_cases g4 : 65535 < n
            · rw [decide_eq_false (by omega), if_pos (u1.2 g4)]; rfl
            · rw [decide_eq_true (by omega), if_neg (fun h => g4 (u1.1 h))]; rfl
  · have h1 := ord_self_infS hx hx
    rw [h1, Bool.not_true, cK_false, sub_self_infS hx, hx]
    rfl
  · obtain ⟨s, t, hd⟩ := isNaNb_iff.1 hn
    have h1 : ((FloatKind.format .f32).order x x == some Ordering.eq) = false := by
      show ((FloatKind.f32.decode x).order (FloatKind.f32.decode x) == some Ordering.eq) = false
      have hd' : FloatKind.f32.decode x = .nan s t := hd
      rw [hd']; rfl
    have hd' : FloatKind.f32.decode x = .nan s t := hd
    rw [h1, Bool.not_false, cK_true, cK_true, hd']
theorem chkS_err {x : Nat} {e : Int} (h : chkS x = some e) : e = 27 ∨ e = 2 := by
  unfold chkS at h
  split at h
  · split at h
    · simp only [Option.some.injEq] at h; exact .inl h.symm
    · split at h
      · simp only [Option.some.injEq] at h; exact .inr h.symm
      · split at h
        · simp only [Option.some.injEq] at h; exact .inr h.symm
        · cases h
  · simp only [Option.some.injEq] at h; exact .inl h.symm
theorem smp_ok {x : Nat} (h : chkS x = none) : f2i .f32 x .i64 = some (smp x) ∧ 0 ≤ smp x ∧ smp x ≤ 65535 := by
  unfold chkS at h
  split at h
  · rename_i s m p hx
    have hp : -149 ≤ p := by
      rcases read32 (n := x) with ⟨s', m', p', hx', h1, h2, h3⟩ | ⟨s', hx'⟩ | hn
      · rw [hx] at hx'; cases hx'; exact h1
      · rw [hx] at hx'; cases hx'
      · obtain ⟨s', t, hd⟩ := isNaNb_iff.1 hn; have hd' : FloatKind.f32.decode x = .nan s' t := hd; rw [hx] at hd'; cases hd'
    split at h
    · cases h
    · rename_i hw
      split at h
      · cases h
      · rename_i hneg
        split at h
        · cases h
        · rename_i hbig
          have hw' : whl (vl (.number s m p)) = true := by cases hq : whl (vl (.number s m p)); exact absurd hq hw; rfl
          have hv : sgn s (qt m p) * (UU : Int) = vl (.number s m p) := by
            have := whl_qt (s := s) (m := m) (i := p) (by omega)
            rw [hw'] at this
            exact of_decide_eq_true this
          rw [← hv] at hneg hbig
          have n1 : 0 ≤ sgn s (qt m p) := by
            have := mulU_lt (a := sgn s (qt m p)) (b := 0); rw [Int.zero_mul] at this
            have := fun h => hneg (this.2 h)
            omega
          have n2 : sgn s (qt m p) ≤ 65535 := by
            by_cases hc : 65535 < sgn s (qt m p)
            · exact absurd (mulU_lt.2 hc) hbig
            · omega
          have hf : f2i .f32 x .i64 = some (sgn s (qt m p)) := by
            unfold f2i
            rw [toInt_numS hx]
            simp only
            rw [if_pos]
            have : IntKind.min .i64 = -9223372036854775808 := by decide
            have : IntKind.max .i64 = 9223372036854775807 := by decide
            omega
          unfold smp
          rw [hf]
          exact ⟨rfl, n1, n2⟩
  · cases h
end Go.AM.K
