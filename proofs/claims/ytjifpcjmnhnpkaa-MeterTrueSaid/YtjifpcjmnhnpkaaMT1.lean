/- MeterTrue: what the ranges hold. -/
import Derived.Test.YtjifpcjmnhnpkaaMT0
namespace Go.AM.K
set_option linter.unusedVariables false
set_option linter.unusedSimpArgs false
variable {α : Type}
theorem fl_le {n d : Int} (hd : 0 < d) : n / d * d ≤ n := Int.ediv_mul_le n (by omega)
theorem le_ce {n d : Int} (hd : 0 < d) : n ≤ cdv n d * d := by
  unfold cdv
  have := fl_le (n := -n) hd
  rw [Int.neg_mul]; omega
theorem ratLo_le {r0 a0 a1 M c : Int} (h0 : 0 < a0) (h1 : a0 ≤ 80 * M) (h2 : 80 * M ≤ a1) (hr : r0 ≤ 40 * c) : ratLo r0 a0 a1 * M ≤ c * 1048576 := by
  unfold ratLo
  by_cases h : r0 < 0
  · rw [if_pos h]
    have e := fl_le (n := 2 * r0 * 1048576) h0
    generalize 2 * r0 * 1048576 / a0 = q at *
    have hq0 : q ≤ 0 := by
      by_cases hc : q ≤ 0
      · exact hc
      · exfalso
        have : 1 * a0 ≤ q * a0 := Int.mul_le_mul_of_nonneg_right (by omega) (by omega)
        omega
    have h3 := Int.mul_nonneg (show 0 ≤ -q by omega) (show 0 ≤ 80 * M - a0 by omega)
    have e3 : -q * (80 * M - a0) = q * a0 - 80 * (q * M) := by grind
    omega
  · rw [if_neg h]
    have h1' : 0 < a1 := by omega
    have e := fl_le (n := 2 * r0 * 1048576) h1'
    have hq0 : 0 ≤ 2 * r0 * 1048576 / a1 := Int.ediv_nonneg (by omega) (by omega)
    generalize 2 * r0 * 1048576 / a1 = q at *
    have h3 := Int.mul_nonneg hq0 (show 0 ≤ a1 - 80 * M by omega)
    have e3 : q * (a1 - 80 * M) = q * a1 - 80 * (q * M) := by grind
    omega
theorem le_ratHi {r1 a0 a1 M c : Int} (h0 : 0 < a0) (h1 : a0 ≤ 80 * M) (h2 : 80 * M ≤ a1) (hr : 40 * c ≤ r1) : c * 1048576 ≤ ratHi r1 a0 a1 * M := by
  unfold ratHi
  by_cases h : r1 < 0
  · rw [if_pos h]
    have h1' : 0 < a1 := by omega
    have e := le_ce (n := 2 * r1 * 1048576) h1'
    have hq0 : cdv (2 * r1 * 1048576) a1 ≤ 0 := by
      unfold cdv
      have : 0 ≤ -(2 * r1 * 1048576) / a1 := Int.ediv_nonneg (by omega) (by omega)
      omega
    generalize cdv (2 * r1 * 1048576) a1 = q at *
    have h3 := Int.mul_nonneg (show 0 ≤ -q by omega) (show 0 ≤ a1 - 80 * M by omega)
    have e3 : -q * (a1 - 80 * M) = 80 * (q * M) - q * a1 := by grind
    omega
  · rw [if_neg h]
    have e := le_ce (n := 2 * r1 * 1048576) h0
    generalize cdv (2 * r1 * 1048576) a0 = q at *
    have hq0 : 0 ≤ q := by
      by_cases hc : 0 ≤ q
      · exact hc
      · exfalso
        have : q * a0 ≤ -1 * a0 := Int.mul_le_mul_of_nonneg_right (by omega) (by omega)
        omega
    have h3 := Int.mul_nonneg hq0 (show 0 ≤ 80 * M - a0 by omega)
    have e3 : q * (80 * M - a0) = 80 * (q * M) - q * a0 := by grind
    omega
theorem cut_ok {lo hi M c : Int} (hM : 0 < M) (hc : -M ≤ c ∧ c ≤ M) (h1 : lo * M ≤ c * 1048576) (h2 : c * 1048576 ≤ hi * M) : cutE lo hi = 0 ∧ cut1 lo hi * M ≤ c * 1048576 ∧ c * 1048576 ≤ cut2 lo hi * M := by
  have l1 : lo ≤ 1048576 := by
    by_cases h : lo ≤ 1048576
    · exact h
    · exfalso
      have : 1048577 * M ≤ lo * M := Int.mul_le_mul_of_nonneg_right (by omega) (by omega)
      omega
  have l2 : -1048576 ≤ hi := by
    by_cases h : -1048576 ≤ hi
    · exact h
    · exfalso
      have : hi * M ≤ -1048577 * M := Int.mul_le_mul_of_nonneg_right (by omega) (by omega)
      omega
  have hn : ¬ (1048576 < lo ∨ hi < -1048576) := by omega
  unfold cutE cut1 cut2
  rw [if_neg hn, if_neg hn, if_neg hn]
  refine ⟨rfl, ?_, ?_⟩
  · split
    · omega
    · exact h1
  · split
    · omega
    · exact h2
section
variable {p q r N F M c : Int} (h : tnE p q r = 0) (hq : q ≠ 0) (hF : 0 < F) (hM : M = F * r - N * p) (hc : c = F * p - N * r)
include h hq hF hM hc
theorem nFl_le {x : Int} (hx : -1048576 ≤ x ∧ x ≤ 1048576) (hh : c * 1048576 ≤ x * M) : nFl p r x * F ≤ N * 1048576 := by
  obtain ⟨b1, _⟩ := below_bd h hq hx
  unfold nFl
  have e := fl_le (n := (p * 1048576 - x * r) * 1048576) b1
  generalize hn : (p * 1048576 - x * r) * 1048576 / (r * 1048576 - x * p) = n at *
  generalize hB : r * 1048576 - x * p = B at *
  have i1 : N * B - F * (p * 1048576 - x * r) = x * M - c * 1048576 := by subst hM hc; grind
  have i2 := Int.mul_nonneg (show 0 ≤ F by omega) (show 0 ≤ (p * 1048576 - x * r) * 1048576 - n * B by omega)
  refine Int.le_of_mul_le_mul_right (a := B) ?_ b1
  grind
theorem le_nCe {x : Int} (hx : -1048576 ≤ x ∧ x ≤ 1048576) (hh : x * M ≤ c * 1048576) : N * 1048576 ≤ nCe p r x * F := by
  obtain ⟨b1, _⟩ := below_bd h hq hx
  unfold nCe
  have e := le_ce (n := (p * 1048576 - x * r) * 1048576) b1
  generalize hn : cdv ((p * 1048576 - x * r) * 1048576) (r * 1048576 - x * p) = n at *
  generalize hB : r * 1048576 - x * p = B at *
  have i1 : N * B - F * (p * 1048576 - x * r) = x * M - c * 1048576 := by subst hM hc; grind
  have i2 := Int.mul_nonneg (show 0 ≤ F by omega) (show 0 ≤ n * B - (p * 1048576 - x * r) * 1048576 by omega)
  refine Int.le_of_mul_le_mul_right (a := B) ?_ b1
  grind
end
theorem cornA {y s M W : Int} (hM : 0 < M) (hW : 0 ≤ W) (h : y * M ≤ s * 1048576) (h2 : s * W ≤ s * (1048576 * M)) : y * W ≤ s * 1048576 * 1048576 := by
  have i := Int.mul_nonneg (show 0 ≤ s * 1048576 - y * M by omega) hW
  refine Int.le_of_mul_le_mul_right (a := M) ?_ hM
  grind
theorem cornB {y s M W : Int} (hM : 0 < M) (hW : 0 ≤ W) (h : s * 1048576 ≤ y * M) (h2 : s * (1048576 * M) ≤ s * W) : s * 1048576 * 1048576 ≤ y * W := by
  have i := Int.mul_nonneg (show 0 ≤ y * M - s * 1048576 by omega) hW
  refine Int.le_of_mul_le_mul_right (a := M) ?_ hM
  grind
theorem mulL {s a b : Int} (hs : 0 ≤ s) (h : a ≤ b) : s * a ≤ s * b := Int.mul_le_mul_of_nonneg_left h hs
theorem mulN {s a b : Int} (hs : s ≤ 0) (h : a ≤ b) : s * b ≤ s * a := by
  have := Int.mul_nonneg (show 0 ≤ -s by omega) (show 0 ≤ b - a by omega)
  grind
section
variable {p r N F M s N0 N1 : Int} (hF : 0 < F) (hM0 : 0 < M) (hM : M = F * r - N * p) (v0 : 0 ≤ r * 1048576 - N0 * p) (v1 : 0 ≤ r * 1048576 - N1 * p) (h0 : N0 * F ≤ N * 1048576) (h1 : N * 1048576 ≤ N1 * F)
include hF hM0 hM v0 v1 h0 h1
theorem sides : ∃ L H : Int, (L = (r * 1048576 - N0 * p) * F ∧ H = (r * 1048576 - N1 * p) * F ∨ L = (r * 1048576 - N1 * p) * F ∧ H = (r * 1048576 - N0 * p) * F) ∧ 0 ≤ L ∧ 0 ≤ H ∧ L ≤ 1048576 * M ∧ 1048576 * M ≤ H := by
  have w0 := Int.mul_nonneg v0 (show 0 ≤ F by omega)
  have w1 := Int.mul_nonneg v1 (show 0 ≤ F by omega)
  have i0 : (r * 1048576 - N0 * p) * F - 1048576 * M = p * (N * 1048576 - N0 * F) := by subst hM; grind
  have i1 : 1048576 * M - (r * 1048576 - N1 * p) * F = p * (N1 * F - N * 1048576) := by subst hM; grind
  by_cases hp : 0 ≤ p
  · have j0 := Int.mul_nonneg hp (show 0 ≤ N * 1048576 - N0 * F by omega)
    have j1 := Int.mul_nonneg hp (show 0 ≤ N1 * F - N * 1048576 by omega)
    exact ⟨_, _, .inr ⟨rfl, rfl⟩, w1, w0, by omega, by omega⟩
  · have j0 := Int.mul_nonneg (show 0 ≤ -p by omega) (show 0 ≤ N * 1048576 - N0 * F by omega)
    have j1 := Int.mul_nonneg (show 0 ≤ -p by omega) (show 0 ≤ N1 * F - N * 1048576 by omega)
    rw [Int.neg_mul] at j0 j1
    exact ⟨_, _, .inl ⟨rfl, rfl⟩, w0, w1, by omega, by omega⟩
theorem corn_lo {y : Int} (hy : y * M ≤ s * 1048576) : y * ((r * 1048576 - N0 * p) * F) ≤ s * 1048576 * 1048576 ∨ y * ((r * 1048576 - N1 * p) * F) ≤ s * 1048576 * 1048576 := by
  obtain ⟨L, H, hLH, l0, g0, l1, g1⟩ := sides hF hM0 hM v0 v1 h0 h1
  by_cases hs : 0 ≤ s
  · have := cornA hM0 l0 hy (mulL hs l1)
    rcases hLH with ⟨rfl, rfl⟩ | ⟨rfl, rfl⟩
    · exact .inl this
    · exact .inr this
  · have := cornA hM0 g0 hy (mulN (by omega) g1)
    rcases hLH with ⟨rfl, rfl⟩ | ⟨rfl, rfl⟩
    · exact .inr this
    · exact .inl this
theorem corn_hi {y : Int} (hy : s * 1048576 ≤ y * M) : s * 1048576 * 1048576 ≤ y * ((r * 1048576 - N0 * p) * F) ∨ s * 1048576 * 1048576 ≤ y * ((r * 1048576 - N1 * p) * F) := by
  obtain ⟨L, H, hLH, l0, g0, l1, g1⟩ := sides hF hM0 hM v0 v1 h0 h1
  by_cases hs : 0 ≤ s
  · have := cornB hM0 g0 hy (mulL hs g1)
    rcases hLH with ⟨rfl, rfl⟩ | ⟨rfl, rfl⟩
    · exact .inr this
    · exact .inl this
  · have := cornB hM0 l0 hy (mulN (by omega) l1)
    rcases hLH with ⟨rfl, rfl⟩ | ⟨rfl, rfl⟩
    · exact .inl this
    · exact .inr this
end
theorem mn4 (a b c d : Int) : mnZ (mnZ (mnZ a b) c) d ≤ a ∧ mnZ (mnZ (mnZ a b) c) d ≤ b ∧ mnZ (mnZ (mnZ a b) c) d ≤ c ∧ mnZ (mnZ (mnZ a b) c) d ≤ d := by
  have key : ∀ x y : Int, mnZ x y ≤ x ∧ mnZ x y ≤ y := fun x y => by unfold mnZ; split <;> omega
  have k1 := key a b; have k2 := key (mnZ a b) c; have k3 := key (mnZ (mnZ a b) c) d
  omega
theorem mx4 (a b c d : Int) : a ≤ mxZ (mxZ (mxZ a b) c) d ∧ b ≤ mxZ (mxZ (mxZ a b) c) d ∧ c ≤ mxZ (mxZ (mxZ a b) c) d ∧ d ≤ mxZ (mxZ (mxZ a b) c) d := by
  have key : ∀ x y : Int, x ≤ mxZ x y ∧ y ≤ mxZ x y := fun x y => by unfold mxZ; split <;> omega
  have k1 := key a b; have k2 := key (mxZ a b) c; have k3 := key (mxZ (mxZ a b) c) d
  omega
theorem oth_ok {p q r N F M C N0 N1 y0 y1 : Int} (h : tnE p q r = 0) (hq : q ≠ 0) (hF : 0 < F) (hM0 : 0 < M) (hM : M = F * r - N * p) (b0 : -1048576 ≤ N0 ∧ N0 ≤ 1048576) (b1 : -1048576 ≤ N1 ∧ N1 ≤ 1048576) (h0 : N0 * F ≤ N * 1048576) (h1 : N * 1048576 ≤ N1 * F)
    (hy0 : y0 * M ≤ C * q * 1048576) (hy1 : C * q * 1048576 ≤ y1 * M) : oLo p q r y0 y1 N0 N1 * F ≤ C * 1048576 ∧ C * 1048576 ≤ oHi p q r y0 y1 N0 N1 * F := by
  have v0 := (below_bd h hq b0).1
  have v1 := (below_bd h hq b1).1
  have lo := corn_lo hF hM0 hM (by omega) (by omega) h0 h1 hy0
  have hi := corn_hi hF hM0 hM (by omega) (by omega) h0 h1 hy1
  obtain ⟨n1, n2, n3, n4⟩ := mn4 (oW p q r y0 N0) (oW p q r y0 N1) (oW p q r y1 N0) (oW p q r y1 N1)
  obtain ⟨m1, m2, m3, m4⟩ := mx4 (oW p q r y0 N0) (oW p q r y0 N1) (oW p q r y1 N0) (oW p q r y1 N1)
  have hD := (oD_bd h hq).1
  have e1 := fl_le (n := oMn p q r y0 y1 N0 N1) hD
  have e2 := le_ce (n := oMx p q r y0 y1 N0 N1) hD
  have k1 : oMn p q r y0 y1 N0 N1 * F ≤ C * 1048576 * oD q := by
    by_cases hneg : q < 0
    · have eD : oD q = -q * 1048576 := by unfold oD; rw [if_pos hneg]
      rw [eD]
      rcases hi with hi | hi
      · have t : oW p q r y1 N0 * F = -(y1 * ((r * 1048576 - N0 * p) * F)) := by unfold oW sgq; rw [if_pos hneg]; grind
        have t2 : oMn p q r y0 y1 N0 N1 * F ≤ oW p q r y1 N0 * F := Int.mul_le_mul_of_nonneg_right n3 (by omega)
        grind
      · have t : oW p q r y1 N1 * F = -(y1 * ((r * 1048576 - N1 * p) * F)) := by unfold oW sgq; rw [if_pos hneg]; grind
        have t2 : oMn p q r y0 y1 N0 N1 * F ≤ oW p q r y1 N1 * F := Int.mul_le_mul_of_nonneg_right n4 (by omega)
        grind
    · have eD : oD q = q * 1048576 := by unfold oD; rw [if_neg hneg]
      rw [eD]
      rcases lo with lo | lo
      · have t : oW p q r y0 N0 * F = y0 * ((r * 1048576 - N0 * p) * F) := by unfold oW sgq; rw [if_neg hneg]; grind
        have t2 : oMn p q r y0 y1 N0 N1 * F ≤ oW p q r y0 N0 * F := Int.mul_le_mul_of_nonneg_right n1 (by omega)
        grind
      · have t : oW p q r y0 N1 * F = y0 * ((r * 1048576 - N1 * p) * F) := by unfold oW sgq; rw [if_neg hneg]; grind
        have t2 : oMn p q r y0 y1 N0 N1 * F ≤ oW p q r y0 N1 * F := Int.mul_le_mul_of_nonneg_right n2 (by omega)
        grind
  have k2 : C * 1048576 * oD q ≤ oMx p q r y0 y1 N0 N1 * F := by
    by_cases hneg : q < 0
    · have eD : oD q = -q * 1048576 := by unfold oD; rw [if_pos hneg]
      rw [eD]
      rcases lo with lo | lo
      · have t : oW p q r y0 N0 * F = -(y0 * ((r * 1048576 - N0 * p) * F)) := by unfold oW sgq; rw [if_pos hneg]; grind
        have t2 : oW p q r y0 N0 * F ≤ oMx p q r y0 y1 N0 N1 * F := Int.mul_le_mul_of_nonneg_right m1 (by omega)
        grind
      · have t : oW p q r y0 N1 * F = -(y0 * ((r * 1048576 - N1 * p) * F)) := by unfold oW sgq; rw [if_pos hneg]; grind
        have t2 : oW p q r y0 N1 * F ≤ oMx p q r y0 y1 N0 N1 * F := Int.mul_le_mul_of_nonneg_right m2 (by omega)
        grind
    · have eD : oD q = q * 1048576 := by unfold oD; rw [if_neg hneg]
      rw [eD]
      rcases hi with hi | hi
      · have t : oW p q r y1 N0 * F = y1 * ((r * 1048576 - N0 * p) * F) := by unfold oW sgq; rw [if_neg hneg]; grind
        have t2 : oW p q r y1 N0 * F ≤ oMx p q r y0 y1 N0 N1 * F := Int.mul_le_mul_of_nonneg_right m3 (by omega)
        grind
      · have t : oW p q r y1 N1 * F = y1 * ((r * 1048576 - N1 * p) * F) := by unfold oW sgq; rw [if_neg hneg]; grind
        have t2 : oW p q r y1 N1 * F ≤ oMx p q r y0 y1 N0 N1 * F := Int.mul_le_mul_of_nonneg_right m4 (by omega)
        grind
  constructor
  · refine Int.le_of_mul_le_mul_right (a := oD q) ?_ hD
    have t := Int.mul_le_mul_of_nonneg_right e1 (show 0 ≤ F by omega)
    unfold oLo
    grind
  · refine Int.le_of_mul_le_mul_right (a := oD q) ?_ hD
    have t := Int.mul_le_mul_of_nonneg_right e2 (show 0 ≤ F by omega)
    unfold oHi
    grind
end Go.AM.K
