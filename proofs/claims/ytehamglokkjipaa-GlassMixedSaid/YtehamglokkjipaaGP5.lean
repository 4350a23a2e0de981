/- Chapter 2: mixtures lie between. -/
import Derived.Test.YtehamglokkjipaaGP4
namespace Go.AM.K
set_option linter.unusedVariables false
set_option linter.unusedSimpArgs false
set_option linter.unusedSectionVars false
variable {α : Type}
theorem mul4 (a b c d : Int) : a * b * (c * d) = a * c * (b * d) := by
  rw [Int.mul_assoc, Int.mul_left_comm b, ← Int.mul_assoc]
theorem sq_lt' {x y : Int} (hy : 0 ≤ y) (h : x * x ≤ y * y) : x ≤ y := by
  apply Int.not_lt.1
  intro hx
  have h1 := Int.mul_lt_mul_of_pos_right hx (show 0 < x by omega)
  have h2 := Int.mul_le_mul_of_nonneg_left (show y ≤ x by omega) hy
  omega
section
variable {a b s : Int} (h : Mx a b s)
include h
theorem Mx.swap : Mx b a (10000 - s) := ⟨h.b1, h.b2, h.a1, h.a2, by have := h.s2; omega, by have := h.s1; omega⟩
theorem mser_swap : mser b a (10000 - s) = mser a b s := by
  unfold mser; rw [show 10000 - (10000 - s) = s by omega]; omega
theorem mpar_swap : mpar b a (10000 - s) = mpar a b s := by
  unfold mpar; rw [show 10000 - (10000 - s) = s by omega]; omega
theorem mnum_swap : mnum b a = mnum a b := by
  unfold mnum
  rw [Int.mul_left_comm, Int.mul_left_comm (a * a), Int.mul_comm (b * b)]
theorem mL_swap : mL b a (10000 - s) = mL a b s := by unfold mL; rw [mnum_swap h, mser_swap h]
theorem mH_swap : mH b a (10000 - s) = mH a b s := by unfold mH mR; rw [mpar_swap h]
theorem Mx.ser_le {X Y : Int} (hA : X ≤ a * a ∧ a * a ≤ Y) (hB : X ≤ b * b ∧ b * b ≤ Y) : 10000 * X ≤ mser a b s ∧ mser a b s ≤ 10000 * Y ∧ 10000 * X ≤ mpar a b s ∧ mpar a b s ≤ 10000 * Y := by
  have h1 := h.s1
  have h2 := h.s2
  have e1 := Int.mul_le_mul_of_nonneg_left hA.1 h1
  have e2 := Int.mul_le_mul_of_nonneg_left hA.2 h1
  have e3 := Int.mul_le_mul_of_nonneg_left hB.1 h1
  have e4 := Int.mul_le_mul_of_nonneg_left hB.2 h1
  have e5 := Int.mul_le_mul_of_nonneg_left hA.1 (show 0 ≤ 10000 - s by omega)
  have e6 := Int.mul_le_mul_of_nonneg_left hA.2 (show 0 ≤ 10000 - s by omega)
  have e7 := Int.mul_le_mul_of_nonneg_left hB.1 (show 0 ≤ 10000 - s by omega)
  have e8 := Int.mul_le_mul_of_nonneg_left hB.2 (show 0 ≤ 10000 - s by omega)
  have d1 : (10000 - s) * X = 10000 * X - s * X := Int.sub_mul _ _ _
  have d2 : (10000 - s) * Y = 10000 * Y - s * Y := Int.sub_mul _ _ _
  unfold mser mpar
  omega
theorem Mx.sq_le {m M : Int} (hm : 0 ≤ m) (h1 : m ≤ a) (h2 : m ≤ b) (h3 : a ≤ M) (h4 : b ≤ M) : (m * m ≤ a * a ∧ a * a ≤ M * M) ∧ (m * m ≤ b * b ∧ b * b ≤ M * M) := by
  have := h.a1
  have := h.b1
  exact ⟨⟨Int.mul_le_mul h1 h1 hm (by omega), Int.mul_le_mul h3 h3 (by omega) (by omega)⟩, Int.mul_le_mul h2 h2 hm (by omega), Int.mul_le_mul h4 h4 (by omega) (by omega)⟩
theorem Mx.L_ge {m M : Int} (hm : 0 ≤ m) (h1 : m ≤ a) (h2 : m ≤ b) (h3 : a ≤ M) (h4 : b ≤ M) (hmM : (m = a ∧ M = b) ∨ (m = b ∧ M = a)) : m ≤ mL a b s := by
  rw [h.L_iff hm]
  obtain ⟨hA, hB⟩ := h.sq_le hm h1 h2 h3 h4
  have := (h.ser_le hA hB).2.1
  have e := Int.mul_le_mul_of_nonneg_left this (show 0 ≤ m * m from Int.mul_nonneg hm hm)
  refine Int.le_trans e ?_
  unfold mnum
  rcases hmM with ⟨rfl, rfl⟩ | ⟨rfl, rfl⟩
  · exact Int.le_refl _
  · rw [Int.mul_left_comm, Int.mul_left_comm (M * M), Int.mul_comm (m * m)]; exact Int.le_refl _
theorem Mx.H_le {m M : Int} (hm : 0 ≤ m) (h1 : m ≤ a) (h2 : m ≤ b) (h3 : a ≤ M) (h4 : b ≤ M) : mH a b s ≤ M := by
  apply Int.not_lt.1
  intro hx
  have hM0 : 0 ≤ M := by have := h.a1; omega
  have h5 := (h.H_iff hM0).1 hx
  obtain ⟨hA, hB⟩ := h.sq_le hm h1 h2 h3 h4
  have := (h.ser_le hA hB).2.2.2
  rw [Int.mul_assoc] at h5
  omega
theorem Mx.L_le_H : mL a b s ≤ mH a b s := by
  have hL0 := h.L0
  have hHb := h.H_bd
  have h1 := (h.L_iff hL0).1 (Int.le_refl _)
  have hser := h.ser_bd
  have hpar := h.par_bd
  -- hH : par ≤ 10000 H H
  have hH : mpar a b s ≤ 10000 * (mH a b s * mH a b s) := by
    apply Int.not_lt.1
    intro hx
    have := (h.H_iff (n := mH a b s) (by omega)).2 (by rw [Int.mul_assoc]; exact hx)
    omega
  -- the product of both
  have key : 10000 * mnum a b ≤ mser a b s * mpar a b s := by
    unfold mser mpar mnum
    have hA := h.sqA
    have hB := h.sqB
    generalize a * a = A at *
    generalize b * b = B at *
    have hs1 := h.s1
    have hs2 := h.s2
    obtain ⟨r, hr⟩ : ∃ r, 10000 - s = r := ⟨_, rfl⟩
    rw [hr]
    have e : (s * B + r * A) * (s * A + r * B) = (s * s) * (A * B) + (r * r) * (A * B) + (s * r) * (A * A) + (s * r) * (B * B) := by
      rw [Int.add_mul, Int.mul_add, Int.mul_add]
      have e1 : s * B * (s * A) = (s * s) * (A * B) := by rw [mul4, Int.mul_comm B A]
      have e2 : s * B * (r * B) = (s * r) * (B * B) := by rw [mul4]
      have e3 : r * A * (s * A) = (s * r) * (A * A) := by rw [mul4, Int.mul_comm r s]
      have e4 : r * A * (r * B) = (r * r) * (A * B) := by rw [mul4]
      rw [e1, e2, e3, e4]; omega
    rw [e]
    have hsq : 2 * (A * B) ≤ A * A + B * B := by
      have h0 : 0 ≤ (A - B) * (A - B) := by
        rcases Int.le_total A B with hl | hl
        · have := Int.mul_nonneg (show 0 ≤ B - A by omega) (show 0 ≤ B - A by omega)
          have e : (A - B) * (A - B) = (B - A) * (B - A) := by
            rw [show A - B = -(B - A) by omega, Int.neg_mul_neg]
          omega
        · exact Int.mul_nonneg (by omega) (by omega)
      rw [Int.sub_mul, Int.mul_sub, Int.mul_sub, Int.mul_comm B A] at h0
      omega
    have hsr : 0 ≤ s * r := Int.mul_nonneg hs1 (by omega)
    have m1 := Int.mul_le_mul_of_nonneg_left hsq hsr
    rw [Int.mul_add] at m1
    have q : (s * s) * (A * B) + (r * r) * (A * B) + (s * r) * (2 * (A * B)) = 100000000 * (A * B) := by
      have e1 : (s * r) * (2 * (A * B)) = (2 * (s * r)) * (A * B) := by rw [Int.mul_left_comm, ← Int.mul_assoc, ← Int.mul_assoc, ← Int.mul_assoc]
      rw [e1, ← Int.add_mul, ← Int.add_mul]
      congr 1
      subst hr
      rw [Int.sub_mul, Int.mul_sub, Int.mul_sub]; omega
    have e9 : A * (10000 * B) = 10000 * (A * B) := Int.mul_left_comm _ _ _
    rw [e9]
    omega
  have h2 : mL a b s * mL a b s * mser a b s * 10000 ≤ mser a b s * mpar a b s := by omega
  have h3 : mser a b s * (mL a b s * mL a b s * 10000) ≤ mser a b s * mpar a b s := by
    rw [← Int.mul_assoc, Int.mul_comm (mser a b s)]; exact h2
  have h4 := Int.le_of_mul_le_mul_left h3 (show 0 < mser a b s by omega)
  exact sq_lt' (by omega) (by omega)
end
theorem share_lo {N D s : Int} (hD : 0 < D) (h : N ≤ s * D) : N / D ≤ s := by
  have := Int.ediv_le_ediv hD h
  rwa [Int.mul_ediv_cancel _ (by omega)] at this
theorem share_hi {N D s : Int} (hD : 0 < D) (h : s * D ≤ N) : s ≤ cdv N D := by
  unfold cdv
  have h1 : -N ≤ (-s) * D := by rw [Int.neg_mul]; omega
  have := share_lo hD h1
  omega
theorem shOut_ok {a b x : Int} (h : Sx a b x) (hne : a ≠ b) (h1 : (if b < a then b else a) ≤ x) (h2 : x ≤ (if b > a then b else a)) {k : Int → Int → Int → Option α} : shOut a b x k = k (shN a b x / shD a b) (cdv (shN a b x) (shD a b)) 0 := by
  have hv : inB a 5000 80000 = true ∧ inB b 5000 80000 = true ∧ inB x 5000 80000 = true := ⟨inB_iff.2 ⟨h.a1, h.a2⟩, inB_iff.2 ⟨h.b1, h.b2⟩, inB_iff.2 ⟨h.x1, h.x2⟩⟩
  have hnn : ¬ ¬ (inB a 5000 80000 = true ∧ inB b 5000 80000 = true ∧ inB x 5000 80000 = true) := fun q => q hv
  have hin : ¬ inB x (if b < a then b else a) (if b > a then b else a) = false := by rw [inB_iff.2 ⟨h1, h2⟩]; decide
  unfold shOut
  rw [if_neg hnn, if_neg hne, if_neg hin]
theorem law5 {a b s : Int} {k : Bool → Option α} : f5_0 α a b s k = k true := by
  simp only [f5_0, f5_0g, f7_0, f12_eq, f13_eq]
  by_cases hx : inB a 5000 80000 = true ∧ inB b 5000 80000 = true ∧ inB s 0 10000 = true
  · have h := mx_iff.1 hx
    have e1 : ∀ k' : Int → Int → Int → Option α, mxOut a b s k' = k' (if 80000 < mL a b s then 80000 else mL a b s) (mH a b s) 0 := fun k' => if_pos hx
    have hHb := h.H_bd
    have hLH := h.L_le_H
    have hL : (if 80000 < mL a b s then 80000 else mL a b s) = mL a b s := if_neg (by omega)
    have hx' : inB b 5000 80000 = true ∧ inB a 5000 80000 = true ∧ inB (10000 - s) 0 10000 = true := mx_iff.2 h.swap
    have e2 : ∀ k' : Int → Int → Int → Option α, mxOut b a (10000 - s) k' = k' (mL a b s) (mH a b s) 0 := fun k' => by
      rw [show mxOut b a (10000 - s) k' = k' (if 80000 < mL b a (10000 - s) then 80000 else mL b a (10000 - s)) (mH b a (10000 - s)) 0 from if_pos hx', mL_swap h, mH_swap h, hL]
    rw [e1, hL]
    have hs1' := h.s1; have hs2' := h.s2; have a1 := h.a1; have a2 := h.a2; have b1 := h.b1; have b2 := h.b2
    rw [w64_in (n := 10000 - s) (by omega) (by omega)]
    simp only [bne_self_eq_false, cK_false]
    rw [e2]
    simp only [bne_self_eq_false, cK_false, beq_self_eq_true, Bool.and_self, Bool.not_true]
    obtain ⟨m, hm⟩ : ∃ m, (if b < a then b else a) = m := ⟨_, rfl⟩
    obtain ⟨M, hM⟩ : ∃ M, (if b > a then b else a) = M := ⟨_, rfl⟩
    have hmM : (m = a ∧ M = b ∧ a ≤ b) ∨ (m = b ∧ M = a ∧ b ≤ a) := by
      rw [← hm, ← hM]; split <;> split <;> omega
    rw [hm, hM]
    have g1 : m ≤ mL a b s := h.L_ge (M := M) (by omega) (by omega) (by omega) (by omega) (by omega) (by omega)
    have g2 : mH a b s ≤ M := h.H_le (m := m) (by omega) (by omega) (by omega) (by omega) (by omega)
    rw [f16_eq, inB_iff.2 ⟨g1, hLH⟩]
    simp only [Bool.not_true, cK_false]
    rw [decide_eq_false (by omega), cK_false]
    by_cases hab : a = b
    · rw [show (a == b) = true by simpa using hab, cK_true]
      have q1 : mL a b s = a := by omega
      have q2 : mH a b s = a := by omega
      rw [q1, q2]; simp
    · rw [show (a == b) = false by simpa using hab, cK_false]
      rw [w64_in (n := mH a b s - 1) (by omega) (by omega)]
      obtain ⟨x2, hx2⟩ : ∃ x2, (if m > mH a b s - 1 then m else mH a b s - 1) = x2 := ⟨_, rfl⟩
      have hx2b : m ≤ x2 ∧ x2 ≤ M ∧ (x2 = mH a b s - 1 ∨ x2 = m) := by rw [← hx2]; split <;> omega
      rw [hx2]
      have S1 : Sx a b (mH a b s) := ⟨a1, a2, b1, b2, by omega, by omega⟩
      have S2 : Sx a b x2 := ⟨a1, a2, b1, b2, by omega, by omega⟩
      rw [shOut_ok S1 hab (by rw [hm]; omega) (by rw [hM]; exact g2), shOut_ok S2 hab (by rw [hm]; omega) (by rw [hM]; omega)]
      simp only [bne_self_eq_false, cK_false]
      rw [f16_eq]
      obtain ⟨hD, hD2, _, _⟩ := S1.D_bd hab
      -- what the greatest index says
      have hH : mpar a b s ≤ 10000 * (mH a b s * mH a b s) := by
        apply Int.not_lt.1
        intro hq
        have := (h.H_iff (n := mH a b s) (by omega)).2 (by rw [Int.mul_assoc]; exact hq)
        omega
      have hH1 : 10000 * ((mH a b s - 1) * (mH a b s - 1)) < mpar a b s := by
        have := (h.H_iff (n := mH a b s - 1) (by omega)).1 (by omega)
        rw [Int.mul_assoc] at this
        exact this
      have hp : mpar a b s = 10000 * (b * b) + s * (a * a - b * b) := by
        unfold mpar
        rw [Int.sub_mul, Int.mul_sub]; omega
      have hsm : 0 ≤ s * shD a b := Int.mul_nonneg hs1' (by omega)
      have hsm2 : s * shD a b ≤ 10000 * shD a b := Int.mul_le_mul_of_nonneg_right hs2' (by omega)
      have hmm : 10000 * (x2 * x2) ≤ mpar a b s ∨ x2 = m := by
        rcases hx2b.2.2 with rfl | hq
        · exact .inl (by omega)
        · exact .inr hq
      have hns : s * (0 - (a * a - b * b)) = 0 - s * (a * a - b * b) := by rw [Int.mul_sub]; omega
      refine congrArg k (inB_iff.2 ?_)
      by_cases hlt : a * a - b * b < 0
      · have hba : m = a := by
          rcases hmM with ⟨q, _, _⟩ | ⟨_, _, q⟩
          · exact q
          · have := Int.mul_le_mul q q (by omega) (by omega); omega
        have n1 : ∀ x, shN a b x = 0 - 10000 * (x * x - b * b) := fun x => by unfold shN; rw [if_pos hlt]
        have d1 : shD a b = 0 - (a * a - b * b) := by unfold shD; rw [if_pos hlt]
        have q1 : shN a b (mH a b s) / shD a b ≤ s := share_lo hD (by rw [n1, d1, hns]; omega)
        have q2 : s ≤ cdv (shN a b x2) (shD a b) := share_hi hD (by
          rw [n1]
          rcases hmm with hq | hq
          · rw [d1, hns]; omega
          · rw [hq, hba]; rw [d1] at hsm2 ⊢; omega)
        constructor
        · split <;> omega
        · split <;> omega
      · have hba : m = b := by
          rcases hmM with ⟨q1, q2, q⟩ | ⟨q, _, _⟩
          · have := Int.mul_le_mul q q (by omega) (by omega)
            exact absurd (show a = b from by
              apply Classical.byContradiction; intro hne
              have := sq_ne (show 0 < a by omega) (show 0 < b by omega) hne; omega) hab
          · exact q
        have n1 : ∀ x, shN a b x = 10000 * (x * x - b * b) := fun x => by unfold shN; rw [if_neg hlt]
        have d1 : shD a b = a * a - b * b := by unfold shD; rw [if_neg hlt]
        have q1 : shN a b x2 / shD a b ≤ s := share_lo hD (by
          rw [n1]
          rcases hmm with hq | hq
          · rw [d1]; omega
          · rw [hq, hba, Int.sub_self, Int.mul_zero]; exact hsm)
        have q2 : s ≤ cdv (shN a b (mH a b s)) (shD a b) := share_hi hD (by rw [n1, d1]; omega)
        constructor
        · split <;> omega
        · split <;> omega
  · have e1 : ∀ k' : Int → Int → Int → Option α, mxOut a b s k' = k' 0 0 2 := fun k' => if_neg hx
    rw [e1]
    rfl
end Go.AM.K
