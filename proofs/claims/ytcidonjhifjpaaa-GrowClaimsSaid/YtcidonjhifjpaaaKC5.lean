/- GrowChambers: the statement's own function answers true. -/
import Derived.Test.YtcidonjhifjpaaaKC4
namespace Go.AM.K
variable {α : Type}
set_option linter.unusedVariables false
set_option linter.unusedSimpArgs false

theorem fl0 {x : Option α} : flatK [([] : Rows)] x = x := rfl
theorem flB {s : List Bool} {x : Option α} : flatK [s.map rB1] x = x := flatK_map (enc := rB1) (fun _ => rfl)
theorem f44_eq {D R : Rows} {k : Bool → Option α} : f44_0 α D R k = k ((decide (D.length ≤ 5) || (decide (8 < D.length) && decide (D.length ≤ 10))) && decide (R.length ≤ 32)) := by
  simp only [f44_0, f44_0g]
  have e1 : decide (((D.length : Nat) : Int) ≤ 5) = decide (D.length ≤ 5) := by congr 1; apply propext; omega
  have e2 : decide ((8 : Int) < ((D.length : Nat) : Int)) = decide (8 < D.length) := by congr 1; apply propext; omega
  have e3 : decide (((D.length : Nat) : Int) ≤ 10) = decide (D.length ≤ 10) := by congr 1; apply propext; omega
  have e4 : decide (((R.length : Nat) : Int) ≤ 32) = decide (R.length ≤ 32) := by congr 1; apply propext; omega
  rw [e1, e2, e3, e4]
  cases decide (D.length ≤ 5) <;> cases decide (8 < D.length) <;> cases decide (D.length ≤ 10) <;> cases decide (R.length ≤ 32) <;> rfl

theorem law9 {D : List ByteArray} {R : List Rule} {s : List Bool} {x : Int} (hb : ∀ x ∈ D, x.size ≤ 9223372036854775807) {k : Bool → Option α} : f9_0 α (D.map rS) (R.map rR) (s.map rB1) x k = k true := by
  simp only [f9_0, f9_0g, f14_0]
  rw [f44_eq]
  simp only [List.length_map]
  cases hsm : (decide (D.length ≤ 5) || (decide (8 < D.length) && decide (D.length ≤ 10))) && decide (R.length ≤ 32) with
  | false => rfl
  | true =>
    simp only [Bool.and_eq_true, Bool.or_eq_true, decide_eq_true_eq] at hsm
    simp only [Bool.not_true, cK_false]
    by_cases h12 : (12 : Int) < ((s.length : Nat) : Int)
    · simp [h12]
    simp only [h12, decide_false, cK_false]
    have hR : R.length < 1000 := by omega
    have hD : D.length ≤ 1000000 := by omega
    rw [f46_eq hD (by omega), f45_eq hR hb, f46_eq hD (by omega), f48_eq (by omega), f47_eq hR hb]
    by_cases he : (chkC D R).2 ≠ 0
    · rw [if_pos he, f46_eq hD (by omega), f48_eq (by omega), f49_eq hR hb, if_pos he, fl0, f50_eq hR]
      have h1 : ((chkC D R).2 == 0) = false := by simpa using he
      have h2 : ((chkC D R).2 != 0) = true := by simpa using he
      simp only [J9_0_0, J9_0_0g, h1, h2, bne_self_eq_false, cK_false, cK_true, beq_self_eq_true, List.length_nil, Int.ofNat_zero]
    rw [if_neg he]
    have he0 : (chkC D R).2 = 0 := by simpa using he
    obtain ⟨hg, h00⟩ := chkC_ok he0
    have h8 := hg.d8
    by_cases hl : s.length = D.length
    · rw [if_neg (by simpa using hl)]
      have fin : ∀ a b : Int, ((brkI R (num s).testBit < 0 ∧ a = 0 ∧ b = 17) ∨ (¬ brkI R (num s).testBit < 0 ∧ a = brkI R (num s).testBit ∧ b = 0)) →
          (f46_0 α (D.map rS) (R.map rR) fun x15 x16 => f48_0 α (s.map rB1) fun x17 => f49_0 α x15 x16 x17 x fun x18 x19 x20 => flatK [x18] (f50_0 α (D.map rS) (R.map rR) fun x21 x22 => cK ((chkC D R).1 != x21) (k false) (cK ((chkC D R).2 != x22) (k false) (J9_0_0 α (s.map rB1) x22 (D.map rS) (R.map rR)
            (fun (x36 : Int) => cK (x36 != 0)
                                      (cK (b == x36)
                                        (cK (x20 == x36)
                                          (cK (a == 0)
                                            (cK (((List.length x18 : Nat) : Int) == 0)
                                              (k (x19 == 0))
                                              (k false))
                                            (k false))
                                          (k false))
                                        (k false))
                                      (f52_0 α (D.map rS) (R.map rR) (s.map rB1)
                                        (fun (x39 : Int) => J9_0_1 α a b x39
                                          (fun (x51 : Bool) => cK x51
                                            (k false)
                                            (f19_0 α x 0 (w64 (((D.length : Nat) : Int) - 1))
                                              (fun (x53 : Bool) => cK (!x53)
                                                (cK (x20 == 6)
                                                  (cK (((List.length x18 : Nat) : Int) == 0)
                                                    (k (x19 == 0))
                                                    (k false))
                                                  (k false))
                                                (f53_0 α (s.map rB1) x
                                                  (fun (x54 : Rows) => f52_0 α (D.map rS) (R.map rR) x54
                                                    (fun (x55 : Int) => cK (decide (0 ≤ x55))
                                                      (cK (x20 == 24)
                                                        (cK (x19 == x55)
                                                          (k (((List.length x18 : Nat) : Int) == 0))
                                                          (k false))
                                                        (k false))
                                                      (cK (x20 == 0)
                                                        (cK (x19 == 0)
                                                          (f54_0 α x18 x54
                                                            (fun (x56 : Bool) => k x56))
                                                          (k false))
                                                        (k false)))))))))))
            (fun (x37 : Bool) => cK (x22 != 0)
                                      (cK (b == x22)
                                        (cK (x20 == x22)
                                          (cK (a == 0)
                                            (cK (((List.length x18 : Nat) : Int) == 0)
                                              (k (x19 == 0))
                                              (k false))
                                            (k false))
                                          (k false))
                                        (k false))
                                      (f52_0 α (D.map rS) (R.map rR) (s.map rB1)
                                        (fun (x57 : Int) => J9_0_1 α a b x57
                                          (fun (x58 : Bool) => cK x58
                                            (k false)
                                            (f19_0 α x 0 (w64 (((D.length : Nat) : Int) - 1))
                                              (fun (x60 : Bool) => cK (!x60)
                                                (cK (x20 == 6)
                                                  (cK (((List.length x18 : Nat) : Int) == 0)
                                                    (k (x19 == 0))
                                                    (k false))
                                                  (k false))
                                                (f53_0 α (s.map rB1) x
                                                  (fun (x61 : Rows) => f52_0 α (D.map rS) (R.map rR) x61
                                                    (fun (x62 : Int) => cK (decide (0 ≤ x62))
                                                      (cK (x20 == 24)
                                                        (cK (x19 == x62)
                                                          (k (((List.length x18 : Nat) : Int) == 0))
                                                          (k false))
                                                        (k false))
                                                      (cK (x20 == 0)
                                                        (cK (x19 == 0)
                                                          (f54_0 α x18 x61
                                                            (fun (x63 : Bool) => k x63))
                                                          (k false))
                                                        (k false)))))))))))))))
          = k true := by
        intro a b hab
        have hJ : J9_0_1 α a b (brkI R (num s).testBit) = fun k : Bool → Option α => k false := by
          funext k
          simp only [J9_0_1, J9_0_1g]
          rcases hab with ⟨h1, rfl, rfl⟩ | ⟨h1, rfl, rfl⟩
          · have h2 : ¬ 0 ≤ brkI R (num s).testBit := by omega
            simp [h1, h2]
          · have h2 : 0 ≤ brkI R (num s).testBit := by omega
            simp [h1, h2]
        rw [f46_eq hD (by omega), f48_eq (by omega), f49_eq hR hb, if_neg he, if_neg (by simpa using hl)]
        by_cases hx : inW x 0 ((D.length : Int) - 1) = false
        · rw [if_pos hx, fl0, f50_eq hR]
          simp only [he0, bne_self_eq_false, cK_false, J9_0_0, J9_0_0g, beq_self_eq_true, cK_true]
          rw [f51_eq]
          simp only [List.length_map, hl, if_true, bne_self_eq_false, cK_false]
          rw [f52_n hl hg.rin hR, hJ]
          simp only [cK_false]
          rw [f19_eq, w64_in (n := (D.length : Int) - 1) (by omega) (by omega)]
          rw [inW] at hx
          rw [hx]; rfl
        · have hx : inW x 0 ((D.length : Int) - 1) = true := by simpa using hx
          have hx' := hx
          simp only [inW, Bool.and_eq_true, decide_eq_true_eq] at hx'
          rw [if_neg (by rw [hx]; decide)]
          by_cases hq : brkI R (num (flp s x.toNat)).testBit < 0
          · have hq' : ¬ 0 ≤ brkI R (num (flp s x.toNat)).testBit := by omega
            rw [if_pos hq, flB, f50_eq hR]
            simp only [he0, bne_self_eq_false, cK_false, J9_0_0, J9_0_0g, beq_self_eq_true, cK_true]
            rw [f51_eq]
            simp only [List.length_map, hl, if_true, bne_self_eq_false, cK_false]
            rw [f52_n hl hg.rin hR, hJ]
            simp only [cK_false]
            rw [f19_eq, w64_in (n := (D.length : Int) - 1) (by omega) (by omega)]
            rw [inW] at hx
            rw [hx]
            simp only [Bool.not_true, cK_false]
            rw [f53_eq (by omega) (by omega) (by omega), f52_n (by simpa using hl) hg.rin hR, f54_eq (by simp; omega)]
            simp [hq']
          · have hq' : 0 ≤ brkI R (num (flp s x.toNat)).testBit := by omega
            rw [if_neg hq, fl0, f50_eq hR]
            simp only [he0, bne_self_eq_false, cK_false, J9_0_0, J9_0_0g, beq_self_eq_true, cK_true]
            rw [f51_eq]
            simp only [List.length_map, hl, if_true, bne_self_eq_false, cK_false]
            rw [f52_n hl hg.rin hR, hJ]
            simp only [cK_false]
            rw [f19_eq, w64_in (n := (D.length : Int) - 1) (by omega) (by omega)]
            rw [inW] at hx
            rw [hx]
            simp only [Bool.not_true, cK_false]
            rw [f53_eq (by omega) (by omega) (by omega), f52_n (by simpa using hl) hg.rin hR]
            simp [hq']
      by_cases hq : brkI R (num s).testBit < 0
      · rw [if_pos hq]; exact fin 0 17 (.inl ⟨hq, rfl, rfl⟩)
      · rw [if_neg hq]; exact fin _ 0 (.inr ⟨hq, rfl, rfl⟩)
    · rw [if_pos (by simpa using hl), f46_eq hD (by omega), f48_eq (by omega), f49_eq hR hb, if_neg he, if_pos (by simpa using hl), fl0, f50_eq hR]
      simp only [he0, bne_self_eq_false, cK_false, J9_0_0, J9_0_0g, beq_self_eq_true, cK_true]
      rw [f51_eq]
      simp only [List.length_map, hl, if_false]
      rfl

end Go.AM.K
