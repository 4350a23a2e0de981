/- TopModulatedBack. -/
import Derived.Test.YtnhkllkecbmchaaGreatDoorV3
import Derived.Test.YtnhkllkecbmchaaGreatDoorV4
namespace Go.AM.K
set_option linter.unusedVariables false
set_option linter.unusedSimpArgs false
variable {α : Type}
theorem rdE_zero {N0 N1 C0 C1 S0 S1 : Int} (hN : -1048576 <= N0 /\ N0 <= N1 /\ N1 <= 1048576) (hC : -1048576 <= C0 /\ C0 <= C1 /\ C1 <= 1048576) (hS : -1048576 <= S0 /\ S0 <= S1 /\ S1 <= 1048576) :
    rdE (mkB [119, 97, 118, 101]) 6328 10000 0 N0 N1 C0 C1 S0 S1 = 0 := by
  have h0 : plE (mkB [119, 97, 118, 101]) 6328 10000 0 = 0 := by decide
  have hr : ∀ x y : Int, -1048576 <= x /\ x <= y /\ y <= 1048576 -> rgE 1048576 x y = 0 := fun x y h => by
    unfold rgE
    rw [if_pos ⟨⟨by omega, by omega⟩, by omega, by omega⟩, if_neg (by omega)]
  unfold rdE
  rw [if_neg (fun h => h h0), hr _ _ hN, hr _ _ hC, hr _ _ hS]
  rfl
theorem told {F A B D N0 N1 C0 C1 S0 S1 : Int} (hF : 1 <= F /\ F <= 100) (hp : (-A) * (-A) + B * B + D * D = F * F) (hN : -1048576 <= N0 /\ N0 <= N1 /\ N1 <= 1048576) (hC : -1048576 <= C0 /\ C0 <= C1 /\ C1 <= 1048576) (hS : -1048576 <= S0 /\ S0 <= S1 /\ S1 <= 1048576)
    (kN : N0 * F <= -A * 1048576 /\ -A * 1048576 <= N1 * F) (kC : C0 * F <= B * 1048576 /\ B * 1048576 <= C1 * F) (kS : S0 * F <= D * 1048576 /\ D * 1048576 <= S1 * F) {k : Bool -> Option α} :
    (f49_0 α (mkB [119, 97, 118, 101]) 6328 10000 0 N0 N1 C0 C1 S0 S1
      (fun (x95 : Int) (x96 : Int) (x97 : Int) => f50_0 α (mkB [119, 97, 118, 101]) 6328 10000 0 N0 N1 C0 C1 S0 S1
        (fun (x98 : Int) (x99 : Int) => f16_0 α (mkB [119, 97, 118, 101]) 6328 10000 0 N0 N1 C0 C1 S0 S1
          (fun (x100 : ByteArray) => f19_0 α x100
            (fun (x101 : ByteArray) (x102 : Int) (x103 : Int) (x104 : Int) (x105 : Int) (x106 : Int) (x107 : Int) (x108 : Int) (x109 : Int) (x110 : Int) (x111 : Int) => cK (x97 == 0)
              (cK (decide (x95 <= 1048576))
                (cK (decide (1048576 <= x96))
                  (cK (x99 == 0)
                    (cK (x98 != 0)
                      (cK (x111 == 0)
                        (k ((x101 == mkB [119, 97, 118, 101]) && ((x102 == 6328) && (((x103 == 10000) && ((x104 == 0) && true)) && (((x105 == N0) && ((x106 == N1) && true)) && (((x107 == C0) && ((x108 == C1) && true)) && (((x109 == S0) && ((x110 == S1) && true)) && true)))))))
                        (k false))
                      (k false))
                    (k false))
                  (k false))
                (k false))
              (k false)))))) = k true := by
  have hz := rdE_zero hN hC hS
  have hs : (mkB [119, 97, 118, 101]).size <= 9223372036854775807 := by decide
  obtain ⟨g1, g2⟩ := dg3_one (by omega) hp kN kC kS
  have gb := dg3_bd (a := N0) (b := N1) (c := C0) (d := C1) (e := S0) (f := S1) ⟨⟨by omega, by omega⟩, by omega, by omega⟩ ⟨⟨by omega, by omega⟩, by omega, by omega⟩ ⟨⟨by omega, by omega⟩, by omega, by omega⟩
  have h137 : ∀ kk : Int -> Int -> Option α, f137_0 α (mkB [119, 97, 118, 101]) 6328 10000 0 N0 N1 C0 C1 S0 S1 kk = kk (dg3L N0 N1 C0 C1 S0 S1) (dg3M N0 N1 C0 C1 S0 S1) := fun kk => f137_eq ⟨⟨by omega, by omega⟩, by omega, by omega⟩ ⟨⟨by omega, by omega⟩, by omega, by omega⟩ ⟨⟨by omega, by omega⟩, by omega, by omega⟩
  generalize dg3L N0 N1 C0 C1 S0 S1 = L at *
  generalize dg3M N0 N1 C0 C1 S0 S1 = M at *
  have w1 : sm7 6328 := by decide
  have w2 : sm7 10000 := by decide
  have w3 : sm7 0 := by decide
  have s4 : sm7 N0 := ⟨by omega, by omega⟩
  have s5 : sm7 N1 := ⟨by omega, by omega⟩
  have s6 : sm7 C0 := ⟨by omega, by omega⟩
  have s7 : sm7 C1 := ⟨by omega, by omega⟩
  have s8 : sm7 S0 := ⟨by omega, by omega⟩
  have s9 : sm7 S1 := ⟨by omega, by omega⟩
  have q1 : L / 1048576 <= 1048576 := by have := Int.ediv_le_ediv (show (0 : Int) < 1048576 by decide) g1; simpa using this
  have q2 : 1048576 <= cdv M 1048576 := by unfold cdv; omega
  simp only [f49_0, f49_0g, f50_0, f50_0g, f82_eq hs, hz, bne_self_eq_false, cK_false, h137, f131_pos (show (0 : Int) < 1048576 by decide) (by decide) (show -9223372036854775807 <= L by omega) (by omega), f132_pos (show (0 : Int) < 1048576 by decide) (by decide) (show -9223372036854775807 <= M by omega) (by omega),
    f16_ok (s := [119, 97, 118, 101]) (by decide) w1 w2 w3 s4 s5 s6 s7 s8 s9, f19_ok (s := [119, 97, 118, 101]) (by decide) w1 w2 w3 s4 s5 s6 s7 s8 s9 (by decide) (by decide) hz]
  rw [decide_eq_false (show ¬ 1099511627776 < L by omega), cK_false]
  have ns : ((1 : Int) != 0) = true := rfl
  have nt : ((2 : Int) != 0) = true := rfl
  have fin : ∀ {y : Int}, (y != 0) = true -> cK ((0 : Int) == 0) (cK (decide (L / 1048576 <= 1048576)) (cK (decide (1048576 <= cdv M 1048576)) (cK ((0 : Int) == 0) (cK (y != 0) (cK ((0 : Int) == 0) (k ((mkB [119, 97, 118, 101] == mkB [119, 97, 118, 101]) && (((6328 : Int) == 6328) && ((((10000 : Int) == 10000) && (((0 : Int) == 0) && true)) && (((N0 == N0) && ((N1 == N1) && true)) && (((C0 == C0) && ((C1 == C1) && true)) && (((S0 == S0) && ((S1 == S1) && true)) && true))))))) (k false)) (k false)) (k false)) (k false)) (k false)) (k false) = k true := fun hy => by
    have hw : (mkB [119, 97, 118, 101] == mkB [119, 97, 118, 101]) = true := by decide
    rw [hy, decide_eq_true q1, decide_eq_true q2, hw]
    simp
  by_cases hm : M <= 1099511627776
  · rw [decide_eq_true hm, cK_true]; exact fin nt
  · rw [decide_eq_false hm, cK_false]; exact fin ns
theorem law8 {x1 x2 x3 x4 x5 x6 x7 x8 x9 x10 x11 x12 x13 x14 x15 x16 x17 x18 x19 x20 x21 x22 x23 : Int} {k : Bool -> Option α} :
    f8_0 α x1 x2 x3 x4 x5 x6 x7 x8 x9 x10 x11 x12 x13 x14 x15 x16 x17 x18 x19 x20 x21 x22 x23 k = k true := by
  simp only [f8_0, f8_0g, f43_eq, Bool.not_true, cK_false, J8_0_0, J8_0_0g, f44_eq]
  by_cases h1 : -5 <= x1 /\ x1 <= 5
  case neg => rw [decide_eq_false h1]; rfl
  by_cases h2 : -5 <= x2 /\ x2 <= 5
  case neg => rw [decide_eq_true h1, decide_eq_false h2]; rfl
  by_cases h3 : -5 <= x3 /\ x3 <= 5
  case neg => rw [decide_eq_true h1, decide_eq_true h2, decide_eq_false h3]; rfl
  by_cases h4 : -5 <= x4 /\ x4 <= 5
  case neg => rw [decide_eq_true h1, decide_eq_true h2, decide_eq_true h3, decide_eq_false h4]; rfl
  by_cases h5 : 1 <= x15 /\ x15 <= 20
  case neg => rw [decide_eq_true h1, decide_eq_true h2, decide_eq_true h3, decide_eq_true h4, decide_eq_false h5]; rfl
  simp only [decide_eq_true h1, decide_eq_true h2, decide_eq_true h3, decide_eq_true h4, decide_eq_true h5, Bool.not_true, cK_false, f46_0, f46_0g, f45_eq h1 h2 h3 h4, bne_self_eq_false]
  have hp := pure4 x1 x2 x3 x4
  have hb : 0 <= x1 * x1 + x2 * x2 + (x3 * x3 + x4 * x4) /\ x1 * x1 + x2 * x2 + (x3 * x3 + x4 * x4) <= 100 := by
    have m1 := mul_bd2 (x := x1) (y := x1) (A := 5) (B := 5) h1 h1
    have m2 := mul_bd2 (x := x2) (y := x2) (A := 5) (B := 5) h2 h2
    have m3 := mul_bd2 (x := x3) (y := x3) (A := 5) (B := 5) h3 h3
    have m4 := mul_bd2 (x := x4) (y := x4) (A := 5) (B := 5) h4 h4
    have q1 := sq_nn x1; have q2 := sq_nn x2; have q3 := sq_nn x3; have q4 := sq_nn x4
    omega
  generalize x1 * x1 + x2 * x2 + (x3 * x3 + x4 * x4) = F at *
  generalize x1 * x1 + x2 * x2 - (x3 * x3 + x4 * x4) = A at *
  generalize 2 * (x1 * x3 + x2 * x4) = B at *
  generalize 2 * (x1 * x4 - x2 * x3) = D at *
  have bA := part_le hb.1 hp
  have bB := part_le (F := F) (N := B) (C := -A) (S := D) hb.1 (by omega)
  have bD := part_le (F := F) (N := D) (C := -A) (S := B) hb.1 (by omega)
  rw [decide_eq_true hb, Bool.not_true, cK_false]
  by_cases hF0 : F = 0
  · rw [show (F == 0) = true from beq_iff_eq.2 hF0, cK_true]
  rw [show (F == 0) = false from beq_eq_false_iff_ne.2 hF0, cK_false]
  simp only [f47_1_eq]
  have bA' : -F <= A /\ A <= F := by omega
  rcases f47_in (α := α) (a := A) (b := B) (st := x15) (n1 := x5) (n2 := x6) (n3 := x7) (n4 := x8) (n5 := x9) (n6 := x10) (n7 := x11) (n8 := x12) (n9 := x13) (n := x14) (v0 := x16) (v1 := x17) (v2 := x18) (v3 := x19) hb bA' bB h5 with e1 | ⟨z1, z2, z3, z4, z5, z6, e1, y1, y2, y3, ry⟩
  · rcases f47_in (α := α) (a := A) (b := D) (st := x15) (n1 := x5) (n2 := x6) (n3 := x7) (n4 := x8) (n5 := x9) (n6 := x10) (n7 := x11) (n8 := x12) (n9 := x13) (n := x14) (v0 := x20) (v1 := x21) (v2 := x22) (v3 := x23) hb bA' bD h5 with e2 | ⟨w1, w2, w3, w4, w5, w6, e2, _⟩
    · rw [e1, e2]; rfl
    · rw [e1, e2]; rfl
  rcases f47_in (α := α) (a := A) (b := D) (st := x15) (n1 := x5) (n2 := x6) (n3 := x7) (n4 := x8) (n5 := x9) (n6 := x10) (n7 := x11) (n8 := x12) (n9 := x13) (n := x14) (v0 := x20) (v1 := x21) (v2 := x22) (v3 := x23) hb bA' bD h5 with e2 | ⟨w1, w2, w3, w4, w5, w6, e2, u1, u2, u3, ru⟩
  · rw [e1, e2]; rfl
  rw [e1, e2, Bool.not_true, cK_false, cK_false]
  by_cases hz : z1 <= 0
  · rw [decide_eq_true hz, cK_true]
  by_cases hw : w1 <= 0
  · rw [decide_eq_false hz, decide_eq_true hw, cK_false, cK_true]
  rw [decide_eq_false hz, decide_eq_false hw, cK_false, cK_false]
  have hF : 1 <= F /\ F <= 100 := by omega
  have l1 : LightOk F (-(-A)) B z1 z2 z3 z4 z5 z6 := by
    rw [Int.neg_neg]
    exact ⟨⟨ry.A0.1, ry.a, ry.A1.2⟩, ⟨ry.B0.1, ry.b, ry.B1.2⟩, ⟨ry.C0.1, ry.c, ry.C1.2⟩, y1, y2, y3, bA', bB⟩
  have l2 : LightOk F (-(-A)) D w1 w2 w3 w4 w5 w6 := by
    rw [Int.neg_neg]
    exact ⟨⟨ru.A0.1, ru.a, ru.A1.2⟩, ⟨ru.B0.1, ru.b, ru.B1.2⟩, ⟨ru.C0.1, ru.c, ru.C1.2⟩, u1, u2, u3, bA', bD⟩
  obtain ⟨N0, N1, C0, C1, S0, S1, hr, hN, hC, hS, kN, kC, kS⟩ := reading (α := α) hF bA bB bD l1 l2 (by omega) (by omega)
  rw [hr, bne_self_eq_false, cK_false]
  have fin := told (α := α) (k := k) hF hp hN hC hS kN kC kS
  have m1 := mul_bd2 (x := N0) (y := F) (A := 1048576) (B := 100) ⟨by omega, by omega⟩ ⟨by omega, by omega⟩
  have m2 := mul_bd2 (x := N1) (y := F) (A := 1048576) (B := 100) ⟨by omega, by omega⟩ ⟨by omega, by omega⟩
  have m3 := mul_bd2 (x := C0) (y := F) (A := 1048576) (B := 100) ⟨by omega, by omega⟩ ⟨by omega, by omega⟩
  have m4 := mul_bd2 (x := C1) (y := F) (A := 1048576) (B := 100) ⟨by omega, by omega⟩ ⟨by omega, by omega⟩
  have m5 := mul_bd2 (x := S0) (y := F) (A := 1048576) (B := 100) ⟨by omega, by omega⟩ ⟨by omega, by omega⟩
  have m6 := mul_bd2 (x := S1) (y := F) (A := 1048576) (B := 100) ⟨by omega, by omega⟩ ⟨by omega, by omega⟩
  have eA : w64 (0 - A) = -A := by rw [w64_in (by omega) (by omega)]; omega
  rw [decide_eq_true (show -1048576 <= N0 /\ N0 <= N1 by omega), decide_eq_false (show ¬ 1048576 < N1 by omega), eA, w64_in (n := -A * 1048576) (by omega) (by omega), w64_in (n := N0 * F) (by omega) (by omega), w64_in (n := N1 * F) (by omega) (by omega),
    decide_eq_false (show ¬ -A * 1048576 < N0 * F by omega), decide_eq_false (show ¬ N1 * F < -A * 1048576 by omega), Bool.not_true, cK_false, cK_false, cK_false, cK_false]
  rw [decide_eq_true (show -1048576 <= C0 /\ C0 <= C1 by omega), decide_eq_false (show ¬ 1048576 < C1 by omega), w64_in (n := B * 1048576) (by omega) (by omega), w64_in (n := C0 * F) (by omega) (by omega), w64_in (n := C1 * F) (by omega) (by omega),
    decide_eq_false (show ¬ B * 1048576 < C0 * F by omega), decide_eq_false (show ¬ C1 * F < B * 1048576 by omega), Bool.not_true, cK_false, cK_false, cK_false, cK_false]
  rw [decide_eq_true (show -1048576 <= S0 /\ S0 <= S1 by omega), decide_eq_false (show ¬ 1048576 < S1 by omega), w64_in (n := D * 1048576) (by omega) (by omega), w64_in (n := S0 * F) (by omega) (by omega), w64_in (n := S1 * F) (by omega) (by omega),
    decide_eq_false (show ¬ D * 1048576 < S0 * F by omega), decide_eq_false (show ¬ S1 * F < D * 1048576 by omega), Bool.not_true, cK_false, cK_false, cK_false, cK_false]
  exact fin
end Go.AM.K
