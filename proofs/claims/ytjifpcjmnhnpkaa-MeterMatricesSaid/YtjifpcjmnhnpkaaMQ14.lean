/- MeterMatrices. -/
import Derived.Test.YtjifpcjmnhnpkaaMH3
import Derived.Test.YtjifpcjmnhnpkaaMTN
import Derived.Test.YtjifpcjmnhnpkaaKTt
namespace Go.AM.K
set_option linter.unusedVariables false
set_option linter.unusedSimpArgs false
variable {α : Type}
theorem cB {a b : Bool} {x y z : Option α} : cK a x (cK b x z) = cK (a || b) x z := by cases a <;> rfl
theorem ch_eq {x1 x2 x3 x4 x5 x6 x7 x8 x9 x10 x11 x12 x13 x14 x15 x16 x17 x18 x19 x20 : Int} (h1 : mxE x1 x2 x3 x4 x5 x6 x7 x8 x9 x10 = 0) (h2 : mxE x11 x12 x13 x14 x15 x16 x17 x18 x19 x20 = 0) :
    ∃ a b c d e f g h i n r, (∀ {k : Int → Int → Int → Int → Int → Int → Int → Int → Int → Int → Int → Option α}, f61_0 α x1 x2 x3 x4 x5 x6 x7 x8 x9 x10 x11 x12 x13 x14 x15 x16 x17 x18 x19 x20 k = k a b c d e f g h i n r) ∧
      ∀ {k : Int → Int → Int → Int → Int → Int → Int → Int → Int → Int → Int → Option α}, f63_0 α x1 x2 x3 x4 x5 x6 x7 x8 x9 x10 x11 x12 x13 x14 x15 x16 x17 x18 x19 x20 k = k a b c d e f g h i n r := by
  simp only [f61_0, f61_0g, f63_0, f63_0g, f58_eq, h1, h2, bne_self_eq_false, cK_false, f59_eq]
  obtain ⟨⟨d1, d2⟩, _⟩ := mxE_ok h1
  obtain ⟨⟨d3, d4⟩, _⟩ := mxE_ok h2
  have hm : 1 ≤ x10 * x20 ∧ x10 * x20 ≤ 1000000 := by
    have a1 : 1 * 1 ≤ x10 * x20 := Int.mul_le_mul d1 d3 (by omega) (by omega)
    have a2 : x10 * x20 ≤ 1000 * 1000 := Int.mul_le_mul d2 d4 (by omega) (by omega)
    omega
  have hd : w64 (x10 * x20) = x10 * x20 := w64_in (by omega) (by omega)
  rw [hd]
  generalize x10 * x20 = D at *
  generalize e1 : w64 ((w64 ((w64 (0 + (w64 (x1 * x11)))) + (w64 (x2 * x14)))) + (w64 (x3 * x17))) = n1
  generalize e2 : w64 ((w64 ((w64 (0 + (w64 (x1 * x12)))) + (w64 (x2 * x15)))) + (w64 (x3 * x18))) = n2
  generalize e3 : w64 ((w64 ((w64 (0 + (w64 (x1 * x13)))) + (w64 (x2 * x16)))) + (w64 (x3 * x19))) = n3
  generalize e4 : w64 ((w64 ((w64 (0 + (w64 (x4 * x11)))) + (w64 (x5 * x14)))) + (w64 (x6 * x17))) = n4
  generalize e5 : w64 ((w64 ((w64 (0 + (w64 (x4 * x12)))) + (w64 (x5 * x15)))) + (w64 (x6 * x18))) = n5
  generalize e6 : w64 ((w64 ((w64 (0 + (w64 (x4 * x13)))) + (w64 (x5 * x16)))) + (w64 (x6 * x19))) = n6
  generalize e7 : w64 ((w64 ((w64 (0 + (w64 (x7 * x11)))) + (w64 (x8 * x14)))) + (w64 (x9 * x17))) = n7
  generalize e8 : w64 ((w64 ((w64 (0 + (w64 (x7 * x12)))) + (w64 (x8 * x15)))) + (w64 (x9 * x18))) = n8
  generalize e9 : w64 ((w64 ((w64 (0 + (w64 (x7 * x13)))) + (w64 (x8 * x16)))) + (w64 (x9 * x19))) = n9
  have w1 : -9223372036854775808 ≤ n1 ∧ n1 ≤ 9223372036854775807 := e1 ▸ w64_bd _
  have w2 : -9223372036854775808 ≤ n2 ∧ n2 ≤ 9223372036854775807 := e2 ▸ w64_bd _
  have w3 : -9223372036854775808 ≤ n3 ∧ n3 ≤ 9223372036854775807 := e3 ▸ w64_bd _
  have w4 : -9223372036854775808 ≤ n4 ∧ n4 ≤ 9223372036854775807 := e4 ▸ w64_bd _
  have w5 : -9223372036854775808 ≤ n5 ∧ n5 ≤ 9223372036854775807 := e5 ▸ w64_bd _
  have w6 : -9223372036854775808 ≤ n6 ∧ n6 ≤ 9223372036854775807 := e6 ▸ w64_bd _
  have w7 : -9223372036854775808 ≤ n7 ∧ n7 ≤ 9223372036854775807 := e7 ▸ w64_bd _
  have w8 : -9223372036854775808 ≤ n8 ∧ n8 ≤ 9223372036854775807 := e8 ▸ w64_bd _
  have w9 : -9223372036854775808 ≤ n9 ∧ n9 ≤ 9223372036854775807 := e9 ▸ w64_bd _
  clear e1 e2 e3 e4 e5 e6 e7 e8 e9 hd h1 h2 d1 d2 d3 d4
  obtain ⟨y1, ⟨p1, q1⟩, _, a1, b1⟩ := dv (α := α) (x := D) (n := n1) (by omega) (by omega) w1
  obtain ⟨y2, ⟨p2, q2⟩, _, a2, b2⟩ := dv (α := α) (x := y1) (n := n2) (by omega) (by omega) w2
  obtain ⟨y3, ⟨p3, q3⟩, _, a3, b3⟩ := dv (α := α) (x := y2) (n := n3) (by omega) (by omega) w3
  obtain ⟨y4, ⟨p4, q4⟩, _, a4, b4⟩ := dv (α := α) (x := y3) (n := n4) (by omega) (by omega) w4
  obtain ⟨y5, ⟨p5, q5⟩, _, a5, b5⟩ := dv (α := α) (x := y4) (n := n5) (by omega) (by omega) w5
  obtain ⟨y6, ⟨p6, q6⟩, _, a6, b6⟩ := dv (α := α) (x := y5) (n := n6) (by omega) (by omega) w6
  obtain ⟨y7, ⟨p7, q7⟩, _, a7, b7⟩ := dv (α := α) (x := y6) (n := n7) (by omega) (by omega) w7
  obtain ⟨y8, ⟨p8, q8⟩, _, a8, b8⟩ := dv (α := α) (x := y7) (n := n8) (by omega) (by omega) w8
  obtain ⟨y9, ⟨p9, q9⟩, _, a9, b9⟩ := dv (α := α) (x := y8) (n := n9) (by omega) (by omega) w9
  simp only [a1, a2, a3, a4, a5, a6, a7, a8, a9, b1, b2, b3, b4, b5, b6, b7, b8, b9, bne_iff_ne.2 (show y9 ≠ 0 by omega), gK_true]
  have hD : w64 (Int.tdiv D y9) = D / y9 := by
    have h1 : D / y9 ≤ D := Int.ediv_le_self _ (by omega)
    have h2 : 0 ≤ D / y9 := Int.ediv_nonneg (by omega) (by omega)
    rw [Int.tdiv_eq_ediv_of_nonneg (by omega), w64_in (by omega) (by omega)]
  have hD1 : 1 ≤ D / y9 := by rw [Int.le_ediv_iff_mul_le p9]; omega
  rw [hD]
  generalize w64 (Int.tdiv n1 y9) = m1
  generalize w64 (Int.tdiv n2 y9) = m2
  generalize w64 (Int.tdiv n3 y9) = m3
  generalize w64 (Int.tdiv n4 y9) = m4
  generalize w64 (Int.tdiv n5 y9) = m5
  generalize w64 (Int.tdiv n6 y9) = m6
  generalize w64 (Int.tdiv n7 y9) = m7
  generalize w64 (Int.tdiv n8 y9) = m8
  generalize w64 (Int.tdiv n9 y9) = m9
  have h9 : ∀ kk : Bool → Option α, f111_1 α [[DC.v (.int .i64 m1)], [DC.v (.int .i64 m2)], [DC.v (.int .i64 m3)], [DC.v (.int .i64 m4)], [DC.v (.int .i64 m5)], [DC.v (.int .i64 m6)], [DC.v (.int .i64 m7)], [DC.v (.int .i64 m8)], [DC.v (.int .i64 m9)]] kk = kk (bad9 m1 m2 m3 m4 m5 m6 m7 m8 m9) := fun kk => (f111_eq (l := [m1, m2, m3, m4, m5, m6, m7, m8, m9]) (by simp) (k := kk)).2
  simp only [h9, cK_dec]
  by_cases hb : 1000 < D / y9
  · have e : mxE m1 m2 m3 m4 m5 m6 m7 m8 m9 (D / y9) = 2 := by unfold mxE; rw [if_neg (by omega)]
    simp only [if_pos hb, e]
    exact ⟨_, _, _, _, _, _, _, _, _, _, _, fun {k} => rfl, fun {k} => rfl⟩
  · simp only [if_neg hb]
    cases hc : bad9 m1 m2 m3 m4 m5 m6 m7 m8 m9
    · have e : mxE m1 m2 m3 m4 m5 m6 m7 m8 m9 (D / y9) = 0 := by unfold mxE; rw [if_pos (by omega), hc]; rfl
      simp only [e]
      exact ⟨_, _, _, _, _, _, _, _, _, _, _, fun {k} => rfl, fun {k} => rfl⟩
    · have e : mxE m1 m2 m3 m4 m5 m6 m7 m8 m9 (D / y9) = 2 := by unfold mxE; rw [if_pos (by omega), hc]; rfl
      simp only [e]
      exact ⟨_, _, _, _, _, _, _, _, _, _, _, fun {k} => rfl, fun {k} => rfl⟩
theorem ch_e1 {x1 x2 x3 x4 x5 x6 x7 x8 x9 x10 x11 x12 x13 x14 x15 x16 x17 x18 x19 x20 : Int} (h1 : mxE x1 x2 x3 x4 x5 x6 x7 x8 x9 x10 ≠ 0) {k : Int → Int → Int → Int → Int → Int → Int → Int → Int → Int → Int → Option α} :
    f61_0 α x1 x2 x3 x4 x5 x6 x7 x8 x9 x10 x11 x12 x13 x14 x15 x16 x17 x18 x19 x20 k = k 0 0 0 0 0 0 0 0 0 0 (mxE x1 x2 x3 x4 x5 x6 x7 x8 x9 x10) := by
  simp only [f61_0, f61_0g, f58_eq, bne_iff_ne.2 h1, cK_true]
theorem ch_e2 {x1 x2 x3 x4 x5 x6 x7 x8 x9 x10 x11 x12 x13 x14 x15 x16 x17 x18 x19 x20 : Int} (h1 : mxE x1 x2 x3 x4 x5 x6 x7 x8 x9 x10 = 0) (h2 : mxE x11 x12 x13 x14 x15 x16 x17 x18 x19 x20 ≠ 0) {k : Int → Int → Int → Int → Int → Int → Int → Int → Int → Int → Int → Option α} :
    f61_0 α x1 x2 x3 x4 x5 x6 x7 x8 x9 x10 x11 x12 x13 x14 x15 x16 x17 x18 x19 x20 k = k 0 0 0 0 0 0 0 0 0 0 (mxE x11 x12 x13 x14 x15 x16 x17 x18 x19 x20) := by
  simp only [f61_0, f61_0g, f58_eq, h1, bne_self_eq_false, cK_false, bne_iff_ne.2 h2, cK_true]
theorem law14 {x1 x2 x3 x4 x5 x6 x7 x8 x9 x10 x11 x12 x13 x14 x15 x16 x17 x18 x19 x20 p q r a b c d e f : Int} {k : Bool → Option α} : f14_0 α x1 x2 x3 x4 x5 x6 x7 x8 x9 x10 x11 x12 x13 x14 x15 x16 x17 x18 x19 x20 p q r a b c d e f k = k true := by
  have rest : ∀ {kk : Bool → Option α}, f62_0 α p q r (fun x45 x46 x47 x48 x49 x50 x51 => f30_0 α p q r fun x185 => cK (x185 != 0)
      (cK (x51 == x185) (kk (((x45 == 0) && ((0 == 0) && ((0 == 0) && ((0 == 0) && ((x46 == 0) && ((x47 == 0) && ((0 == 0) && ((x48 == 0) && ((x49 == 0) && true))))))))) && ((x50 == 0) && true))) (kk false))
      (cK (x51 == 0) (f64_0 α p q r fun x186 x187 x188 x189 x190 x191 => kk (((x45 == x186) && ((0 == 0) && ((0 == 0) && ((0 == 0) && ((x46 == x187) && ((x47 == x188) && ((0 == 0) && ((x48 == x189) && ((x49 == x190) && true))))))))) && ((x50 == x191) && true))) (kk false))) = kk true := by
    intro kk
    simp only [f62_0, f62_0g, f30_0, f30_0g, f64_0, f64_0g, f84_eq, f92_eq]
    by_cases ht : tnE p q r = 0
    · simp [ht]
    · simp [bne_iff_ne.2 ht]
  simp only [f14_0, f14_0g, f15_0, f58_eq, f59_eq, bne_self_eq_false, cK_false, f60_eq, f24_eq, J14_0_0, J14_0_0g, J14_0_1, J14_0_1g]
  by_cases h1 : mxE x1 x2 x3 x4 x5 x6 x7 x8 x9 x10 = 0
  · simp only [h1, beq_self_eq_true, cK_true]
    by_cases h2 : mxE x11 x12 x13 x14 x15 x16 x17 x18 x19 x20 = 0
    · obtain ⟨A, B, C, D, E, F, G, H, I, N, R, g1, g2⟩ := ch_eq (α := α) h1 h2
      simp only [h2, beq_self_eq_true, cK_true, g1, g2, bne_self_eq_false, cK_false, Bool.and_self, Bool.not_true]
      exact rest
    · simp only [ch_e2 h1 h2, beq_eq_false_iff_ne.2 h2, cK_false, bne_self_eq_false, beq_self_eq_true, Bool.and_self, Bool.not_true]
      exact rest
  · simp only [beq_eq_false_iff_ne.2 h1, cK_false, ch_e1 h1, bne_self_eq_false, beq_self_eq_true, Bool.and_self, Bool.not_true]
    exact rest
end Go.AM.K
