/- Sums of light, seen and corrected. -/
import Derived.Test.YtnhkllkecbmchaaGreatDoorU5
namespace Go.AM.K
set_option linter.unusedVariables false
set_option linter.unusedSimpArgs false
variable {α : Type}
theorem cor_in {n1 n2 n3 n4 n5 n6 n7 n8 n9 n a0 a1 b0 b1 c0 c1 y1 y2 y3 y4 y5 y6 : Int} (h : mxE n1 n2 n3 n4 n5 n6 n7 n8 n9 n = 0) (hr : Rg a0 a1 b0 b1 c0 c1)
    (e1 : rl n1 n2 n3 a0 a1 b0 b1 c0 c1 / n = y1) (e2 : cdv (rh n1 n2 n3 a0 a1 b0 b1 c0 c1) n = y2) (e3 : rl n4 n5 n6 a0 a1 b0 b1 c0 c1 / n = y3) (e4 : cdv (rh n4 n5 n6 a0 a1 b0 b1 c0 c1) n = y4) (e5 : rl n7 n8 n9 a0 a1 b0 b1 c0 c1 / n = y5) (e6 : cdv (rh n7 n8 n9 a0 a1 b0 b1 c0 c1) n = y6) :
    (∃ E : Int, E ≠ 0 /\ ∀ k : Int -> Int -> Int -> Int -> Int -> Int -> Int -> Option α, corK n1 n2 n3 n4 n5 n6 n7 n8 n9 n y1 y2 y3 y4 y5 y6 k = k 0 0 0 0 0 0 E) \/
    ∃ z1 z2 z3 z4 z5 z6 : Int, (∀ k : Int -> Int -> Int -> Int -> Int -> Int -> Int -> Option α, corK n1 n2 n3 n4 n5 n6 n7 n8 n9 n y1 y2 y3 y4 y5 y6 k = k z1 z2 z3 z4 z5 z6 0) /\ (z1 <= a0 /\ a1 <= z2 /\ z3 <= b0 /\ b1 <= z4 /\ z5 <= c0 /\ c1 <= z6) /\ Rg z1 z2 z3 z4 z5 z6 := by
  have hn := (mxE_ok h).1
  have nb := Nb.of h
  have hD := (dt_eq nb).1
  rw [(mn_eq nb.n5 nb.n9 nb.n6 nb.n8).1, (mn_eq nb.n6 nb.n7 nb.n4 nb.n9).1, (mn_eq nb.n4 nb.n8 nb.n5 nb.n7).1] at hD
  unfold corK
  rw [(mn_eq nb.n5 nb.n9 nb.n6 nb.n8).1, (mn_eq nb.n6 nb.n7 nb.n4 nb.n9).1, (mn_eq nb.n4 nb.n8 nb.n5 nb.n7).1, (mn_eq nb.n8 nb.n3 nb.n9 nb.n2).1, (mn_eq nb.n2 nb.n6 nb.n3 nb.n5).1, (mn_eq nb.n9 nb.n1 nb.n7 nb.n3).1, (mn_eq nb.n3 nb.n4 nb.n1 nb.n6).1, (mn_eq nb.n7 nb.n2 nb.n8 nb.n1).1, (mn_eq nb.n1 nb.n5 nb.n2 nb.n4).1]
  generalize hDD : dt n1 n2 n3 n4 n5 n6 n7 n8 n9 = D at *
  by_cases h0 : D = 0
  · exact .inl ⟨28, by decide, fun k => by rw [if_pos h0]⟩
  simp only [if_neg h0]
  have sl : ∀ x y z P Q R t : Int, x * P + y * Q + z * R = D * t -> sg D x * P + sg D y * Q + sg D z * R = sg D D * t := by
    intro x y z P Q R t he
    unfold sg
    by_cases hh : D < 0
    · rw [if_pos hh, if_pos hh, if_pos hh, if_pos hh, Int.neg_mul, Int.neg_mul, Int.neg_mul, Int.neg_mul]; omega
    · rw [if_neg hh, if_neg hh, if_neg hh, if_neg hh]; exact he
  have hs : 0 < sg D D := by unfold sg; split <;> omega
  have ia : ∀ p q r : Int, _ := fun p q r => adj_id (p := p) (q := q) (r := r) hD
  have pa : a0 <= a0 /\ a0 <= a1 := ⟨by omega, hr.a⟩
  have pa' : a0 <= a1 /\ a1 <= a1 := ⟨hr.a, by omega⟩
  have pb : b0 <= b0 /\ b0 <= b1 := ⟨by omega, hr.b⟩
  have pb' : b0 <= b1 /\ b1 <= b1 := ⟨hr.b, by omega⟩
  have pc : c0 <= c0 /\ c0 <= c1 := ⟨by omega, hr.c⟩
  have pc' : c0 <= c1 /\ c1 <= c1 := ⟨hr.c, by omega⟩
  have g1 := (back_at (by omega : 0 < n) hs pa pb pc (sl _ _ _ _ _ _ _ (ia a0 b0 c0).1)).1
  have g2 := (back_at (by omega : 0 < n) hs pa' pb pc (sl _ _ _ _ _ _ _ (ia a1 b0 c0).1)).2
  have g3 := (back_at (by omega : 0 < n) hs pa pb pc (sl _ _ _ _ _ _ _ (ia a0 b0 c0).2.1)).1
  have g4 := (back_at (by omega : 0 < n) hs pa pb' pc (sl _ _ _ _ _ _ _ (ia a0 b1 c0).2.1)).2
  have g5 := (back_at (by omega : 0 < n) hs pa pb pc (sl _ _ _ _ _ _ _ (ia a0 b0 c0).2.2)).1
  have g6 := (back_at (by omega : 0 < n) hs pa pb pc' (sl _ _ _ _ _ _ _ (ia a0 b0 c1).2.2)).2
  rw [e1, e2, e3, e4, e5, e6] at g1 g2 g3 g4 g5 g6
  rcases mapK_split (α := α) (sg D (n5 * n9 - n6 * n8)) (sg D (n8 * n3 - n9 * n2)) (sg D (n2 * n6 - n3 * n5)) (sg D (n6 * n7 - n4 * n9)) (sg D (n9 * n1 - n7 * n3)) (sg D (n3 * n4 - n1 * n6)) (sg D (n4 * n8 - n5 * n7)) (sg D (n7 * n2 - n8 * n1)) (sg D (n1 * n5 - n2 * n4)) y1 y2 y3 y4 y5 y6 n (sg D D) with hk | ⟨⟨o1, o2, o3, o4, o5, o6⟩, hk⟩
  · exact .inl ⟨8, by decide, fun k => hk⟩
  · have ha := hr.a; have hb := hr.b; have hc := hr.c
    exact .inr ⟨_, _, _, _, _, _, fun k => hk, ⟨g1, g2, g3, g4, g5, g6⟩, ⟨okS_bd o1, okS_bd o2, okS_bd o3, okS_bd o4, okS_bd o5, okS_bd o6, by omega, by omega, by omega⟩⟩
theorem seecor {n1 n2 n3 n4 n5 n6 n7 n8 n9 n a0 a1 b0 b1 c0 c1 : Int} (hr : Rg a0 a1 b0 b1 c0 c1) :
    (∃ y1 y2 y3 y4 y5 y6 E : Int, E ≠ 0 /\ ∀ k : Int -> Int -> Int -> Int -> Int -> Int -> Int -> Option α, f122_0 α n1 n2 n3 n4 n5 n6 n7 n8 n9 n a0 a1 b0 b1 c0 c1 k = k y1 y2 y3 y4 y5 y6 E) \/
    ∃ y1 y2 y3 y4 y5 y6 : Int, (∀ k : Int -> Int -> Int -> Int -> Int -> Int -> Int -> Option α, f122_0 α n1 n2 n3 n4 n5 n6 n7 n8 n9 n a0 a1 b0 b1 c0 c1 k = k y1 y2 y3 y4 y5 y6 0) /\
      ((∃ E : Int, E ≠ 0 /\ ∀ k : Int -> Int -> Int -> Int -> Int -> Int -> Int -> Option α, f123_0 α n1 n2 n3 n4 n5 n6 n7 n8 n9 n y1 y2 y3 y4 y5 y6 k = k 0 0 0 0 0 0 E) \/
       ∃ z1 z2 z3 z4 z5 z6 : Int, (∀ k : Int -> Int -> Int -> Int -> Int -> Int -> Int -> Option α, f123_0 α n1 n2 n3 n4 n5 n6 n7 n8 n9 n y1 y2 y3 y4 y5 y6 k = k z1 z2 z3 z4 z5 z6 0) /\ (z1 <= a0 /\ a1 <= z2 /\ z3 <= b0 /\ b1 <= z4 /\ z5 <= c0 /\ c1 <= z6) /\ Rg z1 z2 z3 z4 z5 z6) := by
  have hs := smE_zero hr
  by_cases h : mxE n1 n2 n3 n4 n5 n6 n7 n8 n9 n ≠ 0
  · exact .inl ⟨0, 0, 0, 0, 0, 0, _, h, fun k => by simp only [f122_0, f122_0g, f217_eq, h, ne_eq, not_false_eq_true, if_true, bne_iff_ne.2 h, cK_true]⟩
  replace h := Decidable.of_not_not h
  have hn := (mxE_ok h).1
  rcases mapK_split (α := α) n1 n2 n3 n4 n5 n6 n7 n8 n9 a0 a1 b0 b1 c0 c1 1 n with hk | ⟨⟨o1, o2, o3, o4, o5, o6⟩, hk⟩
  · exact .inl ⟨0, 0, 0, 0, 0, 0, 8, by decide, fun k => by rw [f122_ok h hs, hk]⟩
  simp only [Int.mul_one] at *
  have le1 := fl_cdv (n := n1) (m := n2) (l := n3) (d := n) (by omega) hr
  have le2 := fl_cdv (n := n4) (m := n5) (l := n6) (d := n) (by omega) hr
  have le3 := fl_cdv (n := n7) (m := n8) (l := n9) (d := n) (by omega) hr
  have ry : Rg (rl n1 n2 n3 a0 a1 b0 b1 c0 c1 / n) (cdv (rh n1 n2 n3 a0 a1 b0 b1 c0 c1) n) (rl n4 n5 n6 a0 a1 b0 b1 c0 c1 / n) (cdv (rh n4 n5 n6 a0 a1 b0 b1 c0 c1) n) (rl n7 n8 n9 a0 a1 b0 b1 c0 c1 / n) (cdv (rh n7 n8 n9 a0 a1 b0 b1 c0 c1) n) := ⟨okS_bd o1, okS_bd o2, okS_bd o3, okS_bd o4, okS_bd o5, okS_bd o6, le1, le2, le3⟩
  have hy := smE_zero ry
  refine .inr ⟨_, _, _, _, _, _, fun k => by rw [f122_ok h hs, hk], ?_⟩
  rcases cor_in (α := α) h hr rfl rfl rfl rfl rfl rfl with ⟨E, hE, hc⟩ | ⟨z1, z2, z3, z4, z5, z6, hc, hz⟩
  · exact .inl ⟨E, hE, fun k => by rw [f123_ok h hy, hc]⟩
  · exact .inr ⟨z1, z2, z3, z4, z5, z6, fun k => by rw [f123_ok h hy, hc], hz⟩
end Go.AM.K
