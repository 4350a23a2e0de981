/- Light as an instrument reads it: quantised, summed up, seen and corrected. -/
import Derived.Test.YtnhkllkecbmchaaGreatDoorU4
import Derived.Test.YtnhkllkecbmchaaGreatDoorV1
import Derived.Test.YtnhkllkecbmchaaGreatDoorTM2
namespace Go.AM.K
set_option linter.unusedVariables false
set_option linter.unusedSimpArgs false
variable {α : Type}
theorem quant4 {n0 n1 n2 n3 s : Int} (h0 : 0 <= n0 /\ n0 <= 60000) (h1 : 0 <= n1 /\ n1 <= 60000) (h2 : 0 <= n2 /\ n2 <= 60000) (h3 : 0 <= n3 /\ n3 <= 60000) (hs : 1 <= s /\ s <= 20) {k : Rows -> Int -> Option α} :
    f120_0 α [[DC.v (.int .i64 n0)], [DC.v (.int .i64 n1)], [DC.v (.int .i64 n2)], [DC.v (.int .i64 n3)]] s k = k [qR s n0, qR s n1, qR s n2, qR s n3] 0 := by
  have b0 := qn_bd (s := s) (x := n0) ⟨hs.1, by omega⟩ ⟨h0.1, by omega⟩
  have b1 := qn_bd (s := s) (x := n1) ⟨hs.1, by omega⟩ ⟨h1.1, by omega⟩
  have b2 := qn_bd (s := s) (x := n2) ⟨hs.1, by omega⟩ ⟨h2.1, by omega⟩
  have b3 := qn_bd (s := s) (x := n3) ⟨hs.1, by omega⟩ ⟨h3.1, by omega⟩
  have hq : qzE s [n0, n1, n2, n3] = none := by
    simp only [qzE]
    rw [if_pos ⟨h0.1, by omega⟩, if_neg (by omega), if_pos ⟨h1.1, by omega⟩, if_neg (by omega), if_pos ⟨h2.1, by omega⟩, if_neg (by omega), if_pos ⟨h3.1, by omega⟩, if_neg (by omega)]
  have hf := fuel_ge
  have key : ∀ (k1 : Int -> Option α) (k2 : Int -> Bool -> Rows -> Option α), L120_0_0 α s [[DC.v (.int .i64 n0)], [DC.v (.int .i64 n1)], [DC.v (.int .i64 n2)], [DC.v (.int .i64 n3)]] 4 k1 k2 0 ([] : Rows) = k2 4 false [qR s n0, qR s n1, qR s n2, qR s n3] := fun k1 k2 => by
    have h := R120_eq (α := α) (s := s) ⟨hs.1, by omega⟩ (l := [n0, n1, n2, n3]) (by simp) (k1 := k1) (k2 := k2) 4 0 fuel rfl (by omega)
    rw [List.drop_zero, hq] at h
    exact h
  have e4 : ((List.length [[DC.v (.int .i64 n0)], [DC.v (.int .i64 n1)], [DC.v (.int .i64 n2)], [DC.v (.int .i64 n3)]] : Nat) : Int) = 4 := rfl
  simp only [f120_0, f120_0g, f215_eq, e4]
  rw [decide_eq_false (by decide), cK_false, decide_eq_true (show 1 <= s /\ s <= 1000 by omega), Bool.not_true, cK_false, key]
theorem near {t e s q m : Int} (he : 0 <= e /\ e <= 4) (hs : 1 <= s /\ s <= 20) (hm : m = 2 + cdv s 2) (h1 : 2 * q <= 2 * (20 * t + e - 2) + s) (h2 : 2 * (20 * t + e - 2) - s < 2 * q) : 20 * t - m <= q /\ q <= 20 * t + m := by
  unfold cdv at hm
  omega
theorem f47_in {s0 a b st n1 n2 n3 n4 n5 n6 n7 n8 n9 n v0 v1 v2 v3 : Int} (h0 : 0 <= s0 /\ s0 <= 100) (ha : -s0 <= a /\ a <= s0) (hb : -s0 <= b /\ b <= s0) (hst : 1 <= st /\ st <= 20) :
    (∀ k : Int -> Int -> Int -> Int -> Int -> Int -> Bool -> Option α, f47_0 α s0 a b n1 n2 n3 n4 n5 n6 n7 n8 n9 n st v0 v1 v2 v3 k = k 0 0 0 0 0 0 false) \/
    ∃ z1 z2 z3 z4 z5 z6 : Int, (∀ k : Int -> Int -> Int -> Int -> Int -> Int -> Bool -> Option α, f47_0 α s0 a b n1 n2 n3 n4 n5 n6 n7 n8 n9 n st v0 v1 v2 v3 k = k z1 z2 z3 z4 z5 z6 true) /\
      (z1 <= 80 * s0 /\ 80 * s0 <= z2) /\ (z3 <= 40 * a /\ 40 * a <= z4) /\ (z5 <= 40 * b /\ 40 * b <= z6) /\ Rg z1 z2 z3 z4 z5 z6 := by
  have d0 := Int.emod_nonneg v0 (show (5 : Int) ≠ 0 by decide); have c0 := Int.emod_lt_of_pos v0 (show (0 : Int) < 5 by decide)
  have d1 := Int.emod_nonneg v1 (show (5 : Int) ≠ 0 by decide); have c1 := Int.emod_lt_of_pos v1 (show (0 : Int) < 5 by decide)
  have d2 := Int.emod_nonneg v2 (show (5 : Int) ≠ 0 by decide); have c2 := Int.emod_lt_of_pos v2 (show (0 : Int) < 5 by decide)
  have d3 := Int.emod_nonneg v3 (show (5 : Int) ≠ 0 by decide); have c3 := Int.emod_lt_of_pos v3 (show (0 : Int) < 5 by decide)
  have hw : ∀ t e : Int, -1000 <= t -> t <= 1000 -> 0 <= e -> e < 5 -> w64 (w64 (w64 (20 * w64 t) + e) - 2) = 20 * t + e - 2 := fun t e t1 t2 e1 e2 => by
    rw [w64_in (n := t) (by omega) (by omega), w64_in (n := 20 * t) (by omega) (by omega), w64_in (n := 20 * t + e) (by omega) (by omega), w64_in (by omega) (by omega)]
  simp only [f47_0, f47_0g, f119_pos (show (0 : Int) < 5 by decide) (show (5 : Int) <= 1000000 by decide), f44_eq]
  generalize v0 % 5 = e0 at *
  generalize v1 % 5 = e1 at *
  generalize v2 % 5 = e2 at *
  generalize v3 % 5 = e3 at *
  rw [hw (s0 + a) e0 (by omega) (by omega) d0 c0, hw (s0 + b) e1 (by omega) (by omega) d1 c1, hw (s0 - a) e2 (by omega) (by omega) d2 c2, hw (s0 - b) e3 (by omega) (by omega) d3 c3]
  by_cases q0 : 0 <= 20 * (s0 + a) + e0 - 2 /\ 20 * (s0 + a) + e0 - 2 <= 60000
  case neg => exact .inl fun k => by rw [decide_eq_false q0, Bool.not_false, cK_true]
  by_cases q1 : 0 <= 20 * (s0 + b) + e1 - 2 /\ 20 * (s0 + b) + e1 - 2 <= 60000
  case neg => exact .inl fun k => by rw [decide_eq_true q0, Bool.not_true, cK_false, decide_eq_false q1, Bool.not_false, cK_true]
  by_cases q2 : 0 <= 20 * (s0 - a) + e2 - 2 /\ 20 * (s0 - a) + e2 - 2 <= 60000
  case neg => exact .inl fun k => by rw [decide_eq_true q0, decide_eq_true q1, Bool.not_true, cK_false, cK_false, decide_eq_false q2, Bool.not_false, cK_true]
  by_cases q3 : 0 <= 20 * (s0 - b) + e3 - 2 /\ 20 * (s0 - b) + e3 - 2 <= 60000
  case neg => exact .inl fun k => by rw [decide_eq_true q0, decide_eq_true q1, decide_eq_true q2, Bool.not_true, cK_false, cK_false, cK_false, decide_eq_false q3, Bool.not_false, cK_true]
  simp only [decide_eq_true q0, decide_eq_true q1, decide_eq_true q2, decide_eq_true q3, Bool.not_true, cK_false, quant4 q0 q1 q2 q3 hst, bne_self_eq_false, f121_eq (show (0 : Int) < 2 by decide) (by decide) (show -9223372036854775807 <= st by omega) (by omega)]
  have b0 := qn_bd (s := st) ⟨hst.1, by omega⟩ ⟨q0.1, by omega⟩
  have b1 := qn_bd (s := st) ⟨hst.1, by omega⟩ ⟨q1.1, by omega⟩
  have b2 := qn_bd (s := st) ⟨hst.1, by omega⟩ ⟨q2.1, by omega⟩
  have b3 := qn_bd (s := st) ⟨hst.1, by omega⟩ ⟨q3.1, by omega⟩
  have hc : 1 <= cdv st 2 /\ cdv st 2 <= 10 := by unfold cdv; omega
  obtain ⟨m, hm⟩ : ∃ m, m = 2 + cdv st 2 := ⟨_, rfl⟩
  have p0 := near (t := s0 + a) (e := e0) ⟨d0, by omega⟩ hst hm b0.2.1 b0.2.2.1
  have p1 := near (t := s0 + b) (e := e1) ⟨d1, by omega⟩ hst hm b1.2.1 b1.2.2.1
  have p2 := near (t := s0 - a) (e := e2) ⟨d2, by omega⟩ hst hm b2.2.1 b2.2.2.1
  have p3 := near (t := s0 - b) (e := e3) ⟨d3, by omega⟩ hst hm b3.2.1 b3.2.2.1
  rw [w64_in (n := 2 + cdv st 2) (by omega) (by omega), <- hm]
  have fl : ∀ (x : Option α), flatK [[qR st (20 * (s0 + a) + e0 - 2), qR st (20 * (s0 + b) + e1 - 2), qR st (20 * (s0 - a) + e2 - 2), qR st (20 * (s0 - b) + e3 - 2)]] x = x := fun x => rfl
  simp only [fl, qR]
  have tr := @true21 α (qn st (20 * (s0 + a) + e0 - 2)) (qn st (20 * (s0 + b) + e1 - 2)) (qn st (20 * (s0 - a) + e2 - 2)) (qn st (20 * (s0 - b) + e3 - 2)) m ⟨b0.1, by omega⟩ ⟨b1.1, by omega⟩ ⟨b2.1, by omega⟩ ⟨b3.1, by omega⟩ ⟨by omega, by omega⟩
  generalize qn st (20 * (s0 + a) + e0 - 2) = y0 at *
  generalize qn st (20 * (s0 + b) + e1 - 2) = y1 at *
  generalize qn st (20 * (s0 - a) + e2 - 2) = y2 at *
  generalize qn st (20 * (s0 - b) + e3 - 2) = y3 at *
  simp only [rF, N32, tr, bne_self_eq_false, cK_false]
  have hr : Rg (y0 + y1 + y2 + y3 - 4 * m) (y0 + y1 + y2 + y3 + 4 * m) (y0 - y2 - 2 * m) (y0 - y2 + 2 * m) (y1 - y3 - 2 * m) (y1 - y3 + 2 * m) := ⟨by omega, by omega, by omega, by omega, by omega, by omega, by omega, by omega, by omega⟩
  rcases seecor (α := α) (n1 := n1) (n2 := n2) (n3 := n3) (n4 := n4) (n5 := n5) (n6 := n6) (n7 := n7) (n8 := n8) (n9 := n9) (n := n) hr with ⟨x1, x2, x3, x4, x5, x6, E, hE, h1⟩ | ⟨x1, x2, x3, x4, x5, x6, h1, h2⟩
  · exact .inl fun k => by rw [h1, bne_iff_ne.2 hE, cK_true]
  · rcases h2 with ⟨E, hE, h2⟩ | ⟨z1, z2, z3, z4, z5, z6, h2, h3, h4⟩
    · exact .inl fun k => by rw [h1, bne_self_eq_false, cK_false, h2, bne_iff_ne.2 hE, cK_true]
    · exact .inr ⟨z1, z2, z3, z4, z5, z6, fun k => by rw [h1, bne_self_eq_false, cK_false, h2, bne_self_eq_false, cK_false], by omega, by omega, by omega, h4⟩
theorem f47_1_eq {s0 a b st n1 n2 n3 n4 n5 n6 n7 n8 n9 n v0 v1 v2 v3 : Int} {k : Int -> Int -> Int -> Int -> Int -> Int -> Bool -> Option α} : f47_1 α s0 a b n1 n2 n3 n4 n5 n6 n7 n8 n9 n st v0 v1 v2 v3 k = f47_0 α s0 a b n1 n2 n3 n4 n5 n6 n7 n8 n9 n st v0 v1 v2 v3 k := rfl
theorem f43_eq {k : Bool -> Option α} : f43_0 α k = k true := by
  have e : ∀ kk : Int -> Int -> Int -> Int -> Int -> Int -> Int -> Option α, f70_0 α [[DC.v (.float .f32 1106247680)], [DC.v (.float .f32 1101004800)], [DC.v (.float .f32 1092616192)], [DC.v (.float .f32 1101004800)]] 1 65536 kk = kk 76 84 18 22 (-2) 2 0 := fun kk =>
    true21 (n0 := 30) (n1 := 20) (n2 := 10) (n3 := 20) (m := 1) (by decide) (by decide) (by decide) (by decide) (by decide)
  simp only [f43_0, f43_0g, e]
  rfl
end Go.AM.K
