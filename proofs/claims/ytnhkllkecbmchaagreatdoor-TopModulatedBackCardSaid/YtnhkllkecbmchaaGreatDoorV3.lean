/- The wave's Stokes vector, the reading of its light, and its degree. -/
import Derived.Test.YtnhkllkecbmchaaGreatDoorV2
namespace Go.AM.K
set_option linter.unusedVariables false
set_option linter.unusedSimpArgs false
variable {α : Type}
theorem reading {F N C S a0 a1 c0 c1 s0 s1 a0' a1' c0' c1' s0' s1' : Int} (hF : 1 <= F /\ F <= 100) (hN : -F <= N /\ N <= F) (hC : -F <= C /\ C <= F) (hS : -F <= S /\ S <= F)
    (l1 : LightOk F (-N) C a0 a1 c0 c1 s0 s1) (l2 : LightOk F (-N) S a0' a1' c0' c1' s0' s1') (ha : 0 < a0) (ha' : 0 < a0') :
    ∃ N0 N1 C0 C1 S0 S1 : Int, (∀ k : ByteArray -> Int -> Int -> Int -> Int -> Int -> Int -> Int -> Int -> Int -> Int -> Option α, f48_0 α (⟨#[119, 97, 118, 101]⟩ : ByteArray) 6328 10000 0 a0 a1 c0 c1 s0 s1 a0' a1' c0' c1' s0' s1' 0 1 1 k = k (⟨#[119, 97, 118, 101]⟩ : ByteArray) 6328 10000 0 N0 N1 C0 C1 S0 S1 0) /\
      (-1048576 <= N0 /\ N0 <= N1 /\ N1 <= 1048576) /\ (-1048576 <= C0 /\ C0 <= C1 /\ C1 <= 1048576) /\ (-1048576 <= S0 /\ S0 <= S1 /\ S1 <= 1048576) /\
      (N0 * F <= N * 1048576 /\ N * 1048576 <= N1 * F) /\ (C0 * F <= C * 1048576 /\ C * 1048576 <= C1 * F) /\ S0 * F <= S * 1048576 /\ S * 1048576 <= S1 * F := by
  have ht : tnE 0 1 1 = 0 := by decide
  have hq : (1 : Int) ≠ 0 := by decide
  have eM : F = F * 1 - N * 0 := by omega
  have eN : -N = F * 0 - N * 1 := by omega
  have eC : C = C * 1 := by omega
  have eS : S = S * 1 := by omega
  rw [eM, eN, eC] at l1
  rw [eM, eN, eS] at l2
  obtain ⟨x1, x2, x3, x4, hk, ⟨hx1, hx2, hx3, hx4⟩, ⟨i1, i2⟩, i3, i4⟩ := l1.rat (α := α) ha
  obtain ⟨y1, y2, y3, y4, hk', ⟨hy1, hy2, hy3, hy4⟩, ⟨j1, j2⟩, j3, j4⟩ := l2.rat (α := α) ha'
  have hM0 : 0 < F * 1 - N * 0 := by omega
  have hF0 : 0 < F := by omega
  have t1 := nFl_le ht hq hF0 rfl rfl hx2 i2
  have t2 := nFl_le ht hq hF0 rfl rfl hy2 j2
  have t3 := le_nCe ht hq hF0 rfl rfl hx1 i1
  have t4 := le_nCe ht hq hF0 rfl rfl hy1 j1
  obtain ⟨N0, hN0⟩ : ∃ N0, N0 = mxZ (nFl 0 1 x2) (nFl 0 1 y2) := ⟨_, rfl⟩
  obtain ⟨N1, hN1⟩ : ∃ N1, N1 = mnZ (nCe 0 1 x1) (nCe 0 1 y1) := ⟨_, rfl⟩
  have k0 : N0 * F <= N * 1048576 := by rw [hN0]; exact mxZ_le (c := 0) t1 t2
  have k1 : N * 1048576 <= N1 * F := by rw [hN1]; exact le_mnZ t3 t4
  have e8 : N0 <= N1 := Int.le_of_mul_le_mul_right (a := F) (by omega) hF0
  have a1 := n_bd ht hq hx1; have a2 := n_bd ht hq hx2; have a3 := n_bd ht hq hy1; have a4 := n_bd ht hq hy2
  have d0 : -1048576 <= N0 /\ N0 <= 1048576 := by rw [hN0]; unfold mxZ; split <;> omega
  have d1 : -1048576 <= N1 /\ N1 <= 1048576 := by rw [hN1]; unfold mnZ; split <;> omega
  obtain ⟨o1, o2⟩ := oth_ok (C := C) ht hq hF0 hM0 rfl d0 d1 k0 k1 i3 i4
  obtain ⟨o3, o4⟩ := oth_ok (C := S) ht hq hF0 hM0 rfl d0 d1 k0 k1 j3 j4
  obtain ⟨z1, z2, z3⟩ := cut_ok hF0 hC o1 o2
  obtain ⟨w1, w2, w3⟩ := cut_ok hF0 hS o3 o4
  have q1 := cut_bd (oLo 0 1 1 x3 x4 N0 N1) (oHi 0 1 1 x3 x4 N0 N1)
  have q2 := cut_bd (oLo 0 1 1 y3 y4 N0 N1) (oHi 0 1 1 y3 y4 N0 N1)
  have o5 : cut1 (oLo 0 1 1 x3 x4 N0 N1) (oHi 0 1 1 x3 x4 N0 N1) <= cut2 (oLo 0 1 1 x3 x4 N0 N1) (oHi 0 1 1 x3 x4 N0 N1) := Int.le_of_mul_le_mul_right (a := F) (Int.le_trans z2 z3) hF0
  have o6 : cut1 (oLo 0 1 1 y3 y4 N0 N1) (oHi 0 1 1 y3 y4 N0 N1) <= cut2 (oLo 0 1 1 y3 y4 N0 N1) (oHi 0 1 1 y3 y4 N0 N1) := Int.le_of_mul_le_mul_right (a := F) (Int.le_trans w2 w3) hF0
  exact ⟨N0, N1, _, _, _, _, fun k => f48_val (by decide) (by decide) (smE_of l1.aL l1.cL l1.sL) (smE_of l2.aL l2.cL l2.sL) ht hq hk hk' hx1 hx2 hx3 hx4 hy1 hy2 hy3 hy4 hN0 hN1 e8 z1 w1,
    ⟨d0.1, e8, d1.2⟩, ⟨q1.1.1, o5, q1.2.2⟩, ⟨q2.1.1, o6, q2.2.2⟩, ⟨k0, k1⟩, ⟨z2, z3⟩, w2, w3⟩
theorem num5 {n : Int} (h : -5 <= n /\ n <= 5) : (∀ k : Bool -> Option α, f272_0 α (FloatKind.nearest .f64 n) k = k true) /\ (∀ k : Nat -> Option α, f273_0 α (FloatKind.nearest .f64 n) k = k (FloatKind.nearest .f64 n.natAbs)) /\
    ((FloatKind.format .f64).order (FloatKind.nearest .f64 n.natAbs) 4652007308841189376 == some Ordering.gt) = false /\ f2i .f64 (FloatKind.nearest .f64 n) .i64 = some n := by
  have : n = -5 \/ n = -4 \/ n = -3 \/ n = -2 \/ n = -1 \/ n = 0 \/ n = 1 \/ n = 2 \/ n = 3 \/ n = 4 \/ n = 5 := by omega
  rcases this with rfl | rfl | rfl | rfl | rfl | rfl | rfl | rfl | rfl | rfl | rfl <;> exact ⟨fun k => by kernel_rfl, fun k => by kernel_rfl, by kernel_rfl, by kernel_rfl⟩
theorem f115_num {a b c d : Int} (ha : -5 <= a /\ a <= 5) (hb : -5 <= b /\ b <= 5) (hc : -5 <= c /\ c <= 5) (hd : -5 <= d /\ d <= 5) {k : Int -> Option α} :
    f115_0 α (FloatKind.nearest .f64 a) (FloatKind.nearest .f64 b) (FloatKind.nearest .f64 c) (FloatKind.nearest .f64 d) k = k 0 := by
  obtain ⟨a1, a2, a3, _⟩ := num5 (α := α) ha
  obtain ⟨b1, b2, b3, _⟩ := num5 (α := α) hb
  obtain ⟨c1, c2, c3, _⟩ := num5 (α := α) hc
  obtain ⟨d1, d2, d3, _⟩ := num5 (α := α) hd
  obtain ⟨z, hz⟩ : ∃ z, fuel = z + 3 := ⟨fuel - 3, by have := fuel_ge; omega⟩
  have r0 : ∀ (x y z w : Nat) (f : Nat -> Nat -> Option α), rowK [[DC.v (.complex .f64 x y)], [DC.v (.complex .f64 z w)]] 0 [.cpx .f64] f = f x y := fun _ _ _ _ _ => rfl
  have r1 : ∀ (x y z w : Nat) (f : Nat -> Nat -> Option α), rowK [[DC.v (.complex .f64 x y)], [DC.v (.complex .f64 z w)]] 1 [.cpx .f64] f = f z w := fun _ _ _ _ _ => rfl
  have hl : ∀ (x y z w : Nat), ((List.length [[DC.v (.complex .f64 x y)], [DC.v (.complex .f64 z w)]] : Nat) : Int) = 2 := fun _ _ _ _ => rfl
  simp only [f115_0, f115_0g, f214_0, f214_0g, L214_0_1, hz, R214_0_1, S214_0_1, S214_0_1g, hl]
  rw [decide_eq_true (show (0 : Int) < 2 by decide), cK_true, r0]
  simp only [J214_0_0, J214_0_0g, a1, b1, a2, b2, a3, b3, Bool.not_true, cK_false]
  rw [show w64 (0 + 1) = 1 from rfl, decide_eq_true (show (1 : Int) < 2 by decide), cK_true, r1]
  simp only [c1, d1, c2, d2, c3, d3, Bool.not_true, cK_false]
  rw [show w64 (1 + 1) = 2 from rfl, decide_eq_false (show ¬ (2 : Int) < 2 by decide), cK_false]
theorem f45_eq {a b c d : Int} (ha : -5 <= a /\ a <= 5) (hb : -5 <= b /\ b <= 5) (hc : -5 <= c /\ c <= 5) (hd : -5 <= d /\ d <= 5) {k : Int -> Int -> Int -> Int -> Int -> Option α} :
    f45_0 α (FloatKind.nearest .f64 a) (FloatKind.nearest .f64 b) (FloatKind.nearest .f64 c) (FloatKind.nearest .f64 d) k =
      k (a * a + b * b + (c * c + d * d)) (a * a + b * b - (c * c + d * d)) (2 * (a * c + b * d)) (2 * (a * d - b * c)) 0 := by
  have n1 := (num5 (α := α) ha).2.2.2
  have n2 := (num5 (α := α) hb).2.2.2
  have n3 := (num5 (α := α) hc).2.2.2
  have n4 := (num5 (α := α) hd).2.2.2
  have m : ∀ x y : Int, -5 <= x /\ x <= 5 -> -5 <= y /\ y <= 5 -> -25 <= x * y /\ x * y <= 25 := fun x y h1 h2 => mul_bd2 (A := 5) (B := 5) h1 h2
  have w1 : ∀ x y : Int, -5 <= x /\ x <= 5 -> -5 <= y /\ y <= 5 -> w64 (x * y) = x * y := fun x y h1 h2 => by have := m x y h1 h2; exact w64_in (by omega) (by omega)
  have ng : ∀ x : Int, -5 <= x /\ x <= 5 -> w64 (0 - x) = -x := fun x h => by rw [w64_in (by omega) (by omega)]; omega
  have nb : -5 <= -b /\ -b <= 5 := by omega
  have nd : -5 <= -d /\ -d <= 5 := by omega
  have i1 : ∀ (x : Int) (f : Int -> Option α), ivK (some x) f = f x := fun _ _ => rfl
  simp only [f45_0, f45_0g, f115_num ha hb hc hd, bne_self_eq_false, cK_false, f116_0, f116_0g, n1, n2, n3, n4, i1, f117_0, f117_0g, f118_0, f118_0g, ng b hb, ng d hd, w1 a a ha ha, w1 b (-b) hb nb, w1 c c hc hc, w1 d (-d) hd nd, w1 a c ha hc, w1 b (-d) hb nd, w1 a (-d) ha nd, w1 b c hb hc]
  have p1 := m a a ha ha; have p2 := m b b hb hb; have p3 := m c c hc hc; have p4 := m d d hd hd
  have p5 := m a c ha hc; have p6 := m b d hb hd; have p7 := m a d ha hd; have p8 := m b c hb hc
  simp only [Int.mul_neg, Int.sub_neg]
  rw [w64_in (n := a * a + b * b) (by omega) (by omega), w64_in (n := c * c + d * d) (by omega) (by omega), w64_in (n := a * c + b * d) (by omega) (by omega), w64_in (n := -(a * d) + b * c) (by omega) (by omega)]
  rw [w64_in (n := a * a + b * b + (c * c + d * d)) (by omega) (by omega), w64_in (n := a * a + b * b - (c * c + d * d)) (by omega) (by omega), w64_in (n := 2 * (a * c + b * d)) (by omega) (by omega), w64_in (n := -2 * (-(a * d) + b * c)) (by omega) (by omega)]
  congr 1
  omega
theorem pure4 (a b c d : Int) : (-(a * a + b * b - (c * c + d * d))) * (-(a * a + b * b - (c * c + d * d))) + (2 * (a * c + b * d)) * (2 * (a * c + b * d)) + (2 * (a * d - b * c)) * (2 * (a * d - b * c)) = (a * a + b * b + (c * c + d * d)) * (a * a + b * b + (c * c + d * d)) := by grind
theorem sq_nn (x : Int) : 0 <= x * x := by
  rcases Int.le_total 0 x with h | h
  · exact Int.mul_nonneg h h
  · exact Int.mul_nonneg_of_nonpos_of_nonpos h h
theorem part_le {F N C S : Int} (hF : 0 <= F) (h : N * N + C * C + S * S = F * F) : -F <= N /\ N <= F := by
  have h1 := sq_nn C; have h2 := sq_nn S
  have h3 : N * N <= F * F := by omega
  refine ⟨?_, ?_⟩
  · apply Classical.byContradiction
    intro hh
    have : (F + 1) * (F + 1) <= (-N) * (-N) := Int.mul_le_mul (by omega) (by omega) (by omega) (by omega)
    rw [Int.neg_mul_neg] at this
    have e : (F + 1) * (F + 1) = F * F + 2 * F + 1 := by grind
    omega
  · apply Classical.byContradiction
    intro hh
    have : (F + 1) * (F + 1) <= N * N := Int.mul_le_mul (by omega) (by omega) (by omega) (by omega)
    have e : (F + 1) * (F + 1) = F * F + 2 * F + 1 := by grind
    omega
theorem dgL_le {lo hi N F : Int} (hF : 0 < F) (h1 : lo * F <= N * 1048576) (h2 : N * 1048576 <= hi * F) : dgL lo hi * (F * F) <= (N * 1048576) * (N * 1048576) := by
  have sq : ∀ x y : Int, 0 <= x -> x <= y -> x * x <= y * y := fun x y hx hy => Int.mul_le_mul hy hy hx (by omega)
  have hFF : 0 <= F * F := sq_nn F
  unfold dgL
  split
  · rename_i hh
    rcases hh with hh | hh
    · have h3 := sq _ _ (Int.le_of_lt (Int.mul_pos hh hF)) h1
      have e : lo * F * (lo * F) = lo * lo * (F * F) := by grind
      have h4 : mnI (lo * lo) (hi * hi) <= lo * lo := by unfold mnI; split <;> omega
      have h5 := Int.mul_le_mul_of_nonneg_right h4 hFF
      omega
    · have h0 : 0 <= -(hi * F) := by have := Int.mul_pos (show 0 < -hi by omega) hF; rw [Int.neg_mul] at this; omega
      have h3 := sq _ _ h0 (show -(hi * F) <= -(N * 1048576) by omega)
      rw [Int.neg_mul_neg, Int.neg_mul_neg] at h3
      have e : hi * F * (hi * F) = hi * hi * (F * F) := by grind
      have h4 : mnI (lo * lo) (hi * hi) <= hi * hi := by unfold mnI; split <;> omega
      have h5 := Int.mul_le_mul_of_nonneg_right h4 hFF
      omega
  · rw [Int.zero_mul]; exact sq_nn _
theorem le_dgM {lo hi N F : Int} (hF : 0 < F) (h1 : lo * F <= N * 1048576) (h2 : N * 1048576 <= hi * F) : (N * 1048576) * (N * 1048576) <= dgM lo hi * (F * F) := by
  have sq : ∀ x y : Int, 0 <= x -> x <= y -> x * x <= y * y := fun x y hx hy => Int.mul_le_mul hy hy hx (by omega)
  have hFF : 0 <= F * F := sq_nn F
  unfold dgM
  rcases Int.le_total 0 (N * 1048576) with h0 | h0
  · have h3 := sq _ _ h0 h2
    have e : hi * F * (hi * F) = hi * hi * (F * F) := by grind
    have h4 : hi * hi <= mxI (lo * lo) (hi * hi) := by unfold mxI; split <;> omega
    have h5 := Int.mul_le_mul_of_nonneg_right h4 hFF
    omega
  · have h3 := sq _ _ (show 0 <= -(N * 1048576) by omega) (show -(N * 1048576) <= -(lo * F) by omega)
    rw [Int.neg_mul_neg, Int.neg_mul_neg] at h3
    have e : lo * F * (lo * F) = lo * lo * (F * F) := by grind
    have h4 : lo * lo <= mxI (lo * lo) (hi * hi) := by unfold mxI; split <;> omega
    have h5 := Int.mul_le_mul_of_nonneg_right h4 hFF
    omega
theorem dg3_one {F N C S N0 N1 C0 C1 S0 S1 : Int} (hF : 0 < F) (h : N * N + C * C + S * S = F * F) (hN : N0 * F <= N * 1048576 /\ N * 1048576 <= N1 * F) (hC : C0 * F <= C * 1048576 /\ C * 1048576 <= C1 * F) (hS : S0 * F <= S * 1048576 /\ S * 1048576 <= S1 * F) :
    dg3L N0 N1 C0 C1 S0 S1 <= 1099511627776 /\ 1099511627776 <= dg3M N0 N1 C0 C1 S0 S1 := by
  have l1 := dgL_le hF hN.1 hN.2; have l2 := dgL_le hF hC.1 hC.2; have l3 := dgL_le hF hS.1 hS.2
  have m1 := le_dgM hF hN.1 hN.2; have m2 := le_dgM hF hC.1 hC.2; have m3 := le_dgM hF hS.1 hS.2
  have e : N * 1048576 * (N * 1048576) + C * 1048576 * (C * 1048576) + S * 1048576 * (S * 1048576) = 1099511627776 * (F * F) := by rw [<- h]; grind
  have hFF : 0 < F * F := Int.mul_pos hF hF
  unfold dg3L dg3M
  refine ⟨Int.le_of_mul_le_mul_right (a := F * F) ?_ hFF, Int.le_of_mul_le_mul_right (a := F * F) ?_ hFF⟩
  · rw [Int.add_mul, Int.add_mul]; omega
  · rw [Int.add_mul, Int.add_mul]; omega
end Go.AM.K
