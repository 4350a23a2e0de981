/- MeterTrue. -/
import Derived.Test.YtjifpcjmnhnpkaaMT1
import Derived.Test.YtjifpcjmnhnpkaaMH4
import Derived.Test.YtjifpcjmnhnpkaaKTt
namespace Go.AM.K
set_option linter.unusedVariables false
set_option linter.unusedSimpArgs false
variable {α : Type}
theorem f26_val {s : ByteArray} (hs : s.size ≤ 9223372036854775807) {w i n b1 b2 b3 b4 b5 b6 p1 p2 p3 p4 p5 p6 p q r x1 x2 x3 x4 y1 y2 y3 y4 N0 N1 : Int} (e1 : plE s w i n = 0) (e2 : smE b1 b2 b3 b4 b5 b6 = 0) (e3 : smE p1 p2 p3 p4 p5 p6 = 0) (e4 : tnE p q r = 0) (e5 : q ≠ 0)
    (hk : ∀ k : Int → Int → Int → Int → Int → Option α, ratK b1 b2 b3 b4 b5 b6 k = k x1 x2 x3 x4 0) (hk' : ∀ k : Int → Int → Int → Int → Int → Option α, ratK p1 p2 p3 p4 p5 p6 k = k y1 y2 y3 y4 0)
    (hx1 : -1048576 ≤ x1 ∧ x1 ≤ 1048576) (hx2 : -1048576 ≤ x2 ∧ x2 ≤ 1048576) (hx3 : -1048576 ≤ x3 ∧ x3 ≤ 1048576) (hx4 : -1048576 ≤ x4 ∧ x4 ≤ 1048576)
    (hy1 : -1048576 ≤ y1 ∧ y1 ≤ 1048576) (hy2 : -1048576 ≤ y2 ∧ y2 ≤ 1048576) (hy3 : -1048576 ≤ y3 ∧ y3 ≤ 1048576) (hy4 : -1048576 ≤ y4 ∧ y4 ≤ 1048576)
    (hN0 : N0 = mxZ (nFl p r x2) (nFl p r y2)) (hN1 : N1 = mnZ (nCe p r x1) (nCe p r y1)) (e8 : N0 ≤ N1) (c1 : cutE (oLo p q r x3 x4 N0 N1) (oHi p q r x3 x4 N0 N1) = 0) (c2 : cutE (oLo p q r y3 y4 N0 N1) (oHi p q r y3 y4 N0 N1) = 0)
    {k : ByteArray → Int → Int → Int → Int → Int → Int → Int → Int → Int → Int → Option α} : f26_0 α s w i n b1 b2 b3 b4 b5 b6 p1 p2 p3 p4 p5 p6 p q r k = k s w i n N0 N1 (cut1 (oLo p q r x3 x4 N0 N1) (oHi p q r x3 x4 N0 N1)) (cut2 (oLo p q r x3 x4 N0 N1) (oHi p q r x3 x4 N0 N1)) (cut1 (oLo p q r y3 y4 N0 N1) (oHi p q r y3 y4 N0 N1)) (cut2 (oLo p q r y3 y4 N0 N1) (oHi p q r y3 y4 N0 N1)) 0 := by
  have n1 : ¬ (plE s w i n ≠ 0) := fun h => h e1
  have n2 : ¬ (smE b1 b2 b3 b4 b5 b6 ≠ 0) := fun h => h e2
  have n3 : ¬ (smE p1 p2 p3 p4 p5 p6 ≠ 0) := fun h => h e3
  have n4 : ¬ (tnE p q r ≠ 0) := fun h => h e4
  have n6 : ¬ ((0 : Int) ≠ 0) := fun h => h rfl
  have i26 : f26_0 α s w i n b1 b2 b3 b4 b5 b6 p1 p2 p3 p4 p5 p6 p q r k = f88_0 α (nFl p r x2) (nCe p r x1) (nFl p r y2) (nCe p r y1) fun x121 x122 x123 => cK (!x123)
      (k (⟨#[]⟩ : ByteArray) 0 0 0 0 0 0 0 0 0 14)
      (L26_0_7 α x3 x4 y3 y4 p q r x121 x122 (fun x369 => k (⟨#[]⟩ : ByteArray) 0 0 0 0 0 0 0 0 0 x369) (fun x370 x371 x372 x373 x374 x375 => k s w i n x121 x122 x372 x373 x374 x375 0) 0 0 0 0 0) := by
    simp only [f26_0, f26_0g, f83_eq hs, f60_eq, f84_eq, L26_1_eq, if_neg n1, if_neg n2, if_neg n3, if_neg n4, cK_beq, if_neg e5, f23_eq, hk, hk', cK_ne, if_neg n6, f85_eq e4 e5 hx1 hx2, f85_eq e4 e5 hy1 hy2]
  have a1 := n_bd e4 e5 hx1; have a2 := n_bd e4 e5 hx2; have a3 := n_bd e4 e5 hy1; have a4 := n_bd e4 e5 hy2
  have d0 : -1048576 ≤ N0 ∧ N0 ≤ 1048576 := by rw [hN0]; unfold mxZ; split <;> omega
  have d1 : -1048576 ≤ N1 ∧ N1 ≤ 1048576 := by rw [hN1]; unfold mnZ; split <;> omega
  have g88 : ∀ k : Int → Int → Bool → Option α, f88_0 α (nFl p r x2) (nCe p r x1) (nFl p r y2) (nCe p r y1) k = k N0 N1 (decide (N0 ≤ N1)) := fun k => by rw [hN0, hN1]; rfl
  obtain ⟨z, hz⟩ : ∃ z, fuel = z + 3 := ⟨fuel - 3, by have := fuel_ge; omega⟩
  rw [i26, g88, decide_eq_true e8, Bool.not_true, cK_false]
  simp only [L26_0_7, hz, R26_0_7]
  rw [S26_7_eq e4 e5 hx3 hx4 d0 d1 (.inl ⟨rfl, rfl, rfl⟩), if_neg (show ¬ (0 : Int) = 1 by decide), if_neg (fun h => h c1), S26_7_eq e4 e5 hy3 hy4 d0 d1 (.inr ⟨rfl, rfl, rfl⟩), if_pos rfl, if_neg (fun h => h c2)]
  simp only [S26_0_7, S26_0_7g]
  rw [show decide ((2 : Int) < 2) = false by decide, cK_false]
theorem f31_pos {x d : Int} (hd : 0 < d) (hd2 : d ≤ 1000000) {k : Int → Option α} : f31_0 α x d k = k (x % d) := by
  have m1 := Int.emod_nonneg x (Int.ne_of_gt hd)
  have m2 := Int.emod_lt_of_pos x hd
  have h := Int.tmod_eq_emod (a := x) (b := d)
  simp only [f31_0, f31_0g]
  rw [gK_of (bne_iff_ne.2 (by omega))]
  by_cases hc : 0 ≤ x ∨ d ∣ x
  · rw [if_pos hc] at h
    rw [decide_eq_false (by omega), cK_false]; congr 1; omega
  · rw [if_neg hc] at h
    rw [decide_eq_true (by omega), cK_true, w64_in (by omega) (by omega)]; congr 1; omega
theorem true21 {n0 n1 n2 n3 m : Int} (h0 : 0 ≤ n0 ∧ n0 ≤ 65535) (h1 : 0 ≤ n1 ∧ n1 ≤ 65535) (h2 : 0 ≤ n2 ∧ n2 ≤ 65535) (h3 : 0 ≤ n3 ∧ n3 ≤ 65535) (hm : 0 ≤ m ∧ m ≤ 65535) {k : Int → Int → Int → Int → Int → Int → Int → Option α} :
    f21_0 α [[DC.v (.float .f32 (FloatKind.nearest .f32 n0))], [DC.v (.float .f32 (FloatKind.nearest .f32 n1))], [DC.v (.float .f32 (FloatKind.nearest .f32 n2))], [DC.v (.float .f32 (FloatKind.nearest .f32 n3))]] m 65536 k =
      k (n0 + n1 + n2 + n3 - 4 * m) (n0 + n1 + n2 + n3 + 4 * m) (n0 - n2 - 2 * m) (n0 - n2 + 2 * m) (n1 - n3 - 2 * m) (n1 - n3 + 2 * m) 0 := by
  have hX : ∀ x ∈ [n0, n1, n2, n3], 0 ≤ x ∧ x ≤ 65535 := by
    intro x hx
    simp only [List.mem_cons, List.not_mem_nil, or_false] at hx
    rcases hx with rfl | rfl | rfl | rfl <;> assumption
  have hsc := scan_near (L := [n0, n1, n2, n3]) (M := m) (by simp) (by simp) hm hX
  have hs := smp_near _ hX
  refine (f21_plain (l := [n0, n1, n2, n3].map N32) (M := m) (by rw [hsc]) (k := k)).trans ?_
  unfold sumK smA smC smS
  rw [hs]
  have c : ∀ r, cs [n0, n1, n2, n3] r 1 = 0 + [n0, n1, n2, n3].getD (4 * 0 + r) 0 := fun r => rfl
  have c0 : cs [n0, n1, n2, n3] 0 1 = n0 := by rw [c]; simp
  have c1 : cs [n0, n1, n2, n3] 1 1 = n1 := by rw [c]; simp
  have c2 : cs [n0, n1, n2, n3] 2 1 = n2 := by rw [c]; simp
  have c3 : cs [n0, n1, n2, n3] 3 1 = n3 := by rw [c]; simp
  have hl : ([n0, n1, n2, n3].map N32).length = 4 := rfl
  rw [hl, show 4 / 4 = 1 from rfl, show 4 / 2 = 2 from rfl, show ((4 : Nat) : Int) = 4 from rfl, show ((2 : Nat) : Int) = 2 from rfl]
  rw [c0, c1, c2, c3]
theorem smE_of {a b c d e f : Int} (h1 : -10000000 ≤ a ∧ a ≤ b ∧ b ≤ 10000000) (h2 : -10000000 ≤ c ∧ c ≤ d ∧ d ≤ 10000000) (h3 : -10000000 ≤ e ∧ e ≤ f ∧ f ≤ 10000000) : smE a b c d e f = 0 := by
  have key : ∀ x y : Int, -10000000 ≤ x ∧ x ≤ y ∧ y ≤ 10000000 → rgE 10000000 x y = 0 := fun x y h => by unfold rgE; rw [if_pos (by omega), if_neg (by omega)]
  unfold smE fst3
  rw [key a b h1, key c d h2, key e f h3]; rfl
theorem f32_ok {lo hi n d : Int} (h1 : -1048576 ≤ lo ∧ lo ≤ 1048576) (h2 : -1048576 ≤ hi ∧ hi ≤ 1048576) (hn : -30 ≤ n ∧ n ≤ 30) (hd : 1 ≤ d ∧ d ≤ 30) (h3 : lo * d ≤ n * 1048576) (h4 : n * 1048576 ≤ hi * d) {k : Bool → Option α} : f32_0 α lo hi n d k = k true := by
  have b1 := mul_bd2 (x := lo) (y := d) (A := 1048576) (B := 30) h1 (by omega)
  have b2 := mul_bd2 (x := hi) (y := d) (A := 1048576) (B := 30) h2 (by omega)
  simp only [f32_0, f32_0g, f29_eq]
  rw [decide_eq_true h1, decide_eq_true h2, cK_true, cK_true, w64_in (n := lo * d) (by omega) (by omega), w64_in (n := hi * d) (by omega) (by omega), w64_in (n := n * 1048576) (by omega) (by omega), decide_eq_true h3, decide_eq_true h4, cK_true]
structure LightOk (M c s a0 a1 c0 c1 s0 s1 : Int) : Prop where
  aL : -10000000 ≤ a0 ∧ a0 ≤ a1 ∧ a1 ≤ 10000000
  cL : -10000000 ≤ c0 ∧ c0 ≤ c1 ∧ c1 ≤ 10000000
  sL : -10000000 ≤ s0 ∧ s0 ≤ s1 ∧ s1 ≤ 10000000
  hA : a0 ≤ 80 * M ∧ 80 * M ≤ a1
  hC : c0 ≤ 40 * c ∧ 40 * c ≤ c1
  hS : s0 ≤ 40 * s ∧ 40 * s ≤ s1
  cM : -M ≤ c ∧ c ≤ M
  sM : -M ≤ s ∧ s ≤ M
theorem light_of {M c s m u0 u1 u2 u3 : Int} (hM : -2000 ≤ M ∧ M ≤ 2000) (hm : 0 ≤ m ∧ m ≤ 3) (h0 : 0 ≤ u0 ∧ u0 ≤ 2 * m) (h1 : 0 ≤ u1 ∧ u1 ≤ 2 * m) (h2 : 0 ≤ u2 ∧ u2 ≤ 2 * m) (h3 : 0 ≤ u3 ∧ u3 ≤ 2 * m) (cM : -M ≤ c ∧ c ≤ M)
    (p1 : 0 ≤ 20 * (M + s) + u1 - m) (p3 : 0 ≤ 20 * (M - s) + u3 - m) :
    LightOk M c s ((20 * (M + c) + u0 - m) + (20 * (M + s) + u1 - m) + (20 * (M - c) + u2 - m) + (20 * (M - s) + u3 - m) - 4 * m) ((20 * (M + c) + u0 - m) + (20 * (M + s) + u1 - m) + (20 * (M - c) + u2 - m) + (20 * (M - s) + u3 - m) + 4 * m)
      ((20 * (M + c) + u0 - m) - (20 * (M - c) + u2 - m) - 2 * m) ((20 * (M + c) + u0 - m) - (20 * (M - c) + u2 - m) + 2 * m) ((20 * (M + s) + u1 - m) - (20 * (M - s) + u3 - m) - 2 * m) ((20 * (M + s) + u1 - m) - (20 * (M - s) + u3 - m) + 2 * m) :=
  ⟨by omega, by omega, by omega, by omega, by omega, by omega, cM, by omega⟩
theorem LightOk.rat {M c s a0 a1 c0 c1 s0 s1 : Int} (h : LightOk M c s a0 a1 c0 c1 s0 s1) (ha : 0 < a0) : ∃ x1 x2 x3 x4, (∀ k : Int → Int → Int → Int → Int → Option α, ratK a0 a1 c0 c1 s0 s1 k = k x1 x2 x3 x4 0) ∧
    ((-1048576 ≤ x1 ∧ x1 ≤ 1048576) ∧ (-1048576 ≤ x2 ∧ x2 ≤ 1048576) ∧ (-1048576 ≤ x3 ∧ x3 ≤ 1048576) ∧ (-1048576 ≤ x4 ∧ x4 ≤ 1048576)) ∧ (x1 * M ≤ c * 1048576 ∧ c * 1048576 ≤ x2 * M) ∧ x3 * M ≤ s * 1048576 ∧ s * 1048576 ≤ x4 * M := by
  have hA := h.hA
  have hM : 0 < M := by omega
  obtain ⟨e1, e2, e3⟩ := cut_ok hM h.cM (ratLo_le ha hA.1 hA.2 h.hC.1) (le_ratHi ha hA.1 hA.2 h.hC.2)
  obtain ⟨g1, g2, g3⟩ := cut_ok hM h.sM (ratLo_le ha hA.1 hA.2 h.hS.1) (le_ratHi ha hA.1 hA.2 h.hS.2)
  have b1 := cut_bd (ratLo c0 a0 a1) (ratHi c1 a0 a1)
  have b2 := cut_bd (ratLo s0 a0 a1) (ratHi s1 a0 a1)
  refine ⟨_, _, _, _, fun k => ?_, ⟨b1.1, b1.2, b2.1, b2.2⟩, ⟨e2, e3⟩, g2, g3⟩
  unfold ratK
  rw [if_neg (by omega), if_neg (fun hh => hh e1), if_neg (fun hh => hh g1)]
theorem mxZ_le {a b c d e : Int} (h1 : a * d ≤ e) (h2 : b * d ≤ e) : mxZ a b * d ≤ e := by unfold mxZ; split <;> assumption
theorem le_mnZ {a b d e : Int} (h1 : e ≤ a * d) (h2 : e ≤ b * d) : e ≤ mnZ a b * d := by unfold mnZ; split <;> assumption
theorem held_all {N C S F p q r m a0 a1 c0 c1 s0 s1 a0' a1' c0' c1' s0' s1' : Int} (hF : 1 ≤ F ∧ F ≤ 30) (hN : -F ≤ N ∧ N ≤ F) (hC : -F ≤ C ∧ C ≤ F) (hS : -F ≤ S ∧ S ≤ F) (ht : tnE p q r = 0) (hq : q ≠ 0)
    (l1 : LightOk (F * r - N * p) (F * p - N * r) (C * q) a0 a1 c0 c1 s0 s1) (l2 : LightOk (F * r - N * p) (F * p - N * r) (S * q) a0' a1' c0' c1' s0' s1') (ha : 0 < a0) (ha' : 0 < a0') {k : Bool → Option α} :
    (f26_0 α (⟨#[108, 105, 103, 104, 116]⟩ : ByteArray) 6328 10000 0 a0 a1 c0 c1 s0 s1 a0' a1' c0' c1' s0' s1' p q r fun x68 x69 x70 x71 x72 x73 x74 x75 x76 x77 x78 => cK (x78 != 0) (k false)
      (f32_0 α x72 x73 N F fun x79 => cK x79 (f32_0 α x74 x75 C F fun x80 => cK x80 (f32_0 α x76 x77 S F fun x81 => k x81) (k false)) (k false))) = k true := by
  obtain ⟨x1, x2, x3, x4, hk, ⟨hx1, hx2, hx3, hx4⟩, ⟨i1, i2⟩, i3, i4⟩ := l1.rat (α := α) ha
  obtain ⟨y1, y2, y3, y4, hk', ⟨hy1, hy2, hy3, hy4⟩, ⟨j1, j2⟩, j3, j4⟩ := l2.rat (α := α) ha'
  have hM0 : 0 < F * r - N * p := by have := l1.hA; omega
  have hF0 : 0 < F := by omega
  have t1 := nFl_le ht hq hF0 rfl rfl hx2 i2
  have t2 := nFl_le ht hq hF0 rfl rfl hy2 j2
  have t3 := le_nCe ht hq hF0 rfl rfl hx1 i1
  have t4 := le_nCe ht hq hF0 rfl rfl hy1 j1
  obtain ⟨N0, hN0⟩ : ∃ N0, N0 = mxZ (nFl p r x2) (nFl p r y2) := ⟨_, rfl⟩
  obtain ⟨N1, hN1⟩ : ∃ N1, N1 = mnZ (nCe p r x1) (nCe p r y1) := ⟨_, rfl⟩
  have k0 : N0 * F ≤ N * 1048576 := by rw [hN0]; exact mxZ_le (c := 0) t1 t2
  have k1 : N * 1048576 ≤ N1 * F := by rw [hN1]; exact le_mnZ t3 t4
  have e8 : N0 ≤ N1 := Int.le_of_mul_le_mul_right (a := F) (by omega) hF0
  have a1 := n_bd ht hq hx1; have a2 := n_bd ht hq hx2; have a3 := n_bd ht hq hy1; have a4 := n_bd ht hq hy2
  have d0 : -1048576 ≤ N0 ∧ N0 ≤ 1048576 := by rw [hN0]; unfold mxZ; split <;> omega
  have d1 : -1048576 ≤ N1 ∧ N1 ≤ 1048576 := by rw [hN1]; unfold mnZ; split <;> omega
  obtain ⟨o1, o2⟩ := oth_ok (C := C) ht hq hF0 hM0 rfl d0 d1 k0 k1 i3 i4
  obtain ⟨o3, o4⟩ := oth_ok (C := S) ht hq hF0 hM0 rfl d0 d1 k0 k1 j3 j4
  obtain ⟨z1, z2, z3⟩ := cut_ok hF0 hC o1 o2
  obtain ⟨w1, w2, w3⟩ := cut_ok hF0 hS o3 o4
  have q1 := cut_bd (oLo p q r x3 x4 N0 N1) (oHi p q r x3 x4 N0 N1)
  have q2 := cut_bd (oLo p q r y3 y4 N0 N1) (oHi p q r y3 y4 N0 N1)
  rw [f26_val (by decide) (by decide) (smE_of l1.aL l1.cL l1.sL) (smE_of l2.aL l2.cL l2.sL) ht hq hk hk' hx1 hx2 hx3 hx4 hy1 hy2 hy3 hy4 hN0 hN1 e8 z1 w1]
  rw [bne_self_eq_false, cK_false, f32_ok d0 d1 (by omega) hF k0 k1, cK_true, f32_ok q1.1 q1.2 (by omega) hF z2 z3, cK_true, f32_ok q2.1 q2.2 (by omega) hF w2 w3]
theorem law6 {N C S F P Q R n0 n1 n2 n3 n4 n5 n6 n7 m : Int} {k : Bool → Option α} : f6_0 α N C S F P Q R n0 n1 n2 n3 n4 n5 n6 n7 m k = k true := by
  have h30 : ∀ {kk : Int → Option α}, f30_0 α P Q R kk = kk (tnE P Q R) := by intro kk; simp only [f30_0, f30_0g, f92_eq]
  simp only [f6_0, f6_0g, f15_0, J6_0_0, J6_0_0g, f29_eq, h30, cK_ndec]
  by_cases hF : 1 ≤ F ∧ F ≤ 30
  case neg => rw [if_neg hF]; rfl
  rw [if_pos hF, w64_in (n := 0 - F) (by omega) (by omega), show 0 - F = -F by omega]
  by_cases hN : -F ≤ N ∧ N ≤ F
  case neg => rw [if_neg hN]; rfl
  rw [if_pos hN]
  by_cases hC : -F ≤ C ∧ C ≤ F
  case neg => rw [if_neg hC]; rfl
  rw [if_pos hC]
  by_cases hS : -F ≤ S ∧ S ≤ F
  case neg => rw [if_neg hS]; rfl
  rw [if_pos hS]
  by_cases hm : 0 ≤ m ∧ m ≤ 3
  case neg => rw [if_neg hm]; rfl
  rw [if_pos hm]
  by_cases hR : 1 ≤ R ∧ R ≤ 13
  case neg => rw [if_neg hR]; rfl
  rw [if_pos hR]
  by_cases ht : tnE P Q R = 0
  case neg => rw [bne_iff_ne.2 ht]; rfl
  rw [ht, bne_self_eq_false, cK_false]
  by_cases hQ : Q = 0
  case pos => rw [hQ]; rfl
  rw [beq_eq_false_iff_ne.2 hQ, cK_false]
  obtain ⟨t1, t2, t3, t4⟩ := tnE_ok ht
  have b1 := mul_bd2 (x := F) (y := R) (A := 30) (B := 13) (by omega) (by omega)
  have b2 := mul_bd2 (x := N) (y := P) (A := 30) (B := 13) (by omega) (by omega)
  have b3 := mul_bd2 (x := F) (y := P) (A := 30) (B := 13) (by omega) (by omega)
  have b4 := mul_bd2 (x := N) (y := R) (A := 30) (B := 13) (by omega) (by omega)
  have b5 := mul_bd2 (x := C) (y := Q) (A := 30) (B := 13) (by omega) (by omega)
  have b6 := mul_bd2 (x := S) (y := Q) (A := 30) (B := 13) (by omega) (by omega)
  have cM : -(F * R - N * P) ≤ F * P - N * R ∧ F * P - N * R ≤ F * R - N * P := by
    have i1 := Int.mul_nonneg (show 0 ≤ F + N by omega) (show 0 ≤ R - P by omega)
    have i2 := Int.mul_nonneg (show 0 ≤ F - N by omega) (show 0 ≤ R + P by omega)
    constructor <;> grind
  have wM : w64 ((w64 (F * R)) - (w64 (N * P))) = F * R - N * P := by rw [w64_in (n := F * R) (by omega) (by omega), w64_in (n := N * P) (by omega) (by omega), w64_in (by omega) (by omega)]
  have wc : w64 ((w64 (F * P)) - (w64 (N * R))) = F * P - N * R := by rw [w64_in (n := F * P) (by omega) (by omega), w64_in (n := N * R) (by omega) (by omega), w64_in (by omega) (by omega)]
  have w1 : w64 (C * Q) = C * Q := w64_in (by omega) (by omega)
  have w2 : w64 (S * Q) = S * Q := w64_in (by omega) (by omega)
  have wd : w64 ((w64 (2 * m)) + 1) = 2 * m + 1 := by rw [w64_in (n := 2 * m) (by omega) (by omega), w64_in (by omega) (by omega)]
  simp only [wM, wc, w1, w2, wd, f31_pos (show 0 < 2 * m + 1 by omega) (show 2 * m + 1 ≤ 1000000 by omega)]
  have ub : ∀ n : Int, 0 ≤ n % (2 * m + 1) ∧ n % (2 * m + 1) ≤ 2 * m := fun n => by
    have := Int.emod_nonneg n (show 2 * m + 1 ≠ 0 by omega)
    have := Int.emod_lt_of_pos n (show 0 < 2 * m + 1 by omega)
    omega
  have u0 := ub n0; have u1 := ub n1; have u2 := ub n2; have u3 := ub n3; have u4 := ub n4; have u5 := ub n5; have u6 := ub n6; have u7 := ub n7
  have wn : ∀ l u : Int, (-2000 ≤ l ∧ l ≤ 2000) → (0 ≤ u ∧ u ≤ 2 * m) → w64 ((w64 ((w64 (20 * l)) + u)) - m) = 20 * l + u - m := fun l u h1 h2 => by
    rw [w64_in (n := 20 * l) (by omega) (by omega), w64_in (n := 20 * l + u) (by omega) (by omega), w64_in (by omega) (by omega)]
  have key := fun (a0 a1 c0 c1 s0 s1 a0' a1' c0' c1' s0' s1' : Int) l1 l2 ha ha' => held_all (α := α) (m := m) (a0 := a0) (a1 := a1) (c0 := c0) (c1 := c1) (s0 := s0) (s1 := s1) (a0' := a0') (a1' := a1') (c0' := c0') (c1' := c1') (s0' := s0') (s1' := s1') hF hN hC hS ht hQ l1 l2 ha ha' (k := k)
  generalize hMd : F * R - N * P = M at *
  generalize hcd : F * P - N * R = c at *
  generalize hsd : C * Q = s at *
  generalize hsd' : S * Q = s' at *
  generalize n0 % (2 * m + 1) = v0 at *
  generalize n1 % (2 * m + 1) = v1 at *
  generalize n2 % (2 * m + 1) = v2 at *
  generalize n3 % (2 * m + 1) = v3 at *
  generalize n4 % (2 * m + 1) = v4 at *
  generalize n5 % (2 * m + 1) = v5 at *
  generalize n6 % (2 * m + 1) = v6 at *
  generalize n7 % (2 * m + 1) = v7 at *
  rw [w64_in (n := M + c) (by omega) (by omega), w64_in (n := M + s) (by omega) (by omega), w64_in (n := M - c) (by omega) (by omega), w64_in (n := M - s) (by omega) (by omega), w64_in (n := M + s') (by omega) (by omega), w64_in (n := M - s') (by omega) (by omega)]
  rw [wn (M + c) v0 (by omega) u0, wn (M + s) v1 (by omega) u1, wn (M - c) v2 (by omega) u2, wn (M - s) v3 (by omega) u3, wn (M + c) v4 (by omega) u4, wn (M + s') v5 (by omega) u5, wn (M - c) v6 (by omega) u6, wn (M - s') v7 (by omega) u7]
  simp only [cK_dec]
  by_cases g0 : 20 * (M + c) + v0 - m < 0
  case pos => rw [if_pos g0]
  rw [if_neg g0]
  by_cases g1 : 20 * (M + s) + v1 - m < 0
  case pos => rw [if_pos g1]
  rw [if_neg g1]
  by_cases g2 : 20 * (M - c) + v2 - m < 0
  case pos => rw [if_pos g2]
  rw [if_neg g2]
  by_cases g3 : 20 * (M - s) + v3 - m < 0
  case pos => rw [if_pos g3]
  rw [if_neg g3, true21 (by omega) (by omega) (by omega) (by omega) (by omega), bne_self_eq_false, cK_false]
  by_cases g4 : 20 * (M + c) + v4 - m < 0
  case pos => rw [if_pos g4]
  rw [if_neg g4]
  by_cases g5 : 20 * (M + s') + v5 - m < 0
  case pos => rw [if_pos g5]
  rw [if_neg g5]
  by_cases g6 : 20 * (M - c) + v6 - m < 0
  case pos => rw [if_pos g6]
  rw [if_neg g6]
  by_cases g7 : 20 * (M - s') + v7 - m < 0
  case pos => rw [if_pos g7]
  rw [if_neg g7, true21 (by omega) (by omega) (by omega) (by omega) (by omega), bne_self_eq_false, cK_false]
  have l1 := light_of (c := c) (s := s) (by omega) hm u0 u1 u2 u3 cM (by omega) (by omega)
  have l2 := light_of (c := c) (s := s') (by omega) hm u4 u5 u6 u7 cM (by omega) (by omega)
  split
  · rfl
  · rename_i ha
    split
    · rfl
    · rename_i ha'
      exact key _ _ _ _ _ _ _ _ _ _ _ _ l1 l2 (by omega) (by omega)
end Go.AM.K
