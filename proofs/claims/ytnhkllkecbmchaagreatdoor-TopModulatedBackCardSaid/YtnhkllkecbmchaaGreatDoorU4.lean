/- Plain laws of the meter. -/
import Derived.Test.YtnhkllkecbmchaaGreatDoorU2
import Derived.Test.YtnhkllkecbmchaaGreatDoorU3
-- MQ6
namespace Go.AM.K
set_option linter.unusedVariables false
set_option linter.unusedSimpArgs false
variable {α : Type}
theorem f48_val {s : ByteArray} (hs : s.size <= 9223372036854775807) {w i n b1 b2 b3 b4 b5 b6 p1 p2 p3 p4 p5 p6 p q r x1 x2 x3 x4 y1 y2 y3 y4 N0 N1 : Int} (e1 : plE s w i n = 0) (e2 : smE b1 b2 b3 b4 b5 b6 = 0) (e3 : smE p1 p2 p3 p4 p5 p6 = 0) (e4 : tnE p q r = 0) (e5 : q ≠ 0)
    (hk : ∀ k : Int -> Int -> Int -> Int -> Int -> Option α, ratK b1 b2 b3 b4 b5 b6 k = k x1 x2 x3 x4 0) (hk' : ∀ k : Int -> Int -> Int -> Int -> Int -> Option α, ratK p1 p2 p3 p4 p5 p6 k = k y1 y2 y3 y4 0)
    (hx1 : -1048576 <= x1 /\ x1 <= 1048576) (hx2 : -1048576 <= x2 /\ x2 <= 1048576) (hx3 : -1048576 <= x3 /\ x3 <= 1048576) (hx4 : -1048576 <= x4 /\ x4 <= 1048576)
    (hy1 : -1048576 <= y1 /\ y1 <= 1048576) (hy2 : -1048576 <= y2 /\ y2 <= 1048576) (hy3 : -1048576 <= y3 /\ y3 <= 1048576) (hy4 : -1048576 <= y4 /\ y4 <= 1048576)
    (hN0 : N0 = mxZ (nFl p r x2) (nFl p r y2)) (hN1 : N1 = mnZ (nCe p r x1) (nCe p r y1)) (e8 : N0 <= N1) (c1 : cutE (oLo p q r x3 x4 N0 N1) (oHi p q r x3 x4 N0 N1) = 0) (c2 : cutE (oLo p q r y3 y4 N0 N1) (oHi p q r y3 y4 N0 N1) = 0)
    {k : ByteArray -> Int -> Int -> Int -> Int -> Int -> Int -> Int -> Int -> Int -> Int -> Option α} : f48_0 α s w i n b1 b2 b3 b4 b5 b6 p1 p2 p3 p4 p5 p6 p q r k = k s w i n N0 N1 (cut1 (oLo p q r x3 x4 N0 N1) (oHi p q r x3 x4 N0 N1)) (cut2 (oLo p q r x3 x4 N0 N1) (oHi p q r x3 x4 N0 N1)) (cut1 (oLo p q r y3 y4 N0 N1) (oHi p q r y3 y4 N0 N1)) (cut2 (oLo p q r y3 y4 N0 N1) (oHi p q r y3 y4 N0 N1)) 0 := by
  have n1 : ¬ (plE s w i n ≠ 0) := fun h => h e1
  have n2 : ¬ (smE b1 b2 b3 b4 b5 b6 ≠ 0) := fun h => h e2
  have n3 : ¬ (smE p1 p2 p3 p4 p5 p6 ≠ 0) := fun h => h e3
  have n4 : ¬ (tnE p q r ≠ 0) := fun h => h e4
  have n6 : ¬ ((0 : Int) ≠ 0) := fun h => h rfl
  have i26 : f48_0 α s w i n b1 b2 b3 b4 b5 b6 p1 p2 p3 p4 p5 p6 p q r k = f133_0 α (nFl p r x2) (nCe p r x1) (nFl p r y2) (nCe p r y1) fun x121 x122 x123 => cK (!x123)
      (k (⟨#[]⟩ : ByteArray) 0 0 0 0 0 0 0 0 0 14)
      (L48_0_7 α x3 x4 y3 y4 p q r x121 x122 (fun x369 => k (⟨#[]⟩ : ByteArray) 0 0 0 0 0 0 0 0 0 x369) (fun x370 x371 x372 x373 x374 x375 => k s w i n x121 x122 x372 x373 x374 x375 0) 0 0 0 0 0) := by
    simp only [f48_0, f48_0g, f124_eq hs, f125_eq, f126_eq, L48_1_eq, if_neg n1, if_neg n2, if_neg n3, if_neg n4, cK_beq, if_neg e5, f127_eq, hk, hk', cK_ne, if_neg n6, f128_eq e4 e5 hx1 hx2, f128_eq e4 e5 hy1 hy2]
  have a1 := n_bd e4 e5 hx1; have a2 := n_bd e4 e5 hx2; have a3 := n_bd e4 e5 hy1; have a4 := n_bd e4 e5 hy2
  have d0 : -1048576 <= N0 /\ N0 <= 1048576 := by rw [hN0]; unfold mxZ; split <;> omega
  have d1 : -1048576 <= N1 /\ N1 <= 1048576 := by rw [hN1]; unfold mnZ; split <;> omega
  have g88 : ∀ k : Int -> Int -> Bool -> Option α, f133_0 α (nFl p r x2) (nCe p r x1) (nFl p r y2) (nCe p r y1) k = k N0 N1 (decide (N0 <= N1)) := fun k => by rw [hN0, hN1]; rfl
  obtain ⟨z, hz⟩ : ∃ z, fuel = z + 3 := ⟨fuel - 3, by have := fuel_ge; omega⟩
  rw [i26, g88, decide_eq_true e8, Bool.not_true, cK_false]
  simp only [L48_0_7, hz, R48_0_7]
  rw [S48_7_eq e4 e5 hx3 hx4 d0 d1 (.inl ⟨rfl, rfl, rfl⟩), if_neg (show ¬ (0 : Int) = 1 by decide), if_neg (fun h => h c1), S48_7_eq e4 e5 hy3 hy4 d0 d1 (.inr ⟨rfl, rfl, rfl⟩), if_pos rfl, if_neg (fun h => h c2)]
  simp only [S48_0_7, S48_0_7g]
  rw [show decide ((2 : Int) < 2) = false by decide, cK_false]
theorem f119_pos {x d : Int} (hd : 0 < d) (hd2 : d <= 1000000) {k : Int -> Option α} : f119_0 α x d k = k (x % d) := by
  have m1 := Int.emod_nonneg x (Int.ne_of_gt hd)
  have m2 := Int.emod_lt_of_pos x hd
  have h := Int.tmod_eq_emod (a := x) (b := d)
  simp only [f119_0, f119_0g]
  rw [gK_of (bne_iff_ne.2 (by omega))]
  by_cases hc : 0 <= x \/ d ∣ x
  · rw [if_pos hc] at h
    rw [decide_eq_false (by omega), cK_false]; congr 1; omega
  · rw [if_neg hc] at h
    rw [decide_eq_true (by omega), cK_true, w64_in (by omega) (by omega)]; congr 1; omega
theorem true21 {n0 n1 n2 n3 m : Int} (h0 : 0 <= n0 /\ n0 <= 65535) (h1 : 0 <= n1 /\ n1 <= 65535) (h2 : 0 <= n2 /\ n2 <= 65535) (h3 : 0 <= n3 /\ n3 <= 65535) (hm : 0 <= m /\ m <= 65535) {k : Int -> Int -> Int -> Int -> Int -> Int -> Int -> Option α} :
    f70_0 α [[DC.v (.float .f32 (FloatKind.nearest .f32 n0))], [DC.v (.float .f32 (FloatKind.nearest .f32 n1))], [DC.v (.float .f32 (FloatKind.nearest .f32 n2))], [DC.v (.float .f32 (FloatKind.nearest .f32 n3))]] m 65536 k =
      k (n0 + n1 + n2 + n3 - 4 * m) (n0 + n1 + n2 + n3 + 4 * m) (n0 - n2 - 2 * m) (n0 - n2 + 2 * m) (n1 - n3 - 2 * m) (n1 - n3 + 2 * m) 0 := by
  have hX : ∀ x ∈ [n0, n1, n2, n3], 0 <= x /\ x <= 65535 := by
    intro x hx
    simp only [List.mem_cons, List.not_mem_nil, or_false] at hx
    rcases hx with rfl | rfl | rfl | rfl <;> assumption
  have hsc := scan_near (L := [n0, n1, n2, n3]) (M := m) (by simp) (by simp) hm hX
  have hs := smp_near _ hX
  refine (f70_plain (l := [n0, n1, n2, n3].map N32) (M := m) (by rw [hsc]) (k := k)).trans ?_
  unfold sumK smA smC smS
  rw [hs]
  have c : ∀ r, cs [n0, n1, n2, n3] r 1 = 0 + [n0, n1, n2, n3].getD (4 * 0 + r) 0 := fun r => rfl
  have c0 : cs [n0, n1, n2, n3] 0 1 = n0 := by rw [c]; simp
  have c1 : cs [n0, n1, n2, n3] 1 1 = n1 := by rw [c]; simp
  have c2 : cs [n0, n1, n2, n3] 2 1 = n2 := by rw [c]; simp
  have c3 : cs [n0, n1, n2, n3] 3 1 = n3 := by rw [c]; simp
  have hl : ([n0, n1, n2, n3].map N32).length = 4 := rfl
  rw [hl, show 4 / 4 = 1 from rfl, show 4 / 2 = 2 from rfl, show ((4 : Nat) : Int) = 4 from rfl, show ((2 : Nat) : Int) = 2 from rfl]
  rw [c0, c1, c2, c3]
theorem smE_of {a b c d e f : Int} (h1 : -10000000 <= a /\ a <= b /\ b <= 10000000) (h2 : -10000000 <= c /\ c <= d /\ d <= 10000000) (h3 : -10000000 <= e /\ e <= f /\ f <= 10000000) : smE a b c d e f = 0 := by
  have key : ∀ x y : Int, -10000000 <= x /\ x <= y /\ y <= 10000000 -> rgE 10000000 x y = 0 := fun x y h => by unfold rgE; rw [if_pos (by omega), if_neg (by omega)]
  unfold smE fst3
  rw [key a b h1, key c d h2, key e f h3]; rfl
structure LightOk (M c s a0 a1 c0 c1 s0 s1 : Int) : Prop where
  aL : -10000000 <= a0 /\ a0 <= a1 /\ a1 <= 10000000
  cL : -10000000 <= c0 /\ c0 <= c1 /\ c1 <= 10000000
  sL : -10000000 <= s0 /\ s0 <= s1 /\ s1 <= 10000000
  hA : a0 <= 80 * M /\ 80 * M <= a1
  hC : c0 <= 40 * c /\ 40 * c <= c1
  hS : s0 <= 40 * s /\ 40 * s <= s1
  cM : -M <= c /\ c <= M
  sM : -M <= s /\ s <= M
theorem LightOk.rat {M c s a0 a1 c0 c1 s0 s1 : Int} (h : LightOk M c s a0 a1 c0 c1 s0 s1) (ha : 0 < a0) : ∃ x1 x2 x3 x4, (∀ k : Int -> Int -> Int -> Int -> Int -> Option α, ratK a0 a1 c0 c1 s0 s1 k = k x1 x2 x3 x4 0) /\
    ((-1048576 <= x1 /\ x1 <= 1048576) /\ (-1048576 <= x2 /\ x2 <= 1048576) /\ (-1048576 <= x3 /\ x3 <= 1048576) /\ (-1048576 <= x4 /\ x4 <= 1048576)) /\ (x1 * M <= c * 1048576 /\ c * 1048576 <= x2 * M) /\ x3 * M <= s * 1048576 /\ s * 1048576 <= x4 * M := by
  have hA := h.hA
  have hM : 0 < M := by omega
  obtain ⟨e1, e2, e3⟩ := cut_ok hM h.cM (ratLo_le ha hA.1 hA.2 h.hC.1) (le_ratHi ha hA.1 hA.2 h.hC.2)
  obtain ⟨g1, g2, g3⟩ := cut_ok hM h.sM (ratLo_le ha hA.1 hA.2 h.hS.1) (le_ratHi ha hA.1 hA.2 h.hS.2)
  have b1 := cut_bd (ratLo c0 a0 a1) (ratHi c1 a0 a1)
  have b2 := cut_bd (ratLo s0 a0 a1) (ratHi s1 a0 a1)
  refine ⟨_, _, _, _, fun k => ?_, ⟨b1.1, b1.2, b2.1, b2.2⟩, ⟨e2, e3⟩, g2, g3⟩
  unfold ratK
  rw [if_neg (by omega), if_neg (fun hh => hh e1), if_neg (fun hh => hh g1)]
theorem mxZ_le {a b c d e : Int} (h1 : a * d <= e) (h2 : b * d <= e) : mxZ a b * d <= e := by unfold mxZ; split <;> assumption
theorem le_mnZ {a b d e : Int} (h1 : e <= a * d) (h2 : e <= b * d) : e <= mnZ a b * d := by unfold mnZ; split <;> assumption
end Go.AM.K
-- MQ8
namespace Go.AM.K
set_option linter.unusedVariables false
set_option linter.unusedSimpArgs false
variable {α : Type}
def qn (s x : Int) : Int := (2 * x + s) / (2 * s) * s
theorem qn_bd {s x : Int} (hs : 1 <= s /\ s <= 1000) (hx : 0 <= x /\ x <= 65535) : 0 <= qn s x /\ 2 * qn s x <= 2 * x + s /\ 2 * x - s < 2 * qn s x /\ 0 <= (2 * x + s) / (2 * s) /\ (2 * x + s) / (2 * s) <= 200000 := by
  have e := Int.emod_add_mul_ediv (2 * x + s) (2 * s)
  have m1 := Int.emod_nonneg (2 * x + s) (show 2 * s ≠ 0 by omega)
  have m2 := Int.emod_lt_of_pos (2 * x + s) (show 0 < 2 * s by omega)
  have q1 : 0 <= (2 * x + s) / (2 * s) := Int.ediv_nonneg (by omega) (by omega)
  have q2 : (2 * x + s) / (2 * s) <= 2 * x + s := Int.ediv_le_self _ (by omega)
  unfold qn
  have e2 : 2 * s * ((2 * x + s) / (2 * s)) = 2 * ((2 * x + s) / (2 * s) * s) := by rw [Int.mul_assoc, Int.mul_comm s]
  have q9993 : 0 <= (2 * x + s) / (2 * s) * s := Int.mul_nonneg q1 (by omega)
  omega
abbrev qR (s x : Int) : List DC := rF (N32 (qn s x))
def qzE (s : Int) : List Int -> Option Int
  | [] => none
  | x :: r => if 0 <= x /\ x <= 65535 then (if 65535 < qn s x then some 8 else qzE s r) else some 2
theorem ap1F {X : Rows} {y : Nat} (h : X.length < 100) : apOk 1 4 X [[DC.v (.float .f32 y)]] = true :=
  apOk_of (enc := rF) (n := 1) (b := 4) (fun _ => rfl) (rows := X) (l := [y]) (by simp; omega) (by simp; omega)
section
variable {s : Int} (hs : 1 <= s /\ s <= 1000) {l : List Int} (hl : l.length <= 64)
include hs hl
theorem R120_eq {k1 : Int -> Option α} {k2 : Int -> Bool -> Rows -> Option α} : ∀ (m i n : Nat), i + m = l.length -> m < n ->
    R120_0_0 α s (l.map rI1) (l.length : Int) k1 k2 n (i : Int) ((l.take i).map (qR s)) = match qzE s (l.drop i) with | some e => k1 e | none => k2 (l.length : Int) false (l.map (qR s)) := by
  intro m
  induction m with
  | zero =>
    intro i n h1 h2
    obtain ⟨n, rfl⟩ : ∃ z, n = z + 1 := ⟨n - 1, by omega⟩
    rw [List.drop_eq_nil_of_le (by omega), List.take_of_length_le (by omega)]
    have hi : i = l.length := by omega
    simp only [R120_0_0, S120_0_0, S120_0_0g, qzE]
    rw [hi, decide_eq_false (by omega)]; rfl
  | succ m ih =>
    intro i n h1 h2
    obtain ⟨n, rfl⟩ : ∃ z, n = z + 1 := ⟨n - 1, by omega⟩
    have hi : i < l.length := by omega
    rw [List.drop_eq_getElem_cons hi]
    simp only [R120_0_0, S120_0_0, S120_0_0g, qzE]
    rw [decide_eq_true (by omega), cK_true, rowK_I hi, f215_eq]
    by_cases hx : 0 <= l[i]'hi /\ l[i]'hi <= 65535
    · obtain ⟨b1, b2, b3, b4, b5⟩ := qn_bd hs hx
      have e : w64 (s * ((2 * (l[i]'hi) + s) / (2 * s))) = qn s (l[i]'hi) := by
        rw [Int.mul_comm]
        exact w64_in (by show -9223372036854775808 <= qn s (l[i]'hi); omega) (by show qn s (l[i]'hi) <= _; omega)
      rw [decide_eq_true hx, Bool.not_true, cK_false, if_pos hx, w64_in (n := 2 * (l[i]'hi)) (by omega) (by omega), w64_in (n := 2 * (l[i]'hi) + s) (by omega) (by omega), w64_in (n := 2 * s) (by omega) (by omega), f131_pos (by omega) (by omega) (by omega) (by omega), e, cK_dec]
      by_cases hq : 65535 < qn s (l[i]'hi)
      · rw [if_pos hq, if_pos hq]
      · rw [if_neg hq, if_neg hq, ap1F (by simp; omega), gK_true, w64_in (by omega) (by omega), show (i : Int) + 1 = ((i + 1 : Nat) : Int) by omega, <- ih (i + 1) n (by omega) (by omega), List.take_succ_eq_append_getElem hi, List.map_append]
        rfl
    · rw [decide_eq_false hx, Bool.not_false, cK_true, if_neg hx]
end
end Go.AM.K
-- ML10
namespace Go.AM.K
set_option linter.unusedVariables false
set_option linter.unusedSimpArgs false
variable {α : Type}
def mxI (x y : Int) : Int := if y > x then y else x
def mnI (x y : Int) : Int := if y < x then y else x
def dgL (lo hi : Int) : Int := if 0 < lo \/ hi < 0 then mnI (lo * lo) (hi * hi) else 0
def dgM (lo hi : Int) : Int := mxI (lo * lo) (hi * hi)
theorem sq_bdI {x : Int} (h : -1048576 <= x /\ x <= 1048576) : 0 <= x * x /\ x * x <= 1099511627776 := by
  refine ⟨?_, ?_⟩
  · by_cases hx : 0 <= x
    · exact Int.mul_nonneg hx hx
    · have := Int.mul_nonneg (a := -x) (b := -x) (by omega) (by omega)
      rwa [Int.neg_mul_neg] at this
  · by_cases hx : 0 <= x
    · exact Int.mul_le_mul (by omega : x <= 1048576) (by omega : x <= 1048576) hx (by omega)
    · have := Int.mul_le_mul (by omega : -x <= 1048576) (by omega : -x <= 1048576) (by omega) (by omega)
      rwa [Int.neg_mul_neg] at this
theorem dg_bd {lo hi : Int} (h : (-1048576 <= lo /\ lo <= 1048576) /\ -1048576 <= hi /\ hi <= 1048576) : (0 <= dgL lo hi /\ dgL lo hi <= 1099511627776) /\ 0 <= dgM lo hi /\ dgM lo hi <= 1099511627776 := by
  have h1 := sq_bdI h.1
  have h2 := sq_bdI h.2
  unfold dgL dgM mnI mxI
  refine ⟨?_, ?_⟩
  · split
    · split <;> omega
    · omega
  · split <;> omega
def absI (x : Int) : Int := if -x > x then -x else x
theorem abs_sq (x : Int) : absI x * absI x = x * x := by
  unfold absI; split
  · exact Int.neg_mul_neg x x
  · rfl
theorem abs_nn (x : Int) : 0 <= absI x := by unfold absI; split <;> omega
theorem sq_le {x y : Int} (hx : 0 <= x) (hy : 0 <= y) : x * x <= y * y ↔ x <= y := by
  constructor
  · intro h
    by_cases hc : x <= y
    · exact hc
    · have := Int.mul_le_mul (by omega : y + 1 <= x) (by omega : y + 1 <= x) (by omega) (by omega)
      rw [Int.add_mul, Int.mul_add, Int.one_mul, Int.mul_one] at this
      omega
  · intro h; exact Int.mul_le_mul h h hx hy
theorem mn_abs {lo hi : Int} : (if absI hi < absI lo then absI hi else absI lo) * (if absI hi < absI lo then absI hi else absI lo) = mnI (lo * lo) (hi * hi) := by
  have h := sq_le (abs_nn lo) (abs_nn hi)
  rw [abs_sq, abs_sq] at h
  unfold mnI
  by_cases hc : absI hi < absI lo
  · have h4 : ¬ (lo * lo <= hi * hi) := fun hh => absurd (h.1 hh) (by omega)
    rw [if_pos hc, if_pos (by omega), abs_sq]
  · rw [if_neg hc, if_neg (by have := h.2 (by omega); omega), abs_sq]
theorem mx_abs {lo hi : Int} : (if absI hi > absI lo then absI hi else absI lo) * (if absI hi > absI lo then absI hi else absI lo) = mxI (lo * lo) (hi * hi) := by
  have h := sq_le (abs_nn hi) (abs_nn lo)
  rw [abs_sq, abs_sq] at h
  unfold mxI
  by_cases hc : absI hi > absI lo
  · have h4 : ¬ (hi * hi <= lo * lo) := fun hh => absurd (h.1 hh) (by omega)
    rw [if_pos hc, if_pos (by omega), abs_sq]
  · rw [if_neg hc, if_neg (by have := h.2 (by omega); omega), abs_sq]
theorem S137_eq {a b c d e f i r0 r1 x y : Int} {kn : Int -> Int -> Int -> Option α} {k1 : Int -> Int -> Int -> Bool -> Option α} (hi : i = 0 /\ r0 = a /\ r1 = b \/ i = 1 /\ r0 = c /\ r1 = d \/ i = 2 /\ r0 = e /\ r1 = f)
    (h : (-1048576 <= r0 /\ r0 <= 1048576) /\ -1048576 <= r1 /\ r1 <= 1048576) (hx : 0 <= x /\ x <= 4398046511104) (hy : 0 <= y /\ y <= 4398046511104) :
    S137_0_3 α a b c d e f x y i kn k1 = kn (x + dgL r0 r1) (y + dgM r0 r1) (i + 1) := by
  have hJ : ∀ K : Int -> Int -> Option α, J137_0_0 α a b c d e f i K = K r0 r1 := by
    intro K
    rcases hi with ⟨rfl, rfl, rfl⟩ | ⟨rfl, rfl, rfl⟩ | ⟨rfl, rfl, rfl⟩ <;> rfl
  have hlt : decide (i < 3) = true := decide_eq_true (by omega)
  obtain ⟨g1, g2⟩ := dg_bd h
  have a0 : (if w64 (0 - r0) > r0 then w64 (0 - r0) else r0) = absI r0 := by
    rw [w64_in (by omega) (by omega), show 0 - r0 = -r0 by omega]; rfl
  have a1 : (if w64 (0 - r1) > r1 then w64 (0 - r1) else r1) = absI r1 := by
    rw [w64_in (by omega) (by omega), show 0 - r1 = -r1 by omega]; rfl
  have h1 := sq_bdI h.1
  have h2 := sq_bdI h.2
  have b1 : 0 <= mnI (r0 * r0) (r1 * r1) /\ mnI (r0 * r0) (r1 * r1) <= 1099511627776 := by unfold mnI; split <;> omega
  have b2 : 0 <= mxI (r0 * r0) (r1 * r1) /\ mxI (r0 * r0) (r1 * r1) <= 1099511627776 := by unfold mxI; split <;> omega
  simp only [S137_0_3, S137_0_3g, hlt, cK_true, hJ, a0, a1, J137_0_2, J137_0_2g, J137_0_1, J137_0_1g, mn_abs, mx_abs]
  rw [w64_in (n := i + 1) (by omega) (by omega), w64_in (n := mnI (r0 * r0) (r1 * r1)) (by omega) (by omega), w64_in (n := mxI (r0 * r0) (r1 * r1)) (by omega) (by omega), w64_in (n := x + mnI (r0 * r0) (r1 * r1)) (by omega) (by omega), w64_in (n := y + mxI (r0 * r0) (r1 * r1)) (by omega) (by omega)]
  unfold dgL dgM
  by_cases p : 0 < r0
  · rw [decide_eq_true p, cK_true, if_pos (.inl p)]
  · rw [decide_eq_false p, cK_false]
    by_cases q : r1 < 0
    · rw [decide_eq_true q, cK_true, if_pos (.inr q)]
    · rw [decide_eq_false q, cK_false, if_neg (by omega), Int.add_zero]
def dg3L (a b c d e f : Int) : Int := dgL a b + dgL c d + dgL e f
def dg3M (a b c d e f : Int) : Int := dgM a b + dgM c d + dgM e f
section
variable {a b c d e f : Int} (h1 : (-1048576 <= a /\ a <= 1048576) /\ -1048576 <= b /\ b <= 1048576) (h2 : (-1048576 <= c /\ c <= 1048576) /\ -1048576 <= d /\ d <= 1048576) (h3 : (-1048576 <= e /\ e <= 1048576) /\ -1048576 <= f /\ f <= 1048576)
include h1 h2 h3
theorem f137_eq {s : ByteArray} {w i n : Int} {k : Int -> Int -> Option α} : f137_0 α s w i n a b c d e f k = k (dg3L a b c d e f) (dg3M a b c d e f) := by
  obtain ⟨z, hz⟩ : ∃ z, fuel = z + 4 := ⟨fuel - 4, by have := fuel_ge; omega⟩
  obtain ⟨p1, p2⟩ := dg_bd h1
  obtain ⟨q1, q2⟩ := dg_bd h2
  obtain ⟨r1, r2⟩ := dg_bd h3
  simp only [f137_0, f137_0g, L137_0_3, hz, R137_0_3]
  rw [S137_eq (.inl ⟨rfl, rfl, rfl⟩) h1 (by omega) (by omega), show (0 : Int) + 1 = 1 from rfl, S137_eq (.inr (.inl ⟨rfl, rfl, rfl⟩)) h2 (by omega) (by omega), show (1 : Int) + 1 = 2 from rfl, S137_eq (.inr (.inr ⟨rfl, rfl, rfl⟩)) h3 (by omega) (by omega), show (2 : Int) + 1 = 3 from rfl]
  simp only [S137_0_3, S137_0_3g]
  rw [show decide ((3 : Int) < 3) = false by decide, cK_false]
  unfold dg3L dg3M
  rw [Int.zero_add, Int.zero_add]
theorem dg3_bd : (0 <= dg3L a b c d e f /\ dg3L a b c d e f <= 4398046511104) /\ 0 <= dg3M a b c d e f /\ dg3M a b c d e f <= 4398046511104 := by
  obtain ⟨p1, p2⟩ := dg_bd h1
  obtain ⟨q1, q2⟩ := dg_bd h2
  obtain ⟨r1, r2⟩ := dg_bd h3
  unfold dg3L dg3M
  omega
end
end Go.AM.K
