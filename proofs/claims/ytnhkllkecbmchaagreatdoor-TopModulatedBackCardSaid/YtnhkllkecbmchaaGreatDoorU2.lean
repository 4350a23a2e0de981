/- Plain laws of the meter. -/
import Derived.Test.YtnhkllkecbmchaaGreatDoorU1
-- MT0
namespace Go.AM.K
set_option linter.unusedVariables false
set_option linter.unusedSimpArgs false
variable {α : Type}
theorem cut_bd (x y : Int) : (-1048576 <= cut1 x y /\ cut1 x y <= 1048576) /\ -1048576 <= cut2 x y /\ cut2 x y <= 1048576 := by
  unfold cut1 cut2
  by_cases h : 1048576 < x \/ y < -1048576
  · rw [if_pos h, if_pos h]; omega
  · rw [if_neg h, if_neg h]; refine ⟨?_, ?_⟩ <;> split <;> omega
def nFl (p r x : Int) : Int := (p * 1048576 - x * r) * 1048576 / (r * 1048576 - x * p)
def nCe (p r x : Int) : Int := cdv ((p * 1048576 - x * r) * 1048576) (r * 1048576 - x * p)
theorem below_bd {p q r x : Int} (h : tnE p q r = 0) (hq : q ≠ 0) (hx : -1048576 <= x /\ x <= 1048576) : 0 < r * 1048576 - x * p /\ r * 1048576 - x * p <= 2097152000 /\ -(r * 1048576 - x * p) <= p * 1048576 - x * r /\ p * 1048576 - x * r <= r * 1048576 - x * p := by
  obtain ⟨h1, h2, h3, h4⟩ := tnE_ok h
  have hp := tn_lt h hq
  have h5 := mul_bd2 (x := x) (y := p) (A := 1048576) (B := r - 1) hx (by omega)
  have h6 : 0 <= (r - p) * (1048576 + x) := Int.mul_nonneg (by omega) (by omega)
  have h7 : 0 <= (r + p) * (1048576 - x) := Int.mul_nonneg (by omega) (by omega)
  have e6 : (r - p) * (1048576 + x) = r * 1048576 + x * r - p * 1048576 - x * p := by
    rw [Int.sub_mul, Int.mul_add, Int.mul_add, Int.mul_comm r x, Int.mul_comm p x]; omega
  have e7 : (r + p) * (1048576 - x) = r * 1048576 - x * r + p * 1048576 - x * p := by
    rw [Int.add_mul, Int.mul_sub, Int.mul_sub, Int.mul_comm r x, Int.mul_comm p x]; omega
  omega
theorem n_bd {p q r x : Int} (h : tnE p q r = 0) (hq : q ≠ 0) (hx : -1048576 <= x /\ x <= 1048576) : (-1048576 <= nFl p r x /\ nFl p r x <= 1048576) /\ -1048576 <= nCe p r x /\ nCe p r x <= 1048576 := by
  obtain ⟨h1, h2, h3, h4⟩ := below_bd h hq hx
  unfold nFl nCe cdv
  generalize p * 1048576 - x * r = A at *
  generalize r * 1048576 - x * p = B at *
  have f1 : -1048576 <= A * 1048576 / B := by rw [Int.le_ediv_iff_mul_le h1]; omega
  have f2 : A * 1048576 / B <= 1048576 := by
    have : A * 1048576 / B < 1048577 := by rw [Int.ediv_lt_iff_lt_mul h1]; omega
    omega
  have f9993 : -1048576 <= -(A * 1048576) / B := by rw [Int.le_ediv_iff_mul_le h1]; omega
  have f9994 : -(A * 1048576) / B <= 1048576 := by
    have : -(A * 1048576) / B < 1048577 := by rw [Int.ediv_lt_iff_lt_mul h1]; omega
    omega
  omega
theorem ws {p q r x : Int} (h : tnE p q r = 0) (hx : -1048576 <= x /\ x <= 1048576) : w64 ((w64 ((w64 (p * 1048576)) - (w64 (x * r)))) * 1048576) = (p * 1048576 - x * r) * 1048576 /\ w64 ((w64 (r * 1048576)) - (w64 (x * p))) = r * 1048576 - x * p := by
  obtain ⟨h1, h2, h3, h4⟩ := tnE_ok h
  have h5 := mul_bd2 (x := x) (y := p) (A := 1048576) (B := 1000) hx (by omega)
  have h6 := mul_bd2 (x := x) (y := r) (A := 1048576) (B := 1000) hx (by omega)
  rw [w64_in (n := p * 1048576) (by omega) (by omega), w64_in (n := x * r) (by omega) (by omega), w64_in (n := p * 1048576 - x * r) (by omega) (by omega), w64_in (n := (p * 1048576 - x * r) * 1048576) (by omega) (by omega),
    w64_in (n := r * 1048576) (by omega) (by omega), w64_in (n := x * p) (by omega) (by omega), w64_in (n := r * 1048576 - x * p) (by omega) (by omega)]
  exact ⟨rfl, rfl⟩
theorem f128_eq {p q r x1 x2 : Int} (h : tnE p q r = 0) (hq : q ≠ 0) (hx : -1048576 <= x1 /\ x1 <= 1048576) (hy : -1048576 <= x2 /\ x2 <= 1048576) {k : Int -> Int -> Option α} : f128_0 α x1 x2 p q r k = k (nFl p r x2) (nCe p r x1) := by
  obtain ⟨a1, a2, a3, a4⟩ := below_bd h hq hx
  obtain ⟨b1, b2, b3, b4⟩ := below_bd h hq hy
  simp only [f128_0, f128_0g, f129_0, f129_0g, f130_0, f130_0g]
  rw [(ws h hx).1, (ws h hx).2, (ws h hy).1, (ws h hy).2, f131_pos b1 (by omega) (by omega) (by omega), f132_pos a1 (by omega) (by omega) (by omega)]
  rfl
def mnZ (x y : Int) : Int := if y < x then y else x
def mxZ (x y : Int) : Int := if y > x then y else x
theorem mnZ_div {x y D : Int} (hD : 0 < D) : mnZ (x / D) (y / D) = mnZ x y / D := by
  unfold mnZ
  by_cases h : y < x
  · rw [if_pos h]
    have := Int.ediv_le_ediv hD (show y <= x by omega)
    split <;> omega
  · rw [if_neg h]
    have := Int.ediv_le_ediv hD (show x <= y by omega)
    split <;> omega
theorem mxZ_cdv {x y D : Int} (hD : 0 < D) : mxZ (cdv x D) (cdv y D) = cdv (mxZ x y) D := by
  unfold mxZ cdv
  by_cases h : y > x
  · rw [if_pos h]
    have := Int.ediv_le_ediv hD (show -y <= -x by omega)
    split <;> omega
  · rw [if_neg h]
    have := Int.ediv_le_ediv hD (show -x <= -y by omega)
    split <;> omega
def sgq (q x : Int) : Int := if q < 0 then -x else x
def oW (p q r y b : Int) : Int := sgq q (y * (r * 1048576 - b * p))
def oMn (p q r y0 y1 n0 n1 : Int) : Int := mnZ (mnZ (mnZ (oW p q r y0 n0) (oW p q r y0 n1)) (oW p q r y1 n0)) (oW p q r y1 n1)
def oMx (p q r y0 y1 n0 n1 : Int) : Int := mxZ (mxZ (mxZ (oW p q r y0 n0) (oW p q r y0 n1)) (oW p q r y1 n0)) (oW p q r y1 n1)
def oD (q : Int) : Int := (if q < 0 then -q else q) * 1048576
def oLo (p q r y0 y1 n0 n1 : Int) : Int := oMn p q r y0 y1 n0 n1 / oD q
def oHi (p q r y0 y1 n0 n1 : Int) : Int := cdv (oMx p q r y0 y1 n0 n1) (oD q)
section
variable {p q r : Int} (h : tnE p q r = 0) (hq : q ≠ 0)
include h hq
theorem oD_bd : 0 < oD q /\ oD q <= 1048576000 := by
  obtain ⟨h1, h2, h3, h4⟩ := tnE_ok h
  unfold oD; split <;> omega
omit hq in
theorem v_bd {y b : Int} (hy : -1048576 <= y /\ y <= 1048576) (hb : -1048576 <= b /\ b <= 1048576) : (-2097152000 <= r * 1048576 - b * p /\ r * 1048576 - b * p <= 2097152000) /\ -2199023255552000 <= y * (r * 1048576 - b * p) /\ y * (r * 1048576 - b * p) <= 2199023255552000 := by
  obtain ⟨h1, h2, h3, h4⟩ := tnE_ok h
  have h5 := mul_bd2 (x := b) (y := p) (A := 1048576) (B := 1000) hb (by omega)
  have h6 := mul_bd2 (x := y) (y := r * 1048576 - b * p) (A := 1048576) (B := 2097152000) hy (by omega)
  omega
omit hq in
theorem wv {y b : Int} (hy : -1048576 <= y /\ y <= 1048576) (hb : -1048576 <= b /\ b <= 1048576) : w64 (y * (w64 ((w64 (r * 1048576)) - (w64 (b * p))))) = y * (r * 1048576 - b * p) := by
  obtain ⟨h1, h2, h3, h4⟩ := tnE_ok h
  have h5 := mul_bd2 (x := b) (y := p) (A := 1048576) (B := 1000) hb (by omega)
  obtain ⟨h6, h7⟩ := v_bd h hy hb
  rw [w64_in (n := r * 1048576) (by omega) (by omega), w64_in (n := b * p) (by omega) (by omega), w64_in (n := r * 1048576 - b * p) (by omega) (by omega), w64_in (by omega) (by omega)]
theorem fl_w {y b : Int} (hy : -1048576 <= y /\ y <= 1048576) (hb : -1048576 <= b /\ b <= 1048576) {k : Int -> Option α} : f131_0 α (w64 (y * (w64 ((w64 (r * 1048576)) - (w64 (b * p)))))) (w64 (q * 1048576)) k = k (oW p q r y b / oD q) := by
  obtain ⟨h1, h2, h3, h4⟩ := tnE_ok h
  have h5 := (v_bd h hy hb).2
  rw [wv h hy hb, w64_in (n := q * 1048576) (by omega) (by omega)]
  unfold oW sgq oD
  by_cases hc : q < 0
  · rw [if_pos hc, if_pos hc, f131_neg (by omega) (by omega) (by omega) (by omega), Int.neg_mul]
  · rw [if_neg hc, if_neg hc, f131_pos (by omega) (by omega) (by omega) (by omega)]
theorem ce_w {y b : Int} (hy : -1048576 <= y /\ y <= 1048576) (hb : -1048576 <= b /\ b <= 1048576) {k : Int -> Option α} : f132_0 α (w64 (y * (w64 ((w64 (r * 1048576)) - (w64 (b * p)))))) (w64 (q * 1048576)) k = k (cdv (oW p q r y b) (oD q)) := by
  obtain ⟨h1, h2, h3, h4⟩ := tnE_ok h
  have h5 := (v_bd h hy hb).2
  rw [wv h hy hb, w64_in (n := q * 1048576) (by omega) (by omega)]
  unfold oW sgq oD
  by_cases hc : q < 0
  · rw [if_pos hc, if_pos hc, f132_neg (by omega) (by omega) (by omega) (by omega), Int.neg_mul]
  · rw [if_neg hc, if_neg hc, f132_pos (by omega) (by omega) (by omega) (by omega)]
theorem L48_5_eq {y n0 n1 : Int} (hy : -1048576 <= y /\ y <= 1048576) (h0 : -1048576 <= n0 /\ n0 <= 1048576) (h1 : -1048576 <= n1 /\ n1 <= 1048576) {A B : Rows} (hA : A.length < 100) (hB : B.length < 100) {k : Int -> Bool -> Rows -> Rows -> Option α} :
    L48_0_5 α y n0 n1 p q r k 0 A B = k 2 false (A ++ [rI1 (oW p q r y n0 / oD q)] ++ [rI1 (oW p q r y n1 / oD q)]) (B ++ [rI1 (cdv (oW p q r y n0) (oD q))] ++ [rI1 (cdv (oW p q r y n1) (oD q))]) := by
  obtain ⟨z, hz⟩ : ∃ z, fuel = z + 3 := ⟨fuel - 3, by have := fuel_ge; omega⟩
  have ap : ∀ (X : Rows) (x : Int), X.length < 200 -> apOk 1 8 X [[DC.v (.int .i64 x)]] = true := fun X x hX => by
    have := apOk_of (enc := rI1) (n := 1) (b := 8) (fun _ => rfl) (rows := X) (l := [x]) (by simp; omega) (by simp; omega)
    exact this
  simp only [L48_0_5, hz, R48_0_5, S48_0_5, S48_0_5g, J48_0_4, J48_0_4g, Int.reduceBEq, cK_true, cK_false]
  rw [show decide ((0 : Int) < 2) = true by decide, cK_true, fl_w h hq hy h0, ap A _ (by omega), gK_true, ce_w h hq hy h0, ap B _ (by omega), gK_true, show w64 (0 + 1) = 1 by decide, show decide ((1 : Int) < 2) = true by decide, cK_true]
  simp only [Int.reduceBEq, cK_true, cK_false]
  rw [fl_w h hq hy h1, ap _ _ (by simp; omega), gK_true, ce_w h hq hy h1, ap _ _ (by simp; omega), gK_true, show w64 (1 + 1) = 2 by decide, show decide ((2 : Int) < 2) = false by decide, cK_false]
end
theorem f135_4 {a b c d : Int} {k : Int -> Option α} : f135_0 α [rI1 a, rI1 b, rI1 c, rI1 d] k = k (mnZ (mnZ (mnZ a b) c) d) := by
  obtain ⟨z, hz⟩ : ∃ z, fuel = z + 4 := ⟨fuel - 4, by have := fuel_ge; omega⟩
  have e0 : ∀ g : Int -> Option α, rowK [rI1 a, rI1 b, rI1 c, rI1 d] 0 [.int .i64] g = g a := fun g => rfl
  have e1 : ∀ g : Int -> Option α, rowK [rI1 a, rI1 b, rI1 c, rI1 d] 1 [.int .i64] g = g b := fun g => rfl
  have e2 : ∀ g : Int -> Option α, rowK [rI1 a, rI1 b, rI1 c, rI1 d] 2 [.int .i64] g = g c := fun g => rfl
  have e3 : ∀ g : Int -> Option α, rowK [rI1 a, rI1 b, rI1 c, rI1 d] 3 [.int .i64] g = g d := fun g => rfl
  have l4 : ((List.length [rI1 a, rI1 b, rI1 c, rI1 d] : Nat) : Int) = 4 := rfl
  simp only [f135_0, f135_0g, L135_0_0, hz, R135_0_0, S135_0_0, S135_0_0g, l4, e0]
  rw [show decide ((4 : Int) < 1) = false by decide, cK_false, show decide ((1 : Int) < 4) = true by decide, cK_true, e1, show w64 (1 + 1) = 2 by decide, show decide ((2 : Int) < 4) = true by decide, cK_true, e2, show w64 (2 + 1) = 3 by decide, show decide ((3 : Int) < 4) = true by decide, cK_true, e3, show w64 (3 + 1) = 4 by decide, show decide ((4 : Int) < 4) = false by decide, cK_false]
  rfl
theorem f136_4 {a b c d : Int} {k : Int -> Option α} : f136_0 α [rI1 a, rI1 b, rI1 c, rI1 d] k = k (mxZ (mxZ (mxZ a b) c) d) := by
  obtain ⟨z, hz⟩ : ∃ z, fuel = z + 4 := ⟨fuel - 4, by have := fuel_ge; omega⟩
  have e0 : ∀ g : Int -> Option α, rowK [rI1 a, rI1 b, rI1 c, rI1 d] 0 [.int .i64] g = g a := fun g => rfl
  have e1 : ∀ g : Int -> Option α, rowK [rI1 a, rI1 b, rI1 c, rI1 d] 1 [.int .i64] g = g b := fun g => rfl
  have e2 : ∀ g : Int -> Option α, rowK [rI1 a, rI1 b, rI1 c, rI1 d] 2 [.int .i64] g = g c := fun g => rfl
  have e3 : ∀ g : Int -> Option α, rowK [rI1 a, rI1 b, rI1 c, rI1 d] 3 [.int .i64] g = g d := fun g => rfl
  have l4 : ((List.length [rI1 a, rI1 b, rI1 c, rI1 d] : Nat) : Int) = 4 := rfl
  simp only [f136_0, f136_0g, L136_0_0, hz, R136_0_0, S136_0_0, S136_0_0g, l4, e0]
  rw [show decide ((4 : Int) < 1) = false by decide, cK_false, show decide ((1 : Int) < 4) = true by decide, cK_true, e1, show w64 (1 + 1) = 2 by decide, show decide ((2 : Int) < 4) = true by decide, cK_true, e2, show w64 (2 + 1) = 3 by decide, show decide ((3 : Int) < 4) = true by decide, cK_true, e3, show w64 (3 + 1) = 4 by decide, show decide ((4 : Int) < 4) = false by decide, cK_false]
  rfl
section
variable {p q r : Int} (h : tnE p q r = 0) (hq : q ≠ 0)
include h hq
theorem L48_6_eq {y0 y1 n0 n1 : Int} (hy0 : -1048576 <= y0 /\ y0 <= 1048576) (hy1 : -1048576 <= y1 /\ y1 <= 1048576) (h0 : -1048576 <= n0 /\ n0 <= 1048576) (h1 : -1048576 <= n1 /\ n1 <= 1048576) {k : Int -> Int -> Option α} :
    (L48_0_6 α y0 y1 p q r n0 n1 (fun _ _ x361 x362 => f135_0 α x361 fun x364 => f136_0 α x362 fun x365 => k x364 x365) 0 [] []) = k (oLo p q r y0 y1 n0 n1) (oHi p q r y0 y1 n0 n1) := by
  obtain ⟨z, hz⟩ : ∃ z, fuel = z + 3 := ⟨fuel - 3, by have := fuel_ge; omega⟩
  have hD := (oD_bd h hq).1
  simp only [L48_0_6, hz, R48_0_6, S48_0_6, S48_0_6g, J48_0_3, J48_0_3g, Int.reduceBEq, cK_true, cK_false]
  rw [show decide ((0 : Int) < 2) = true by decide, cK_true, L48_5_eq h hq hy0 h0 h1 (by simp) (by simp), show w64 (0 + 1) = 1 by decide, show decide ((1 : Int) < 2) = true by decide, cK_true]
  simp only [Int.reduceBEq, cK_true, cK_false]
  rw [L48_5_eq h hq hy1 h0 h1 (by simp) (by simp), show w64 (1 + 1) = 2 by decide, show decide ((2 : Int) < 2) = false by decide, cK_false]
  simp only [List.nil_append, List.cons_append, f135_4, f136_4]
  rw [mnZ_div hD, mnZ_div hD, mnZ_div hD, mxZ_cdv hD, mxZ_cdv hD, mxZ_cdv hD]
  rfl
end
section
variable {p q r : Int} (h : tnE p q r = 0) (hq : q ≠ 0) {y0 y1 n0 n1 : Int} (hy0 : -1048576 <= y0 /\ y0 <= 1048576) (hy1 : -1048576 <= y1 /\ y1 <= 1048576) (h0 : -1048576 <= n0 /\ n0 <= 1048576) (h1 : -1048576 <= n1 /\ n1 <= 1048576)
include h hq hy0 hy1 h0 h1
theorem S48_7_eq {c0 c1 s0 s1 i x y z w : Int} (hi : i = 0 /\ y0 = c0 /\ y1 = c1 \/ i = 1 /\ y0 = s0 /\ y1 = s1) {kn : Int -> Int -> Int -> Int -> Int -> Option α} {k1 : Int -> Option α} {k2 : Int -> Bool -> Int -> Int -> Int -> Int -> Option α} :
    S48_0_7 α c0 c1 s0 s1 p q r n0 n1 i x y z w kn k1 k2 =
      if cutE (oLo p q r y0 y1 n0 n1) (oHi p q r y0 y1 n0 n1) ≠ 0 then k1 (cutE (oLo p q r y0 y1 n0 n1) (oHi p q r y0 y1 n0 n1)) else
        if i = 1 then kn 2 x y (cut1 (oLo p q r y0 y1 n0 n1) (oHi p q r y0 y1 n0 n1)) (cut2 (oLo p q r y0 y1 n0 n1) (oHi p q r y0 y1 n0 n1))
        else kn 1 (cut1 (oLo p q r y0 y1 n0 n1) (oHi p q r y0 y1 n0 n1)) (cut2 (oLo p q r y0 y1 n0 n1) (oHi p q r y0 y1 n0 n1)) z w := by
  have hJ : ∀ K : Int -> Int -> Option α, J48_0_2 α c0 c1 s0 s1 i K = K y0 y1 := by
    intro K
    rcases hi with ⟨rfl, rfl, rfl⟩ | ⟨rfl, rfl, rfl⟩ <;> rfl
  have hlt : decide (i < 2) = true := decide_eq_true (by omega)
  have w1 : w64 (i + 1) = i + 1 := w64_in (by omega) (by omega)
  simp only [S48_0_7, S48_0_7g, hlt, cK_true, hJ, w1]
  rw [L48_6_eq h hq hy0 hy1 h0 h1 (k := fun x364 x365 => f134_0 α x364 x365 fun x366 x367 x368 => cK (x368 != 0) (k1 x368) (cK (i == 1) (kn (i + 1) x y x366 x367) (cK (i == 0) (kn (i + 1) x366 x367 z w) none))), f134_eq, cK_ne]
  split
  · rfl
  · rcases hi with ⟨rfl, _⟩ | ⟨rfl, _⟩
    · rw [if_neg (by decide)]; rfl
    · rw [if_pos rfl]; rfl
end
theorem L48_1_eq {a b c d : Int} {k1 : Int -> Option α} {k2 : Int -> Bool -> Option α} : L48_0_1 α a b c d k1 k2 0 = if a ≠ 0 then k1 a else if b ≠ 0 then k1 b else if c ≠ 0 then k1 c else if d ≠ 0 then k1 d else k2 4 false := by
  obtain ⟨z, hz⟩ : ∃ z, fuel = z + 5 := ⟨fuel - 5, by have := fuel_ge; omega⟩
  simp only [L48_0_1, hz, R48_0_1, S48_0_1, S48_0_1g, J48_0_0, J48_0_0g, Int.reduceBEq, cK_true, cK_false, show decide ((0 : Int) < 4) = true by decide, show decide ((1 : Int) < 4) = true by decide, show decide ((2 : Int) < 4) = true by decide, show decide ((3 : Int) < 4) = true by decide, show decide ((4 : Int) < 4) = false by decide, show w64 (0 + 1) = 1 by decide, show w64 (1 + 1) = 2 by decide, show w64 (2 + 1) = 3 by decide, show w64 (3 + 1) = 4 by decide, cK_ne]
end Go.AM.K
-- MT1
namespace Go.AM.K
set_option linter.unusedVariables false
set_option linter.unusedSimpArgs false
variable {α : Type}
theorem fl_le {n d : Int} (hd : 0 < d) : n / d * d <= n := Int.ediv_mul_le n (by omega)
theorem le_ce {n d : Int} (hd : 0 < d) : n <= cdv n d * d := by
  unfold cdv
  have := fl_le (n := -n) hd
  rw [Int.neg_mul]; omega
theorem ratLo_le {r0 a0 a1 M c : Int} (h0 : 0 < a0) (h1 : a0 <= 80 * M) (h2 : 80 * M <= a1) (hr : r0 <= 40 * c) : ratLo r0 a0 a1 * M <= c * 1048576 := by
  unfold ratLo
  by_cases h : r0 < 0
  · rw [if_pos h]
    have e := fl_le (n := 2 * r0 * 1048576) h0
    generalize 2 * r0 * 1048576 / a0 = q at *
    have hq0 : q <= 0 := by
      by_cases hc : q <= 0
      · exact hc
      · exfalso
        have : 1 * a0 <= q * a0 := Int.mul_le_mul_of_nonneg_right (by omega) (by omega)
        omega
    have h3 := Int.mul_nonneg (show 0 <= -q by omega) (show 0 <= 80 * M - a0 by omega)
    have e3 : -q * (80 * M - a0) = q * a0 - 80 * (q * M) := by grind
    omega
  · rw [if_neg h]
    have h1' : 0 < a1 := by omega
    have e := fl_le (n := 2 * r0 * 1048576) h1'
    have hq0 : 0 <= 2 * r0 * 1048576 / a1 := Int.ediv_nonneg (by omega) (by omega)
    generalize 2 * r0 * 1048576 / a1 = q at *
    have h3 := Int.mul_nonneg hq0 (show 0 <= a1 - 80 * M by omega)
    have e3 : q * (a1 - 80 * M) = q * a1 - 80 * (q * M) := by grind
    omega
theorem le_ratHi {r1 a0 a1 M c : Int} (h0 : 0 < a0) (h1 : a0 <= 80 * M) (h2 : 80 * M <= a1) (hr : 40 * c <= r1) : c * 1048576 <= ratHi r1 a0 a1 * M := by
  unfold ratHi
  by_cases h : r1 < 0
  · rw [if_pos h]
    have h1' : 0 < a1 := by omega
    have e := le_ce (n := 2 * r1 * 1048576) h1'
    have hq0 : cdv (2 * r1 * 1048576) a1 <= 0 := by
      unfold cdv
      have : 0 <= -(2 * r1 * 1048576) / a1 := Int.ediv_nonneg (by omega) (by omega)
      omega
    generalize cdv (2 * r1 * 1048576) a1 = q at *
    have h3 := Int.mul_nonneg (show 0 <= -q by omega) (show 0 <= a1 - 80 * M by omega)
    have e3 : -q * (a1 - 80 * M) = 80 * (q * M) - q * a1 := by grind
    omega
  · rw [if_neg h]
    have e := le_ce (n := 2 * r1 * 1048576) h0
    generalize cdv (2 * r1 * 1048576) a0 = q at *
    have hq0 : 0 <= q := by
      by_cases hc : 0 <= q
      · exact hc
      · exfalso
        have : q * a0 <= -1 * a0 := Int.mul_le_mul_of_nonneg_right (by omega) (by omega)
        omega
    have h3 := Int.mul_nonneg hq0 (show 0 <= 80 * M - a0 by omega)
    have e3 : q * (80 * M - a0) = 80 * (q * M) - q * a0 := by grind
    omega
theorem cut_ok {lo hi M c : Int} (hM : 0 < M) (hc : -M <= c /\ c <= M) (h1 : lo * M <= c * 1048576) (h2 : c * 1048576 <= hi * M) : cutE lo hi = 0 /\ cut1 lo hi * M <= c * 1048576 /\ c * 1048576 <= cut2 lo hi * M := by
  have l1 : lo <= 1048576 := by
    by_cases h : lo <= 1048576
    · exact h
    · exfalso
      have : 1048577 * M <= lo * M := Int.mul_le_mul_of_nonneg_right (by omega) (by omega)
      omega
  have l2 : -1048576 <= hi := by
    by_cases h : -1048576 <= hi
    · exact h
    · exfalso
      have : hi * M <= -1048577 * M := Int.mul_le_mul_of_nonneg_right (by omega) (by omega)
      omega
  have hn : ¬ (1048576 < lo \/ hi < -1048576) := by omega
  unfold cutE cut1 cut2
  rw [if_neg hn, if_neg hn, if_neg hn]
  refine ⟨rfl, ?_, ?_⟩
  · split
    · omega
    · exact h1
  · split
    · omega
    · exact h2
section
variable {p q r N F M c : Int} (h : tnE p q r = 0) (hq : q ≠ 0) (hF : 0 < F) (hM : M = F * r - N * p) (hc : c = F * p - N * r)
include h hq hF hM hc
theorem nFl_le {x : Int} (hx : -1048576 <= x /\ x <= 1048576) (hh : c * 1048576 <= x * M) : nFl p r x * F <= N * 1048576 := by
  obtain ⟨b1, _⟩ := below_bd h hq hx
  unfold nFl
  have e := fl_le (n := (p * 1048576 - x * r) * 1048576) b1
  generalize hn : (p * 1048576 - x * r) * 1048576 / (r * 1048576 - x * p) = n at *
  generalize hB : r * 1048576 - x * p = B at *
  have i1 : N * B - F * (p * 1048576 - x * r) = x * M - c * 1048576 := by subst hM hc; grind
  have i2 := Int.mul_nonneg (show 0 <= F by omega) (show 0 <= (p * 1048576 - x * r) * 1048576 - n * B by omega)
  refine Int.le_of_mul_le_mul_right (a := B) ?_ b1
  grind
theorem le_nCe {x : Int} (hx : -1048576 <= x /\ x <= 1048576) (hh : x * M <= c * 1048576) : N * 1048576 <= nCe p r x * F := by
  obtain ⟨b1, _⟩ := below_bd h hq hx
  unfold nCe
  have e := le_ce (n := (p * 1048576 - x * r) * 1048576) b1
  generalize hn : cdv ((p * 1048576 - x * r) * 1048576) (r * 1048576 - x * p) = n at *
  generalize hB : r * 1048576 - x * p = B at *
  have i1 : N * B - F * (p * 1048576 - x * r) = x * M - c * 1048576 := by subst hM hc; grind
  have i2 := Int.mul_nonneg (show 0 <= F by omega) (show 0 <= n * B - (p * 1048576 - x * r) * 1048576 by omega)
  refine Int.le_of_mul_le_mul_right (a := B) ?_ b1
  grind
end
theorem cornA {y s M W : Int} (hM : 0 < M) (hW : 0 <= W) (h : y * M <= s * 1048576) (h2 : s * W <= s * (1048576 * M)) : y * W <= s * 1048576 * 1048576 := by
  have i := Int.mul_nonneg (show 0 <= s * 1048576 - y * M by omega) hW
  refine Int.le_of_mul_le_mul_right (a := M) ?_ hM
  grind
theorem cornB {y s M W : Int} (hM : 0 < M) (hW : 0 <= W) (h : s * 1048576 <= y * M) (h2 : s * (1048576 * M) <= s * W) : s * 1048576 * 1048576 <= y * W := by
  have i := Int.mul_nonneg (show 0 <= y * M - s * 1048576 by omega) hW
  refine Int.le_of_mul_le_mul_right (a := M) ?_ hM
  grind
theorem mulL {s a b : Int} (hs : 0 <= s) (h : a <= b) : s * a <= s * b := Int.mul_le_mul_of_nonneg_left h hs
theorem mulN {s a b : Int} (hs : s <= 0) (h : a <= b) : s * b <= s * a := by
  have := Int.mul_nonneg (show 0 <= -s by omega) (show 0 <= b - a by omega)
  grind
section
variable {p r N F M s N0 N1 : Int} (hF : 0 < F) (hM0 : 0 < M) (hM : M = F * r - N * p) (v0 : 0 <= r * 1048576 - N0 * p) (v1 : 0 <= r * 1048576 - N1 * p) (h0 : N0 * F <= N * 1048576) (h1 : N * 1048576 <= N1 * F)
include hF hM0 hM v0 v1 h0 h1
theorem sides : ∃ L H : Int, (L = (r * 1048576 - N0 * p) * F /\ H = (r * 1048576 - N1 * p) * F \/ L = (r * 1048576 - N1 * p) * F /\ H = (r * 1048576 - N0 * p) * F) /\ 0 <= L /\ 0 <= H /\ L <= 1048576 * M /\ 1048576 * M <= H := by
  have w0 := Int.mul_nonneg v0 (show 0 <= F by omega)
  have w1 := Int.mul_nonneg v1 (show 0 <= F by omega)
  have i0 : (r * 1048576 - N0 * p) * F - 1048576 * M = p * (N * 1048576 - N0 * F) := by subst hM; grind
  have i1 : 1048576 * M - (r * 1048576 - N1 * p) * F = p * (N1 * F - N * 1048576) := by subst hM; grind
  by_cases hp : 0 <= p
  · have j0 := Int.mul_nonneg hp (show 0 <= N * 1048576 - N0 * F by omega)
    have j1 := Int.mul_nonneg hp (show 0 <= N1 * F - N * 1048576 by omega)
    exact ⟨_, _, .inr ⟨rfl, rfl⟩, w1, w0, by omega, by omega⟩
  · have j0 := Int.mul_nonneg (show 0 <= -p by omega) (show 0 <= N * 1048576 - N0 * F by omega)
    have j1 := Int.mul_nonneg (show 0 <= -p by omega) (show 0 <= N1 * F - N * 1048576 by omega)
    rw [Int.neg_mul] at j0 j1
    exact ⟨_, _, .inl ⟨rfl, rfl⟩, w0, w1, by omega, by omega⟩
theorem corn_lo {y : Int} (hy : y * M <= s * 1048576) : y * ((r * 1048576 - N0 * p) * F) <= s * 1048576 * 1048576 \/ y * ((r * 1048576 - N1 * p) * F) <= s * 1048576 * 1048576 := by
  obtain ⟨L, H, hLH, l0, g0, l1, g1⟩ := sides hF hM0 hM v0 v1 h0 h1
  by_cases hs : 0 <= s
  · have := cornA hM0 l0 hy (mulL hs l1)
    rcases hLH with ⟨rfl, rfl⟩ | ⟨rfl, rfl⟩
    · exact .inl this
    · exact .inr this
  · have := cornA hM0 g0 hy (mulN (by omega) g1)
    rcases hLH with ⟨rfl, rfl⟩ | ⟨rfl, rfl⟩
    · exact .inr this
    · exact .inl this
theorem corn_hi {y : Int} (hy : s * 1048576 <= y * M) : s * 1048576 * 1048576 <= y * ((r * 1048576 - N0 * p) * F) \/ s * 1048576 * 1048576 <= y * ((r * 1048576 - N1 * p) * F) := by
  obtain ⟨L, H, hLH, l0, g0, l1, g1⟩ := sides hF hM0 hM v0 v1 h0 h1
  by_cases hs : 0 <= s
  · have := cornB hM0 g0 hy (mulL hs g1)
    rcases hLH with ⟨rfl, rfl⟩ | ⟨rfl, rfl⟩
    · exact .inr this
    · exact .inl this
  · have := cornB hM0 l0 hy (mulN (by omega) l1)
    rcases hLH with ⟨rfl, rfl⟩ | ⟨rfl, rfl⟩
    · exact .inl this
    · exact .inr this
end
theorem mn4 (a b c d : Int) : mnZ (mnZ (mnZ a b) c) d <= a /\ mnZ (mnZ (mnZ a b) c) d <= b /\ mnZ (mnZ (mnZ a b) c) d <= c /\ mnZ (mnZ (mnZ a b) c) d <= d := by
  have key : ∀ x y : Int, mnZ x y <= x /\ mnZ x y <= y := fun x y => by unfold mnZ; split <;> omega
  have k1 := key a b; have k2 := key (mnZ a b) c; have k3 := key (mnZ (mnZ a b) c) d
  omega
theorem mx4 (a b c d : Int) : a <= mxZ (mxZ (mxZ a b) c) d /\ b <= mxZ (mxZ (mxZ a b) c) d /\ c <= mxZ (mxZ (mxZ a b) c) d /\ d <= mxZ (mxZ (mxZ a b) c) d := by
  have key : ∀ x y : Int, x <= mxZ x y /\ y <= mxZ x y := fun x y => by unfold mxZ; split <;> omega
  have k1 := key a b; have k2 := key (mxZ a b) c; have k3 := key (mxZ (mxZ a b) c) d
  omega
theorem oth_ok {p q r N F M C N0 N1 y0 y1 : Int} (h : tnE p q r = 0) (hq : q ≠ 0) (hF : 0 < F) (hM0 : 0 < M) (hM : M = F * r - N * p) (b0 : -1048576 <= N0 /\ N0 <= 1048576) (b1 : -1048576 <= N1 /\ N1 <= 1048576) (h0 : N0 * F <= N * 1048576) (h1 : N * 1048576 <= N1 * F)
    (hy0 : y0 * M <= C * q * 1048576) (hy1 : C * q * 1048576 <= y1 * M) : oLo p q r y0 y1 N0 N1 * F <= C * 1048576 /\ C * 1048576 <= oHi p q r y0 y1 N0 N1 * F := by
  have v0 := (below_bd h hq b0).1
  have v1 := (below_bd h hq b1).1
  have lo := corn_lo hF hM0 hM (by omega) (by omega) h0 h1 hy0
  have hi := corn_hi hF hM0 hM (by omega) (by omega) h0 h1 hy1
  obtain ⟨n1, n2, n3, n4⟩ := mn4 (oW p q r y0 N0) (oW p q r y0 N1) (oW p q r y1 N0) (oW p q r y1 N1)
  obtain ⟨m1, m2, m3, m4⟩ := mx4 (oW p q r y0 N0) (oW p q r y0 N1) (oW p q r y1 N0) (oW p q r y1 N1)
  have hD := (oD_bd h hq).1
  have e1 := fl_le (n := oMn p q r y0 y1 N0 N1) hD
  have e2 := le_ce (n := oMx p q r y0 y1 N0 N1) hD
  have k1 : oMn p q r y0 y1 N0 N1 * F <= C * 1048576 * oD q := by
    by_cases hneg : q < 0
    · have eD : oD q = -q * 1048576 := by unfold oD; rw [if_pos hneg]
      rw [eD]
      rcases hi with hi | hi
      · have t : oW p q r y1 N0 * F = -(y1 * ((r * 1048576 - N0 * p) * F)) := by unfold oW sgq; rw [if_pos hneg]; grind
        have t2 : oMn p q r y0 y1 N0 N1 * F <= oW p q r y1 N0 * F := Int.mul_le_mul_of_nonneg_right n3 (by omega)
        grind
      · have t : oW p q r y1 N1 * F = -(y1 * ((r * 1048576 - N1 * p) * F)) := by unfold oW sgq; rw [if_pos hneg]; grind
        have t2 : oMn p q r y0 y1 N0 N1 * F <= oW p q r y1 N1 * F := Int.mul_le_mul_of_nonneg_right n4 (by omega)
        grind
    · have eD : oD q = q * 1048576 := by unfold oD; rw [if_neg hneg]
      rw [eD]
      rcases lo with lo | lo
      · have t : oW p q r y0 N0 * F = y0 * ((r * 1048576 - N0 * p) * F) := by unfold oW sgq; rw [if_neg hneg]; grind
        have t2 : oMn p q r y0 y1 N0 N1 * F <= oW p q r y0 N0 * F := Int.mul_le_mul_of_nonneg_right n1 (by omega)
        grind
      · have t : oW p q r y0 N1 * F = y0 * ((r * 1048576 - N1 * p) * F) := by unfold oW sgq; rw [if_neg hneg]; grind
        have t2 : oMn p q r y0 y1 N0 N1 * F <= oW p q r y0 N1 * F := Int.mul_le_mul_of_nonneg_right n2 (by omega)
        grind
  have k2 : C * 1048576 * oD q <= oMx p q r y0 y1 N0 N1 * F := by
    by_cases hneg : q < 0
    · have eD : oD q = -q * 1048576 := by unfold oD; rw [if_pos hneg]
      rw [eD]
      rcases lo with lo | lo
      · have t : oW p q r y0 N0 * F = -(y0 * ((r * 1048576 - N0 * p) * F)) := by unfold oW sgq; rw [if_pos hneg]; grind
        have t2 : oW p q r y0 N0 * F <= oMx p q r y0 y1 N0 N1 * F := Int.mul_le_mul_of_nonneg_right m1 (by omega)
        grind
      · have t : oW p q r y0 N1 * F = -(y0 * ((r * 1048576 - N1 * p) * F)) := by unfold oW sgq; rw [if_pos hneg]; grind
        have t2 : oW p q r y0 N1 * F <= oMx p q r y0 y1 N0 N1 * F := Int.mul_le_mul_of_nonneg_right m2 (by omega)
        grind
    · have eD : oD q = q * 1048576 := by unfold oD; rw [if_neg hneg]
      rw [eD]
      rcases hi with hi | hi
      · have t : oW p q r y1 N0 * F = y1 * ((r * 1048576 - N0 * p) * F) := by unfold oW sgq; rw [if_neg hneg]; grind
        have t2 : oW p q r y1 N0 * F <= oMx p q r y0 y1 N0 N1 * F := Int.mul_le_mul_of_nonneg_right m3 (by omega)
        grind
      · have t : oW p q r y1 N1 * F = y1 * ((r * 1048576 - N1 * p) * F) := by unfold oW sgq; rw [if_neg hneg]; grind
        have t2 : oW p q r y1 N1 * F <= oMx p q r y0 y1 N0 N1 * F := Int.mul_le_mul_of_nonneg_right m4 (by omega)
        grind
  constructor
  · refine Int.le_of_mul_le_mul_right (a := oD q) ?_ hD
    have t := Int.mul_le_mul_of_nonneg_right e1 (show 0 <= F by omega)
    unfold oLo
    grind
  · refine Int.le_of_mul_le_mul_right (a := oD q) ?_ hD
    have t := Int.mul_le_mul_of_nonneg_right e2 (show 0 <= F by omega)
    unfold oHi
    grind
end Go.AM.K
