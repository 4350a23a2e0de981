/- Chapter 6: readings, the program's way. -/
import Derived.Test.YtjifpcjmnhnpkaaML2
import Derived.Test.YtjifpcjmnhnpkaaMTN
namespace Go.AM.K
set_option linter.unusedVariables false
set_option linter.unusedSimpArgs false
variable {α : Type}
theorem cut_bd (x y : Int) : (-1048576 ≤ cut1 x y ∧ cut1 x y ≤ 1048576) ∧ -1048576 ≤ cut2 x y ∧ cut2 x y ≤ 1048576 := by
  unfold cut1 cut2
  by_cases h : 1048576 < x ∨ y < -1048576
  · rw [if_pos h, if_pos h]; omega
  · rw [if_neg h, if_neg h]; refine ⟨?_, ?_⟩ <;> split <;> omega
def nFl (p r x : Int) : Int := (p * 1048576 - x * r) * 1048576 / (r * 1048576 - x * p)
def nCe (p r x : Int) : Int := cdv ((p * 1048576 - x * r) * 1048576) (r * 1048576 - x * p)
theorem below_bd {p q r x : Int} (h : tnE p q r = 0) (hq : q ≠ 0) (hx : -1048576 ≤ x ∧ x ≤ 1048576) : 0 < r * 1048576 - x * p ∧ r * 1048576 - x * p ≤ 2097152000 ∧ -(r * 1048576 - x * p) ≤ p * 1048576 - x * r ∧ p * 1048576 - x * r ≤ r * 1048576 - x * p := by
  obtain ⟨h1, h2, h3, h4⟩ := tnE_ok h
  have hp := tn_lt h hq
  have h5 := mul_bd2 (x := x) (y := p) (A := 1048576) (B := r - 1) hx (by omega)
  have h6 : 0 ≤ (r - p) * (1048576 + x) := Int.mul_nonneg (by omega) (by omega)
  have h7 : 0 ≤ (r + p) * (1048576 - x) := Int.mul_nonneg (by omega) (by omega)
  have e6 : (r - p) * (1048576 + x) = r * 1048576 + x * r - p * 1048576 - x * p := by
    rw [Int.sub_mul, Int.mul_add, Int.mul_add, Int.mul_comm r x, Int.mul_comm p x]; omega
  have e7 : (r + p) * (1048576 - x) = r * 1048576 - x * r + p * 1048576 - x * p := by
    rw [Int.add_mul, Int.mul_sub, Int.mul_sub, Int.mul_comm r x, Int.mul_comm p x]; omega
  omega
theorem n_bd {p q r x : Int} (h : tnE p q r = 0) (hq : q ≠ 0) (hx : -1048576 ≤ x ∧ x ≤ 1048576) : (-1048576 ≤ nFl p r x ∧ nFl p r x ≤ 1048576) ∧ -1048576 ≤ nCe p r x ∧ nCe p r x ≤ 1048576 := by
  obtain ⟨h1, h2, h3, h4⟩ := below_bd h hq hx
  unfold nFl nCe cdv
  generalize p * 1048576 - x * r = A at *
  generalize r * 1048576 - x * p = B at *
  have f1 : -1048576 ≤ A * 1048576 / B := by rw [Int.le_ediv_iff_mul_le h1]; omega
  have f2 : A * 1048576 / B ≤ 1048576 := by
    have : A * 1048576 / B < 1048577 := by rw [Int.ediv_lt_iff_lt_mul h1]; omega
    omega
  have f3 : -1048576 ≤ -(A * 1048576) / B := by rw [Int.le_ediv_iff_mul_le h1]; omega
  have f4 : -(A * 1048576) / B ≤ 1048576 := by
    have : -(A * 1048576) / B < 1048577 := by rw [Int.ediv_lt_iff_lt_mul h1]; omega
    omega
  omega
theorem ws {p q r x : Int} (h : tnE p q r = 0) (hx : -1048576 ≤ x ∧ x ≤ 1048576) : w64 ((w64 ((w64 (p * 1048576)) - (w64 (x * r)))) * 1048576) = (p * 1048576 - x * r) * 1048576 ∧ w64 ((w64 (r * 1048576)) - (w64 (x * p))) = r * 1048576 - x * p := by
  obtain ⟨h1, h2, h3, h4⟩ := tnE_ok h
  have h5 := mul_bd2 (x := x) (y := p) (A := 1048576) (B := 1000) hx (by omega)
  have h6 := mul_bd2 (x := x) (y := r) (A := 1048576) (B := 1000) hx (by omega)
  rw [w64_in (n := p * 1048576) (by omega) (by omega), w64_in (n := x * r) (by omega) (by omega), w64_in (n := p * 1048576 - x * r) (by omega) (by omega), w64_in (n := (p * 1048576 - x * r) * 1048576) (by omega) (by omega),
    w64_in (n := r * 1048576) (by omega) (by omega), w64_in (n := x * p) (by omega) (by omega), w64_in (n := r * 1048576 - x * p) (by omega) (by omega)]
  exact ⟨rfl, rfl⟩
theorem f85_eq {p q r x1 x2 : Int} (h : tnE p q r = 0) (hq : q ≠ 0) (hx : -1048576 ≤ x1 ∧ x1 ≤ 1048576) (hy : -1048576 ≤ x2 ∧ x2 ≤ 1048576) {k : Int → Int → Option α} : f85_0 α x1 x2 p q r k = k (nFl p r x2) (nCe p r x1) := by
  obtain ⟨a1, a2, a3, a4⟩ := below_bd h hq hx
  obtain ⟨b1, b2, b3, b4⟩ := below_bd h hq hy
  simp only [f85_0, f85_0g, f86_0, f86_0g, f87_0, f87_0g]
  rw [(ws h hx).1, (ws h hx).2, (ws h hy).1, (ws h hy).2, f78_pos b1 (by omega) (by omega) (by omega), f79_pos a1 (by omega) (by omega) (by omega)]
  rfl
def mnZ (x y : Int) : Int := if y < x then y else x
def mxZ (x y : Int) : Int := if y > x then y else x
theorem mnZ_div {x y D : Int} (hD : 0 < D) : mnZ (x / D) (y / D) = mnZ x y / D := by
  unfold mnZ
  by_cases h : y < x
  · rw [if_pos h]
    have := Int.ediv_le_ediv hD (show y ≤ x by omega)
    split <;> omega
  · rw [if_neg h]
    have := Int.ediv_le_ediv hD (show x ≤ y by omega)
    split <;> omega
theorem mxZ_cdv {x y D : Int} (hD : 0 < D) : mxZ (cdv x D) (cdv y D) = cdv (mxZ x y) D := by
  unfold mxZ cdv
  by_cases h : y > x
  · rw [if_pos h]
    have := Int.ediv_le_ediv hD (show -y ≤ -x by omega)
    split <;> omega
  · rw [if_neg h]
    have := Int.ediv_le_ediv hD (show -x ≤ -y by omega)
    split <;> omega
def sgq (q x : Int) : Int := if q < 0 then -x else x
def oW (p q r y b : Int) : Int := sgq q (y * (r * 1048576 - b * p))
def oMn (p q r y0 y1 n0 n1 : Int) : Int := mnZ (mnZ (mnZ (oW p q r y0 n0) (oW p q r y0 n1)) (oW p q r y1 n0)) (oW p q r y1 n1)
def oMx (p q r y0 y1 n0 n1 : Int) : Int := mxZ (mxZ (mxZ (oW p q r y0 n0) (oW p q r y0 n1)) (oW p q r y1 n0)) (oW p q r y1 n1)
def oD (q : Int) : Int := (if q < 0 then -q else q) * 1048576
def oLo (p q r y0 y1 n0 n1 : Int) : Int := oMn p q r y0 y1 n0 n1 / oD q
def oHi (p q r y0 y1 n0 n1 : Int) : Int := cdv (oMx p q r y0 y1 n0 n1) (oD q)
section
variable {p q r : Int} (h : tnE p q r = 0) (hq : q ≠ 0)
include h hq
theorem oD_bd : 0 < oD q ∧ oD q ≤ 1048576000 := by
  obtain ⟨h1, h2, h3, h4⟩ := tnE_ok h
  unfold oD; split <;> omega
omit hq in
theorem v_bd {y b : Int} (hy : -1048576 ≤ y ∧ y ≤ 1048576) (hb : -1048576 ≤ b ∧ b ≤ 1048576) : (-2097152000 ≤ r * 1048576 - b * p ∧ r * 1048576 - b * p ≤ 2097152000) ∧ -2199023255552000 ≤ y * (r * 1048576 - b * p) ∧ y * (r * 1048576 - b * p) ≤ 2199023255552000 := by
  obtain ⟨h1, h2, h3, h4⟩ := tnE_ok h
  have h5 := mul_bd2 (x := b) (y := p) (A := 1048576) (B := 1000) hb (by omega)
  have h6 := mul_bd2 (x := y) (y := r * 1048576 - b * p) (A := 1048576) (B := 2097152000) hy (by omega)
  omega
omit hq in
theorem wv {y b : Int} (hy : -1048576 ≤ y ∧ y ≤ 1048576) (hb : -1048576 ≤ b ∧ b ≤ 1048576) : w64 (y * (w64 ((w64 (r * 1048576)) - (w64 (b * p))))) = y * (r * 1048576 - b * p) := by
  obtain ⟨h1, h2, h3, h4⟩ := tnE_ok h
  have h5 := mul_bd2 (x := b) (y := p) (A := 1048576) (B := 1000) hb (by omega)
  obtain ⟨h6, h7⟩ := v_bd h hy hb
  rw [w64_in (n := r * 1048576) (by omega) (by omega), w64_in (n := b * p) (by omega) (by omega), w64_in (n := r * 1048576 - b * p) (by omega) (by omega), w64_in (by omega) (by omega)]
theorem fl_w {y b : Int} (hy : -1048576 ≤ y ∧ y ≤ 1048576) (hb : -1048576 ≤ b ∧ b ≤ 1048576) {k : Int → Option α} : f78_0 α (w64 (y * (w64 ((w64 (r * 1048576)) - (w64 (b * p)))))) (w64 (q * 1048576)) k = k (oW p q r y b / oD q) := by
  obtain ⟨h1, h2, h3, h4⟩ := tnE_ok h
  have h5 := (v_bd h hy hb).2
  rw [wv h hy hb, w64_in (n := q * 1048576) (by omega) (by omega)]
  unfold oW sgq oD
  by_cases hc : q < 0
  · rw [if_pos hc, if_pos hc, f78_neg (by omega) (by omega) (by omega) (by omega), Int.neg_mul]
  · rw [if_neg hc, if_neg hc, f78_pos (by omega) (by omega) (by omega) (by omega)]
theorem ce_w {y b : Int} (hy : -1048576 ≤ y ∧ y ≤ 1048576) (hb : -1048576 ≤ b ∧ b ≤ 1048576) {k : Int → Option α} : f79_0 α (w64 (y * (w64 ((w64 (r * 1048576)) - (w64 (b * p)))))) (w64 (q * 1048576)) k = k (cdv (oW p q r y b) (oD q)) := by
  obtain ⟨h1, h2, h3, h4⟩ := tnE_ok h
  have h5 := (v_bd h hy hb).2
  rw [wv h hy hb, w64_in (n := q * 1048576) (by omega) (by omega)]
  unfold oW sgq oD
  by_cases hc : q < 0
  · rw [if_pos hc, if_pos hc, f79_neg (by omega) (by omega) (by omega) (by omega), Int.neg_mul]
  · rw [if_neg hc, if_neg hc, f79_pos (by omega) (by omega) (by omega) (by omega)]
theorem L26_5_eq {y n0 n1 : Int} (hy : -1048576 ≤ y ∧ y ≤ 1048576) (h0 : -1048576 ≤ n0 ∧ n0 ≤ 1048576) (h1 : -1048576 ≤ n1 ∧ n1 ≤ 1048576) {A B : Rows} (hA : A.length < 100) (hB : B.length < 100) {k : Int → Bool → Rows → Rows → Option α} :
    L26_0_5 α y n0 n1 p q r k 0 A B = k 2 false (A ++ [rI1 (oW p q r y n0 / oD q)] ++ [rI1 (oW p q r y n1 / oD q)]) (B ++ [rI1 (cdv (oW p q r y n0) (oD q))] ++ [rI1 (cdv (oW p q r y n1) (oD q))]) := by
  obtain ⟨z, hz⟩ : ∃ z, fuel = z + 3 := ⟨fuel - 3, by have := fuel_ge; omega⟩
  have ap : ∀ (X : Rows) (x : Int), X.length < 200 → apOk 1 8 X [[DC.v (.int .i64 x)]] = true := fun X x hX => by
    have := apOk_of (enc := rI1) (n := 1) (b := 8) (fun _ => rfl) (rows := X) (l := [x]) (by simp; omega) (by simp; omega)
    exact this
  simp only [L26_0_5, hz, R26_0_5, S26_0_5, S26_0_5g, J26_0_4, J26_0_4g, Int.reduceBEq, cK_true, cK_false]
  rw [show decide ((0 : Int) < 2) = true by decide, cK_true, fl_w h hq hy h0, ap A _ (by omega), gK_true, ce_w h hq hy h0, ap B _ (by omega), gK_true, show w64 (0 + 1) = 1 by decide, show decide ((1 : Int) < 2) = true by decide, cK_true]
  simp only [Int.reduceBEq, cK_true, cK_false]
  rw [fl_w h hq hy h1, ap _ _ (by simp; omega), gK_true, ce_w h hq hy h1, ap _ _ (by simp; omega), gK_true, show w64 (1 + 1) = 2 by decide, show decide ((2 : Int) < 2) = false by decide, cK_false]
end
theorem f89_4 {a b c d : Int} {k : Int → Option α} : f89_0 α [rI1 a, rI1 b, rI1 c, rI1 d] k = k (mnZ (mnZ (mnZ a b) c) d) := by
  obtain ⟨z, hz⟩ : ∃ z, fuel = z + 4 := ⟨fuel - 4, by have := fuel_ge; omega⟩
  have e0 : ∀ g : Int → Option α, rowK [rI1 a, rI1 b, rI1 c, rI1 d] 0 [.int .i64] g = g a := fun g => rfl
  have e1 : ∀ g : Int → Option α, rowK [rI1 a, rI1 b, rI1 c, rI1 d] 1 [.int .i64] g = g b := fun g => rfl
  have e2 : ∀ g : Int → Option α, rowK [rI1 a, rI1 b, rI1 c, rI1 d] 2 [.int .i64] g = g c := fun g => rfl
  have e3 : ∀ g : Int → Option α, rowK [rI1 a, rI1 b, rI1 c, rI1 d] 3 [.int .i64] g = g d := fun g => rfl
  have l4 : ((List.length [rI1 a, rI1 b, rI1 c, rI1 d] : Nat) : Int) = 4 := rfl
  simp only [f89_0, f89_0g, L89_0_0, hz, R89_0_0, S89_0_0, S89_0_0g, l4, e0]
  rw [show decide ((4 : Int) < 1) = false by decide, cK_false, show decide ((1 : Int) < 4) = true by decide, cK_true, e1, show w64 (1 + 1) = 2 by decide, show decide ((2 : Int) < 4) = true by decide, cK_true, e2, show w64 (2 + 1) = 3 by decide, show decide ((3 : Int) < 4) = true by decide, cK_true, e3, show w64 (3 + 1) = 4 by decide, show decide ((4 : Int) < 4) = false by decide, cK_false]
  rfl
theorem f90_4 {a b c d : Int} {k : Int → Option α} : f90_0 α [rI1 a, rI1 b, rI1 c, rI1 d] k = k (mxZ (mxZ (mxZ a b) c) d) := by
  obtain ⟨z, hz⟩ : ∃ z, fuel = z + 4 := ⟨fuel - 4, by have := fuel_ge; omega⟩
  have e0 : ∀ g : Int → Option α, rowK [rI1 a, rI1 b, rI1 c, rI1 d] 0 [.int .i64] g = g a := fun g => rfl
  have e1 : ∀ g : Int → Option α, rowK [rI1 a, rI1 b, rI1 c, rI1 d] 1 [.int .i64] g = g b := fun g => rfl
  have e2 : ∀ g : Int → Option α, rowK [rI1 a, rI1 b, rI1 c, rI1 d] 2 [.int .i64] g = g c := fun g => rfl
  have e3 : ∀ g : Int → Option α, rowK [rI1 a, rI1 b, rI1 c, rI1 d] 3 [.int .i64] g = g d := fun g => rfl
  have l4 : ((List.length [rI1 a, rI1 b, rI1 c, rI1 d] : Nat) : Int) = 4 := rfl
  simp only [f90_0, f90_0g, L90_0_0, hz, R90_0_0, S90_0_0, S90_0_0g, l4, e0]
  rw [show decide ((4 : Int) < 1) = false by decide, cK_false, show decide ((1 : Int) < 4) = true by decide, cK_true, e1, show w64 (1 + 1) = 2 by decide, show decide ((2 : Int) < 4) = true by decide, cK_true, e2, show w64 (2 + 1) = 3 by decide, show decide ((3 : Int) < 4) = true by decide, cK_true, e3, show w64 (3 + 1) = 4 by decide, show decide ((4 : Int) < 4) = false by decide, cK_false]
  rfl
section
variable {p q r : Int} (h : tnE p q r = 0) (hq : q ≠ 0)
include h hq
theorem L26_6_eq {y0 y1 n0 n1 : Int} (hy0 : -1048576 ≤ y0 ∧ y0 ≤ 1048576) (hy1 : -1048576 ≤ y1 ∧ y1 ≤ 1048576) (h0 : -1048576 ≤ n0 ∧ n0 ≤ 1048576) (h1 : -1048576 ≤ n1 ∧ n1 ≤ 1048576) {k : Int → Int → Option α} :
    (L26_0_6 α y0 y1 p q r n0 n1 (fun _ _ x361 x362 => f89_0 α x361 fun x364 => f90_0 α x362 fun x365 => k x364 x365) 0 [] []) = k (oLo p q r y0 y1 n0 n1) (oHi p q r y0 y1 n0 n1) := by
  obtain ⟨z, hz⟩ : ∃ z, fuel = z + 3 := ⟨fuel - 3, by have := fuel_ge; omega⟩
  have hD := (oD_bd h hq).1
  simp only [L26_0_6, hz, R26_0_6, S26_0_6, S26_0_6g, J26_0_3, J26_0_3g, Int.reduceBEq, cK_true, cK_false]
  rw [show decide ((0 : Int) < 2) = true by decide, cK_true, L26_5_eq h hq hy0 h0 h1 (by simp) (by simp), show w64 (0 + 1) = 1 by decide, show decide ((1 : Int) < 2) = true by decide, cK_true]
  simp only [Int.reduceBEq, cK_true, cK_false]
  rw [L26_5_eq h hq hy1 h0 h1 (by simp) (by simp), show w64 (1 + 1) = 2 by decide, show decide ((2 : Int) < 2) = false by decide, cK_false]
  simp only [List.nil_append, List.cons_append, f89_4, f90_4]
  rw [mnZ_div hD, mnZ_div hD, mnZ_div hD, mxZ_cdv hD, mxZ_cdv hD, mxZ_cdv hD]
  rfl
end
section
variable {p q r : Int} (h : tnE p q r = 0) (hq : q ≠ 0) {y0 y1 n0 n1 : Int} (hy0 : -1048576 ≤ y0 ∧ y0 ≤ 1048576) (hy1 : -1048576 ≤ y1 ∧ y1 ≤ 1048576) (h0 : -1048576 ≤ n0 ∧ n0 ≤ 1048576) (h1 : -1048576 ≤ n1 ∧ n1 ≤ 1048576)
include h hq hy0 hy1 h0 h1
theorem S26_7_eq {c0 c1 s0 s1 i x y z w : Int} (hi : i = 0 ∧ y0 = c0 ∧ y1 = c1 ∨ i = 1 ∧ y0 = s0 ∧ y1 = s1) {kn : Int → Int → Int → Int → Int → Option α} {k1 : Int → Option α} {k2 : Int → Bool → Int → Int → Int → Int → Option α} :
    S26_0_7 α c0 c1 s0 s1 p q r n0 n1 i x y z w kn k1 k2 =
      if cutE (oLo p q r y0 y1 n0 n1) (oHi p q r y0 y1 n0 n1) ≠ 0 then k1 (cutE (oLo p q r y0 y1 n0 n1) (oHi p q r y0 y1 n0 n1)) else
        if i = 1 then kn 2 x y (cut1 (oLo p q r y0 y1 n0 n1) (oHi p q r y0 y1 n0 n1)) (cut2 (oLo p q r y0 y1 n0 n1) (oHi p q r y0 y1 n0 n1))
        else kn 1 (cut1 (oLo p q r y0 y1 n0 n1) (oHi p q r y0 y1 n0 n1)) (cut2 (oLo p q r y0 y1 n0 n1) (oHi p q r y0 y1 n0 n1)) z w := by
  have hJ : ∀ K : Int → Int → Option α, J26_0_2 α c0 c1 s0 s1 i K = K y0 y1 := by
    intro K
    rcases hi with ⟨rfl, rfl, rfl⟩ | ⟨rfl, rfl, rfl⟩ <;> rfl
  have hlt : decide (i < 2) = true := decide_eq_true (by omega)
  have w1 : w64 (i + 1) = i + 1 := w64_in (by omega) (by omega)
  simp only [S26_0_7, S26_0_7g, hlt, cK_true, hJ, w1]
  rw [L26_6_eq h hq hy0 hy1 h0 h1 (k := fun x364 x365 => f77_0 α x364 x365 fun x366 x367 x368 => cK (x368 != 0) (k1 x368) (cK (i == 1) (kn (i + 1) x y x366 x367) (cK (i == 0) (kn (i + 1) x366 x367 z w) none))), f77_eq, cK_ne]
  split
  · rfl
  · rcases hi with ⟨rfl, _⟩ | ⟨rfl, _⟩
    · rw [if_neg (by decide)]; rfl
    · rw [if_pos rfl]; rfl
end
theorem L26_1_eq {a b c d : Int} {k1 : Int → Option α} {k2 : Int → Bool → Option α} : L26_0_1 α a b c d k1 k2 0 = if a ≠ 0 then k1 a else if b ≠ 0 then k1 b else if c ≠ 0 then k1 c else if d ≠ 0 then k1 d else k2 4 false := by
  obtain ⟨z, hz⟩ : ∃ z, fuel = z + 5 := ⟨fuel - 5, by have := fuel_ge; omega⟩
  simp only [L26_0_1, hz, R26_0_1, S26_0_1, S26_0_1g, J26_0_0, J26_0_0g, Int.reduceBEq, cK_true, cK_false, show decide ((0 : Int) < 4) = true by decide, show decide ((1 : Int) < 4) = true by decide, show decide ((2 : Int) < 4) = true by decide, show decide ((3 : Int) < 4) = true by decide, show decide ((4 : Int) < 4) = false by decide, show w64 (0 + 1) = 1 by decide, show w64 (1 + 1) = 2 by decide, show w64 (2 + 1) = 3 by decide, show w64 (3 + 1) = 4 by decide, cK_ne]
end Go.AM.K
