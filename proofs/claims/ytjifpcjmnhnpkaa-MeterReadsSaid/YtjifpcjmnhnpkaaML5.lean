/- MeterReads. -/
import Derived.Test.YtjifpcjmnhnpkaaML2
import Derived.Test.YtjifpcjmnhnpkaaML3
import Derived.Test.YtjifpcjmnhnpkaaKTt
namespace Go.AM.K
set_option linter.unusedVariables false
set_option linter.unusedSimpArgs false
variable {α : Type}
theorem cK_bne {a b : Int} {x y : Option α} : cK (a != b) x y = if a ≠ b then x else y := by
  by_cases h : a = b
  · rw [h, bne_self_eq_false]; simp
  · rw [bne_iff_ne.2 h, if_pos h]; rfl
theorem cK_beq {a b : Int} {x y : Option α} : cK (a == b) x y = if a = b then x else y := by
  by_cases h : a = b
  · rw [h, beq_self_eq_true]; simp
  · rw [beq_eq_false_iff_ne.2 h, if_neg h]; rfl
theorem mul_bd2 {x y A B : Int} (hx : -A ≤ x ∧ x ≤ A) (hy : -B ≤ y ∧ y ≤ B) : -(A * B) ≤ x * y ∧ x * y ≤ A * B := by
  have hA : 0 ≤ A := by omega
  have hB : 0 ≤ B := by omega
  have key : ∀ u v : Int, 0 ≤ u → u ≤ A → 0 ≤ v → v ≤ B → u * v ≤ A * B := fun u v h1 h2 h3 h4 => Int.mul_le_mul h2 h4 h3 hA
  have nn : ∀ u v : Int, 0 ≤ u → 0 ≤ v → 0 ≤ u * v := fun u v h1 h2 => Int.mul_nonneg h1 h2
  by_cases h1 : 0 ≤ x <;> by_cases h2 : 0 ≤ y
  · have := key x y h1 hx.2 h2 hy.2; have := nn x y h1 h2; have := nn A B hA hB; omega
  · have := key x (-y) h1 hx.2 (by omega) (by omega); have := nn x (-y) h1 (by omega); rw [Int.mul_neg] at *; have := nn A B hA hB; omega
  · have := key (-x) y (by omega) (by omega) h2 hy.2; have := nn (-x) y (by omega) h2; rw [Int.neg_mul] at *; have := nn A B hA hB; omega
  · have := key (-x) (-y) (by omega) (by omega) (by omega) (by omega); have := nn (-x) (-y) (by omega) (by omega); rw [Int.neg_mul_neg] at *; have := nn A B hA hB; omega
def tnE (p q r : Int) : Int := if 1 ≤ r ∧ r ≤ 1000 then (if ((-r ≤ p ∧ p ≤ r) ∧ -r ≤ q ∧ q ≤ r) ∧ p * p + q * q = r * r then 0 else 12) else 2
theorem f122_eq {n most : Int} (h1 : -1000000000000 ≤ most) (h2 : most ≤ 1000000000000) {k : Bool → Option α} : f122_0 α n most k = k (decide (-most ≤ n ∧ n ≤ most)) := by
  simp only [f122_0, f122_0g]
  rw [w64_in (by omega) (by omega), show 0 - most = -most by omega]
  by_cases h : -most ≤ n <;> simp [h]
theorem tnK {p q r : Int} (hr : 1 ≤ r ∧ r ≤ 1000) {k : Int → Option α} : cK (!decide (-r ≤ p ∧ p ≤ r)) (k 12) (cK (!decide (-r ≤ q ∧ q ≤ r)) (k 12) (cK ((w64 ((w64 (p * p)) + (w64 (q * q)))) != (w64 (r * r))) (k 12) (k 0))) = k (tnE p q r) := by
  unfold tnE
  rw [if_pos hr]
  by_cases a : -r ≤ p ∧ p ≤ r
  · by_cases b : -r ≤ q ∧ q ≤ r
    · have h1 := mul_bd2 (x := p) (y := p) (A := 1000) (B := 1000) (by omega) (by omega)
      have h2 := mul_bd2 (x := q) (y := q) (A := 1000) (B := 1000) (by omega) (by omega)
      have h3 := mul_bd2 (x := r) (y := r) (A := 1000) (B := 1000) (by omega) (by omega)
      rw [decide_eq_true a, decide_eq_true b, Bool.not_true, cK_false, cK_false, w64_in (n := p * p) (by omega) (by omega), w64_in (n := q * q) (by omega) (by omega), w64_in (n := r * r) (by omega) (by omega), w64_in (by omega) (by omega), cK_bne]
      by_cases c : p * p + q * q = r * r
      · rw [if_neg (fun h => h c), if_pos ⟨⟨a, b⟩, c⟩]
      · rw [if_pos c, if_neg (fun h => c h.2)]
    · rw [decide_eq_true a, decide_eq_false b, if_neg (fun h => b h.1.2)]; rfl
  · rw [decide_eq_false a, if_neg (fun h => a h.1.1)]; rfl
theorem f84_eq {p q r : Int} {k : Int → Option α} : f84_0 α p q r k = k (tnE p q r) := by
  simp only [f84_0, f84_0g, J84_0_0, J84_0_0g]
  by_cases a : r < 1
  · rw [decide_eq_true a, cK_true, cK_true]
    unfold tnE; rw [if_neg (by omega)]
  · rw [decide_eq_false a, cK_false]
    by_cases b : 1000 < r
    · rw [decide_eq_true b, cK_true]
      unfold tnE; rw [if_neg (by omega)]
    · rw [decide_eq_false b, cK_false, f122_eq (by omega) (by omega)]
      simp only [f122_eq (show (-1000000000000 : Int) ≤ r by omega) (show r ≤ 1000000000000 by omega)]
      exact tnK (by omega)
theorem f92_eq {p q r : Int} {k : Int → Option α} : f92_0 α p q r k = k (tnE p q r) := by
  simp only [f92_0, f92_0g, f29_eq]
  by_cases a : 1 ≤ r ∧ r ≤ 1000
  · rw [decide_eq_true a, Bool.not_true, cK_false, w64_in (n := 0 - r) (by omega) (by omega), show 0 - r = -r by omega]
    exact tnK a
  · rw [decide_eq_false a, Bool.not_false, cK_true]
    unfold tnE; rw [if_neg a]
theorem tnE_ok {p q r : Int} (h : tnE p q r = 0) : (1 ≤ r ∧ r ≤ 1000) ∧ (-r ≤ p ∧ p ≤ r) ∧ (-r ≤ q ∧ q ≤ r) ∧ p * p + q * q = r * r := by
  unfold tnE at h
  by_cases a : 1 ≤ r ∧ r ≤ 1000
  · rw [if_pos a] at h
    by_cases b : ((-r ≤ p ∧ p ≤ r) ∧ -r ≤ q ∧ q ≤ r) ∧ p * p + q * q = r * r
    · exact ⟨a, b.1.1, b.1.2, b.2⟩
    · rw [if_neg b] at h; cases h
  · rw [if_neg a] at h; cases h
theorem tn_lt {p q r : Int} (h : tnE p q r = 0) (hq : q ≠ 0) : -r < p ∧ p < r := by
  obtain ⟨h1, h2, h3, h4⟩ := tnE_ok h
  have hqq : 0 < q * q := by
    rcases Int.lt_or_gt_of_ne hq with h5 | h5
    · have := Int.mul_pos (a := -q) (b := -q) (by omega) (by omega); rwa [Int.neg_mul_neg] at this
    · exact Int.mul_pos h5 h5
  constructor
  · by_cases hc : -r < p
    · exact hc
    · have : p = -r := by omega
      subst this
      rw [Int.neg_mul_neg] at h4; omega
  · by_cases hc : p < r
    · exact hc
    · have : p = r := by omega
      subst this; omega
theorem cut_bd (x y : Int) : (-1048576 ≤ cut1 x y ∧ cut1 x y ≤ 1048576) ∧ -1048576 ≤ cut2 x y ∧ cut2 x y ≤ 1048576 := by
  unfold cut1 cut2
  by_cases h : 1048576 < x ∨ y < -1048576
  · rw [if_pos h, if_pos h]; omega
  · rw [if_neg h, if_neg h]; refine ⟨?_, ?_⟩ <;> split <;> omega
theorem ratK_cases (a b c d e f : Int) : ∃ x y z w r, (∀ k : Int → Int → Int → Int → Int → Option α, ratK a b c d e f k = k x y z w r) ∧ (-1048576 ≤ x ∧ x ≤ 1048576) ∧ (-1048576 ≤ y ∧ y ≤ 1048576) ∧ (-1048576 ≤ z ∧ z ≤ 1048576) ∧ (-1048576 ≤ w ∧ w ≤ 1048576) := by
  have b1 := cut_bd (ratLo c a b) (ratHi d a b)
  have b2 := cut_bd (ratLo e a b) (ratHi f a b)
  by_cases h1 : a ≤ 0
  · exact ⟨0, 0, 0, 0, 9, fun k => by unfold ratK; rw [if_pos h1], by omega, by omega, by omega, by omega⟩
  · by_cases h2 : cutE (ratLo c a b) (ratHi d a b) ≠ 0
    · exact ⟨0, 0, 0, 0, _, fun k => by unfold ratK; rw [if_neg h1, if_pos h2], by omega, by omega, by omega, by omega⟩
    · by_cases h3 : cutE (ratLo e a b) (ratHi f a b) ≠ 0
      · exact ⟨0, 0, 0, 0, _, fun k => by unfold ratK; rw [if_neg h1, if_neg h2, if_pos h3], by omega, by omega, by omega, by omega⟩
      · exact ⟨_, _, _, _, 0, fun k => by unfold ratK; rw [if_neg h1, if_neg h2, if_neg h3], b1.1, b1.2, b2.1, b2.2⟩
def nFl (p r x : Int) : Int := (p * 1048576 - x * r) * 1048576 / (r * 1048576 - x * p)
def nCe (p r x : Int) : Int := cdv ((p * 1048576 - x * r) * 1048576) (r * 1048576 - x * p)
theorem below_bd {p q r x : Int} (h : tnE p q r = 0) (hq : q ≠ 0) (hx : -1048576 ≤ x ∧ x ≤ 1048576) : 0 < r * 1048576 - x * p ∧ r * 1048576 - x * p ≤ 2097152000 ∧ -(r * 1048576 - x * p) ≤ p * 1048576 - x * r ∧ p * 1048576 - x * r ≤ r * 1048576 - x * p := by
  obtain ⟨h1, h2, h3, h4⟩ := tnE_ok h
  have hp := tn_lt h hq
  have h5 := mul_bd2 (x := x) (y := p) (A := 1048576) (B := r - 1) hx (by omega)
  have h6 : 0 ≤ (r - p) * (1048576 + x) := Int.mul_nonneg (by omega) (by omega)
  have h7 : 0 ≤ (r + p) * (1048576 - x) := Int.mul_nonneg (by omega) (by omega)
  have e6 : (r - p) * (1048576 + x) = r * 1048576 + x * r - p * 1048576 - x * p := by
    rw [Int.sub_mul, Int.mul_add, Int.mul_add, Int.mul_comm r x, Int.mul_comm p x]; omega
  have e7 : (r + p) * (1048576 - x) = r * 1048576 - x * r + p * 1048576 - x * p := by
    rw [Int.add_mul, Int.mul_sub, Int.mul_sub, Int.mul_comm r x, Int.mul_comm p x]; omega
  omega
theorem n_bd {p q r x : Int} (h : tnE p q r = 0) (hq : q ≠ 0) (hx : -1048576 ≤ x ∧ x ≤ 1048576) : (-1048576 ≤ nFl p r x ∧ nFl p r x ≤ 1048576) ∧ -1048576 ≤ nCe p r x ∧ nCe p r x ≤ 1048576 := by
  obtain ⟨h1, h2, h3, h4⟩ := below_bd h hq hx
  unfold nFl nCe cdv
  generalize p * 1048576 - x * r = A at *
  generalize r * 1048576 - x * p = B at *
  have f1 : -1048576 ≤ A * 1048576 / B := by rw [Int.le_ediv_iff_mul_le h1]; omega
  have f2 : A * 1048576 / B ≤ 1048576 := by
    have : A * 1048576 / B < 1048577 := by rw [Int.ediv_lt_iff_lt_mul h1]; omega
    omega
  have f3 : -1048576 ≤ -(A * 1048576) / B := by rw [Int.le_ediv_iff_mul_le h1]; omega
  have f4 : -(A * 1048576) / B ≤ 1048576 := by
    have : -(A * 1048576) / B < 1048577 := by rw [Int.ediv_lt_iff_lt_mul h1]; omega
    omega
  omega
theorem ws {p q r x : Int} (h : tnE p q r = 0) (hx : -1048576 ≤ x ∧ x ≤ 1048576) : w64 ((w64 ((w64 (p * 1048576)) - (w64 (x * r)))) * 1048576) = (p * 1048576 - x * r) * 1048576 ∧ w64 ((w64 (r * 1048576)) - (w64 (x * p))) = r * 1048576 - x * p := by
  obtain ⟨h1, h2, h3, h4⟩ := tnE_ok h
  have h5 := mul_bd2 (x := x) (y := p) (A := 1048576) (B := 1000) hx (by omega)
  have h6 := mul_bd2 (x := x) (y := r) (A := 1048576) (B := 1000) hx (by omega)
  rw [w64_in (n := p * 1048576) (by omega) (by omega), w64_in (n := x * r) (by omega) (by omega), w64_in (n := p * 1048576 - x * r) (by omega) (by omega), w64_in (n := (p * 1048576 - x * r) * 1048576) (by omega) (by omega),
    w64_in (n := r * 1048576) (by omega) (by omega), w64_in (n := x * p) (by omega) (by omega), w64_in (n := r * 1048576 - x * p) (by omega) (by omega)]
  exact ⟨rfl, rfl⟩
theorem f85_eq {p q r x1 x2 : Int} (h : tnE p q r = 0) (hq : q ≠ 0) (hx : -1048576 ≤ x1 ∧ x1 ≤ 1048576) (hy : -1048576 ≤ x2 ∧ x2 ≤ 1048576) {k : Int → Int → Option α} : f85_0 α x1 x2 p q r k = k (nFl p r x2) (nCe p r x1) := by
  obtain ⟨a1, a2, a3, a4⟩ := below_bd h hq hx
  obtain ⟨b1, b2, b3, b4⟩ := below_bd h hq hy
  simp only [f85_0, f85_0g, f86_0, f86_0g, f87_0, f87_0g]
  rw [(ws h hx).1, (ws h hx).2, (ws h hy).1, (ws h hy).2, f78_pos b1 (by omega) (by omega) (by omega), f79_pos a1 (by omega) (by omega) (by omega)]
  rfl
theorem f94_eq {p q r x1 x2 : Int} (h : tnE p q r = 0) (hq : q ≠ 0) (hx : -1048576 ≤ x1 ∧ x1 ≤ 1048576) (hy : -1048576 ≤ x2 ∧ x2 ≤ 1048576) {k : Int → Int → Option α} : f94_0 α x1 x2 p q r k = k (nFl p r x2) (nCe p r x1) := by
  obtain ⟨a1, a2, a3, a4⟩ := below_bd h hq hx
  obtain ⟨b1, b2, b3, b4⟩ := below_bd h hq hy
  simp only [f94_0, f94_0g]
  rw [(ws h hx).1, (ws h hx).2, (ws h hy).1, (ws h hy).2, f99_eq b1 (by omega) (by omega) (by omega), f42_eq a1 (by omega) (by omega) (by omega)]
  rfl
def mnZ (x y : Int) : Int := if y < x then y else x
def mxZ (x y : Int) : Int := if y > x then y else x
theorem mnZ_div {x y D : Int} (hD : 0 < D) : mnZ (x / D) (y / D) = mnZ x y / D := by
  unfold mnZ
  by_cases h : y < x
  · rw [if_pos h]
    have := Int.ediv_le_ediv hD (show y ≤ x by omega)
    split <;> omega
  · rw [if_neg h]
    have := Int.ediv_le_ediv hD (show x ≤ y by omega)
    split <;> omega
theorem mxZ_cdv {x y D : Int} (hD : 0 < D) : mxZ (cdv x D) (cdv y D) = cdv (mxZ x y) D := by
  unfold mxZ cdv
  by_cases h : y > x
  · rw [if_pos h]
    have := Int.ediv_le_ediv hD (show -y ≤ -x by omega)
    split <;> omega
  · rw [if_neg h]
    have := Int.ediv_le_ediv hD (show -x ≤ -y by omega)
    split <;> omega
def sgq (q x : Int) : Int := if q < 0 then -x else x
def oW (p q r y b : Int) : Int := sgq q (y * (r * 1048576 - b * p))
def oMn (p q r y0 y1 n0 n1 : Int) : Int := mnZ (mnZ (mnZ (oW p q r y0 n0) (oW p q r y0 n1)) (oW p q r y1 n0)) (oW p q r y1 n1)
def oMx (p q r y0 y1 n0 n1 : Int) : Int := mxZ (mxZ (mxZ (oW p q r y0 n0) (oW p q r y0 n1)) (oW p q r y1 n0)) (oW p q r y1 n1)
def oD (q : Int) : Int := (if q < 0 then -q else q) * 1048576
def oLo (p q r y0 y1 n0 n1 : Int) : Int := oMn p q r y0 y1 n0 n1 / oD q
def oHi (p q r y0 y1 n0 n1 : Int) : Int := cdv (oMx p q r y0 y1 n0 n1) (oD q)
section
variable {p q r : Int} (h : tnE p q r = 0) (hq : q ≠ 0)
include h hq
theorem oD_bd : 0 < oD q ∧ oD q ≤ 1048576000 := by
  obtain ⟨h1, h2, h3, h4⟩ := tnE_ok h
  unfold oD; split <;> omega
omit hq in
theorem v_bd {y b : Int} (hy : -1048576 ≤ y ∧ y ≤ 1048576) (hb : -1048576 ≤ b ∧ b ≤ 1048576) : (-2097152000 ≤ r * 1048576 - b * p ∧ r * 1048576 - b * p ≤ 2097152000) ∧ -2199023255552000 ≤ y * (r * 1048576 - b * p) ∧ y * (r * 1048576 - b * p) ≤ 2199023255552000 := by
  obtain ⟨h1, h2, h3, h4⟩ := tnE_ok h
  have h5 := mul_bd2 (x := b) (y := p) (A := 1048576) (B := 1000) hb (by omega)
  have h6 := mul_bd2 (x := y) (y := r * 1048576 - b * p) (A := 1048576) (B := 2097152000) hy (by omega)
  omega
omit hq in
theorem wv {y b : Int} (hy : -1048576 ≤ y ∧ y ≤ 1048576) (hb : -1048576 ≤ b ∧ b ≤ 1048576) : w64 (y * (w64 ((w64 (r * 1048576)) - (w64 (b * p))))) = y * (r * 1048576 - b * p) := by
  obtain ⟨h1, h2, h3, h4⟩ := tnE_ok h
  have h5 := mul_bd2 (x := b) (y := p) (A := 1048576) (B := 1000) hb (by omega)
  obtain ⟨h6, h7⟩ := v_bd h hy hb
  rw [w64_in (n := r * 1048576) (by omega) (by omega), w64_in (n := b * p) (by omega) (by omega), w64_in (n := r * 1048576 - b * p) (by omega) (by omega), w64_in (by omega) (by omega)]
omit hq in
theorem oW_bd {y b : Int} (hy : -1048576 ≤ y ∧ y ≤ 1048576) (hb : -1048576 ≤ b ∧ b ≤ 1048576) : -2199023255552000 ≤ oW p q r y b ∧ oW p q r y b ≤ 2199023255552000 := by
  have := (v_bd h hy hb).2
  unfold oW sgq; split <;> omega
theorem fl_w {y b : Int} (hy : -1048576 ≤ y ∧ y ≤ 1048576) (hb : -1048576 ≤ b ∧ b ≤ 1048576) {k : Int → Option α} : f78_0 α (w64 (y * (w64 ((w64 (r * 1048576)) - (w64 (b * p)))))) (w64 (q * 1048576)) k = k (oW p q r y b / oD q) := by
  obtain ⟨h1, h2, h3, h4⟩ := tnE_ok h
  have h5 := (v_bd h hy hb).2
  rw [wv h hy hb, w64_in (n := q * 1048576) (by omega) (by omega)]
  unfold oW sgq oD
  by_cases hc : q < 0
  · rw [if_pos hc, if_pos hc, f78_neg (by omega) (by omega) (by omega) (by omega), Int.neg_mul]
  · rw [if_neg hc, if_neg hc, f78_pos (by omega) (by omega) (by omega) (by omega)]
theorem ce_w {y b : Int} (hy : -1048576 ≤ y ∧ y ≤ 1048576) (hb : -1048576 ≤ b ∧ b ≤ 1048576) {k : Int → Option α} : f79_0 α (w64 (y * (w64 ((w64 (r * 1048576)) - (w64 (b * p)))))) (w64 (q * 1048576)) k = k (cdv (oW p q r y b) (oD q)) := by
  obtain ⟨h1, h2, h3, h4⟩ := tnE_ok h
  have h5 := (v_bd h hy hb).2
  rw [wv h hy hb, w64_in (n := q * 1048576) (by omega) (by omega)]
  unfold oW sgq oD
  by_cases hc : q < 0
  · rw [if_pos hc, if_pos hc, f79_neg (by omega) (by omega) (by omega) (by omega), Int.neg_mul]
  · rw [if_neg hc, if_neg hc, f79_pos (by omega) (by omega) (by omega) (by omega)]
theorem L26_5_eq {y n0 n1 : Int} (hy : -1048576 ≤ y ∧ y ≤ 1048576) (h0 : -1048576 ≤ n0 ∧ n0 ≤ 1048576) (h1 : -1048576 ≤ n1 ∧ n1 ≤ 1048576) {A B : Rows} (hA : A.length < 100) (hB : B.length < 100) {k : Int → Bool → Rows → Rows → Option α} :
    L26_0_5 α y n0 n1 p q r k 0 A B = k 2 false (A ++ [rI1 (oW p q r y n0 / oD q)] ++ [rI1 (oW p q r y n1 / oD q)]) (B ++ [rI1 (cdv (oW p q r y n0) (oD q))] ++ [rI1 (cdv (oW p q r y n1) (oD q))]) := by
  obtain ⟨z, hz⟩ : ∃ z, fuel = z + 3 := ⟨fuel - 3, by have := fuel_ge; omega⟩
  have ap : ∀ (X : Rows) (x : Int), X.length < 200 → apOk 1 8 X [[DC.v (.int .i64 x)]] = true := fun X x hX => by
    have := apOk_of (enc := rI1) (n := 1) (b := 8) (fun _ => rfl) (rows := X) (l := [x]) (by simp; omega) (by simp; omega)
    exact this
  simp only [L26_0_5, hz, R26_0_5, S26_0_5, S26_0_5g, J26_0_4, J26_0_4g, Int.reduceBEq, cK_true, cK_false]
  rw [show decide ((0 : Int) < 2) = true by decide, cK_true, fl_w h hq hy h0, ap A _ (by omega), gK_true, ce_w h hq hy h0, ap B _ (by omega), gK_true, show w64 (0 + 1) = 1 by decide, show decide ((1 : Int) < 2) = true by decide, cK_true]
  simp only [Int.reduceBEq, cK_true, cK_false]
  rw [fl_w h hq hy h1, ap _ _ (by simp; omega), gK_true, ce_w h hq hy h1, ap _ _ (by simp; omega), gK_true, show w64 (1 + 1) = 2 by decide, show decide ((2 : Int) < 2) = false by decide, cK_false]
end
theorem f89_4 {a b c d : Int} {k : Int → Option α} : f89_0 α [rI1 a, rI1 b, rI1 c, rI1 d] k = k (mnZ (mnZ (mnZ a b) c) d) := by
  obtain ⟨z, hz⟩ : ∃ z, fuel = z + 4 := ⟨fuel - 4, by have := fuel_ge; omega⟩
  have e0 : ∀ g : Int → Option α, rowK [rI1 a, rI1 b, rI1 c, rI1 d] 0 [.int .i64] g = g a := fun g => rfl
  have e1 : ∀ g : Int → Option α, rowK [rI1 a, rI1 b, rI1 c, rI1 d] 1 [.int .i64] g = g b := fun g => rfl
  have e2 : ∀ g : Int → Option α, rowK [rI1 a, rI1 b, rI1 c, rI1 d] 2 [.int .i64] g = g c := fun g => rfl
  have e3 : ∀ g : Int → Option α, rowK [rI1 a, rI1 b, rI1 c, rI1 d] 3 [.int .i64] g = g d := fun g => rfl
  have l4 : ((List.length [rI1 a, rI1 b, rI1 c, rI1 d] : Nat) : Int) = 4 := rfl
  simp only [f89_0, f89_0g, L89_0_0, hz, R89_0_0, S89_0_0, S89_0_0g, l4, e0]
  rw [show decide ((4 : Int) < 1) = false by decide, cK_false, show decide ((1 : Int) < 4) = true by decide, cK_true, e1, show w64 (1 + 1) = 2 by decide, show decide ((2 : Int) < 4) = true by decide, cK_true, e2, show w64 (2 + 1) = 3 by decide, show decide ((3 : Int) < 4) = true by decide, cK_true, e3, show w64 (3 + 1) = 4 by decide, show decide ((4 : Int) < 4) = false by decide, cK_false]
  rfl
theorem f90_4 {a b c d : Int} {k : Int → Option α} : f90_0 α [rI1 a, rI1 b, rI1 c, rI1 d] k = k (mxZ (mxZ (mxZ a b) c) d) := by
  obtain ⟨z, hz⟩ : ∃ z, fuel = z + 4 := ⟨fuel - 4, by have := fuel_ge; omega⟩
  have e0 : ∀ g : Int → Option α, rowK [rI1 a, rI1 b, rI1 c, rI1 d] 0 [.int .i64] g = g a := fun g => rfl
  have e1 : ∀ g : Int → Option α, rowK [rI1 a, rI1 b, rI1 c, rI1 d] 1 [.int .i64] g = g b := fun g => rfl
  have e2 : ∀ g : Int → Option α, rowK [rI1 a, rI1 b, rI1 c, rI1 d] 2 [.int .i64] g = g c := fun g => rfl
  have e3 : ∀ g : Int → Option α, rowK [rI1 a, rI1 b, rI1 c, rI1 d] 3 [.int .i64] g = g d := fun g => rfl
  have l4 : ((List.length [rI1 a, rI1 b, rI1 c, rI1 d] : Nat) : Int) = 4 := rfl
  simp only [f90_0, f90_0g, L90_0_0, hz, R90_0_0, S90_0_0, S90_0_0g, l4, e0]
  rw [show decide ((4 : Int) < 1) = false by decide, cK_false, show decide ((1 : Int) < 4) = true by decide, cK_true, e1, show w64 (1 + 1) = 2 by decide, show decide ((2 : Int) < 4) = true by decide, cK_true, e2, show w64 (2 + 1) = 3 by decide, show decide ((3 : Int) < 4) = true by decide, cK_true, e3, show w64 (3 + 1) = 4 by decide, show decide ((4 : Int) < 4) = false by decide, cK_false]
  rfl
section
variable {p q r : Int} (h : tnE p q r = 0) (hq : q ≠ 0)
include h hq
theorem L26_6_eq {y0 y1 n0 n1 : Int} (hy0 : -1048576 ≤ y0 ∧ y0 ≤ 1048576) (hy1 : -1048576 ≤ y1 ∧ y1 ≤ 1048576) (h0 : -1048576 ≤ n0 ∧ n0 ≤ 1048576) (h1 : -1048576 ≤ n1 ∧ n1 ≤ 1048576) {k : Int → Int → Option α} :
    (L26_0_6 α y0 y1 p q r n0 n1 (fun _ _ x361 x362 => f89_0 α x361 fun x364 => f90_0 α x362 fun x365 => k x364 x365) 0 [] []) = k (oLo p q r y0 y1 n0 n1) (oHi p q r y0 y1 n0 n1) := by
  obtain ⟨z, hz⟩ : ∃ z, fuel = z + 3 := ⟨fuel - 3, by have := fuel_ge; omega⟩
  have hD := (oD_bd h hq).1
  simp only [L26_0_6, hz, R26_0_6, S26_0_6, S26_0_6g, J26_0_3, J26_0_3g, Int.reduceBEq, cK_true, cK_false]
  rw [show decide ((0 : Int) < 2) = true by decide, cK_true, L26_5_eq h hq hy0 h0 h1 (by simp) (by simp), show w64 (0 + 1) = 1 by decide, show decide ((1 : Int) < 2) = true by decide, cK_true]
  simp only [Int.reduceBEq, cK_true, cK_false]
  rw [L26_5_eq h hq hy1 h0 h1 (by simp) (by simp), show w64 (1 + 1) = 2 by decide, show decide ((2 : Int) < 2) = false by decide, cK_false]
  simp only [List.nil_append, List.cons_append, f89_4, f90_4]
  rw [mnZ_div hD, mnZ_div hD, mnZ_div hD, mxZ_cdv hD, mxZ_cdv hD, mxZ_cdv hD]
  rfl
end
theorem sg_w {q x : Int} (h : -2199023255552000 ≤ x ∧ x ≤ 2199023255552000) : (if q < 0 then w64 (0 - x) else x) = sgq q x := by
  unfold sgq; rw [w64_in (by omega) (by omega), show 0 - x = -x by omega]
theorem mnZ_self (x : Int) : mnZ x x = x := by unfold mnZ; split <;> rfl
theorem mxZ_self (x : Int) : mxZ x x = x := by unfold mxZ; split <;> rfl
section
variable {q a b c d lo hi : Int} {kn : Int → Int → Int → Int → Int → Int → Int → Option α} {k1 : Int → Int → Int → Bool → Int → Int → Int → Int → Option α}
theorem S95_0' (h : -2199023255552000 ≤ a ∧ a ≤ 2199023255552000) : S95_0_4 α q lo hi 0 a b c d kn k1 = kn (sgq q a) (sgq q a) 1 (sgq q a) b c d := by
  have hw := sg_w (q := q) h
  simp only [S95_0_4, S95_0_4g, show decide ((0 : Int) < 4) = true by decide, show w64 (0 + 1) = 1 by decide, cK_true, J95_0_3, J95_0_3g, J95_0_0, J95_0_0g, J95_0_1, J95_0_1g, J95_0_2, J95_0_2g, Int.reduceBEq, cK_false]
  by_cases hq : q < 0
  · rw [if_pos hq] at hw
    rw [decide_eq_true hq, cK_true, hw]
    have e1 := mnZ_self (sgq q a); have e2 := mxZ_self (sgq q a)
    unfold mnZ at e1; unfold mxZ at e2
    rw [e1]
  · rw [if_neg hq] at hw
    rw [decide_eq_false hq, cK_false, ← hw]
    have e1 := mnZ_self a; have e2 := mxZ_self a
    unfold mnZ at e1; unfold mxZ at e2
    rw [e1]
theorem S95_1' (h : -2199023255552000 ≤ b ∧ b ≤ 2199023255552000) : S95_0_4 α q lo hi 1 a b c d kn k1 = kn (mnZ lo (sgq q b)) (mxZ hi (sgq q b)) 2 a (sgq q b) c d := by
  have hw := sg_w (q := q) h
  simp only [S95_0_4, S95_0_4g, show decide ((1 : Int) < 4) = true by decide, show w64 (1 + 1) = 2 by decide, cK_true, J95_0_3, J95_0_3g, J95_0_0, J95_0_0g, J95_0_1, J95_0_1g, J95_0_2, J95_0_2g, Int.reduceBEq, cK_false]
  by_cases hq : q < 0
  · rw [if_pos hq] at hw
    rw [decide_eq_true hq, cK_true, hw]; rfl
  · rw [if_neg hq] at hw
    rw [decide_eq_false hq, cK_false, ← hw]; rfl
theorem S95_2' (h : -2199023255552000 ≤ c ∧ c ≤ 2199023255552000) : S95_0_4 α q lo hi 2 a b c d kn k1 = kn (mnZ lo (sgq q c)) (mxZ hi (sgq q c)) 3 a b (sgq q c) d := by
  have hw := sg_w (q := q) h
  simp only [S95_0_4, S95_0_4g, show decide ((2 : Int) < 4) = true by decide, show w64 (2 + 1) = 3 by decide, cK_true, J95_0_3, J95_0_3g, J95_0_0, J95_0_0g, J95_0_1, J95_0_1g, J95_0_2, J95_0_2g, Int.reduceBEq, cK_false]
  by_cases hq : q < 0
  · rw [if_pos hq] at hw
    rw [decide_eq_true hq, cK_true, hw]; rfl
  · rw [if_neg hq] at hw
    rw [decide_eq_false hq, cK_false, ← hw]; rfl
theorem S95_3' (h : -2199023255552000 ≤ d ∧ d ≤ 2199023255552000) : S95_0_4 α q lo hi 3 a b c d kn k1 = kn (mnZ lo (sgq q d)) (mxZ hi (sgq q d)) 4 a b c (sgq q d) := by
  have hw := sg_w (q := q) h
  simp only [S95_0_4, S95_0_4g, show decide ((3 : Int) < 4) = true by decide, show w64 (3 + 1) = 4 by decide, cK_true, J95_0_3, J95_0_3g, J95_0_0, J95_0_0g, J95_0_1, J95_0_1g, J95_0_2, J95_0_2g, Int.reduceBEq, cK_false]
  by_cases hq : q < 0
  · rw [if_pos hq] at hw
    rw [decide_eq_true hq, cK_true, hw]; rfl
  · rw [if_neg hq] at hw
    rw [decide_eq_false hq, cK_false, ← hw]; rfl
end
theorem mnZ_bd {x y A : Int} (hx : -A ≤ x ∧ x ≤ A) (hy : -A ≤ y ∧ y ≤ A) : -A ≤ mnZ x y ∧ mnZ x y ≤ A := by unfold mnZ; split <;> omega
theorem mxZ_bd {x y A : Int} (hx : -A ≤ x ∧ x ≤ A) (hy : -A ≤ y ∧ y ≤ A) : -A ≤ mxZ x y ∧ mxZ x y ≤ A := by unfold mxZ; split <;> omega
theorem cutLe {x y : Int} (h : x ≤ y) : cut1 x y ≤ cut2 x y := by
  unfold cut1 cut2
  by_cases hc : 1048576 < x ∨ y < -1048576
  · rw [if_pos hc, if_pos hc]; omega
  · rw [if_neg hc, if_neg hc]; split <;> split <;> omega
section
variable {p q r : Int} (h : tnE p q r = 0) (hq : q ≠ 0) {y0 y1 n0 n1 : Int} (hy0 : -1048576 ≤ y0 ∧ y0 ≤ 1048576) (hy1 : -1048576 ≤ y1 ∧ y1 ≤ 1048576) (h0 : -1048576 ≤ n0 ∧ n0 ≤ 1048576) (h1 : -1048576 ≤ n1 ∧ n1 ≤ 1048576)
include h hq hy0 hy1 h0 h1
theorem f95_eq {k : Int → Int → Int → Option α} : f95_0 α y0 y1 n0 n1 p q r k = k (cut1 (oLo p q r y0 y1 n0 n1) (oHi p q r y0 y1 n0 n1)) (cut2 (oLo p q r y0 y1 n0 n1) (oHi p q r y0 y1 n0 n1)) (cutE (oLo p q r y0 y1 n0 n1) (oHi p q r y0 y1 n0 n1)) := by
  obtain ⟨z, hz⟩ : ∃ z, fuel = z + 5 := ⟨fuel - 5, by have := fuel_ge; omega⟩
  obtain ⟨t1, t2, t3, t4⟩ := tnE_ok h
  have hD := oD_bd h hq
  have a1 := oW_bd h hy0 h0; have a2 := oW_bd h hy0 h1; have a3 := oW_bd h hy1 h0; have a4 := oW_bd h hy1 h1
  simp only [f95_0, f95_0g, L95_0_4, hz, R95_0_4]
  rw [wv h hy0 h0, wv h hy0 h1, wv h hy1 h0, wv h hy1 h1, S95_0' (v_bd h hy0 h0).2, S95_1' (v_bd h hy0 h1).2, S95_2' (v_bd h hy1 h0).2, S95_3' (v_bd h hy1 h1).2]
  simp only [S95_0_4, S95_0_4g, show decide ((4 : Int) < 4) = false by decide, cK_false, f124_0, f124_0g]
  have eD : w64 ((if w64 (0 - q) > q then w64 (0 - q) else q) * 1048576) = oD q := by
    rw [w64_in (n := 0 - q) (by omega) (by omega)]
    have : (if 0 - q > q then 0 - q else q) = (if q < 0 then -q else q) := by split <;> split <;> omega
    rw [this]
    exact w64_in (by unfold oD at hD; omega) (by unfold oD at hD; omega)
  rw [eD]
  have m1 := mnZ_bd (A := 2199023255552000) (mnZ_bd (mnZ_bd a1 a2) a3) a4
  have m2 := mxZ_bd (A := 2199023255552000) (mxZ_bd (mxZ_bd a1 a2) a3) a4
  unfold oW at m1 m2
  rw [f99_eq hD.1 (by omega) (by omega) (by omega), f42_eq hD.1 (by omega) (by omega) (by omega), f120_eq]
  rfl
omit hy0 hy1 h0 h1 in
theorem oLe {y0 y1 n0 n1 : Int} : oLo p q r y0 y1 n0 n1 ≤ oHi p q r y0 y1 n0 n1 := by
  have hD := (oD_bd h hq).1
  unfold oLo oHi
  have h1 : oMn p q r y0 y1 n0 n1 ≤ oMx p q r y0 y1 n0 n1 := by
    unfold oMn oMx mnZ mxZ
    generalize oW p q r y0 n0 = a
    generalize oW p q r y0 n1 = b
    generalize oW p q r y1 n0 = c
    generalize oW p q r y1 n1 = d
    by_cases hb : b < a <;> by_cases hb' : b > a <;> simp only [hb, hb', if_true, if_false] <;> (repeat' split) <;> omega
  have h2 := fl_le_ce (n := oMn p q r y0 y1 n0 n1) (d := oD q) (by omega)
  have h3 : cdv (oMn p q r y0 y1 n0 n1) (oD q) ≤ cdv (oMx p q r y0 y1 n0 n1) (oD q) := by
    unfold cdv
    have := Int.ediv_le_ediv hD (show -(oMx p q r y0 y1 n0 n1) ≤ -(oMn p q r y0 y1 n0 n1) by omega)
    omega
  omega
theorem S26_7_eq {c0 c1 s0 s1 i x y z w : Int} (hi : i = 0 ∧ y0 = c0 ∧ y1 = c1 ∨ i = 1 ∧ y0 = s0 ∧ y1 = s1) {kn : Int → Int → Int → Int → Int → Option α} {k1 : Int → Option α} {k2 : Int → Bool → Int → Int → Int → Int → Option α} :
    S26_0_7 α c0 c1 s0 s1 p q r n0 n1 i x y z w kn k1 k2 =
      if cutE (oLo p q r y0 y1 n0 n1) (oHi p q r y0 y1 n0 n1) ≠ 0 then k1 (cutE (oLo p q r y0 y1 n0 n1) (oHi p q r y0 y1 n0 n1)) else
        if i = 1 then kn 2 x y (cut1 (oLo p q r y0 y1 n0 n1) (oHi p q r y0 y1 n0 n1)) (cut2 (oLo p q r y0 y1 n0 n1) (oHi p q r y0 y1 n0 n1))
        else kn 1 (cut1 (oLo p q r y0 y1 n0 n1) (oHi p q r y0 y1 n0 n1)) (cut2 (oLo p q r y0 y1 n0 n1) (oHi p q r y0 y1 n0 n1)) z w := by
  have hJ : ∀ K : Int → Int → Option α, J26_0_2 α c0 c1 s0 s1 i K = K y0 y1 := by
    intro K
    rcases hi with ⟨rfl, rfl, rfl⟩ | ⟨rfl, rfl, rfl⟩ <;> rfl
  have hlt : decide (i < 2) = true := decide_eq_true (by omega)
  have w1 : w64 (i + 1) = i + 1 := w64_in (by omega) (by omega)
  simp only [S26_0_7, S26_0_7g, hlt, cK_true, hJ, w1]
  rw [L26_6_eq h hq hy0 hy1 h0 h1 (k := fun x364 x365 => f77_0 α x364 x365 fun x366 x367 x368 => cK (x368 != 0) (k1 x368) (cK (i == 1) (kn (i + 1) x y x366 x367) (cK (i == 0) (kn (i + 1) x366 x367 z w) none))), f77_eq, cK_ne]
  split
  · rfl
  · rcases hi with ⟨rfl, _⟩ | ⟨rfl, _⟩
    · rw [if_neg (by decide)]; rfl
    · rw [if_pos rfl]; rfl
end
theorem L26_1_eq {a b c d : Int} {k1 : Int → Option α} {k2 : Int → Bool → Option α} : L26_0_1 α a b c d k1 k2 0 = if a ≠ 0 then k1 a else if b ≠ 0 then k1 b else if c ≠ 0 then k1 c else if d ≠ 0 then k1 d else k2 4 false := by
  obtain ⟨z, hz⟩ : ∃ z, fuel = z + 5 := ⟨fuel - 5, by have := fuel_ge; omega⟩
  simp only [L26_0_1, hz, R26_0_1, S26_0_1, S26_0_1g, J26_0_0, J26_0_0g, Int.reduceBEq, cK_true, cK_false, show decide ((0 : Int) < 4) = true by decide, show decide ((1 : Int) < 4) = true by decide, show decide ((2 : Int) < 4) = true by decide, show decide ((3 : Int) < 4) = true by decide, show decide ((4 : Int) < 4) = false by decide, show w64 (0 + 1) = 1 by decide, show w64 (1 + 1) = 2 by decide, show w64 (2 + 1) = 3 by decide, show w64 (3 + 1) = 4 by decide, cK_ne]
def RdB (A B : (ByteArray → Int → Int → Int → Int → Int → Int → Int → Int → Int → Int → Option α) → Option α) : Prop :=
  ∃ (s' : ByteArray) (v1 v2 v3 v4 v5 v6 v7 v8 v9 e : Int), (∀ k, A k = k s' v1 v2 v3 v4 v5 v6 v7 v8 v9 e) ∧ (∀ k, B k = k s' v1 v2 v3 v4 v5 v6 v7 v8 v9 e) ∧ (e = 0 → s'.size ≤ 9223372036854775807 ∧ rdE s' v1 v2 v3 v4 v5 v6 v7 v8 v9 = 0)
theorem RdB.err {A B : (ByteArray → Int → Int → Int → Int → Int → Int → Int → Int → Int → Int → Option α) → Option α} (e : Int) (he : e ≠ 0) (h1 : ∀ k, A k = k ⟨#[]⟩ 0 0 0 0 0 0 0 0 0 e) (h2 : ∀ k, B k = k ⟨#[]⟩ 0 0 0 0 0 0 0 0 0 e) : RdB A B :=
  ⟨⟨#[]⟩, 0, 0, 0, 0, 0, 0, 0, 0, 0, e, h1, h2, fun h => absurd h he⟩
theorem rd_both {s : ByteArray} (hs : s.size ≤ 9223372036854775807) (w i n b1 b2 b3 b4 b5 b6 p1 p2 p3 p4 p5 p6 p q r : Int) : RdB (α := α) (fun k => f26_0 α s w i n b1 b2 b3 b4 b5 b6 p1 p2 p3 p4 p5 p6 p q r k) (fun k => f27_0 α s w i n b1 b2 b3 b4 b5 b6 p1 p2 p3 p4 p5 p6 p q r k) := by
  by_cases e1 : plE s w i n = 0
  case neg => exact .err _ e1 (fun k => by simp only [f26_0, f26_0g, f83_eq hs, f60_eq, f84_eq, L26_1_eq, if_pos e1]) (fun k => by simp only [f27_0, f27_0g, f91_eq, cK_ne, if_pos e1])
  have n1 : ¬ (plE s w i n ≠ 0) := fun h => h e1
  by_cases e2 : smE b1 b2 b3 b4 b5 b6 = 0
  case neg => exact .err _ e2 (fun k => by simp only [f26_0, f26_0g, f83_eq hs, f60_eq, f84_eq, L26_1_eq, if_neg n1, if_pos e2]) (fun k => by simp only [f27_0, f27_0g, f91_eq, f24_eq, cK_ne, if_neg n1, if_pos e2])
  have n2 : ¬ (smE b1 b2 b3 b4 b5 b6 ≠ 0) := fun h => h e2
  by_cases e3 : smE p1 p2 p3 p4 p5 p6 = 0
  case neg => exact .err _ e3 (fun k => by simp only [f26_0, f26_0g, f83_eq hs, f60_eq, f84_eq, L26_1_eq, if_neg n1, if_neg n2, if_pos e3]) (fun k => by simp only [f27_0, f27_0g, f91_eq, f24_eq, cK_ne, if_neg n1, if_neg n2, if_pos e3])
  have n3 : ¬ (smE p1 p2 p3 p4 p5 p6 ≠ 0) := fun h => h e3
  by_cases e4 : tnE p q r = 0
  case neg => exact .err _ e4 (fun k => by simp only [f26_0, f26_0g, f83_eq hs, f60_eq, f84_eq, L26_1_eq, if_neg n1, if_neg n2, if_neg n3, if_pos e4]) (fun k => by simp only [f27_0, f27_0g, f91_eq, f24_eq, f92_eq, cK_ne, if_neg n1, if_neg n2, if_neg n3, if_pos e4])
  have n4 : ¬ (tnE p q r ≠ 0) := fun h => h e4
  by_cases e5 : q = 0
  case pos => exact .err 9 (by decide) (fun k => by simp only [f26_0, f26_0g, f83_eq hs, f60_eq, f84_eq, L26_1_eq, if_neg n1, if_neg n2, if_neg n3, if_neg n4, cK_beq, if_pos e5]) (fun k => by simp only [f27_0, f27_0g, f91_eq, f24_eq, f92_eq, cK_ne, if_neg n1, if_neg n2, if_neg n3, if_neg n4, cK_beq, if_pos e5])
  obtain ⟨x1, x2, x3, x4, er, hk, hx1, hx2, hx3, hx4⟩ := ratK_cases (α := α) b1 b2 b3 b4 b5 b6
  obtain ⟨y1, y2, y3, y4, er', hk', hy1, hy2, hy3, hy4⟩ := ratK_cases (α := α) p1 p2 p3 p4 p5 p6
  by_cases e6 : er = 0
  case neg => exact .err _ e6 (fun k => by simp only [f26_0, f26_0g, f83_eq hs, f60_eq, f84_eq, L26_1_eq, if_neg n1, if_neg n2, if_neg n3, if_neg n4, cK_beq, if_neg e5, f23_eq, hk, cK_ne, if_pos e6]) (fun k => by simp only [f27_0, f27_0g, f91_eq, f24_eq, f92_eq, cK_ne, if_neg n1, if_neg n2, if_neg n3, if_neg n4, cK_beq, if_neg e5, f25_eq e2, hk, if_pos e6])
  have n6 : ¬ (er ≠ 0) := fun h => h e6
  by_cases e7 : er' = 0
  case neg => exact .err _ e7 (fun k => by simp only [f26_0, f26_0g, f83_eq hs, f60_eq, f84_eq, L26_1_eq, if_neg n1, if_neg n2, if_neg n3, if_neg n4, cK_beq, if_neg e5, f23_eq, hk, hk', cK_ne, if_neg n6, if_pos e7]) (fun k => by simp only [f27_0, f27_0g, f91_eq, f24_eq, f92_eq, cK_ne, if_neg n1, if_neg n2, if_neg n3, if_neg n4, cK_beq, if_neg e5, f25_eq e2, f25_eq e3, hk, hk', if_neg n6, if_pos e7])
  have n7 : ¬ (er' ≠ 0) := fun h => h e7
  have i26 : ∀ k : ByteArray → Int → Int → Int → Int → Int → Int → Int → Int → Int → Int → Option α, f26_0 α s w i n b1 b2 b3 b4 b5 b6 p1 p2 p3 p4 p5 p6 p q r k = f88_0 α (nFl p r x2) (nCe p r x1) (nFl p r y2) (nCe p r y1) fun x121 x122 x123 => cK (!x123)
      (k (⟨#[]⟩ : ByteArray) 0 0 0 0 0 0 0 0 0 14)
      (L26_0_7 α x3 x4 y3 y4 p q r x121 x122 (fun x369 => k (⟨#[]⟩ : ByteArray) 0 0 0 0 0 0 0 0 0 x369) (fun x370 x371 x372 x373 x374 x375 => k s w i n x121 x122 x372 x373 x374 x375 0) 0 0 0 0 0) := fun k => by
    simp only [f26_0, f26_0g, f83_eq hs, f60_eq, f84_eq, L26_1_eq, if_neg n1, if_neg n2, if_neg n3, if_neg n4, cK_beq, if_neg e5, f23_eq, hk, hk', cK_ne, if_neg n6, if_neg n7, f85_eq e4 e5 hx1 hx2, f85_eq e4 e5 hy1 hy2]
  have i27 : ∀ k : ByteArray → Int → Int → Int → Int → Int → Int → Int → Int → Int → Int → Option α, f27_0 α s w i n b1 b2 b3 b4 b5 b6 p1 p2 p3 p4 p5 p6 p q r k = f93_0 α (nFl p r x2) (nCe p r x1) (nFl p r y2) (nCe p r y1) fun x38 x39 x40 => cK (!x40)
      (k (⟨#[]⟩ : ByteArray) 0 0 0 0 0 0 0 0 0 14)
      (f95_0 α x3 x4 x38 x39 p q r fun x41 x42 x43 => cK (x43 != 0) (k (⟨#[]⟩ : ByteArray) 0 0 0 0 0 0 0 0 0 x43)
        (f95_0 α y3 y4 x38 x39 p q r fun x44 x45 x46 => cK (x46 != 0) (k (⟨#[]⟩ : ByteArray) 0 0 0 0 0 0 0 0 0 x46) (k s w i n x38 x39 x41 x42 x44 x45 0))) := fun k => by
    simp only [f27_0, f27_0g, f91_eq, f24_eq, f92_eq, cK_ne, if_neg n1, if_neg n2, if_neg n3, if_neg n4, cK_beq, if_neg e5, f25_eq e2, f25_eq e3, hk, hk', if_neg n6, if_neg n7, f94_eq e4 e5 hx1 hx2, f94_eq e4 e5 hy1 hy2]
  have c1 := n_bd e4 e5 hx1; have c2 := n_bd e4 e5 hx2; have c3 := n_bd e4 e5 hy1; have c4 := n_bd e4 e5 hy2
  obtain ⟨N0, hN0⟩ : ∃ N0, N0 = mxZ (nFl p r x2) (nFl p r y2) := ⟨_, rfl⟩
  obtain ⟨N1, hN1⟩ : ∃ N1, N1 = mnZ (nCe p r x1) (nCe p r y1) := ⟨_, rfl⟩
  have d0 : -1048576 ≤ N0 ∧ N0 ≤ 1048576 := by rw [hN0]; unfold mxZ; split <;> omega
  have d1 : -1048576 ≤ N1 ∧ N1 ≤ 1048576 := by rw [hN1]; unfold mnZ; split <;> omega
  have g88 : ∀ k : Int → Int → Bool → Option α, f88_0 α (nFl p r x2) (nCe p r x1) (nFl p r y2) (nCe p r y1) k = k N0 N1 (decide (N0 ≤ N1)) := fun k => by rw [hN0, hN1]; rfl
  have g93 : ∀ k : Int → Int → Bool → Option α, f93_0 α (nFl p r x2) (nCe p r x1) (nFl p r y2) (nCe p r y1) k = k N0 N1 (decide (N0 ≤ N1)) := fun k => by rw [hN0, hN1]; rfl
  by_cases e8 : N0 ≤ N1
  case neg => exact .err 14 (by decide) (fun k => by rw [i26, g88, decide_eq_false e8, Bool.not_false, cK_true]) (fun k => by rw [i27, g93, decide_eq_false e8, Bool.not_false, cK_true])
  obtain ⟨z, hz⟩ : ∃ z, fuel = z + 3 := ⟨fuel - 3, by have := fuel_ge; omega⟩
  have j26 : ∀ k : ByteArray → Int → Int → Int → Int → Int → Int → Int → Int → Int → Int → Option α, f26_0 α s w i n b1 b2 b3 b4 b5 b6 p1 p2 p3 p4 p5 p6 p q r k =
      if cutE (oLo p q r x3 x4 N0 N1) (oHi p q r x3 x4 N0 N1) ≠ 0 then k ⟨#[]⟩ 0 0 0 0 0 0 0 0 0 (cutE (oLo p q r x3 x4 N0 N1) (oHi p q r x3 x4 N0 N1))
      else if cutE (oLo p q r y3 y4 N0 N1) (oHi p q r y3 y4 N0 N1) ≠ 0 then k ⟨#[]⟩ 0 0 0 0 0 0 0 0 0 (cutE (oLo p q r y3 y4 N0 N1) (oHi p q r y3 y4 N0 N1))
      else k s w i n N0 N1 (cut1 (oLo p q r x3 x4 N0 N1) (oHi p q r x3 x4 N0 N1)) (cut2 (oLo p q r x3 x4 N0 N1) (oHi p q r x3 x4 N0 N1)) (cut1 (oLo p q r y3 y4 N0 N1) (oHi p q r y3 y4 N0 N1)) (cut2 (oLo p q r y3 y4 N0 N1) (oHi p q r y3 y4 N0 N1)) 0 := fun k => by
    rw [i26, g88, decide_eq_true e8, Bool.not_true, cK_false]
    simp only [L26_0_7, hz, R26_0_7]
    rw [S26_7_eq e4 e5 hx3 hx4 d0 d1 (.inl ⟨rfl, rfl, rfl⟩), if_neg (show ¬ (0 : Int) = 1 by decide)]
    split
    · rfl
    · rw [S26_7_eq e4 e5 hy3 hy4 d0 d1 (.inr ⟨rfl, rfl, rfl⟩), if_pos rfl]
      split
      · rfl
      · simp only [S26_0_7, S26_0_7g]
        rw [show decide ((2 : Int) < 2) = false by decide, cK_false]
  have j27 : ∀ k : ByteArray → Int → Int → Int → Int → Int → Int → Int → Int → Int → Int → Option α, f27_0 α s w i n b1 b2 b3 b4 b5 b6 p1 p2 p3 p4 p5 p6 p q r k =
      if cutE (oLo p q r x3 x4 N0 N1) (oHi p q r x3 x4 N0 N1) ≠ 0 then k ⟨#[]⟩ 0 0 0 0 0 0 0 0 0 (cutE (oLo p q r x3 x4 N0 N1) (oHi p q r x3 x4 N0 N1))
      else if cutE (oLo p q r y3 y4 N0 N1) (oHi p q r y3 y4 N0 N1) ≠ 0 then k ⟨#[]⟩ 0 0 0 0 0 0 0 0 0 (cutE (oLo p q r y3 y4 N0 N1) (oHi p q r y3 y4 N0 N1))
      else k s w i n N0 N1 (cut1 (oLo p q r x3 x4 N0 N1) (oHi p q r x3 x4 N0 N1)) (cut2 (oLo p q r x3 x4 N0 N1) (oHi p q r x3 x4 N0 N1)) (cut1 (oLo p q r y3 y4 N0 N1) (oHi p q r y3 y4 N0 N1)) (cut2 (oLo p q r y3 y4 N0 N1) (oHi p q r y3 y4 N0 N1)) 0 := fun k => by
    rw [i27, g93, decide_eq_true e8, Bool.not_true, cK_false, f95_eq e4 e5 hx3 hx4 d0 d1, cK_ne]
    split
    · rfl
    · rw [f95_eq e4 e5 hy3 hy4 d0 d1, cK_ne]
  by_cases e9 : cutE (oLo p q r x3 x4 N0 N1) (oHi p q r x3 x4 N0 N1) = 0
  case neg => exact .err _ e9 (fun k => by rw [j26, if_pos e9]) (fun k => by rw [j27, if_pos e9])
  have n9 : ¬ (cutE (oLo p q r x3 x4 N0 N1) (oHi p q r x3 x4 N0 N1) ≠ 0) := fun h => h e9
  by_cases e10 : cutE (oLo p q r y3 y4 N0 N1) (oHi p q r y3 y4 N0 N1) = 0
  case neg => exact .err _ e10 (fun k => by rw [j26, if_neg n9, if_pos e10]) (fun k => by rw [j27, if_neg n9, if_pos e10])
  have n10 : ¬ (cutE (oLo p q r y3 y4 N0 N1) (oHi p q r y3 y4 N0 N1) ≠ 0) := fun h => h e10
  refine ⟨s, w, i, n, N0, N1, _, _, _, _, 0, fun k => (j26 k).trans ((if_neg n9).trans (if_neg n10)), fun k => (j27 k).trans ((if_neg n9).trans (if_neg n10)), fun _ => ⟨hs, ?_⟩⟩
  have q1 := cut_bd (oLo p q r x3 x4 N0 N1) (oHi p q r x3 x4 N0 N1)
  have q2 := cut_bd (oLo p q r y3 y4 N0 N1) (oHi p q r y3 y4 N0 N1)
  have q3 := cutLe (oLe e4 e5 (y0 := x3) (y1 := x4) (n0 := N0) (n1 := N1))
  have q4 := cutLe (oLe e4 e5 (y0 := y3) (y1 := y4) (n0 := N0) (n1 := N1))
  have rg : ∀ lo hi : Int, (-1048576 ≤ lo ∧ lo ≤ 1048576) → (-1048576 ≤ hi ∧ hi ≤ 1048576) → lo ≤ hi → rgE 1048576 lo hi = 0 := fun lo hi h1 h2 h3 => by
    unfold rgE; rw [if_pos ⟨h1, h2⟩, if_neg (by omega)]
  unfold rdE
  rw [if_neg n1, rg _ _ d0 d1 e8, rg _ _ q1.1 q1.2 q3, rg _ _ q2.1 q2.2 q4]
  rfl
theorem ba_self (x : ByteArray) : (x == x) = true := by
  obtain ⟨d⟩ := x
  show (d == d) = true
  simp
theorem law5 {s : ByteArray} {w i n b1 b2 b3 b4 b5 b6 p1 p2 p3 p4 p5 p6 p q r : Int} (hs : s.size ≤ 9223372036854775807) {k : Bool → Option α} : f5_0 α s w i n b1 b2 b3 b4 b5 b6 p1 p2 p3 p4 p5 p6 p q r k = k true := by
  obtain ⟨s', v1, v2, v3, v4, v5, v6, v7, v8, v9, e, h1, h2, h3⟩ := rd_both (α := α) hs w i n b1 b2 b3 b4 b5 b6 p1 p2 p3 p4 p5 p6 p q r
  simp only [f5_0, f5_0g, f15_0, h1, h2, bne_self_eq_false, cK_false, ba_self, beq_self_eq_true, Bool.and_self, Bool.not_true, cK_ne]
  by_cases he : e = 0
  · rw [if_neg (fun h => h he), f28_eq (h3 he).1, (h3 he).2]; rfl
  · rw [if_pos he]
end Go.AM.K
