/- MeterJudges. -/
import Derived.Test.YtjifpcjmnhnpkaaMB3
import Derived.Test.YtjifpcjmnhnpkaaMP3
import Derived.Test.YtjifpcjmnhnpkaaKTt
namespace Go.AM.K
set_option linter.unusedVariables false
set_option linter.unusedSimpArgs false
variable {α : Type}

/-! ### Degrees -/
def mxI (x y : Int) : Int := if y > x then y else x
def mnI (x y : Int) : Int := if y < x then y else x
def dgL (lo hi : Int) : Int := if 0 < lo ∨ hi < 0 then mnI (lo * lo) (hi * hi) else 0
def dgM (lo hi : Int) : Int := mxI (lo * lo) (hi * hi)
theorem sq_bdI {x : Int} (h : -1048576 ≤ x ∧ x ≤ 1048576) : 0 ≤ x * x ∧ x * x ≤ 1099511627776 := by
  refine ⟨?_, ?_⟩
  · by_cases hx : 0 ≤ x
    · exact Int.mul_nonneg hx hx
    · have := Int.mul_nonneg (a := -x) (b := -x) (by omega) (by omega)
      rwa [Int.neg_mul_neg] at this
  · by_cases hx : 0 ≤ x
    · exact Int.mul_le_mul (by omega : x ≤ 1048576) (by omega : x ≤ 1048576) hx (by omega)
    · have := Int.mul_le_mul (by omega : -x ≤ 1048576) (by omega : -x ≤ 1048576) (by omega) (by omega)
      rwa [Int.neg_mul_neg] at this
theorem dg_bd {lo hi : Int} (h : (-1048576 ≤ lo ∧ lo ≤ 1048576) ∧ -1048576 ≤ hi ∧ hi ≤ 1048576) : (0 ≤ dgL lo hi ∧ dgL lo hi ≤ 1099511627776) ∧ 0 ≤ dgM lo hi ∧ dgM lo hi ≤ 1099511627776 := by
  have h1 := sq_bdI h.1
  have h2 := sq_bdI h.2
  unfold dgL dgM mnI mxI
  refine ⟨?_, ?_⟩
  · split
    · split <;> omega
    · omega
  · split <;> omega
def absI (x : Int) : Int := if -x > x then -x else x
theorem abs_sq (x : Int) : absI x * absI x = x * x := by
  unfold absI; split
  · exact Int.neg_mul_neg x x
  · rfl
theorem abs_nn (x : Int) : 0 ≤ absI x := by unfold absI; split <;> omega
theorem sq_le {x y : Int} (hx : 0 ≤ x) (hy : 0 ≤ y) : x * x ≤ y * y ↔ x ≤ y := by
  constructor
  · intro h
    by_cases hc : x ≤ y
    · exact hc
    · have := Int.mul_le_mul (by omega : y + 1 ≤ x) (by omega : y + 1 ≤ x) (by omega) (by omega)
      rw [Int.add_mul, Int.mul_add, Int.one_mul, Int.mul_one] at this
      omega
  · intro h; exact Int.mul_le_mul h h hx hy
theorem mn_abs {lo hi : Int} : (if absI hi < absI lo then absI hi else absI lo) * (if absI hi < absI lo then absI hi else absI lo) = mnI (lo * lo) (hi * hi) := by
  have h := sq_le (abs_nn lo) (abs_nn hi)
  rw [abs_sq, abs_sq] at h
  unfold mnI
  by_cases hc : absI hi < absI lo
  · have h4 : ¬ (lo * lo ≤ hi * hi) := fun hh => absurd (h.1 hh) (by omega)
    rw [if_pos hc, if_pos (by omega), abs_sq]
  · rw [if_neg hc, if_neg (by have := h.2 (by omega); omega), abs_sq]
theorem mx_abs {lo hi : Int} : (if absI hi > absI lo then absI hi else absI lo) * (if absI hi > absI lo then absI hi else absI lo) = mxI (lo * lo) (hi * hi) := by
  have h := sq_le (abs_nn hi) (abs_nn lo)
  rw [abs_sq, abs_sq] at h
  unfold mxI
  by_cases hc : absI hi > absI lo
  · have h4 : ¬ (hi * hi ≤ lo * lo) := fun hh => absurd (h.1 hh) (by omega)
    rw [if_pos hc, if_pos (by omega), abs_sq]
  · rw [if_neg hc, if_neg (by have := h.2 (by omega); omega), abs_sq]

theorem S101_eq {a b c d e f i r0 r1 x y : Int} {kn : Int → Int → Int → Option α} {k1 : Int → Int → Int → Bool → Option α} (hi : i = 0 ∧ r0 = a ∧ r1 = b ∨ i = 1 ∧ r0 = c ∧ r1 = d ∨ i = 2 ∧ r0 = e ∧ r1 = f)
    (h : (-1048576 ≤ r0 ∧ r0 ≤ 1048576) ∧ -1048576 ≤ r1 ∧ r1 ≤ 1048576) (hx : 0 ≤ x ∧ x ≤ 4398046511104) (hy : 0 ≤ y ∧ y ≤ 4398046511104) :
    S101_0_3 α a b c d e f x y i kn k1 = kn (x + dgL r0 r1) (y + dgM r0 r1) (i + 1) := by
  have hJ : ∀ K : Int → Int → Option α, J101_0_0 α a b c d e f i K = K r0 r1 := by
    intro K
    rcases hi with ⟨rfl, rfl, rfl⟩ | ⟨rfl, rfl, rfl⟩ | ⟨rfl, rfl, rfl⟩ <;> rfl
  have hlt : decide (i < 3) = true := decide_eq_true (by omega)
  obtain ⟨g1, g2⟩ := dg_bd h
  have a0 : (if w64 (0 - r0) > r0 then w64 (0 - r0) else r0) = absI r0 := by
    rw [w64_in (by omega) (by omega), show 0 - r0 = -r0 by omega]; rfl
  have a1 : (if w64 (0 - r1) > r1 then w64 (0 - r1) else r1) = absI r1 := by
    rw [w64_in (by omega) (by omega), show 0 - r1 = -r1 by omega]; rfl
  have h1 := sq_bdI h.1
  have h2 := sq_bdI h.2
  have b1 : 0 ≤ mnI (r0 * r0) (r1 * r1) ∧ mnI (r0 * r0) (r1 * r1) ≤ 1099511627776 := by unfold mnI; split <;> omega
  have b2 : 0 ≤ mxI (r0 * r0) (r1 * r1) ∧ mxI (r0 * r0) (r1 * r1) ≤ 1099511627776 := by unfold mxI; split <;> omega
  simp only [S101_0_3, S101_0_3g, hlt, cK_true, hJ, a0, a1, J101_0_2, J101_0_2g, J101_0_1, J101_0_1g, mn_abs, mx_abs]
  rw [w64_in (n := i + 1) (by omega) (by omega), w64_in (n := mnI (r0 * r0) (r1 * r1)) (by omega) (by omega), w64_in (n := mxI (r0 * r0) (r1 * r1)) (by omega) (by omega), w64_in (n := x + mnI (r0 * r0) (r1 * r1)) (by omega) (by omega), w64_in (n := y + mxI (r0 * r0) (r1 * r1)) (by omega) (by omega)]
  unfold dgL dgM
  by_cases p : 0 < r0
  · rw [decide_eq_true p, cK_true, if_pos (.inl p)]
  · rw [decide_eq_false p, cK_false]
    by_cases q : r1 < 0
    · rw [decide_eq_true q, cK_true, if_pos (.inr q)]
    · rw [decide_eq_false q, cK_false, if_neg (by omega), Int.add_zero]
theorem S104_eq {a b c d e f i r0 r1 x y : Int} {kn : Int → Int → Int → Option α} {k1 : Int → Int → Int → Bool → Option α} (hi : i = 0 ∧ r0 = a ∧ r1 = b ∨ i = 1 ∧ r0 = c ∧ r1 = d ∨ i = 2 ∧ r0 = e ∧ r1 = f)
    (h : (-1048576 ≤ r0 ∧ r0 ≤ 1048576) ∧ -1048576 ≤ r1 ∧ r1 ≤ 1048576) (hx : 0 ≤ x ∧ x ≤ 4398046511104) (hy : 0 ≤ y ∧ y ≤ 4398046511104) :
    S104_0_2 α a b c d e f x y i kn k1 = kn (x + dgL r0 r1) (y + dgM r0 r1) (i + 1) := by
  have h1 := sq_bdI h.1
  have h2 := sq_bdI h.2
  have hJ : ∀ K : Int → Int → Option α, J104_0_0 α i a b c d e f K = K (r0 * r0) (r1 * r1) := by
    intro K
    rw [← w64_in (n := r0 * r0) (by omega) (by omega), ← w64_in (n := r1 * r1) (by omega) (by omega)]
    rcases hi with ⟨rfl, rfl, rfl⟩ | ⟨rfl, rfl, rfl⟩ | ⟨rfl, rfl, rfl⟩ <;> simp only [J104_0_0, J104_0_0g, Int.reduceBEq, cK_true, cK_false]
  have hJ1 : ∀ K : Bool → Option α, J104_0_1 α i a b c d e f K = cK (decide (0 < r0)) (K true) (K (decide (r1 < 0))) := by
    intro K
    rcases hi with ⟨rfl, rfl, rfl⟩ | ⟨rfl, rfl, rfl⟩ | ⟨rfl, rfl, rfl⟩ <;> simp only [J104_0_1, J104_0_1g, Int.reduceBEq, cK_true, cK_false]
  have hlt : decide (i < 3) = true := decide_eq_true (by omega)
  have b1 : 0 ≤ mnI (r0 * r0) (r1 * r1) ∧ mnI (r0 * r0) (r1 * r1) ≤ 1099511627776 := by unfold mnI; split <;> omega
  have b2 : 0 ≤ mxI (r0 * r0) (r1 * r1) ∧ mxI (r0 * r0) (r1 * r1) ≤ 1099511627776 := by unfold mxI; split <;> omega
  have m1 : (if r1 * r1 < r0 * r0 then r1 * r1 else r0 * r0) = mnI (r0 * r0) (r1 * r1) := rfl
  have m2 : (if r1 * r1 > r0 * r0 then r1 * r1 else r0 * r0) = mxI (r0 * r0) (r1 * r1) := rfl
  simp only [S104_0_2, S104_0_2g, hlt, cK_true, hJ, hJ1, m1, m2]
  rw [w64_in (n := i + 1) (by omega) (by omega), w64_in (n := x + mnI (r0 * r0) (r1 * r1)) (by omega) (by omega), w64_in (n := y + mxI (r0 * r0) (r1 * r1)) (by omega) (by omega)]
  unfold dgL dgM
  by_cases p : 0 < r0
  · rw [decide_eq_true p, cK_true, if_pos (.inl p)]
  · rw [decide_eq_false p, cK_false]
    by_cases q : r1 < 0
    · rw [decide_eq_true q, cK_true, if_pos (.inr q)]
    · rw [decide_eq_false q, cK_false, if_neg (by omega), Int.add_zero]
def dg3L (a b c d e f : Int) : Int := dgL a b + dgL c d + dgL e f
def dg3M (a b c d e f : Int) : Int := dgM a b + dgM c d + dgM e f
section
variable {a b c d e f : Int} (h1 : (-1048576 ≤ a ∧ a ≤ 1048576) ∧ -1048576 ≤ b ∧ b ≤ 1048576) (h2 : (-1048576 ≤ c ∧ c ≤ 1048576) ∧ -1048576 ≤ d ∧ d ≤ 1048576) (h3 : (-1048576 ≤ e ∧ e ≤ 1048576) ∧ -1048576 ≤ f ∧ f ≤ 1048576)
include h1 h2 h3
theorem f101_eq {s : ByteArray} {w i n : Int} {k : Int → Int → Option α} : f101_0 α s w i n a b c d e f k = k (dg3L a b c d e f) (dg3M a b c d e f) := by
  obtain ⟨z, hz⟩ : ∃ z, fuel = z + 4 := ⟨fuel - 4, by have := fuel_ge; omega⟩
  obtain ⟨p1, p2⟩ := dg_bd h1
  obtain ⟨q1, q2⟩ := dg_bd h2
  obtain ⟨r1, r2⟩ := dg_bd h3
  simp only [f101_0, f101_0g, L101_0_3, hz, R101_0_3]
  rw [S101_eq (.inl ⟨rfl, rfl, rfl⟩) h1 (by omega) (by omega), show (0 : Int) + 1 = 1 from rfl, S101_eq (.inr (.inl ⟨rfl, rfl, rfl⟩)) h2 (by omega) (by omega), show (1 : Int) + 1 = 2 from rfl, S101_eq (.inr (.inr ⟨rfl, rfl, rfl⟩)) h3 (by omega) (by omega), show (2 : Int) + 1 = 3 from rfl]
  simp only [S101_0_3, S101_0_3g]
  rw [show decide ((3 : Int) < 3) = false by decide, cK_false]
  unfold dg3L dg3M
  rw [Int.zero_add, Int.zero_add]
theorem f104_eq {s : ByteArray} {w i n : Int} {k : Int → Int → Option α} : f104_0 α s w i n a b c d e f k = k (dg3L a b c d e f) (dg3M a b c d e f) := by
  obtain ⟨z, hz⟩ : ∃ z, fuel = z + 4 := ⟨fuel - 4, by have := fuel_ge; omega⟩
  obtain ⟨p1, p2⟩ := dg_bd h1
  obtain ⟨q1, q2⟩ := dg_bd h2
  obtain ⟨r1, r2⟩ := dg_bd h3
  simp only [f104_0, f104_0g, f103_0, f103_0g, L104_0_2, hz, R104_0_2]
  rw [S104_eq (.inl ⟨rfl, rfl, rfl⟩) h1 (by omega) (by omega), show (0 : Int) + 1 = 1 from rfl, S104_eq (.inr (.inl ⟨rfl, rfl, rfl⟩)) h2 (by omega) (by omega), show (1 : Int) + 1 = 2 from rfl, S104_eq (.inr (.inr ⟨rfl, rfl, rfl⟩)) h3 (by omega) (by omega), show (2 : Int) + 1 = 3 from rfl]
  simp only [S104_0_2, S104_0_2g]
  rw [show decide ((3 : Int) < 3) = false by decide, cK_false]
  unfold dg3L dg3M
  rw [Int.zero_add, Int.zero_add]
theorem dg3_bd : (0 ≤ dg3L a b c d e f ∧ dg3L a b c d e f ≤ 4398046511104) ∧ 0 ≤ dg3M a b c d e f ∧ dg3M a b c d e f ≤ 4398046511104 := by
  obtain ⟨p1, p2⟩ := dg_bd h1
  obtain ⟨q1, q2⟩ := dg_bd h2
  obtain ⟨r1, r2⟩ := dg_bd h3
  unfold dg3L dg3M
  omega
end

/-! ### Psi -/
theorem cosP_eq (q : Nat) : cosP q = (cosX q - cosR q, cosX q + cosR q) := rfl
theorem f105_106 {q : Nat} (hk : q ≤ 1024) {k : Int → Int → Option α} {kk : Int → Int → Int → Int → Option α} (h : ∀ a b c d, kk a b c d = k a b) :
    f105_0 α (q : Int) 2048 (fun x27 x28 x29 x30 => f106_0 α x27 x28 x29 kk) = k (cosP q).1 (cosP q).2 := by
  have hx := cosX_bd q
  have hd := dir_bd (2048 * (q : Int))
  have hy := rdv_bd hd.h3 hd.h4
  have hr : 0 ≤ cosR q ∧ cosR q ≤ 2 := by unfold cosR; split <;> omega
  rw [f105_cos hk, f106_eq (by omega) (by omega) (by omega), h]
  rfl
/-- The last one that is not below, of those up to some one. -/
theorem R52_0_eq {nhi : Int} {k : Int → Bool → Int → Option α} : ∀ (m q n : Nat) (x : Int), q + m = 1025 → m < n → R52_0_0 α nhi k n (q : Int) x = k 1025 false ((List.range' q m).foldl (fun x k => if nhi ≤ (cosP k).1 then (k : Int) else x) x) := by
  intro m
  induction m with
  | zero =>
    intro q n x h1 h2
    obtain ⟨n, rfl⟩ : ∃ z, n = z + 1 := ⟨n - 1, by omega⟩
    simp only [R52_0_0, S52_0_0, S52_0_0g]
    rw [decide_eq_false (by omega), cK_false, show (q : Int) = 1025 by omega]; rfl
  | succ m ih =>
    intro q n x h1 h2
    obtain ⟨n, rfl⟩ : ∃ z, n = z + 1 := ⟨n - 1, by omega⟩
    simp only [R52_0_0, S52_0_0, S52_0_0g]
    rw [decide_eq_true (by omega), cK_true, f105_106 (by omega) (k := fun lo hi => cK (decide (nhi ≤ lo)) (R52_0_0 α nhi k n (w64 ((q : Int) + 1)) (q : Int)) (R52_0_0 α nhi k n (w64 ((q : Int) + 1)) x)) (fun _ _ _ _ => rfl), w64_in (by omega) (by omega), show (q : Int) + 1 = ((q + 1 : Nat) : Int) by omega, cK_dec, ih (q + 1) n _ (by omega) (by omega), ih (q + 1) n _ (by omega) (by omega), List.range'_succ, List.foldl_cons]
    split <;> rfl
/-- The least one that is not above, of those up to some one. -/
def psD (nlo : Int) : Nat → Int → Int
  | 0, y => if (cosP 0).2 ≤ nlo then 0 else y
  | q + 1, y => psD nlo q (if (cosP (q + 1)).2 ≤ nlo then ((q + 1 : Nat) : Int) else y)
theorem R52_1_eq {nlo : Int} {k : Int → Bool → Int → Option α} : ∀ (q n : Nat) (y : Int), q ≤ 1024 → q + 1 < n → R52_0_1 α nlo k n (q : Int) y = k (-1) false (psD nlo q y) := by
  intro q
  induction q with
  | zero =>
    intro n y h1 h2
    obtain ⟨n, rfl⟩ : ∃ z, n = z + 2 := ⟨n - 2, by omega⟩
    have e : ∀ y, R52_0_1 α nlo k (n + 1) (-1) y = k (-1) false y := fun y => by
      simp only [R52_0_1, S52_0_1, S52_0_1g]
      rw [decide_eq_false (by decide), cK_false]
    rw [R52_0_1]
    simp only [S52_0_1, S52_0_1g]
    rw [decide_eq_true (by omega), cK_true, f105_106 (by omega) (k := fun lo hi => cK (decide (hi ≤ nlo)) (R52_0_1 α nlo k (n + 1) (w64 (((0 : Nat) : Int) - 1)) ((0 : Nat) : Int)) (R52_0_1 α nlo k (n + 1) (w64 (((0 : Nat) : Int) - 1)) y)) (fun _ _ _ _ => rfl), show w64 (((0 : Nat) : Int) - 1) = -1 by decide, e, e, cK_dec]
    unfold psD
    split <;> rfl
  | succ q ih =>
    intro n y h1 h2
    obtain ⟨n, rfl⟩ : ∃ z, n = z + 1 := ⟨n - 1, by omega⟩
    simp only [R52_0_1, S52_0_1, S52_0_1g]
    rw [decide_eq_true (by omega), cK_true, f105_106 (by omega) (k := fun lo hi => cK (decide (hi ≤ nlo)) (R52_0_1 α nlo k n (w64 (((q + 1 : Nat) : Int) - 1)) ((q + 1 : Nat) : Int)) (R52_0_1 α nlo k n (w64 (((q + 1 : Nat) : Int) - 1)) y)) (fun _ _ _ _ => rfl), w64_in (by omega) (by omega), show ((q + 1 : Nat) : Int) - 1 = (q : Int) by omega, ih n _ (by omega) (by omega), ih n _ (by omega) (by omega), cK_dec]
    rw [psD]
    split <;> rfl
/-- Both ways find the same. -/
theorem psi_fst {nlo nhi : Int} : ∀ (l : List Nat) (x y : Int) (b : Bool), (l.foldl (psiS nlo nhi) (x, y, b)).1 = l.foldl (fun x k => if nhi ≤ (cosP k).1 then (k : Int) else x) x
  | [], x, y, b => rfl
  | k :: r, x, y, b => by rw [List.foldl_cons, List.foldl_cons]; exact psi_fst r _ _ _
theorem psi_snd_t {nlo nhi : Int} : ∀ (l : List Nat) (x y : Int), (l.foldl (psiS nlo nhi) (x, y, true)).2.1 = y
  | [], x, y => rfl
  | k :: r, x, y => by
    rw [List.foldl_cons]
    have : psiS nlo nhi (x, y, true) k = ((psiS nlo nhi (x, y, true) k).1, y, true) := by
      unfold psiS; simp
    rw [this]
    exact psi_snd_t r _ _
/-- The first of a list that is not above. -/
def psFst (nlo : Int) : List Nat → Int → Int
  | [], y => y
  | k :: r, y => if (cosP k).2 ≤ nlo then (k : Int) else psFst nlo r y
theorem psi_snd {nlo nhi : Int} : ∀ (l : List Nat) (x y : Int), (l.foldl (psiS nlo nhi) (x, y, false)).2.1 = psFst nlo l y
  | [], x, y => rfl
  | k :: r, x, y => by
    rw [List.foldl_cons]
    simp only [psFst]
    by_cases h : (cosP k).2 ≤ nlo
    · have : psiS nlo nhi (x, y, false) k = ((psiS nlo nhi (x, y, false) k).1, (k : Int), true) := by unfold psiS; simp [h]
      rw [this, psi_snd_t, if_pos h]
    · have : psiS nlo nhi (x, y, false) k = ((psiS nlo nhi (x, y, false) k).1, y, false) := by unfold psiS; simp [h]
      rw [this, if_neg h]
      exact psi_snd r _ _
theorem psFst_app {nlo : Int} : ∀ (l m : List Nat) (y : Int), psFst nlo (l ++ m) y = psFst nlo l (psFst nlo m y)
  | [], m, y => rfl
  | k :: r, m, y => by
    simp only [List.cons_append, psFst, psFst_app r m y]
theorem psD_eq {nlo : Int} : ∀ (q : Nat) (y : Int), psD nlo q y = psFst nlo (List.range' 0 (q + 1)) y
  | 0, y => rfl
  | q + 1, y => by
    have e : List.range' 0 (q + 1 + 1) = List.range' 0 (q + 1) ++ [q + 1] := by
      rw [List.range'_concat (s := 0) (n := q + 1)]; simp
    rw [psD, psD_eq q, e, psFst_app]
    rfl
theorem f52_eq {s : ByteArray} {w i n a b c d e f : Int} {k : Int → Int → Option α} : f52_0 α s w i n a b c d e f k = k (psiF a b).1 (psiF a b).2.1 := by
  have hf := fuel_ge
  simp only [f52_0, f52_0g, L52_0_0, L52_0_1]
  have h1 := R52_0_eq (α := α) (nhi := b) (k := fun x35 x36 x37 => R52_0_1 α a (fun x63 x64 x65 => k x37 x65) fuel 1024 1024) 1025 0 fuel 0 (by decide) (by omega)
  have h2 : ∀ x, R52_0_1 α a (fun x63 x64 x65 => k x x65) fuel 1024 1024 = k x (psD a 1024 1024) := fun x => R52_1_eq (α := α) (nlo := a) (k := fun x63 x64 x65 => k x x65) 1024 fuel 1024 (by decide) (by omega)
  refine h1.trans ((h2 _).trans ?_)
  rw [psD_eq]
  unfold psiF psiL
  rw [psi_fst, psi_snd]

/-! ### The cosines fall -/
def cosFall : Nat → Nat → Bool
  | 0, _ => true
  | m + 1, k => decide (cosX (k + 1) < cosX k) && cosFall m (k + 1)
theorem cosFall_spec : ∀ (m k : Nat), cosFall m k = true → ∀ q, k ≤ q → q < k + m → cosX (q + 1) < cosX q
  | 0, k, _, q, h1, h2 => by omega
  | m + 1, k, h, q, h1, h2 => by
    simp only [cosFall, Bool.and_eq_true, decide_eq_true_eq] at h
    by_cases hq : q = k
    · subst hq; exact h.1
    · exact cosFall_spec m (k + 1) h.2 q (by omega) (by omega)
set_option maxRecDepth 100000 in
theorem cos_fall : cosFall 1024 0 = true := by decide +kernel
theorem cos_lt : ∀ (j k : Nat), j < k → k ≤ 1024 → cosX k < cosX j := by
  intro j k
  induction k with
  | zero => intro h; omega
  | succ k ih =>
    intro h1 h2
    have h3 := cosFall_spec 1024 0 cos_fall k (by omega) (by omega)
    by_cases hk : j = k
    · subst hk; exact h3
    · have := ih (by omega) (by omega); omega
theorem cosR_nn (k : Nat) : 0 ≤ cosR k := by unfold cosR; split <;> omega
/-- What the first loop finds is 0 or not below, the second one's is 1024 or not above. -/
theorem fst_spec {nhi : Int} : ∀ (l : List Nat) (x : Int), (∀ k ∈ l, k ≤ 1024) → (l.foldl (fun x k => if nhi ≤ (cosP k).1 then (k : Int) else x) x = x ∨ ∃ k : Nat, k ≤ 1024 ∧ l.foldl (fun x k => if nhi ≤ (cosP k).1 then (k : Int) else x) x = (k : Int) ∧ nhi ≤ (cosP k).1)
  | [], x, _ => .inl rfl
  | k :: r, x, h => by
    rw [List.foldl_cons]
    have hr : ∀ q ∈ r, q ≤ 1024 := fun q hq => h q (by simp [hq])
    rcases fst_spec (nhi := nhi) r (if nhi ≤ (cosP k).1 then (k : Int) else x) hr with h1 | h1
    · rw [h1]
      by_cases hc : nhi ≤ (cosP k).1
      · exact .inr ⟨k, h k (by simp), by rw [if_pos hc], hc⟩
      · exact .inl (by rw [if_neg hc])
    · exact .inr h1
theorem snd_spec {nlo : Int} : ∀ (l : List Nat) (y : Int), (∀ k ∈ l, k ≤ 1024) → (psFst nlo l y = y ∨ ∃ k : Nat, k ≤ 1024 ∧ psFst nlo l y = (k : Int) ∧ (cosP k).2 ≤ nlo)
  | [], y, _ => .inl rfl
  | k :: r, y, h => by
    simp only [psFst]
    by_cases hc : (cosP k).2 ≤ nlo
    · exact .inr ⟨k, h k (by simp), by rw [if_pos hc], hc⟩
    · rw [if_neg hc]; exact snd_spec r y fun q hq => h q (by simp [hq])
theorem psi_order {nlo nhi : Int} (h : nlo ≤ nhi) : (0 ≤ (psiF nlo nhi).1 ∧ (psiF nlo nhi).1 ≤ (psiF nlo nhi).2.1) ∧ (psiF nlo nhi).2.1 ≤ 1024 := by
  unfold psiF psiL
  rw [psi_fst, psi_snd]
  have hm : ∀ k ∈ List.range' 0 1025, k ≤ 1024 := fun k hk => by have := List.mem_range'_1.1 hk; omega
  generalize List.range' 0 1025 = l at *
  rcases fst_spec (nhi := nhi) l 0 hm with h1 | ⟨j, j1, j2, j3⟩ <;> rcases snd_spec (nlo := nlo) l 1024 hm with h2 | ⟨k, k1, k2, k3⟩
  · rw [h1, h2]; omega
  · rw [h1, k2]; omega
  · rw [j2, h2]; omega
  · rw [j2, k2]
    have hjk : j ≤ k := by
      by_cases hc : j ≤ k
      · exact hc
      · have h4 := cos_lt k j (by omega) (by omega)
        have h5 := cosR_nn j
        have h6 := cosR_nn k
        rw [cosP_eq] at j3 k3
        simp only at j3 k3
        omega
    omega

/-! ### The law -/
theorem law10 {s : ByteArray} {w i n a b c d e f : Int} (hs : s.size ≤ 9223372036854775807) {k : Bool → Option α} : f10_0 α s w i n a b c d e f k = k true := by
  simp only [f10_0, f10_0g, f15_0, cK_dec]
  split
  · rfl
  · simp only [f46_0, f46_0g, f47_0, f47_0g, f48_eq hs, f28_eq hs, f49_eq]
    by_cases hE : rdE s w i n a b c d e f = 0
    · have hE' : ¬ (rdE s w i n a b c d e f ≠ 0) := fun hh => hh hE
      obtain ⟨h0, h1, h2, h3⟩ := rdE_ok hE
      obtain ⟨b1, b2⟩ := dg3_bd (a := a) (b := b) (c := c) (d := d) (e := e) (f := f) ⟨h1.1, h1.2.1⟩ ⟨h2.1, h2.2.1⟩ ⟨h3.1, h3.2.1⟩
      simp only [cK_ne, if_neg hE', f101_eq (a := a) (b := b) (c := c) (d := d) (e := e) (f := f) ⟨h1.1, h1.2.1⟩ ⟨h2.1, h2.2.1⟩ ⟨h3.1, h3.2.1⟩]
      rw [f78_pos (by decide) (by decide) (by omega) (by omega), f79_pos (by decide) (by decide) (by omega) (by omega)]
      simp only [f50_0, f50_0g, f51_0, f51_0g, f52_eq, f104_eq (a := a) (b := b) (c := c) (d := d) (e := e) (f := f) ⟨h1.1, h1.2.1⟩ ⟨h2.1, h2.2.1⟩ ⟨h3.1, h3.2.1⟩, f29_eq]
      have hp := psi_order (nlo := a) (nhi := b) h1.2.2
      have hf : f99_0 α (dg3L a b c d e f) 1048576 = fun kk => kk (dg3L a b c d e f / 1048576) := by
        funext kk; exact f99_eq (by decide) (by decide) (by omega) (by omega)
      have hc : f42_0 α (dg3M a b c d e f) 1048576 = fun kk => kk (cdv (dg3M a b c d e f) 1048576) := by
        funext kk; exact f42_eq (by decide) (by decide) (by omega) (by omega)
      rw [decide_eq_true hp.1, decide_eq_true hp.2]
      simp only [hf, hc, hE, bne_self_eq_false, beq_self_eq_true, cK_true, cK_false, Bool.and_self]
      by_cases p : 1099511627776 < dg3L a b c d e f
      · rw [decide_eq_true p]; simp
      · rw [decide_eq_false p]
        by_cases q : dg3M a b c d e f ≤ 1099511627776
        · rw [decide_eq_true q]; simp
        · rw [decide_eq_false q]; simp
    · simp only [cK_ne, if_pos hE, bne_self_eq_false, cK_false, beq_self_eq_true, cK_true, Bool.and_self]
end Go.AM.K
