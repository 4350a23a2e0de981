/- Intervals that spread: forward and backward is the same as all pairs. Plain. -/
import Derived.Test.YtcidonjhifjpaaaKP1
namespace Go.AM
set_option linter.unusedSimpArgs false

def mx (x y : Int) : Int := if y > x then y else x
def mn (x y : Int) : Int := if y < x then y else x
theorem mx_le {x y z : Int} : mx x y ≤ z ↔ x ≤ z ∧ y ≤ z := by unfold mx; split <;> omega
theorem mn_neg {x y : Int} : mn x y = -(mx (-x) (-y)) := by unfold mx mn; split <;> split <;> omega

/-- Forward. -/
def fwA (a s : Nat → Int) (lo : Int) : Nat → Int
  | 0 => a 0
  | i + 1 => mx (a (i + 1)) (fwA a s lo i + lo * (s (i + 1) - s i))
def fwB (b s : Nat → Int) (hi : Int) : Nat → Int
  | 0 => b 0
  | i + 1 => mn (b (i + 1)) (fwB b s hi i + hi * (s (i + 1) - s i))
/-- Backward, by the distance from the end. -/
def bkA (a s : Nat → Int) (lo hi : Int) (N : Nat) : Nat → Int
  | 0 => fwA a s lo (N - 1)
  | k + 1 => mx (fwA a s lo (N - 1 - (k + 1))) (bkA a s lo hi N k - hi * (s (N - 1 - k) - s (N - 1 - (k + 1))))
def bkB (b s : Nat → Int) (lo hi : Int) (N : Nat) : Nat → Int
  | 0 => fwB b s hi (N - 1)
  | k + 1 => mn (fwB b s hi (N - 1 - (k + 1))) (bkB b s lo hi N k - lo * (s (N - 1 - k) - s (N - 1 - (k + 1))))

theorem fwB_neg {b s : Nat → Int} {hi : Int} : ∀ i, fwB b s hi i = -(fwA (fun i => -(b i)) s (-hi) i)
  | 0 => by simp [fwA, fwB]
  | i + 1 => by
    simp only [fwA, fwB, mn_neg, fwB_neg i, Int.neg_mul]
    congr 2; omega
theorem bkB_neg {b s : Nat → Int} {lo hi : Int} {N : Nat} : ∀ k, bkB b s lo hi N k = -(bkA (fun i => -(b i)) s (-hi) (-lo) N k)
  | 0 => by simp only [bkA, bkB, fwB_neg]
  | k + 1 => by
    simp only [bkA, bkB, mn_neg, fwB_neg, bkB_neg k, Int.neg_mul]
    congr 2 <;> omega

theorem fwA_le {a s : Nat → Int} {lo : Int} : ∀ (i : Nat) (z : Int), fwA a s lo i ≤ z ↔ ∀ j, j ≤ i → a j + lo * (s i - s j) ≤ z
  | 0, z => by
    simp only [fwA]
    constructor
    · intro h j hj
      obtain rfl : j = 0 := by omega
      simpa using h
    · intro h; simpa using h 0 (by omega)
  | i + 1, z => by
    simp only [fwA, mx_le]
    have ih := fwA_le (a := a) (s := s) (lo := lo) i (z - lo * (s (i + 1) - s i))
    constructor
    · intro ⟨h1, h2⟩ j hj
      by_cases hj' : j = i + 1
      · subst hj'; simpa using h1
      · have := ih.1 (by omega) j (by omega)
        simp only [Int.mul_sub] at *; omega
    · intro h
      refine ⟨by simpa using h (i + 1) (by omega), ?_⟩
      have := ih.2 (fun j hj => by
        have := h j (by omega)
        simp only [Int.mul_sub] at *; omega)
      omega

theorem bkA_le {a s : Nat → Int} {lo hi : Int} {N : Nat} : ∀ (k : Nat) (_ : k + 1 ≤ N) (z : Int), bkA a s lo hi N k ≤ z ↔ ∀ m, N - 1 - k ≤ m → m ≤ N - 1 → fwA a s lo m - hi * (s m - s (N - 1 - k)) ≤ z
  | 0, hk, z => by
    simp only [bkA]
    constructor
    · intro h m h1 h2
      obtain rfl : m = N - 1 := by omega
      simpa using h
    · intro h; simpa using h (N - 1) (by omega) (by omega)
  | k + 1, hk, z => by
    simp only [bkA, mx_le]
    have ih := bkA_le (a := a) (s := s) (lo := lo) (hi := hi) (N := N) k (by omega) (z + hi * (s (N - 1 - k) - s (N - 1 - (k + 1))))
    constructor
    · intro ⟨h1, h2⟩ m h3 h4
      by_cases hm : m = N - 1 - (k + 1)
      · subst hm; simpa using h1
      · have := ih.1 (by omega) m (by omega) h4
        simp only [Int.mul_sub] at *; omega
    · intro h
      refine ⟨by simpa using h (N - 1 - (k + 1)) (by omega) (by omega), ?_⟩
      have := ih.2 (fun m h1 h2 => by
        have := h m (by omega) h2
        simp only [Int.mul_sub] at *; omega)
      omega

/-- What is known of i by j. -/
def cnd (a s : Nat → Int) (lo hi : Int) (i j : Nat) : Int := if s j ≤ s i then a j + (s i - s j) * lo else a j - (s j - s i) * hi
/-- All pairs. -/
def allA (a s : Nat → Int) (lo hi : Int) (i : Nat) : Nat → Int
  | 0 => a i
  | n + 1 => mx (allA a s lo hi i n) (cnd a s lo hi i n)
def cndB (b s : Nat → Int) (lo hi : Int) (i j : Nat) : Int := if s j ≤ s i then b j + (s i - s j) * hi else b j - (s j - s i) * lo
def allB (b s : Nat → Int) (lo hi : Int) (i : Nat) : Nat → Int
  | 0 => b i
  | n + 1 => mn (allB b s lo hi i n) (cndB b s lo hi i n)

theorem cndB_neg {b s : Nat → Int} {lo hi : Int} {i j : Nat} : cndB b s lo hi i j = -(cnd (fun i => -(b i)) s (-hi) (-lo) i j) := by
  unfold cnd cndB; split <;> simp only [Int.mul_neg] <;> omega
theorem allB_neg {b s : Nat → Int} {lo hi : Int} {i : Nat} : ∀ n, allB b s lo hi i n = -(allA (fun i => -(b i)) s (-hi) (-lo) i n)
  | 0 => by simp [allA, allB]
  | n + 1 => by simp only [allA, allB, mn_neg, allB_neg n, cndB_neg, Int.neg_neg]

theorem allA_le {a s : Nat → Int} {lo hi : Int} {i : Nat} {z : Int} : ∀ n, allA a s lo hi i n ≤ z ↔ a i ≤ z ∧ ∀ j, j < n → cnd a s lo hi i j ≤ z
  | 0 => by simp [allA]
  | n + 1 => by
    simp only [allA, mx_le, allA_le n]
    constructor
    · intro ⟨⟨h1, h2⟩, h3⟩
      refine ⟨h1, fun j hj => ?_⟩
      by_cases hj' : j = n
      · subst hj'; exact h3
      · exact h2 j (by omega)
    · intro ⟨h1, h2⟩
      exact ⟨⟨h1, fun j hj => h2 j (by omega)⟩, h2 n (by omega)⟩

theorem le_ext {x y : Int} (h : ∀ z, x ≤ z ↔ y ≤ z) : x = y := Int.le_antisymm ((h y).2 (Int.le_refl y)) ((h x).1 (Int.le_refl x))

/-- The two roads meet. -/
theorem bkA_all {a s : Nat → Int} {lo hi : Int} {N : Nat} (hr : lo ≤ hi) (hs : ∀ i j, i < j → j < N → s i < s j) {i : Nat} (hi' : i < N) : bkA a s lo hi N (N - 1 - i) = allA a s lo hi i N := by
  refine le_ext fun z => ?_
  rw [bkA_le _ (by omega), allA_le, show N - 1 - (N - 1 - i) = i by omega]
  have hle : ∀ i j, i ≤ j → j < N → s i ≤ s j := fun i j h1 h2 => by
    rcases Nat.lt_or_eq_of_le h1 with h | h
    · exact Int.le_of_lt (hs i j h h2)
    · subst h; exact Int.le_refl _
  constructor
  · intro h
    have key : ∀ j, j < N → cnd a s lo hi i j ≤ z := fun j hj => by
      unfold cnd
      by_cases h1 : j ≤ i
      · rw [if_pos (hle j i h1 hi')]
        have h2 := h i (by omega) (by omega)
        have h3 := (fwA_le (a := a) (s := s) (lo := lo) i (z + hi * (s i - s i))).1 (by omega) j h1
        simp only [Int.mul_sub, Int.sub_mul, Int.mul_comm lo, Int.mul_comm hi] at *; omega
      · rw [if_neg (by have := hs i j (by omega) hj; omega)]
        have h2 := h j (by omega) (by omega)
        have h3 := (fwA_le (a := a) (s := s) (lo := lo) j (z + hi * (s j - s i))).1 (by omega) j (by omega)
        simp only [Int.mul_sub, Int.sub_mul, Int.mul_comm lo, Int.mul_comm hi] at *; omega
    refine ⟨?_, key⟩
    have := key i hi'
    unfold cnd at this
    rw [if_pos (Int.le_refl _)] at this
    simpa using this
  · intro ⟨_, h⟩ m h1 h2
    have := (fwA_le (a := a) (s := s) (lo := lo) m (z + hi * (s m - s i))).2 (fun j hj => by
      have h3 := h j (by omega)
      unfold cnd at h3
      by_cases h4 : j ≤ i
      · rw [if_pos (hle j i h4 hi')] at h3
        have h5 := Int.mul_nonneg (show 0 ≤ hi - lo by omega) (show 0 ≤ s m - s i by have := hle i m h1 (by omega); omega)
        simp only [Int.mul_sub, Int.sub_mul, Int.mul_comm lo, Int.mul_comm hi] at *; omega
      · rw [if_neg (by have := hs i j (by omega) (by omega); omega)] at h3
        have h5 := Int.mul_nonneg (show 0 ≤ hi - lo by omega) (show 0 ≤ s m - s j by have := hle j m hj (by omega); omega)
        simp only [Int.mul_sub, Int.sub_mul, Int.mul_comm lo, Int.mul_comm hi] at *; omega)
    omega

theorem bkB_all {b s : Nat → Int} {lo hi : Int} {N : Nat} (hr : lo ≤ hi) (hs : ∀ i j, i < j → j < N → s i < s j) {i : Nat} (hi' : i < N) : bkB b s lo hi N (N - 1 - i) = allB b s lo hi i N := by
  rw [bkB_neg, allB_neg, bkA_all (by omega) hs hi']

/-- Two contradict. -/
def ctr (a b s : Nat → Int) (lo hi : Int) (j k : Nat) : Bool := decide (b j + (s k - s j) * hi < a k) || decide (b k < a j + (s k - s j) * lo)

theorem fw_ok {a b s : Nat → Int} {lo hi : Int} {i : Nat} : fwA a s lo i ≤ fwB b s hi i ↔ ∀ j k, j ≤ i → k ≤ i → a j + lo * (s i - s j) ≤ b k + hi * (s i - s k) := by
  constructor
  · intro h j k hj hk
    have h1 := (fwA_le i _).1 h j hj
    have h2 := (fwA_le (a := fun i => -(b i)) (s := s) (lo := -hi) i (-(fwB b s hi i))).1 (by rw [fwB_neg]; omega) k hk
    simp only [Int.neg_mul] at h2
    omega
  · intro h
    refine (fwA_le i _).2 fun j hj => ?_
    have := (fwA_le (a := fun i => -(b i)) (s := s) (lo := -hi) i (-(a j + lo * (s i - s j)))).2 (fun k hk => by have := h j k hj hk; simp only [Int.neg_mul]; omega)
    rw [fwB_neg]; omega

/-- Nothing is empty just if no two contradict. -/
theorem ctr_iff {a b s : Nat → Int} {lo hi : Int} {N : Nat} (hr : lo ≤ hi) (hab : ∀ i, i < N → a i ≤ b i) (hs : ∀ i j, i < j → j < N → s i < s j) :
    (∀ i, i < N → fwA a s lo i ≤ fwB b s hi i) ↔ ∀ j k, j < k → k < N → ctr a b s lo hi j k = false := by
  have hle : ∀ i j, i ≤ j → j < N → s i ≤ s j := fun i j h1 h2 => by
    rcases Nat.lt_or_eq_of_le h1 with h | h
    · exact Int.le_of_lt (hs i j h h2)
    · subst h; exact Int.le_refl _
  constructor
  · intro h j k hj hk
    have h1 := fw_ok.1 (h k hk) j k (by omega) (by omega)
    have h2 := fw_ok.1 (h k hk) k j (by omega) (by omega)
    unfold ctr
    simp only [Bool.or_eq_false_iff, decide_eq_false_iff_not]
    simp only [Int.mul_sub, Int.sub_mul, Int.mul_comm lo, Int.mul_comm hi] at *
    omega
  · intro h i hi'
    refine fw_ok.2 fun j k hj hk => ?_
    rcases Nat.lt_trichotomy j k with h1 | h1 | h1
    · have h2 := h j k h1 (by omega)
      unfold ctr at h2
      simp only [Bool.or_eq_false_iff, decide_eq_false_iff_not] at h2
      have h5 := Int.mul_nonneg (show 0 ≤ hi - lo by omega) (show 0 ≤ s i - s k by have := hle k i hk hi'; omega)
      simp only [Int.mul_sub, Int.sub_mul, Int.mul_comm lo, Int.mul_comm hi] at *
      omega
    · subst h1
      have h2 := hab j (by omega)
      have h5 := Int.mul_nonneg (show 0 ≤ hi - lo by omega) (show 0 ≤ s i - s j by have := hle j i hj hi'; omega)
      simp only [Int.mul_sub, Int.sub_mul, Int.mul_comm lo, Int.mul_comm hi] at *
      omega
    · have h2 := h k j h1 (by omega)
      unfold ctr at h2
      simp only [Bool.or_eq_false_iff, decide_eq_false_iff_not] at h2
      have h5 := Int.mul_nonneg (show 0 ≤ hi - lo by omega) (show 0 ≤ s i - s j by have := hle j i hj hi'; omega)
      simp only [Int.mul_sub, Int.sub_mul, Int.mul_comm lo, Int.mul_comm hi] at *
      omega

end Go.AM
