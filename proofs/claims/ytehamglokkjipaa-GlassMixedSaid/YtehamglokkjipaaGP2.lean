/- Chapter 2: fractions compared by whole parts, roots by bits, searches by halves. -/
import Derived.Test.YtehamglokkjipaaGP1
import Derived.Test.YtehamglokkjipaaKN7
namespace Go.AM.K
set_option linter.unusedVariables false
set_option linter.unusedSimpArgs false
variable {α : Type}
def cmpI (x y : Int) : Int := if x < y then -1 else if y < x then 1 else 0
theorem divlt {n d m k p q : Int} (hd : 0 < d) (hk : 0 < k) (h1 : n < (p + 1) * d) (h2 : q * k ≤ m) (h : p < q) : n * k < m * d := by
  have a1 : n * k < (p + 1) * d * k := Int.mul_lt_mul_of_pos_right h1 hk
  have a2 : q * k * d ≤ m * d := Int.mul_le_mul_of_nonneg_right h2 (by omega)
  have a3 : (p + 1) * (d * k) ≤ q * (d * k) := Int.mul_le_mul_of_nonneg_right (by omega) (Int.mul_nonneg (by omega) (by omega))
  rw [Int.mul_assoc] at a1
  rw [Int.mul_assoc, Int.mul_comm k d] at a2
  omega
theorem R41_eq {k0 : Int → Option α} : ∀ (j : Nat) (n d m k : Int) (f : Nat), 0 ≤ n → 0 < d → 0 ≤ m → 0 < k → n ≤ 4611686018427387904 → d ≤ 4611686018427387904 → m ≤ 4611686018427387904 → k ≤ 4611686018427387904 →
    d + k ≤ (j : Int) → j < f → R41_0_1 α k0 f n d m k = k0 (cmpI (n * k) (m * d)) := by
  intro j
  induction j with
  | zero => intro n d m k f _ hd _ hk _ _ _ _ hj; omega
  | succ j ih =>
    intro n d m k f hn hd hm hk hn2 hd2 hm2 hk2 hj hf
    obtain ⟨f, rfl⟩ : ∃ q, f = q + 1 := ⟨f - 1, by omega⟩
    simp only [R41_0_1, S41_0_1, S41_0_1g, J41_0_0, J41_0_0g]
    rw [f43_eq hd (by omega) (by omega) (by omega), f43_eq hk (by omega) (by omega) (by omega)]
    have e1 := Int.emod_add_mul_ediv n d
    have e2 := Int.emod_add_mul_ediv m k
    have m1 := Int.emod_nonneg n (Int.ne_of_gt hd)
    have m2 := Int.emod_lt_of_pos n hd
    have m3 := Int.emod_nonneg m (Int.ne_of_gt hk)
    have m4 := Int.emod_lt_of_pos m hk
    have q1 : 0 ≤ n / d := Int.ediv_nonneg hn (by omega)
    have q2 : 0 ≤ m / k := Int.ediv_nonneg hm (by omega)
    have c1 : d * (n / d) = (n / d) * d := Int.mul_comm _ _
    have c2 : k * (m / k) = (m / k) * k := Int.mul_comm _ _
    have b1 : 0 ≤ (n / d) * d := Int.mul_nonneg q1 (by omega)
    have b2 : 0 ≤ (m / k) * k := Int.mul_nonneg q2 (by omega)
    rw [w64_in (n := n / d * d) (by omega) (by omega), w64_in (n := m / k * k) (by omega) (by omega)]
    rw [w64_in (n := n - n / d * d) (by omega) (by omega), w64_in (n := m - m / k * k) (by omega) (by omega)]
    have hr : n - n / d * d = n % d := by omega
    have hs : m - m / k * k = m % k := by omega
    rw [hr, hs, cK_dec]
    have hnd : n < (n / d + 1) * d := by rw [Int.add_mul]; omega
    have hmk : m < (m / k + 1) * k := by rw [Int.add_mul]; omega
    by_cases h1 : n / d < m / k
    · rw [if_pos h1]
      have := divlt hd hk hnd (show m / k * k ≤ m by omega) h1
      unfold cmpI
      rw [if_pos this]
    · rw [if_neg h1, cK_dec]
      by_cases h2 : m / k < n / d
      · rw [if_pos h2]
        have := divlt hk hd hmk (show n / d * d ≤ n by omega) h2
        unfold cmpI
        rw [if_neg (by omega), if_pos this]
      · rw [if_neg h2]
        have hpq : n / d = m / k := by omega
        have g1 : n * k = (n % d) * k + (m / k) * (d * k) := by
          conv => lhs; rw [← e1]
          rw [Int.add_mul, hpq, Int.mul_comm d (m / k), Int.mul_assoc]
        have g2 : m * d = (m % k) * d + (m / k) * (d * k) := by
          conv => lhs; rw [← e2]
          rw [Int.add_mul, Int.mul_comm k (m / k), Int.mul_assoc, Int.mul_comm k d]
        have hcmp : cmpI (n * k) (m * d) = cmpI ((n % d) * k) ((m % k) * d) := by
          unfold cmpI; rw [g1, g2]
          have e : ∀ a b c : Int, (a + c < b + c) = (a < b) := fun a b c => propext (by omega)
          simp only [e]
        rw [hcmp]
        by_cases hz : n % d = 0
        · rw [hz]
          simp only [beq_self_eq_true, cK_true]
          by_cases hz2 : m % k = 0
          · rw [hz2]; simp [cmpI]
          · have : (m % k == 0) = false := by simpa using hz2
            rw [this]
            simp only [cK_false]
            have hp : 0 < (m % k) * d := Int.mul_pos (by omega) hd
            unfold cmpI
            rw [Int.zero_mul, if_pos hp]
        · have e0 : (n % d == 0) = false := by simpa using hz
          rw [e0]
          simp only [cK_false]
          by_cases hz2 : m % k = 0
          · rw [hz2]
            have hp : 0 < (n % d) * k := Int.mul_pos (by omega) hk
            simp only [beq_self_eq_true, cK_true]
            unfold cmpI
            rw [Int.zero_mul, if_neg (by omega), if_pos hp]
          · have : (m % k == 0) = false := by simpa using hz2
            rw [this]
            simp only [cK_false]
            rw [ih k (m % k) d (n % d) f (by omega) (by omega) (by omega) (by omega) hk2 (by omega) hd2 (by omega) (by omega) (by omega)]
            rw [Int.mul_comm k, Int.mul_comm d]
theorem f41_eq {n d m k : Int} (hn : 0 ≤ n) (hd : 0 < d) (hm : 0 ≤ m) (hk : 0 < k) (hn2 : n ≤ 4611686018427387904) (hd2 : d ≤ 4611686018427387904) (hm2 : m ≤ 4611686018427387904) (hk2 : k ≤ 4611686018427387904) {k0 : Int → Option α} :
    f41_0 α n d m k k0 = k0 (cmpI (n * k) (m * d)) := by
  have := fuel_ge
  exact R41_eq (d + k).toNat n d m k fuel hn hd hm hk hn2 hd2 hm2 hk2 (by omega) (by omega)
theorem R42_eq {n : Nat} (hn : n < 288230376151711744) {k : Int → Int → Bool → Option α} {y : Int → Option α} (hk : ∀ a b c, k a b c = y a) : ∀ (j r f : Nat), r * r ≤ n → n < (r + 2 ^ j) * (r + 2 ^ j) → j ≤ 31 → j < f →
    R42_0_0 α (n : Int) k f (r : Int) (if j = 0 then 0 else ((2 ^ (j - 1) : Nat) : Int)) = y (isq n : Int) := by
  intro j
  induction j with
  | zero =>
    intro r f h1 h2 _ hf
    obtain ⟨f, rfl⟩ : ∃ q, f = q + 1 := ⟨f - 1, by omega⟩
    simp only [R42_0_0, S42_0_0, S42_0_0g, if_true]
    rw [decide_eq_false (by omega), cK_false, hk, isq_uniq hn h1 (by simpa using h2)]
  | succ j ih =>
    intro r f h1 h2 hj hf
    obtain ⟨f, rfl⟩ : ∃ q, f = q + 1 := ⟨f - 1, by omega⟩
    have hr : r < 536870912 := by
      apply Nat.lt_of_not_le; intro h
      have := Nat.mul_le_mul h h
      omega
    have hp : 2 ^ j ≤ 1073741824 := by
      have : 2 ^ j ≤ 2 ^ 30 := Nat.pow_le_pow_right (by decide) (by omega)
      simpa using this
    have hp0 : 0 < 2 ^ j := Nat.pow_pos (by decide)
    simp only [R42_0_0, S42_0_0, S42_0_0g, Nat.succ_ne_zero, if_false, Nat.add_sub_cancel]
    have hsum : ((r : Int) + ((2 ^ j : Nat) : Int)) = ((r + 2 ^ j : Nat) : Int) := by omega
    rw [hsum, w64_in (n := ((r + 2 ^ j : Nat) : Int)) (by omega) (by omega)]
    have hsq : (r + 2 ^ j) * (r + 2 ^ j) ≤ 1610612736 * 1610612736 := Nat.mul_le_mul (by omega) (by omega)
    have hcast : ((r + 2 ^ j : Nat) : Int) * ((r + 2 ^ j : Nat) : Int) = (((r + 2 ^ j) * (r + 2 ^ j) : Nat) : Int) := by rw [Int.natCast_mul]
    rw [hcast, w64_in (by omega) (by omega)]
    have hhalf : w64 (Int.tdiv ((2 ^ j : Nat) : Int) 2) = (if j = 0 then 0 else ((2 ^ (j - 1) : Nat) : Int)) := by
      rw [tdiv_pos (by omega)]
      cases j with
      | zero => decide
      | succ j =>
        rw [if_neg (by omega), Nat.add_sub_cancel]
        have : 2 ^ (j + 1) = 2 * 2 ^ j := by rw [Nat.pow_succ]; omega
        rw [this] at hp ⊢
        rw [w64_in (by omega) (by omega)]; omega
    rw [hhalf]
    rw [decide_eq_true (by omega), cK_true, cK_dec]
    have hpw : 2 ^ (j + 1) = 2 ^ j + 2 ^ j := by rw [Nat.pow_succ]; omega
    by_cases hle : (r + 2 ^ j) * (r + 2 ^ j) ≤ n
    · rw [if_pos (by exact_mod_cast hle)]
      exact ih (r + 2 ^ j) f hle (by rw [hpw, ← Nat.add_assoc] at h2; exact h2) (by omega) (by omega)
    · rw [if_neg (by intro h; exact hle (by exact_mod_cast h))]
      exact ih r f h1 (by omega) (by omega) (by omega)
theorem f42_eq {n : Nat} (hn : n < 288230376151711744) {k : Int → Option α} : f42_0 α (n : Int) k = k (isq n : Int) := by
  have := fuel_ge
  have h := R42_eq (α := α) hn (k := fun x6 x7 x8 => k x6) (y := k) (fun _ _ _ => rfl) 31 0 fuel (by omega) (by
    rw [Nat.zero_add]
    have : (2 ^ 31 : Nat) * 2 ^ 31 = 4611686018427387904 := by decide
    omega) (by omega) (by omega)
  simp only [f42_0, f42_0g, L42_0_0]
  have e : (if (31 : Nat) = 0 then (0 : Int) else ((2 ^ (31 - 1) : Nat) : Int)) = 1073741824 := by decide
  rw [e] at h
  exact h
theorem half_mid {lo hi : Int} (h0 : 0 ≤ lo) (h : lo < hi) (h1 : hi ≤ 100000) : ∃ m, w64 (Int.tdiv (w64 ((w64 (lo + hi)) + 1)) 2) = m ∧ lo < m ∧ m ≤ hi ∧ w64 (m - 1) = m - 1 ∧ 2 * m ≤ lo + hi + 1 ∧ lo + hi ≤ 2 * m := by
  rw [w64_in (n := lo + hi) (by omega) (by omega), w64_in (n := lo + hi + 1) (by omega) (by omega), tdiv_pos (by omega), w64_in (by omega) (by omega)]
  exact ⟨_, rfl, by omega, by omega, by rw [w64_in (by omega) (by omega)], by omega, by omega⟩
theorem R35_0_eq {s a b : Int} {L : Int} {k : Int → Int → Bool → Option α} {y : Int → Option α} (hk : ∀ p q r, k p q r = y p)
    (hP : ∀ n k', 0 ≤ n → n ≤ 80000 → f36_0 α n s a b k' = k' (decide (n ≤ L))) : ∀ (j f : Nat) (lo hi : Int), 0 ≤ lo → lo ≤ L → lo ≤ hi → hi ≤ 80000 → hi - lo ≤ (j : Int) → j < f →
    R35_0_0 α s a b k f lo hi = y (if hi < L then hi else L) := by
  intro j
  induction j with
  | zero =>
    intro f lo hi h0 hL h1 h2 hj hf
    obtain ⟨f, rfl⟩ : ∃ q, f = q + 1 := ⟨f - 1, by omega⟩
    simp only [R35_0_0, S35_0_0, S35_0_0g]
    rw [decide_eq_false (by omega), cK_false, hk]
    congr 1; split <;> omega
  | succ j ih =>
    intro f lo hi h0 hL h1 h2 hj hf
    obtain ⟨f, rfl⟩ : ∃ q, f = q + 1 := ⟨f - 1, by omega⟩
    simp only [R35_0_0, S35_0_0, S35_0_0g]
    by_cases hlt : lo < hi
    · obtain ⟨m, e1, e2, e3, e4, e5, e6⟩ := half_mid h0 hlt (by omega)
      rw [decide_eq_true hlt, cK_true, e1, hP m _ (by omega) (by omega), e4, cK_dec]
      by_cases hm : m ≤ L
      · rw [if_pos hm, ih f m hi (by omega) hm e3 h2 (by omega) (by omega)]
      · rw [if_neg hm, ih f lo (m - 1) h0 hL (by omega) (by omega) (by omega) (by omega)]
        congr 1; split <;> split <;> omega
    · rw [decide_eq_false hlt, cK_false, hk]
      congr 1; split <;> omega
theorem R35_1_eq {s : Int} {L : Int} {k : Int → Int → Bool → Option α} {y : Int → Option α} (hk : ∀ p q r, k p q r = y p)
    (hP : ∀ n k', 0 ≤ n → n ≤ 80000 → f38_0 α n s k' = k' (decide (n ≤ L)) ∨ n = 0) : ∀ (j f : Nat) (lo hi : Int), 0 ≤ lo → lo ≤ L → lo ≤ hi → hi ≤ 80000 → hi - lo ≤ (j : Int) → j < f →
    R35_1_0 α s k f lo hi = y (if hi < L then hi else L) := by
  intro j
  induction j with
  | zero =>
    intro f lo hi h0 hL h1 h2 hj hf
    obtain ⟨f, rfl⟩ : ∃ q, f = q + 1 := ⟨f - 1, by omega⟩
    simp only [R35_1_0, S35_1_0, S35_1_0g]
    rw [decide_eq_false (by omega), cK_false, hk]
    congr 1; split <;> omega
  | succ j ih =>
    intro f lo hi h0 hL h1 h2 hj hf
    obtain ⟨f, rfl⟩ : ∃ q, f = q + 1 := ⟨f - 1, by omega⟩
    simp only [R35_1_0, S35_1_0, S35_1_0g]
    by_cases hlt : lo < hi
    · obtain ⟨m, e1, e2, e3, e4, e5, e6⟩ := half_mid h0 hlt (by omega)
      rw [decide_eq_true hlt, cK_true, e1, (hP m _ (by omega) (by omega)).resolve_right (by omega), e4, cK_dec]
      by_cases hm : m ≤ L
      · rw [if_pos hm, ih f m hi (by omega) hm e3 h2 (by omega) (by omega)]
      · rw [if_neg hm, ih f lo (m - 1) h0 hL (by omega) (by omega) (by omega) (by omega)]
        congr 1; split <;> split <;> omega
    · rw [decide_eq_false hlt, cK_false, hk]
      congr 1; split <;> omega
end Go.AM.K
