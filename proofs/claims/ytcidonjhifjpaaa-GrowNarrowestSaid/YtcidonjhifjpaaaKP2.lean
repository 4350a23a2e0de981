/- Chapter 8: what the small functions compute. -/
import Derived.Test.YtcidonjhifjpaaaKT
import Derived.Test.YtcidonjhifjpaaaKP1
namespace Go.AM.K
variable {α : Type}
set_option linter.unusedVariables false

theorem f19_eq {n lo hi : Int} {k : Bool → Option α} : f19_0 α n lo hi k = k (decide (lo ≤ n) && decide (n ≤ hi)) := by simp only [f19_0, f19_0g]; exact cK_and
theorem f78_eq {n lo hi : Int} {k : Bool → Option α} : f78_0 α n lo hi k = k (decide (lo ≤ n) && decide (n ≤ hi)) := by simp only [f78_0, f78_0g]; exact cK_and

/-- Small enough that nothing wraps. -/
def sm (n : Int) : Prop := -4611686018427387904 ≤ n ∧ n ≤ 4611686018427387904

theorem f94_eq {n d : Int} {k : Int → Option α} (hd : 0 < d) (hn : sm n) : f94_0 α n d k = k (n / d) := by
  have hd' : (d != 0) = true := by simpa using Int.ne_of_gt hd
  unfold sm at hn
  simp only [f94_0, f94_0g, hd', gK_true, cK_dec]
  have hq : Int.tdiv n d = if 0 ≤ n ∨ n % d = 0 then n / d else n / d + 1 := by
    rw [Int.tdiv_eq_ediv]
    by_cases h : 0 ≤ n ∨ d ∣ n
    · rw [if_pos h, if_pos (h.imp id fun h => Int.emod_eq_zero_of_dvd h)]; omega
    · rw [if_neg h, if_neg (fun h' => h (h'.imp id fun h' => Int.dvd_of_emod_eq_zero h')), Int.sign_eq_one_of_pos hd]
  have hr : Int.tmod n d = n - d * Int.tdiv n d := by have := Int.tmod_add_mul_tdiv n d; omega
  have h1 := Int.emod_add_mul_ediv n d
  have h2 := Int.emod_nonneg n (Int.ne_of_gt hd)
  have h3 := Int.emod_lt_of_pos n hd
  have hb : -4611686018427387905 ≤ n / d ∧ n / d ≤ 4611686018427387904 := by
    constructor
    · rcases Int.lt_or_le (n / d) 0 with h | h
      · have : d * (n / d) ≤ 1 * (n / d) := Int.mul_le_mul_of_nonpos_right (by omega) (by omega)
        by_cases hd1 : d = 1
        · subst hd1; simp; omega
        · have : d * (n / d) ≤ 2 * (n / d) := Int.mul_le_mul_of_nonpos_right (by omega) (by omega)
          by_cases hc : -4611686018427387905 ≤ n / d
          · exact hc
          · have h7 : d * (n / d + 1) ≤ 1 * (n / d + 1) := Int.mul_le_mul_of_nonpos_right (by omega) (by omega)
            rw [Int.mul_add] at h7
            omega
      · omega
    · rcases Int.lt_or_le 0 (n / d) with h | h
      · have : 1 * (n / d) ≤ d * (n / d) := Int.mul_le_mul_of_nonneg_right (by omega) (by omega)
        omega
      · omega
  rw [hr, hq]
  by_cases h : 0 ≤ n ∨ n % d = 0
  · rw [if_pos h]
    have : ¬ (n - d * (n / d) < 0) := by omega
    rw [if_neg this, w64_in (by omega) (by omega)]
  · rw [if_neg h]
    have h4 : n - d * (n / d + 1) < 0 := by rw [Int.mul_add]; omega
    rw [if_pos h4, w64_in (n := n / d + 1) (by omega) (by omega), w64_in (by omega) (by omega)]
    congr 1; omega

theorem f95_eq {n d : Int} {k : Int → Option α} (hd : 0 < d) (hn : sm n) : f95_0 α n d k = k (cdv n d) := by
  unfold sm at hn
  simp only [f95_0, f95_0g]
  rw [w64_in (n := 0 - n) (by omega) (by omega), f94_eq hd (by unfold sm; omega)]
  have hb : -4611686018427387904 ≤ (0 - n) / d ∧ (0 - n) / d ≤ 4611686018427387904 := by
    constructor
    · rw [Int.le_ediv_iff_mul_le hd]
      have : 4611686018427387904 * 1 ≤ 4611686018427387904 * d := Int.mul_le_mul_of_nonneg_left (by omega) (by omega)
      omega
    · refine Int.ediv_le_of_le_mul hd ?_
      have : 4611686018427387904 * 1 ≤ 4611686018427387904 * d := Int.mul_le_mul_of_nonneg_left (by omega) (by omega)
      omega
  rw [w64_in (by omega) (by omega)]
  unfold cdv
  rw [show (0 - n) = -n by omega]
  congr 1; omega

theorem f91_eq {n d : Int} {k : Int → Option α} (hd : 0 < d) (hn : 0 ≤ n ∧ n ≤ 4611686018427387904) : f91_0 α n d k = k (n / d) := by
  have hd' : (d != 0) = true := by simpa using Int.ne_of_gt hd
  simp only [f91_0, f91_0g, hd', gK_true]
  rw [tdiv_pos hn.1, w64_in]
  · have := Int.ediv_nonneg hn.1 (Int.le_of_lt hd); omega
  · refine Int.ediv_le_of_le_mul hd ?_
    have : 9223372036854775807 * 1 ≤ 9223372036854775807 * d := Int.mul_le_mul_of_nonneg_left (by omega) (by omega)
    omega

theorem f92_eq {n d : Int} {k : Int → Option α} (hd : 0 < d) (hd2 : d ≤ 4611686018427387903) (hn : 0 ≤ n ∧ n ≤ 4611686018427387904) : f92_0 α n d k = k (cdv n d) := by
  have hd' : (d != 0) = true := by simpa using Int.ne_of_gt hd
  simp only [f92_0, f92_0g, hd', gK_true]
  rw [w64_in (n := n + d) (by omega) (by omega), w64_in (n := n + d - 1) (by omega) (by omega), tdiv_pos (by omega), up_cdv hd, w64_in]
  · rw [← up_cdv hd]
    have := Int.ediv_nonneg (a := n + d - 1) (b := d) (by omega) (by omega); omega
  · rw [← up_cdv hd]
    refine Int.ediv_le_of_le_mul hd ?_
    have : 9223372036854775807 * 1 ≤ 9223372036854775807 * d := Int.mul_le_mul_of_nonneg_left (by omega) (by omega)
    omega

end Go.AM.K
namespace Go.AM.K
variable {α : Type}

/-- The error of a range. -/
def rErr (lo hi a b : Int) : Int := if (lo ≤ a ∧ a ≤ hi) ∧ (lo ≤ b ∧ b ≤ hi) then (if b < a then 10 else 0) else 2

theorem f93_eq {a b lo hi : Int} {k : Int → Option α} : f93_0 α a b lo hi k = k (rErr lo hi a b) := by
  simp only [f93_0, f93_0g, f19_eq]
  unfold rErr
  by_cases h1 : lo ≤ a <;> by_cases h2 : a ≤ hi <;> by_cases h3 : lo ≤ b <;> by_cases h4 : b ≤ hi <;> by_cases h5 : b < a <;> simp [h1, h2, h3, h4, h5]

theorem f132_eq {a b lo hi : Int} {k : Bool → Option α} : f132_0 α a b lo hi k = k ((decide (lo ≤ a) && decide (a ≤ hi)) && (decide (lo ≤ b) && decide (b ≤ hi))) := by
  simp only [f132_0, f132_0g, f78_eq]; exact cK_and

theorem f117_eq {a b lo hi : Int} {k : Int → Option α} : f117_0 α a b lo hi k = k (rErr lo hi a b) := by
  simp only [f117_0, f117_0g, f132_eq]
  unfold rErr
  by_cases h1 : lo ≤ a <;> by_cases h2 : a ≤ hi <;> by_cases h3 : lo ≤ b <;> by_cases h4 : b ≤ hi <;> by_cases h5 : b < a <;> simp [h1, h2, h3, h4, h5]

theorem f89_eq {a b : Int} {k : Int → Option α} : f89_0 α a b k = k (rErr 1 1000000 a b) := by simp only [f89_0, f89_0g, f117_eq]
theorem f90_eq {a b : Int} {k : Int → Option α} : f90_0 α a b k = k (rErr 0 100000 a b) := by simp only [f90_0, f90_0g, f117_eq]
theorem f27_eq {a b : Int} {k : Int → Option α} : f27_0 α a b k = k (rErr 1 1000000 a b) := by simp only [f27_0, f27_0g, f93_eq]
theorem f28_eq {a b : Int} {k : Int → Option α} : f28_0 α a b k = k (rErr 0 100000 a b) := by simp only [f28_0, f28_0g, f93_eq]

/-- The first one that is not 0. -/
def firstNZ : List Int → Int
  | [] => 0
  | a :: r => if a = 0 then firstNZ r else a

theorem R88_eq {l : List Int} {k1 : Int → Option α} {k2 : Int → Bool → Option α} (hk : ∀ a b, k2 a b = k1 0) (hl : l.length < 1000) : ∀ (m i n : Nat), i + m = l.length → m < n →
    R88_0_0 α (l.map rI1) ((l.length : Nat) : Int) k1 k2 n (i : Int) = k1 (firstNZ (l.drop i)) := by
  intro m
  induction m with
  | zero =>
    intro i n h1 h2
    obtain ⟨n, rfl⟩ : ∃ k, n = k + 1 := ⟨n - 1, by omega⟩
    simp only [R88_0_0, S88_0_0, S88_0_0g]
    have : ¬ ((i : Int) < ((l.length : Nat) : Int)) := by omega
    simp only [this, decide_false, cK_false, hk]
    rw [List.drop_eq_nil_of_le (by omega)]; rfl
  | succ m ih =>
    intro i n h1 h2
    obtain ⟨n, rfl⟩ : ∃ k, n = k + 1 := ⟨n - 1, by omega⟩
    simp only [R88_0_0, S88_0_0, S88_0_0g]
    have hi : i < l.length := by omega
    have : ((i : Int) < ((l.length : Nat) : Int)) := by omega
    simp only [this, decide_true, cK_true]
    rw [rowK_I hi, List.drop_eq_getElem_cons hi]
    simp only [firstNZ]
    by_cases h : l[i] = 0
    · simp only [h, bne_self_eq_false, cK_false, if_true]
      rw [w64_in (by omega) (by omega)]
      exact ih (i + 1) n (by omega) (by omega)
    · have : (l[i] != 0) = true := by simpa using h
      simp only [this, cK_true, if_neg h]

theorem f88_eq {l : List Int} {k : Int → Option α} (hl : l.length < 1000) : f88_0 α (l.map rI1) k = k (firstNZ l) := by
  simp only [f88_0, f88_0g, L88_0_0, List.length_map]
  have := fuel_ge
  exact R88_eq (fun _ _ => rfl) hl l.length 0 fuel (by omega) (by omega)

def okR (lo hi a b : Int) : Prop := (lo ≤ a ∧ a ≤ hi) ∧ (lo ≤ b ∧ b ≤ hi) ∧ a ≤ b
theorem rErr_ok {lo hi a b : Int} (h : okR lo hi a b) : rErr lo hi a b = 0 := by
  unfold rErr okR at *
  rw [if_pos ⟨h.1, h.2.1⟩, if_neg (by omega)]
theorem rErr_bad {lo hi a b : Int} (h : ¬ okR lo hi a b) : rErr lo hi a b = 2 ∨ rErr lo hi a b = 10 := by
  unfold rErr okR at *
  split
  · rename_i h1; rw [if_pos (by omega)]; exact .inr rfl
  · exact .inl rfl

theorem mul_bd {a b A B : Int} (h1 : 0 ≤ a) (h2 : a ≤ A) (h3 : 0 ≤ b) (h4 : b ≤ B) : 0 ≤ a * b ∧ a * b ≤ A * B :=
  ⟨Int.mul_nonneg h1 h3, Int.mul_le_mul h2 h4 h3 (by omega)⟩

end Go.AM.K
