/- Chapter 8: GrowTracks, part 1: the check of a track. -/
import Derived.Test.YtcidonjhifjpaaaKP2
import Derived.Test.YtcidonjhifjpaaaKP6
namespace Go.AM.K
variable {α : Type}
set_option linter.unusedVariables false
set_option linter.unusedSimpArgs false

def gt2 (l : List (Int × Int)) (i : Nat) : Int × Int := l.getD i (0, 0)
theorem gt2_eq {l : List (Int × Int)} {i : Nat} (h : i < l.length) : gt2 l i = l[i]'h := by simp [gt2, h]
theorem rowK_G2 {l : List (Int × Int)} {i : Nat} {f : Int → Int → Option α} (h : i < l.length) : rowK (l.map rI2) (i : Int) [.int .i64, .int .i64] f = f (gt2 l i).1 (gt2 l i).2 := by
  rw [rowK_I2 h, gt2_eq h]
theorem w64_pred {i N : Nat} (h : 0 < i) (h2 : i < N) (hN : N < 9223372036854775807) : w64 ((i : Int) - 1) = ((i - 1 : Nat) : Int) := by
  rw [w64_in (by omega) (by omega)]; omega

def rdOk (r : Int × Int) : Bool := (decide (1 ≤ r.1) && decide (r.1 ≤ 100000)) && (decide (0 ≤ r.2) && decide (r.2 ≤ 1000000))
def badT (l : List (Int × Int)) : Nat → Nat → Int × Int
  | 0, _ => (0, 0)
  | m + 1, i => if rdOk (gt2 l i) = true then (if 0 < i ∧ (gt2 l i).1 ≤ (gt2 l (i - 1)).1 then ((i : Int), 10) else badT l m (i + 1)) else ((i : Int), 2)

theorem f32_J {x y : Int} {k : Bool → Option α} : J32_0_0 α x y k = k (!(rdOk (x, y))) := by
  simp only [J32_0_0, J32_0_0g, f78_eq, rdOk]
  cases (decide (1 ≤ x) && decide (x ≤ 100000)) <;> simp

theorem R32 {l : List (Int × Int)} {k1 : Int → Int → Option α} {k2 : Int → Bool → Option α} (hk : ∀ a b, k2 a b = k1 0 0) (hl : l.length < 1000) : ∀ (m i n : Nat), i + m = l.length → m < n →
    R32_0_1 α (l.map rI2) ((l.length : Nat) : Int) (l.map rI2) k1 k2 n (i : Int) = k1 (badT l m i).1 (badT l m i).2 := by
  intro m
  induction m with
  | zero =>
    intro i n h1 h2
    obtain ⟨n, rfl⟩ : ∃ k, n = k + 1 := ⟨n - 1, by omega⟩
    have : ¬ ((i : Int) < ((l.length : Nat) : Int)) := by omega
    simp only [R32_0_1, S32_0_1, S32_0_1g, this, decide_false, cK_false, hk, badT]
  | succ m ih =>
    intro i n h1 h2
    obtain ⟨n, rfl⟩ : ∃ k, n = k + 1 := ⟨n - 1, by omega⟩
    have hi : i < l.length := by omega
    have : ((i : Int) < ((l.length : Nat) : Int)) := by omega
    simp only [R32_0_1, S32_0_1, S32_0_1g, this, decide_true, cK_true, badT]
    rw [rowK_G2 hi, f32_J, w64_nat hi (by omega), ih (i + 1) n (by omega) (by omega)]
    cases hr : rdOk (gt2 l i)
    · simp
    · simp only [Bool.not_true, cK_false, if_true]
      by_cases h0 : 0 < i
      · have h0' : (0 : Int) < (i : Int) := by omega
        simp only [h0', h0, decide_true, cK_true, true_and]
        rw [w64_pred h0 hi (by omega), rowK_G2 (by omega)]
        by_cases hc : (gt2 l i).1 ≤ (gt2 l (i - 1)).1
        · simp only [hc, decide_true, cK_true, if_true]
        · simp only [hc, decide_false, cK_false, if_false]
      · have h0' : ¬ (0 : Int) < (i : Int) := by omega
        simp only [h0', h0, decide_false, cK_false, false_and, if_false]

theorem R15 {l : List (Int × Int)} {k1 : Int → Int → Option α} {k2 : Int → Bool → Option α} (hk : ∀ a b, k2 a b = k1 0 0) (hl : l.length < 1000) : ∀ (m i n : Nat), i + m = l.length → m < n →
    R15_0_0 α (l.map rI2) k1 k2 n (i : Int) = k1 (badT l m i).1 (badT l m i).2 := by
  intro m
  induction m with
  | zero =>
    intro i n h1 h2
    obtain ⟨n, rfl⟩ : ∃ k, n = k + 1 := ⟨n - 1, by omega⟩
    have : ¬ ((i : Int) < ((l.length : Nat) : Int)) := by omega
    simp only [R15_0_0, S15_0_0, S15_0_0g, List.length_map, this, decide_false, cK_false, hk, badT]
  | succ m ih =>
    intro i n h1 h2
    obtain ⟨n, rfl⟩ : ∃ k, n = k + 1 := ⟨n - 1, by omega⟩
    have hi : i < l.length := by omega
    have : ((i : Int) < ((l.length : Nat) : Int)) := by omega
    simp only [R15_0_0, S15_0_0, S15_0_0g, List.length_map, this, decide_true, cK_true, badT, f19_eq]
    rw [rowK_G2 hi, w64_nat hi (by omega), ih (i + 1) n (by omega) (by omega)]
    cases h1 : (decide (1 ≤ (gt2 l i).1) && decide ((gt2 l i).1 ≤ 100000))
    · have hr : rdOk (gt2 l i) = false := by simp only [rdOk, h1, Bool.false_and]
      simp [hr]
    cases h2 : (decide (0 ≤ (gt2 l i).2) && decide ((gt2 l i).2 ≤ 1000000))
    · have hr : rdOk (gt2 l i) = false := by simp only [rdOk, h2, Bool.and_false]
      simp [hr]
    · have hr : rdOk (gt2 l i) = true := by simp only [rdOk, h1, h2, Bool.and_true]
      simp only [hr, Bool.not_true, cK_false, if_true]
      by_cases h0 : 0 < i
      · have h0' : (0 : Int) < (i : Int) := by omega
        simp only [h0', h0, decide_true, cK_true, true_and]
        rw [w64_pred h0 hi (by omega), rowK_G2 (by omega)]
        by_cases hc : (gt2 l i).1 ≤ (gt2 l (i - 1)).1
        · simp only [hc, decide_true, cK_true, if_true]
        · simp only [hc, decide_false, cK_false, if_false]
      · have h0' : ¬ (0 : Int) < (i : Int) := by omega
        simp only [h0', h0, decide_false, cK_false, false_and, if_false]

/-- The number of the first wrong reading, and its error. -/
def ckT (lo hi er : Int) (l : List (Int × Int)) : Int × Int :=
  if rErr 1 1000000 lo hi ≠ 0 then (0, rErr 1 1000000 lo hi) else if 0 ≤ er ∧ er ≤ 1000000 then (if 40 < l.length then (0, 8) else badT l l.length 0) else (0, 2)

theorem f32_eq {lo hi er : Int} {l : List (Int × Int)} {k : Int → Int → Option α} : f32_0 α lo hi er (l.map rI2) k = k (ckT lo hi er l).1 (ckT lo hi er l).2 := by
  simp only [f32_0, f32_0g, f89_eq, f78_eq, List.length_map, ckT]
  by_cases h1 : rErr 1 1000000 lo hi = 0
  · simp only [h1, bne_self_eq_false, cK_false, ne_eq, not_true_eq_false, if_false]
    by_cases h2 : 0 ≤ er ∧ er ≤ 1000000
    · simp only [h2.1, h2.2, decide_true, Bool.and_self, Bool.not_true, cK_false, and_self, if_true]
      by_cases h3 : 40 < l.length
      · have : (40 : Int) < ((l.length : Nat) : Int) := by omega
        simp only [h3, this, decide_true, cK_true, if_true]
      · have : ¬ (40 : Int) < ((l.length : Nat) : Int) := by omega
        simp only [h3, this, decide_false, cK_false, if_false]
        have := fuel_ge
        exact R32 (fun _ _ => rfl) (by omega) l.length 0 fuel (by omega) (by omega)
    · rw [if_neg h2]
      have : (decide (0 ≤ er) && decide (er ≤ 1000000)) = false := by simpa using h2
      simp only [this, Bool.not_false, cK_true]
  · have : (rErr 1 1000000 lo hi != 0) = true := by simpa using h1
    simp only [this, cK_true, ne_eq, h1, not_false_eq_true, if_true]

theorem f15_eq {lo hi er : Int} {l : List (Int × Int)} {k : Int → Int → Option α} : f15_0 α lo hi er (l.map rI2) k = k (ckT lo hi er l).1 (ckT lo hi er l).2 := by
  simp only [f15_0, f15_0g, f27_eq, f19_eq, List.length_map, ckT]
  by_cases h1 : rErr 1 1000000 lo hi = 0
  · simp only [h1, bne_self_eq_false, cK_false, ne_eq, not_true_eq_false, if_false]
    by_cases h2 : 0 ≤ er ∧ er ≤ 1000000
    · simp only [h2.1, h2.2, decide_true, Bool.and_self, Bool.not_true, cK_false, and_self, if_true]
      by_cases h3 : 40 < l.length
      · have : (40 : Int) < ((l.length : Nat) : Int) := by omega
        simp only [h3, this, decide_true, cK_true, if_true]
      · have : ¬ (40 : Int) < ((l.length : Nat) : Int) := by omega
        simp only [h3, this, decide_false, cK_false, if_false]
        have := fuel_ge
        exact R15 (fun _ _ => rfl) (by omega) l.length 0 fuel (by omega) (by omega)
    · rw [if_neg h2]
      have : (decide (0 ≤ er) && decide (er ≤ 1000000)) = false := by simpa using h2
      simp only [this, Bool.not_false, cK_true]
  · have : (rErr 1 1000000 lo hi != 0) = true := by simpa using h1
    simp only [this, cK_true, ne_eq, h1, not_false_eq_true, if_true]

/-- A right track. -/
structure TrOk (lo hi er : Int) (l : List (Int × Int)) : Prop where
  rate : okR 1 1000000 lo hi
  err : 0 ≤ er ∧ er ≤ 1000000
  len : l.length ≤ 40
  rd : ∀ i, i < l.length → (1 ≤ (gt2 l i).1 ∧ (gt2 l i).1 ≤ 100000) ∧ (0 ≤ (gt2 l i).2 ∧ (gt2 l i).2 ≤ 1000000)
  inc : ∀ i, i + 1 < l.length → (gt2 l i).1 < (gt2 l (i + 1)).1

theorem badT_ok {l : List (Int × Int)} : ∀ (m i : Nat), (badT l m i).2 = 0 → ∀ j, i ≤ j → j < i + m → rdOk (gt2 l j) = true ∧ ¬ (0 < j ∧ (gt2 l j).1 ≤ (gt2 l (j - 1)).1)
  | 0, i, h, j, h1, h2 => by omega
  | m + 1, i, h, j, h1, h2 => by
    simp only [badT] at h
    by_cases hr : rdOk (gt2 l i) = true
    · rw [if_pos hr] at h
      by_cases hc : 0 < i ∧ (gt2 l i).1 ≤ (gt2 l (i - 1)).1
      · rw [if_pos hc] at h; simp at h
      · rw [if_neg hc] at h
        by_cases hj : j = i
        · subst hj; exact ⟨hr, hc⟩
        · exact badT_ok m (i + 1) h j (by omega) (by omega)
    · rw [if_neg hr] at h; simp at h

theorem ckT_ok {lo hi er : Int} {l : List (Int × Int)} (h : (ckT lo hi er l).2 = 0) : TrOk lo hi er l := by
  unfold ckT at h
  by_cases h1 : rErr 1 1000000 lo hi = 0
  · rw [if_neg (by simp [h1])] at h
    by_cases h2 : 0 ≤ er ∧ er ≤ 1000000
    · rw [if_pos h2] at h
      by_cases h3 : 40 < l.length
      · rw [if_pos h3] at h; simp at h
      · rw [if_neg h3] at h
        have hb := badT_ok l.length 0 h
        have hd : ∀ i, i < l.length → (1 ≤ (gt2 l i).1 ∧ (gt2 l i).1 ≤ 100000) ∧ (0 ≤ (gt2 l i).2 ∧ (gt2 l i).2 ≤ 1000000) := fun i hi => by
          have := (hb i (by omega) (by omega)).1
          simpa only [rdOk, Bool.and_eq_true, decide_eq_true_eq] using this
        refine ⟨?_, h2, by omega, hd, fun i hi => ?_⟩
        · by_cases hk : okR 1 1000000 lo hi
          · exact hk
          · have := rErr_bad hk; omega
        · have := (hb (i + 1) (by omega) (by omega)).2
          simp only [Nat.add_sub_cancel] at this
          omega
    · rw [if_neg h2] at h; simp at h
  · rw [if_pos h1] at h; exact absurd h h1

end Go.AM.K
