/- Chapter 6: numbers times powers of i, and their sums. -/
import Derived.Test.YtjifpcjmnhnpkaaML1
namespace Go.AM.K
set_option linter.unusedVariables false
set_option linter.unusedSimpArgs false
variable {α : Type}
def rtR (p re im : Int) : Int := if p % 4 = 1 then -im else if p % 4 = 2 then -re else if p % 4 = 3 then im else re
def rtI (p re im : Int) : Int := if p % 4 = 1 then re else if p % 4 = 2 then -im else if p % 4 = 3 then -re else im
theorem rt_congr {p q re im : Int} (h : p % 4 = q % 4) : rtR p re im = rtR q re im ∧ rtI p re im = rtI q re im := by
  unfold rtR rtI; rw [h]; exact ⟨rfl, rfl⟩
theorem rt_bd {p re im B : Int} (h1 : -B ≤ re ∧ re ≤ B) (h2 : -B ≤ im ∧ im ≤ B) : (-B ≤ rtR p re im ∧ rtR p re im ≤ B) ∧ -B ≤ rtI p re im ∧ rtI p re im ≤ B := by
  unfold rtR rtI
  refine ⟨?_, ?_⟩ <;> (split; omega; split; omega; split <;> omega)
theorem tmod4_bd (x : Int) : -3 ≤ Int.tmod x 4 ∧ Int.tmod x 4 ≤ 3 ∧ Int.tmod x 4 % 4 = x % 4 := by
  have h := Int.tmod_add_mul_tdiv x 4
  by_cases h0 : 0 ≤ x
  · rw [Int.tmod_eq_emod_of_nonneg h0]; omega
  · have e : Int.tmod x 4 = -((-x) % 4) := by rw [show x = -(-x) by omega, Int.neg_tmod, Int.tmod_eq_emod_of_nonneg (by omega), Int.neg_neg]
    omega
theorem f119_eq {re im p : Int} (h1 : -1000000000000 ≤ re ∧ re ≤ 1000000000000) (h2 : -1000000000000 ≤ im ∧ im ≤ 1000000000000) {k : Int → Int → Option α} : f119_0 α re im p k = k (rtR p re im) (rtI p re im) := by
  obtain ⟨a1, a2, a3⟩ := tmod4_bd p
  have e : Int.tmod (w64 ((Int.tmod p 4) + 4)) 4 = p % 4 := by
    rw [w64_in (by omega) (by omega), Int.tmod_eq_emod_of_nonneg (by omega)]; omega
  simp only [f119_0, f119_0g, e]
  rw [w64_in (n := 0 - im) (by omega) (by omega), w64_in (n := 0 - re) (by omega) (by omega), show 0 - im = -im by omega, show 0 - re = -re by omega]
  unfold rtR rtI
  by_cases c1 : p % 4 = 1
  · rw [beq_iff_eq.2 c1, cK_true, if_pos c1, if_pos c1]
  · rw [beq_eq_false_iff_ne.2 c1, cK_false, if_neg c1, if_neg c1]
    by_cases c2 : p % 4 = 2
    · rw [beq_iff_eq.2 c2, cK_true, if_pos c2, if_pos c2]
    · rw [beq_eq_false_iff_ne.2 c2, cK_false, if_neg c2, if_neg c2]
      by_cases c3 : p % 4 = 3
      · rw [beq_iff_eq.2 c3, cK_true, if_pos c3, if_pos c3]
      · rw [beq_eq_false_iff_ne.2 c3, cK_false, if_neg c3, if_neg c3]
abbrev pr (l : List (Int × Int)) (j : Nat) : Int × Int := l.getD j (0, 0)
def sgR (l : List (Int × Int)) (b : Int) : Nat → Int
  | 0 => 0
  | j + 1 => sgR l b j + rtR ((j : Int) * b) (pr l j).1 (pr l j).2
def sgI (l : List (Int × Int)) (b : Int) : Nat → Int
  | 0 => 0
  | j + 1 => sgI l b j + rtI ((j : Int) * b) (pr l j).1 (pr l j).2
structure PB (l : List (Int × Int)) : Prop where
  len : l.length ≤ 70
  bd : ∀ x ∈ l, (-10000000 ≤ x.1 ∧ x.1 ≤ 10000000) ∧ -10000000 ≤ x.2 ∧ x.2 ≤ 10000000
theorem pr_bd {l : List (Int × Int)} (h : PB l) (j : Nat) : (-10000000 ≤ (pr l j).1 ∧ (pr l j).1 ≤ 10000000) ∧ -10000000 ≤ (pr l j).2 ∧ (pr l j).2 ≤ 10000000 := by
  by_cases hj : j < l.length
  · have e : pr l j = l[j]'hj := gD hj
    rw [e]; exact h.bd _ (List.getElem_mem hj)
  · have e : pr l j = (0, 0) := by simp [pr, List.getD_eq_getElem?_getD, List.getElem?_eq_none (by omega : l.length ≤ j)]
    rw [e]; decide
theorem sg_bd {l : List (Int × Int)} (h : PB l) (b : Int) : ∀ j : Nat, (-(10000000 * (j : Int)) ≤ sgR l b j ∧ sgR l b j ≤ 10000000 * (j : Int)) ∧ -(10000000 * (j : Int)) ≤ sgI l b j ∧ sgI l b j ≤ 10000000 * (j : Int)
  | 0 => by simp [sgR, sgI]
  | j + 1 => by
    have h1 := sg_bd h b j
    have h2 := pr_bd h j
    have h3 := rt_bd (p := (j : Int) * b) h2.1 h2.2
    simp only [sgR, sgI]
    omega
theorem mul_mod4 {a b c d : Int} (h1 : a % 4 = c % 4) (h2 : b % 4 = d % 4) : a * b % 4 = c * d % 4 := by
  rw [Int.mul_emod, h1, h2, ← Int.mul_emod]
theorem R68_eq {l : List (Int × Int)} (h : PB l) {b : Int} {k : Int → Bool → Int → Int → Option α} : ∀ (m j n : Nat), j + m = l.length → m < n →
    R68_0_0 α b (l.map rI2) (l.length : Int) k n (j : Int) (sgR l b j) (sgI l b j) = k (l.length : Int) false (sgR l b l.length) (sgI l b l.length) := by
  intro m
  have hl := h.len
  induction m with
  | zero =>
    intro j n h1 h2
    obtain ⟨n, rfl⟩ : ∃ z, n = z + 1 := ⟨n - 1, by omega⟩
    have hj : j = l.length := by omega
    subst hj
    simp only [R68_0_0, S68_0_0, S68_0_0g]
    rw [decide_eq_false (by omega)]; rfl
  | succ m ih =>
    intro j n h1 h2
    obtain ⟨n, rfl⟩ : ∃ z, n = z + 1 := ⟨n - 1, by omega⟩
    have hj : j < l.length := by omega
    have b1 := pr_bd h j
    have b2 := sg_bd h b j
    have b3 := sg_bd h b (j + 1)
    obtain ⟨a1, a2, a3⟩ := tmod4_bd (j : Int)
    obtain ⟨c1, c2, c3⟩ := tmod4_bd b
    have e : pr l j = l[j]'hj := gD hj
    have hmul : -9 ≤ Int.tmod (j : Int) 4 * Int.tmod b 4 ∧ Int.tmod (j : Int) 4 * Int.tmod b 4 ≤ 9 := by
      generalize Int.tmod (j : Int) 4 = u at *
      generalize Int.tmod b 4 = v at *
      have hu : u = -3 ∨ u = -2 ∨ u = -1 ∨ u = 0 ∨ u = 1 ∨ u = 2 ∨ u = 3 := by omega
      rcases hu with rfl | rfl | rfl | rfl | rfl | rfl | rfl <;> omega
    have hrt := rt_congr (re := (l[j]'hj).1) (im := (l[j]'hj).2) (mul_mod4 a3 c3)
    simp only [R68_0_0, S68_0_0, S68_0_0g]
    rw [decide_eq_true (by omega), cK_true, rowK_I2 hj, w64_in (n := Int.tmod (j : Int) 4 * Int.tmod b 4) (by omega) (by omega), ← e, f119_eq (by omega) (by omega), e, hrt.1, hrt.2, ← e]
    have e1 : sgR l b (j + 1) = sgR l b j + rtR ((j : Int) * b) (pr l j).1 (pr l j).2 := rfl
    have e2 : sgI l b (j + 1) = sgI l b j + rtI ((j : Int) * b) (pr l j).1 (pr l j).2 := rfl
    rw [w64_in (n := (j : Int) + 1) (by omega) (by omega), ← e1, ← e2, w64_in (n := sgR l b (j + 1)) (by omega) (by omega), w64_in (n := sgI l b (j + 1)) (by omega) (by omega), show (j : Int) + 1 = ((j + 1 : Nat) : Int) by omega]
    exact ih (j + 1) n (by omega) (by omega)
theorem f68_eq {l : List (Int × Int)} (h : PB l) {b : Int} {k : Int → Int → Option α} : f68_0 α (l.map rI2) b k = k (sgR l b l.length) (sgI l b l.length) := by
  have hf := fuel_ge
  have hl := h.len
  simp only [f68_0, f68_0g, L68_0_0, List.length_map]
  exact R68_eq h (k := fun x16 x17 x18 x19 => k x18 x19) l.length 0 fuel (by omega) (by omega)
end Go.AM.K
