/- Chapter 6: whole pairs of beats (parts up to 4095, or NaNs). -/
import Derived.Test.YtjifpcjmnhnpkaaMW1
namespace Go.AM.K
open Ieee
set_option linter.unusedVariables false
set_option linter.unusedSimpArgs false
variable {α : Type}
theorem k12 : ∃ m i, FloatKind.f64.decode (FloatKind.nearest .f64 4095) = .number false m i ∧ -1074 ≤ i ∧ vl (.number false m i) = 4095 * (UU : Int) := ⟨9005000231485440, -41, by decide +kernel, by omega, by decide +kernel⟩
theorem kn12 : ∃ m i, FloatKind.f64.decode (Op.negFloat .f64 (FloatKind.nearest .f64 4095)) = .number true m i ∧ -1074 ≤ i ∧ vl (.number true m i) = -4095 * (UU : Int) := ⟨9005000231485440, -41, by decide +kernel, by omega, by decide +kernel⟩
def rgQ (y : Nat) : Bool := (FloatKind.format .f64).order y (FloatKind.nearest .f64 4095) == some Ordering.gt || (FloatKind.format .f64).order y (Op.negFloat .f64 (FloatKind.nearest .f64 4095)) == some Ordering.lt
theorem f2i_inE {y : Nat} (h1 : badD y = false) (h2 : rgQ y = false) : f2i .f64 y .i64 = some (ptv y) ∧ -4095 ≤ ptv y ∧ ptv y ≤ 4095 := by
  unfold badD at h1
  unfold rgQ at h2
  rcases read64 (n := y) with ⟨s, m, i, hy, hi, hi2, hm⟩ | ⟨s, hy⟩ | hn
  · obtain ⟨m1, i1, a1, a2, a3⟩ := k12
    obtain ⟨m2, i2, b1, b2, b3⟩ := kn12
    rw [ord_gt hy a1 hi a2, ord_lt hy b1 hi b2, a3, b3, Bool.or_eq_false_iff, decide_eq_false_iff_not, decide_eq_false_iff_not] at h2
    have hq : qt m i ≤ 4095 := qt_bd (s := s) hi (by have := UU_pos; omega)
    have hp : ptv y = sgn s (qt m i) := by simp only [ptv, hy]
    rw [hp]
    refine ⟨f2i_num hy (by omega), ?_⟩
    cases s <;> simp only [sgn, Bool.false_eq_true, if_false, if_true] <;> omega
  · rw [hy] at h1; cases h1
  · obtain ⟨s, t, hd⟩ := isNaNb_iff.1 hn
    rw [hd] at h1; cases h1
def pQ (a b : Nat) : Int := if badD a = true ∨ badD b = true then 27 else if rgQ a = true ∨ rgQ b = true then 2 else 0
theorem R107_4_eqE {a b : Nat} {k1 : Option α} {k2 : Int → Bool → Option α} {n : Nat} : R107_0_4 α 4095 a b k1 k2 (n + 3) 0 = if rgQ a = true ∨ rgQ b = true then k1 else k2 2 false := by
  have key : ∀ (y : Nat) (x z : Option α), cK ((FloatKind.format .f64).order y (FloatKind.nearest .f64 4095) == some Ordering.gt) x (cK ((FloatKind.format .f64).order y (Op.negFloat .f64 (FloatKind.nearest .f64 4095)) == some Ordering.lt) x z) = cK (rgQ y) x z := by
    intro y x z
    unfold rgQ
    cases ((FloatKind.format .f64).order y (FloatKind.nearest .f64 4095) == some Ordering.gt) <;> rfl
  simp only [R107_0_4, S107_0_4, S107_0_4g, J107_0_3, J107_0_3g, key]
  cases ha : rgQ a <;> cases hb : rgQ b <;> rfl
theorem f107_eqE {a b : Nat} {k : Int → Int → Int → Option α} : f107_0 α a b 4095 k = if pQ a b = 0 then k (ptv a) (ptv b) 0 else k 0 0 (pQ a b) := by
  obtain ⟨n, hn⟩ : ∃ n, fuel = n + 3 := ⟨fuel - 3, by have := fuel_ge; omega⟩
  simp only [f107_0, f107_0g, L107_0_2, L107_0_4, hn, R107_2_eq, R107_4_eqE]
  unfold pQ
  by_cases h1 : badD a = true ∨ badD b = true
  · simp only [if_pos h1]; rfl
  · simp only [if_neg h1]
    by_cases h2 : rgQ a = true ∨ rgQ b = true
    · simp only [if_pos h2]; rfl
    · simp only [if_neg h2]
      have ha := f2i_inE (y := a) (by simpa using fun h => h1 (.inl h)) (by simpa using fun h => h2 (.inl h))
      have hb := f2i_inE (y := b) (by simpa using fun h => h1 (.inr h)) (by simpa using fun h => h2 (.inr h))
      rw [ha.1, hb.1]; rfl
theorem pQ_bd {a b : Nat} (h : pQ a b = 0) : (-4095 ≤ ptv a ∧ ptv a ≤ 4095) ∧ -4095 ≤ ptv b ∧ ptv b ≤ 4095 := by
  unfold pQ at h
  by_cases h1 : badD a = true ∨ badD b = true
  · rw [if_pos h1] at h; cases h
  · rw [if_neg h1] at h
    by_cases h2 : rgQ a = true ∨ rgQ b = true
    · rw [if_pos h2] at h; cases h
    · exact ⟨(f2i_inE (y := a) (by simpa using fun h => h1 (.inl h)) (by simpa using fun h => h2 (.inl h))).2, (f2i_inE (y := b) (by simpa using fun h => h1 (.inr h)) (by simpa using fun h => h2 (.inr h))).2⟩
theorem f129_eqE {y : Nat} {k : Int → Int → Option α} : f129_0 α y 4095 k = if badD y = true then k 0 27 else if rgQ y = true then k 0 2 else k (ptv y) 0 := by
  simp only [f129_0, f129_0g, f71_eq, Bool.not_not]
  cases hb : badD y
  · simp only [cK_false, Bool.false_eq_true, if_false]
    cases hr : rgQ y
    · have h := hr
      unfold rgQ at h
      rw [Bool.or_eq_false_iff] at h
      rw [h.1, h.2, cK_false, cK_false, (f2i_inE hb hr).1]
      rfl
    · rw [if_pos rfl]
      unfold rgQ at hr
      rcases h1 : ((FloatKind.format .f64).order y (FloatKind.nearest .f64 4095) == some Ordering.gt)
      · rw [h1, Bool.false_or] at hr
        rw [cK_false, hr, cK_true]
      · rw [cK_true]
  · simp only [cK_true, if_true]
theorem f108_okE {a b : Nat} (h : pQ a b = 0) {k : Int → Int → Int → Option α} : f108_0 α a b 4095 k = k (ptv a) (ptv b) 0 := by
  unfold pQ at h
  simp only [f108_0, f108_0g, f129_eqE]
  cases ha : badD a <;> cases hb : badD b <;> cases ra : rgQ a <;> cases rb : rgQ b <;> simp_all [cK]
theorem f108_errE {a b : Nat} (h : pQ a b ≠ 0) : ∃ u v, ∀ {k : Int → Int → Int → Option α}, f108_0 α a b 4095 k = k u v (pQ a b) := by
  unfold pQ at h ⊢
  simp only [f108_0, f108_0g, f129_eqE]
  cases ha : badD a <;> cases hb : badD b <;> cases ra : rgQ a <;> cases rb : rgQ b <;> simp_all [cK] <;> exact ⟨_, _, fun {k} => rfl⟩
end Go.AM.K
