/- Chapter 6: sums and ratios. -/
import Derived.Test.YtjifpcjmnhnpkaaML1
namespace Go.AM.K
set_option linter.unusedVariables false
set_option linter.unusedSimpArgs false
variable {α : Type}
def smE (a b c d e f : Int) : Int := fst3 (rgE 10000000 a b) (rgE 10000000 c d) (rgE 10000000 e f)
theorem f60_eq {a b c d e f : Int} {k : Int → Option α} : f60_0 α a b c d e f k = k (smE a b c d e f) := by
  simp only [f60_0, f60_0g]
  exact f96_3 (by decide) (by decide)
theorem smE_ok {a b c d e f : Int} (h : smE a b c d e f = 0) : ((-10000000 ≤ a ∧ a ≤ 10000000) ∧ (-10000000 ≤ b ∧ b ≤ 10000000) ∧ a ≤ b) ∧ ((-10000000 ≤ c ∧ c ≤ 10000000) ∧ (-10000000 ≤ d ∧ d ≤ 10000000) ∧ c ≤ d) ∧ (-10000000 ≤ e ∧ e ≤ 10000000) ∧ (-10000000 ≤ f ∧ f ≤ 10000000) ∧ e ≤ f := by
  unfold smE fst3 at h
  rcases rgE_cases 10000000 a b with ⟨h1, h2⟩ | h1 | h1 <;> rcases rgE_cases 10000000 c d with ⟨h3, h4⟩ | h3 | h3 <;> rcases rgE_cases 10000000 e f with ⟨h5, h6⟩ | h5 | h5 <;> rw [h1, h3, h5] at h <;> simp at h
  exact ⟨h2, h4, h6⟩
def ratLo (r0 a0 a1 : Int) : Int := 2 * r0 * 1048576 / (if r0 < 0 then a0 else a1)
def ratHi (r1 a0 a1 : Int) : Int := cdv (2 * r1 * 1048576) (if r1 < 0 then a1 else a0)
def cutE (x y : Int) : Int := if 1048576 < x ∨ y < -1048576 then 24 else 0
def cut1 (x y : Int) : Int := if 1048576 < x ∨ y < -1048576 then 0 else if -1048576 > x then -1048576 else x
def cut2 (x y : Int) : Int := if 1048576 < x ∨ y < -1048576 then 0 else if 1048576 < y then 1048576 else y
theorem f77_eq {x y : Int} {k : Int → Int → Int → Option α} : f77_0 α x y k = k (cut1 x y) (cut2 x y) (cutE x y) := by
  simp only [f77_0, f77_0g]
  unfold cut1 cut2 cutE
  by_cases a : 1048576 < x
  · rw [decide_eq_true a, cK_true, if_pos (.inl a), if_pos (.inl a), if_pos (.inl a)]
  · rw [decide_eq_false a, cK_false]
    by_cases b : y < -1048576
    · rw [decide_eq_true b, cK_true, if_pos (.inr b), if_pos (.inr b), if_pos (.inr b)]
    · have : ¬ (1048576 < x ∨ y < -1048576) := by rintro (h | h); exact a h; exact b h
      rw [decide_eq_false b, cK_false, if_neg this, if_neg this, if_neg this]
def ratK (a b c d e f : Int) (k : Int → Int → Int → Int → Int → Option α) : Option α :=
  if a ≤ 0 then k 0 0 0 0 9
  else if cutE (ratLo c a b) (ratHi d a b) ≠ 0 then k 0 0 0 0 (cutE (ratLo c a b) (ratHi d a b))
  else if cutE (ratLo e a b) (ratHi f a b) ≠ 0 then k 0 0 0 0 (cutE (ratLo e a b) (ratHi f a b))
  else k (cut1 (ratLo c a b) (ratHi d a b)) (cut2 (ratLo c a b) (ratHi d a b)) (cut1 (ratLo e a b) (ratHi f a b)) (cut2 (ratLo e a b) (ratHi f a b)) 0
theorem J23_3_eq {i r0 r1 p q x y z w : Int} (h0 : -10000000 ≤ r0 ∧ r0 ≤ 10000000) (h1 : -10000000 ≤ r1 ∧ r1 ≤ 10000000) (ha : 0 < p) (ha1 : 0 < q) (hb : p ≤ 10000000) (hb1 : q ≤ 10000000) {k : Int → Int → Int → Int → Int → Option α} :
    J23_0_3 α i p q x y z w r0 r1 k = (if i = 1 then k (cutE (2 * r0 * 1048576 / p) (cdv (2 * r1 * 1048576) q)) x y (cut1 (2 * r0 * 1048576 / p) (cdv (2 * r1 * 1048576) q)) (cut2 (2 * r0 * 1048576 / p) (cdv (2 * r1 * 1048576) q))
      else if i = 0 then k (cutE (2 * r0 * 1048576 / p) (cdv (2 * r1 * 1048576) q)) (cut1 (2 * r0 * 1048576 / p) (cdv (2 * r1 * 1048576) q)) (cut2 (2 * r0 * 1048576 / p) (cdv (2 * r1 * 1048576) q)) z w else none) := by
  simp only [J23_0_3, J23_0_3g]
  rw [w64_in (n := 2 * r0) (by omega) (by omega), w64_in (n := 2 * r1) (by omega) (by omega), w64_in (n := 2 * r0 * 1048576) (by omega) (by omega), w64_in (n := 2 * r1 * 1048576) (by omega) (by omega),
    f78_pos ha (by omega) (by omega) (by omega), f79_pos ha1 (by omega) (by omega) (by omega), f77_eq]
  by_cases hi : i = 1
  · rw [if_pos hi, hi]; rfl
  · rw [if_neg hi, beq_eq_false_iff_ne.2 hi, cK_false]
    by_cases hi0 : i = 0
    · rw [if_pos hi0, hi0]; rfl
    · rw [if_neg hi0, beq_eq_false_iff_ne.2 hi0, cK_false]
theorem S23_eq {a b c d e f i : Int} (ha : 0 < a) (hb : 0 < b) (ha2 : a ≤ 10000000) (hb2 : b ≤ 10000000) {x y z w : Int} {kn : Int → Int → Int → Int → Int → Option α} {k1 : Int → Option α} {k2 : Int → Bool → Int → Int → Int → Int → Option α} {r0 r1 : Int} (hi : i = 0 ∧ r0 = c ∧ r1 = d ∨ i = 1 ∧ r0 = e ∧ r1 = f)
    (h0 : -10000000 ≤ r0 ∧ r0 ≤ 10000000) (h1 : -10000000 ≤ r1 ∧ r1 ≤ 10000000) : S23_0_5 α c d e f a b i x y z w kn k1 k2 =
    (if cutE (ratLo r0 a b) (ratHi r1 a b) ≠ 0 then k1 (cutE (ratLo r0 a b) (ratHi r1 a b)) else
      if i = 1 then kn 2 x y (cut1 (ratLo r0 a b) (ratHi r1 a b)) (cut2 (ratLo r0 a b) (ratHi r1 a b)) else kn 1 (cut1 (ratLo r0 a b) (ratHi r1 a b)) (cut2 (ratLo r0 a b) (ratHi r1 a b)) z w) := by
  have hJ : ∀ K : Int → Int → Option α, J23_0_0 α c d e f i K = K r0 r1 := by
    intro K
    rcases hi with ⟨rfl, rfl, rfl⟩ | ⟨rfl, rfl, rfl⟩ <;> rfl
  have hlt : decide (i < 2) = true := decide_eq_true (by omega)
  simp only [S23_0_5, S23_0_5g, hlt, cK_true, hJ, J23_0_1, J23_0_1g, J23_0_2, J23_0_2g, J23_0_4, J23_0_4g, J23_3_eq h0 h1 ha ha ha2 ha2, J23_3_eq h0 h1 ha hb ha2 hb2, J23_3_eq h0 h1 hb ha hb2 ha2, J23_3_eq h0 h1 hb hb hb2 hb2]
  unfold ratLo ratHi
  have w1 : w64 (i + 1) = i + 1 := w64_in (by omega) (by omega)
  rw [w1]
  by_cases p : r0 < 0
  · rw [decide_eq_true p, cK_true, if_pos p]
    by_cases q : r1 < 0
    · rw [decide_eq_true q, cK_true, if_pos q]
      rcases hi with ⟨rfl, _⟩ | ⟨rfl, _⟩
      · simp [cK_ne]
      · simp [cK_ne]
    · rw [decide_eq_false q, cK_false, if_neg q]
      rcases hi with ⟨rfl, _⟩ | ⟨rfl, _⟩
      · simp [cK_ne]
      · simp [cK_ne]
  · rw [decide_eq_false p, cK_false, if_neg p]
    by_cases q : r1 < 0
    · rw [decide_eq_true q, cK_true, if_pos q]
      rcases hi with ⟨rfl, _⟩ | ⟨rfl, _⟩
      · simp [cK_ne]
      · simp [cK_ne]
    · rw [decide_eq_false q, cK_false, if_neg q]
      rcases hi with ⟨rfl, _⟩ | ⟨rfl, _⟩
      · simp [cK_ne]
      · simp [cK_ne]
theorem f23_eq {a b c d e f : Int} {k : Int → Int → Int → Int → Int → Option α} : f23_0 α a b c d e f k = if smE a b c d e f ≠ 0 then k 0 0 0 0 (smE a b c d e f) else ratK a b c d e f k := by
  obtain ⟨z, hz⟩ : ∃ z, fuel = z + 3 := ⟨fuel - 3, by have := fuel_ge; omega⟩
  simp only [f23_0, f23_0g, f60_eq, cK_ne, cK_dec]
  by_cases h : smE a b c d e f = 0
  · obtain ⟨h1, h2, h3⟩ := smE_ok h
    have hE : ¬ (smE a b c d e f ≠ 0) := fun hh => hh h
    simp only [if_neg hE]
    unfold ratK
    by_cases ha : a ≤ 0
    · rw [if_pos ha, if_pos ha]
    · rw [if_neg ha, if_neg ha]
      simp only [L23_0_5, hz, R23_0_5]
      rw [S23_eq (by omega) (by omega) (by omega) (by omega) (.inl ⟨rfl, rfl, rfl⟩) h2.1 h2.2.1]
      by_cases e1 : cutE (ratLo c a b) (ratHi d a b) = 0
      · have e1' : ¬ (cutE (ratLo c a b) (ratHi d a b) ≠ 0) := fun hh => hh e1
        simp only [if_neg e1', if_neg (show ¬ (0 : Int) = 1 by decide)]
        rw [S23_eq (by omega) (by omega) (by omega) (by omega) (.inr ⟨rfl, rfl, rfl⟩) h3.1 h3.2.1]
        by_cases e2 : cutE (ratLo e a b) (ratHi f a b) = 0
        · have e2' : ¬ (cutE (ratLo e a b) (ratHi f a b) ≠ 0) := fun hh => hh e2
          simp only [if_neg e2', if_pos]
          rfl
        · simp only [if_pos e2]
      · simp only [if_pos e1]
  · rw [if_pos h, if_pos h]
end Go.AM.K
