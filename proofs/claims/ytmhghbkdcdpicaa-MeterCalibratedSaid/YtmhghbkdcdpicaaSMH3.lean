/- Chapter 6: calibrations. -/
import Derived.Test.YtmhghbkdcdpicaaSML3
namespace Go.AM.K
set_option linter.unusedVariables false
set_option linter.unusedSimpArgs false
variable {α : Type}
theorem gcd_step {a b : Int} (hb : b ≠ 0) : Int.gcd b (Int.tmod a b) = Int.gcd a b ∧ (Int.tmod a b).natAbs < b.natAbs := by
  have h : (Int.tmod a b).natAbs = a.natAbs % b.natAbs := Int.natAbs_tmod a b
  refine ⟨?_, ?_⟩
  · show Nat.gcd b.natAbs (Int.tmod a b).natAbs = Nat.gcd a.natAbs b.natAbs
    rw [h, Nat.gcd_comm, ← Nat.gcd_rec, Nat.gcd_comm]
  · rw [h]; exact Nat.mod_lt _ (by omega)
theorem R32_eq : ∀ (n : Nat) (a b : Int), b.natAbs < n → ∃ g : Int, g.natAbs = Int.gcd a b ∧ ∀ k : Int → Int → Bool → Option α, R32_0_0 α k n a b = k g 0 false
  | 0, a, b, h => by omega
  | n + 1, a, b, h => by
    by_cases hb : b = 0
    · subst hb
      exact ⟨a, by simp, fun k => rfl⟩
    · obtain ⟨h1, h2⟩ := gcd_step (a := a) hb
      obtain ⟨g, g1, g2⟩ := R32_eq n b (Int.tmod a b) (by omega)
      refine ⟨g, by rw [g1, h1], fun k => ?_⟩
      · simp only [R32_0_0, S32_0_0, S32_0_0g, bne_iff_ne.2 hb, cK_true, gK_true]; exact g2 k
theorem dv {x n : Int} (hx : 0 < x) (hx2 : x ≤ 1000000) (hn : -9223372036854775808 ≤ n ∧ n ≤ 9223372036854775807) : ∃ y : Int, (0 < y ∧ y ≤ x) ∧ y = (Int.gcd x n : Int) ∧ ∀ k : Int → Option α, f32_0 α x n k = k y := by
  have hf := fuel_ge
  obtain ⟨g, g1, g2⟩ := R32_eq (α := α) fuel x n (by omega)
  have h1 : 0 < Int.gcd x n := Nat.gcd_pos_of_pos_left _ (by omega)
  have h2 : Int.gcd x n ≤ x.natAbs := Nat.gcd_le_left _ (by omega)
  have hm : (if (w64 (0 - g)) > g then (w64 (0 - g)) else g) = (Int.gcd x n : Int) := by
    rw [w64_in (by omega) (by omega)]
    split <;> omega
  refine ⟨(Int.gcd x n : Int), ⟨by omega, by omega⟩, rfl, fun k => ?_⟩
  · simp only [f32_0, f32_0g, L32_0_0, g2]; rw [hm]
def inP (x : Int) : Bool := decide (-1000 ≤ x ∧ x ≤ 1000)
theorem f63_eq {x : Int} {k : Bool → Option α} : f63_0 α x k = k (!inP x) := by
  simp only [f63_0, f63_0g, f35_0, f35_0g, f58_eq (show (-1000000000000 : Int) ≤ 1000 by decide) (show (1000 : Int) ≤ 1000000000000 by decide)]; rfl
theorem f34_eq {x : Int} {k : Bool → Option α} : f34_0 α x k = k (!inP x) := by
  simp only [f34_0, f34_0g, f35_0, f35_0g, f58_eq (show (-1000000000000 : Int) ≤ 1000 by decide) (show (1000 : Int) ≤ 1000000000000 by decide)]; rfl
theorem R64_eq {l : List Int} (hl : l.length ≤ 100) {k : Bool → Option α} : ∀ (m i n : Nat), i + m = l.length → m < n →
    R64_0_0 α (l.map rI1) (l.length : Int) (fun x8 => k (decide (0 ≤ x8))) (fun x9 x10 => k (decide ((0 : Int) ≤ -1))) n (i : Int) = k ((l.drop i).any fun x => !inP x) ∧
    R64_1_0 α (l.map rI1) (l.length : Int) (fun x8 => k (decide (0 ≤ x8))) (fun x9 x10 => k (decide ((0 : Int) ≤ -1))) n (i : Int) = k ((l.drop i).any fun x => !inP x) := by
  intro m
  induction m with
  | zero =>
    intro i n h1 h2
    obtain ⟨n, rfl⟩ : ∃ z, n = z + 1 := ⟨n - 1, by omega⟩
    rw [List.drop_eq_nil_of_le (by omega)]
    have hi : i = l.length := by omega
    simp only [R64_0_0, S64_0_0, S64_0_0g, R64_1_0, S64_1_0, S64_1_0g]
    rw [hi, decide_eq_false (by omega)]; exact ⟨rfl, rfl⟩
  | succ m ih =>
    intro i n h1 h2
    obtain ⟨n, rfl⟩ : ∃ z, n = z + 1 := ⟨n - 1, by omega⟩
    have hi : i < l.length := by omega
    rw [List.drop_eq_getElem_cons hi]
    simp only [R64_0_0, S64_0_0, S64_0_0g, R64_1_0, S64_1_0, S64_1_0g, List.any_cons]
    rw [decide_eq_true (by omega), cK_true, cK_true, rowK_I hi, rowK_I hi, f63_eq, f34_eq, w64_in (by omega) (by omega), show (i : Int) + 1 = ((i + 1 : Nat) : Int) by omega]
    cases hb : inP (l[i]'hi)
    · rw [Bool.not_false, cK_true, cK_true, decide_eq_true (by omega)]; exact ⟨rfl, rfl⟩
    · rw [Bool.not_true, cK_false, cK_false]; exact ih (i + 1) n (by omega) (by omega)
theorem f33_eq {l : List Int} (hl : l.length ≤ 100) {k : Bool → Option α} : f33_0 α (l.map rI1) k = k (l.any fun x => !inP x) ∧ f33_1 α (l.map rI1) k = k (l.any fun x => !inP x) := by
  have hf := fuel_ge
  have := R64_eq (α := α) hl (k := k) l.length 0 fuel (by omega) (by omega)
  simp only [f33_0, f33_0g, f33_1, f33_1g, f64_0, f64_0g, f64_1, f64_1g, L64_0_0, L64_1_0, List.length_map]
  exact this
def bad9 (a b c d e f g h i : Int) : Bool := [a, b, c, d, e, f, g, h, i].any fun x => !inP x
def mxE (a b c d e f g h i n : Int) : Int := if 1 ≤ n ∧ n ≤ 1000 then (if bad9 a b c d e f g h i = true then 2 else 0) else 2
theorem f31_eq {a b c d e f g h i n : Int} {k : Int → Option α} : f31_0 α a b c d e f g h i n k = k (mxE a b c d e f g h i n) := by
  have h9 : ∀ kk : Bool → Option α, f33_0 α [[DC.v (.int .i64 a)], [DC.v (.int .i64 b)], [DC.v (.int .i64 c)], [DC.v (.int .i64 d)], [DC.v (.int .i64 e)], [DC.v (.int .i64 f)], [DC.v (.int .i64 g)], [DC.v (.int .i64 h)], [DC.v (.int .i64 i)]] kk = kk (bad9 a b c d e f g h i) := fun kk => (f33_eq (l := [a, b, c, d, e, f, g, h, i]) (by simp) (k := kk)).1
  simp only [f31_0, f31_0g, f62_eq, h9]
  unfold mxE
  by_cases hn : 1 ≤ n ∧ n ≤ 1000
  · rw [decide_eq_true hn, Bool.not_true, cK_false, if_pos hn, cK_if]; split <;> rfl
  · rw [decide_eq_false hn, Bool.not_false, cK_true, if_neg hn]
theorem mxE_ok {a b c d e f g h i n : Int} (hh : mxE a b c d e f g h i n = 0) : (1 ≤ n ∧ n ≤ 1000) ∧ ∀ x ∈ [a, b, c, d, e, f, g, h, i], -1000 ≤ x ∧ x ≤ 1000 := by
  unfold mxE at hh
  by_cases hn : 1 ≤ n ∧ n ≤ 1000
  · rw [if_pos hn] at hh
    refine ⟨hn, fun x hx => ?_⟩
    by_cases hb : bad9 a b c d e f g h i = true
    · rw [if_pos hb] at hh; cases hh
    · have := List.any_eq_false.1 (by simpa [bad9] using hb : ([a, b, c, d, e, f, g, h, i].any fun x => !inP x) = false) x hx
      simpa [inP] using this
  · rw [if_neg hn] at hh; cases hh
end Go.AM.K
