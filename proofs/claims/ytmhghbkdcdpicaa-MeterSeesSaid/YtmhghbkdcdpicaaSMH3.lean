/- Chapter 6: calibrations. -/
import Derived.Test.YtmhghbkdcdpicaaSML3
namespace Go.AM.K
set_option linter.unusedVariables false
set_option linter.unusedSimpArgs false
variable {α : Type}
def inP (x : Int) : Bool := decide (-1000 ≤ x ∧ x ≤ 1000)
theorem f25_eq {x : Int} {k : Bool → Option α} : f25_0 α x k = k (inP x) := by simp only [f25_0, f25_0g, f24_eq]; rfl
theorem f63_eq {x : Int} {k : Bool → Option α} : f63_0 α x k = k (!inP x) := by
  simp only [f63_0, f63_0g, f35_0, f35_0g, f58_eq (show (-1000000000000 : Int) ≤ 1000 by decide) (show (1000 : Int) ≤ 1000000000000 by decide)]; rfl
theorem f34_eq {x : Int} {k : Bool → Option α} : f34_0 α x k = k (!inP x) := by
  simp only [f34_0, f34_0g, f35_0, f35_0g, f58_eq (show (-1000000000000 : Int) ≤ 1000 by decide) (show (1000 : Int) ≤ 1000000000000 by decide)]; rfl
theorem R64_eq {l : List Int} (hl : l.length ≤ 100) {k : Bool → Option α} : ∀ (m i n : Nat), i + m = l.length → m < n →
    R64_0_0 α (l.map rI1) (l.length : Int) (fun x8 => k (decide (0 ≤ x8))) (fun x9 x10 => k (decide ((0 : Int) ≤ -1))) n (i : Int) = k ((l.drop i).any fun x => !inP x) ∧
    R64_1_0 α (l.map rI1) (l.length : Int) (fun x8 => k (decide (0 ≤ x8))) (fun x9 x10 => k (decide ((0 : Int) ≤ -1))) n (i : Int) = k ((l.drop i).any fun x => !inP x) := by
  intro m
  induction m with
  | zero =>
    intro i n h1 h2
    obtain ⟨n, rfl⟩ : ∃ z, n = z + 1 := ⟨n - 1, by omega⟩
    rw [List.drop_eq_nil_of_le (by omega)]
    have hi : i = l.length := by omega
    simp only [R64_0_0, S64_0_0, S64_0_0g, R64_1_0, S64_1_0, S64_1_0g]
    rw [hi, decide_eq_false (by omega)]; exact ⟨rfl, rfl⟩
  | succ m ih =>
    intro i n h1 h2
    obtain ⟨n, rfl⟩ : ∃ z, n = z + 1 := ⟨n - 1, by omega⟩
    have hi : i < l.length := by omega
    rw [List.drop_eq_getElem_cons hi]
    simp only [R64_0_0, S64_0_0, S64_0_0g, R64_1_0, S64_1_0, S64_1_0g, List.any_cons]
    rw [decide_eq_true (by omega), cK_true, cK_true, rowK_I hi, rowK_I hi, f63_eq, f34_eq, w64_in (by omega) (by omega), show (i : Int) + 1 = ((i + 1 : Nat) : Int) by omega]
    cases hb : inP (l[i]'hi)
    · rw [Bool.not_false, cK_true, cK_true, decide_eq_true (by omega)]; exact ⟨rfl, rfl⟩
    · rw [Bool.not_true, cK_false, cK_false]; exact ih (i + 1) n (by omega) (by omega)
theorem f33_eq {l : List Int} (hl : l.length ≤ 100) {k : Bool → Option α} : f33_0 α (l.map rI1) k = k (l.any fun x => !inP x) ∧ f33_1 α (l.map rI1) k = k (l.any fun x => !inP x) := by
  have hf := fuel_ge
  have := R64_eq (α := α) hl (k := k) l.length 0 fuel (by omega) (by omega)
  simp only [f33_0, f33_0g, f33_1, f33_1g, f64_0, f64_0g, f64_1, f64_1g, L64_0_0, L64_1_0, List.length_map]
  exact this
def bad9 (a b c d e f g h i : Int) : Bool := [a, b, c, d, e, f, g, h, i].any fun x => !inP x
def mxE (a b c d e f g h i n : Int) : Int := if 1 ≤ n ∧ n ≤ 1000 then (if bad9 a b c d e f g h i = true then 2 else 0) else 2
theorem f31_eq {a b c d e f g h i n : Int} {k : Int → Option α} : f31_0 α a b c d e f g h i n k = k (mxE a b c d e f g h i n) := by
  have h9 : ∀ kk : Bool → Option α, f33_0 α [[DC.v (.int .i64 a)], [DC.v (.int .i64 b)], [DC.v (.int .i64 c)], [DC.v (.int .i64 d)], [DC.v (.int .i64 e)], [DC.v (.int .i64 f)], [DC.v (.int .i64 g)], [DC.v (.int .i64 h)], [DC.v (.int .i64 i)]] kk = kk (bad9 a b c d e f g h i) := fun kk => (f33_eq (l := [a, b, c, d, e, f, g, h, i]) (by simp) (k := kk)).1
  simp only [f31_0, f31_0g, f62_eq, h9]
  unfold mxE
  by_cases hn : 1 ≤ n ∧ n ≤ 1000
  · rw [decide_eq_true hn, Bool.not_true, cK_false, if_pos hn, cK_if]; split <;> rfl
  · rw [decide_eq_false hn, Bool.not_false, cK_true, if_neg hn]
theorem f8_eq {a b c d e f g h i n : Int} {k : Int → Option α} : f8_0 α a b c d e f g h i n k = k (mxE a b c d e f g h i n) := by
  obtain ⟨z, hz⟩ : ∃ z, fuel = z + 10 := ⟨fuel - 10, by have := fuel_ge; omega⟩
  have w : w64 (0 + 1) = 1 ∧ w64 (1 + 1) = 2 ∧ w64 (2 + 1) = 3 ∧ w64 (3 + 1) = 4 ∧ w64 (4 + 1) = 5 ∧ w64 (5 + 1) = 6 ∧ w64 (6 + 1) = 7 ∧ w64 (7 + 1) = 8 ∧ w64 (8 + 1) = 9 := by decide
  obtain ⟨w1, w2, w3, w4, w5, w6, w7, w8, w9⟩ := w
  have d : decide ((0 : Int) < 9) = true ∧ decide ((1 : Int) < 9) = true ∧ decide ((2 : Int) < 9) = true ∧ decide ((3 : Int) < 9) = true ∧ decide ((4 : Int) < 9) = true ∧ decide ((5 : Int) < 9) = true ∧ decide ((6 : Int) < 9) = true ∧ decide ((7 : Int) < 9) = true ∧ decide ((8 : Int) < 9) = true ∧ decide ((9 : Int) < 9) = false := by decide
  obtain ⟨d0, d1, d2, d3, d4, d5, d6, d7, d8, d9⟩ := d
  have key : ∀ (x y : Option α), R8_0_1 α a b c d e f g h i x (fun _ _ => y) (z + 10) 0 = if bad9 a b c d e f g h i = true then x else y := by
    intro x y
    simp only [R8_0_1, S8_0_1, S8_0_1g, w1, w2, w3, w4, w5, w6, w7, w8, w9, d0, d1, d2, d3, d4, d5, d6, d7, d8, d9, cK_true, cK_false, J8_0_0, J8_0_0g, Int.reduceBEq, f25_eq]
    unfold bad9
    simp only [List.any_cons, List.any_nil, Bool.or_false]
    cases inP a <;> cases inP b <;> cases inP c <;> cases inP d <;> cases inP e <;> cases inP f <;> cases inP g <;> cases inP h <;> cases inP i <;> rfl
  simp only [f8_0, f8_0g, f24_eq, L8_0_1, hz, key]
  unfold mxE
  by_cases hn : 1 ≤ n ∧ n ≤ 1000
  · rw [decide_eq_true hn, Bool.not_true, cK_false, if_pos hn]; split <;> rfl
  · rw [decide_eq_false hn, Bool.not_false, cK_true, if_neg hn]
theorem mxE_ok {a b c d e f g h i n : Int} (hh : mxE a b c d e f g h i n = 0) : (1 ≤ n ∧ n ≤ 1000) ∧ ∀ x ∈ [a, b, c, d, e, f, g, h, i], -1000 ≤ x ∧ x ≤ 1000 := by
  unfold mxE at hh
  by_cases hn : 1 ≤ n ∧ n ≤ 1000
  · rw [if_pos hn] at hh
    refine ⟨hn, fun x hx => ?_⟩
    by_cases hb : bad9 a b c d e f g h i = true
    · rw [if_pos hb] at hh; cases hh
    · have := List.any_eq_false.1 (by simpa [bad9] using hb : ([a, b, c, d, e, f, g, h, i].any fun x => !inP x) = false) x hx
      simpa [inP] using this
  · rw [if_neg hn] at hh; cases hh
end Go.AM.K
