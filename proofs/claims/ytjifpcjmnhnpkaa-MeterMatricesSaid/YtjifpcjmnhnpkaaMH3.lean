/- Chapter 6: calibrations. -/
import Derived.Test.YtjifpcjmnhnpkaaML3
namespace Go.AM.K
set_option linter.unusedVariables false
set_option linter.unusedSimpArgs false
variable {α : Type}
theorem w64_bd (n : Int) : -9223372036854775808 ≤ w64 n ∧ w64 n ≤ 9223372036854775807 := by
  show -9223372036854775808 ≤ IntKind.i64.wrap n ∧ IntKind.i64.wrap n ≤ 9223372036854775807
  rw [IntKind.wrap_i64]; omega
theorem gcd_step {a b : Int} (hb : b ≠ 0) : Int.gcd b (Int.tmod a b) = Int.gcd a b ∧ (Int.tmod a b).natAbs < b.natAbs := by
  have h : (Int.tmod a b).natAbs = a.natAbs % b.natAbs := Int.natAbs_tmod a b
  refine ⟨?_, ?_⟩
  · show Nat.gcd b.natAbs (Int.tmod a b).natAbs = Nat.gcd a.natAbs b.natAbs
    rw [h, Nat.gcd_comm, ← Nat.gcd_rec, Nat.gcd_comm]
  · rw [h]; exact Nat.mod_lt _ (by omega)
theorem R115_eq : ∀ (n : Nat) (a b : Int), b.natAbs < n → ∃ g : Int, g.natAbs = Int.gcd a b ∧ (∀ k : Int → Int → Bool → Option α, R115_0_0 α k n a b = k g 0 false) ∧ ∀ k : Int → Int → Bool → Option α, R117_0_0 α k n a b = k g 0 false
  | 0, a, b, h => by omega
  | n + 1, a, b, h => by
    by_cases hb : b = 0
    · subst hb
      exact ⟨a, by simp, fun k => rfl, fun k => rfl⟩
    · obtain ⟨h1, h2⟩ := gcd_step (a := a) hb
      obtain ⟨g, g1, g2, g3⟩ := R115_eq n b (Int.tmod a b) (by omega)
      refine ⟨g, by rw [g1, h1], fun k => ?_, fun k => ?_⟩
      · simp only [R115_0_0, S115_0_0, S115_0_0g, bne_iff_ne.2 hb, cK_true, gK_true]; exact g2 k
      · simp only [R117_0_0, S117_0_0, S117_0_0g, bne_iff_ne.2 hb, cK_true, gK_true]; exact g3 k
theorem dv {x n : Int} (hx : 0 < x) (hx2 : x ≤ 1000000) (hn : -9223372036854775808 ≤ n ∧ n ≤ 9223372036854775807) : ∃ y : Int, (0 < y ∧ y ≤ x) ∧ y = (Int.gcd x n : Int) ∧ (∀ k : Int → Option α, f115_0 α x n k = k y) ∧ ∀ k : Int → Option α, f117_0 α x n k = k y := by
  have hf := fuel_ge
  obtain ⟨g, g1, g2, g3⟩ := R115_eq (α := α) fuel x n (by omega)
  have h1 : 0 < Int.gcd x n := Nat.gcd_pos_of_pos_left _ (by omega)
  have h2 : Int.gcd x n ≤ x.natAbs := Nat.gcd_le_left _ (by omega)
  have hm : (if (w64 (0 - g)) > g then (w64 (0 - g)) else g) = (Int.gcd x n : Int) := by
    rw [w64_in (by omega) (by omega)]
    split <;> omega
  refine ⟨(Int.gcd x n : Int), ⟨by omega, by omega⟩, rfl, fun k => ?_, fun k => ?_⟩
  · simp only [f115_0, f115_0g, L115_0_0, g2]; rw [hm]
  · simp only [f117_0, f117_0g, L117_0_0, g3, f124_0, f124_0g]; rw [hm]
def inP (x : Int) : Bool := decide (-1000 ≤ x ∧ x ≤ 1000)
theorem f114_eq {x : Int} {k : Bool → Option α} : f114_0 α x k = k (inP x) := by simp only [f114_0, f114_0g, f29_eq]; rfl
theorem f112_eq {x : Int} {k : Bool → Option α} : f112_0 α x k = k (!inP x) := by
  simp only [f112_0, f112_0g, f113_0, f113_0g, f109_eq (show (-1000000000000 : Int) ≤ 1000 by decide) (show (1000 : Int) ≤ 1000000000000 by decide)]; rfl
theorem f116_eq {x : Int} {k : Bool → Option α} : f116_0 α x k = k (!inP x) := by
  simp only [f116_0, f116_0g, f113_0, f113_0g, f109_eq (show (-1000000000000 : Int) ≤ 1000 by decide) (show (1000 : Int) ≤ 1000000000000 by decide)]; rfl
theorem R130_eq {l : List Int} (hl : l.length ≤ 100) {k : Bool → Option α} : ∀ (m i n : Nat), i + m = l.length → m < n →
    R130_0_0 α (l.map rI1) (l.length : Int) (fun x8 => k (decide (0 ≤ x8))) (fun x9 x10 => k (decide ((0 : Int) ≤ -1))) n (i : Int) = k ((l.drop i).any fun x => !inP x) ∧
    R130_1_0 α (l.map rI1) (l.length : Int) (fun x8 => k (decide (0 ≤ x8))) (fun x9 x10 => k (decide ((0 : Int) ≤ -1))) n (i : Int) = k ((l.drop i).any fun x => !inP x) := by
  intro m
  induction m with
  | zero =>
    intro i n h1 h2
    obtain ⟨n, rfl⟩ : ∃ z, n = z + 1 := ⟨n - 1, by omega⟩
    rw [List.drop_eq_nil_of_le (by omega)]
    have hi : i = l.length := by omega
    simp only [R130_0_0, S130_0_0, S130_0_0g, R130_1_0, S130_1_0, S130_1_0g]
    rw [hi, decide_eq_false (by omega)]; exact ⟨rfl, rfl⟩
  | succ m ih =>
    intro i n h1 h2
    obtain ⟨n, rfl⟩ : ∃ z, n = z + 1 := ⟨n - 1, by omega⟩
    have hi : i < l.length := by omega
    rw [List.drop_eq_getElem_cons hi]
    simp only [R130_0_0, S130_0_0, S130_0_0g, R130_1_0, S130_1_0, S130_1_0g, List.any_cons]
    rw [decide_eq_true (by omega), cK_true, cK_true, rowK_I hi, rowK_I hi, f112_eq, f116_eq, w64_in (by omega) (by omega), show (i : Int) + 1 = ((i + 1 : Nat) : Int) by omega]
    cases hb : inP (l[i]'hi)
    · rw [Bool.not_false, cK_true, cK_true, decide_eq_true (by omega)]; exact ⟨rfl, rfl⟩
    · rw [Bool.not_true, cK_false, cK_false]; exact ih (i + 1) n (by omega) (by omega)
theorem f111_eq {l : List Int} (hl : l.length ≤ 100) {k : Bool → Option α} : f111_0 α (l.map rI1) k = k (l.any fun x => !inP x) ∧ f111_1 α (l.map rI1) k = k (l.any fun x => !inP x) := by
  have hf := fuel_ge
  have := R130_eq (α := α) hl (k := k) l.length 0 fuel (by omega) (by omega)
  simp only [f111_0, f111_0g, f111_1, f111_1g, f130_0, f130_0g, f130_1, f130_1g, L130_0_0, L130_1_0, List.length_map]
  exact this
def bad9 (a b c d e f g h i : Int) : Bool := [a, b, c, d, e, f, g, h, i].any fun x => !inP x
def mxE (a b c d e f g h i n : Int) : Int := if 1 ≤ n ∧ n ≤ 1000 then (if bad9 a b c d e f g h i = true then 2 else 0) else 2
theorem f58_eq {a b c d e f g h i n : Int} {k : Int → Option α} : f58_0 α a b c d e f g h i n k = k (mxE a b c d e f g h i n) := by
  have h9 : ∀ kk : Bool → Option α, f111_0 α [[DC.v (.int .i64 a)], [DC.v (.int .i64 b)], [DC.v (.int .i64 c)], [DC.v (.int .i64 d)], [DC.v (.int .i64 e)], [DC.v (.int .i64 f)], [DC.v (.int .i64 g)], [DC.v (.int .i64 h)], [DC.v (.int .i64 i)]] kk = kk (bad9 a b c d e f g h i) := fun kk => (f111_eq (l := [a, b, c, d, e, f, g, h, i]) (by simp) (k := kk)).1
  simp only [f58_0, f58_0g, f98_eq, h9]
  unfold mxE
  by_cases hn : 1 ≤ n ∧ n ≤ 1000
  · rw [decide_eq_true hn, Bool.not_true, cK_false, if_pos hn, cK_if]; split <;> rfl
  · rw [decide_eq_false hn, Bool.not_false, cK_true, if_neg hn]
theorem f59_eq {a b c d e f g h i n : Int} {k : Int → Option α} : f59_0 α a b c d e f g h i n k = k (mxE a b c d e f g h i n) := by
  obtain ⟨z, hz⟩ : ∃ z, fuel = z + 10 := ⟨fuel - 10, by have := fuel_ge; omega⟩
  have w : w64 (0 + 1) = 1 ∧ w64 (1 + 1) = 2 ∧ w64 (2 + 1) = 3 ∧ w64 (3 + 1) = 4 ∧ w64 (4 + 1) = 5 ∧ w64 (5 + 1) = 6 ∧ w64 (6 + 1) = 7 ∧ w64 (7 + 1) = 8 ∧ w64 (8 + 1) = 9 := by decide
  obtain ⟨w1, w2, w3, w4, w5, w6, w7, w8, w9⟩ := w
  have d : decide ((0 : Int) < 9) = true ∧ decide ((1 : Int) < 9) = true ∧ decide ((2 : Int) < 9) = true ∧ decide ((3 : Int) < 9) = true ∧ decide ((4 : Int) < 9) = true ∧ decide ((5 : Int) < 9) = true ∧ decide ((6 : Int) < 9) = true ∧ decide ((7 : Int) < 9) = true ∧ decide ((8 : Int) < 9) = true ∧ decide ((9 : Int) < 9) = false := by decide
  obtain ⟨d0, d1, d2, d3, d4, d5, d6, d7, d8, d9⟩ := d
  have key : ∀ (x y : Option α), R59_0_1 α a b c d e f g h i x (fun _ _ => y) (z + 10) 0 = if bad9 a b c d e f g h i = true then x else y := by
    intro x y
    simp only [R59_0_1, S59_0_1, S59_0_1g, w1, w2, w3, w4, w5, w6, w7, w8, w9, d0, d1, d2, d3, d4, d5, d6, d7, d8, d9, cK_true, cK_false, J59_0_0, J59_0_0g, Int.reduceBEq, f114_eq]
    unfold bad9
    simp only [List.any_cons, List.any_nil, Bool.or_false]
    cases inP a <;> cases inP b <;> cases inP c <;> cases inP d <;> cases inP e <;> cases inP f <;> cases inP g <;> cases inP h <;> cases inP i <;> rfl
  simp only [f59_0, f59_0g, f29_eq, L59_0_1, hz, key]
  unfold mxE
  by_cases hn : 1 ≤ n ∧ n ≤ 1000
  · rw [decide_eq_true hn, Bool.not_true, cK_false, if_pos hn]; split <;> rfl
  · rw [decide_eq_false hn, Bool.not_false, cK_true, if_neg hn]
theorem mxE_ok {a b c d e f g h i n : Int} (hh : mxE a b c d e f g h i n = 0) : (1 ≤ n ∧ n ≤ 1000) ∧ ∀ x ∈ [a, b, c, d, e, f, g, h, i], -1000 ≤ x ∧ x ≤ 1000 := by
  unfold mxE at hh
  by_cases hn : 1 ≤ n ∧ n ≤ 1000
  · rw [if_pos hn] at hh
    refine ⟨hn, fun x hx => ?_⟩
    by_cases hb : bad9 a b c d e f g h i = true
    · rw [if_pos hb] at hh; cases hh
    · have := List.any_eq_false.1 (by simpa [bad9] using hb : ([a, b, c, d, e, f, g, h, i].any fun x => !inP x) = false) x hx
      simpa [inP] using this
  · rw [if_neg hn] at hh; cases hh
end Go.AM.K
