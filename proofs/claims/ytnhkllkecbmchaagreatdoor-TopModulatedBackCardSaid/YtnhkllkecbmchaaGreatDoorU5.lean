/- Plain laws of calibrations. -/
import Derived.Test.YtnhkllkecbmchaaGreatDoorU1
-- SMH3
namespace Go.AM.K
set_option linter.unusedVariables false
set_option linter.unusedSimpArgs false
variable {α : Type}
def inP (x : Int) : Bool := decide (-1000 <= x /\ x <= 1000)
theorem f312_eq {x : Int} {k : Bool -> Option α} : f312_0 α x k = k (!inP x) := by
  simp only [f312_0, f312_0g, f313_0, f313_0g, f276_eq (show (-1000000000000 : Int) <= 1000 by decide) (show (1000 : Int) <= 1000000000000 by decide)]; rfl
theorem R223_eq {l : List Int} (hl : l.length <= 100) {k : Bool -> Option α} : ∀ (m i n : Nat), i + m = l.length -> m < n ->
    R223_0_0 α (l.map rI1) (l.length : Int) (fun x8 => k (decide (0 <= x8))) (fun x9 x10 => k (decide ((0 : Int) <= -1))) n (i : Int) = k ((l.drop i).any fun x => !inP x) := by
  intro m
  induction m with
  | zero =>
    intro i n h1 h2
    obtain ⟨n, rfl⟩ : ∃ z, n = z + 1 := ⟨n - 1, by omega⟩
    rw [List.drop_eq_nil_of_le (by omega)]
    have hi : i = l.length := by omega
    simp only [R223_0_0, S223_0_0, S223_0_0g]
    rw [hi, decide_eq_false (by omega)]; rfl
  | succ m ih =>
    intro i n h1 h2
    obtain ⟨n, rfl⟩ : ∃ z, n = z + 1 := ⟨n - 1, by omega⟩
    have hi : i < l.length := by omega
    rw [List.drop_eq_getElem_cons hi]
    simp only [R223_0_0, S223_0_0, S223_0_0g, List.any_cons]
    rw [decide_eq_true (by omega), cK_true, rowK_I hi, f312_eq, w64_in (by omega) (by omega), show (i : Int) + 1 = ((i + 1 : Nat) : Int) by omega]
    cases hb : inP (l[i]'hi)
    · rw [Bool.not_false, cK_true, decide_eq_true (by omega)]; rfl
    · rw [Bool.not_true, cK_false]; exact ih (i + 1) n (by omega) (by omega)
theorem f311_eq {l : List Int} (hl : l.length <= 100) {k : Bool -> Option α} : f311_0 α (l.map rI1) k = k (l.any fun x => !inP x) := by
  have hf := fuel_ge
  have := R223_eq (α := α) hl (k := k) l.length 0 fuel (by omega) (by omega)
  simp only [f311_0, f311_0g, f223_0, f223_0g, L223_0_0, List.length_map]
  exact this
def bad9 (a b c d e f g h i : Int) : Bool := [a, b, c, d, e, f, g, h, i].any fun x => !inP x
def mxE (a b c d e f g h i n : Int) : Int := if 1 <= n /\ n <= 1000 then (if bad9 a b c d e f g h i = true then 2 else 0) else 2
theorem f274_eq {a b c d e f g h i n : Int} {k : Int -> Option α} : f274_0 α a b c d e f g h i n k = k (mxE a b c d e f g h i n) := by
  have h9 : ∀ kk : Bool -> Option α, f311_0 α [[DC.v (.int .i64 a)], [DC.v (.int .i64 b)], [DC.v (.int .i64 c)], [DC.v (.int .i64 d)], [DC.v (.int .i64 e)], [DC.v (.int .i64 f)], [DC.v (.int .i64 g)], [DC.v (.int .i64 h)], [DC.v (.int .i64 i)]] kk = kk (bad9 a b c d e f g h i) := fun kk => (f311_eq (l := [a, b, c, d, e, f, g, h, i]) (by simp) (k := kk))
  simp only [f274_0, f274_0g, f215_eq, h9]
  unfold mxE
  by_cases hn : 1 <= n /\ n <= 1000
  · rw [decide_eq_true hn, Bool.not_true, cK_false, if_pos hn, cK_if]; split <;> rfl
  · rw [decide_eq_false hn, Bool.not_false, cK_true, if_neg hn]
theorem mxE_ok {a b c d e f g h i n : Int} (hh : mxE a b c d e f g h i n = 0) : (1 <= n /\ n <= 1000) /\ ∀ x ∈ [a, b, c, d, e, f, g, h, i], -1000 <= x /\ x <= 1000 := by
  unfold mxE at hh
  by_cases hn : 1 <= n /\ n <= 1000
  · rw [if_pos hn] at hh
    refine ⟨hn, fun x hx => ?_⟩
    by_cases hb : bad9 a b c d e f g h i = true
    · rw [if_pos hb] at hh; cases hh
    · have := List.any_eq_false.1 (by simpa [bad9] using hb : ([a, b, c, d, e, f, g, h, i].any fun x => !inP x) = false) x hx
      simpa [inP] using this
  · rw [if_neg hn] at hh; cases hh
end Go.AM.K
-- SQ0
namespace Go.AM.K
set_option linter.unusedVariables false
set_option linter.unusedSimpArgs false
variable {α : Type}
def mlo (n lo hi : Int) : Int := n * (if n < 0 then hi else lo)
def mhi (n lo hi : Int) : Int := n * (if n < 0 then lo else hi)
theorem m_bd {n lo hi B : Int} (hn : -B <= n /\ n <= B) (hl : -10000000 <= lo /\ lo <= 10000000) (hh : -10000000 <= hi /\ hi <= 10000000) : (-(B * 10000000) <= mlo n lo hi /\ mlo n lo hi <= B * 10000000) /\ -(B * 10000000) <= mhi n lo hi /\ mhi n lo hi <= B * 10000000 := by
  have h1 := mul_bd2 hn hl
  have h2 := mul_bd2 hn hh
  unfold mlo mhi
  by_cases h : n < 0
  · rw [if_pos h, if_pos h]; exact ⟨h2, h1⟩
  · rw [if_neg h, if_neg h]; exact ⟨h1, h2⟩
theorem j1 {sl sh lo hi n : Int} (h0 : -100000000000000 <= sl /\ sl <= 100000000000000) (h1 : -100000000000000 <= sh /\ sh <= 100000000000000) (hn : -2000000 <= n /\ n <= 2000000) (hl : -10000000 <= lo /\ lo <= 10000000) (hh : -10000000 <= hi /\ hi <= 10000000) {k : Int -> Int -> Option α} : J218_0_1 α sl sh lo hi n k = k (sl + mlo n lo hi) (sh + mhi n lo hi) := by
  have b1 := mul_bd2 hn hl
  have b2 := mul_bd2 hn hh
  simp only [J218_0_1, J218_0_1g, J218_0_0, J218_0_0g]
  rw [w64_in (n := n * lo) (by omega) (by omega), w64_in (n := n * hi) (by omega) (by omega), w64_in (n := sl + n * lo) (by omega) (by omega), w64_in (n := sl + n * hi) (by omega) (by omega), w64_in (n := sh + n * lo) (by omega) (by omega), w64_in (n := sh + n * hi) (by omega) (by omega)]
  unfold mlo mhi
  by_cases h : n < 0
  · rw [decide_eq_true h, cK_true, if_pos h, if_pos h]
  · rw [decide_eq_false h, cK_false, if_neg h, if_neg h]
theorem j3 {sl sh lo hi n : Int} (h0 : -100000000000000 <= sl /\ sl <= 100000000000000) (h1 : -100000000000000 <= sh /\ sh <= 100000000000000) (hn : -2000000 <= n /\ n <= 2000000) (hl : -10000000 <= lo /\ lo <= 10000000) (hh : -10000000 <= hi /\ hi <= 10000000) {k : Int -> Int -> Option α} : J218_0_3 α sl sh lo hi n k = k (sl + mlo n lo hi) (sh + mhi n lo hi) := by
  have b1 := mul_bd2 hn hl
  have b2 := mul_bd2 hn hh
  simp only [J218_0_3, J218_0_3g, J218_0_2, J218_0_2g]
  rw [w64_in (n := n * lo) (by omega) (by omega), w64_in (n := n * hi) (by omega) (by omega), w64_in (n := sl + n * lo) (by omega) (by omega), w64_in (n := sl + n * hi) (by omega) (by omega), w64_in (n := sh + n * lo) (by omega) (by omega), w64_in (n := sh + n * hi) (by omega) (by omega)]
  unfold mlo mhi
  by_cases h : n < 0
  · rw [decide_eq_true h, cK_true, if_pos h, if_pos h]
  · rw [decide_eq_false h, cK_false, if_neg h, if_neg h]
theorem j5 {sl sh lo hi n : Int} (h0 : -100000000000000 <= sl /\ sl <= 100000000000000) (h1 : -100000000000000 <= sh /\ sh <= 100000000000000) (hn : -2000000 <= n /\ n <= 2000000) (hl : -10000000 <= lo /\ lo <= 10000000) (hh : -10000000 <= hi /\ hi <= 10000000) {k : Int -> Int -> Option α} : J218_0_5 α sl sh lo hi n k = k (sl + mlo n lo hi) (sh + mhi n lo hi) := by
  have b1 := mul_bd2 hn hl
  have b2 := mul_bd2 hn hh
  simp only [J218_0_5, J218_0_5g, J218_0_4, J218_0_4g]
  rw [w64_in (n := n * lo) (by omega) (by omega), w64_in (n := n * hi) (by omega) (by omega), w64_in (n := sl + n * lo) (by omega) (by omega), w64_in (n := sl + n * hi) (by omega) (by omega), w64_in (n := sh + n * lo) (by omega) (by omega), w64_in (n := sh + n * hi) (by omega) (by omega)]
  unfold mlo mhi
  by_cases h : n < 0
  · rw [decide_eq_true h, cK_true, if_pos h, if_pos h]
  · rw [decide_eq_false h, cK_false, if_neg h, if_neg h]
theorem j7 {sl sh lo hi n : Int} (h0 : -100000000000000 <= sl /\ sl <= 100000000000000) (h1 : -100000000000000 <= sh /\ sh <= 100000000000000) (hn : -2000000 <= n /\ n <= 2000000) (hl : -10000000 <= lo /\ lo <= 10000000) (hh : -10000000 <= hi /\ hi <= 10000000) {k : Int -> Int -> Option α} : J218_0_7 α sl sh lo hi n k = k (sl + mlo n lo hi) (sh + mhi n lo hi) := by
  have b1 := mul_bd2 hn hl
  have b2 := mul_bd2 hn hh
  simp only [J218_0_7, J218_0_7g, J218_0_6, J218_0_6g]
  rw [w64_in (n := n * lo) (by omega) (by omega), w64_in (n := n * hi) (by omega) (by omega), w64_in (n := sl + n * lo) (by omega) (by omega), w64_in (n := sl + n * hi) (by omega) (by omega), w64_in (n := sh + n * lo) (by omega) (by omega), w64_in (n := sh + n * hi) (by omega) (by omega)]
  unfold mlo mhi
  by_cases h : n < 0
  · rw [decide_eq_true h, cK_true, if_pos h, if_pos h]
  · rw [decide_eq_false h, cK_false, if_neg h, if_neg h]
theorem j9 {sl sh lo hi n : Int} (h0 : -100000000000000 <= sl /\ sl <= 100000000000000) (h1 : -100000000000000 <= sh /\ sh <= 100000000000000) (hn : -2000000 <= n /\ n <= 2000000) (hl : -10000000 <= lo /\ lo <= 10000000) (hh : -10000000 <= hi /\ hi <= 10000000) {k : Int -> Int -> Option α} : J218_0_9 α sl sh lo hi n k = k (sl + mlo n lo hi) (sh + mhi n lo hi) := by
  have b1 := mul_bd2 hn hl
  have b2 := mul_bd2 hn hh
  simp only [J218_0_9, J218_0_9g, J218_0_8, J218_0_8g]
  rw [w64_in (n := n * lo) (by omega) (by omega), w64_in (n := n * hi) (by omega) (by omega), w64_in (n := sl + n * lo) (by omega) (by omega), w64_in (n := sl + n * hi) (by omega) (by omega), w64_in (n := sh + n * lo) (by omega) (by omega), w64_in (n := sh + n * hi) (by omega) (by omega)]
  unfold mlo mhi
  by_cases h : n < 0
  · rw [decide_eq_true h, cK_true, if_pos h, if_pos h]
  · rw [decide_eq_false h, cK_false, if_neg h, if_neg h]
theorem j11 {sl sh lo hi n : Int} (h0 : -100000000000000 <= sl /\ sl <= 100000000000000) (h1 : -100000000000000 <= sh /\ sh <= 100000000000000) (hn : -2000000 <= n /\ n <= 2000000) (hl : -10000000 <= lo /\ lo <= 10000000) (hh : -10000000 <= hi /\ hi <= 10000000) {k : Int -> Int -> Option α} : J218_0_11 α sl sh lo hi n k = k (sl + mlo n lo hi) (sh + mhi n lo hi) := by
  have b1 := mul_bd2 hn hl
  have b2 := mul_bd2 hn hh
  simp only [J218_0_11, J218_0_11g, J218_0_10, J218_0_10g]
  rw [w64_in (n := n * lo) (by omega) (by omega), w64_in (n := n * hi) (by omega) (by omega), w64_in (n := sl + n * lo) (by omega) (by omega), w64_in (n := sl + n * hi) (by omega) (by omega), w64_in (n := sh + n * lo) (by omega) (by omega), w64_in (n := sh + n * hi) (by omega) (by omega)]
  unfold mlo mhi
  by_cases h : n < 0
  · rw [decide_eq_true h, cK_true, if_pos h, if_pos h]
  · rw [decide_eq_false h, cK_false, if_neg h, if_neg h]
theorem j13 {sl sh lo hi n : Int} (h0 : -100000000000000 <= sl /\ sl <= 100000000000000) (h1 : -100000000000000 <= sh /\ sh <= 100000000000000) (hn : -2000000 <= n /\ n <= 2000000) (hl : -10000000 <= lo /\ lo <= 10000000) (hh : -10000000 <= hi /\ hi <= 10000000) {k : Int -> Int -> Option α} : J218_0_13 α sl sh lo hi n k = k (sl + mlo n lo hi) (sh + mhi n lo hi) := by
  have b1 := mul_bd2 hn hl
  have b2 := mul_bd2 hn hh
  simp only [J218_0_13, J218_0_13g, J218_0_12, J218_0_12g]
  rw [w64_in (n := n * lo) (by omega) (by omega), w64_in (n := n * hi) (by omega) (by omega), w64_in (n := sl + n * lo) (by omega) (by omega), w64_in (n := sl + n * hi) (by omega) (by omega), w64_in (n := sh + n * lo) (by omega) (by omega), w64_in (n := sh + n * hi) (by omega) (by omega)]
  unfold mlo mhi
  by_cases h : n < 0
  · rw [decide_eq_true h, cK_true, if_pos h, if_pos h]
  · rw [decide_eq_false h, cK_false, if_neg h, if_neg h]
theorem j15 {sl sh lo hi n : Int} (h0 : -100000000000000 <= sl /\ sl <= 100000000000000) (h1 : -100000000000000 <= sh /\ sh <= 100000000000000) (hn : -2000000 <= n /\ n <= 2000000) (hl : -10000000 <= lo /\ lo <= 10000000) (hh : -10000000 <= hi /\ hi <= 10000000) {k : Int -> Int -> Option α} : J218_0_15 α sl sh lo hi n k = k (sl + mlo n lo hi) (sh + mhi n lo hi) := by
  have b1 := mul_bd2 hn hl
  have b2 := mul_bd2 hn hh
  simp only [J218_0_15, J218_0_15g, J218_0_14, J218_0_14g]
  rw [w64_in (n := n * lo) (by omega) (by omega), w64_in (n := n * hi) (by omega) (by omega), w64_in (n := sl + n * lo) (by omega) (by omega), w64_in (n := sl + n * hi) (by omega) (by omega), w64_in (n := sh + n * lo) (by omega) (by omega), w64_in (n := sh + n * hi) (by omega) (by omega)]
  unfold mlo mhi
  by_cases h : n < 0
  · rw [decide_eq_true h, cK_true, if_pos h, if_pos h]
  · rw [decide_eq_false h, cK_false, if_neg h, if_neg h]
theorem j17 {sl sh lo hi n : Int} (h0 : -100000000000000 <= sl /\ sl <= 100000000000000) (h1 : -100000000000000 <= sh /\ sh <= 100000000000000) (hn : -2000000 <= n /\ n <= 2000000) (hl : -10000000 <= lo /\ lo <= 10000000) (hh : -10000000 <= hi /\ hi <= 10000000) {k : Int -> Int -> Option α} : J218_0_17 α sl sh lo hi n k = k (sl + mlo n lo hi) (sh + mhi n lo hi) := by
  have b1 := mul_bd2 hn hl
  have b2 := mul_bd2 hn hh
  simp only [J218_0_17, J218_0_17g, J218_0_16, J218_0_16g]
  rw [w64_in (n := n * lo) (by omega) (by omega), w64_in (n := n * hi) (by omega) (by omega), w64_in (n := sl + n * lo) (by omega) (by omega), w64_in (n := sl + n * hi) (by omega) (by omega), w64_in (n := sh + n * lo) (by omega) (by omega), w64_in (n := sh + n * hi) (by omega) (by omega)]
  unfold mlo mhi
  by_cases h : n < 0
  · rw [decide_eq_true h, cK_true, if_pos h, if_pos h]
  · rw [decide_eq_false h, cK_false, if_neg h, if_neg h]
structure Rg (a0 a1 b0 b1 c0 c1 : Int) : Prop where
  A0 : -10000000 <= a0 /\ a0 <= 10000000
  A1 : -10000000 <= a1 /\ a1 <= 10000000
  B0 : -10000000 <= b0 /\ b0 <= 10000000
  B1 : -10000000 <= b1 /\ b1 <= 10000000
  C0 : -10000000 <= c0 /\ c0 <= 10000000
  C1 : -10000000 <= c1 /\ c1 <= 10000000
  a : a0 <= a1
  b : b0 <= b1
  c : c0 <= c1
theorem Rg.of {a b c d e f : Int} (h : smE a b c d e f = 0) : Rg a b c d e f := by
  obtain ⟨⟨h1, h2, h3⟩, ⟨h4, h5, h6⟩, h7, h8, h9⟩ := smE_ok h
  exact ⟨h1, h2, h4, h5, h7, h8, h3, h6, h9⟩
structure Nb (B n1 n2 n3 n4 n5 n6 n7 n8 n9 : Int) : Prop where
  n1 : -B <= n1 /\ n1 <= B
  n2 : -B <= n2 /\ n2 <= B
  n3 : -B <= n3 /\ n3 <= B
  n4 : -B <= n4 /\ n4 <= B
  n5 : -B <= n5 /\ n5 <= B
  n6 : -B <= n6 /\ n6 <= B
  n7 : -B <= n7 /\ n7 <= B
  n8 : -B <= n8 /\ n8 <= B
  n9 : -B <= n9 /\ n9 <= B
def rl (n m l a0 a1 b0 b1 c0 c1 : Int) : Int := mlo n a0 a1 + mlo m b0 b1 + mlo l c0 c1
def rh (n m l a0 a1 b0 b1 c0 c1 : Int) : Int := mhi n a0 a1 + mhi m b0 b1 + mhi l c0 c1
def okS (x : Int) : Bool := decide (-10000000 <= x /\ x <= 10000000)
def mapK (n1 n2 n3 n4 n5 n6 n7 n8 n9 a0 a1 b0 b1 c0 c1 u d : Int) (k : Int -> Int -> Int -> Int -> Int -> Int -> Int -> Option α) : Option α :=
  if okS (rl n1 n2 n3 a0 a1 b0 b1 c0 c1 * u / d) = true /\ okS (cdv (rh n1 n2 n3 a0 a1 b0 b1 c0 c1 * u) d) = true /\ okS (rl n4 n5 n6 a0 a1 b0 b1 c0 c1 * u / d) = true /\ okS (cdv (rh n4 n5 n6 a0 a1 b0 b1 c0 c1 * u) d) = true /\ okS (rl n7 n8 n9 a0 a1 b0 b1 c0 c1 * u / d) = true /\ okS (cdv (rh n7 n8 n9 a0 a1 b0 b1 c0 c1 * u) d) = true
  then k (rl n1 n2 n3 a0 a1 b0 b1 c0 c1 * u / d) (cdv (rh n1 n2 n3 a0 a1 b0 b1 c0 c1 * u) d) (rl n4 n5 n6 a0 a1 b0 b1 c0 c1 * u / d) (cdv (rh n4 n5 n6 a0 a1 b0 b1 c0 c1 * u) d) (rl n7 n8 n9 a0 a1 b0 b1 c0 c1 * u / d) (cdv (rh n7 n8 n9 a0 a1 b0 b1 c0 c1 * u) d) 0
  else k 0 0 0 0 0 0 8
theorem mapK_form {n1 n2 n3 n4 n5 n6 n7 n8 n9 a0 a1 b0 b1 c0 c1 u d : Int} {k : Int -> Int -> Int -> Int -> Int -> Int -> Int -> Option α} :
    (cK (!okS (rl n1 n2 n3 a0 a1 b0 b1 c0 c1 * u / d)) (k 0 0 0 0 0 0 8) (cK (!okS (cdv (rh n1 n2 n3 a0 a1 b0 b1 c0 c1 * u) d)) (k 0 0 0 0 0 0 8)
      (cK (!okS (rl n4 n5 n6 a0 a1 b0 b1 c0 c1 * u / d)) (k 0 0 0 0 0 0 8) (cK (!okS (cdv (rh n4 n5 n6 a0 a1 b0 b1 c0 c1 * u) d)) (k 0 0 0 0 0 0 8)
      (cK (!okS (rl n7 n8 n9 a0 a1 b0 b1 c0 c1 * u / d)) (k 0 0 0 0 0 0 8) (cK (!okS (cdv (rh n7 n8 n9 a0 a1 b0 b1 c0 c1 * u) d)) (k 0 0 0 0 0 0 8)
      (k (rl n1 n2 n3 a0 a1 b0 b1 c0 c1 * u / d) (cdv (rh n1 n2 n3 a0 a1 b0 b1 c0 c1 * u) d) (rl n4 n5 n6 a0 a1 b0 b1 c0 c1 * u / d) (cdv (rh n4 n5 n6 a0 a1 b0 b1 c0 c1 * u) d) (rl n7 n8 n9 a0 a1 b0 b1 c0 c1 * u / d) (cdv (rh n7 n8 n9 a0 a1 b0 b1 c0 c1 * u) d) 0))))))) = mapK n1 n2 n3 n4 n5 n6 n7 n8 n9 a0 a1 b0 b1 c0 c1 u d k := by
  unfold mapK
  cases okS (rl n1 n2 n3 a0 a1 b0 b1 c0 c1 * u / d) <;> cases okS (cdv (rh n1 n2 n3 a0 a1 b0 b1 c0 c1 * u) d) <;> cases okS (rl n4 n5 n6 a0 a1 b0 b1 c0 c1 * u / d) <;> cases okS (cdv (rh n4 n5 n6 a0 a1 b0 b1 c0 c1 * u) d) <;> cases okS (rl n7 n8 n9 a0 a1 b0 b1 c0 c1 * u / d) <;> cases okS (cdv (rh n7 n8 n9 a0 a1 b0 b1 c0 c1 * u) d) <;> simp [cK]
theorem r_bd {n m l a0 a1 b0 b1 c0 c1 B : Int} (hr : Rg a0 a1 b0 b1 c0 c1) (hn : -B <= n /\ n <= B) (hm : -B <= m /\ m <= B) (hl : -B <= l /\ l <= B) : (-(B * 30000000) <= rl n m l a0 a1 b0 b1 c0 c1 /\ rl n m l a0 a1 b0 b1 c0 c1 <= B * 30000000) /\ -(B * 30000000) <= rh n m l a0 a1 b0 b1 c0 c1 /\ rh n m l a0 a1 b0 b1 c0 c1 <= B * 30000000 := by
  have h1 := m_bd hn hr.A0 hr.A1
  have h2 := m_bd hm hr.B0 hr.B1
  have h3 := m_bd hl hr.C0 hr.C1
  unfold rl rh
  omega
theorem f276_S {x : Int} {k : Bool -> Option α} : f276_0 α x 10000000 k = k (okS x) := f276_eq (by decide) (by decide)
theorem f218_eq {n1 n2 n3 n4 n5 n6 n7 n8 n9 a0 a1 b0 b1 c0 c1 u d : Int} (hn : Nb 2000000 n1 n2 n3 n4 n5 n6 n7 n8 n9) (hr : Rg a0 a1 b0 b1 c0 c1) (hu : 1 <= u /\ u <= 1000) (hd : 0 < d) (hd2 : d <= 1000000000000) {k : Int -> Int -> Int -> Int -> Int -> Int -> Int -> Option α} :
    f218_0 α n1 n2 n3 n4 n5 n6 n7 n8 n9 a0 a1 b0 b1 c0 c1 u d k = mapK n1 n2 n3 n4 n5 n6 n7 n8 n9 a0 a1 b0 b1 c0 c1 u d k := by
  have p1 := m_bd hn.n1 hr.A0 hr.A1
  have p2 := m_bd hn.n2 hr.B0 hr.B1
  have p4 := m_bd hn.n4 hr.A0 hr.A1
  have p5 := m_bd hn.n5 hr.B0 hr.B1
  have p7 := m_bd hn.n7 hr.A0 hr.A1
  have p8 := m_bd hn.n8 hr.B0 hr.B1
  have q1 := r_bd hr hn.n1 hn.n2 hn.n3
  have q2 := r_bd hr hn.n4 hn.n5 hn.n6
  have q9993 := r_bd hr hn.n7 hn.n8 hn.n9
  have ub : ∀ x : Int, -60000000000000 <= x /\ x <= 60000000000000 -> -60000000000000000 <= x * u /\ x * u <= 60000000000000000 := fun x hx => by
    have := mul_bd2 hx (show -1000 <= u /\ u <= 1000 by omega); omega
  have fl : ∀ x : Int, -60000000000000 <= x /\ x <= 60000000000000 -> ∀ kk : Int -> Option α, f131_0 α (w64 (x * u)) d kk = kk (x * u / d) := fun x hx kk => by
    have := ub x hx
    rw [w64_in (by omega) (by omega), f131_pos hd (by omega) (by omega) (by omega)]
  have ce : ∀ x : Int, -60000000000000 <= x /\ x <= 60000000000000 -> ∀ kk : Int -> Option α, f132_0 α (w64 (x * u)) d kk = kk (cdv (x * u) d) := fun x hx kk => by
    have := ub x hx
    rw [w64_in (by omega) (by omega), f132_pos hd (by omega) (by omega) (by omega)]
  rw [<- mapK_form]
  simp only [f218_0, f218_0g, f275_0, f275_0g]
  rw [j1 (by omega) (by omega) hn.n1 hr.A0 hr.A1, Int.zero_add, Int.zero_add, j3 (by omega) (by omega) hn.n2 hr.B0 hr.B1, j5 (by omega) (by omega) hn.n3 hr.C0 hr.C1]
  rw [show mlo n1 a0 a1 + mlo n2 b0 b1 + mlo n3 c0 c1 = rl n1 n2 n3 a0 a1 b0 b1 c0 c1 from rfl, show mhi n1 a0 a1 + mhi n2 b0 b1 + mhi n3 c0 c1 = rh n1 n2 n3 a0 a1 b0 b1 c0 c1 from rfl, fl _ (by omega), ce _ (by omega), f276_S, f276_S]
  rw [j7 (by omega) (by omega) hn.n4 hr.A0 hr.A1, Int.zero_add, Int.zero_add, j9 (by omega) (by omega) hn.n5 hr.B0 hr.B1, j11 (by omega) (by omega) hn.n6 hr.C0 hr.C1]
  rw [show mlo n4 a0 a1 + mlo n5 b0 b1 + mlo n6 c0 c1 = rl n4 n5 n6 a0 a1 b0 b1 c0 c1 from rfl, show mhi n4 a0 a1 + mhi n5 b0 b1 + mhi n6 c0 c1 = rh n4 n5 n6 a0 a1 b0 b1 c0 c1 from rfl, fl _ (by omega), ce _ (by omega), f276_S, f276_S]
  rw [j13 (by omega) (by omega) hn.n7 hr.A0 hr.A1, Int.zero_add, Int.zero_add, j15 (by omega) (by omega) hn.n8 hr.B0 hr.B1, j17 (by omega) (by omega) hn.n9 hr.C0 hr.C1]
  rw [show mlo n7 a0 a1 + mlo n8 b0 b1 + mlo n9 c0 c1 = rl n7 n8 n9 a0 a1 b0 b1 c0 c1 from rfl, show mhi n7 a0 a1 + mhi n8 b0 b1 + mhi n9 c0 c1 = rh n7 n8 n9 a0 a1 b0 b1 c0 c1 from rfl, fl _ (by omega), ce _ (by omega), f276_S, f276_S]
def mn (a b c d : Int) : Int := w64 ((w64 (a * b)) - (w64 (c * d)))
theorem mn_eq {a b c d : Int} (ha : -1000 <= a /\ a <= 1000) (hb : -1000 <= b /\ b <= 1000) (hc : -1000 <= c /\ c <= 1000) (hd : -1000 <= d /\ d <= 1000) : mn a b c d = a * b - c * d /\ -2000000 <= mn a b c d /\ mn a b c d <= 2000000 := by
  have h1 := mul_bd2 ha hb
  have h2 := mul_bd2 hc hd
  have e : mn a b c d = a * b - c * d := by
    unfold mn
    rw [w64_in (n := a * b) (by omega) (by omega), w64_in (n := c * d) (by omega) (by omega), w64_in (by omega) (by omega)]
  rw [e]; omega
def dt (n1 n2 n3 n4 n5 n6 n7 n8 n9 : Int) : Int := w64 ((w64 ((w64 (n1 * mn n5 n9 n6 n8)) + (w64 (n2 * mn n6 n7 n4 n9)))) + (w64 (n3 * mn n4 n8 n5 n7)))
theorem dt_eq {n1 n2 n3 n4 n5 n6 n7 n8 n9 : Int} (h : Nb 1000 n1 n2 n3 n4 n5 n6 n7 n8 n9) : dt n1 n2 n3 n4 n5 n6 n7 n8 n9 = n1 * mn n5 n9 n6 n8 + n2 * mn n6 n7 n4 n9 + n3 * mn n4 n8 n5 n7 /\ -6000000000 <= dt n1 n2 n3 n4 n5 n6 n7 n8 n9 /\ dt n1 n2 n3 n4 n5 n6 n7 n8 n9 <= 6000000000 := by
  have p1 := mul_bd2 h.n1 (mn_eq h.n5 h.n9 h.n6 h.n8).2
  have p2 := mul_bd2 h.n2 (mn_eq h.n6 h.n7 h.n4 h.n9).2
  have p3 := mul_bd2 h.n3 (mn_eq h.n4 h.n8 h.n5 h.n7).2
  have e : dt n1 n2 n3 n4 n5 n6 n7 n8 n9 = n1 * mn n5 n9 n6 n8 + n2 * mn n6 n7 n4 n9 + n3 * mn n4 n8 n5 n7 := by
    unfold dt
    rw [w64_in (n := n1 * _) (by omega) (by omega), w64_in (n := n2 * _) (by omega) (by omega), w64_in (n := n3 * _) (by omega) (by omega), w64_in (n := n1 * _ + n2 * _) (by omega) (by omega), w64_in (by omega) (by omega)]
  rw [e]; omega
theorem Nb.of {n1 n2 n3 n4 n5 n6 n7 n8 n9 n : Int} (h : mxE n1 n2 n3 n4 n5 n6 n7 n8 n9 n = 0) : Nb 1000 n1 n2 n3 n4 n5 n6 n7 n8 n9 := by
  have := (mxE_ok h).2
  exact ⟨this _ (by simp), this _ (by simp), this _ (by simp), this _ (by simp), this _ (by simp), this _ (by simp), this _ (by simp), this _ (by simp), this _ (by simp)⟩
theorem Nb.up {n1 n2 n3 n4 n5 n6 n7 n8 n9 A B : Int} (h : Nb A n1 n2 n3 n4 n5 n6 n7 n8 n9) (hb : A <= B) : Nb B n1 n2 n3 n4 n5 n6 n7 n8 n9 := by
  obtain ⟨h1, h2, h3, h4, h5, h6, h7, h8, h9⟩ := h
  exact ⟨by omega, by omega, by omega, by omega, by omega, by omega, by omega, by omega, by omega⟩
theorem adj_nb {n1 n2 n3 n4 n5 n6 n7 n8 n9 : Int} (h : Nb 1000 n1 n2 n3 n4 n5 n6 n7 n8 n9) : Nb 2000000 (mn n5 n9 n6 n8) (mn n8 n3 n9 n2) (mn n2 n6 n3 n5) (mn n6 n7 n4 n9) (mn n9 n1 n7 n3) (mn n3 n4 n1 n6) (mn n4 n8 n5 n7) (mn n7 n2 n8 n1) (mn n1 n5 n2 n4) :=
  ⟨(mn_eq h.n5 h.n9 h.n6 h.n8).2, (mn_eq h.n8 h.n3 h.n9 h.n2).2, (mn_eq h.n2 h.n6 h.n3 h.n5).2, (mn_eq h.n6 h.n7 h.n4 h.n9).2, (mn_eq h.n9 h.n1 h.n7 h.n3).2, (mn_eq h.n3 h.n4 h.n1 h.n6).2, (mn_eq h.n4 h.n8 h.n5 h.n7).2, (mn_eq h.n7 h.n2 h.n8 h.n1).2, (mn_eq h.n1 h.n5 h.n2 h.n4).2⟩
def sg (D x : Int) : Int := if D < 0 then -x else x
def corK (n1 n2 n3 n4 n5 n6 n7 n8 n9 n a0 a1 b0 b1 c0 c1 : Int) (k : Int -> Int -> Int -> Int -> Int -> Int -> Int -> Option α) : Option α :=
  if dt n1 n2 n3 n4 n5 n6 n7 n8 n9 = 0 then k 0 0 0 0 0 0 28 else
    mapK (sg (dt n1 n2 n3 n4 n5 n6 n7 n8 n9) (mn n5 n9 n6 n8)) (sg (dt n1 n2 n3 n4 n5 n6 n7 n8 n9) (mn n8 n3 n9 n2)) (sg (dt n1 n2 n3 n4 n5 n6 n7 n8 n9) (mn n2 n6 n3 n5)) (sg (dt n1 n2 n3 n4 n5 n6 n7 n8 n9) (mn n6 n7 n4 n9)) (sg (dt n1 n2 n3 n4 n5 n6 n7 n8 n9) (mn n9 n1 n7 n3)) (sg (dt n1 n2 n3 n4 n5 n6 n7 n8 n9) (mn n3 n4 n1 n6)) (sg (dt n1 n2 n3 n4 n5 n6 n7 n8 n9) (mn n4 n8 n5 n7)) (sg (dt n1 n2 n3 n4 n5 n6 n7 n8 n9) (mn n7 n2 n8 n1)) (sg (dt n1 n2 n3 n4 n5 n6 n7 n8 n9) (mn n1 n5 n2 n4))
      a0 a1 b0 b1 c0 c1 n (sg (dt n1 n2 n3 n4 n5 n6 n7 n8 n9) (dt n1 n2 n3 n4 n5 n6 n7 n8 n9)) k
section
variable {n1 n2 n3 n4 n5 n6 n7 n8 n9 n a0 a1 b0 b1 c0 c1 : Int} (h : mxE n1 n2 n3 n4 n5 n6 n7 n8 n9 n = 0) (hs : smE a0 a1 b0 b1 c0 c1 = 0)
include h
omit h in
theorem f217_eq {k : Int -> Option α} : f217_0 α n1 n2 n3 n4 n5 n6 n7 n8 n9 n a0 a1 b0 b1 c0 c1 k = k (if mxE n1 n2 n3 n4 n5 n6 n7 n8 n9 n ≠ 0 then mxE n1 n2 n3 n4 n5 n6 n7 n8 n9 n else smE a0 a1 b0 b1 c0 c1) := by
  simp only [f217_0, f217_0g, f274_eq, f125_eq, cK_ne]
  split <;> rfl
include hs
theorem f122_ok {k : Int -> Int -> Int -> Int -> Int -> Int -> Int -> Option α} : f122_0 α n1 n2 n3 n4 n5 n6 n7 n8 n9 n a0 a1 b0 b1 c0 c1 k = mapK n1 n2 n3 n4 n5 n6 n7 n8 n9 a0 a1 b0 b1 c0 c1 1 n k := by
  have hn := (mxE_ok h).1
  simp only [f122_0, f122_0g, f217_eq, cK_ne]
  rw [if_neg (fun hh => hh (by rw [if_neg (fun hh => hh h)]; exact hs)), f218_eq ((Nb.of h).up (by decide)) (Rg.of hs) (by decide) (by omega) (by omega)]
theorem f123_ok {k : Int -> Int -> Int -> Int -> Int -> Int -> Int -> Option α} : f123_0 α n1 n2 n3 n4 n5 n6 n7 n8 n9 n a0 a1 b0 b1 c0 c1 k = corK n1 n2 n3 n4 n5 n6 n7 n8 n9 n a0 a1 b0 b1 c0 c1 k := by
  have hn := (mxE_ok h).1
  have hb := Nb.of h
  have ha := adj_nb hb
  have hd := (dt_eq hb).2
  simp only [f123_0, f123_0g, f217_eq, cK_ne]
  rw [if_neg (fun hh => hh (by rw [if_neg (fun hh => hh h)]; exact hs))]
  show J123_0_0 α (dt n1 n2 n3 n4 n5 n6 n7 n8 n9) (mn n5 n9 n6 n8) (mn n8 n3 n9 n2) (mn n2 n6 n3 n5) (mn n6 n7 n4 n9) (mn n9 n1 n7 n3) (mn n3 n4 n1 n6) (mn n4 n8 n5 n7) (mn n7 n2 n8 n1) (mn n1 n5 n2 n4) (k 0 0 0 0 0 0 28) _ (fun _ => f218_0 α (mn n5 n9 n6 n8) (mn n8 n3 n9 n2) (mn n2 n6 n3 n5) (mn n6 n7 n4 n9) (mn n9 n1 n7 n3) (mn n3 n4 n1 n6) (mn n4 n8 n5 n7) (mn n7 n2 n8 n1) (mn n1 n5 n2 n4) a0 a1 b0 b1 c0 c1 n (dt n1 n2 n3 n4 n5 n6 n7 n8 n9) _) = _
  unfold corK
  generalize dt n1 n2 n3 n4 n5 n6 n7 n8 n9 = D at *
  generalize mn n5 n9 n6 n8 = m1 at *
  generalize mn n8 n3 n9 n2 = m2 at *
  generalize mn n2 n6 n3 n5 = m3 at *
  generalize mn n6 n7 n4 n9 = m4 at *
  generalize mn n9 n1 n7 n3 = m5 at *
  generalize mn n3 n4 n1 n6 = m6 at *
  generalize mn n4 n8 n5 n7 = m7 at *
  generalize mn n7 n2 n8 n1 = m8 at *
  generalize mn n1 n5 n2 n4 = m9 at *
  obtain ⟨g1, g2, g3, g4, g5, g6, g7, g8, g9⟩ := ha
  simp only [J123_0_0, J123_0_0g]
  by_cases h0 : D = 0
  · rw [if_pos h0, beq_iff_eq.2 h0, cK_true]
  · rw [if_neg h0, beq_eq_false_iff_ne.2 h0, cK_false]
    by_cases hneg : D < 0
    · have s : ∀ x, sg D x = -x := fun x => by unfold sg; rw [if_pos hneg]
      have w : ∀ x, (-2000000 <= x /\ x <= 2000000) -> w64 (0 - x) = -x := fun x hx => by rw [w64_in (by omega) (by omega)]; omega
      rw [decide_eq_true hneg, cK_true, w64_in (n := 0 - D) (by omega) (by omega), w m1 g1, w m2 g2, w m3 g3, w m4 g4, w m5 g5, w m6 g6, w m7 g7, w m8 g8, w m9 g9, show 0 - D = -D by omega, f218_eq ⟨by omega, by omega, by omega, by omega, by omega, by omega, by omega, by omega, by omega⟩ (Rg.of hs) hn (by omega) (by omega)]
      simp only [s]
    · have s : ∀ x, sg D x = x := fun x => by unfold sg; rw [if_neg hneg]
      rw [decide_eq_false hneg, cK_false, f218_eq ⟨g1, g2, g3, g4, g5, g6, g7, g8, g9⟩ (Rg.of hs) hn (by omega) (by omega)]
      simp only [s]
end
end Go.AM.K
-- SQ4
namespace Go.AM.K
set_option linter.unusedVariables false
set_option linter.unusedSimpArgs false
variable {α : Type}
theorem mlo_at {n lo hi p N : Int} (h : lo * N <= p /\ p <= hi * N) : mlo n lo hi * N <= n * p /\ n * p <= mhi n lo hi * N := by
  unfold mlo mhi
  by_cases hn : n < 0
  · have a := Int.mul_nonneg (show 0 <= -n by omega) (show 0 <= hi * N - p by omega)
    have b := Int.mul_nonneg (show 0 <= -n by omega) (show 0 <= p - lo * N by omega)
    rw [if_pos hn, if_pos hn]
    constructor <;> grind
  · have a := Int.mul_nonneg (show 0 <= n by omega) (show 0 <= hi * N - p by omega)
    have b := Int.mul_nonneg (show 0 <= n by omega) (show 0 <= p - lo * N by omega)
    rw [if_neg hn, if_neg hn]
    constructor <;> grind
theorem rl_at {n m l a0 a1 b0 b1 c0 c1 p q r N : Int} (ha : a0 * N <= p /\ p <= a1 * N) (hb : b0 * N <= q /\ q <= b1 * N) (hc : c0 * N <= r /\ r <= c1 * N) :
    rl n m l a0 a1 b0 b1 c0 c1 * N <= n * p + m * q + l * r /\ n * p + m * q + l * r <= rh n m l a0 a1 b0 b1 c0 c1 * N := by
  have h1 := mlo_at (n := n) ha
  have h2 := mlo_at (n := m) hb
  have h3 := mlo_at (n := l) hc
  unfold rl rh
  rw [Int.add_mul, Int.add_mul, Int.add_mul, Int.add_mul]
  omega
theorem rl_at1 {n m l a0 a1 b0 b1 c0 c1 p q r : Int} (ha : a0 <= p /\ p <= a1) (hb : b0 <= q /\ q <= b1) (hc : c0 <= r /\ r <= c1) :
    rl n m l a0 a1 b0 b1 c0 c1 <= n * p + m * q + l * r /\ n * p + m * q + l * r <= rh n m l a0 a1 b0 b1 c0 c1 := by
  have := rl_at (n := n) (m := m) (l := l) (N := 1) (p := p) (q := q) (r := r) (a0 := a0) (a1 := a1) (b0 := b0) (b1 := b1) (c0 := c0) (c1 := c1) (by omega) (by omega) (by omega)
  omega
theorem le_cdv {x d : Int} (hd : 0 < d) : x <= cdv x d * d := by
  unfold cdv
  have := Int.ediv_mul_le (-x) (b := d) (by omega)
  rw [Int.neg_mul]; omega
theorem fl_le {x d : Int} (hd : 0 < d) : x / d * d <= x := Int.ediv_mul_le x (by omega)
theorem see_at {n m l a0 a1 b0 b1 c0 c1 p q r d : Int} (hd : 0 < d) (ha : a0 <= p /\ p <= a1) (hb : b0 <= q /\ q <= b1) (hc : c0 <= r /\ r <= c1) :
    rl n m l a0 a1 b0 b1 c0 c1 / d * d <= n * p + m * q + l * r /\ n * p + m * q + l * r <= cdv (rh n m l a0 a1 b0 b1 c0 c1) d * d := by
  have h := rl_at1 (n := n) (m := m) (l := l) ha hb hc
  have h1 := fl_le (x := rl n m l a0 a1 b0 b1 c0 c1) hd
  have h2 := le_cdv (x := rh n m l a0 a1 b0 b1 c0 c1) hd
  omega
theorem back_at {x y z n1 n2 n3 n4 n5 n6 n7 n8 n9 a0 a1 b0 b1 c0 c1 n D p q r t : Int} (hn : 0 < n) (hD : 0 < D) (ha : a0 <= p /\ p <= a1) (hb : b0 <= q /\ q <= b1) (hc : c0 <= r /\ r <= c1)
    (e : x * (n1 * p + n2 * q + n3 * r) + y * (n4 * p + n5 * q + n6 * r) + z * (n7 * p + n8 * q + n9 * r) = D * t) :
    rl x y z (rl n1 n2 n3 a0 a1 b0 b1 c0 c1 / n) (cdv (rh n1 n2 n3 a0 a1 b0 b1 c0 c1) n) (rl n4 n5 n6 a0 a1 b0 b1 c0 c1 / n) (cdv (rh n4 n5 n6 a0 a1 b0 b1 c0 c1) n) (rl n7 n8 n9 a0 a1 b0 b1 c0 c1 / n) (cdv (rh n7 n8 n9 a0 a1 b0 b1 c0 c1) n) * n / D <= t /\
    t <= cdv (rh x y z (rl n1 n2 n3 a0 a1 b0 b1 c0 c1 / n) (cdv (rh n1 n2 n3 a0 a1 b0 b1 c0 c1) n) (rl n4 n5 n6 a0 a1 b0 b1 c0 c1 / n) (cdv (rh n4 n5 n6 a0 a1 b0 b1 c0 c1) n) (rl n7 n8 n9 a0 a1 b0 b1 c0 c1 / n) (cdv (rh n7 n8 n9 a0 a1 b0 b1 c0 c1) n) * n) D := by
  have h := rl_at (n := x) (m := y) (l := z) (see_at (n := n1) (m := n2) (l := n3) hn ha hb hc) (see_at (n := n4) (m := n5) (l := n6) hn ha hb hc) (see_at (n := n7) (m := n8) (l := n9) hn ha hb hc)
  rw [e] at h
  refine ⟨?_, ?_⟩
  · have h1 := Int.ediv_le_ediv hD h.1
    rwa [Int.mul_ediv_cancel_left _ (by omega)] at h1
  · have h2 := le_cdv (x := rh x y z (rl n1 n2 n3 a0 a1 b0 b1 c0 c1 / n) (cdv (rh n1 n2 n3 a0 a1 b0 b1 c0 c1) n) (rl n4 n5 n6 a0 a1 b0 b1 c0 c1 / n) (cdv (rh n4 n5 n6 a0 a1 b0 b1 c0 c1) n) (rl n7 n8 n9 a0 a1 b0 b1 c0 c1 / n) (cdv (rh n7 n8 n9 a0 a1 b0 b1 c0 c1) n) * n) hD
    have h3 := Int.le_trans h.2 h2
    rw [Int.mul_comm] at h3
    exact Int.le_of_mul_le_mul_right h3 hD
theorem adj_id {n1 n2 n3 n4 n5 n6 n7 n8 n9 p q r D : Int} (hD : D = n1 * (n5 * n9 - n6 * n8) + n2 * (n6 * n7 - n4 * n9) + n3 * (n4 * n8 - n5 * n7)) :
    (n5 * n9 - n6 * n8) * (n1 * p + n2 * q + n3 * r) + (n8 * n3 - n9 * n2) * (n4 * p + n5 * q + n6 * r) + (n2 * n6 - n3 * n5) * (n7 * p + n8 * q + n9 * r) = D * p /\
    (n6 * n7 - n4 * n9) * (n1 * p + n2 * q + n3 * r) + (n9 * n1 - n7 * n3) * (n4 * p + n5 * q + n6 * r) + (n3 * n4 - n1 * n6) * (n7 * p + n8 * q + n9 * r) = D * q /\
    (n4 * n8 - n5 * n7) * (n1 * p + n2 * q + n3 * r) + (n7 * n2 - n8 * n1) * (n4 * p + n5 * q + n6 * r) + (n1 * n5 - n2 * n4) * (n7 * p + n8 * q + n9 * r) = D * r := by
  subst hD
  refine ⟨?_, ?_, ?_⟩ <;> grind
theorem mapK_split (n1 n2 n3 n4 n5 n6 n7 n8 n9 a0 a1 b0 b1 c0 c1 u d : Int) :
    (∀ {k : Int -> Int -> Int -> Int -> Int -> Int -> Int -> Option α}, mapK n1 n2 n3 n4 n5 n6 n7 n8 n9 a0 a1 b0 b1 c0 c1 u d k = k 0 0 0 0 0 0 8) \/
    (okS (rl n1 n2 n3 a0 a1 b0 b1 c0 c1 * u / d) = true /\ okS (cdv (rh n1 n2 n3 a0 a1 b0 b1 c0 c1 * u) d) = true /\ okS (rl n4 n5 n6 a0 a1 b0 b1 c0 c1 * u / d) = true /\ okS (cdv (rh n4 n5 n6 a0 a1 b0 b1 c0 c1 * u) d) = true /\ okS (rl n7 n8 n9 a0 a1 b0 b1 c0 c1 * u / d) = true /\ okS (cdv (rh n7 n8 n9 a0 a1 b0 b1 c0 c1 * u) d) = true) /\
    ∀ {k : Int -> Int -> Int -> Int -> Int -> Int -> Int -> Option α}, mapK n1 n2 n3 n4 n5 n6 n7 n8 n9 a0 a1 b0 b1 c0 c1 u d k = k (rl n1 n2 n3 a0 a1 b0 b1 c0 c1 * u / d) (cdv (rh n1 n2 n3 a0 a1 b0 b1 c0 c1 * u) d) (rl n4 n5 n6 a0 a1 b0 b1 c0 c1 * u / d) (cdv (rh n4 n5 n6 a0 a1 b0 b1 c0 c1 * u) d) (rl n7 n8 n9 a0 a1 b0 b1 c0 c1 * u / d) (cdv (rh n7 n8 n9 a0 a1 b0 b1 c0 c1 * u) d) 0 := by
  unfold mapK
  by_cases h : okS (rl n1 n2 n3 a0 a1 b0 b1 c0 c1 * u / d) = true /\ okS (cdv (rh n1 n2 n3 a0 a1 b0 b1 c0 c1 * u) d) = true /\ okS (rl n4 n5 n6 a0 a1 b0 b1 c0 c1 * u / d) = true /\ okS (cdv (rh n4 n5 n6 a0 a1 b0 b1 c0 c1 * u) d) = true /\ okS (rl n7 n8 n9 a0 a1 b0 b1 c0 c1 * u / d) = true /\ okS (cdv (rh n7 n8 n9 a0 a1 b0 b1 c0 c1 * u) d) = true
  · exact .inr ⟨h, fun {k} => if_pos h⟩
  · exact .inl fun {k} => if_neg h
theorem smE_zero {a b c d e' f : Int} (h : Rg a b c d e' f) : smE a b c d e' f = 0 := by
  obtain ⟨h1, h2, h3, h4, h5, h6, h7, h8, h9⟩ := h
  have e : ∀ x y : Int, (-10000000 <= x /\ x <= 10000000) -> (-10000000 <= y /\ y <= 10000000) -> x <= y -> rgE 10000000 x y = 0 := fun x y a b c => by
    unfold rgE; rw [if_pos ⟨a, b⟩, if_neg (by omega)]
  unfold smE
  rw [e a b h1 h2 h7, e c d h3 h4 h8, e e' f h5 h6 h9]
  rfl
theorem okS_bd {x : Int} (h : okS x = true) : -10000000 <= x /\ x <= 10000000 := of_decide_eq_true h
theorem fl_cdv {n m l a0 a1 b0 b1 c0 c1 d : Int} (hd : 0 < d) (hr : Rg a0 a1 b0 b1 c0 c1) : rl n m l a0 a1 b0 b1 c0 c1 / d <= cdv (rh n m l a0 a1 b0 b1 c0 c1) d := by
  have h := see_at (n := n) (m := m) (l := l) hd (p := a0) (q := b0) (r := c0) ⟨Int.le_refl _, hr.a⟩ ⟨Int.le_refl _, hr.b⟩ ⟨Int.le_refl _, hr.c⟩
  exact Int.le_of_mul_le_mul_right (Int.le_trans h.1 h.2) hd
end Go.AM.K
