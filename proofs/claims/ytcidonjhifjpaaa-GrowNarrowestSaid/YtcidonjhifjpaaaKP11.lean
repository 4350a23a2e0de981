/- Chapter 8: GrowTracks, part 5. -/
import Derived.Test.YtcidonjhifjpaaaKP10
namespace Go.AM.K
variable {α : Type}
set_option linter.unusedVariables false
set_option linter.unusedSimpArgs false
variable {lo hi er : Int} {l : List (Int × Int)}

theorem R34i (t : TrOk lo hi er l) {i : Nat} (hi' : i < l.length + 1) {k1 : Int → Bool → Int → Int → Option α} {fin : Int → Int → Option α} (hk : ∀ a b c d, k1 a b c d = fin c d) : ∀ (m j n : Nat), j + m = l.length + 1 → m < n →
    R34_0_0 α (sT l i) lo hi er (l.map rI2) k1 n ((j : Int) - 1) (allA (aT er l) (sT l) lo hi i j) (allB (bT er l) (sT l) lo hi i j) = fin (cA lo hi er l i) (cB lo hi er l i) := by
  have hl := t.len
  intro m
  induction m with
  | zero =>
    intro j n h1 h2
    obtain ⟨n, rfl⟩ : ∃ k, n = k + 1 := ⟨n - 1, by omega⟩
    have : ¬ ((j : Int) - 1 < ((l.length : Nat) : Int)) := by omega
    simp only [R34_0_0, S34_0_0, S34_0_0g, List.length_map, this, decide_false, cK_false, hk]
    rw [show j = l.length + 1 by omega]
  | succ m ih =>
    intro j n h1 h2
    obtain ⟨n, rfl⟩ : ∃ k, n = k + 1 := ⟨n - 1, by omega⟩
    have : ((j : Int) - 1 < ((l.length : Nat) : Int)) := by omega
    have ha := t.a_bd (i := j) (by omega)
    have ih := ih (j + 1) n (by omega) (by omega)
    simp only [R34_0_0, S34_0_0, S34_0_0g, List.length_map, this, decide_true, cK_true]
    rw [f96_eq t rfl (by omega), w64_in (n := (j : Int) - 1 + 1) (by omega) (by omega), show (j : Int) - 1 + 1 = ((j + 1 : Nat) : Int) - 1 by omega]
    by_cases hs : sT l j ≤ sT l i
    · have hji : j ≤ i := by
        by_cases h : j ≤ i
        · exact h
        · have := t.s_lt i j (by omega) (by omega); omega
      have hm := t.mul hji hi'
      rw [w64_in (n := sT l i - sT l j) (by omega) (by omega), w64_in (n := (sT l i - sT l j) * lo) (by omega) (by omega), w64_in (n := (sT l i - sT l j) * hi) (by omega) (by omega), w64_in (n := aT er l j + (sT l i - sT l j) * lo) (by omega) (by omega), w64_in (n := bT er l j + (sT l i - sT l j) * hi) (by omega) (by omega)]
      simp only [hs, decide_true, cK_true]
      rw [← ih]
      simp only [allA, allB, mx, mn, cnd, cndB, hs, if_true]
    · have hji : i ≤ j := by
        by_cases h : i ≤ j
        · exact h
        · have := t.s_le (i := j) (j := i) (by omega) hi'; omega
      have hm := t.mul (i := i) (j := j) hji (by omega)
      simp only [hs, decide_false, cK_false]
      rw [w64_in (n := sT l j - sT l i) (by omega) (by omega), w64_in (n := (sT l j - sT l i) * lo) (by omega) (by omega), w64_in (n := (sT l j - sT l i) * hi) (by omega) (by omega), w64_in (n := aT er l j - (sT l j - sT l i) * hi) (by omega) (by omega), w64_in (n := bT er l j - (sT l j - sT l i) * lo) (by omega) (by omega)]
      rw [← ih]
      simp only [allA, allB, mx, mn, cnd, cndB, hs, if_false]

theorem R34o (t : TrOk lo hi er l) {k1 : Int → Bool → Rows → Option α} {fin : Rows → Option α} (hk : ∀ a b c, k1 a b c = fin c) : ∀ (m i n : Nat), i + m = l.length → m < n →
    R34_0_1 α lo hi er (l.map rI2) k1 n (i : Int) (FE lo hi er l i) = fin (FE lo hi er l l.length) := by
  have hl := t.len
  have := fuel_ge
  intro m
  induction m with
  | zero =>
    intro i n h1 h2
    obtain ⟨n, rfl⟩ : ∃ k, n = k + 1 := ⟨n - 1, by omega⟩
    have : ¬ ((i : Int) < ((l.length : Nat) : Int)) := by omega
    simp only [R34_0_1, S34_0_1, S34_0_1g, List.length_map, this, decide_false, cK_false, hk]
    rw [show i = l.length by omega]
  | succ m ih =>
    intro i n h1 h2
    obtain ⟨n, rfl⟩ : ∃ k, n = k + 1 := ⟨n - 1, by omega⟩
    have hii : i < l.length := by omega
    have : ((i : Int) < ((l.length : Nat) : Int)) := by omega
    simp only [R34_0_1, S34_0_1, S34_0_1g, List.length_map, this, decide_true, cK_true, L34_0_0]
    rw [f96_eq t (i := i + 1) (by omega) (by omega), w64_nat hii (by omega)]
    refine (R34i t (i := i + 1) (by omega) (fin := fun x32 x33 => gK (apOk 2 16 (FE lo hi er l i) [[DC.v (.int .i64 x32), DC.v (.int .i64 x33)]]) (R34_0_1 α lo hi er (l.map rI2) k1 n ((i + 1 : Nat) : Int) (FE lo hi er l i ++ [[DC.v (.int .i64 x32), DC.v (.int .i64 x33)]]))) (fun _ _ _ _ => rfl) (l.length + 1) 0 fuel (by omega) (by omega)).trans ?_
    rw [show ([[DC.v (.int .i64 (cA lo hi er l (i + 1))), DC.v (.int .i64 (cB lo hi er l (i + 1)))]] : Rows) = [enc7 lo hi er l i].map rI2 from rfl]
    rw [apOk_of (enc := rI2) (n := 2) (fun _ => rfl) (by simp; omega) (by simp; omega), gK_true]
    rw [show [enc7 lo hi er l i].map rI2 = [rI2 (enc7 lo hi er l i)] from rfl, FE_succ]
    exact ih (i + 1) n (by omega) (by omega)

theorem f34_eq (t : TrOk lo hi er l) {k : Rows → Bool → Option α} : f34_0 α lo hi er (l.map rI2) k = match fcT lo hi er l with | some _ => k [] false | none => k (FE lo hi er l l.length) true := by
  have hl := t.len
  have := fuel_ge
  simp only [f34_0, f34_0g, f35_eq t, L34_0_1]
  cases fcT lo hi er l with
  | some x => rfl
  | none => exact R34o t (k1 := fun _ _ c => k c true) (fin := fun c => k c true) (fun _ _ _ => rfl) l.length 0 fuel (by omega) (by omega)

theorem f36_self {L : List (Int × Int)} (hL : L.length < 1000) {k : Bool → Option α} : f36_0 α (L.map rI2) (L.map rI2) k = k true := by
  simp only [f36_0, f36_0g, bne_self_eq_false, cK_false, L36_0_0]
  have := fuel_ge
  have gen : ∀ (m i n : Nat), i + m = L.length → m < n → R36_0_0 α (L.map rI2) (L.map rI2) (k false) (fun _ _ => k true) n (i : Int) = k true := by
    intro m
    induction m with
    | zero =>
      intro i n h1 h2
      obtain ⟨n, rfl⟩ : ∃ k, n = k + 1 := ⟨n - 1, by omega⟩
      have : ¬ ((i : Int) < ((L.length : Nat) : Int)) := by omega
      simp only [R36_0_0, S36_0_0, S36_0_0g, List.length_map, this, decide_false, cK_false]
    | succ m ih =>
      intro i n h1 h2
      obtain ⟨n, rfl⟩ : ∃ k, n = k + 1 := ⟨n - 1, by omega⟩
      have hi : i < L.length := by omega
      have : ((i : Int) < ((L.length : Nat) : Int)) := by omega
      simp only [R36_0_0, S36_0_0, S36_0_0g, List.length_map, this, decide_true, cK_true]
      rw [rowK_G2 hi, rowK_G2 hi, w64_nat hi (by omega)]
      simp only [beq_self_eq_true, Bool.and_true, Bool.not_true, cK_false]
      exact ih (i + 1) n (by omega) (by omega)
  exact gen L.length 0 fuel (by omega) (by omega)

/-- No enclosures just if two contradict. -/
theorem okF_fc (t : TrOk lo hi er l) : (okF lo hi er l l.length 1 = true) ↔ fcT lo hi er l = none := by
  rw [okF_iff, ctO_none _ _ (by omega)]
  have h := ctr_iff (a := aT er l) (b := bT er l) (s := sT l) (lo := lo) (hi := hi) (N := l.length + 1) t.rate' (fun i hi => (t.a_bd hi).2.1) t.s_lt
  constructor
  · intro h1 x y _ h2 h3
    refine h.1 (fun i hi' => ?_) x y h2 h3
    by_cases h0 : i = 0
    · subst h0; simp [fwA, fwB, aT, bT]
    · exact h1 i (by omega) (by omega)
  · intro h1 x h2 h3
    exact h.2 (fun j k hj hk => h1 j k (by omega) hj hk) x (by omega)

theorem f17_eq {l : List (Int × Int)} (hl : l.length < 1000) {k : Int → Int → Int → Rows → Option α} : f17_0 α lo hi er (l.map rI2) k = k lo hi er (l.map rI2) := by
  simp only [f17_0, f17_0g]
  rw [apOk_of (enc := rI2) (n := 2) (fun _ => rfl) (by simp; omega) (by simp; omega), gK_true, List.nil_append]

def few (n : Nat) : Bool := decide (n ≤ 12) || (decide (40 < n) && decide (n ≤ 42))
theorem f31_eq {k : Bool → Option α} : f31_0 α lo hi er (l.map rI2) k = k (few l.length) := by
  simp only [f31_0, f31_0g, List.length_map]
  unfold few
  have e1 : ((l.length : Nat) : Int) ≤ 12 ↔ l.length ≤ 12 := by omega
  have e2 : (40 : Int) < ((l.length : Nat) : Int) ↔ 40 < l.length := by omega
  have e3 : ((l.length : Nat) : Int) ≤ 42 ↔ l.length ≤ 42 := by omega
  simp only [e1, e2, e3]
  by_cases h1 : l.length ≤ 12 <;> by_cases h2 : 40 < l.length <;> simp [h1, h2]

theorem law7 {k : Bool → Option α} : f7_0 α lo hi er (l.map rI2) k = k true := by
  simp only [f7_0, f7_0g, f14_0, f31_eq]
  cases hf : few l.length
  · rfl
  · have hlen : l.length < 1000 := by
      unfold few at hf
      simp only [Bool.or_eq_true, Bool.and_eq_true, decide_eq_true_eq] at hf
      omega
    simp only [Bool.not_true, cK_false, f17_eq hlen, f32_eq, f15_eq, bne_self_eq_false]
    by_cases h0 : (ckT lo hi er l).2 = 0
    · have t := ckT_ok h0
      have hl := t.len
      simp only [f16_eq t h0, f33_eq t h0, f34_eq t, f35_eq t, h0, bne_self_eq_false, cK_false]
      have hiff := okF_fc t
      cases hc : fcT lo hi er l with
      | some x =>
        have : ¬ okF lo hi er l l.length 1 = true := fun h => by rw [hiff.1 h] at hc; cases hc
        rw [if_neg this]
        simp [flatK, flatRows]
      | none =>
        rw [if_pos (hiff.2 hc)]
        simp only [FE]
        rw [flatK_map (enc := rI2) (fun _ => rfl), f36_self (by simp; omega)]
        simp
    · have h0' : ((ckT lo hi er l).2 != 0) = true := by simpa using h0
      simp only [f16_bad h0, f33_bad h0, h0', cK_true]
      simp [flatK, flatRows]

end Go.AM.K
