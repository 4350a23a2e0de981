/- Chapter 8: GrowTracks, part 3. -/
import Derived.Test.YtcidonjhifjpaaaKP8
namespace Go.AM.K
variable {α : Type}
set_option linter.unusedVariables false
set_option linter.unusedSimpArgs false
variable {lo hi er : Int} {l : List (Int × Int)}

theorem f75_eq {s1 a b lo hi s2 : Int} {k : Int → Int → Option α} (h1 : -9000000000 ≤ s2 - s1 ∧ s2 - s1 ≤ 9000000000) (h2 : -900000000000 ≤ lo * (s2 - s1) ∧ lo * (s2 - s1) ≤ 900000000000) (h3 : -900000000000 ≤ hi * (s2 - s1) ∧ hi * (s2 - s1) ≤ 900000000000) (h4 : -900000000000 ≤ a ∧ a ≤ 900000000000) (h5 : -900000000000 ≤ b ∧ b ≤ 900000000000) :
    f75_0 α s1 a b lo hi s2 k = k (a + lo * (s2 - s1)) (b + hi * (s2 - s1)) := by
  simp only [f75_0, f75_0g]
  rw [w64_in (n := s2 - s1) (by omega) (by omega), w64_in (n := lo * (s2 - s1)) (by omega) (by omega), w64_in (n := hi * (s2 - s1)) (by omega) (by omega), w64_in (n := a + _) (by omega) (by omega), w64_in (n := b + _) (by omega) (by omega)]
theorem f77_eq {s1 a b lo hi s2 : Int} {k : Int → Int → Option α} (h1 : -9000000000 ≤ s1 - s2 ∧ s1 - s2 ≤ 9000000000) (h2 : -900000000000 ≤ lo * (s1 - s2) ∧ lo * (s1 - s2) ≤ 900000000000) (h3 : -900000000000 ≤ hi * (s1 - s2) ∧ hi * (s1 - s2) ≤ 900000000000) (h4 : -900000000000 ≤ a ∧ a ≤ 900000000000) (h5 : -900000000000 ≤ b ∧ b ≤ 900000000000) :
    f77_0 α s1 a b lo hi s2 k = k (a - hi * (s1 - s2)) (b - lo * (s1 - s2)) := by
  simp only [f77_0, f77_0g]
  rw [w64_in (n := s1 - s2) (by omega) (by omega), w64_in (n := lo * (s1 - s2)) (by omega) (by omega), w64_in (n := hi * (s1 - s2)) (by omega) (by omega), w64_in (n := a - _) (by omega) (by omega), w64_in (n := b - _) (by omega) (by omega)]
theorem f74_eq {a b c d : Int} {k : Int → Int → Option α} : f74_0 α a b c d k = k (mx a c) (mn b d) := rfl
theorem f76_eq {a b : Int} {k : Bool → Option α} : f76_0 α a b k = k (decide (b < a)) := rfl

theorem TrOk.mul' (t : TrOk lo hi er l) {i j : Nat} (h1 : i ≤ j) (h2 : j < l.length + 1) : (0 ≤ sT l j - sT l i ∧ sT l j - sT l i ≤ 100000) ∧ (0 ≤ lo * (sT l j - sT l i) ∧ lo * (sT l j - sT l i) ≤ 100000000000) ∧ (0 ≤ hi * (sT l j - sT l i) ∧ hi * (sT l j - sT l i) ≤ 100000000000) := by
  have := t.mul h1 h2
  rw [Int.mul_comm lo, Int.mul_comm hi]; exact this

/-- Nothing in common just if they contradict. -/
theorem emp_ctr (t : TrOk lo hi er l) {j k : Nat} (h : j ≤ k) (hk : k < l.length + 1) :
    decide (mn (bT er l j + hi * (sT l k - sT l j)) (bT er l k) < mx (aT er l j + lo * (sT l k - sT l j)) (aT er l k)) = ctT lo hi er l j k := by
  have h1 := t.a_bd (i := j) (by omega)
  have h2 := t.a_bd hk
  have h3 := t.mul' h hk
  have h4 := Int.mul_nonneg (show 0 ≤ hi - lo by have := t.rate'; omega) h3.1.1
  rw [Int.sub_mul] at h4
  unfold ctT ctr
  rw [Int.mul_comm (sT l k - sT l j) hi, Int.mul_comm (sT l k - sT l j) lo]
  generalize hi * (sT l k - sT l j) = H at *
  generalize lo * (sT l k - sT l j) = L at *
  rw [← Bool.decide_or]
  congr 1
  unfold mx mn
  refine propext ?_
  split <;> split <;> omega

theorem emp_ctr' (t : TrOk lo hi er l) {j k : Nat} (h : j ≤ k) (hk : k < l.length + 1) :
    decide (mn (bT er l j + hi * ((pT er l k).1 - sT l j)) (pT er l k).2.2 < mx (aT er l j + lo * ((pT er l k).1 - sT l j)) (pT er l k).2.1) = ctT lo hi er l j k := emp_ctr t h hk

theorem R33i (t : TrOk lo hi er l) {j : Nat} {k1 : Int → Int → Option α} {k2 : Int → Bool → Option α} {fin : Option α} (hk : ∀ a b, k2 a b = fin) : ∀ (m k n : Nat), j < k → k + m = l.length + 1 → m < n →
    R33_0_0 α (j : Int) lo hi (FR (pT er l) (l.length + 1)) (sT l j) (aT er l j) (bT er l j) k1 k2 n (k : Int) = match ctI (ctT lo hi er l) j m k with | some x => k1 ((j : Int) - 1) ((x : Int) - 1) | none => fin := by
  have hl := t.len
  intro m
  induction m with
  | zero =>
    intro k n hj h1 h2
    obtain ⟨n, rfl⟩ : ∃ k, n = k + 1 := ⟨n - 1, by omega⟩
    have : ¬ ((k : Int) < ((l.length + 1 : Nat) : Int)) := by omega
    simp only [R33_0_0, S33_0_0, S33_0_0g, FR_len, this, decide_false, cK_false, hk, ctI]
  | succ m ih =>
    intro k n hj h1 h2
    obtain ⟨n, rfl⟩ : ∃ k, n = k + 1 := ⟨n - 1, by omega⟩
    have : ((k : Int) < ((l.length + 1 : Nat) : Int)) := by omega
    have hm := t.mul' (i := j) (j := k) (by omega) (by omega)
    have ha := t.a_bd (i := j) (by omega)
    simp only [R33_0_0, S33_0_0, S33_0_0g, FR_len, this, decide_true, cK_true, ctI]
    rw [FR_ix (by omega), FR_ld1 (by omega), f75_eq (by simp only [pT]; omega) (by simp only [pT]; omega) (by simp only [pT]; omega) (by omega) (by omega), FR_ix (by omega), FR_ld2 (by omega), f74_eq, f76_eq]
    rw [emp_ctr' t (by omega) (by omega), w64_nat (N := l.length + 1) (by omega) (by omega), ih (k + 1) n (by omega) (by omega) (by omega), w64_in (n := (k : Int) - 1) (by omega) (by omega), w64_in (n := (j : Int) - 1) (by omega) (by omega)]
    cases ctT lo hi er l j k <;> simp

theorem R33o (t : TrOk lo hi er l) {k1 : Int → Int → Option α} {k2 : Int → Bool → Option α} {fin : Option α} (hk : ∀ a b, k2 a b = fin) : ∀ (m j n : Nat), j + m = l.length + 1 → m < n →
    R33_0_1 α ((l.length + 1 : Nat) : Int) lo hi (FR (pT er l) (l.length + 1)) k1 k2 n (j : Int) = match ctO (ctT lo hi er l) (l.length + 1) m j with | some x => k1 ((x.1 : Int) - 1) ((x.2 : Int) - 1) | none => fin := by
  have hl := t.len
  have := fuel_ge
  intro m
  induction m with
  | zero =>
    intro j n h1 h2
    obtain ⟨n, rfl⟩ : ∃ k, n = k + 1 := ⟨n - 1, by omega⟩
    have : ¬ ((j : Int) < ((l.length + 1 : Nat) : Int)) := by omega
    simp only [R33_0_1, S33_0_1, S33_0_1g, this, decide_false, cK_false, hk, ctO]
  | succ m ih =>
    intro j n h1 h2
    obtain ⟨n, rfl⟩ : ∃ k, n = k + 1 := ⟨n - 1, by omega⟩
    have h3 : ((j : Int) < ((l.length + 1 : Nat) : Int)) := by omega
    simp only [R33_0_1, S33_0_1, S33_0_1g, h3, decide_true, cK_true, ctO, L33_0_0]
    rw [FR_ix (by omega), FR_ld3 (by omega), w64_nat (N := l.length + 1) (by omega) (by omega), ih (j + 1) n (by omega) (by omega)]
    simp only [pT]
    rw [R33i t (fin := _) (fun _ _ => rfl) (l.length + 1 - (j + 1)) (j + 1) fuel (by omega) (by omega) (by omega)]
    cases ctI (ctT lo hi er l) j (l.length + 1 - (j + 1)) (j + 1) <;> rfl

theorem f33_eq {k : Int → Int → Int → Option α} (t : TrOk lo hi er l) (h0 : (ckT lo hi er l).2 = 0) : f33_0 α lo hi er (l.map rI2) k = match fcT lo hi er l with | some x => k ((x.1 : Int) - 1) ((x.2 : Int) - 1) 0 | none => k 0 0 17 := by
  have hl := t.len
  have := fuel_ge
  simp only [f33_0, f33_0g, f32_eq, h0, bne_self_eq_false, cK_false, f73_eq t, L33_0_1, FR_len]
  exact R33o t (k1 := fun a b => k a b 0) (k2 := fun _ _ => k 0 0 17) (fun _ _ => rfl) (l.length + 1) 0 fuel (by omega) (by omega)
theorem f33_bad {k : Int → Int → Int → Option α} (h0 : (ckT lo hi er l).2 ≠ 0) : f33_0 α lo hi er (l.map rI2) k = k 0 0 (ckT lo hi er l).2 := by
  have : ((ckT lo hi er l).2 != 0) = true := by simpa using h0
  simp only [f33_0, f33_0g, f32_eq, this, cK_true]
theorem f16_bad {k : Rows → Int → Option α} (h0 : (ckT lo hi er l).2 ≠ 0) : f16_0 α lo hi er (l.map rI2) k = k [] (ckT lo hi er l).2 := by
  have : ((ckT lo hi er l).2 != 0) = true := by simpa using h0
  simp only [f16_0, f16_0g, f32_eq, this, cK_true]

/-- Forward. -/
abbrev fA (lo er : Int) (l : List (Int × Int)) : Nat → Int := fwA (aT er l) (sT l) lo
abbrev fB (hi er : Int) (l : List (Int × Int)) : Nat → Int := fwB (bT er l) (sT l) hi
def okF (lo hi er : Int) (l : List (Int × Int)) : Nat → Nat → Bool
  | 0, _ => true
  | m + 1, i => decide (fA lo er l i ≤ fB hi er l i) && okF lo hi er l m (i + 1)
theorem okF_iff : ∀ m i, okF lo hi er l m i = true ↔ ∀ x, i ≤ x → x < i + m → fA lo er l x ≤ fB hi er l x
  | 0, i => by simp only [okF, true_iff]; intro x h1 h2; omega
  | m + 1, i => by
    simp only [okF, Bool.and_eq_true, decide_eq_true_eq, okF_iff m (i + 1)]
    constructor
    · intro ⟨h, h'⟩ x h1 h2
      by_cases hx : x = i
      · subst hx; exact h
      · exact h' x (by omega) (by omega)
    · intro h; exact ⟨h i (by omega) (by omega), fun x h1 h2 => h x (by omega) (by omega)⟩

theorem fA_ge {i : Nat} : aT er l i ≤ fA lo er l i := by
  have := (fwA_le (a := aT er l) (s := sT l) (lo := lo) i _).1 (Int.le_refl _) i (Nat.le_refl _)
  simpa using this
theorem fB_le {i : Nat} : fB hi er l i ≤ bT er l i := by
  have := (fwA_le (a := fun i => -(bT er l i)) (s := sT l) (lo := -hi) i _).1 (Int.le_refl _) i (Nat.le_refl _)
  unfold fB
  rw [fwB_neg]; simp at this; omega

def Pf (lo hi er : Int) (l : List (Int × Int)) (m : Nat) (i : Nat) : Int × Int × Int := if i < m then (sT l i, fA lo er l i, fB hi er l i) else pT er l i

theorem R16f (t : TrOk lo hi er l) {k1 : Option α} {k2 : Int → Bool → Rows → Option α} {fin : Rows → Option α} (hk : ∀ a b c, k2 a b c = fin c) : ∀ (m i n : Nat), 0 < i → i + m = l.length + 1 → m < n → (fA lo er l (i - 1) ≤ fB hi er l (i - 1)) →
    R16_0_0 α lo hi k1 k2 n (i : Int) (FR (Pf lo hi er l i) (l.length + 1)) = if okF lo hi er l m i = true then fin (FR (Pf lo hi er l (l.length + 1)) (l.length + 1)) else k1 := by
  have hl := t.len
  intro m
  induction m with
  | zero =>
    intro i n h0 h1 h2 h3
    obtain ⟨n, rfl⟩ : ∃ k, n = k + 1 := ⟨n - 1, by omega⟩
    have : ¬ ((i : Int) < ((l.length + 1 : Nat) : Int)) := by omega
    simp only [R16_0_0, S16_0_0, S16_0_0g, FR_len, this, decide_false, cK_false, hk, okF, if_true]
    rw [show i = l.length + 1 by omega]
  | succ m ih =>
    intro i n h0 h1 h2 h3
    obtain ⟨n, rfl⟩ : ∃ k, n = k + 1 := ⟨n - 1, by omega⟩
    obtain ⟨j, rfl⟩ : ∃ j, i = j + 1 := ⟨i - 1, by omega⟩
    simp only [Nat.add_sub_cancel] at h3
    have : (((j + 1 : Nat) : Int) < ((l.length + 1 : Nat) : Int)) := by omega
    have hm := t.mul' (i := j) (j := j + 1) (by omega) (by omega)
    have ha := t.a_bd (i := j) (by omega)
    have hA := fA_ge (lo := lo) (er := er) (l := l) (i := j)
    have hB := fB_le (hi := hi) (er := er) (l := l) (i := j)
    have e1 : Pf lo hi er l (j + 1) j = (sT l j, fA lo er l j, fB hi er l j) := by simp [Pf]
    have e2 : Pf lo hi er l (j + 1) (j + 1) = pT er l (j + 1) := by simp [Pf]
    simp only [R16_0_0, S16_0_0, S16_0_0g, FR_len, this, decide_true, cK_true, okF]
    rw [w64_pred (i := j + 1) (N := l.length + 1) (by omega) (by omega) (by omega), Nat.add_sub_cancel]
    rw [FR_ix (by omega), FR_ld2 (by omega), FR_ix (by omega), FR_ld3 (by omega), FR_ix (by omega), FR_ld1 (by omega), e1, e2]
    simp only [pT]
    rw [f75_eq (by omega) (by omega) (by omega) (by omega) (by omega), f74_eq, FR_ix (by omega), FR_st (by omega), FR_set (by omega), FR_ix (by omega), FR_ld2 (by omega), f76_eq, w64_nat (N := l.length + 1) (by omega) (by omega)]
    rw [FR_congr (q := Pf lo hi er l (j + 1 + 1)) (fun x hx => by
      unfold Pf
      by_cases h4 : x = j + 1
      · subst h4; simp [pT, fwA, fwB]
      · rw [if_neg h4]
        by_cases h5 : x < j + 1
        · rw [if_pos h5, if_pos (by omega)]
        · rw [if_neg h5, if_neg (by omega)])]
    have eA : fA lo er l (j + 1) = mx (aT er l (j + 1)) (fA lo er l j + lo * (sT l (j + 1) - sT l j)) := rfl
    have eB : fB hi er l (j + 1) = mn (bT er l (j + 1)) (fB hi er l j + hi * (sT l (j + 1) - sT l j)) := rfl
    simp only [if_true, ← eA, ← eB]
    by_cases h4 : fA lo er l (j + 1) ≤ fB hi er l (j + 1)
    · have h5 : ¬ fB hi er l (j + 1) < fA lo er l (j + 1) := by omega
      simp only [h4, h5, decide_true, decide_false, cK_false, Bool.true_and]
      exact ih (j + 1 + 1) n (by omega) (by omega) (by omega) h4
    · have h5 : fB hi er l (j + 1) < fA lo er l (j + 1) := by omega
      simp only [h4, h5, decide_true, decide_false, cK_true, Bool.false_and, Bool.false_eq_true, if_false]

end Go.AM.K
