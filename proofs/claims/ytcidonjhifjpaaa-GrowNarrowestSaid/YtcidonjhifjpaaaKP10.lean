/- Chapter 8: GrowTracks, part 4. -/
import Derived.Test.YtcidonjhifjpaaaKP9
namespace Go.AM.K
variable {α : Type}
set_option linter.unusedVariables false
set_option linter.unusedSimpArgs false
variable {lo hi er : Int} {l : List (Int × Int)}

/-- Both ways. -/
abbrev cA (lo hi er : Int) (l : List (Int × Int)) (i : Nat) : Int := allA (aT er l) (sT l) lo hi i (l.length + 1)
abbrev cB (lo hi er : Int) (l : List (Int × Int)) (i : Nat) : Int := allB (bT er l) (sT l) lo hi i (l.length + 1)

theorem cA_bk (t : TrOk lo hi er l) {i : Nat} (h : i < l.length + 1) : cA lo hi er l i = bkA (aT er l) (sT l) lo hi (l.length + 1) (l.length + 1 - 1 - i) := (bkA_all t.rate' t.s_lt h).symm
theorem cB_bk (t : TrOk lo hi er l) {i : Nat} (h : i < l.length + 1) : cB lo hi er l i = bkB (bT er l) (sT l) lo hi (l.length + 1) (l.length + 1 - 1 - i) := (bkB_all t.rate' t.s_lt h).symm
theorem cA_last (t : TrOk lo hi er l) : cA lo hi er l l.length = fA lo er l l.length := by
  rw [cA_bk t (by omega), show l.length + 1 - 1 - l.length = 0 by omega]; rfl
theorem cB_last (t : TrOk lo hi er l) : cB lo hi er l l.length = fB hi er l l.length := by
  rw [cB_bk t (by omega), show l.length + 1 - 1 - l.length = 0 by omega]; rfl
theorem cA_step (t : TrOk lo hi er l) {i : Nat} (h : i + 1 < l.length + 1) : cA lo hi er l i = mx (fA lo er l i) (cA lo hi er l (i + 1) - hi * (sT l (i + 1) - sT l i)) := by
  rw [cA_bk t (by omega), cA_bk t h, show l.length + 1 - 1 - i = (l.length + 1 - 1 - (i + 1)) + 1 by omega]
  simp only [bkA]
  rw [show l.length + 1 - 1 - (l.length + 1 - 1 - (i + 1) + 1) = i by omega, show l.length + 1 - 1 - (l.length + 1 - 1 - (i + 1)) = i + 1 by omega]
theorem cB_step (t : TrOk lo hi er l) {i : Nat} (h : i + 1 < l.length + 1) : cB lo hi er l i = mn (fB hi er l i) (cB lo hi er l (i + 1) - lo * (sT l (i + 1) - sT l i)) := by
  rw [cB_bk t (by omega), cB_bk t h, show l.length + 1 - 1 - i = (l.length + 1 - 1 - (i + 1)) + 1 by omega]
  simp only [bkB]
  rw [show l.length + 1 - 1 - (l.length + 1 - 1 - (i + 1) + 1) = i by omega, show l.length + 1 - 1 - (l.length + 1 - 1 - (i + 1)) = i + 1 by omega]

theorem cnd_bd (t : TrOk lo hi er l) {i j : Nat} (hi' : i < l.length + 1) (hj : j < l.length + 1) : (-110000000000 ≤ cnd (aT er l) (sT l) lo hi i j ∧ cnd (aT er l) (sT l) lo hi i j ≤ 110000000000) ∧ (-110000000000 ≤ cndB (bT er l) (sT l) lo hi i j ∧ cndB (bT er l) (sT l) lo hi i j ≤ 110000000000) := by
  have h1 := t.a_bd hj
  unfold cnd cndB
  by_cases h : j ≤ i
  · have h2 := t.s_le h hi'
    have h3 := t.mul h hi'
    rw [if_pos h2, if_pos h2]; omega
  · have h2 := t.s_lt i j (by omega) hj
    have h3 := t.mul (i := i) (j := j) (by omega) hj
    rw [if_neg (by omega), if_neg (by omega)]; omega

theorem all_bd (t : TrOk lo hi er l) {i : Nat} (hi' : i < l.length + 1) : ∀ m, m ≤ l.length + 1 → (-110000000000 ≤ allA (aT er l) (sT l) lo hi i m ∧ allA (aT er l) (sT l) lo hi i m ≤ 110000000000) ∧ (-110000000000 ≤ allB (bT er l) (sT l) lo hi i m ∧ allB (bT er l) (sT l) lo hi i m ≤ 110000000000)
  | 0, h => by have := t.a_bd hi'; simp only [allA, allB]; omega
  | m + 1, h => by
    have h1 := all_bd t hi' m (by omega)
    have h2 := cnd_bd t hi' (j := m) (by omega)
    simp only [allA, allB, mx, mn]
    constructor <;> split <;> omega

def Pb (lo hi er : Int) (l : List (Int × Int)) (m : Nat) (i : Nat) : Int × Int × Int := if i < m then (sT l i, fA lo er l i, fB hi er l i) else (sT l i, cA lo hi er l i, cB lo hi er l i)

theorem f_bd (t : TrOk lo hi er l) {i : Nat} (h : i < l.length + 1) (ho : fA lo er l i ≤ fB hi er l i) : -1000000000 ≤ fA lo er l i ∧ fB hi er l i ≤ 2000000000 := by
  have h1 := t.a_bd h
  have hA := fA_ge (lo := lo) (er := er) (l := l) (i := i)
  have hB := fB_le (hi := hi) (er := er) (l := l) (i := i)
  omega

theorem R16b (t : TrOk lo hi er l) {k1 : Int → Bool → Rows → Option α} {fin : Rows → Option α} (hk : ∀ a b c, k1 a b c = fin c) : ∀ (m n : Nat), m < l.length + 1 → m < n →
    R16_0_1 α lo hi k1 n ((m : Int) - 1) (FR (Pb lo hi er l m) (l.length + 1)) = fin (FR (Pb lo hi er l 0) (l.length + 1)) := by
  have hl := t.len
  intro m
  induction m with
  | zero =>
    intro n h1 h2
    obtain ⟨n, rfl⟩ : ∃ k, n = k + 1 := ⟨n - 1, by omega⟩
    simp only [R16_0_1, S16_0_1, S16_0_1g]
    have : ¬ (0 : Int) ≤ ((0 : Nat) : Int) - 1 := by omega
    simp only [this, decide_false, cK_false, hk]
  | succ m ih =>
    intro n h1 h2
    obtain ⟨n, rfl⟩ : ∃ k, n = k + 1 := ⟨n - 1, by omega⟩
    have : (0 : Int) ≤ (m : Int) := by omega
    have hm := t.mul' (i := m) (j := m + 1) (by omega) (by omega)
    have hc : (-110000000000 ≤ cA lo hi er l (m + 1) ∧ cA lo hi er l (m + 1) ≤ 110000000000) ∧ (-110000000000 ≤ cB lo hi er l (m + 1) ∧ cB lo hi er l (m + 1) ≤ 110000000000) := all_bd t (i := m + 1) (by omega) (l.length + 1) (Nat.le_refl _)
    have e1 : Pb lo hi er l (m + 1) m = (sT l m, fA lo er l m, fB hi er l m) := by simp [Pb]
    have e2 : Pb lo hi er l (m + 1) (m + 1) = (sT l (m + 1), cA lo hi er l (m + 1), cB lo hi er l (m + 1)) := by simp [Pb]
    rw [show ((m + 1 : Nat) : Int) - 1 = (m : Int) by omega]
    simp only [R16_0_1, S16_0_1, S16_0_1g, this, decide_true, cK_true]
    rw [w64_nat (i := m) (N := l.length + 1) (by omega) (by omega), w64_in (n := (m : Int) - 1) (by omega) (by omega)]
    rw [FR_ix (by omega), FR_ld2 (by omega), FR_ix (by omega), FR_ld3 (by omega), FR_ix (by omega), FR_ld1 (by omega), e1, e2]
    dsimp only
    rw [f77_eq (by omega) (by omega) (by omega) (by omega) (by omega), f74_eq, FR_ix (by omega), FR_st (by omega), FR_set (by omega)]
    rw [FR_congr (q := Pb lo hi er l m) (fun x hx => by
      unfold Pb
      by_cases h4 : x = m
      · subst h4
        rw [cA_step t (i := x) (by omega), cB_step t (i := x) (by omega)]; simp
      · rw [if_neg h4]
        by_cases h5 : x < m
        · rw [if_pos h5, if_pos (by omega)]
        · rw [if_neg h5, if_neg (by omega)])]
    exact ih n (by omega) (by omega)

/-- The enclosures. -/
def enc7 (lo hi er : Int) (l : List (Int × Int)) (i : Nat) : Int × Int := (cA lo hi er l (i + 1), cB lo hi er l (i + 1))
def FE (lo hi er : Int) (l : List (Int × Int)) (m : Nat) : Rows := ((List.range m).map (enc7 lo hi er l)).map rI2
@[simp] theorem FE_len {m : Nat} : (FE lo hi er l m).length = m := by simp [FE]
theorem FE_succ {m : Nat} : FE lo hi er l m ++ [rI2 (enc7 lo hi er l m)] = FE lo hi er l (m + 1) := by simp [FE, List.range_succ]

theorem R16c (t : TrOk lo hi er l) {k1 : Int → Bool → Rows → Option α} {fin : Rows → Option α} (hk : ∀ a b c, k1 a b c = fin c) : ∀ (m i n : Nat), i + m = l.length → m < n →
    R16_0_2 α (FR (fun i => Pb lo hi er l 0 (i + 1)) l.length) ((l.length : Nat) : Int) k1 n (i : Int) (FE lo hi er l i) = fin (FE lo hi er l l.length) := by
  have hl := t.len
  intro m
  induction m with
  | zero =>
    intro i n h1 h2
    obtain ⟨n, rfl⟩ : ∃ k, n = k + 1 := ⟨n - 1, by omega⟩
    have : ¬ ((i : Int) < ((l.length : Nat) : Int)) := by omega
    simp only [R16_0_2, S16_0_2, S16_0_2g, this, decide_false, cK_false, hk]
    rw [show i = l.length by omega]
  | succ m ih =>
    intro i n h1 h2
    obtain ⟨n, rfl⟩ : ∃ k, n = k + 1 := ⟨n - 1, by omega⟩
    have hii : i < l.length := by omega
    have : ((i : Int) < ((l.length : Nat) : Int)) := by omega
    simp only [R16_0_2, S16_0_2, S16_0_2g, this, decide_true, cK_true]
    rw [FR_row hii, w64_nat hii (by omega)]
    rw [show ([[DC.v (.int .i64 (Pb lo hi er l 0 (i + 1)).2.1), DC.v (.int .i64 (Pb lo hi er l 0 (i + 1)).2.2)]] : Rows) = [enc7 lo hi er l i].map rI2 from rfl]
    rw [apOk_of (enc := rI2) (n := 2) (fun _ => rfl) (by simp; omega) (by simp; omega), gK_true]
    rw [show [enc7 lo hi er l i].map rI2 = [rI2 (enc7 lo hi er l i)] from rfl, FE_succ]
    exact ih (i + 1) n (by omega) (by omega)

theorem R16f' (t : TrOk lo hi er l) {k1 : Option α} {fin : Rows → Option α} : R16_0_0 α lo hi k1 (fun _ _ c => fin c) fuel 1 (FR (Pf lo hi er l 1) (l.length + 1)) = if okF lo hi er l l.length 1 = true then fin (FR (Pf lo hi er l (l.length + 1)) (l.length + 1)) else k1 := by
  have hl := t.len
  have := fuel_ge
  have hf : fA lo er l (1 - 1) ≤ fB hi er l (1 - 1) := by simp [fwA, fwB, aT, bT]
  exact R16f t (k2 := fun _ _ c => fin c) (fin := fin) (fun _ _ _ => rfl) l.length 1 fuel (by omega) (by omega) (by omega) hf
theorem R16b' (t : TrOk lo hi er l) {fin : Rows → Option α} : R16_0_1 α lo hi (fun _ _ c => fin c) fuel ((l.length : Int) - 1) (FR (Pb lo hi er l l.length) (l.length + 1)) = fin (FR (Pb lo hi er l 0) (l.length + 1)) := by
  have hl := t.len
  have := fuel_ge
  exact R16b t (k1 := fun _ _ c => fin c) (fin := fin) (fun _ _ _ => rfl) l.length fuel (by omega) (by omega)

theorem f16_eq (t : TrOk lo hi er l) (h0 : (ckT lo hi er l).2 = 0) {k : Rows → Int → Option α} : f16_0 α lo hi er (l.map rI2) k = if okF lo hi er l l.length 1 = true then k (FE lo hi er l l.length) 0 else k [] 17 := by
  have hl := t.len
  have := fuel_ge
  simp only [f16_0, f16_0g, f32_eq, h0, bne_self_eq_false, cK_false, f73_eq t, L16_0_0]
  have e0 : FR (pT er l) (l.length + 1) = FR (Pf lo hi er l 1) (l.length + 1) := FR_congr (fun i hi => by
    unfold Pf
    by_cases h : i < 1
    · obtain rfl : i = 0 := by omega
      simp [pT, fwA, fwB]
    · rw [if_neg h])
  rw [e0]
  refine (R16f' t).trans ?_
  congr 1
  have e1 : FR (Pf lo hi er l (l.length + 1)) (l.length + 1) = FR (Pb lo hi er l l.length) (l.length + 1) := FR_congr (fun i hi => by
    unfold Pf Pb
    rw [if_pos hi]
    by_cases h : i < l.length
    · rw [if_pos h]
    · rw [if_neg h]
      obtain rfl : i = l.length := by omega
      rw [cA_last t, cB_last t])
  rw [e1]
  simp only [FR_len, L16_0_1]
  rw [show (((l.length + 1 : Nat) : Int)) - 2 = (l.length : Int) - 1 by omega, w64_in (by omega) (by omega)]
  refine (R16b' t).trans ?_
  have hg : decide ((0 : Int) ≤ 1 ∧ 1 ≤ (((l.length + 1 : Nat) : Int)) ∧ (((l.length + 1 : Nat) : Int)) ≤ (((l.length + 1 : Nat) : Int))) = true := decide_eq_true ⟨by omega, by omega, by omega⟩
  simp only [FR_len, hg, gK_true, Int.toNat_natCast]
  rw [List.take_of_length_le (by simp), FR_drop]
  simp only [FR_len, L16_0_2]
  exact R16c t (k1 := fun _ _ x => k x 0) (fin := fun x => k x 0) (fun _ _ _ => rfl) l.length 0 fuel (by omega) (by omega)

end Go.AM.K
