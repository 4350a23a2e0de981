/- Chapter 8: GrowNarrowest, the law. -/
import Derived.Test.YtcidonjhifjpaaaKP13
namespace Go.AM.K
variable {α : Type}
set_option linter.unusedVariables false
set_option linter.unusedSimpArgs false
variable {lo hi er : Int} {l : List (Int × Int)}

theorem FE_get {m i : Nat} (h : i < m) : (FE lo hi er l m)[i]? = some (rI2 (enc7 lo hi er l i)) := by simp [FE, h]
theorem FE_at {m i : Nat} (h : i < m) : rowAt (FE lo hi er l m) i = rI2 (enc7 lo hi er l i) := by
  simp only [rowAt, List.getD_eq_getElem?_getD, FE_get h]; rfl
theorem FE_ix {m i : Nat} (h : i < m) {x : Option α} : ixK (FE lo hi er l m) (i : Int) 2 x = x := by
  have : decide ((0 : Int) ≤ (i : Int) ∧ (i : Int) < (((FE lo hi er l m).length : Nat) : Int) ∧ (rowAt (FE lo hi er l m) (i : Int).toNat).length = 2) = true := by
    rw [Int.toNat_natCast, FE_at h, FE_len]; exact decide_eq_true ⟨by omega, by omega, rfl⟩
  unfold ixK; rw [this]
theorem FE_ld0 {m i : Nat} (h : i < m) {f : Int → Option α} : ldK (FE lo hi er l m) (Int.toNat (i : Int)) 0 [.int .i64] f = f (cA lo hi er l (i + 1)) := by
  have : decide ((i : Int).toNat < (FE lo hi er l m).length) = true := by rw [Int.toNat_natCast, FE_len]; exact decide_eq_true h
  unfold ldK; rw [this, Int.toNat_natCast, FE_at h]; rfl
theorem FE_ld1 {m i : Nat} (h : i < m) {f : Int → Option α} : ldK (FE lo hi er l m) (Int.toNat (i : Int)) 1 [.int .i64] f = f (cB lo hi er l (i + 1)) := by
  have : decide ((i : Int).toNat < (FE lo hi er l m).length) = true := by rw [Int.toNat_natCast, FE_len]; exact decide_eq_true h
  unfold ldK; rw [this, Int.toNat_natCast, FE_at h]; rfl

def gA (lo hi er : Int) (l : List (Int × Int)) (m : Nat) : List Int := (List.range m).map fun i => cA lo hi er l (i + 1)
def gB (lo hi er : Int) (l : List (Int × Int)) (m : Nat) : List Int := (List.range m).map fun i => cB lo hi er l (i + 1)
@[simp] theorem gA_len {m : Nat} : (gA lo hi er l m).length = m := by simp [gA]
@[simp] theorem gB_len {m : Nat} : (gB lo hi er l m).length = m := by simp [gB]
theorem gA_succ {m : Nat} : (gA lo hi er l m).map rI1 ++ [[DC.v (.int .i64 (cA lo hi er l (m + 1)))]] = (gA lo hi er l (m + 1)).map rI1 := by simp [gA, List.range_succ]
theorem gB_succ {m : Nat} : (gB lo hi er l m).map rI1 ++ [[DC.v (.int .i64 (cB lo hi er l (m + 1)))]] = (gB lo hi er l (m + 1)).map rI1 := by simp [gB, List.range_succ]

theorem R3_0 (hl : l.length ≤ 40) {k1 : Int → Bool → Rows → Rows → Option α} {fin : Rows → Rows → Option α} (hk : ∀ a b c d, k1 a b c d = fin c d) : ∀ (m i n : Nat), i + m = l.length → m < n →
    R3_0_0 α (FE lo hi er l l.length) k1 n (i : Int) ((gA lo hi er l i).map rI1) ((gB lo hi er l i).map rI1) = fin ((gA lo hi er l l.length).map rI1) ((gB lo hi er l l.length).map rI1) := by
  intro m
  induction m with
  | zero =>
    intro i n h1 h2
    obtain ⟨n, rfl⟩ : ∃ k, n = k + 1 := ⟨n - 1, by omega⟩
    have : ¬ ((i : Int) < ((l.length : Nat) : Int)) := by omega
    simp only [R3_0_0, S3_0_0, S3_0_0g, FE_len, this, decide_false, cK_false, hk]
    rw [show i = l.length by omega]
  | succ m ih =>
    intro i n h1 h2
    obtain ⟨n, rfl⟩ : ∃ k, n = k + 1 := ⟨n - 1, by omega⟩
    have hii : i < l.length := by omega
    have : ((i : Int) < ((l.length : Nat) : Int)) := by omega
    simp only [R3_0_0, S3_0_0, S3_0_0g, FE_len, this, decide_true, cK_true]
    rw [FE_ix hii, FE_ld0 hii, FE_ix hii, FE_ld1 hii, w64_nat hii (by omega), gA_succ, gB_succ]
    rw [show ([[DC.v (.int .i64 (cA lo hi er l (i + 1)))]] : Rows) = [cA lo hi er l (i + 1)].map rI1 from rfl, show ([[DC.v (.int .i64 (cB lo hi er l (i + 1)))]] : Rows) = [cB lo hi er l (i + 1)].map rI1 from rfl]
    rw [apOk_of (enc := rI1) (n := 1) (fun _ => rfl) (by simp; omega) (by simp; omega), gK_true, apOk_of (enc := rI1) (n := 1) (fun _ => rfl) (by simp; omega) (by simp; omega), gK_true]
    exact ih (i + 1) n (by omega) (by omega)

theorem R3_1 (hl : l.length ≤ 40) {g : List Int} (hg : g.length = l.length) (hb : ∀ i, i < l.length → cA lo hi er l (i + 1) ≤ gt1 g i ∧ gt1 g i ≤ cB lo hi er l (i + 1)) {k1 : Option α} {k2 : Int → Bool → Option α} {fin : Option α} (hk : ∀ a b, k2 a b = fin) : ∀ (m i n : Nat), i + m = l.length → m < n →
    R3_0_1 α (g.map rI1) (FE lo hi er l l.length) k1 k2 n (i : Int) = fin := by
  intro m
  induction m with
  | zero =>
    intro i n h1 h2
    obtain ⟨n, rfl⟩ : ∃ k, n = k + 1 := ⟨n - 1, by omega⟩
    have : ¬ ((i : Int) < ((l.length : Nat) : Int)) := by omega
    simp only [R3_0_1, S3_0_1, S3_0_1g, FE_len, this, decide_false, cK_false, hk]
  | succ m ih =>
    intro i n h1 h2
    obtain ⟨n, rfl⟩ : ∃ k, n = k + 1 := ⟨n - 1, by omega⟩
    have hii : i < l.length := by omega
    have : ((i : Int) < ((l.length : Nat) : Int)) := by omega
    have h3 := hb i hii
    simp only [R3_0_1, S3_0_1, S3_0_1g, FE_len, this, decide_true, cK_true, f19_eq]
    rw [rowK_G1 (by omega), FE_ix hii, FE_ld0 hii, FE_ix hii, FE_ld1 hii, w64_nat hii (by omega)]
    simp only [h3.1, h3.2, decide_true, Bool.and_self, Bool.not_true, cK_false]
    exact ih (i + 1) n (by omega) (by omega)

theorem Kp.congr {G G' : Nat → Int} (h : Kp lo hi er l G) (e : ∀ i, i < l.length + 1 → G' i = G i) : Kp lo hi er l G' where
  g0 := by rw [e 0 (by omega)]; exact h.g0
  in_ i hi' := by rw [e (i + 1) (by omega)]; exact h.in_ i hi'
  by_ i hi' := by rw [e (i + 1) (by omega), e i (by omega)]; exact h.by_ i hi'

theorem gA_keeps (t : TrOk lo hi er l) (ho : okF lo hi er l l.length 1 = true) : kpL lo hi er l (gF (gA lo hi er l l.length)) l.length 0 = true := by
  have h := cA_keeps t ho
  refine (kpL_Kp (G := gF _) rfl).2 (h.congr fun i hi' => ?_)
  match i with
  | 0 => exact h.g0.symm
  | i + 1 => have : i < l.length := by omega
             simp [gF, gt1, gA, this]
theorem gB_keeps (t : TrOk lo hi er l) (ho : okF lo hi er l l.length 1 = true) : kpL lo hi er l (gF (gB lo hi er l l.length)) l.length 0 = true := by
  have h := cB_keeps t ho
  refine (kpL_Kp (G := gF _) rfl).2 (h.congr fun i hi' => ?_)
  match i with
  | 0 => exact h.g0.symm
  | i + 1 => have : i < l.length := by omega
             simp [gF, gt1, gB, this]

theorem law3 {g : List Int} {k : Bool → Option α} : f3_0 α lo hi er (l.map rI2) (g.map rI1) k = k true := by
  simp only [f3_0, f3_0g, f14_0, List.length_map]
  by_cases h1 : (12 : Int) < ((l.length : Nat) : Int)
  · simp only [h1, decide_true, cK_true]
  by_cases h2 : (12 : Int) < ((g.length : Nat) : Int)
  · simp only [h2, decide_true, cK_true]
    cases decide ((12 : Int) < ((l.length : Nat) : Int)) <;> rfl
  simp only [h1, h2, decide_false, cK_false, f15_eq]
  by_cases h0 : (ckT lo hi er l).2 = 0
  · have t := ckT_ok h0
    have hl := t.len
    have := fuel_ge
    simp only [h0, bne_self_eq_false, cK_false, f17_eq (show l.length < 1000 by omega), f16_eq t h0]
    by_cases ho : okF lo hi er l l.length 1 = true
    · rw [if_pos ho]
      have hflat : ∀ x : Option α, flatK [FE lo hi er l l.length] x = x := fun x => flatK_map (enc := rI2) (fun _ => rfl)
      rw [hflat]
      simp only [bne_self_eq_false, cK_false, FE_len, L3_0_0]
      refine (R3_0 hl (fin := fun x28 x29 => f18_0 α lo hi er (l.map rI2) x28
                          (fun (x30 : Bool) => cK (!x30)
                            (k false)
                            (f18_0 α lo hi er (l.map rI2) x29
                              (fun (x31 : Bool) => cK (!x31)
                                (k false)
                                (f18_0 α lo hi er (l.map rI2) (g.map rI1)
                                  (fun (x32 : Bool) => cK (!x32)
                                    (k true)
                                    (L3_0_1 α (g.map rI1) (FE lo hi er l l.length)
                                      (k false)
                                      (fun (x40 : Int) (x41 : Bool) => k true) 0))))))) (fun _ _ _ _ => rfl) l.length 0 fuel (by omega) (by omega)).trans ?_
      simp only [f18_eq t, gA_len, gB_len, gA_keeps t ho, gB_keeps t ho, decide_true, Bool.and_self, Bool.not_true, cK_false]
      by_cases hg : g.length = l.length
      · simp only [hg, decide_true, Bool.true_and]
        cases hk : kpL lo hi er l (gF g) l.length 0
        · rfl
        · simp only [Bool.not_true, cK_false, L3_0_1]
          have hK := (kpL_Kp (l := l) (G := gF g) rfl).1 hk
          exact R3_1 hl hg (fun i hi' => hK.c t (i := i + 1) (by omega)) (fun _ _ => rfl) l.length 0 fuel (by omega) (by omega)
      · simp only [hg, decide_false, Bool.false_and, Bool.not_false, cK_true]
    · rw [if_neg ho]
      have hkp : (decide (g.length = l.length) && kpL lo hi er l (gF g) l.length 0) = false := by
        cases hk : kpL lo hi er l (gF g) l.length 0
        · simp
        · exact absurd ((kpL_Kp (l := l) (G := gF g) rfl).1 hk).ok ho
      simp only [f18_eq t, hkp]
      simp [flatK, flatRows]
  · have h0' : ((ckT lo hi er l).2 != 0) = true := by simpa using h0
    simp only [h0', cK_true]

end Go.AM.K
