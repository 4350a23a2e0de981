/- Chapter 2: mixtures. -/
import Derived.Test.YtehamglokkjipaaGP2
namespace Go.AM.K
set_option linter.unusedVariables false
set_option linter.unusedSectionVars false
set_option linter.unusedSimpArgs false
variable {α : Type}
def mser (a b s : Int) : Int := s * (b * b) + (10000 - s) * (a * a)
def mpar (a b s : Int) : Int := s * (a * a) + (10000 - s) * (b * b)
def mnum (a b : Int) : Int := (a * a) * (10000 * (b * b))
def mL (a b s : Int) : Int := (isq (mnum a b / mser a b s).toNat : Int)
def mR (a b s : Int) : Int := (isq (mpar a b s / 10000).toNat : Int)
def mH (a b s : Int) : Int := if mR a b s * mR a b s * 10000 < mpar a b s then mR a b s + 1 else mR a b s
structure Mx (a b s : Int) : Prop where
  a1 : 5000 ≤ a
  a2 : a ≤ 80000
  b1 : 5000 ≤ b
  b2 : b ≤ 80000
  s1 : 0 ≤ s
  s2 : s ≤ 10000
theorem le_isq {n q : Int} (hn : 0 ≤ n) (hq : 0 ≤ q) (hq2 : q < 288230376151711744) : n ≤ (isq q.toNat : Int) ↔ n * n ≤ q := by
  obtain ⟨m, rfl⟩ := Int.eq_ofNat_of_zero_le hn
  obtain ⟨p, rfl⟩ := Int.eq_ofNat_of_zero_le hq
  have hp : p < 288230376151711744 := by omega
  have hb := isq_bd hp
  rw [Int.toNat_natCast]
  constructor
  · intro h
    have h' : m ≤ isq p := by omega
    have := Nat.mul_le_mul h' h'
    have h3 : m * m ≤ p := Nat.le_trans this hb.1
    exact_mod_cast h3
  · intro h
    have h' : m * m ≤ p := by exact_mod_cast h
    have := isq_ge hp h'
    omega
section
variable {a b s : Int} (h : Mx a b s)
include h
theorem Mx.sqA : 25000000 ≤ a * a ∧ a * a ≤ 6400000000 := ⟨Int.mul_le_mul h.a1 h.a1 (by decide) (by have := h.a1; omega), Int.mul_le_mul h.a2 h.a2 (by have := h.a1; omega) (by decide)⟩
theorem Mx.sqB : 25000000 ≤ b * b ∧ b * b ≤ 6400000000 := ⟨Int.mul_le_mul h.b1 h.b1 (by decide) (by have := h.b1; omega), Int.mul_le_mul h.b2 h.b2 (by have := h.b1; omega) (by decide)⟩
theorem Mx.terms {X : Int} (h1 : 25000000 ≤ X) (h2 : X ≤ 6400000000) : 25000000 * s ≤ s * X ∧ s * X ≤ 6400000000 * s ∧ 25000000 * (10000 - s) ≤ (10000 - s) * X ∧ (10000 - s) * X ≤ 6400000000 * (10000 - s) := by
  have hs1 := h.s1
  have hs2 := h.s2
  refine ⟨?_, ?_, ?_, ?_⟩
  · rw [Int.mul_comm]; exact Int.mul_le_mul_of_nonneg_left h1 hs1
  · rw [Int.mul_comm 6400000000]; exact Int.mul_le_mul_of_nonneg_left h2 hs1
  · rw [Int.mul_comm]; exact Int.mul_le_mul_of_nonneg_left h1 (by omega)
  · rw [Int.mul_comm 6400000000]; exact Int.mul_le_mul_of_nonneg_left h2 (by omega)
theorem Mx.ser_bd : 250000000000 ≤ mser a b s ∧ mser a b s ≤ 64000000000000 := by
  have := h.terms h.sqA.1 h.sqA.2
  have := h.terms h.sqB.1 h.sqB.2
  unfold mser; omega
theorem Mx.par_bd : 250000000000 ≤ mpar a b s ∧ mpar a b s ≤ 64000000000000 := by
  have := h.terms h.sqA.1 h.sqA.2
  have := h.terms h.sqB.1 h.sqB.2
  unfold mpar; omega
theorem Mx.num_bd : 0 ≤ mnum a b ∧ mnum a b ≤ 409600000000000000000000 := by
  have hA := h.sqA
  have hB := h.sqB
  have := mulB (x := a * a) (y := 10000 * (b * b)) (A := 6400000000) (B := 64000000000000) (by omega) (by omega) (by omega) (by omega)
  exact this
theorem Mx.ser_w : w64 ((w64 ((w64 (s * b)) * b)) + (w64 ((w64 ((w64 (10000 - s)) * a)) * a))) = mser a b s := by
  have hs1 := h.s1; have hs2 := h.s2; have a1 := h.a1; have a2 := h.a2; have b1 := h.b1; have b2 := h.b2
  have p1 := mulB (x := s) (y := b) (A := 10000) (B := 80000) hs1 hs2 (by omega) b2
  have p2 := mulB (x := 10000 - s) (y := a) (A := 10000) (B := 80000) (by omega) (by omega) (by omega) a2
  have t1 := h.terms h.sqA.1 h.sqA.2
  have t2 := h.terms h.sqB.1 h.sqB.2
  rw [w64_in (n := s * b) (by omega) (by omega), w64_in (n := 10000 - s) (by omega) (by omega), w64_in (n := (10000 - s) * a) (by omega) (by omega)]
  rw [Int.mul_assoc, Int.mul_assoc]
  rw [w64_in (n := s * (b * b)) (by omega) (by omega), w64_in (n := (10000 - s) * (a * a)) (by omega) (by omega), w64_in (by omega) (by omega)]
  rfl
theorem Mx.par_w : w64 ((w64 ((w64 (s * a)) * a)) + (w64 ((w64 ((w64 (10000 - s)) * b)) * b))) = mpar a b s := by
  have hs1 := h.s1; have hs2 := h.s2; have a1 := h.a1; have a2 := h.a2; have b1 := h.b1; have b2 := h.b2
  have p1 := mulB (x := s) (y := a) (A := 10000) (B := 80000) hs1 hs2 (by omega) a2
  have p2 := mulB (x := 10000 - s) (y := b) (A := 10000) (B := 80000) (by omega) (by omega) (by omega) b2
  have t1 := h.terms h.sqA.1 h.sqA.2
  have t2 := h.terms h.sqB.1 h.sqB.2
  rw [w64_in (n := s * a) (by omega) (by omega), w64_in (n := 10000 - s) (by omega) (by omega), w64_in (n := (10000 - s) * b) (by omega) (by omega)]
  rw [Int.mul_assoc, Int.mul_assoc]
  rw [w64_in (n := s * (a * a)) (by omega) (by omega), w64_in (n := (10000 - s) * (b * b)) (by omega) (by omega), w64_in (by omega) (by omega)]
  rfl
theorem Mx.L_iff {n : Int} (hn : 0 ≤ n) : n ≤ mL a b s ↔ n * n * mser a b s ≤ mnum a b := by
  have h1 := h.ser_bd
  have h2 := h.num_bd
  have hq : 0 ≤ mnum a b / mser a b s := Int.ediv_nonneg h2.1 (by omega)
  have hq2 : mnum a b / mser a b s < 2000000000000 := by
    rw [Int.ediv_lt_iff_lt_mul (by omega)]
    omega
  unfold mL
  rw [le_isq hn hq (by omega), Int.le_ediv_iff_mul_le (by omega)]
theorem Mx.L0 : 0 ≤ mL a b s := by unfold mL; omega
theorem Mx.R_iff {n : Int} (hn : 0 ≤ n) : n ≤ mR a b s ↔ n * n * 10000 ≤ mpar a b s := by
  have h1 := h.par_bd
  unfold mR
  rw [le_isq hn (by omega) (by omega), Int.le_ediv_iff_mul_le (by decide)]
theorem Mx.R_bd : 5000 ≤ mR a b s ∧ mR a b s ≤ 80000 := by
  have h1 := h.par_bd
  refine ⟨(h.R_iff (by decide)).2 (by omega), ?_⟩
  apply Int.not_lt.1
  intro hx
  have := (h.R_iff (n := 80001) (by decide)).1 (by omega)
  omega
theorem Mx.H_iff {n : Int} (hn : 0 ≤ n) : n < mH a b s ↔ 10000 * n * n < mpar a b s := by
  have hR := h.R_bd
  have e1 : 10000 * n * n = n * n * 10000 := by rw [Int.mul_assoc, Int.mul_comm]
  rw [e1]
  have r0 := (h.R_iff (n := mR a b s) (by omega)).1 (Int.le_refl _)
  have r1 : ¬ (mR a b s + 1) * (mR a b s + 1) * 10000 ≤ mpar a b s := fun hx => by
    have := (h.R_iff (n := mR a b s + 1) (by omega)).2 hx
    omega
  unfold mH
  split
  · rename_i hlt
    constructor
    · intro hx
      have := Int.mul_le_mul (show n ≤ mR a b s by omega) (show n ≤ mR a b s by omega) hn (by omega)
      omega
    · intro hx
      apply Int.not_le.1
      intro hy
      have := Int.mul_le_mul hy hy (by omega) hn
      omega
  · rename_i hlt
    constructor
    · intro hx
      have := Int.mul_le_mul (show n ≤ mR a b s - 1 by omega) (show n ≤ mR a b s - 1 by omega) hn (by omega)
      have e2 : (mR a b s - 1) * (mR a b s - 1) = mR a b s * mR a b s - 2 * mR a b s + 1 := by
        rw [Int.sub_mul, Int.mul_sub]; omega
      omega
    · intro hx
      apply Int.not_le.1
      intro hy
      have := Int.mul_le_mul hy hy (by omega) hn
      omega
theorem Mx.H_bd : 1 ≤ mH a b s ∧ mH a b s ≤ 80000 := by
  have hR := h.R_bd
  have h1 := h.par_bd
  refine ⟨by unfold mH; split <;> omega, ?_⟩
  apply Int.not_lt.1
  intro hx
  have := (h.H_iff (n := 80000) (by decide)).1 hx
  omega
theorem Mx.f12 {k : Int → Int → Int → Option α} : f12_0 α a b s k = k (if 80000 < mL a b s then 80000 else mL a b s) (mH a b s) 0 := by
  have hs1 := h.s1; have hs2 := h.s2; have a1 := h.a1; have a2 := h.a2; have b1 := h.b1; have b2 := h.b2
  have hA := h.sqA
  have hB := h.sqB
  have hser := h.ser_bd
  have hpar := h.par_bd
  have hf := fuel_ge
  simp only [f12_0, f12_0g]
  rw [show [[DC.v (.int .i64 a)], [DC.v (.int .i64 b)]] = [a, b].map rI1 from rfl, f33_eq (by simp)]
  have hall : [a, b].all (fun x => inB x 5000 80000) = true := by simp [inB]; omega
  rw [hall, if_pos rfl]
  simp only [bne_self_eq_false, cK_false]
  rw [f34_eq, show inB s 0 10000 = true by simp [inB]; omega, Bool.not_true, cK_false, h.ser_w, h.par_w]
  simp only [f35_0, f35_0g, L35_0_0]
  rw [R35_0_eq (L := mL a b s) (y := fun x6 => f35_1 α 80000 (mpar a b s) (fun x7 => k x6 (w64 (1 + x7)) 0)) (fun _ _ _ => rfl) (fun n k' hn hn2 => ?_) 80000 fuel 0 80000 (by decide) h.L0 (by decide) (by decide) (by decide) (by omega)]
  · simp only [f35_1, f35_1g, L35_1_0]
    have hH := h.H_bd
    rw [R35_1_eq (L := mH a b s - 1) (y := fun x7 => k (if 80000 < mL a b s then 80000 else mL a b s) (w64 (1 + x7)) 0) (fun _ _ _ => rfl) (fun n k' hn hn2 => .inl ?_) 80000 fuel 0 80000 (by decide) (by omega) (by decide) (by decide) (by decide) (by omega)]
    · rw [show (if 80000 < mH a b s - 1 then 80000 else mH a b s - 1) = mH a b s - 1 by rw [if_neg (by omega)], w64_in (by omega) (by omega), show 1 + (mH a b s - 1) = mH a b s by omega]
    · simp only [f38_0, f38_0g]
      have hnn := mulB hn hn2 hn hn2
      rw [w64_in (n := 10000 * n) (by omega) (by omega), Int.mul_assoc, w64_in (by omega) (by omega), ← Int.mul_assoc]
      have := h.H_iff hn
      congr 1
      exact decide_eq_decide.2 (by omega)
  · simp only [f36_0, f36_0g]
    have hnn := mulB hn hn2 hn hn2
    rw [w64_in (n := n * n) (by omega) (by omega), w64_in (n := a * a) (by omega) (by omega), w64_in (n := 10000 * b) (by omega) (by omega), Int.mul_assoc, w64_in (n := 10000 * (b * b)) (by omega) (by omega)]
    rw [f37_eq (by omega) (by omega) (by omega) (by omega) (by omega) (by omega) (by omega) (by omega)]
    have := h.L_iff hn
    congr 1
    refine decide_eq_decide.2 (Iff.trans ?_ this.symm)
    unfold mnum
    split
    · constructor <;> intro _ <;> omega
    · split <;> omega
theorem R14_eq {k : Int → Int → Bool → Option α} {y : Int → Option α} (hk : ∀ p q r, k p q r = y p) : ∀ (j f : Nat) (lo hi : Int), 0 ≤ lo → lo ≤ mL a b s → lo < hi → hi ≤ 80001 → (hi = 80001 ∨ mL a b s < hi) → hi - lo ≤ (j : Int) → j < f →
    R14_0_1 α a b (mser a b s) k f lo hi = y (if 80000 < mL a b s then 80000 else mL a b s) := by
  intro j
  induction j with
  | zero => intro f lo hi _ _ _ _ _ hj; omega
  | succ j ih =>
    intro f lo hi h0 hL h1 h2 h3 hj hf
    obtain ⟨f, rfl⟩ : ∃ q, f = q + 1 := ⟨f - 1, by omega⟩
    simp only [R14_0_1, S14_0_1, S14_0_1g]
    have a1 := h.a1; have a2 := h.a2; have b1 := h.b1; have b2 := h.b2
    have hA := h.sqA
    have hB := h.sqB
    have hser := h.ser_bd
    rw [w64_in (n := hi - lo) (by omega) (by omega), w64_in (n := lo + hi) (by omega) (by omega), tdiv_pos (by omega), w64_in (n := (lo + hi) / 2) (by omega) (by omega)]
    by_cases hlt : 1 < hi - lo
    · rw [decide_eq_true hlt, cK_true]
      have hm0 : 0 ≤ (lo + hi) / 2 := by omega
      have hm1 : (lo + hi) / 2 ≤ 80000 := by omega
      generalize hm : (lo + hi) / 2 = m at *
      have hnn := mulB hm0 hm1 hm0 hm1
      rw [w64_in (n := m * m) (by omega) (by omega), w64_in (n := b * b) (by omega) (by omega), w64_in (n := 10000 * a) (by omega) (by omega), Int.mul_assoc, w64_in (n := 10000 * (a * a)) (by omega) (by omega)]
      rw [f41_eq (by omega) (by omega) (by omega) (by omega) (by omega) (by omega) (by omega) (by omega), cK_dec]
      have hiff := h.L_iff hm0
      have hc : cmpI (m * m * mser a b s) (10000 * (a * a) * (b * b)) ≤ 0 ↔ m ≤ mL a b s := by
        rw [hiff]
        have e : 10000 * (a * a) * (b * b) = mnum a b := by
          unfold mnum
          rw [Int.mul_assoc, Int.mul_left_comm]
        rw [e]
        unfold cmpI
        split
        · constructor <;> intro _ <;> omega
        · split <;> omega
      by_cases hx : m ≤ mL a b s
      · rw [if_pos (hc.2 hx), ih f m hi (by omega) hx (by omega) h2 h3 (by omega) (by omega)]
      · rw [if_neg (fun hq => hx (hc.1 hq)), ih f lo m h0 hL (by omega) (by omega) (.inr (by omega)) (by omega) (by omega)]
    · rw [decide_eq_false hlt, cK_false, hk]
      congr 1
      split <;> omega
theorem Mx.f14 {k : Int → Int → Int → Option α} : f14_0 α a b s k = k (if 80000 < mL a b s then 80000 else mL a b s) (mH a b s) 0 := by
  have hs1 := h.s1; have hs2 := h.s2; have a1 := h.a1; have a2 := h.a2; have b1 := h.b1; have b2 := h.b2
  have hpar := h.par_bd
  have hf := fuel_ge
  have hL0 := h.L0
  simp only [f14_0, f14_0g, J14_0_0, J14_0_0g]
  rw [f40_eq, show inB a 5000 80000 = true by simp [inB]; omega]
  simp only [Bool.not_true, cK_false]
  rw [f40_eq, show inB b 5000 80000 = true by simp [inB]; omega]
  simp only [Bool.not_true, cK_false]
  rw [f16_eq, show inB s 0 10000 = true by simp [inB]; omega]
  simp only [Bool.not_true, cK_false]
  rw [h.ser_w, h.par_w]
  simp only [L14_0_1]
  have hR := h.R_bd
  have hRR := mulB (show 0 ≤ mR a b s by omega) hR.2 (show 0 ≤ mR a b s by omega) hR.2
  have hfin : ∀ x25 : Int, f43_0 α (mpar a b s) 10000 (fun x29 => f42_0 α x29 (fun x30 => cK (decide ((w64 ((w64 (x30 * x30)) * 10000)) < mpar a b s)) (k x25 (w64 (x30 + 1)) 0) (k x25 x30 0))) = k x25 (mH a b s) 0 := by
    intro x25
    rw [f43_eq (by decide) (by decide) (by omega) (by omega)]
    obtain ⟨q, hq⟩ := Int.eq_ofNat_of_zero_le (show 0 ≤ mpar a b s / 10000 by omega)
    have hmr : mR a b s = (isq q : Int) := by unfold mR; rw [hq, Int.toNat_natCast]
    rw [hq, f42_eq (by omega), ← hmr]
    rw [w64_in (n := mR a b s * mR a b s) (by omega) (by omega), w64_in (n := mR a b s * mR a b s * 10000) (by omega) (by omega), w64_in (n := mR a b s + 1) (by omega) (by omega), cK_dec]
    unfold mH
    split <;> rfl
  rw [R14_eq h (y := fun x25 => k x25 (mH a b s) 0) (fun p q r => hfin p) 80001 fuel 0 80001 (by decide) hL0 (by decide) (by decide) (.inl rfl) (by decide) (by omega)]
end
theorem bad12 {a b s : Int} (h : ¬ Mx a b s) {k : Int → Int → Int → Option α} : f12_0 α a b s k = k 0 0 2 := by
  simp only [f12_0, f12_0g]
  rw [show [[DC.v (.int .i64 a)], [DC.v (.int .i64 b)]] = [a, b].map rI1 from rfl, f33_eq (by simp)]
  split
  · rename_i hall
    simp only [bne_self_eq_false, cK_false]
    rw [f34_eq, show inB s 0 10000 = false by
      cases hs : inB s 0 10000 with
      | false => rfl
      | true =>
        simp [inB] at hs hall
        exact absurd ⟨by omega, by omega, by omega, by omega, by omega, by omega⟩ h]
    rfl
  · rfl
theorem bad14 {a b s : Int} (h : ¬ Mx a b s) {k : Int → Int → Int → Option α} : f14_0 α a b s k = k 0 0 2 := by
  simp only [f14_0, f14_0g, J14_0_0, J14_0_0g]
  rw [f40_eq, f40_eq, f16_eq]
  cases h1 : inB a 5000 80000 with
  | false => rfl
  | true => cases h2 : inB b 5000 80000 with
    | false => rfl
    | true => cases h3 : inB s 0 10000 with
      | false => rfl
      | true =>
        rw [inB_iff] at h1 h2 h3
        exact absurd ⟨h1.1, h1.2, h2.1, h2.2, h3.1, h3.2⟩ h
end Go.AM.K
