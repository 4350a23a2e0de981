/- Chapter 2: tables: the rows around a wavelength, and what is told there. -/
import Derived.Test.YtehamglokkjipaaGreatQGP7
namespace Go.AM.K
open Ieee
set_option linter.unusedVariables false
set_option linter.unusedSimpArgs false
set_option linter.unusedSectionVars false
variable {α : Type}
def gW (lw : List Int) (i : Nat) : Int := lw.getD i 0
def gV (lx : List Nat) (i : Nat) : Int := (wv (lx.getD i 0)).getD 0
structure TabOk (lw : List Int) (lx ly : List Nat) : Prop where
  n0 : 0 < lw.length
  n1 : lw.length ≤ 64
  xl : lx.length = lw.length
  yl : ly.length = lw.length
  w : ∀ i, i < lw.length → 1000 ≤ gW lw i ∧ gW lw i ≤ 200000
  x : ∀ i, i < lw.length → wv (lx.getD i 0) = some (gV lx i) ∧ 5000 ≤ gV lx i ∧ gV lx i ≤ 80000
  y : ∀ i, i < lw.length → wv (ly.getD i 0) = some (gV ly i) ∧ 0 ≤ gV ly i ∧ gV ly i ≤ 80000
  up : ∀ i, i + 1 < lw.length → gW lw i < gW lw (i + 1)
def segGo (lw : List Int) (wave : Int) : Nat → Nat → Nat
  | 0, i => i
  | m + 1, i => if i + 2 < lw.length ∧ gW lw (i + 1) ≤ wave then segGo lw wave m (i + 1) else i
def seg (lw : List Int) (wave : Int) : Nat := segGo lw wave lw.length 0
theorem segGo_spec {lw : List Int} {wave : Int} : ∀ (m i : Nat), lw.length ≤ i + m → (i = 0 ∨ (gW lw i ≤ wave ∧ i + 2 ≤ lw.length)) → 
    (segGo lw wave m i = 0 ∨ (gW lw (segGo lw wave m i) ≤ wave ∧ segGo lw wave m i + 2 ≤ lw.length)) ∧ (lw.length ≤ segGo lw wave m i + 2 ∨ wave < gW lw (segGo lw wave m i + 1))
  | 0, i, h, hi => by
    simp only [segGo]
    exact ⟨hi, .inl (by omega)⟩
  | m + 1, i, h, hi => by
    simp only [segGo]
    split
    · rename_i hc
      exact segGo_spec m (i + 1) (by omega) (.inr ⟨hc.2, by omega⟩)
    · rename_i hc
      refine ⟨hi, ?_⟩
      by_cases h2 : i + 2 < lw.length
      · exact .inr (Int.not_le.1 fun hx => hc ⟨h2, hx⟩)
      · exact .inl (by omega)
section
variable {lw : List Int} {lx ly : List Nat} (h : TabOk lw lx ly)
include h
theorem TabOk.seg_lt {wave : Int} : seg lw wave < lw.length := by
  have := (segGo_spec (lw := lw) (wave := wave) lw.length 0 (by omega) (.inl rfl)).1
  have := h.n0
  unfold seg; omega
def qN (lw : List Int) (v : Nat → Int) (j : Nat) (wave : Int) : Int := v j * (gW lw (j + 1) - gW lw j) + (v (j + 1) - v j) * (wave - gW lw j)
def qD (lw : List Int) (j : Nat) : Int := gW lw (j + 1) - gW lw j
def atN (lw : List Int) (v : Nat → Int) (wave : Int) : Int := if lw.length = 1 then v 0 else qN lw v (seg lw wave) wave
def atD (lw : List Int) (wave : Int) : Int := if lw.length = 1 then 1 else qD lw (seg lw wave)
theorem TabOk.mono : ∀ (d i : Nat), i + d + 1 < lw.length → gW lw i < gW lw (i + d + 1)
  | 0, i, hi => h.up i hi
  | d + 1, i, hi => by
    have := TabOk.mono d i (by omega)
    have := h.up (i + d + 1) (by omega)
    rw [show i + (d + 1) + 1 = i + d + 1 + 1 by omega]
    omega
theorem TabOk.lt {i j : Nat} (hij : i < j) (hj : j < lw.length) : gW lw i < gW lw j := by
  have := h.mono (j - i - 1) i (by omega)
  rwa [show i + (j - i - 1) + 1 = j by omega] at this
theorem TabOk.D0 {j : Nat} (hj : j + 1 < lw.length) : 0 < qD lw j := by
  have := h.up j hj; unfold qD; omega
theorem TabOk.line (hn : lw.length ≠ 1) {j : Nat} (hj : j + 1 < lw.length) {w : Int} (h1 : gW lw j ≤ w) (h2 : w ≤ gW lw (j + 1)) (v : Nat → Int) :
    atN lw v w / atD lw w = qN lw v j w / qD lw j ∧ cdv (atN lw v w) (atD lw w) = cdv (qN lw v j w) (qD lw j) := by
  have sp := segGo_spec (lw := lw) (wave := w) lw.length 0 (by omega) (.inl rfl)
  change (seg lw w = 0 ∨ (gW lw (seg lw w) ≤ w ∧ seg lw w + 2 ≤ lw.length)) ∧ (lw.length ≤ seg lw w + 2 ∨ w < gW lw (seg lw w + 1)) at sp
  have hlt := h.seg_lt (wave := w)
  unfold atN atD
  rw [if_neg hn, if_neg hn]
  by_cases e : seg lw w = j
  · rw [e]; exact ⟨rfl, rfl⟩
  · by_cases e2 : seg lw w < j
    · exfalso
      have h3 : w < gW lw (seg lw w + 1) := sp.2.resolve_left (by omega)
      by_cases e3 : seg lw w + 1 = j
      · rw [e3] at h3; omega
      · have := h.lt (show seg lw w + 1 < j by omega) (by omega); omega
    · have h3 := sp.1.resolve_left (by omega)
      have hw : w = gW lw (j + 1) ∧ seg lw w = j + 1 := by
        by_cases e3 : seg lw w = j + 1
        · rw [e3] at h3; exact ⟨by omega, e3⟩
        · exfalso
          have := h.lt (show j + 1 < seg lw w by omega) (by omega); omega
      obtain ⟨hw1, hw2⟩ := hw
      have hD := h.D0 hj
      have hD2 := h.D0 (show j + 1 + 1 < lw.length by omega)
      have q1 : qN lw v (seg lw w) w = v (j + 1) * qD lw (j + 1) := by
        rw [hw2, hw1]; unfold qN qD; rw [Int.sub_self, Int.mul_zero, Int.add_zero]
      have q2 : qN lw v j w = v (j + 1) * qD lw j := by
        rw [hw1]; unfold qN qD
        rw [← Int.add_mul]
        congr 1; omega
      rw [q1, q2, hw2]
      unfold cdv
      rw [Int.mul_ediv_cancel _ (by omega), Int.mul_ediv_cancel _ (by omega), ← Int.neg_mul, ← Int.neg_mul, Int.mul_ediv_cancel _ (by omega), Int.mul_ediv_cancel _ (by omega)]
      exact ⟨rfl, rfl⟩
theorem TabOk.in_seg (hn : lw.length ≠ 1) {w : Int} (h1 : gW lw 0 ≤ w) (h2 : w ≤ gW lw (lw.length - 1)) : ∃ j, j + 1 < lw.length ∧ gW lw j ≤ w ∧ w ≤ gW lw (j + 1) := by
  have sp := segGo_spec (lw := lw) (wave := w) lw.length 0 (by omega) (.inl rfl)
  change (seg lw w = 0 ∨ (gW lw (seg lw w) ≤ w ∧ seg lw w + 2 ≤ lw.length)) ∧ (lw.length ≤ seg lw w + 2 ∨ w < gW lw (seg lw w + 1)) at sp
  have hlt := h.seg_lt (wave := w)
  have hn0 := h.n0
  refine ⟨seg lw w, by omega, ?_, ?_⟩
  · rcases sp.1 with e | e
    · rw [e]; exact h1
    · exact e.1
  · rcases sp.2 with e | e
    · have : seg lw w + 1 = lw.length - 1 := by omega
      rw [this]; exact h2
    · omega
theorem TabOk.conv {j : Nat} (hj : j + 1 < lw.length) {u w z : Int} (h1 : u ≤ w) (h2 : w ≤ z) (v : Nat → Int) :
    (qN lw v j u ≤ qN lw v j w ∨ qN lw v j z ≤ qN lw v j w) ∧ (qN lw v j w ≤ qN lw v j u ∨ qN lw v j w ≤ qN lw v j z) := by
  unfold qN
  by_cases hs : 0 ≤ v (j + 1) - v j
  · have a := Int.mul_le_mul_of_nonneg_left (show u - gW lw j ≤ w - gW lw j by omega) hs
    have b := Int.mul_le_mul_of_nonneg_left (show w - gW lw j ≤ z - gW lw j by omega) hs
    exact ⟨.inl (by omega), .inr (by omega)⟩
  · have a := Int.mul_le_mul_of_nonpos_left (show v (j + 1) - v j ≤ 0 by omega) (show u - gW lw j ≤ w - gW lw j by omega)
    have b := Int.mul_le_mul_of_nonpos_left (show v (j + 1) - v j ≤ 0 by omega) (show w - gW lw j ≤ z - gW lw j by omega)
    exact ⟨.inr (by omega), .inl (by omega)⟩
end
def flo (lw : List Int) (v : Nat → Int) (w : Int) : Int := atN lw v w / atD lw w
def cei (lw : List Int) (v : Nat → Int) (w : Int) : Int := cdv (atN lw v w) (atD lw w)
theorem cdv_mono {n m d : Int} (hd : 0 < d) (h : n ≤ m) : cdv n d ≤ cdv m d := by
  unfold cdv
  have := Int.ediv_le_ediv hd (show -m ≤ -n by omega)
  omega
theorem TabOk.between {lw : List Int} {lx ly : List Nat} (h : TabOk lw lx ly) {lo hi w : Int} (h1 : gW lw 0 ≤ lo) (h2 : lo ≤ w) (h3 : w ≤ hi) (h4 : hi ≤ gW lw (lw.length - 1)) (v : Nat → Int) :
    ∃ a b, (a = lo ∨ (lo ≤ a ∧ a ≤ hi ∧ ∃ i, i < lw.length ∧ a = gW lw i)) ∧ (b = hi ∨ (lo ≤ b ∧ b ≤ hi ∧ ∃ i, i < lw.length ∧ b = gW lw i)) ∧
      (flo lw v a ≤ flo lw v w ∨ flo lw v b ≤ flo lw v w) ∧ (cei lw v w ≤ cei lw v a ∨ cei lw v w ≤ cei lw v b) := by
  by_cases hn : lw.length = 1
  · refine ⟨lo, hi, .inl rfl, .inl rfl, .inl ?_, .inl ?_⟩
    · unfold flo atN atD; simp [hn]
    · unfold cei atN atD; simp [hn]
  · obtain ⟨j, hj, g1, g2⟩ := h.in_seg hn (w := w) (by omega) (by omega)
    have hD := h.D0 hj
    obtain ⟨a, ha⟩ : ∃ a, a = if lo ≤ gW lw j then gW lw j else lo := ⟨_, rfl⟩
    obtain ⟨b, hb⟩ : ∃ b, b = if gW lw (j + 1) ≤ hi then gW lw (j + 1) else hi := ⟨_, rfl⟩
    have a1 : gW lw j ≤ a ∧ a ≤ w := by rw [ha]; split <;> omega
    have b1 : w ≤ b ∧ b ≤ gW lw (j + 1) := by rw [hb]; split <;> omega
    refine ⟨a, b, ?_, ?_, ?_, ?_⟩
    · rw [ha]; split
      · exact .inr ⟨by omega, by omega, j, by omega, rfl⟩
      · exact .inl rfl
    · rw [hb]; split
      · exact .inr ⟨by omega, by omega, j + 1, hj, rfl⟩
      · exact .inl rfl
    all_goals
      obtain ⟨la, ca⟩ := h.line hn hj (w := a) (by omega) (by omega) v
      obtain ⟨lb, cb⟩ := h.line hn hj (w := b) (by omega) (by omega) v
      obtain ⟨l0, c0⟩ := h.line hn hj (w := w) g1 g2 v
      obtain ⟨q1, q2⟩ := h.conv hj (u := a) (w := w) (z := b) (by omega) (by omega) v
      simp only [flo, cei, la, lb, l0, ca, cb, c0]
    · rcases q1 with q | q
      · exact .inl (Int.ediv_le_ediv hD q)
      · exact .inr (Int.ediv_le_ediv hD q)
    · rcases q2 with q | q
      · exact .inl (cdv_mono hD q)
      · exact .inr (cdv_mono hD q)
end Go.AM.K
