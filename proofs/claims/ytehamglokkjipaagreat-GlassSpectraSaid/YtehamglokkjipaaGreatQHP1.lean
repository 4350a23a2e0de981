/- Chapter 2, as the document says it: rows, exact quotients, enclosures. -/
import Derived.Test.YtehamglokkjipaaGreatQGP10
namespace Go.AM.K
open Ieee
set_option linter.unusedVariables false
set_option linter.unusedSimpArgs false
set_option linter.unusedSectionVars false
variable {α : Type}
def rowGo (lw : List Int) (wave : Int) : Nat → Nat → Nat
  | 0, i => i
  | m + 1, i => if i + 1 < lw.length ∧ gW lw (i + 1) ≤ wave then rowGo lw wave m (i + 1) else i
def rowI (lw : List Int) (wave : Int) : Nat := rowGo lw wave lw.length 0
theorem rowGo_spec {lw : List Int} {wave : Int} : ∀ (m i : Nat), lw.length ≤ i + m → i < lw.length → (i = 0 ∨ gW lw i ≤ wave) →
    rowGo lw wave m i < lw.length ∧ (rowGo lw wave m i = 0 ∨ gW lw (rowGo lw wave m i) ≤ wave) ∧ (rowGo lw wave m i + 1 = lw.length ∨ wave < gW lw (rowGo lw wave m i + 1))
  | 0, i, h, hl, hi => by omega
  | m + 1, i, h, hl, hi => by
    simp only [rowGo]
    split
    · rename_i hc
      exact rowGo_spec m (i + 1) (by omega) hc.1 (.inr hc.2)
    · rename_i hc
      refine ⟨hl, hi, ?_⟩
      by_cases h2 : i + 1 < lw.length
      · exact .inr (Int.not_le.1 fun hx => hc ⟨h2, hx⟩)
      · exact .inl (by omega)
def exN (lw : List Int) (v : Nat → Int) (w : Int) : Int := if gW lw (rowI lw w) = w then v (rowI lw w) else
  v (rowI lw w) * (gW lw (rowI lw w + 1) - gW lw (rowI lw w) - (w - gW lw (rowI lw w))) + v (rowI lw w + 1) * (w - gW lw (rowI lw w))
def exD (lw : List Int) (w : Int) : Int := if gW lw (rowI lw w) = w then 1 else gW lw (rowI lw w + 1) - gW lw (rowI lw w)
section
variable {lw : List Int} {lx ly : List Nat} (h : TabOk lw lx ly)
include h
theorem TabOk.row_sp {w : Int} (h1 : gW lw 0 ≤ w) (h2 : w ≤ gW lw (lw.length - 1)) : rowI lw w < lw.length ∧ gW lw (rowI lw w) ≤ w ∧ (gW lw (rowI lw w) ≠ w → rowI lw w + 1 < lw.length ∧ w < gW lw (rowI lw w + 1)) ∧ (rowI lw w + 1 = lw.length ∨ w < gW lw (rowI lw w + 1)) := by
  have sp := rowGo_spec (lw := lw) (wave := w) lw.length 0 (by omega) h.n0 (.inl rfl)
  change rowI lw w < lw.length ∧ (rowI lw w = 0 ∨ gW lw (rowI lw w) ≤ w) ∧ (rowI lw w + 1 = lw.length ∨ w < gW lw (rowI lw w + 1)) at sp
  have hle : gW lw (rowI lw w) ≤ w := by
    rcases sp.2.1 with e | e
    · rw [e]; exact h1
    · exact e
  refine ⟨sp.1, hle, fun hne => ?_, sp.2.2⟩
  rcases sp.2.2 with e | e
  · exfalso
    have : rowI lw w = lw.length - 1 := by omega
    rw [this] at hle hne; omega
  · refine ⟨?_, e⟩
    apply Nat.lt_of_le_of_ne sp.1
    intro he
    have : rowI lw w = lw.length - 1 := by omega
    rw [this] at hle hne; omega
theorem TabOk.same {w : Int} (h1 : gW lw 0 ≤ w) (h2 : w ≤ gW lw (lw.length - 1)) (v : Nat → Int) : atN lw v w * exD lw w = exN lw v w * atD lw w := by
  obtain ⟨hr, hle, hne, hnx⟩ := h.row_sp h1 h2
  have sp := segGo_spec (lw := lw) (wave := w) lw.length 0 (by omega) (.inl rfl)
  change (seg lw w = 0 ∨ (gW lw (seg lw w) ≤ w ∧ seg lw w + 2 ≤ lw.length)) ∧ (lw.length ≤ seg lw w + 2 ∨ w < gW lw (seg lw w + 1)) at sp
  have hlt := h.seg_lt (wave := w)
  unfold atN atD exN exD
  by_cases hn : lw.length = 1
  · have hr0 : rowI lw w = 0 := by omega
    have hw : gW lw 0 = w := by rw [hn] at h2; simp at h2; omega
    rw [if_pos hn, if_pos hn, hr0, if_pos hw, if_pos hw]
  · rw [if_neg hn, if_neg hn]
    by_cases he : gW lw (rowI lw w) = w
    · rw [if_pos he, if_pos he, Int.mul_one]
      by_cases e : seg lw w = rowI lw w
      · unfold qN qD
        rw [e, he, Int.sub_self, Int.mul_zero, Int.add_zero]
      · by_cases e2 : seg lw w < rowI lw w
        · have e3 : seg lw w + 1 = rowI lw w := by
            rcases sp.2 with q | q
            · omega
            · by_cases e4 : seg lw w + 1 = rowI lw w
              · exact e4
              · have := h.lt (show seg lw w + 1 < rowI lw w by omega) hr; omega
          unfold qN qD
          rw [e3, he, ← Int.add_mul]
          congr 1; omega
        · exfalso
          have q := sp.1.resolve_left (by omega)
          have := h.lt (show rowI lw w < seg lw w by omega) hlt; omega
    · obtain ⟨hr1, hw⟩ := hne he
      rw [if_neg he, if_neg he]
      have e : seg lw w = rowI lw w := by
        by_cases e2 : seg lw w < rowI lw w
        · exfalso
          have q := sp.2.resolve_left (by omega)
          by_cases e4 : seg lw w + 1 = rowI lw w
          · rw [e4] at q; omega
          · have := h.lt (show seg lw w + 1 < rowI lw w by omega) hr; omega
        · by_cases e3 : seg lw w = rowI lw w
          · exact e3
          · exfalso
            have q := sp.1.resolve_left (by omega)
            by_cases e4 : rowI lw w + 1 = seg lw w
            · rw [← e4] at q; omega
            · have := h.lt (show rowI lw w + 1 < seg lw w by omega) hlt; omega
      unfold qN qD
      rw [e]
      congr 1
      rw [Int.mul_sub (v (rowI lw w)) (gW lw (rowI lw w + 1) - gW lw (rowI lw w)) (w - gW lw (rowI lw w)), Int.sub_mul (v (rowI lw w + 1)) (v (rowI lw w)) (w - gW lw (rowI lw w))]
      omega
end
end Go.AM.K
