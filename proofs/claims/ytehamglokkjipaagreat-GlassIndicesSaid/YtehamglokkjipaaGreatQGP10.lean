/- Chapter 2: index and loss at a wavelength, and between two. -/
import Derived.Test.YtehamglokkjipaaGreatQGP9
namespace Go.AM.K
open Ieee
set_option linter.unusedVariables false
set_option linter.unusedSimpArgs false
set_option linter.unusedSectionVars false
variable {α : Type}
def isW (w : Int) : Bool := inB w 1000 200000
theorem isW_iff {w : Int} : isW w = true ↔ 1000 ≤ w ∧ w ≤ 200000 := inB_iff
def covB (lw : List Int) (w : Int) : Bool := inB w (gW lw 0) (gW lw (lw.length - 1))
theorem ck_ok {s : ByteArray} {kd : Int} {lw : List Int} {lx ly : List Nat} {c0 c1 : Int} (h : (ckG s kd lw lx ly c0 c1).2 = 0) : (kd = 1 ∧ TabOk lw lx ly) ∨ (kd ≠ 1 ∧ FrmOk c0 c1) := by
  unfold ckG at h
  split at h
  · cases h
  · split at h
    · rename_i hk; exact .inl ⟨hk, tabE_ok h⟩
    · rename_i hk
      split at h
      · cases h
      · split at h
        · cases h
        · split at h
          · rename_i hc
            rw [inB_iff, inB_iff] at hc
            exact .inr ⟨hk, hc.1.1, hc.1.2, hc.2.1, hc.2.2⟩
          · cases h
section
variable {s : ByteArray} (hs : s.size ≤ 9223372036854775807) {kd : Int} {lw : List Int} {lx ly : List Nat} {c0 c1 : Int} (hw : lw.length ≤ 1000) (hx : lx.length ≤ 1000) (hy : ly.length ≤ 1000)
include hs hw hx hy
theorem f79_eq {k1 : Int → Option α} {k2 : ByteArray → Int → Rows → Rows → Rows → Int → Int → Option α} {k3 : Int → Int → Option α} :
    f79_0 α s kd (lw.map rI1) (lx.map rF) (ly.map rF) c0 c1 k1 k2 k3 = if (ckG s kd lw lx ly c0 c1).2 ≠ 0 then k1 (ckG s kd lw lx ly c0 c1).2 else if kd = 1 then k2 s kd (lw.map rI1) (lx.map rF) (ly.map rF) c0 c1 else k3 c0 c1 := by
  simp only [f79_0, f79_0g, f113_eq hs hw hx hy]
  by_cases h : (ckG s kd lw lx ly c0 c1).2 = 0
  · rw [h, if_neg (fun q => q rfl)]
    simp only [bne_self_eq_false, cK_false]
    by_cases hk : kd = 1
    · rw [if_pos hk, show (kd == 1) = true by simpa using hk, cK_true]
    · rw [if_neg hk, show (kd == 1) = false by simpa using hk, cK_false]
  · rw [if_pos h, show ((ckG s kd lw lx ly c0 c1).2 != 0) = true by simpa using h, cK_true]
theorem f62_E (h : (ckG s kd lw lx ly c0 c1).2 ≠ 0) {w : Int} {k1 : Int → Option α} {k2 : ByteArray → Int → Rows → Rows → Rows → Int → Int → Option α} {k3 : Int → Int → Option α} :
    f62_0 α s kd (lw.map rI1) (lx.map rF) (ly.map rF) c0 c1 w k1 k2 k3 = k1 (ckG s kd lw lx ly c0 c1).2 := by
  simp only [f62_0, f62_0g, J62_0_0, J62_0_0g, f79_eq hs hw hx hy, if_pos h]
  rw [show ((ckG s kd lw lx ly c0 c1).2 != 0) = true by simpa using h, cK_true]
theorem f17_E (h : (ckG s kd lw lx ly c0 c1).2 ≠ 0) {w : Int} {k : Int → Int → Int → Option α} :
    f17_0 α s kd (lw.map rI1) (lx.map rF) (ly.map rF) c0 c1 w k = k 0 0 (ckG s kd lw lx ly c0 c1).2 := by
  simp only [f17_0, f17_0g, J17_0_0, J17_0_0g, f62_E hs hw hx hy h]
  rw [show ((ckG s kd lw lx ly c0 c1).2 != 0) = true by simpa using h, cK_true]
end
section
variable {lw : List Int} {lx ly : List Nat} (h : TabOk lw lx ly)
include h
theorem TabOk.f121 {s : ByteArray} {kd c0 c1 w : Int} {k : Bool → Option α} : f195_0 α s kd (lw.map rI1) (lx.map rF) (ly.map rF) c0 c1 w k = k (covB lw w) := by
  have n0 := h.n0
  have n1 := h.n1
  simp only [f195_0, f195_0g, List.length_map]
  rw [w64_in (n := ((lw.length : Nat) : Int) - 1) (by omega) (by omega), show ((lw.length : Nat) : Int) - 1 = ((lw.length - 1 : Nat) : Int) by omega]
  rw [show (0 : Int) = ((0 : Nat) : Int) from rfl, h.rowW n0, h.rowW (by omega), f51_eq]
  rfl
theorem TabOk.f47 {s : ByteArray} (hs : s.size ≤ 9223372036854775807) {kd c0 c1 w : Int} (hE : (ckG s kd lw lx ly c0 c1).2 = 0) (hk : kd = 1) {k1 : Int → Option α} {k2 : ByteArray → Int → Rows → Rows → Rows → Int → Int → Option α} {k3 : Int → Int → Option α} :
    f62_0 α s kd (lw.map rI1) (lx.map rF) (ly.map rF) c0 c1 w k1 k2 k3 = if isW w = false then k1 2 else if covB lw w = false then k1 17 else k2 s kd (lw.map rI1) (lx.map rF) (ly.map rF) c0 c1 := by
  have n1 := h.n1
  have e1 := h.xl
  have e2 := h.yl
  have hnn : ¬ (ckG s kd lw lx ly c0 c1).2 ≠ 0 := fun q => q hE
  simp only [f62_0, f62_0g, J62_0_0, J62_0_0g, f79_eq hs (show lw.length ≤ 1000 by omega) (show lx.length ≤ 1000 by omega) (show ly.length ≤ 1000 by omega), if_neg hnn, if_pos hk, f80_eq, h.f121]
  unfold isW
  cases inB w 1000 200000 with
  | false => rfl
  | true => cases covB lw w <;> rfl
theorem TabOk.f18 {s : ByteArray} (hs : s.size ≤ 9223372036854775807) {kd c0 c1 w : Int} (hE : (ckG s kd lw lx ly c0 c1).2 = 0) (hk : kd = 1) {k : Int → Int → Int → Option α} :
    f17_0 α s kd (lw.map rI1) (lx.map rF) (ly.map rF) c0 c1 w k = if isW w = false then k 0 0 2 else if covB lw w = false then k 0 0 17 else k (near (atN lw (gV lx) w) (atD lw w)) (near (atN lw (gV ly) w) (atD lw w)) 0 := by
  simp only [f17_0, f17_0g, J17_0_0, J17_0_0g, h.f47 hs hE hk]
  cases ha : isW w with
  | false => rfl
  | true =>
    rw [isW_iff] at ha
    simp only [Bool.true_eq_false, if_false]
    cases covB lw w with
    | false => rfl
    | true =>
      simp only [Bool.true_eq_false, if_false]
      obtain ⟨d1, d2, n1, n2⟩ := h.at_bd (w := w) (by omega) ha.2 h.vx
      obtain ⟨_, _, n3, n4⟩ := h.at_bd (w := w) (by omega) ha.2 h.vy
      rw [h.f119 (by omega) ha.2, f63_eq d1 (by omega) (by omega) (by omega), f63_eq d1 (by omega) (by omega) (by omega)]
end
section
variable {c0 c1 : Int} (h : FrmOk c0 c1)
include h
theorem FrmOk.f47 {s : ByteArray} (hs : s.size ≤ 9223372036854775807) {kd : Int} {lw : List Int} {lx ly : List Nat} (hw : lw.length ≤ 1000) (hx : lx.length ≤ 1000) (hy : ly.length ≤ 1000) {w : Int} (hE : (ckG s kd lw lx ly c0 c1).2 = 0) (hk : kd ≠ 1) {k1 : Int → Option α} {k2 : ByteArray → Int → Rows → Rows → Rows → Int → Int → Option α} {k3 : Int → Int → Option α} :
    f62_0 α s kd (lw.map rI1) (lx.map rF) (ly.map rF) c0 c1 w k1 k2 k3 = if isW w = false then k1 2 else k3 c0 c1 := by
  have hnn : ¬ (ckG s kd lw lx ly c0 c1).2 ≠ 0 := fun q => q hE
  simp only [f62_0, f62_0g, J62_0_0, J62_0_0g, f79_eq hs hw hx hy, if_neg hnn, if_neg hk, f80_eq, f201_0, f201_0g]
  unfold isW
  cases inB w 1000 200000 <;> rfl
theorem FrmOk.f18 {s : ByteArray} (hs : s.size ≤ 9223372036854775807) {kd : Int} {lw : List Int} {lx ly : List Nat} (hw : lw.length ≤ 1000) (hx : lx.length ≤ 1000) (hy : ly.length ≤ 1000) {w : Int} (hE : (ckG s kd lw lx ly c0 c1).2 = 0) (hk : kd ≠ 1) {k : Int → Int → Int → Option α} :
    f17_0 α s kd (lw.map rI1) (lx.map rF) (ly.map rF) c0 c1 w k = if isW w = false then k 0 0 2 else k (near (fN c0 c1 w 1) (w * w)) 0 0 := by
  simp only [f17_0, f17_0g, J17_0_0, J17_0_0g, h.f47 hs hw hx hy hE hk]
  cases ha : isW w with
  | false => rfl
  | true =>
    rw [isW_iff] at ha
    have hq := sqw ha.1 ha.2
    have hb := h.bd ha.1 ha.2 (n := 1) (by decide) (by decide)
    simp only [Bool.true_eq_false, if_false, f199_0, f199_0g]
    rw [h.f129 ha.1 ha.2 (by decide) (by decide), f63_eq (by omega) (by omega) (by omega) (by omega), f63_eq (by decide) (by decide) (by decide) (by decide)]
    rfl
end
end Go.AM.K
