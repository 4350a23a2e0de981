/- Chapter 2: index and loss at a wavelength, and between two. -/
import Derived.Test.YtehamglokkjipaaGreatQGP9
namespace Go.AM.K
open Ieee
set_option linter.unusedVariables false
set_option linter.unusedSimpArgs false
set_option linter.unusedSectionVars false
variable {α : Type}
def isW (w : Int) : Bool := inB w 1000 200000
def covB (lw : List Int) (w : Int) : Bool := inB w (gW lw 0) (gW lw (lw.length - 1))
theorem ck_ok {s : ByteArray} {kd : Int} {lw : List Int} {lx ly : List Nat} {c0 c1 : Int} (h : (ckG s kd lw lx ly c0 c1).2 = 0) : (kd = 1 ∧ TabOk lw lx ly) ∨ (kd ≠ 1 ∧ FrmOk c0 c1) := by
  unfold ckG at h
  split at h
  · cases h
  · split at h
    · rename_i hk; exact .inl ⟨hk, tabE_ok h⟩
    · rename_i hk
      split at h
      · cases h
      · split at h
        · cases h
        · split at h
          · rename_i hc
            rw [inB_iff, inB_iff] at hc
            exact .inr ⟨hk, hc.1.1, hc.1.2, hc.2.1, hc.2.2⟩
          · cases h
section
variable {s : ByteArray} (hs : s.size ≤ 9223372036854775807) {kd : Int} {lw : List Int} {lx ly : List Nat} {c0 c1 : Int} (hw : lw.length ≤ 1000) (hx : lx.length ≤ 1000) (hy : ly.length ≤ 1000)
include hs hw hx hy
theorem f79_eq {k1 : Int → Option α} {k2 : ByteArray → Int → Rows → Rows → Rows → Int → Int → Option α} {k3 : Int → Int → Option α} :
    f79_0 α s kd (lw.map rI1) (lx.map rF) (ly.map rF) c0 c1 k1 k2 k3 = if (ckG s kd lw lx ly c0 c1).2 ≠ 0 then k1 (ckG s kd lw lx ly c0 c1).2 else if kd = 1 then k2 s kd (lw.map rI1) (lx.map rF) (ly.map rF) c0 c1 else k3 c0 c1 := by
  simp only [f79_0, f79_0g, f113_eq hs hw hx hy]
  by_cases h : (ckG s kd lw lx ly c0 c1).2 = 0
  · rw [h, if_neg (fun q => q rfl)]
    simp only [bne_self_eq_false, cK_false]
    by_cases hk : kd = 1
    · rw [if_pos hk, show (kd == 1) = true by simpa using hk, cK_true]
    · rw [if_neg hk, show (kd == 1) = false by simpa using hk, cK_false]
  · rw [if_pos h, show ((ckG s kd lw lx ly c0 c1).2 != 0) = true by simpa using h, cK_true]
theorem f30_E (h : (ckG s kd lw lx ly c0 c1).2 ≠ 0) {lo hi : Int} {k : Int → Int → Int → Int → Int → Option α} : f30_0 α s kd (lw.map rI1) (lx.map rF) (ly.map rF) c0 c1 lo hi k = k 0 0 0 0 (ckG s kd lw lx ly c0 c1).2 := by
  simp only [f30_0, f30_0g, J30_0_0, J30_0_0g, f79_eq hs hw hx hy, if_pos h]
  rw [show ((ckG s kd lw lx ly c0 c1).2 != 0) = true by simpa using h, cK_true]
end
section
variable {lw : List Int} {lx ly : List Nat} (h : TabOk lw lx ly)
include h
theorem TabOk.f121 {s : ByteArray} {kd c0 c1 w : Int} {k : Bool → Option α} : f195_0 α s kd (lw.map rI1) (lx.map rF) (ly.map rF) c0 c1 w k = k (covB lw w) := by
  have n0 := h.n0
  have n1 := h.n1
  simp only [f195_0, f195_0g, List.length_map]
  rw [w64_in (n := ((lw.length : Nat) : Int) - 1) (by omega) (by omega), show ((lw.length : Nat) : Int) - 1 = ((lw.length - 1 : Nat) : Int) by omega]
  rw [show (0 : Int) = ((0 : Nat) : Int) from rfl, h.rowW n0, h.rowW (by omega), f51_eq]
  rfl
theorem TabOk.f17 {s : ByteArray} (hs : s.size ≤ 9223372036854775807) {kd c0 c1 lo hi : Int} (hE : (ckG s kd lw lx ly c0 c1).2 = 0) (hk : kd = 1) {k : Int → Int → Int → Int → Int → Option α} :
    f30_0 α s kd (lw.map rI1) (lx.map rF) (ly.map rF) c0 c1 lo hi k = if ¬ (isW lo = true ∧ isW hi = true) then k 0 0 0 0 2 else if hi < lo then k 0 0 0 0 10 else if ¬ (covB lw lo = true ∧ covB lw hi = true) then k 0 0 0 0 17
      else k (bLo lw (gV lx) lo hi) (bHi lw (gV lx) lo hi) (bLo lw (gV ly) lo hi) (bHi lw (gV ly) lo hi) 0 := by
  have n1 := h.n1
  have e1 := h.xl
  have e2 := h.yl
  have hnn : ¬ (ckG s kd lw lx ly c0 c1).2 ≠ 0 := fun q => q hE
  simp only [f30_0, f30_0g, J30_0_0, J30_0_0g, f79_eq hs (show lw.length ≤ 1000 by omega) (show lx.length ≤ 1000 by omega) (show ly.length ≤ 1000 by omega), if_neg hnn, if_pos hk, J30_0_2, J30_0_2g, f80_eq, h.f121]
  unfold isW
  cases ha : inB lo 1000 200000 with
  | false => simp
  | true => cases hb : inB hi 1000 200000 with
    | false => simp
    | true =>
      rw [inB_iff] at ha hb
      simp only [Bool.not_true, cK_false, and_self, not_true_eq_false, if_false, cK_dec]
      by_cases hlt : hi < lo
      · rw [if_pos hlt, if_pos hlt]
      · rw [if_neg hlt, if_neg hlt]
        cases hc : covB lw lo with
        | false => simp
        | true => cases hd : covB lw hi with
          | false => simp
          | true =>
            simp only [Bool.not_true, cK_false, and_self, not_true_eq_false, if_false]
            rw [h.f120 (by omega) (by omega) (by omega)]
end
section
variable {c0 c1 : Int} (h : FrmOk c0 c1)
include h
theorem FrmOk.f17 {s : ByteArray} (hs : s.size ≤ 9223372036854775807) {kd : Int} {lw : List Int} {lx ly : List Nat} (hw : lw.length ≤ 1000) (hx : lx.length ≤ 1000) (hy : ly.length ≤ 1000) {lo hi : Int} (hE : (ckG s kd lw lx ly c0 c1).2 = 0) (hk : kd ≠ 1) {k : Int → Int → Int → Int → Int → Option α} :
    f30_0 α s kd (lw.map rI1) (lx.map rF) (ly.map rF) c0 c1 lo hi k = if ¬ (isW lo = true ∧ isW hi = true) then k 0 0 0 0 2 else if hi < lo then k 0 0 0 0 10
      else k (fN c0 c1 hi 1 / (hi * hi)) (cdv (fN c0 c1 lo 1) (lo * lo)) 0 0 0 := by
  have hnn : ¬ (ckG s kd lw lx ly c0 c1).2 ≠ 0 := fun q => q hE
  simp only [f30_0, f30_0g, J30_0_0, J30_0_0g, f79_eq hs hw hx hy, if_neg hnn, if_neg hk, J30_0_3, J30_0_3g, f80_eq, f201_0, f201_0g]
  unfold isW
  cases ha : inB lo 1000 200000 with
  | false => simp
  | true => cases hb : inB hi 1000 200000 with
    | false => simp
    | true =>
      rw [inB_iff] at ha hb
      simp only [Bool.not_true, cK_false, and_self, not_true_eq_false, if_false, cK_dec]
      by_cases hlt : hi < lo
      · rw [if_pos hlt, if_pos hlt]
      · rw [if_neg hlt, if_neg hlt, h.f126 ha.1 ha.2 hb.1 hb.2]
end
end Go.AM.K
