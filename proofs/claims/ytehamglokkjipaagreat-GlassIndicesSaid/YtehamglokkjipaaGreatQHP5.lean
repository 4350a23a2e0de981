/- Chapter 2: group index. -/
import Derived.Test.YtehamglokkjipaaGreatQHP4
namespace Go.AM.K
open Ieee
set_option linter.unusedVariables false
set_option linter.unusedSimpArgs false
set_option linter.unusedSectionVars false
variable {α : Type}
structure GrOk (s : ByteArray) (kd : Int) (W X Y : Rows) (c0 c1 : Int) (cov : Int → Bool) (g1 g2 g3 : Int → Int) : Prop where
  e20 : ∀ {α : Type} {w : Int} {k : Int → Int → Int → Option α}, f20_0 α s kd W X Y c0 c1 w k = if isW w = false then k 0 0 2 else if cov w = false then k 0 0 17 else k (g1 w) (g2 w) (g3 w)
  e26 : ∀ {α : Type} {w : Int} {k : Int → Int → Int → Option α}, isW w = true → cov w = true → f26_0 α s kd W X Y c0 c1 w k = k (g1 w) (g2 w) (g3 w)
theorem mulS' {x y X Y : Int} (h1 : -X ≤ x) (h2 : x ≤ X) (h3 : 0 ≤ y) (h4 : y ≤ Y) (hX : 0 ≤ X) : -(X * Y) ≤ y * x ∧ y * x ≤ X * Y := by
  rw [Int.mul_comm y]; exact mulS h1 h2 h3 h4 hX
def gN (lw : List Int) (v : Nat → Int) (w : Int) : Int := v (seg lw w) * (gW lw (seg lw w + 1) - gW lw (seg lw w)) - (v (seg lw w + 1) - v (seg lw w)) * gW lw (seg lw w)
def gD' (lw : List Int) (w : Int) : Int := gW lw (seg lw w + 1) - gW lw (seg lw w)
theorem TabOk.seg_row {lw : List Int} {lx ly : List Nat} (h : TabOk lw lx ly) {w : Int} (h1 : gW lw 0 ≤ w) (h2 : w ≤ gW lw (lw.length - 1)) (hn : lw.length ≠ 1) :
    seg lw w + 1 < lw.length ∧ (if ((lw.length : Nat) : Int) - 2 < (rowI lw w : Int) then ((lw.length : Nat) : Int) - 2 else (rowI lw w : Int)) = (seg lw w : Int) := by
  obtain ⟨hr, hle, hne, hnx⟩ := h.row_sp h1 h2
  have sp := segGo_spec (lw := lw) (wave := w) lw.length 0 (by omega) (.inl rfl)
  change (seg lw w = 0 ∨ (gW lw (seg lw w) ≤ w ∧ seg lw w + 2 ≤ lw.length)) ∧ (lw.length ≤ seg lw w + 2 ∨ w < gW lw (seg lw w + 1)) at sp
  have hlt := h.seg_lt (wave := w)
  have hn0 := h.n0
  have hs : seg lw w + 1 < lw.length := by unfold seg at *; omega
  refine ⟨hs, ?_⟩
  by_cases e : seg lw w < rowI lw w
  · have : lw.length ≤ seg lw w + 2 := by
      rcases sp.2 with q | q
      · exact q
      · exfalso
        by_cases e4 : seg lw w + 1 = rowI lw w
        · rw [e4] at q; omega
        · have := h.lt (show seg lw w + 1 < rowI lw w by omega) hr; omega
    rw [if_pos (by omega)]; omega
  · have : rowI lw w = seg lw w := by
      by_cases e3 : seg lw w = rowI lw w
      · exact e3.symm
      · exfalso
        have q := sp.1.resolve_left (by omega)
        rcases hnx with e5 | e5
        · omega
        · by_cases e4 : rowI lw w + 1 = seg lw w
          · rw [e4] at e5; omega
          · have := h.lt (show rowI lw w + 1 < seg lw w by omega) hlt; omega
    rw [if_neg (by omega), this]
theorem TabOk.gB {lw : List Int} {lx ly : List Nat} (h : TabOk lw lx ly) {w : Int} (hs : seg lw w + 1 < lw.length) : 0 < gD' lw w ∧ gD' lw w ≤ 200000 ∧ -32000000000 ≤ gN lw (gV lx) w ∧ gN lw (gV lx) w ≤ 32000000000 := by
  have a1 := h.w _ (show seg lw w < lw.length by omega)
  have a2 := h.w _ hs
  have u := h.up _ hs
  have v1 := h.vx _ (show seg lw w < lw.length by omega)
  have v2 := h.vx _ hs
  have p1 := mulB v1.1 v1.2 (show 0 ≤ gW lw (seg lw w + 1) - gW lw (seg lw w) by omega) (show gW lw (seg lw w + 1) - gW lw (seg lw w) ≤ 200000 by omega)
  have p2 := mulS (x := gV lx (seg lw w + 1) - gV lx (seg lw w)) (y := gW lw (seg lw w)) (X := 80000) (Y := 200000) (by omega) (by omega) (by omega) (by omega) (by decide)
  unfold gN gD'
  omega
theorem TabOk.f196 {lw : List Int} {lx ly : List Nat} (h : TabOk lw lx ly) {s : ByteArray} {kd c0 c1 w : Int} {k : Int → Int → Bool → Option α} :
    f196_0 α s kd (lw.map rI1) (lx.map rF) (ly.map rF) c0 c1 w k = if lw.length = 1 then k 0 0 false else k (gN lw (gV lx) w) (gD' lw w) true := by
  have n0 := h.n0
  have n1 := h.n1
  simp only [f196_0, f196_0g, h.f123, List.length_map]
  by_cases hn : lw.length = 1
  · rw [if_pos hn, show (((lw.length : Nat) : Int) == 1) = true by simp [hn], cK_true]
  · rw [if_neg hn, show (((lw.length : Nat) : Int) == 1) = false by simp; omega, cK_false]
    have hlt := h.seg_lt (wave := w)
    have sp := segGo_spec (lw := lw) (wave := w) lw.length 0 (by omega) (.inl rfl)
    change (seg lw w = 0 ∨ (gW lw (seg lw w) ≤ w ∧ seg lw w + 2 ≤ lw.length)) ∧ (lw.length ≤ seg lw w + 2 ∨ w < gW lw (seg lw w + 1)) at sp
    have hs : seg lw w + 1 < lw.length := by omega
    have a1 := h.w _ hlt
    have a2 := h.w _ hs
    have u := h.up _ hs
    have v1 := h.vx _ hlt
    have v2 := h.vx _ hs
    have p1 := mulB v1.1 v1.2 (show 0 ≤ gW lw (seg lw w + 1) - gW lw (seg lw w) by omega) (show gW lw (seg lw w + 1) - gW lw (seg lw w) ≤ 200000 by omega)
    have p2 := mulS (x := gV lx (seg lw w + 1) - gV lx (seg lw w)) (y := gW lw (seg lw w)) (X := 80000) (Y := 200000) (by omega) (by omega) (by omega) (by omega) (by decide)
    rw [h.f124 hlt, w64_in (n := ((seg lw w : Nat) : Int) + 1) (by omega) (by omega), show ((seg lw w : Nat) : Int) + 1 = ((seg lw w + 1 : Nat) : Int) by omega, h.f124 hs]
    simp only [h.rowW hs, h.rowW hlt]
    rw [w64_in (n := gW lw (seg lw w + 1) - gW lw (seg lw w)) (by omega) (by omega), w64_in (n := gV lx (seg lw w + 1) - gV lx (seg lw w)) (by omega) (by omega), w64_in (n := gV lx (seg lw w) * (gW lw (seg lw w + 1) - gW lw (seg lw w))) (by omega) (by omega), w64_in (n := (gV lx (seg lw w + 1) - gV lx (seg lw w)) * gW lw (seg lw w)) (by omega) (by omega), w64_in (by omega) (by omega)]
    rfl
theorem TabOk.grOk {lw : List Int} {lx ly : List Nat} (h : TabOk lw lx ly) {s : ByteArray} (hs : s.size ≤ 9223372036854775807) {kd c0 c1 : Int} (hE : (ckG s kd lw lx ly c0 c1).2 = 0) (hk : kd = 1) :
    GrOk s kd (lw.map rI1) (lx.map rF) (ly.map rF) c0 c1 (covB lw) (fun w => if lw.length = 1 then 0 else gN lw (gV lx) w / gD' lw w) (fun w => if lw.length = 1 then 0 else cdv (gN lw (gV lx) w) (gD' lw w)) (fun w => if lw.length = 1 then 12 else 0) where
  e20 := fun {α w k} => by
    have n0 := h.n0
    simp only [f20_0, f20_0g, J20_0_0, J20_0_0g, h.f47 hs hE hk, h.f196]
    cases isW w with
    | false => rfl
    | true =>
      cases covB lw w with
      | false => rfl
      | true =>
        simp only [Bool.true_eq_false, if_false]
        by_cases hn : lw.length = 1
        · simp only [if_pos hn]; rfl
        · simp only [if_neg hn]
          have hlt := h.seg_lt (wave := w)
          have sp := segGo_spec (lw := lw) (wave := w) lw.length 0 (by omega) (.inl rfl)
          change (seg lw w = 0 ∨ (gW lw (seg lw w) ≤ w ∧ seg lw w + 2 ≤ lw.length)) ∧ (lw.length ≤ seg lw w + 2 ∨ w < gW lw (seg lw w + 1)) at sp
          obtain ⟨d1, d2, d3, d4⟩ := h.gB (w := w) (by omega)
          rw [Bool.not_true, cK_false, f65_eq d1 (by omega) (by omega) (by omega)]
  e26 := fun {α w k} ha hc => by
    have n0 := h.n0
    have n1 := h.n1
    have c := inB_iff.1 hc
    have a := isW_iff.1 ha
    simp only [f26_0, f26_0g, J26_0_0, J26_0_0g, h.f75, List.length_map]
    rw [show (kd == 2) = false by rw [hk]; decide, cK_false]
    by_cases hn : lw.length = 1
    · simp only [if_pos hn]
      rw [show (((lw.length : Nat) : Int) == 1) = true by simp [hn], cK_true]
    · simp only [if_neg hn]
      rw [show (((lw.length : Nat) : Int) == 1) = false by simp; omega, cK_false]
      obtain ⟨hs, e⟩ := h.seg_row c.1 c.2 hn
      rw [w64_in (n := ((lw.length : Nat) : Int) - 2) (by omega) (by omega), e, w64_in (n := ((seg lw w : Nat) : Int) + 1) (by omega) (by omega), show ((seg lw w : Nat) : Int) + 1 = ((seg lw w + 1 : Nat) : Int) by omega]
      have hlt : seg lw w < lw.length := by omega
      simp only [h.colX hlt, h.colX hs, h.rowW hs, h.rowW hlt]
      obtain ⟨d1, d2, d3, d4⟩ := h.gB (w := w) hs
      have a1 := h.w _ hlt
      have a2 := h.w _ hs
      have u := h.up _ hs
      have v1 := h.vx _ hlt
      have v2 := h.vx _ hs
      have p1 := mulS' (x := gW lw (seg lw w + 1) - gW lw (seg lw w) - (w - gW lw (seg lw w))) (y := gV lx (seg lw w)) (X := 400000) (Y := 80000) (by omega) (by omega) v1.1 v1.2 (by decide)
      have p2 := mulS' (x := w - gW lw (seg lw w)) (y := gV lx (seg lw w + 1)) (X := 200000) (Y := 80000) (by omega) (by omega) v2.1 v2.2 (by decide)
      have p3 := mulS' (x := gV lx (seg lw w + 1) - gV lx (seg lw w)) (y := w) (X := 80000) (Y := 200000) (by omega) (by omega) (by omega) (by omega) (by decide)
      rw [w64_in (n := gW lw (seg lw w + 1) - gW lw (seg lw w)) (by omega) (by omega), w64_in (n := w - gW lw (seg lw w)) (by omega) (by omega), w64_in (n := gW lw (seg lw w + 1) - gW lw (seg lw w) - (w - gW lw (seg lw w))) (by omega) (by omega), w64_in (n := gV lx (seg lw w + 1) - gV lx (seg lw w)) (by omega) (by omega)]
      have ev : gV lx (seg lw w) * (gW lw (seg lw w + 1) - gW lw (seg lw w) - (w - gW lw (seg lw w))) + gV lx (seg lw w + 1) * (w - gW lw (seg lw w)) - w * (gV lx (seg lw w + 1) - gV lx (seg lw w)) = gN lw (gV lx) w := by
        unfold gN
        generalize gV lx (seg lw w) = v
        generalize gV lx (seg lw w + 1) = v'
        generalize gW lw (seg lw w) = z
        generalize gW lw (seg lw w + 1) = z'
        simp only [Int.mul_sub, Int.sub_mul, Int.mul_comm w]
        omega
      rw [w64_in (n := gV lx (seg lw w) * (gW lw (seg lw w + 1) - gW lw (seg lw w) - (w - gW lw (seg lw w)))) (by omega) (by omega), w64_in (n := gV lx (seg lw w + 1) * (w - gW lw (seg lw w))) (by omega) (by omega), w64_in (n := w * (gV lx (seg lw w + 1) - gV lx (seg lw w))) (by omega) (by omega), w64_in (n := gV lx (seg lw w) * (gW lw (seg lw w + 1) - gW lw (seg lw w) - (w - gW lw (seg lw w))) + gV lx (seg lw w + 1) * (w - gW lw (seg lw w))) (by omega) (by omega), ev, w64_in (by omega) (by omega)]
      show f76_0 α (gN lw (gV lx) w) (gD' lw w) (fun x33 => f77_0 α (gN lw (gV lx) w) (gD' lw w) fun x34 => k x33 x34 0) = _
      rw [f76_eq d1 (by omega) (by omega) (by omega), f77_eq d1 (by omega) (by omega) (by omega)]
theorem FrmOk.grOk {c0 c1 : Int} (h : FrmOk c0 c1) {s : ByteArray} (hs : s.size ≤ 9223372036854775807) {kd : Int} {lw : List Int} {lx ly : List Nat} (hw : lw.length ≤ 1000) (hx : lx.length ≤ 1000) (hy : ly.length ≤ 1000) (hE : (ckG s kd lw lx ly c0 c1).2 = 0) (hk : kd = 2) :
    GrOk s kd (lw.map rI1) (lx.map rF) (ly.map rF) c0 c1 (fun _ => true) (fun w => fN c0 c1 w 3 / (w * w)) (fun w => cdv (fN c0 c1 w 3) (w * w)) (fun _ => 0) where
  e20 := fun {α w k} => by
    simp only [f20_0, f20_0g, J20_0_0, J20_0_0g, h.f47 hs hw hx hy hE (show kd ≠ 1 by omega)]
    cases ha : isW w with
    | false => rfl
    | true =>
      have a := isW_iff.1 ha
      have q := sqw a.1 a.2
      have b := h.bd a.1 a.2 (n := 3) (by decide) (by decide)
      simp only [Bool.true_eq_false, if_false, f202_0, f202_0g]
      rw [h.f129 a.1 a.2 (by decide) (by decide), f65_eq (by omega) (by omega) (by omega) (by omega)]
  e26 := fun {α w k} ha hc => by
    have a := isW_iff.1 ha
    have q := sqw a.1 a.2
    have b := h.bd a.1 a.2 (n := 3) (by decide) (by decide)
    obtain ⟨a1, a2, b1, b2⟩ := h
    have p0 := mulB (x := c0) (y := w) (A := 60000) (B := 200000) (by omega) a2 (by omega) a.2
    have p1 := mulB (x := c0) (y := w * w) (A := 60000) (B := 40000000000) (by omega) a2 (by omega) q.2
    simp only [f26_0, f26_0g, J26_0_0, J26_0_0g]
    rw [show (kd == 2) = true by rw [hk]; decide, cK_true]
    rw [w64_in (n := c0 * w) (by omega) (by omega), Int.mul_assoc, w64_in (n := c0 * (w * w)) (by omega) (by omega), w64_in (n := 3 * c1) (by omega) (by omega), w64_in (n := 3 * c1 * 1000000) (by omega) (by omega), w64_in (n := w * w) (by omega) (by omega), w64_in (n := c0 * (w * w) + 3 * c1 * 1000000) (by omega) (by omega)]
    show f76_0 α (fN c0 c1 w 3) (w * w) (fun x33 => f77_0 α (fN c0 c1 w 3) (w * w) fun x34 => k x33 x34 0) = _
    rw [f76_eq (by omega) (by omega) (by omega) (by omega), f77_eq (by omega) (by omega) (by omega) (by omega)]
theorem both_ok {s : ByteArray} (hs : s.size ≤ 9223372036854775807) {kd : Int} {lw : List Int} {lx ly : List Nat} {c0 c1 : Int} (hw : lw.length ≤ 1000) (hx : lx.length ≤ 1000) (hy : ly.length ≤ 1000) (hE : (ckG s kd lw lx ly c0 c1).2 = 0) :
    ∃ cov A B g1 g2 g3, AtOk s kd (lw.map rI1) (lx.map rF) (ly.map rF) c0 c1 cov A B ∧ GrOk s kd (lw.map rI1) (lx.map rF) (ly.map rF) c0 c1 cov g1 g2 g3 := by
  rcases ck_ok2 hE with ⟨hk, h⟩ | ⟨hk, h, hn⟩
  · exact ⟨_, _, _, _, _, _, h.atOk hs hE hk, h.grOk hs hE hk⟩
  · exact ⟨_, _, _, _, _, _, h.atOk hs hw hx hy hE hk, h.grOk hs hw hx hy hE hk⟩
end Go.AM.K
