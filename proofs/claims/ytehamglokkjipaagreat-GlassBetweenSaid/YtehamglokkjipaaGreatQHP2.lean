/- Chapter 2: enclosures, as the document says them. -/
import Derived.Test.YtehamglokkjipaaGreatQHP1
namespace Go.AM.K
open Ieee
set_option linter.unusedVariables false
set_option linter.unusedSimpArgs false
set_option linter.unusedSectionVars false
variable {α : Type}
theorem hmin_congr {g g' : Int → Int} {L : List Int} (hg : ∀ w ∈ L, g w = g' w) : ∀ (n : Nat), n ≤ L.length → hmin g L n = hmin g' L n
  | 0, _ => rfl
  | n + 1, hn => by
    simp only [hmin]
    rw [hmin_congr hg n (by omega), hg _ (getD_mem (show n < L.length by omega))]
theorem hmax_congr {g g' : Int → Int} {L : List Int} (hg : ∀ w ∈ L, g w = g' w) : ∀ (n : Nat), n ≤ L.length → hmax g L n = hmax g' L n
  | 0, _ => rfl
  | n + 1, hn => by
    simp only [hmax]
    rw [hmax_congr hg n (by omega), hg _ (getD_mem (show n < L.length by omega))]
theorem R31_0_eq {lw : List Int} (hn : lw.length ≤ 1000) {lo hi : Int} {k : Int → Bool → Rows → Option α} {y : Rows → Option α} (hk : ∀ a b c, k a b c = y c) :
    R31_0_0 α (lw.map rI1) lo hi k fuel 0 ((wvs lw lo hi 0).map rI1) = y ((wvs lw lo hi lw.length).map rI1) := by
  refine loopF0 (α := α) (N := lw.length) (st := fun i => (wvs lw lo hi i).map rI1) (R := R31_0_0 α (lw.map rI1) lo hi k) (by omega) (fun n i hil => ?_) (fun n => ?_)
  · simp only [R31_0_0, S31_0_0, S31_0_0g, List.length_map]
    have hrow : ∀ f : Int → Option α, rowK (lw.map rI1) (i : Int) [.int .i64] f = f (gW lw i) := fun f => by rw [rowK_N (by omega) (by omega), Int.toNat_natCast]; rfl
    rw [decide_eq_true (by omega), cK_true]
    simp only [hrow]
    rw [f57_eq, w64_in (n := (i : Int) + 1) (by omega) (by omega), show (i : Int) + 1 = ((i + 1 : Nat) : Int) by omega]
    have hl := wvs_len (lw := lw) (lo := lo) (hi := hi) (i := i)
    have e : wvs lw lo hi (i + 1) = if inB (gW lw i) lo hi = true then wvs lw lo hi i ++ [gW lw i] else wvs lw lo hi i := by
      unfold wvs
      rw [List.take_add_one, List.getElem?_eq_getElem hil, List.filter_append]
      have : gW lw i = lw[i] := gD hil
      rw [this]
      split
      · rename_i hc; simp [hc]
      · rename_i hc; simp [hc]
    rw [e]
    cases hb : inB (gW lw i) lo hi with
    | false => rfl
    | true =>
      rw [if_pos rfl, cK_true]
      rw [show ([[DC.v (.int .i64 (gW lw i))]] : Rows) = [gW lw i].map rI1 from rfl, apOk_of (enc := rI1) (fun _ => rfl) (by simp; omega) (by simp; omega), gK_true, List.map_append]
  · simp only [R31_0_0, S31_0_0, S31_0_0g, List.length_map]
    rw [decide_eq_false (by omega), cK_false, hk]
section
variable {s : ByteArray} {kd c0 c1 : Int} {W X Y : Rows} {L : List Int} (hL : L.length ≤ 1000) {nx dx ny dy : Int → Int}
  (hex : ∀ w ∈ L, ∀ k : Int → Int → Int → Int → Option α, f73_0 α s kd W X Y c0 c1 w k = k (nx w) (dx w) (ny w) (dy w))
  (hb : ∀ w ∈ L, (0 < dx w ∧ dx w ≤ 9223372036854775807 ∧ -9223372036854775807 ≤ nx w ∧ nx w ≤ 9223372036854775807) ∧ (0 < dy w ∧ dy w ≤ 9223372036854775807 ∧ -9223372036854775807 ≤ ny w ∧ ny w ≤ 9223372036854775807))
include hL hex hb
theorem R31_2_eq {k : Int → Bool → Int → Int → Option α} {y : Int → Int → Option α} (hk : ∀ a b c d, k a b c d = y c d) :
    R31_0_2 α s kd W X Y c0 c1 (L.map rI1) k fuel 0 0 0 = y (hmin (fun w => nx w / dx w) L L.length) (hmax (fun w => cdv (nx w) (dx w)) L L.length) := by
  refine loopF0 (α := α) (N := L.length) (σ := Int × Int) (st := fun i => (hmin (fun w => nx w / dx w) L i, hmax (fun w => cdv (nx w) (dx w)) L i))
    (R := fun n i z => R31_0_2 α s kd W X Y c0 c1 (L.map rI1) k n i z.1 z.2) (by omega) (fun n i hi => ?_) (fun n => ?_)
  · simp only [R31_0_2, S31_0_2, S31_0_2g, J31_0_1, J31_0_1g, List.length_map]
    have hm := getD_mem hi
    obtain ⟨⟨b1, b2, b3, b4⟩, _⟩ := hb _ hm
    rw [decide_eq_true (by omega), cK_true, ixK_m (enc := rI1) (fun _ => rfl) (by omega) (by omega), Int.toNat_natCast, ldK_N hi, hex _ hm, f76_eq b1 b2 b3 b4, f77_eq b1 b2 b3 b4]
    rw [w64_in (n := (i : Int) + 1) (by omega) (by omega), show (i : Int) + 1 = ((i + 1 : Nat) : Int) by omega]
    by_cases h0 : i = 0
    · subst h0
      simp only [hmin, hmax]
      rw [show ((((0 : Nat) : Int)) == 0) = true by decide, cK_true]
      simp
    · rw [show (((i : Nat) : Int) == 0) = false by simp; omega, cK_false]
      simp only [hmin, hmax, if_pos (show 0 < i by omega)]
  · simp only [R31_0_2, S31_0_2, S31_0_2g, List.length_map]
    rw [decide_eq_false (by omega), cK_false, hk]
theorem R31_4_eq {k : Int → Bool → Int → Int → Option α} {y : Int → Int → Option α} (hk : ∀ a b c d, k a b c d = y c d) :
    R31_0_4 α s kd W X Y c0 c1 (L.map rI1) k fuel 0 0 0 = y (hmin (fun w => ny w / dy w) L L.length) (hmax (fun w => cdv (ny w) (dy w)) L L.length) := by
  refine loopF0 (α := α) (N := L.length) (σ := Int × Int) (st := fun i => (hmin (fun w => ny w / dy w) L i, hmax (fun w => cdv (ny w) (dy w)) L i))
    (R := fun n i z => R31_0_4 α s kd W X Y c0 c1 (L.map rI1) k n i z.1 z.2) (by omega) (fun n i hi => ?_) (fun n => ?_)
  · simp only [R31_0_4, S31_0_4, S31_0_4g, J31_0_3, J31_0_3g, List.length_map]
    have hm := getD_mem hi
    obtain ⟨_, ⟨b1, b2, b3, b4⟩⟩ := hb _ hm
    rw [decide_eq_true (by omega), cK_true, ixK_m (enc := rI1) (fun _ => rfl) (by omega) (by omega), Int.toNat_natCast, ldK_N hi, hex _ hm, f76_eq b1 b2 b3 b4, f77_eq b1 b2 b3 b4]
    rw [w64_in (n := (i : Int) + 1) (by omega) (by omega), show (i : Int) + 1 = ((i + 1 : Nat) : Int) by omega]
    by_cases h0 : i = 0
    · subst h0
      simp only [hmin, hmax]
      rw [show ((((0 : Nat) : Int)) == 0) = true by decide, cK_true]
      simp
    · rw [show (((i : Nat) : Int) == 0) = false by simp; omega, cK_false]
      simp only [hmin, hmax, if_pos (show 0 < i by omega)]
  · simp only [R31_0_4, S31_0_4, S31_0_4g, List.length_map]
    rw [decide_eq_false (by omega), cK_false, hk]
end
theorem TabOk.f31 {lw : List Int} {lx ly : List Nat} (h : TabOk lw lx ly) {s : ByteArray} {kd c0 c1 lo hi : Int} (hk : kd = 1) {k : Int → Int → Int → Int → Int → Option α} :
    f31_0 α s kd (lw.map rI1) (lx.map rF) (ly.map rF) c0 c1 lo hi k = if ¬ (isW lo = true ∧ isW hi = true) then k 0 0 0 0 2 else if hi < lo then k 0 0 0 0 10 else if ¬ (covB lw lo = true ∧ covB lw hi = true) then k 0 0 0 0 17
      else k (bLo lw (gV lx) lo hi) (bHi lw (gV lx) lo hi) (bLo lw (gV ly) lo hi) (bHi lw (gV ly) lo hi) 0 := by
  have n1 := h.n1
  simp only [f31_0, f31_0g, f68_eq, h.f70 hk]
  unfold isW
  cases ha : inB lo 1000 200000 with
  | false => simp
  | true => cases hb : inB hi 1000 200000 with
    | false => simp
    | true =>
      rw [inB_iff] at ha hb
      simp only [Bool.not_true, cK_false, and_self, not_true_eq_false, if_false, cK_dec]
      by_cases hlt : hi < lo
      · rw [if_pos hlt, if_pos hlt]
      · rw [if_neg hlt, if_neg hlt]
        cases hc : covB lw lo with
        | false => simp
        | true => cases hd : covB lw hi with
          | false => simp
          | true =>
            have c1' := inB_iff.1 hc
            have c2' := inB_iff.1 hd
            simp only [if_true, bne_self_eq_false, cK_false, and_self, not_true_eq_false, if_false, L31_0_0, L31_0_2, L31_0_4]
            have hl := wvs_len (lw := lw) (lo := lo) (hi := hi) (i := lw.length)
            refine (R31_0_eq (α := α) (lw := lw) (lo := lo) (hi := hi) (by omega) (y := fun x39 => R31_0_2 α s kd (lw.map rI1) (lx.map rF) (ly.map rF) c0 c1 x39 (fun x88 x89 x90 x91 => R31_0_4 α s kd (lw.map rI1) (lx.map rF) (ly.map rF) c0 c1 x39 (fun x140 x141 x142 x143 => k x90 x91 x142 x143 0) fuel 0 0 0) fuel 0 0 0) (fun _ _ _ => rfl)).trans ?_
            have hin : ∀ w ∈ wvs lw lo hi lw.length, lo ≤ w ∧ w ≤ hi := fun w hw => by
              rw [wvs_mem] at hw
              rcases hw with rfl | rfl | ⟨_, g1, g2⟩ <;> omega
            have hex : ∀ w ∈ wvs lw lo hi lw.length, ∀ k : Int → Int → Int → Int → Option α, f73_0 α s kd (lw.map rI1) (lx.map rF) (ly.map rF) c0 c1 w k = k (exN lw (gV lx) w) (exD lw w) (exN lw (gV ly) w) (exD lw w) := fun w hw k => by
              have := hin w hw
              exact h.f73 hk (by omega) (by omega)
            have hbd : ∀ w ∈ wvs lw lo hi lw.length, (0 < exD lw w ∧ exD lw w ≤ 9223372036854775807 ∧ -9223372036854775807 ≤ exN lw (gV lx) w ∧ exN lw (gV lx) w ≤ 9223372036854775807) ∧ (0 < exD lw w ∧ exD lw w ≤ 9223372036854775807 ∧ -9223372036854775807 ≤ exN lw (gV ly) w ∧ exN lw (gV ly) w ≤ 9223372036854775807) := fun w hw => by
              have := hin w hw
              have d := h.exD0 (w := w) (by omega) (by omega)
              have e1 := h.ex_bd (w := w) (by omega) (by omega) h.vx
              have e2 := h.ex_bd (w := w) (by omega) (by omega) h.vy
              omega
            refine (R31_2_eq (by omega) hex hbd (y := fun x90 x91 => R31_0_4 α s kd (lw.map rI1) (lx.map rF) (ly.map rF) c0 c1 ((wvs lw lo hi lw.length).map rI1) (fun x140 x141 x142 x143 => k x90 x91 x142 x143 0) fuel 0 0 0) (fun _ _ _ _ => rfl)).trans ?_
            refine (R31_4_eq (by omega) hex hbd (y := fun x142 x143 => k _ _ x142 x143 0) (fun _ _ _ _ => rfl)).trans ?_
            have q : ∀ (v : Nat → Int), (∀ i, i < lw.length → 0 ≤ v i ∧ v i ≤ 80000) → hmin (fun w => exN lw v w / exD lw w) (wvs lw lo hi lw.length) (wvs lw lo hi lw.length).length = bLo lw v lo hi ∧ hmax (fun w => cdv (exN lw v w) (exD lw w)) (wvs lw lo hi lw.length) (wvs lw lo hi lw.length).length = bHi lw v lo hi := fun v hv =>
              ⟨hmin_congr (fun w hw => (h.flo_ex (by have := hin w hw; omega) (by have := hin w hw; omega) (by have := hin w hw; omega) (by have := hin w hw; omega) v hv).1) _ (Nat.le_refl _),
               hmax_congr (fun w hw => (h.flo_ex (by have := hin w hw; omega) (by have := hin w hw; omega) (by have := hin w hw; omega) (by have := hin w hw; omega) v hv).2.1) _ (Nat.le_refl _)⟩
            rw [(q _ h.vx).1, (q _ h.vx).2, (q _ h.vy).1, (q _ h.vy).2]
theorem FrmOk.f31 {c0 c1 : Int} (h : FrmOk c0 c1) {lw : List Int} {lx ly : List Nat} (hn : lw.length = 0) {s : ByteArray} {kd lo hi : Int} (hk : kd = 2) {k : Int → Int → Int → Int → Int → Option α} :
    f31_0 α s kd (lw.map rI1) (lx.map rF) (ly.map rF) c0 c1 lo hi k = if ¬ (isW lo = true ∧ isW hi = true) then k 0 0 0 0 2 else if hi < lo then k 0 0 0 0 10
      else k (fN c0 c1 hi 1 / (hi * hi)) (cdv (fN c0 c1 lo 1) (lo * lo)) 0 0 0 := by
  simp only [f31_0, f31_0g, f68_eq, frm_f70 hk]
  unfold isW
  cases ha : inB lo 1000 200000 with
  | false => simp
  | true => cases hb : inB hi 1000 200000 with
    | false => simp
    | true =>
      rw [inB_iff] at ha hb
      simp only [Bool.not_true, cK_false, and_self, not_true_eq_false, if_false, cK_dec]
      by_cases hlt : hi < lo
      · rw [if_pos hlt, if_pos hlt]
      · rw [if_neg hlt, if_neg hlt]
        simp only [bne_self_eq_false, cK_false, L31_0_0, L31_0_2, L31_0_4]
        refine (R31_0_eq (α := α) (lw := lw) (lo := lo) (hi := hi) (by omega) (y := fun x39 => R31_0_2 α s kd (lw.map rI1) (lx.map rF) (ly.map rF) c0 c1 x39 (fun x88 x89 x90 x91 => R31_0_4 α s kd (lw.map rI1) (lx.map rF) (ly.map rF) c0 c1 x39 (fun x140 x141 x142 x143 => k x90 x91 x142 x143 0) fuel 0 0 0) fuel 0 0 0) (fun _ _ _ => rfl)).trans ?_
        have hlw : lw = [] := List.eq_nil_of_length_eq_zero hn
        have hL : wvs lw lo hi lw.length = [lo, hi] := by rw [hlw]; rfl
        rw [hL]
        have hin : ∀ w ∈ [lo, hi], 1000 ≤ w ∧ w ≤ 200000 := fun w hw => by simp at hw; rcases hw with rfl | rfl <;> omega
        have hex : ∀ w ∈ [lo, hi], ∀ k : Int → Int → Int → Int → Option α, f73_0 α s kd (lw.map rI1) (lx.map rF) (ly.map rF) c0 c1 w k = k (fN c0 c1 w 1) (w * w) 0 1 := fun w hw k => h.f73 hk (hin w hw).1 (hin w hw).2
        have hbd : ∀ w ∈ [lo, hi], (0 < w * w ∧ w * w ≤ 9223372036854775807 ∧ -9223372036854775807 ≤ fN c0 c1 w 1 ∧ fN c0 c1 w 1 ≤ 9223372036854775807) ∧ (0 < (1 : Int) ∧ (1 : Int) ≤ 9223372036854775807 ∧ -9223372036854775807 ≤ (0 : Int) ∧ (0 : Int) ≤ 9223372036854775807) := fun w hw => by
          have s1 := sqw (hin w hw).1 (hin w hw).2
          have b1 := h.bd (hin w hw).1 (hin w hw).2 (n := 1) (by decide) (by decide)
          omega
        refine (R31_2_eq (nx := fun w => fN c0 c1 w 1) (dx := fun w => w * w) (ny := fun _ => 0) (dy := fun _ => 1) (by simp) hex hbd (y := fun x90 x91 => R31_0_4 α s kd (lw.map rI1) (lx.map rF) (ly.map rF) c0 c1 ([lo, hi].map rI1) (fun x140 x141 x142 x143 => k x90 x91 x142 x143 0) fuel 0 0 0) (fun _ _ _ _ => rfl)).trans ?_
        refine (R31_4_eq (nx := fun w => fN c0 c1 w 1) (dx := fun w => w * w) (ny := fun _ => 0) (dy := fun _ => 1) (by simp) hex hbd (y := fun x142 x143 => k _ _ x142 x143 0) (fun _ _ _ _ => rfl)).trans ?_
        obtain ⟨f1, f2⟩ := h.falls (u := lo) (w := hi) ha.1 (by omega) hb.2
        have m1 : hmin (fun w => fN c0 c1 w 1 / (w * w)) [lo, hi] [lo, hi].length = fN c0 c1 hi 1 / (hi * hi) := by
          show (if 0 < 1 then (if fN c0 c1 hi 1 / (hi * hi) < (if 0 < 0 then _ else fN c0 c1 lo 1 / (lo * lo)) then fN c0 c1 hi 1 / (hi * hi) else (if 0 < 0 then _ else fN c0 c1 lo 1 / (lo * lo))) else fN c0 c1 hi 1 / (hi * hi)) = _
          simp only [Nat.lt_irrefl, if_false, Nat.lt_add_one, if_true]
          split <;> omega
        have m2 : hmax (fun w => cdv (fN c0 c1 w 1) (w * w)) [lo, hi] [lo, hi].length = cdv (fN c0 c1 lo 1) (lo * lo) := by
          show (if 0 < 1 then (if cdv (fN c0 c1 hi 1) (hi * hi) > (if 0 < 0 then _ else cdv (fN c0 c1 lo 1) (lo * lo)) then cdv (fN c0 c1 hi 1) (hi * hi) else (if 0 < 0 then _ else cdv (fN c0 c1 lo 1) (lo * lo))) else cdv (fN c0 c1 hi 1) (hi * hi)) = _
          simp only [Nat.lt_irrefl, if_false, Nat.lt_add_one, if_true]
          split <;> omega
        have m3 : hmin (fun _ => (0 : Int) / 1) [lo, hi] [lo, hi].length = 0 := rfl
        have m4 : hmax (fun _ => cdv 0 1) [lo, hi] [lo, hi].length = 0 := rfl
        rw [m1, m2, m3, m4]
end Go.AM.K
