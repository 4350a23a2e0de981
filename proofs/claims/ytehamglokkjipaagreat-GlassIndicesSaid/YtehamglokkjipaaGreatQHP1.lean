/- Chapter 2, as the document says it: rows, exact quotients, enclosures. -/
import Derived.Test.YtehamglokkjipaaGreatQGP10
namespace Go.AM.K
open Ieee
set_option linter.unusedVariables false
set_option linter.unusedSimpArgs false
set_option linter.unusedSectionVars false
variable {α : Type}
theorem ck_ok2 {s : ByteArray} {kd : Int} {lw : List Int} {lx ly : List Nat} {c0 c1 : Int} (h : (ckG s kd lw lx ly c0 c1).2 = 0) : (kd = 1 ∧ TabOk lw lx ly) ∨ (kd = 2 ∧ FrmOk c0 c1 ∧ lw.length = 0) := by
  have h0 := ck_ok h
  rcases h0 with h1 | ⟨h1, h2⟩
  · exact .inl h1
  · refine .inr ⟨?_, h2, ?_⟩
    · unfold ckG at h
      rw [if_neg h1] at h
      split at h
      · cases h
      · split at h
        · cases h
        · rename_i hk; omega
    · unfold ckG at h
      rw [if_neg h1] at h
      split at h
      · cases h
      · split at h
        · cases h
        · split at h
          · cases h
          · omega
theorem mul4x (n e : Int) : 2 * n * (2 * e) = 4 * (n * e) := by
  rw [Int.mul_assoc, Int.mul_left_comm n, ← Int.mul_assoc]; rfl
theorem ratio_eq {n m d e : Int} (hd : 0 < d) (he : 0 < e) (h : n * e = m * d) : n / d = m / e := by
  have a : n * e / (d * e) = n / d := Int.mul_ediv_mul_of_pos_left n d he
  have b : m * d / (e * d) = m / e := Int.mul_ediv_mul_of_pos_left m e hd
  rw [← a, ← b, h, Int.mul_comm d e]
theorem ratio_cdv {n m d e : Int} (hd : 0 < d) (he : 0 < e) (h : n * e = m * d) : cdv n d = cdv m e := by
  unfold cdv
  rw [ratio_eq hd he (n := -n) (m := -m) (by rw [Int.neg_mul, Int.neg_mul, h])]
theorem ratio_near {n m d e : Int} (hd : 0 < d) (he : 0 < e) (h : n * e = m * d) : near n d = near m e := by
  unfold near
  refine ratio_eq (by omega) (by omega) ?_
  have e1 : (2 * n + d) * (2 * e) = 4 * (n * e) + 2 * (d * e) := by
    rw [Int.add_mul, Int.mul_left_comm d, mul4x]
  have e2 : (2 * m + e) * (2 * d) = 4 * (m * d) + 2 * (d * e) := by
    rw [Int.add_mul, Int.mul_left_comm e, mul4x, Int.mul_comm e d]
  rw [e1, e2, h]
def rowGo (lw : List Int) (wave : Int) : Nat → Nat → Nat
  | 0, i => i
  | m + 1, i => if i + 1 < lw.length ∧ gW lw (i + 1) ≤ wave then rowGo lw wave m (i + 1) else i
def rowI (lw : List Int) (wave : Int) : Nat := rowGo lw wave lw.length 0
theorem rowGo_spec {lw : List Int} {wave : Int} : ∀ (m i : Nat), lw.length ≤ i + m → i < lw.length → (i = 0 ∨ gW lw i ≤ wave) →
    rowGo lw wave m i < lw.length ∧ (rowGo lw wave m i = 0 ∨ gW lw (rowGo lw wave m i) ≤ wave) ∧ (rowGo lw wave m i + 1 = lw.length ∨ wave < gW lw (rowGo lw wave m i + 1))
  | 0, i, h, hl, hi => by omega
  | m + 1, i, h, hl, hi => by
    simp only [rowGo]
    split
    · rename_i hc
      exact rowGo_spec m (i + 1) (by omega) hc.1 (.inr hc.2)
    · rename_i hc
      refine ⟨hl, hi, ?_⟩
      by_cases h2 : i + 1 < lw.length
      · exact .inr (Int.not_le.1 fun hx => hc ⟨h2, hx⟩)
      · exact .inl (by omega)
def exN (lw : List Int) (v : Nat → Int) (w : Int) : Int := if gW lw (rowI lw w) = w then v (rowI lw w) else
  v (rowI lw w) * (gW lw (rowI lw w + 1) - gW lw (rowI lw w) - (w - gW lw (rowI lw w))) + v (rowI lw w + 1) * (w - gW lw (rowI lw w))
def exD (lw : List Int) (w : Int) : Int := if gW lw (rowI lw w) = w then 1 else gW lw (rowI lw w + 1) - gW lw (rowI lw w)
section
variable {lw : List Int} {lx ly : List Nat} (h : TabOk lw lx ly)
include h
theorem TabOk.R75 {wave : Int} {k : Int → Bool → Option α} {y : Int → Option α} (hk : ∀ a b, k a b = y a) : ∀ (m i n : Nat), lw.length ≤ i + m → m < n → i ≤ 64 →
    R75_0_0 α wave (lw.map rI1) k n (i : Int) = y (rowGo lw wave m i : Int) := by
  intro m
  have hn := h.n1
  induction m with
  | zero =>
    intro i n h1 h2 h3
    obtain ⟨n, rfl⟩ : ∃ q, n = q + 1 := ⟨n - 1, by omega⟩
    simp only [R75_0_0, S75_0_0, S75_0_0g, rowGo, List.length_map]
    rw [w64_in (n := (i : Int) + 1) (by omega) (by omega), decide_eq_false (by omega), cK_false, hk]
  | succ m ih =>
    intro i n h1 h2 h3
    obtain ⟨n, rfl⟩ : ∃ q, n = q + 1 := ⟨n - 1, by omega⟩
    simp only [R75_0_0, S75_0_0, S75_0_0g, rowGo, List.length_map]
    rw [w64_in (n := (i : Int) + 1) (by omega) (by omega), show (i : Int) + 1 = ((i + 1 : Nat) : Int) by omega]
    by_cases hc : i + 1 < lw.length
    · rw [decide_eq_true (by omega), cK_true, h.rowW (by omega), cK_dec]
      by_cases hle : gW lw (i + 1) ≤ wave
      · rw [if_pos hle, if_pos ⟨hc, hle⟩, ih (i + 1) n (by omega) (by omega) (by omega)]
      · rw [if_neg hle, if_neg (fun q => hle q.2), hk]
    · rw [decide_eq_false (by omega), cK_false, hk, if_neg (fun q => hc q.1)]
theorem TabOk.f75 {s : ByteArray} {kd c0 c1 wave : Int} {k : Int → Option α} : f75_0 α s kd (lw.map rI1) (lx.map rF) (ly.map rF) c0 c1 wave k = k (rowI lw wave : Int) := by
  have hf := fuel_ge
  have hn := h.n1
  simp only [f75_0, f75_0g, L75_0_0]
  exact h.R75 (k := fun x20 x21 => k x20) (y := k) (fun _ _ => rfl) lw.length 0 fuel (by omega) (by omega) (by omega)
theorem TabOk.colX {i : Nat} (hi : i < lw.length) {f : Int → Option α} : rowK (lx.map rF) (i : Int) [.flt .f32] (fun x => ivK (f2i .f32 x .i64) f) = f (gV lx i) := by
  have e1 := h.xl
  obtain ⟨x1, x2, x3⟩ := h.x i hi
  rw [rowK_F (by omega) (by omega), Int.toNat_natCast, f2i_w x1 (by omega) (by omega)]
  rfl
theorem TabOk.colY {i : Nat} (hi : i < lw.length) {f : Int → Option α} : rowK (ly.map rF) (i : Int) [.flt .f32] (fun x => ivK (f2i .f32 x .i64) f) = f (gV ly i) := by
  have e1 := h.yl
  obtain ⟨x1, x2, x3⟩ := h.y i hi
  rw [rowK_F (by omega) (by omega), Int.toNat_natCast, f2i_w x1 (by omega) (by omega)]
  rfl
theorem TabOk.row_sp {w : Int} (h1 : gW lw 0 ≤ w) (h2 : w ≤ gW lw (lw.length - 1)) : rowI lw w < lw.length ∧ gW lw (rowI lw w) ≤ w ∧ (gW lw (rowI lw w) ≠ w → rowI lw w + 1 < lw.length ∧ w < gW lw (rowI lw w + 1)) ∧ (rowI lw w + 1 = lw.length ∨ w < gW lw (rowI lw w + 1)) := by
  have sp := rowGo_spec (lw := lw) (wave := w) lw.length 0 (by omega) h.n0 (.inl rfl)
  change rowI lw w < lw.length ∧ (rowI lw w = 0 ∨ gW lw (rowI lw w) ≤ w) ∧ (rowI lw w + 1 = lw.length ∨ w < gW lw (rowI lw w + 1)) at sp
  have hle : gW lw (rowI lw w) ≤ w := by
    rcases sp.2.1 with e | e
    · rw [e]; exact h1
    · exact e
  refine ⟨sp.1, hle, fun hne => ?_, sp.2.2⟩
  rcases sp.2.2 with e | e
  · exfalso
    have : rowI lw w = lw.length - 1 := by omega
    rw [this] at hle hne; omega
  · refine ⟨?_, e⟩
    apply Nat.lt_of_le_of_ne sp.1
    intro he
    have : rowI lw w = lw.length - 1 := by omega
    rw [this] at hle hne; omega
theorem TabOk.f73 {s : ByteArray} {kd c0 c1 w : Int} (hk : kd = 1) (h1 : gW lw 0 ≤ w) (h2 : w ≤ gW lw (lw.length - 1)) {k : Int → Int → Int → Int → Option α} :
    f73_0 α s kd (lw.map rI1) (lx.map rF) (ly.map rF) c0 c1 w k = k (exN lw (gV lx) w) (exD lw w) (exN lw (gV ly) w) (exD lw w) := by
  obtain ⟨hr, hle, hne, _⟩ := h.row_sp h1 h2
  have hn1 := h.n1
  simp only [f73_0, f73_0g, h.f75, f111_0, f111_0g]
  rw [show (kd == 2) = false by rw [hk]; decide, cK_false, h.rowW hr]
  unfold exN exD
  by_cases he : gW lw (rowI lw w) = w
  · rw [show (gW lw (rowI lw w) == w) = true by simpa using he, cK_true, h.colX hr, h.colY hr, if_pos he, if_pos he, if_pos he]
  · obtain ⟨hr1, hlt⟩ := hne he
    rw [show (gW lw (rowI lw w) == w) = false by simpa using he, cK_false, if_neg he, if_neg he, if_neg he]
    rw [w64_in (n := ((rowI lw w : Nat) : Int) + 1) (by omega) (by omega), show ((rowI lw w : Nat) : Int) + 1 = ((rowI lw w + 1 : Nat) : Int) by omega]
    simp only [h.rowW hr1, h.rowW hr, h.colX hr, h.colX hr1, h.colY hr, h.colY hr1]
    have a1 := h.w _ hr
    have a2 := h.w _ hr1
    obtain ⟨_, x2, x3⟩ := h.x _ hr
    obtain ⟨_, x5, x6⟩ := h.x _ hr1
    obtain ⟨_, y2, y3⟩ := h.y _ hr
    obtain ⟨_, y5, y6⟩ := h.y _ hr1
    rw [w64_in (n := w - gW lw (rowI lw w)) (by omega) (by omega), w64_in (n := gW lw (rowI lw w + 1) - gW lw (rowI lw w)) (by omega) (by omega), w64_in (n := gW lw (rowI lw w + 1) - gW lw (rowI lw w) - (w - gW lw (rowI lw w))) (by omega) (by omega)]
    have hcol : ∀ a b : Int, 0 ≤ a → a ≤ 80000 → 0 ≤ b → b ≤ 80000 → w64 ((w64 (a * (gW lw (rowI lw w + 1) - gW lw (rowI lw w) - (w - gW lw (rowI lw w))))) + (w64 (b * (w - gW lw (rowI lw w))))) = a * (gW lw (rowI lw w + 1) - gW lw (rowI lw w) - (w - gW lw (rowI lw w))) + b * (w - gW lw (rowI lw w)) := by
      intro a b ha ha2 hb hb2
      have p1 := mulB ha ha2 (show 0 ≤ gW lw (rowI lw w + 1) - gW lw (rowI lw w) - (w - gW lw (rowI lw w)) by omega) (show gW lw (rowI lw w + 1) - gW lw (rowI lw w) - (w - gW lw (rowI lw w)) ≤ 200000 by omega)
      have p2 := mulB hb hb2 (show 0 ≤ w - gW lw (rowI lw w) by omega) (show w - gW lw (rowI lw w) ≤ 200000 by omega)
      rw [w64_in (n := a * (gW lw (rowI lw w + 1) - gW lw (rowI lw w) - (w - gW lw (rowI lw w)))) (by omega) (by omega), w64_in (n := b * (w - gW lw (rowI lw w))) (by omega) (by omega), w64_in (by omega) (by omega)]
    rw [hcol _ _ (by omega) x3 (by omega) x6, hcol _ _ y2 y3 y5 y6]
theorem TabOk.exD0 {w : Int} (h1 : gW lw 0 ≤ w) (h2 : w ≤ gW lw (lw.length - 1)) : 0 < exD lw w ∧ exD lw w ≤ 200000 := by
  obtain ⟨hr, hle, hne, _⟩ := h.row_sp h1 h2
  unfold exD
  split
  · decide
  · rename_i he
    obtain ⟨hr1, hlt⟩ := hne he
    have a1 := h.w _ hr
    have a2 := h.w _ hr1
    omega
theorem TabOk.same {w : Int} (h1 : gW lw 0 ≤ w) (h2 : w ≤ gW lw (lw.length - 1)) (v : Nat → Int) : atN lw v w * exD lw w = exN lw v w * atD lw w := by
  obtain ⟨hr, hle, hne, hnx⟩ := h.row_sp h1 h2
  have sp := segGo_spec (lw := lw) (wave := w) lw.length 0 (by omega) (.inl rfl)
  change (seg lw w = 0 ∨ (gW lw (seg lw w) ≤ w ∧ seg lw w + 2 ≤ lw.length)) ∧ (lw.length ≤ seg lw w + 2 ∨ w < gW lw (seg lw w + 1)) at sp
  have hlt := h.seg_lt (wave := w)
  unfold atN atD exN exD
  by_cases hn : lw.length = 1
  · have hr0 : rowI lw w = 0 := by omega
    have hw : gW lw 0 = w := by rw [hn] at h2; simp at h2; omega
    rw [if_pos hn, if_pos hn, hr0, if_pos hw, if_pos hw]
  · rw [if_neg hn, if_neg hn]
    by_cases he : gW lw (rowI lw w) = w
    · rw [if_pos he, if_pos he, Int.mul_one]
      by_cases e : seg lw w = rowI lw w
      · unfold qN qD
        rw [e, he, Int.sub_self, Int.mul_zero, Int.add_zero]
      · by_cases e2 : seg lw w < rowI lw w
        · have e3 : seg lw w + 1 = rowI lw w := by
            rcases sp.2 with q | q
            · omega
            · by_cases e4 : seg lw w + 1 = rowI lw w
              · exact e4
              · have := h.lt (show seg lw w + 1 < rowI lw w by omega) hr; omega
          unfold qN qD
          rw [e3, he, ← Int.add_mul]
          congr 1; omega
        · exfalso
          have q := sp.1.resolve_left (by omega)
          have := h.lt (show rowI lw w < seg lw w by omega) hlt; omega
    · obtain ⟨hr1, hw⟩ := hne he
      rw [if_neg he, if_neg he]
      have e : seg lw w = rowI lw w := by
        by_cases e2 : seg lw w < rowI lw w
        · exfalso
          have q := sp.2.resolve_left (by omega)
          by_cases e4 : seg lw w + 1 = rowI lw w
          · rw [e4] at q; omega
          · have := h.lt (show seg lw w + 1 < rowI lw w by omega) hr; omega
        · by_cases e3 : seg lw w = rowI lw w
          · exact e3
          · exfalso
            have q := sp.1.resolve_left (by omega)
            by_cases e4 : rowI lw w + 1 = seg lw w
            · rw [← e4] at q; omega
            · have := h.lt (show rowI lw w + 1 < seg lw w by omega) hlt; omega
      unfold qN qD
      rw [e]
      congr 1
      rw [Int.mul_sub (v (rowI lw w)) (gW lw (rowI lw w + 1) - gW lw (rowI lw w)) (w - gW lw (rowI lw w)), Int.sub_mul (v (rowI lw w + 1)) (v (rowI lw w)) (w - gW lw (rowI lw w))]
      omega
theorem TabOk.flo_ex {w : Int} (h0 : 0 ≤ w) (h3 : w ≤ 200000) (h1 : gW lw 0 ≤ w) (h2 : w ≤ gW lw (lw.length - 1)) (v : Nat → Int) (hv : ∀ i, i < lw.length → 0 ≤ v i ∧ v i ≤ 80000) :
    exN lw v w / exD lw w = flo lw v w ∧ cdv (exN lw v w) (exD lw w) = cei lw v w ∧ near (exN lw v w) (exD lw w) = near (atN lw v w) (atD lw w) := by
  have hd := (h.at_bd h0 h3 hv).1
  have he := (h.exD0 h1 h2).1
  have hs := h.same h1 h2 v
  exact ⟨(ratio_eq hd he hs).symm, (ratio_cdv hd he hs).symm, (ratio_near hd he hs).symm⟩
theorem TabOk.ex_bd {w : Int} (h1 : gW lw 0 ≤ w) (h2 : w ≤ gW lw (lw.length - 1)) {v : Nat → Int} (hv : ∀ i, i < lw.length → 0 ≤ v i ∧ v i ≤ 80000) : 0 ≤ exN lw v w ∧ exN lw v w ≤ 32000000000 := by
  obtain ⟨hr, hle, hne, _⟩ := h.row_sp h1 h2
  unfold exN
  split
  · have := hv _ hr; omega
  · rename_i he
    obtain ⟨hr1, hlt⟩ := hne he
    have a1 := h.w _ hr
    have a2 := h.w _ hr1
    have v1 := hv _ hr
    have v2 := hv _ hr1
    have p1 := mulB v1.1 v1.2 (show 0 ≤ gW lw (rowI lw w + 1) - gW lw (rowI lw w) - (w - gW lw (rowI lw w)) by omega) (show gW lw (rowI lw w + 1) - gW lw (rowI lw w) - (w - gW lw (rowI lw w)) ≤ 200000 by omega)
    have p2 := mulB v2.1 v2.2 (show 0 ≤ w - gW lw (rowI lw w) by omega) (show w - gW lw (rowI lw w) ≤ 200000 by omega)
    omega
theorem TabOk.f70 {s : ByteArray} {kd c0 c1 w : Int} (hk : kd = 1) {k : Int → Option α} : f70_0 α s kd (lw.map rI1) (lx.map rF) (ly.map rF) c0 c1 w k = k (if covB lw w = true then 0 else 17) := by
  have n0 := h.n0
  have n1 := h.n1
  simp only [f70_0, f70_0g, List.length_map]
  rw [show (kd == 1) = true by rw [hk]; decide, cK_true]
  rw [w64_in (n := ((lw.length : Nat) : Int) - 1) (by omega) (by omega), show ((lw.length : Nat) : Int) - 1 = ((lw.length - 1 : Nat) : Int) by omega]
  rw [show (0 : Int) = ((0 : Nat) : Int) from rfl, h.rowW n0, h.rowW (by omega), f57_eq]
  unfold covB
  cases inB w (gW lw 0) (gW lw (lw.length - 1)) <;> rfl
end
theorem frm_f70 {s : ByteArray} {kd c0 c1 w : Int} {lw : List Int} {lx ly : List Nat} (hk : kd = 2) {k : Int → Option α} : f70_0 α s kd (lw.map rI1) (lx.map rF) (ly.map rF) c0 c1 w k = k 0 := by
  simp only [f70_0, f70_0g]
  rw [show (kd == 1) = false by rw [hk]; decide]; rfl
theorem FrmOk.f73 {s : ByteArray} {kd c0 c1 w : Int} {lw : List Int} {lx ly : List Nat} (h : FrmOk c0 c1) (hk : kd = 2) (h1 : 1000 ≤ w) (h2 : w ≤ 200000) {k : Int → Int → Int → Int → Option α} :
    f73_0 α s kd (lw.map rI1) (lx.map rF) (ly.map rF) c0 c1 w k = k (fN c0 c1 w 1) (w * w) 0 1 := by
  have hs := sqw h1 h2
  obtain ⟨a1, a2, b1, b2⟩ := h
  have p0 := mulB (x := c0) (y := w) (A := 60000) (B := 200000) (by omega) a2 (by omega) h2
  have p1 := mulB (x := c0) (y := w * w) (A := 60000) (B := 40000000000) (by omega) a2 (by omega) hs.2
  simp only [f73_0, f73_0g]
  rw [show (kd == 2) = true by rw [hk]; decide, cK_true]
  rw [w64_in (n := c0 * w) (by omega) (by omega), Int.mul_assoc, w64_in (n := c0 * (w * w)) (by omega) (by omega), w64_in (n := c1 * 1000000) (by omega) (by omega), w64_in (n := w * w) (by omega) (by omega), w64_in (by omega) (by omega)]
  unfold fN
  rw [Int.one_mul]
end Go.AM.K
