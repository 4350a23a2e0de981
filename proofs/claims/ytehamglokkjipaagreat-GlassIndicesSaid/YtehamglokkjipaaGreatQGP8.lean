/- Chapter 2: tables: the rows around a wavelength, and what is told there. -/
import Derived.Test.YtehamglokkjipaaGreatQGP7
namespace Go.AM.K
open Ieee
set_option linter.unusedVariables false
set_option linter.unusedSimpArgs false
set_option linter.unusedSectionVars false
variable {α : Type}
def gW (lw : List Int) (i : Nat) : Int := lw.getD i 0
def gV (lx : List Nat) (i : Nat) : Int := (wv (lx.getD i 0)).getD 0
structure TabOk (lw : List Int) (lx ly : List Nat) : Prop where
  n0 : 0 < lw.length
  n1 : lw.length ≤ 64
  xl : lx.length = lw.length
  yl : ly.length = lw.length
  w : ∀ i, i < lw.length → 1000 ≤ gW lw i ∧ gW lw i ≤ 200000
  x : ∀ i, i < lw.length → wv (lx.getD i 0) = some (gV lx i) ∧ 5000 ≤ gV lx i ∧ gV lx i ≤ 80000
  y : ∀ i, i < lw.length → wv (ly.getD i 0) = some (gV ly i) ∧ 0 ≤ gV ly i ∧ gV ly i ≤ 80000
  up : ∀ i, i + 1 < lw.length → gW lw i < gW lw (i + 1)
theorem rowE_0 {w : Int} {x y : Nat} (h : rowE w x y = 0) : (1000 ≤ w ∧ w ≤ 200000) ∧ (∃ n, wv x = some n ∧ 5000 ≤ n ∧ n ≤ 80000) ∧ ∃ m, wv y = some m ∧ 0 ≤ m ∧ m ≤ 80000 := by
  unfold rowE at h
  split at h
  · cases h
  · rename_i hw
    split at h
    · rename_i n m hx hy
      split at h
      · rename_i hin
        rw [inB_iff, inB_iff] at hin
        have hw' : inB w 1000 200000 = true := by simpa using hw
        rw [inB_iff] at hw'
        exact ⟨hw', ⟨n, hx, hin.1⟩, m, hy, hin.2⟩
      · cases h
    · cases h
theorem chkRow_ne {lw : List Int} {lx ly : List Nat} {i : Nat} {p : Int × Int} (h : chkRow lw lx ly i = some p) : p.2 ≠ 0 := by
  unfold chkRow at h
  split at h
  · rename_i he; simp only [Option.some.injEq] at h; subst h; exact he
  · split at h
    · simp only [Option.some.injEq] at h; subst h; simp
    · cases h
theorem tabE_ok {lw : List Int} {lx ly : List Nat} {c0 c1 : Int} (h : (tabE lw lx ly c0 c1).2 = 0) : TabOk lw lx ly := by
  unfold tabE at h
  split at h
  · cases h
  · split at h
    · cases h
    · rename_i hn
      split at h
      · cases h
      · rename_i hl
        have hs : srch (chkRow lw lx ly) lw.length 0 = none := by
          cases hq : srch (chkRow lw lx ly) lw.length 0 with
          | none => rfl
          | some p =>
            rw [hq] at h
            obtain ⟨j, _, _, hj, _⟩ := srch_some hq
            exact absurd h (chkRow_ne hj)
        have hj := srch_none.1 hs
        have hrow : ∀ i, i < lw.length → rowE (lw.getD i 0) (lx.getD i 0) (ly.getD i 0) = 0 ∧ ¬ (0 < i ∧ lw.getD i 0 ≤ lw.getD (i - 1) 0) := fun i hi => by
          have := hj i (by omega) (by omega)
          unfold chkRow at this
          split at this
          · cases this
          · rename_i he
            split at this
            · cases this
            · rename_i hu; exact ⟨by omega, hu⟩
        refine ⟨by omega, by omega, by omega, by omega, fun i hi => (rowE_0 (hrow i hi).1).1, fun i hi => ?_, fun i hi => ?_, fun i hi => ?_⟩
        · obtain ⟨n, h1, h2⟩ := (rowE_0 (hrow i hi).1).2.1
          have : gV lx i = n := by unfold gV; rw [h1]; rfl
          rw [this]; exact ⟨h1, h2⟩
        · obtain ⟨n, h1, h2⟩ := (rowE_0 (hrow i hi).1).2.2
          have : gV ly i = n := by unfold gV; rw [h1]; rfl
          rw [this]; exact ⟨h1, h2⟩
        · have := (hrow (i + 1) hi).2
          unfold gW
          rw [Nat.add_sub_cancel] at this
          apply Int.not_le.1
          intro hle; exact this ⟨by omega, hle⟩
theorem f2i_w {x : Nat} {n : Int} (h : wv x = some n) (h1 : -1000000000 ≤ n) (h2 : n ≤ 1000000000) : f2i .f32 x .i64 = some n := by
  obtain ⟨s, m, p, hx, _, _, _, _, hn⟩ := wv_num h
  unfold f2i
  rw [toInt_numS hx, ← hn]
  simp only
  rw [if_pos]
  have : IntKind.min .i64 = -9223372036854775808 := by decide
  have : IntKind.max .i64 = 9223372036854775807 := by decide
  omega
theorem mulS {x y X Y : Int} (h1 : -X ≤ x) (h2 : x ≤ X) (h3 : 0 ≤ y) (h4 : y ≤ Y) (hX : 0 ≤ X) : -(X * Y) ≤ x * y ∧ x * y ≤ X * Y := by
  have a := Int.mul_le_mul_of_nonneg_right h1 h3
  have b := Int.mul_le_mul_of_nonneg_right h2 h3
  have c := Int.mul_le_mul_of_nonneg_left h4 hX
  rw [Int.neg_mul] at a
  omega
def segGo (lw : List Int) (wave : Int) : Nat → Nat → Nat
  | 0, i => i
  | m + 1, i => if i + 2 < lw.length ∧ gW lw (i + 1) ≤ wave then segGo lw wave m (i + 1) else i
def seg (lw : List Int) (wave : Int) : Nat := segGo lw wave lw.length 0
theorem segGo_spec {lw : List Int} {wave : Int} : ∀ (m i : Nat), lw.length ≤ i + m → (i = 0 ∨ (gW lw i ≤ wave ∧ i + 2 ≤ lw.length)) → 
    (segGo lw wave m i = 0 ∨ (gW lw (segGo lw wave m i) ≤ wave ∧ segGo lw wave m i + 2 ≤ lw.length)) ∧ (lw.length ≤ segGo lw wave m i + 2 ∨ wave < gW lw (segGo lw wave m i + 1))
  | 0, i, h, hi => by
    simp only [segGo]
    exact ⟨hi, .inl (by omega)⟩
  | m + 1, i, h, hi => by
    simp only [segGo]
    split
    · rename_i hc
      exact segGo_spec m (i + 1) (by omega) (.inr ⟨hc.2, by omega⟩)
    · rename_i hc
      refine ⟨hi, ?_⟩
      by_cases h2 : i + 2 < lw.length
      · exact .inr (Int.not_le.1 fun hx => hc ⟨h2, hx⟩)
      · exact .inl (by omega)
section
variable {lw : List Int} {lx ly : List Nat} (h : TabOk lw lx ly)
include h
theorem TabOk.rowW {i : Nat} (hi : i < lw.length) {f : Int → Option α} : rowK (lw.map rI1) (i : Int) [.int .i64] f = f (gW lw i) := by
  rw [rowK_N (by omega) (by omega), Int.toNat_natCast]; rfl
theorem TabOk.f124 {s : ByteArray} {kd c0 c1 : Int} {i : Nat} (hi : i < lw.length) {k : Int → Int → Option α} : f198_0 α s kd (lw.map rI1) (lx.map rF) (ly.map rF) c0 c1 (i : Int) k = k (gV lx i) (gV ly i) := by
  simp only [f198_0, f198_0g]
  have e1 := h.xl
  have e2 := h.yl
  obtain ⟨x1, x2, x3⟩ := h.x i hi
  obtain ⟨y1, y2, y3⟩ := h.y i hi
  rw [rowK_F (by omega) (by omega), Int.toNat_natCast, f2i_w x1 (by omega) (by omega)]
  simp only [ivK]
  rw [rowK_F (by omega) (by omega), Int.toNat_natCast, f2i_w y1 (by omega) (by omega)]
theorem TabOk.R123 {wave : Int} {k : Int → Bool → Option α} {y : Int → Option α} (hk : ∀ a b, k a b = y a) : ∀ (m i n : Nat), lw.length ≤ i + m → m < n → i ≤ 64 →
    R197_0_0 α wave (lw.map rI1) k n (i : Int) = y (segGo lw wave m i : Int) := by
  intro m
  have hn := h.n1
  induction m with
  | zero =>
    intro i n h1 h2 h3
    obtain ⟨n, rfl⟩ : ∃ q, n = q + 1 := ⟨n - 1, by omega⟩
    simp only [R197_0_0, S197_0_0, S197_0_0g, segGo, List.length_map]
    rw [w64_in (n := (i : Int) + 2) (by omega) (by omega), decide_eq_false (by omega), cK_false, hk]
  | succ m ih =>
    intro i n h1 h2 h3
    obtain ⟨n, rfl⟩ : ∃ q, n = q + 1 := ⟨n - 1, by omega⟩
    simp only [R197_0_0, S197_0_0, S197_0_0g, segGo, List.length_map]
    rw [w64_in (n := (i : Int) + 2) (by omega) (by omega), w64_in (n := (i : Int) + 1) (by omega) (by omega), show (i : Int) + 1 = ((i + 1 : Nat) : Int) by omega]
    by_cases hc : i + 2 < lw.length
    · rw [decide_eq_true (by omega), cK_true, h.rowW (by omega), cK_dec]
      by_cases hle : gW lw (i + 1) ≤ wave
      · rw [if_pos hle, if_pos ⟨hc, hle⟩, ih (i + 1) n (by omega) (by omega) (by omega)]
      · rw [if_neg hle, if_neg (fun q => hle q.2), hk]
    · rw [decide_eq_false (by omega), cK_false, hk, if_neg (fun q => hc q.1)]
theorem TabOk.f123 {s : ByteArray} {kd c0 c1 wave : Int} {k : Int → Option α} : f197_0 α s kd (lw.map rI1) (lx.map rF) (ly.map rF) c0 c1 wave k = k (seg lw wave : Int) := by
  have hf := fuel_ge
  have hn := h.n1
  simp only [f197_0, f197_0g, L197_0_0]
  exact h.R123 (k := fun x20 x21 => k x20) (y := k) (fun _ _ => rfl) lw.length 0 fuel (by omega) (by omega) (by omega)
theorem TabOk.seg_lt {wave : Int} : seg lw wave < lw.length := by
  have := (segGo_spec (lw := lw) (wave := wave) lw.length 0 (by omega) (.inl rfl)).1
  have := h.n0
  unfold seg; omega
def qN (lw : List Int) (v : Nat → Int) (j : Nat) (wave : Int) : Int := v j * (gW lw (j + 1) - gW lw j) + (v (j + 1) - v j) * (wave - gW lw j)
def qD (lw : List Int) (j : Nat) : Int := gW lw (j + 1) - gW lw j
def atN (lw : List Int) (v : Nat → Int) (wave : Int) : Int := if lw.length = 1 then v 0 else qN lw v (seg lw wave) wave
def atD (lw : List Int) (wave : Int) : Int := if lw.length = 1 then 1 else qD lw (seg lw wave)
theorem TabOk.f119 {s : ByteArray} {kd c0 c1 wave : Int} (hw1 : 0 ≤ wave) (hw2 : wave ≤ 200000) {k : Int → Int → Int → Int → Option α} :
    f193_0 α s kd (lw.map rI1) (lx.map rF) (ly.map rF) c0 c1 wave k = k (atN lw (gV lx) wave) (atD lw wave) (atN lw (gV ly) wave) (atD lw wave) := by
  simp only [f193_0, f193_0g, h.f123, List.length_map]
  have hlt := h.seg_lt (wave := wave)
  have hn1 := h.n1
  have sp := segGo_spec (lw := lw) (wave := wave) lw.length 0 (by omega) (.inl rfl)
  rw [h.f124 hlt]
  unfold atN atD
  by_cases h1 : lw.length = 1
  · have h0 : seg lw wave = 0 := by omega
    rw [show (((lw.length : Nat) : Int) == 1) = true by simp [h1], cK_true, if_pos h1, if_pos h1, if_pos h1, h0]
  · have hn0 := h.n0
    have hs : seg lw wave + 1 < lw.length := by unfold seg at *; omega
    rw [show (((lw.length : Nat) : Int) == 1) = false by simp; omega, cK_false, if_neg h1, if_neg h1, if_neg h1]
    rw [w64_in (n := ((seg lw wave : Nat) : Int) + 1) (by omega) (by omega), show ((seg lw wave : Nat) : Int) + 1 = ((seg lw wave + 1 : Nat) : Int) by omega]
    rw [h.f124 hs]
    simp only [h.rowW hs, h.rowW hlt]
    have a1 := h.w _ hlt
    have a2 := h.w _ hs
    have u := h.up _ hs
    obtain ⟨_, x2, x3⟩ := h.x _ hlt
    obtain ⟨_, x5, x6⟩ := h.x _ hs
    obtain ⟨_, y2, y3⟩ := h.y _ hlt
    obtain ⟨_, y5, y6⟩ := h.y _ hs
    rw [w64_in (n := gW lw (seg lw wave + 1) - gW lw (seg lw wave)) (by omega) (by omega)]
    have hcol : ∀ a b : Int, 0 ≤ a → a ≤ 80000 → 0 ≤ b → b ≤ 80000 → w64 ((w64 (a * (gW lw (seg lw wave + 1) - gW lw (seg lw wave)))) + (w64 ((w64 (b - a)) * (w64 (wave - gW lw (seg lw wave)))))) = a * (gW lw (seg lw wave + 1) - gW lw (seg lw wave)) + (b - a) * (wave - gW lw (seg lw wave)) := by
      intro a b ha ha2 hb hb2
      have p1 := mulB ha ha2 (show 0 ≤ gW lw (seg lw wave + 1) - gW lw (seg lw wave) by omega) (show gW lw (seg lw wave + 1) - gW lw (seg lw wave) ≤ 200000 by omega)
      have p2 : -(80000 * 200000) ≤ (b - a) * (wave - gW lw (seg lw wave)) ∧ (b - a) * (wave - gW lw (seg lw wave)) ≤ 80000 * 200000 := by
        by_cases hp : 0 ≤ wave - gW lw (seg lw wave)
        · exact mulS (by omega) (by omega) hp (by omega) (by decide)
        · have := mulS (x := b - a) (y := -(wave - gW lw (seg lw wave))) (X := 80000) (Y := 200000) (by omega) (by omega) (by omega) (by omega) (by decide)
          rw [Int.mul_neg] at this
          omega
      rw [w64_in (n := a * (gW lw (seg lw wave + 1) - gW lw (seg lw wave))) (by omega) (by omega), w64_in (n := b - a) (by omega) (by omega), w64_in (n := wave - gW lw (seg lw wave)) (by omega) (by omega), w64_in (n := (b - a) * (wave - gW lw (seg lw wave))) (by omega) (by omega), w64_in (by omega) (by omega)]
    rw [hcol _ _ (by omega) x3 (by omega) x6, hcol _ _ y2 y3 y5 y6]
    rfl
theorem TabOk.mono : ∀ (d i : Nat), i + d + 1 < lw.length → gW lw i < gW lw (i + d + 1)
  | 0, i, hi => h.up i hi
  | d + 1, i, hi => by
    have := TabOk.mono d i (by omega)
    have := h.up (i + d + 1) (by omega)
    rw [show i + (d + 1) + 1 = i + d + 1 + 1 by omega]
    omega
theorem TabOk.lt {i j : Nat} (hij : i < j) (hj : j < lw.length) : gW lw i < gW lw j := by
  have := h.mono (j - i - 1) i (by omega)
  rwa [show i + (j - i - 1) + 1 = j by omega] at this
end
def flo (lw : List Int) (v : Nat → Int) (w : Int) : Int := atN lw v w / atD lw w
def cei (lw : List Int) (v : Nat → Int) (w : Int) : Int := cdv (atN lw v w) (atD lw w)
end Go.AM.K
