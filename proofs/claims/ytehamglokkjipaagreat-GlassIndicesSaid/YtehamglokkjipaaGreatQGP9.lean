/- Chapter 2: enclosures between two wavelengths, index and loss at one. -/
import Derived.Test.YtehamglokkjipaaGreatQGP8
namespace Go.AM.K
open Ieee
set_option linter.unusedVariables false
set_option linter.unusedSimpArgs false
set_option linter.unusedSectionVars false
variable {α : Type}
theorem cdv_le_iff {n d m : Int} (hd : 0 < d) : cdv n d ≤ m ↔ n ≤ m * d := by
  unfold cdv
  have := Int.le_ediv_iff_mul_le (a := -m) (b := -n) hd
  rw [Int.neg_mul] at this
  constructor
  · intro h; have := this.1 (by omega); omega
  · intro h; have := this.2 (by omega); omega
def hmin (g : Int → Int) (L : List Int) : Nat → Int
  | 0 => 0
  | i + 1 => if 0 < i then (if g (L.getD i 0) < hmin g L i then g (L.getD i 0) else hmin g L i) else g (L.getD i 0)
def hmax (g : Int → Int) (L : List Int) : Nat → Int
  | 0 => 0
  | i + 1 => if 0 < i then (if g (L.getD i 0) > hmax g L i then g (L.getD i 0) else hmax g L i) else g (L.getD i 0)
section
variable {lw : List Int} {lx ly : List Nat} (h : TabOk lw lx ly)
include h
theorem TabOk.at_bd {w : Int} (hw1 : 0 ≤ w) (hw2 : w ≤ 200000) {v : Nat → Int} (hv : ∀ i, i < lw.length → 0 ≤ v i ∧ v i ≤ 80000) : 0 < atD lw w ∧ atD lw w ≤ 200000 ∧ -32000000000 ≤ atN lw v w ∧ atN lw v w ≤ 32000000000 := by
  have hlt := h.seg_lt (wave := w)
  have sp := segGo_spec (lw := lw) (wave := w) lw.length 0 (by omega) (.inl rfl)
  have hn0 := h.n0
  unfold atN atD
  by_cases h1 : lw.length = 1
  · rw [if_pos h1, if_pos h1]
    have := hv 0 (by omega)
    omega
  · rw [if_neg h1, if_neg h1]
    have hs : seg lw w + 1 < lw.length := by unfold seg at *; omega
    have a1 := h.w _ hlt
    have a2 := h.w _ hs
    have u := h.up _ hs
    have v1 := hv _ hlt
    have v2 := hv _ hs
    unfold qN qD
    have p1 := mulB v1.1 v1.2 (show 0 ≤ gW lw (seg lw w + 1) - gW lw (seg lw w) by omega) (show gW lw (seg lw w + 1) - gW lw (seg lw w) ≤ 200000 by omega)
    have p2 : -(80000 * 200000) ≤ (v (seg lw w + 1) - v (seg lw w)) * (w - gW lw (seg lw w)) ∧ (v (seg lw w + 1) - v (seg lw w)) * (w - gW lw (seg lw w)) ≤ 80000 * 200000 := by
      by_cases hp : 0 ≤ w - gW lw (seg lw w)
      · exact mulS (by omega) (by omega) hp (by omega) (by decide)
      · have := mulS (x := v (seg lw w + 1) - v (seg lw w)) (y := -(w - gW lw (seg lw w))) (X := 80000) (Y := 200000) (by omega) (by omega) (by omega) (by omega) (by decide)
        rw [Int.mul_neg] at this
        omega
    omega
theorem TabOk.vx : ∀ i, i < lw.length → 0 ≤ gV lx i ∧ gV lx i ≤ 80000 := fun i hi => by have := (h.x i hi).2; omega
theorem TabOk.vy : ∀ i, i < lw.length → 0 ≤ gV ly i ∧ gV ly i ≤ 80000 := fun i hi => (h.y i hi).2
end
def fN (a b w n : Int) : Int := a * (w * w) + n * b * 1000000
structure FrmOk (a b : Int) : Prop where
  a1 : 5000 ≤ a
  a2 : a ≤ 60000
  b1 : 0 ≤ b
  b2 : b ≤ 20000
theorem sqw {w : Int} (h1 : 1000 ≤ w) (h2 : w ≤ 200000) : 1000000 ≤ w * w ∧ w * w ≤ 40000000000 := ⟨Int.mul_le_mul h1 h1 (by decide) (by omega), Int.mul_le_mul h2 h2 (by omega) (by decide)⟩
theorem FrmOk.f129 {a b w n : Int} (h : FrmOk a b) (h1 : 1000 ≤ w) (h2 : w ≤ 200000) (hn : 0 ≤ n) (hn2 : n ≤ 3) {k : Int → Int → Option α} : f203_0 α a b w n k = k (fN a b w n) (w * w) := by
  have hs := sqw h1 h2
  obtain ⟨a1, a2, b1, b2⟩ := h
  have p1 := mulB (x := a) (y := w * w) (A := 60000) (B := 40000000000) (by omega) a2 (by omega) hs.2
  have p2 := mulB (x := n) (y := b) (A := 3) (B := 20000) hn hn2 b1 b2
  simp only [f203_0, f203_0g]
  rw [w64_in (n := w * w) (by omega) (by omega), w64_in (n := a * (w * w)) (by omega) (by omega), w64_in (n := n * b) (by omega) (by omega), w64_in (n := n * b * 1000000) (by omega) (by omega), w64_in (by omega) (by omega)]
  rfl
theorem FrmOk.bd {a b w n : Int} (h : FrmOk a b) (h1 : 1000 ≤ w) (h2 : w ≤ 200000) (hn : 0 ≤ n) (hn2 : n ≤ 3) : 0 ≤ fN a b w n ∧ fN a b w n ≤ 2500000000000000 := by
  have hs := sqw h1 h2
  obtain ⟨a1, a2, b1, b2⟩ := h
  have p1 := mulB (x := a) (y := w * w) (A := 60000) (B := 40000000000) (by omega) a2 (by omega) hs.2
  have p2 := mulB (x := n) (y := b) (A := 3) (B := 20000) hn hn2 b1 b2
  unfold fN; omega
def near (n d : Int) : Int := (2 * n + d) / (2 * d)
theorem near_in {n d : Int} (hd : 0 < d) : n / d ≤ near n d ∧ near n d ≤ cdv n d := by
  have e1 := Int.emod_add_mul_ediv n d
  have e2 := Int.emod_nonneg n (Int.ne_of_gt hd)
  have e3 := Int.emod_lt_of_pos n hd
  unfold near
  constructor
  · rw [Int.le_ediv_iff_mul_le (by omega), Int.mul_left_comm]
    rw [Int.mul_comm (n / d)]
    omega
  · have : (2 * n + d) / (2 * d) < cdv n d + 1 := by
      rw [Int.ediv_lt_iff_lt_mul (by omega)]
      have q := (cdv_le_iff (n := n) (d := d) (m := cdv n d) hd).1 (Int.le_refl _)
      rw [Int.add_mul, Int.mul_left_comm]
      omega
    omega
theorem f63_eq {n d : Int} (hd : 0 < d) (hd2 : d ≤ 1000000000000) (h1 : -10000000000000000 ≤ n) (h2 : n ≤ 10000000000000000) {k : Int → Option α} : f63_0 α n d k = k (near n d) := by
  simp only [f63_0, f63_0g]
  rw [w64_in (n := 2 * n) (by omega) (by omega), w64_in (n := 2 * d) (by omega) (by omega), w64_in (by omega) (by omega), f108_eq (by omega) (by omega) (by omega) (by omega)]
  rfl
end Go.AM.K
