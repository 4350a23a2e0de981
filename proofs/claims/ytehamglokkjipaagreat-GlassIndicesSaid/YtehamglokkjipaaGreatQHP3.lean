/- Chapter 2: index and loss at a wavelength, as the program and the document say them; Euclid. -/
import Derived.Test.YtehamglokkjipaaGreatQHP2
namespace Go.AM.K
open Ieee
set_option linter.unusedVariables false
set_option linter.unusedSimpArgs false
set_option linter.unusedSectionVars false
variable {α : Type}
theorem f74_eq {n d : Int} (hd : 0 < d) (hd2 : d ≤ 1000000000000) (h1 : -1000000000000000000 ≤ n) (h2 : n ≤ 1000000000000000000) {k : Int → Option α} : f74_0 α n d k = k (near n d) := by
  simp only [f74_0, f74_0g]
  rw [w64_in (n := 2 * n) (by omega) (by omega), w64_in (n := 2 * d) (by omega) (by omega), w64_in (by omega) (by omega), f76_eq (by omega) (by omega) (by omega) (by omega)]
  rfl
structure AtOk (s : ByteArray) (kd : Int) (W X Y : Rows) (c0 c1 : Int) (cov : Int → Bool) (A B : Int → Int) : Prop where
  e17 : ∀ {α : Type} {w : Int} {k : Int → Int → Int → Option α}, f17_0 α s kd W X Y c0 c1 w k = if isW w = false then k 0 0 2 else if cov w = false then k 0 0 17 else k (A w) (B w) 0
  e22 : ∀ {α : Type} {w : Int} {k : Int → Option α}, f22_0 α s kd W X Y c0 c1 w k = if isW w = false then k 2 else if cov w = false then k 17 else k 0
  e25 : ∀ {α : Type} {w : Int} {k : Int → Int → Option α}, isW w = true → cov w = true → f25_0 α s kd W X Y c0 c1 w k = k (A w) (B w)
  bA : ∀ {w : Int}, isW w = true → cov w = true → 0 ≤ A w ∧ A w ≤ 80000
  bB : ∀ {w : Int}, isW w = true → cov w = true → 0 ≤ B w ∧ B w ≤ 80000
theorem near_bd {n d M : Int} (hd : 0 < d) (h1 : 0 ≤ n) (h2 : n ≤ M * d) (hM : 0 ≤ M) : 0 ≤ near n d ∧ near n d ≤ M := by
  have h := near_in (n := n) hd
  constructor
  · have := Int.ediv_nonneg h1 (by omega : 0 ≤ d); omega
  · have := (cdv_le_iff (n := n) (d := d) (m := M) hd).2 h2; omega
theorem TabOk.ex80 {lw : List Int} {lx ly : List Nat} (h : TabOk lw lx ly) {w : Int} (h1 : gW lw 0 ≤ w) (h2 : w ≤ gW lw (lw.length - 1)) {v : Nat → Int} (hv : ∀ i, i < lw.length → 0 ≤ v i ∧ v i ≤ 80000) : exN lw v w ≤ 80000 * exD lw w := by
  obtain ⟨hr, hle, hne, _⟩ := h.row_sp h1 h2
  unfold exN exD
  split
  · have := hv _ hr; omega
  · rename_i he
    obtain ⟨hr1, hlt⟩ := hne he
    have v1 := hv _ hr
    have v2 := hv _ hr1
    have p1 := Int.mul_le_mul_of_nonneg_right v1.2 (show 0 ≤ gW lw (rowI lw w + 1) - gW lw (rowI lw w) - (w - gW lw (rowI lw w)) by omega)
    have p2 := Int.mul_le_mul_of_nonneg_right v2.2 (show 0 ≤ w - gW lw (rowI lw w) by omega)
    omega
theorem TabOk.atOk {lw : List Int} {lx ly : List Nat} (h : TabOk lw lx ly) {s : ByteArray} (hs : s.size ≤ 9223372036854775807) {kd c0 c1 : Int} (hE : (ckG s kd lw lx ly c0 c1).2 = 0) (hk : kd = 1) :
    AtOk s kd (lw.map rI1) (lx.map rF) (ly.map rF) c0 c1 (covB lw) (fun w => near (exN lw (gV lx) w) (exD lw w)) (fun w => near (exN lw (gV ly) w) (exD lw w)) where
  e17 := fun {α w k} => by
    rw [h.f18 hs hE hk]
    cases ha : isW w with
    | false => rfl
    | true => cases hc : covB lw w with
      | false => rfl
      | true =>
        have c := inB_iff.1 hc
        have a := isW_iff.1 ha
        simp only [Bool.true_eq_false, if_false]
        rw [(h.flo_ex (by omega) a.2 c.1 c.2 (gV lx) h.vx).2.2, (h.flo_ex (by omega) a.2 c.1 c.2 (gV ly) h.vy).2.2]
  e22 := fun {α w k} => by
    simp only [f22_0, f22_0g, f68_eq, h.f70 hk]
    unfold isW
    cases ha : inB w 1000 200000 with
    | false => rfl
    | true => cases covB lw w <;> rfl
  e25 := fun {α w k} ha hc => by
    have c := inB_iff.1 hc
    have a := isW_iff.1 ha
    have d := h.exD0 c.1 c.2
    have e1 := h.ex_bd c.1 c.2 h.vx
    have e2 := h.ex_bd c.1 c.2 h.vy
    simp only [f25_0, f25_0g, h.f73 hk c.1 c.2]
    rw [f74_eq d.1 (by omega) (by omega) (by omega), f74_eq d.1 (by omega) (by omega) (by omega)]
  bA := fun {w} ha hc => by
    have c := inB_iff.1 hc
    have d := h.exD0 c.1 c.2
    have e1 := h.ex_bd c.1 c.2 h.vx
    exact near_bd (n := exN lw (gV lx) w) (d := exD lw w) (M := 80000) d.1 e1.1 (h.ex80 c.1 c.2 h.vx) (by decide)
  bB := fun {w} ha hc => by
    have c := inB_iff.1 hc
    have d := h.exD0 c.1 c.2
    have e1 := h.ex_bd c.1 c.2 h.vy
    exact near_bd (n := exN lw (gV ly) w) (d := exD lw w) (M := 80000) d.1 e1.1 (h.ex80 c.1 c.2 h.vy) (by decide)
theorem FrmOk.atOk {c0 c1 : Int} (h : FrmOk c0 c1) {s : ByteArray} (hs : s.size ≤ 9223372036854775807) {kd : Int} {lw : List Int} {lx ly : List Nat} (hw : lw.length ≤ 1000) (hx : lx.length ≤ 1000) (hy : ly.length ≤ 1000) (hE : (ckG s kd lw lx ly c0 c1).2 = 0) (hk : kd = 2) :
    AtOk s kd (lw.map rI1) (lx.map rF) (ly.map rF) c0 c1 (fun _ => true) (fun w => near (fN c0 c1 w 1) (w * w)) (fun _ => 0) where
  e17 := fun {α w k} => by
    rw [h.f18 hs hw hx hy hE (by omega)]
    cases isW w <;> rfl
  e22 := fun {α w k} => by
    simp only [f22_0, f22_0g, f68_eq, frm_f70 hk]
    unfold isW
    cases ha : inB w 1000 200000 <;> rfl
  e25 := fun {α w k} ha hc => by
    have a := isW_iff.1 ha
    have q := sqw a.1 a.2
    have b := h.bd a.1 a.2 (n := 1) (by decide) (by decide)
    simp only [f25_0, f25_0g, h.f73 hk a.1 a.2]
    rw [f74_eq (by omega) (by omega) (by omega) (by omega), f74_eq (by decide) (by decide) (by decide) (by decide)]
    rfl
  bA := fun {w} ha hc => by
    have a := isW_iff.1 ha
    have q := sqw a.1 a.2
    have b := h.bd a.1 a.2 (n := 1) (by decide) (by decide)
    refine near_bd (n := fN c0 c1 w 1) (d := w * w) (M := 80000) (by omega) b.1 ?_ (by decide)
    have p1 := Int.mul_le_mul_of_nonneg_right h.a2 (show 0 ≤ w * w by omega)
    have p2 := h.b2
    unfold fN
    omega
  bB := fun {w} ha hc => ⟨Int.le_refl _, by decide⟩
end Go.AM.K
