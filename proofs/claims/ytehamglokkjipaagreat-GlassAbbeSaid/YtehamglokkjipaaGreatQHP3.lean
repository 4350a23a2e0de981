/- Chapter 2: index and loss at a wavelength, as the program and the document say them; Euclid. -/
import Derived.Test.YtehamglokkjipaaGreatQHP2
namespace Go.AM.K
open Ieee
set_option linter.unusedVariables false
set_option linter.unusedSimpArgs false
set_option linter.unusedSectionVars false
variable {α : Type}
theorem f74_eq {n d : Int} (hd : 0 < d) (hd2 : d ≤ 1000000000000) (h1 : -1000000000000000000 ≤ n) (h2 : n ≤ 1000000000000000000) {k : Int → Option α} : f74_0 α n d k = k (near n d) := by
  simp only [f74_0, f74_0g]
  rw [w64_in (n := 2 * n) (by omega) (by omega), w64_in (n := 2 * d) (by omega) (by omega), w64_in (by omega) (by omega), f76_eq (by omega) (by omega) (by omega) (by omega)]
  rfl
structure AtOk (s : ByteArray) (kd : Int) (W X Y : Rows) (c0 c1 : Int) (cov : Int → Bool) (A B : Int → Int) : Prop where
  e17 : ∀ {α : Type} {w : Int} {k : Int → Int → Int → Option α}, f17_0 α s kd W X Y c0 c1 w k = if isW w = false then k 0 0 2 else if cov w = false then k 0 0 17 else k (A w) (B w) 0
  e22 : ∀ {α : Type} {w : Int} {k : Int → Option α}, f22_0 α s kd W X Y c0 c1 w k = if isW w = false then k 2 else if cov w = false then k 17 else k 0
  e25 : ∀ {α : Type} {w : Int} {k : Int → Int → Option α}, isW w = true → cov w = true → f25_0 α s kd W X Y c0 c1 w k = k (A w) (B w)
  bA : ∀ {w : Int}, isW w = true → cov w = true → 0 ≤ A w ∧ A w ≤ 80000
  bB : ∀ {w : Int}, isW w = true → cov w = true → 0 ≤ B w ∧ B w ≤ 80000
theorem near_bd {n d M : Int} (hd : 0 < d) (h1 : 0 ≤ n) (h2 : n ≤ M * d) (hM : 0 ≤ M) : 0 ≤ near n d ∧ near n d ≤ M := by
  have h := near_in (n := n) hd
  constructor
  · have := Int.ediv_nonneg h1 (by omega : 0 ≤ d); omega
  · have := (cdv_le_iff (n := n) (d := d) (m := M) hd).2 h2; omega
theorem TabOk.ex80 {lw : List Int} {lx ly : List Nat} (h : TabOk lw lx ly) {w : Int} (h1 : gW lw 0 ≤ w) (h2 : w ≤ gW lw (lw.length - 1)) {v : Nat → Int} (hv : ∀ i, i < lw.length → 0 ≤ v i ∧ v i ≤ 80000) : exN lw v w ≤ 80000 * exD lw w := by
  obtain ⟨hr, hle, hne, _⟩ := h.row_sp h1 h2
  unfold exN exD
  split
  · have := hv _ hr; omega
  · rename_i he
    obtain ⟨hr1, hlt⟩ := hne he
    have v1 := hv _ hr
    have v2 := hv _ hr1
    have p1 := Int.mul_le_mul_of_nonneg_right v1.2 (show 0 ≤ gW lw (rowI lw w + 1) - gW lw (rowI lw w) - (w - gW lw (rowI lw w)) by omega)
    have p2 := Int.mul_le_mul_of_nonneg_right v2.2 (show 0 ≤ w - gW lw (rowI lw w) by omega)
    omega
theorem TabOk.atOk {lw : List Int} {lx ly : List Nat} (h : TabOk lw lx ly) {s : ByteArray} (hs : s.size ≤ 9223372036854775807) {kd c0 c1 : Int} (hE : (ckG s kd lw lx ly c0 c1).2 = 0) (hk : kd = 1) :
    AtOk s kd (lw.map rI1) (lx.map rF) (ly.map rF) c0 c1 (covB lw) (fun w => near (exN lw (gV lx) w) (exD lw w)) (fun w => near (exN lw (gV ly) w) (exD lw w)) where
  e17 := fun {α w k} => by
    rw [h.f18 hs hE hk]
    cases ha : isW w with
    | false => rfl
    | true => cases hc : covB lw w with
      | false => rfl
      | true =>
        have c := inB_iff.1 hc
        have a := isW_iff.1 ha
        simp only [Bool.true_eq_false, if_false]
        rw [(h.flo_ex (by omega) a.2 c.1 c.2 (gV lx) h.vx).2.2, (h.flo_ex (by omega) a.2 c.1 c.2 (gV ly) h.vy).2.2]
  e22 := fun {α w k} => by
    simp only [f22_0, f22_0g, f68_eq, h.f70 hk]
    unfold isW
    cases ha : inB w 1000 200000 with
    | false => rfl
    | true => cases covB lw w <;> rfl
  e25 := fun {α w k} ha hc => by
    have c := inB_iff.1 hc
    have a := isW_iff.1 ha
    have d := h.exD0 c.1 c.2
    have e1 := h.ex_bd c.1 c.2 h.vx
    have e2 := h.ex_bd c.1 c.2 h.vy
    simp only [f25_0, f25_0g, h.f73 hk c.1 c.2]
    rw [f74_eq d.1 (by omega) (by omega) (by omega), f74_eq d.1 (by omega) (by omega) (by omega)]
  bA := fun {w} ha hc => by
    have c := inB_iff.1 hc
    have d := h.exD0 c.1 c.2
    have e1 := h.ex_bd c.1 c.2 h.vx
    exact near_bd (n := exN lw (gV lx) w) (d := exD lw w) (M := 80000) d.1 e1.1 (h.ex80 c.1 c.2 h.vx) (by decide)
  bB := fun {w} ha hc => by
    have c := inB_iff.1 hc
    have d := h.exD0 c.1 c.2
    have e1 := h.ex_bd c.1 c.2 h.vy
    exact near_bd (n := exN lw (gV ly) w) (d := exD lw w) (M := 80000) d.1 e1.1 (h.ex80 c.1 c.2 h.vy) (by decide)
theorem FrmOk.atOk {c0 c1 : Int} (h : FrmOk c0 c1) {s : ByteArray} (hs : s.size ≤ 9223372036854775807) {kd : Int} {lw : List Int} {lx ly : List Nat} (hw : lw.length ≤ 1000) (hx : lx.length ≤ 1000) (hy : ly.length ≤ 1000) (hE : (ckG s kd lw lx ly c0 c1).2 = 0) (hk : kd = 2) :
    AtOk s kd (lw.map rI1) (lx.map rF) (ly.map rF) c0 c1 (fun _ => true) (fun w => near (fN c0 c1 w 1) (w * w)) (fun _ => 0) where
  e17 := fun {α w k} => by
    rw [h.f18 hs hw hx hy hE (by omega)]
    cases isW w <;> rfl
  e22 := fun {α w k} => by
    simp only [f22_0, f22_0g, f68_eq, frm_f70 hk]
    unfold isW
    cases ha : inB w 1000 200000 <;> rfl
  e25 := fun {α w k} ha hc => by
    have a := isW_iff.1 ha
    have q := sqw a.1 a.2
    have b := h.bd a.1 a.2 (n := 1) (by decide) (by decide)
    simp only [f25_0, f25_0g, h.f73 hk a.1 a.2]
    rw [f74_eq (by omega) (by omega) (by omega) (by omega), f74_eq (by decide) (by decide) (by decide) (by decide)]
    rfl
  bA := fun {w} ha hc => by
    have a := isW_iff.1 ha
    have q := sqw a.1 a.2
    have b := h.bd a.1 a.2 (n := 1) (by decide) (by decide)
    refine near_bd (n := fN c0 c1 w 1) (d := w * w) (M := 80000) (by omega) b.1 ?_ (by decide)
    have p1 := Int.mul_le_mul_of_nonneg_right h.a2 (show 0 ≤ w * w by omega)
    have p2 := h.b2
    unfold fN
    omega
  bB := fun {w} ha hc => ⟨Int.le_refl _, by decide⟩
theorem at_ok {s : ByteArray} (hs : s.size ≤ 9223372036854775807) {kd : Int} {lw : List Int} {lx ly : List Nat} {c0 c1 : Int} (hw : lw.length ≤ 1000) (hx : lx.length ≤ 1000) (hy : ly.length ≤ 1000) (hE : (ckG s kd lw lx ly c0 c1).2 = 0) :
    ∃ cov A B, AtOk s kd (lw.map rI1) (lx.map rF) (ly.map rF) c0 c1 cov A B := by
  rcases ck_ok2 hE with ⟨hk, h⟩ | ⟨hk, h, hn⟩
  · exact ⟨_, _, _, h.atOk hs hE hk⟩
  · exact ⟨_, _, _, h.atOk hs hw hx hy hE hk⟩
def gT : Nat → Int → Int → Int
  | 0, x, _ => x
  | n + 1, x, y => if y = 0 then x else gT n y (Int.tmod x y)
theorem tmod_lt {x y : Int} (h : y ≠ 0) : (Int.tmod x y).natAbs < y.natAbs := by
  rw [Int.natAbs_tmod]; exact Nat.mod_lt _ (by omega)
theorem gT_ne : ∀ (n : Nat) (x y : Int), y.natAbs ≤ n → (x ≠ 0 ∨ y ≠ 0) → gT n x y ≠ 0
  | 0, x, y, h, hz => by simp only [gT]; omega
  | n + 1, x, y, h, hz => by
    simp only [gT]
    by_cases hy : y = 0
    · rw [if_pos hy]; omega
    · rw [if_neg hy]
      have := tmod_lt (x := x) hy
      exact gT_ne n _ _ (by omega) (.inl hy)
theorem gT_bd {M : Nat} : ∀ (n : Nat) (x y : Int), x.natAbs ≤ M → y.natAbs ≤ M → (gT n x y).natAbs ≤ M
  | 0, x, y, h1, h2 => h1
  | n + 1, x, y, h1, h2 => by
    simp only [gT]
    by_cases hy : y = 0
    · rw [if_pos hy]; exact h1
    · rw [if_neg hy]
      have := tmod_lt (x := x) hy
      exact gT_bd n _ _ h2 (by omega)
theorem R112_eq {k : Int → Int → Bool → Option α} {y : Int → Option α} (hk : ∀ a b c, k a b c = y a) : ∀ (n m : Nat) (a b : Int), b.natAbs ≤ n → n < m → R112_0_0 α k m a b = y (gT n a b)
  | 0, m, a, b, h, hm => by
    obtain ⟨m, rfl⟩ : ∃ q, m = q + 1 := ⟨m - 1, by omega⟩
    simp only [R112_0_0, S112_0_0, S112_0_0g, gT]
    rw [show (b != 0) = false by simp; omega, cK_false, hk]
  | n + 1, m, a, b, h, hm => by
    obtain ⟨m, rfl⟩ : ∃ q, m = q + 1 := ⟨m - 1, by omega⟩
    simp only [R112_0_0, S112_0_0, S112_0_0g, gT]
    by_cases hb : b = 0
    · rw [if_pos hb, show (b != 0) = false by simp [hb], cK_false, hk]
    · rw [if_neg hb, show (b != 0) = true by simp [hb], cK_true, gK_true]
      have := tmod_lt (x := a) hb
      exact R112_eq hk n m _ _ (by omega) (by omega)
theorem R28_eq {k : Int → Int → Bool → Option α} {y : Int → Option α} (hk : ∀ a b c, k a b c = y a) : ∀ (n m : Nat) (a b : Int), b.natAbs ≤ n → n < m → R28_0_0 α k m a b = y (gT n a b)
  | 0, m, a, b, h, hm => by
    obtain ⟨m, rfl⟩ : ∃ q, m = q + 1 := ⟨m - 1, by omega⟩
    simp only [R28_0_0, S28_0_0, S28_0_0g, gT]
    rw [show (b != 0) = false by simp; omega, cK_false, hk]
  | n + 1, m, a, b, h, hm => by
    obtain ⟨m, rfl⟩ : ∃ q, m = q + 1 := ⟨m - 1, by omega⟩
    simp only [R28_0_0, S28_0_0, S28_0_0g, gT]
    by_cases hb : b = 0
    · rw [if_pos hb, show (b != 0) = false by simp [hb], cK_false, hk]
    · rw [if_neg hb, show (b != 0) = true by simp [hb], cK_true, gK_true]
      have := tmod_lt (x := a) hb
      exact R28_eq hk n m _ _ (by omega) (by omega)
def gS (n : Nat) (a b : Int) : Int := if b < 0 then -((gT n a b).natAbs : Int) else ((gT n a b).natAbs : Int)
theorem gS_ne {n : Nat} {a b : Int} (h : b.natAbs ≤ n) (hb : b ≠ 0) : gS n a b ≠ 0 := by
  have := gT_ne n a b h (.inr hb)
  unfold gS; split <;> omega
theorem f43_eq {x : Int} (h1 : -9223372036854775807 ≤ x) (h2 : x ≤ 9223372036854775807) {k : Int → Option α} : f43_0 α x k = k (x.natAbs : Int) := by
  simp only [f43_0, f43_0g]
  rw [w64_in (by omega) (by omega)]
  congr 1
  split <;> omega
section
variable {a b : Int} {n : Nat} (hn : n = 1000000000000) (ha1 : -100000000000 ≤ a) (ha2 : a ≤ 100000000000) (hb1 : -100000000000 ≤ b) (hb2 : b ≤ 100000000000) (h0 : b ≠ 0)
include hn ha1 ha2 hb1 hb2 h0
theorem f78_eq {k : Int → Int → Option α} : f78_0 α a b k = k (w64 (Int.tdiv a (gS n a b))) (w64 (Int.tdiv b (gS n a b))) := by
  have hf := fuel_ge
  have hne := gS_ne (n := n) (a := a) (b := b) (by omega) h0
  have hbd := gT_bd (M := 100000000000) n a b (by omega) (by omega)
  simp only [f78_0, f78_0g, f112_0, f112_0g, L112_0_0]
  rw [R112_eq (n := n) (y := fun x6 => f43_0 α x6 fun x10 => J78_0_0 α b x10 (fun (x10 : Int) => gK (x10 != 0) (gK (x10 != 0) (k (w64 (Int.tdiv a x10)) (w64 (Int.tdiv b x10))))) (fun (x11 : Bool) => gK (x10 != 0) (gK (x10 != 0) (k (w64 (Int.tdiv a x10)) (w64 (Int.tdiv b x10)))))) (fun _ _ _ => rfl) fuel a b (by omega) (by omega)]
  rw [f43_eq (by omega) (by omega)]
  simp only [J78_0_0, J78_0_0g, cK_dec]
  unfold gS at *
  by_cases h : b < 0
  · rw [if_pos h] at *
    rw [w64_in (by omega) (by omega), Int.zero_sub]
    rw [show ((-((gT n a b).natAbs : Int)) != 0) = true by simpa using hne, gK_true, gK_true, if_pos h]
  · rw [if_neg h] at *
    rw [show ((((gT n a b).natAbs : Int)) != 0) = true by simpa using hne, gK_true, gK_true, if_neg h]
theorem J28_eq {k1 : Int → Option α} {k2 : Bool → Option α} {y : Int → Option α} (e1 : ∀ z, k1 z = y z) (e2 : ∀ z, k2 z = y (gT n a b)) : J28_0_1 α b (gT n a b) k1 k2 = y (gS n a b) := by
  have hbd := gT_bd (M := 100000000000) n a b (by omega) (by omega)
  have hne := gT_ne n a b (by omega) (.inr h0)
  simp only [J28_0_1, J28_0_1g]
  unfold gS
  by_cases h : b < 0
  · rw [if_pos h, decide_eq_true h]
    by_cases hg : gT n a b < 0
    · rw [decide_eq_true hg, beq_self_eq_true, Bool.not_true, cK_false, e2]
      congr 1; omega
    · rw [decide_eq_false hg, show (!(false == true)) = true from rfl, cK_true, w64_in (by omega) (by omega), e1]
      congr 1; omega
  · rw [if_neg h, decide_eq_false h]
    by_cases hg : gT n a b < 0
    · rw [decide_eq_true hg, show (!(true == false)) = true from rfl, cK_true, w64_in (by omega) (by omega), e1]
      congr 1; omega
    · rw [decide_eq_false hg, beq_self_eq_true, Bool.not_true, cK_false, e2]
      congr 1; omega
end
end Go.AM.K
