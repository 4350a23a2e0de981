/- Chapter 2: enclosures between two wavelengths, index and loss at one. -/
import Derived.Test.YtehamglokkjipaaGreatQGP8
namespace Go.AM.K
open Ieee
set_option linter.unusedVariables false
set_option linter.unusedSimpArgs false
set_option linter.unusedSectionVars false
variable {α : Type}
theorem cdv_le_iff {n d m : Int} (hd : 0 < d) : cdv n d ≤ m ↔ n ≤ m * d := by
  unfold cdv
  have := Int.le_ediv_iff_mul_le (a := -m) (b := -n) hd
  rw [Int.neg_mul] at this
  constructor
  · intro h; have := this.1 (by omega); omega
  · intro h; have := this.2 (by omega); omega
def hmin (g : Int → Int) (L : List Int) : Nat → Int
  | 0 => 0
  | i + 1 => if 0 < i then (if g (L.getD i 0) < hmin g L i then g (L.getD i 0) else hmin g L i) else g (L.getD i 0)
def hmax (g : Int → Int) (L : List Int) : Nat → Int
  | 0 => 0
  | i + 1 => if 0 < i then (if g (L.getD i 0) > hmax g L i then g (L.getD i 0) else hmax g L i) else g (L.getD i 0)
def wvs (lw : List Int) (lo hi : Int) (i : Nat) : List Int := [lo, hi] ++ (lw.take i).filter fun w => inB w lo hi
theorem wvs_len {lw : List Int} {lo hi : Int} {i : Nat} : 2 ≤ (wvs lw lo hi i).length ∧ (wvs lw lo hi i).length ≤ 2 + lw.length := by
  unfold wvs
  rw [List.length_append]
  have h1 : ((lw.take i).filter fun w => inB w lo hi).length ≤ (lw.take i).length := List.length_filter_le _ _
  have h2 : (lw.take i).length ≤ lw.length := by rw [List.length_take]; omega
  simp only [List.length_cons, List.length_nil]
  omega
theorem wvs_mem {lw : List Int} {lo hi : Int} {w : Int} : w ∈ wvs lw lo hi lw.length ↔ w = lo ∨ w = hi ∨ (∃ i, i < lw.length ∧ w = gW lw i) ∧ lo ≤ w ∧ w ≤ hi := by
  unfold wvs
  rw [List.take_length]
  simp only [List.cons_append, List.nil_append, List.mem_cons, List.mem_filter, inB_iff]
  have : w ∈ lw ↔ ∃ i, i < lw.length ∧ w = gW lw i := by
    rw [List.mem_iff_getElem]
    constructor
    · rintro ⟨i, hi, e⟩; exact ⟨i, hi, by unfold gW; rw [gD hi, e]⟩
    · rintro ⟨i, hi, e⟩; exact ⟨i, hi, by rw [e]; unfold gW; rw [gD hi]⟩
  rw [this]
theorem getD_mem {L : List Int} {i : Nat} (h : i < L.length) : L.getD i 0 ∈ L := by rw [gD h]; exact List.getElem_mem h
section
variable {lw : List Int} {lx ly : List Nat} (h : TabOk lw lx ly)
include h
theorem TabOk.at_bd {w : Int} (hw1 : 0 ≤ w) (hw2 : w ≤ 200000) {v : Nat → Int} (hv : ∀ i, i < lw.length → 0 ≤ v i ∧ v i ≤ 80000) : 0 < atD lw w ∧ atD lw w ≤ 200000 ∧ -32000000000 ≤ atN lw v w ∧ atN lw v w ≤ 32000000000 := by
  have hlt := h.seg_lt (wave := w)
  have sp := segGo_spec (lw := lw) (wave := w) lw.length 0 (by omega) (.inl rfl)
  have hn0 := h.n0
  unfold atN atD
  by_cases h1 : lw.length = 1
  · rw [if_pos h1, if_pos h1]
    have := hv 0 (by omega)
    omega
  · rw [if_neg h1, if_neg h1]
    have hs : seg lw w + 1 < lw.length := by unfold seg at *; omega
    have a1 := h.w _ hlt
    have a2 := h.w _ hs
    have u := h.up _ hs
    have v1 := hv _ hlt
    have v2 := hv _ hs
    unfold qN qD
    have p1 := mulB v1.1 v1.2 (show 0 ≤ gW lw (seg lw w + 1) - gW lw (seg lw w) by omega) (show gW lw (seg lw w + 1) - gW lw (seg lw w) ≤ 200000 by omega)
    have p2 : -(80000 * 200000) ≤ (v (seg lw w + 1) - v (seg lw w)) * (w - gW lw (seg lw w)) ∧ (v (seg lw w + 1) - v (seg lw w)) * (w - gW lw (seg lw w)) ≤ 80000 * 200000 := by
      by_cases hp : 0 ≤ w - gW lw (seg lw w)
      · exact mulS (by omega) (by omega) hp (by omega) (by decide)
      · have := mulS (x := v (seg lw w + 1) - v (seg lw w)) (y := -(w - gW lw (seg lw w))) (X := 80000) (Y := 200000) (by omega) (by omega) (by omega) (by omega) (by decide)
        rw [Int.mul_neg] at this
        omega
    omega
theorem TabOk.vx : ∀ i, i < lw.length → 0 ≤ gV lx i ∧ gV lx i ≤ 80000 := fun i hi => by have := (h.x i hi).2; omega
theorem TabOk.vy : ∀ i, i < lw.length → 0 ≤ gV ly i ∧ gV ly i ≤ 80000 := fun i hi => (h.y i hi).2
theorem TabOk.R120_0 {lo hi : Int} {k : Int → Bool → Rows → Option α} {y : Rows → Option α} (hk : ∀ a b c, k a b c = y c) :
    R194_0_0 α (lw.map rI1) (lw.length : Int) lo hi k fuel 0 ((wvs lw lo hi 0).map rI1) = y ((wvs lw lo hi lw.length).map rI1) := by
  have hn := h.n1
  refine loopF0 (α := α) (N := lw.length) (st := fun i => (wvs lw lo hi i).map rI1) (R := R194_0_0 α (lw.map rI1) (lw.length : Int) lo hi k) (by omega) (fun n i hil => ?_) (fun n => ?_)
  · simp only [R194_0_0, S194_0_0, S194_0_0g]
    rw [decide_eq_true (by omega), cK_true, h.rowW hil, f51_eq, w64_in (n := (i : Int) + 1) (by omega) (by omega), show (i : Int) + 1 = ((i + 1 : Nat) : Int) by omega]
    have hl := wvs_len (lw := lw) (lo := lo) (hi := hi) (i := i)
    have e : wvs lw lo hi (i + 1) = if inB (gW lw i) lo hi = true then wvs lw lo hi i ++ [gW lw i] else wvs lw lo hi i := by
      unfold wvs
      rw [List.take_add_one, List.getElem?_eq_getElem hil, List.filter_append]
      have : gW lw i = lw[i] := gD hil
      rw [this]
      split
      · rename_i hc; simp [hc]
      · rename_i hc; simp [hc]
    rw [e]
    cases hb : inB (gW lw i) lo hi with
    | false => rfl
    | true =>
      rw [if_pos rfl, cK_true]
      rw [show ([[DC.v (.int .i64 (gW lw i))]] : Rows) = [gW lw i].map rI1 from rfl, apOk_of (enc := rI1) (fun _ => rfl) (by simp; omega) (by simp; omega), gK_true, List.map_append]
  · simp only [R194_0_0, S194_0_0, S194_0_0g]
    rw [decide_eq_false (by omega), cK_false, hk]
theorem TabOk.R120_3 {s : ByteArray} {kd c0 c1 : Int} {L : List Int} (hL : L.length ≤ 1000) (hw : ∀ w ∈ L, 0 ≤ w ∧ w ≤ 200000) {k : Int → Bool → Int → Int → Int → Int → Option α} {y : Int → Int → Int → Int → Option α} (hk : ∀ a b c d e f, k a b c d e f = y c d e f) :
    R194_0_3 α (L.length : Int) s kd (lw.map rI1) (lx.map rF) (ly.map rF) c0 c1 (L.map rI1) k fuel 0 0 0 0 0 =
      y (hmin (flo lw (gV lx)) L L.length) (hmax (cei lw (gV lx)) L L.length) (hmin (flo lw (gV ly)) L L.length) (hmax (cei lw (gV ly)) L L.length) := by
  refine loopF0 (α := α) (N := L.length) (σ := Int × Int × Int × Int) (st := fun i => (hmin (flo lw (gV lx)) L i, hmax (cei lw (gV lx)) L i, hmin (flo lw (gV ly)) L i, hmax (cei lw (gV ly)) L i))
    (R := fun n i z => R194_0_3 α (L.length : Int) s kd (lw.map rI1) (lx.map rF) (ly.map rF) c0 c1 (L.map rI1) k n i z.1 z.2.1 z.2.2.1 z.2.2.2) (by omega) (fun n i hi => ?_) (fun n => ?_)
  · simp only [R194_0_3, S194_0_3, S194_0_3g, J194_0_1, J194_0_1g, J194_0_2, J194_0_2g]
    have hm := hw _ (getD_mem hi)
    rw [decide_eq_true (by omega), cK_true, ixK_m (enc := rI1) (fun _ => rfl) (by omega) (by omega), Int.toNat_natCast, ldK_N hi, h.f119 hm.1 hm.2]
    obtain ⟨d1, d2, n1, n2⟩ := h.at_bd hm.1 hm.2 h.vx
    obtain ⟨_, _, n3, n4⟩ := h.at_bd hm.1 hm.2 h.vy
    rw [f65_eq d1 (by omega) (by omega) (by omega), w64_in (n := (i : Int) + 1) (by omega) (by omega), show (i : Int) + 1 = ((i + 1 : Nat) : Int) by omega]
    by_cases h0 : 0 < i
    · rw [decide_eq_true (by omega), cK_true, f65_eq d1 (by omega) (by omega) (by omega), cK_true]
      simp only [hmin, hmax, if_pos h0]
      rfl
    · rw [decide_eq_false (by omega), cK_false, f65_eq d1 (by omega) (by omega) (by omega), cK_false]
      simp only [hmin, hmax, if_neg h0]
      rfl
  · simp only [R194_0_3, S194_0_3, S194_0_3g]
    rw [decide_eq_false (by omega), cK_false, hk]
def bLo (lw : List Int) (v : Nat → Int) (lo hi : Int) : Int := hmin (flo lw v) (wvs lw lo hi lw.length) (wvs lw lo hi lw.length).length
def bHi (lw : List Int) (v : Nat → Int) (lo hi : Int) : Int := hmax (cei lw v) (wvs lw lo hi lw.length) (wvs lw lo hi lw.length).length
theorem TabOk.f120 {s : ByteArray} {kd c0 c1 lo hi : Int} (h1 : 0 ≤ lo) (h2 : hi ≤ 200000) (h3 : lo ≤ hi) {k : Int → Int → Int → Int → Option α} :
    f194_0 α s kd (lw.map rI1) (lx.map rF) (ly.map rF) c0 c1 lo hi k = k (bLo lw (gV lx) lo hi) (bHi lw (gV lx) lo hi) (bLo lw (gV ly) lo hi) (bHi lw (gV ly) lo hi) := by
  have hl := wvs_len (lw := lw) (lo := lo) (hi := hi) (i := lw.length)
  have hn := h.n1
  simp only [f194_0, f194_0g, L194_0_0, L194_0_3, List.length_map]
  refine (h.R120_0 (lo := lo) (hi := hi) (y := fun x32 => R194_0_3 α ((List.length x32 : Nat) : Int) s kd (lw.map rI1) (lx.map rF) (ly.map rF) c0 c1 x32 (fun x116 x117 x118 x119 x120 x121 => k x118 x119 x120 x121) fuel 0 0 0 0 0) (fun _ _ _ => rfl)).trans ?_
  simp only [List.length_map]
  exact h.R120_3 (by omega) (fun w hw => by
    rw [wvs_mem] at hw
    rcases hw with rfl | rfl | ⟨_, g1, g2⟩ <;> omega) (fun _ _ _ _ _ _ => rfl)
end
def fN (a b w n : Int) : Int := a * (w * w) + n * b * 1000000
structure FrmOk (a b : Int) : Prop where
  a1 : 5000 ≤ a
  a2 : a ≤ 60000
  b1 : 0 ≤ b
  b2 : b ≤ 20000
theorem sqw {w : Int} (h1 : 1000 ≤ w) (h2 : w ≤ 200000) : 1000000 ≤ w * w ∧ w * w ≤ 40000000000 := ⟨Int.mul_le_mul h1 h1 (by decide) (by omega), Int.mul_le_mul h2 h2 (by omega) (by decide)⟩
theorem FrmOk.f129 {a b w n : Int} (h : FrmOk a b) (h1 : 1000 ≤ w) (h2 : w ≤ 200000) (hn : 0 ≤ n) (hn2 : n ≤ 3) {k : Int → Int → Option α} : f203_0 α a b w n k = k (fN a b w n) (w * w) := by
  have hs := sqw h1 h2
  obtain ⟨a1, a2, b1, b2⟩ := h
  have p1 := mulB (x := a) (y := w * w) (A := 60000) (B := 40000000000) (by omega) a2 (by omega) hs.2
  have p2 := mulB (x := n) (y := b) (A := 3) (B := 20000) hn hn2 b1 b2
  simp only [f203_0, f203_0g]
  rw [w64_in (n := w * w) (by omega) (by omega), w64_in (n := a * (w * w)) (by omega) (by omega), w64_in (n := n * b) (by omega) (by omega), w64_in (n := n * b * 1000000) (by omega) (by omega), w64_in (by omega) (by omega)]
  rfl
theorem FrmOk.bd {a b w n : Int} (h : FrmOk a b) (h1 : 1000 ≤ w) (h2 : w ≤ 200000) (hn : 0 ≤ n) (hn2 : n ≤ 3) : 0 ≤ fN a b w n ∧ fN a b w n ≤ 2500000000000000 := by
  have hs := sqw h1 h2
  obtain ⟨a1, a2, b1, b2⟩ := h
  have p1 := mulB (x := a) (y := w * w) (A := 60000) (B := 40000000000) (by omega) a2 (by omega) hs.2
  have p2 := mulB (x := n) (y := b) (A := 3) (B := 20000) hn hn2 b1 b2
  unfold fN; omega
theorem FrmOk.f126 {a b lo hi : Int} (h : FrmOk a b) (h1 : 1000 ≤ lo) (h2 : lo ≤ 200000) (h3 : 1000 ≤ hi) (h4 : hi ≤ 200000) {k : Int → Int → Option α} :
    f200_0 α a b lo hi k = k (fN a b hi 1 / (hi * hi)) (cdv (fN a b lo 1) (lo * lo)) := by
  have s1 := sqw h1 h2
  have s2 := sqw h3 h4
  have b1 := h.bd h1 h2 (n := 1) (by decide) (by decide)
  have b2 := h.bd h3 h4 (n := 1) (by decide) (by decide)
  simp only [f200_0, f200_0g]
  rw [h.f129 h3 h4 (by decide) (by decide), f108_eq (by omega) (by omega) (by omega) (by omega), h.f129 h1 h2 (by decide) (by decide), f109_eq (by omega) (by omega) (by omega) (by omega)]
theorem FrmOk.falls {a b u w : Int} (h : FrmOk a b) (h1 : 1000 ≤ u) (h2 : u ≤ w) (h3 : w ≤ 200000) : fN a b w 1 / (w * w) ≤ fN a b u 1 / (u * u) ∧ cdv (fN a b w 1) (w * w) ≤ cdv (fN a b u 1) (u * u) := by
  have s1 := sqw h1 (show u ≤ 200000 by omega)
  have s2 := sqw (show 1000 ≤ w by omega) h3
  have hsq : u * u ≤ w * w := Int.mul_le_mul h2 h2 (by omega) (by omega)
  have hb := h.b1
  have e : ∀ z : Int, fN a b z 1 = 1 * b * 1000000 + a * (z * z) := fun z => by unfold fN; omega
  obtain ⟨c, hc⟩ : ∃ c, 1 * b * 1000000 = c := ⟨_, rfl⟩
  have hc0 : 0 ≤ c := by omega
  constructor
  · rw [e, e, hc, Int.add_mul_ediv_right _ _ (by omega), Int.add_mul_ediv_right _ _ (by omega)]
    have : c / (w * w) ≤ c / (u * u) := by
      rw [Int.le_ediv_iff_mul_le (by omega)]
      have q0 : 0 ≤ c / (w * w) := Int.ediv_nonneg hc0 (by omega)
      have q1 := Int.mul_le_mul_of_nonneg_left hsq q0
      have q2 := Int.ediv_mul_le c (show w * w ≠ 0 by omega)
      omega
    omega
  · have q := (cdv_le_iff (n := fN a b u 1) (d := u * u) (m := cdv (fN a b u 1) (u * u)) (by omega)).1 (Int.le_refl _)
    rw [cdv_le_iff (by omega)]
    obtain ⟨M, hM⟩ : ∃ M, cdv (fN a b u 1) (u * u) = M := ⟨_, rfl⟩
    rw [hM] at q ⊢
    rw [e] at q ⊢
    rw [hc] at q ⊢
    -- c + a u² ≤ M u², so M - a ≥ 0 and c ≤ (M - a) u² ≤ (M - a) w²
    have g1 : c ≤ (M - a) * (u * u) := by rw [Int.sub_mul]; omega
    have g2 : 0 ≤ M - a := by
      apply Int.not_lt.1
      intro hx
      have := Int.mul_le_mul_of_nonneg_right (show M - a ≤ -1 by omega) (show 0 ≤ u * u by omega)
      omega
    have g3 := Int.mul_le_mul_of_nonneg_left hsq g2
    rw [Int.sub_mul, Int.sub_mul] at g3
    rw [Int.sub_mul] at g1
    omega
def near (n d : Int) : Int := (2 * n + d) / (2 * d)
end Go.AM.K
