/- MeterLocks. -/
import Derived.Test.YtjifpcjmnhnpkaaMW2
import Derived.Test.YtjifpcjmnhnpkaaMH0
import Derived.Test.YtjifpcjmnhnpkaaMH1
import Derived.Test.YtjifpcjmnhnpkaaKTt
namespace Go.AM.K
open Ieee
set_option linter.unusedVariables false
set_option linter.unusedSimpArgs false
variable {α : Type}
def cvt (a : Nat) : Nat := (f2f .f32 a .f64).getD 0
theorem cvt_num {a : Nat} (h : isNaNb .f32 a = false) : f2f .f32 a .f64 = some (cvt a) := by
  rcases read32 (n := a) with ⟨s, m, i, h1, h2, h3, h4⟩ | ⟨s, h1⟩ | hn
  · obtain ⟨y, _, _, e, _⟩ := f2f_num h1 h2 h3 h4
    simp only [cvt, e, Option.getD_some]
  · obtain ⟨y, e, _⟩ := f2f_inf h1
    simp only [cvt, e, Option.getD_some]
  · rw [hn] at h; cases h
def bE (p : Nat × Nat) : Int := if isNaNb .f32 p.1 = true ∨ isNaNb .f32 p.2 = true then 27 else pQ (cvt p.1) (cvt p.2)
def bP (p : Nat × Nat) : Int × Int := (ptv (cvt p.1), ptv (cvt p.2))
theorem fuel3 : ∃ n, fuel = n + 3 := ⟨fuel - 3, by have := fuel_ge; omega⟩
theorem f107_1_eq {x : Int} {k : Option α} : f107_1 α x k = k := by
  obtain ⟨n, hn⟩ := fuel3
  simp only [f107_1, f107_1g, L107_1_1, hn, R107_1_1, S107_1_1, S107_1_1g, J107_1_0, J107_1_0g]; rfl
theorem f107_2_eq {a : Nat} {x : Int} {k : Int → Option α} : f107_2 α a x k = k 27 := by
  obtain ⟨n, hn⟩ := fuel3
  simp only [f107_2, f107_2g, L107_2_2, hn, R107_2_2, S107_2_2, S107_2_2g, J107_2_0, J107_2_0g]; rfl
theorem f107_3_eq {a : Nat} {x : Int} {k : Int → Option α} : f107_3 α a x k = k 27 := by
  obtain ⟨n, hn⟩ := fuel3
  have hj : ∀ (kk : Bool → Option α), J107_3_1 α a kk = kk (badD a) := fun kk => (show J107_3_1 α a kk = J107_0_1 α a kk from rfl).trans J107_1_eq
  simp only [f107_3, f107_3g, L107_3_2, hn, R107_3_2, S107_3_2, S107_3_2g, J107_3_0, J107_3_0g, hj]
  cases badD a <;> rfl
theorem J55_eq {p : Nat × Nat} {k : Int → Int → Int → Option α} : J55_0_0 α p.1 p.2 k = if bE p = 0 then k 0 (bP p).1 (bP p).2 else k (bE p) 0 0 := by
  obtain ⟨a, b⟩ := p
  simp only [J55_0_0, J55_0_0g, f107_1_eq, f107_2_eq, f107_3_eq, bE, bP]
  cases ha : isNaNb .f32 a <;> cases hb : isNaNb .f32 b
  · simp only [cK_false, cvt_num ha, cvt_num hb, flK, f107_eqE, Bool.false_eq_true, or_self, if_false]
  · simp only [cK_false, cK_true, cvt_num ha, flK, or_true, if_true]; rfl
  · simp only [cK_false, cK_true, cvt_num hb, flK, true_or, if_true]; rfl
  · simp only [cK_true, or_self, if_true]; rfl
theorem f129_1_eq {x : Int} {k : Option α} : f129_1 α x k = k := rfl
theorem f108_1_eq {x : Int} {k : Option α} : f108_1 α x k = k := rfl
theorem f129_drop {a : Nat} {k : Option α} : f129_0 α a 4095 (fun _ _ => k) = k := by
  rw [f129_eqE]; split; rfl; split <;> rfl
theorem f108_2_eq {a : Nat} {k : Option α} : f108_2 α a 4095 k = k := by
  simp only [f108_2, f108_2g, f129_1_eq, f129_drop]
theorem f108_3_eq {a : Nat} {k : Option α} : f108_3 α a 4095 k = k := by
  simp only [f108_3, f108_3g, f129_1_eq]
  have : ∀ x4 : Int, cK (x4 == 27) k k = k := fun x4 => by cases (x4 == 27) <;> rfl
  simp only [this, f129_drop]
abbrev rC (p : Nat × Nat) : List DC := [.v (.complex .f32 p.1 p.2)]
theorem rowK_C {l : List (Nat × Nat)} {i : Nat} {f : Nat → Nat → Option α} (h : i < l.length) : rowK (l.map rC) (i : Int) [.cpx .f32] f = f (l[i]'h).1 (l[i]'h).2 :=
  (rowK_get (sh := [.cpx .f32]) (f := f) (r := rC (l[i]'h)) (by simp [h])).trans rfl
theorem J56_ok {l : List (Nat × Nat)} {i : Nat} (h : i < l.length) (h0 : bE (l[i]'h) = 0) {x : Int → Option α} {y : Int → Int → Option α} :
    J56_0_0 α (l.map rC) (i : Int) (fun u v e => cK (e != 0) (x e) (y u v)) = y (bP (l[i]'h)).1 (bP (l[i]'h)).2 := by
  simp only [J56_0_0, J56_0_0g]
  rw [rowK_C h]
  generalize l[i]'h = p at *
  obtain ⟨a, b⟩ := p
  unfold bE at h0
  simp only [bP]
  cases ha : isNaNb .f32 a <;> cases hb : isNaNb .f32 b
  · simp only [ha, hb, Bool.false_eq_true, or_self, if_false] at h0
    simp only [cK_false, cvt_num ha, cvt_num hb, flK, f108_okE h0, bne_self_eq_false]
  all_goals simp [ha, hb] at h0
theorem J56_err {l : List (Nat × Nat)} {i : Nat} (h : i < l.length) (h0 : bE (l[i]'h) ≠ 0) {x : Int → Option α} {y : Int → Int → Option α} :
    J56_0_0 α (l.map rC) (i : Int) (fun u v e => cK (e != 0) (x e) (y u v)) = x (bE (l[i]'h)) := by
  simp only [J56_0_0, J56_0_0g]
  rw [rowK_C h]
  generalize l[i]'h = p at *
  obtain ⟨a, b⟩ := p
  unfold bE at h0 ⊢
  simp only [f108_1_eq, f108_2_eq, f108_3_eq]
  cases ha : isNaNb .f32 a <;> cases hb : isNaNb .f32 b
  · simp only [ha, hb, Bool.false_eq_true, or_self, if_false] at h0
    obtain ⟨u, v, hh⟩ := f108_errE (α := α) h0
    simp only [cK_false, cvt_num ha, cvt_num hb, flK, hh, bne_iff_ne.2 h0, cK_true, Bool.false_eq_true, or_self, if_false]
  · simp only [cK_false, cK_true, cvt_num ha, flK, or_true, if_true]; rfl
  · simp only [cK_false, cK_true, cvt_num hb, flK, true_or, if_true]; rfl
  · simp only [cK_true, or_self, if_true]; rfl
def bErr : List (Nat × Nat) → Int
  | [] => 0
  | p :: r => if bE p = 0 then bErr r else bE p
theorem R55_eq {l : List (Nat × Nat)} (hl : l.length ≤ 70) {k1 : Int → Option α} {k2 : Int → Bool → Rows → Option α} : ∀ (m j n : Nat), j + m = l.length → m < n →
    R55_0_1 α (l.map rC) (l.length : Int) k1 k2 n (j : Int) (((l.take j).map bP).map rI2) = if bErr (l.drop j) = 0 then k2 (l.length : Int) false ((l.map bP).map rI2) else k1 (bErr (l.drop j)) := by
  intro m
  induction m with
  | zero =>
    intro j n h1 h2
    obtain ⟨n, rfl⟩ : ∃ z, n = z + 1 := ⟨n - 1, by omega⟩
    have hj : j = l.length := by omega
    subst hj
    simp only [R55_0_1, S55_0_1, S55_0_1g]
    rw [decide_eq_false (by omega), List.drop_length, List.take_length]; rfl
  | succ m ih =>
    intro j n h1 h2
    obtain ⟨n, rfl⟩ : ∃ z, n = z + 1 := ⟨n - 1, by omega⟩
    have hj : j < l.length := by omega
    have hd : l.drop j = l[j] :: l.drop (j + 1) := List.drop_eq_getElem_cons hj
    simp only [R55_0_1, S55_0_1, S55_0_1g]
    rw [decide_eq_true (by omega), cK_true, rowK_C hj, J55_eq, hd]
    by_cases h0 : bE l[j] = 0
    · simp only [if_pos h0, bErr, bne_self_eq_false, cK_false]
      have e : ((l.take j).map bP).map rI2 ++ [[DC.v (.int .i64 (bP l[j]).1), DC.v (.int .i64 (bP l[j]).2)]] = ((l.take (j + 1)).map bP).map rI2 := by
        rw [List.take_succ_eq_append_getElem hj, List.map_append, List.map_append]; rfl
      rw [show ([[DC.v (.int .i64 (bP l[j]).1), DC.v (.int .i64 (bP l[j]).2)]] : Rows) = [bP l[j]].map rI2 from rfl, apOk_of (enc := rI2) (n := 2) (fun _ => rfl) (by simp; omega) (by simp; omega), gK_true]
      rw [show ([bP l[j]].map rI2 : Rows) = [[DC.v (.int .i64 (bP l[j]).1), DC.v (.int .i64 (bP l[j]).2)]] from rfl, e, w64_in (n := (j : Int) + 1) (by omega) (by omega), show (j : Int) + 1 = ((j + 1 : Nat) : Int) by omega]
      exact ih (j + 1) n (by omega) (by omega)
    · simp only [if_neg h0, bErr, bne_iff_ne.2 h0, cK_true]
theorem bErr_ok : ∀ {l : List (Nat × Nat)}, bErr l = 0 → ∀ p ∈ l, bE p = 0
  | [], _, p, hp => by simp at hp
  | q :: r, h, p, hp => by
    unfold bErr at h
    by_cases h0 : bE q = 0
    · rw [if_pos h0] at h
      rcases List.mem_cons.1 hp with rfl | hp
      · exact h0
      · exact bErr_ok h p hp
    · rw [if_neg h0] at h; exact absurd h h0
theorem bE_bd {p : Nat × Nat} (h : bE p = 0) : (-4095 ≤ (bP p).1 ∧ (bP p).1 ≤ 4095) ∧ -4095 ≤ (bP p).2 ∧ (bP p).2 ≤ 4095 := by
  unfold bE at h
  split at h
  · cases h
  · exact pQ_bd h
theorem bPB {l : List (Nat × Nat)} (hl : l.length ≤ 70) (h : bErr l = 0) : PB (l.map bP) := ⟨by simpa using hl, fun x hx => by
  obtain ⟨p, hp, rfl⟩ := List.mem_map.1 hx
  have := bE_bd (bErr_ok h p hp)
  omega⟩
theorem R56_ok {l : List (Nat × Nat)} (hl : l.length ≤ 70) (h : bErr l = 0) {s : Int} {k1 : Int → Option α} {k2 : Int → Int → Int → Bool → Option α} : ∀ (m j n : Nat), j + m = l.length → m < n →
    R56_0_1 α (l.map rC) s k1 k2 n (sgR (l.map bP) (-(s % 4)) j) (sgI (l.map bP) (-(s % 4)) j) (j : Int) = k2 (sgR (l.map bP) (-(s % 4)) l.length) (sgI (l.map bP) (-(s % 4)) l.length) (l.length : Int) false := by
  intro m
  induction m with
  | zero =>
    intro j n h1 h2
    obtain ⟨n, rfl⟩ : ∃ z, n = z + 1 := ⟨n - 1, by omega⟩
    have hj : j = l.length := by omega
    subst hj
    simp only [R56_0_1, S56_0_1, S56_0_1g, List.length_map]
    rw [decide_eq_false (by omega)]; rfl
  | succ m ih =>
    intro j n h1 h2
    obtain ⟨n, rfl⟩ : ∃ z, n = z + 1 := ⟨n - 1, by omega⟩
    have hj : j < l.length := by omega
    have hpb := bPB hl h
    have b2 := sg_bd hpb (-(s % 4)) j
    have b3 := sg_bd hpb (-(s % 4)) (j + 1)
    have h0 : bE l[j] = 0 := bErr_ok h _ (List.getElem_mem hj)
    have hbd := bE_bd h0
    have hp : pr (l.map bP) j = bP l[j] := (gD (by simpa using hj)).trans (by simp)
    have hc : 0 ≤ s % 4 ∧ s % 4 < 4 := ⟨Int.emod_nonneg _ (by decide), Int.emod_lt_of_pos _ (by decide)⟩
    simp only [R56_0_1, S56_0_1, S56_0_1g, List.length_map]
    rw [decide_eq_true (by omega), cK_true, J56_ok hj h0 (x := fun x26 => k1 x26) (y := fun x24 x25 => f31_0 α s 4 fun x28 => f73_0 α x24 x25 (w64 ((w64 (0 - (j : Int))) * x28)) fun x29 x30 => R56_0_1 α (l.map rC) s k1 k2 n (w64 (sgR (l.map bP) (-(s % 4)) j + x29)) (w64 (sgI (l.map bP) (-(s % 4)) j + x30)) (w64 ((j : Int) + 1))), f31_4]
    have ih' := ih (j + 1) n (by omega) (by omega)
    generalize s % 4 = c at *
    have hm : -300 ≤ (j : Int) * c ∧ (j : Int) * c ≤ 300 := by
      have hu : c = 0 ∨ c = 1 ∨ c = 2 ∨ c = 3 := by omega
      rcases hu with rfl | rfl | rfl | rfl <;> omega
    have hw : w64 ((w64 (0 - (j : Int))) * c) = (j : Int) * (-c) := by
      rw [w64_in (n := 0 - (j : Int)) (by omega) (by omega), show 0 - (j : Int) = -(j : Int) by omega, w64_in (by rw [Int.neg_mul]; omega) (by rw [Int.neg_mul]; omega), Int.neg_mul, Int.mul_neg]
    have e1 : sgR (l.map bP) (-c) (j + 1) = sgR (l.map bP) (-c) j + rtR ((j : Int) * (-c)) (pr (l.map bP) j).1 (pr (l.map bP) j).2 := rfl
    have e2 : sgI (l.map bP) (-c) (j + 1) = sgI (l.map bP) (-c) j + rtI ((j : Int) * (-c)) (pr (l.map bP) j).1 (pr (l.map bP) j).2 := rfl
    rw [hw, f73_eq (by omega) (by omega), ← hp, w64_in (n := (j : Int) + 1) (by omega) (by omega), ← e1, ← e2, w64_in (n := sgR (l.map bP) (-c) (j + 1)) (by omega) (by omega), w64_in (n := sgI (l.map bP) (-c) (j + 1)) (by omega) (by omega), show (j : Int) + 1 = ((j + 1 : Nat) : Int) by omega]
    exact ih'
theorem R56_err {l : List (Nat × Nat)} (hl : l.length ≤ 70) {s : Int} {k1 : Int → Option α} {k2 : Int → Int → Int → Bool → Option α} : ∀ (m j n : Nat) (x y : Int), j + m = l.length → m < n → bErr (l.drop j) ≠ 0 →
    R56_0_1 α (l.map rC) s k1 k2 n x y (j : Int) = k1 (bErr (l.drop j)) := by
  intro m
  induction m with
  | zero =>
    intro j n x y h1 h2 h
    have hj : j = l.length := by omega
    subst hj
    rw [List.drop_length] at h; exact absurd rfl h
  | succ m ih =>
    intro j n x y h1 h2 h
    obtain ⟨n, rfl⟩ : ∃ z, n = z + 1 := ⟨n - 1, by omega⟩
    have hj : j < l.length := by omega
    have hd : l.drop j = l[j] :: l.drop (j + 1) := List.drop_eq_getElem_cons hj
    rw [hd] at h ⊢
    simp only [R56_0_1, S56_0_1, S56_0_1g, List.length_map]
    rw [decide_eq_true (by omega), cK_true]
    by_cases h0 : bE l[j] = 0
    · have hbd := bE_bd h0
      rw [J56_ok hj h0 (x := fun x26 => k1 x26) (y := fun x24 x25 => f31_0 α s 4 fun x28 => f73_0 α x24 x25 (w64 ((w64 (0 - (j : Int))) * x28)) fun x29 x30 => R56_0_1 α (l.map rC) s k1 k2 n (w64 (x + x29)) (w64 (y + x30)) (w64 ((j : Int) + 1))), f31_4, f73_eq (by omega) (by omega)]
      simp only [bErr, if_pos h0] at h ⊢
      rw [w64_in (n := (j : Int) + 1) (by omega) (by omega), show (j : Int) + 1 = ((j + 1 : Nat) : Int) by omega]
      exact ih (j + 1) n _ _ (by omega) (by omega) h
    · rw [J56_err hj h0 (x := fun x26 => k1 x26) (y := fun x24 x25 => f31_0 α s 4 fun x28 => f73_0 α x24 x25 (w64 ((w64 (0 - (j : Int))) * x28)) fun x29 x30 => R56_0_1 α (l.map rC) s k1 k2 n (w64 (x + x29)) (w64 (y + x30)) (w64 ((j : Int) + 1)))]
      simp only [bErr, if_neg h0]
theorem sg_congr {l : List (Int × Int)} {b c : Int} (h : b % 4 = c % 4) : ∀ j : Nat, sgR l b j = sgR l c j ∧ sgI l b j = sgI l c j
  | 0 => ⟨rfl, rfl⟩
  | j + 1 => by
    obtain ⟨h1, h2⟩ := sg_congr (l := l) h j
    have := rt_congr (re := (pr l j).1) (im := (pr l j).2) (mul_mod4 (rfl : (j : Int) % 4 = (j : Int) % 4) h)
    exact ⟨by simp only [sgR, h1, this.1], by simp only [sgI, h2, this.2]⟩
def lkE (l : List (Nat × Nat)) (s : Int) : Int := if l.length = 0 then 12 else if 64 < l.length then 8 else if bErr l = 0 then (if -1000 ≤ s ∧ s ≤ 1000 then 0 else 2) else bErr l
def lkX (l : List (Nat × Nat)) (s : Int) : Nat := if lkE l s = 0 then FloatKind.nearest .f64 (sgR (l.map bP) (-s) l.length) else 0
def lkY (l : List (Nat × Nat)) (s : Int) : Nat := if lkE l s = 0 then FloatKind.nearest .f64 (sgI (l.map bP) (-s) l.length) else 0
theorem f55_eq {l : List (Nat × Nat)} (hl : l.length ≤ 70) {s : Int} {k : Nat → Nat → Int → Option α} : f55_0 α (l.map rC) s k = k (lkX l s) (lkY l s) (lkE l s) := by
  have hf := fuel_ge
  unfold lkX lkY lkE
  simp only [f55_0, f55_0g, L55_0_1, List.length_map]
  by_cases c1 : l.length = 0
  · have : (((l.length : Nat) : Int) == 0) = true := by simp [c1]
    rw [this, cK_true]; simp only [if_pos c1]; rfl
  · have : (((l.length : Nat) : Int) == 0) = false := by simp; exact fun h => c1 (by simp [h])
    rw [this, cK_false]; simp only [if_neg c1]
    by_cases c2 : 64 < l.length
    · rw [decide_eq_true (by omega), cK_true]; simp only [if_pos c2]; rfl
    · rw [decide_eq_false (by omega), cK_false]; simp only [if_neg c2]
      have hR := R55_eq (α := α) hl (k1 := fun x31 => k 0 0 x31) (k2 := fun x32 x33 x34 => f109_0 α s 1000 fun x36 => cK (!x36) (k 0 0 2) (f68_0 α x34 (w64 (0 - s)) fun x37 x38 => f69_0 α x37 x38 fun x39 x40 => k x39 x40 0)) l.length 0 fuel (by omega) (by omega)
      simp only [List.take_zero, List.map_nil, List.drop_zero] at hR
      refine hR.trans ?_
      by_cases c3 : bErr l = 0
      · simp only [if_pos c3]
        rw [f109_eq (by decide) (by decide)]
        by_cases c4 : -1000 ≤ s ∧ s ≤ 1000
        · simp only [if_pos c4, decide_eq_true c4, Bool.not_true, cK_false]
          rw [f68_eq (bPB hl c3), List.length_map, w64_in (n := 0 - s) (by omega) (by omega), show 0 - s = -s by omega]
          rfl
        · simp only [if_neg c4, decide_eq_false c4, Bool.not_false, cK_true]; rfl
      · simp only [if_neg c3]
theorem f56_eq {l : List (Nat × Nat)} (hl : l.length ≤ 70) {s : Int} {k : Nat → Nat → Int → Option α} : f56_0 α (l.map rC) s k = k (lkX l s) (lkY l s) (lkE l s) := by
  have hf := fuel_ge
  unfold lkX lkY lkE
  simp only [f56_0, f56_0g, L56_0_1, List.length_map]
  by_cases c1 : l.length = 0
  · have : (((l.length : Nat) : Int) == 0) = true := by simp [c1]
    rw [this, cK_true]; simp only [if_pos c1]; rfl
  · have : (((l.length : Nat) : Int) == 0) = false := by simp; exact fun h => c1 (by simp [h])
    rw [this, cK_false]; simp only [if_neg c1]
    by_cases c2 : 64 < l.length
    · rw [decide_eq_true (by omega), cK_true]; simp only [if_pos c2]; rfl
    · rw [decide_eq_false (by omega), cK_false]; simp only [if_neg c2]
      by_cases c3 : bErr l = 0
      · have hR := R56_ok (α := α) hl c3 (s := s) (k1 := fun x31 => k 0 0 x31) (k2 := fun x32 x33 x34 x35 => f29_0 α s (-1000) 1000 fun x37 => cK (!x37) (k 0 0 2) (f74_0 α x32 x33 fun x38 x39 => k x38 x39 0)) l.length 0 fuel (by omega) (by omega)
        refine hR.trans ?_
        simp only [if_pos c3]
        rw [f29_eq]
        have hg := sg_congr (l := l.map bP) (b := -(s % 4)) (c := -s) (by omega) l.length
        by_cases c4 : -1000 ≤ s ∧ s ≤ 1000
        · simp only [if_pos c4, decide_eq_true c4, Bool.not_true, cK_false, hg.1, hg.2]
          rfl
        · simp only [if_neg c4, decide_eq_false c4, Bool.not_false, cK_true]; rfl
      · have hR := R56_err (α := α) hl (s := s) (k1 := fun x31 => k 0 0 x31) (k2 := fun x32 x33 x34 x35 => f29_0 α s (-1000) 1000 fun x37 => cK (!x37) (k 0 0 2) (f74_0 α x32 x33 fun x38 x39 => k x38 x39 0)) l.length 0 fuel 0 0 (by omega) (by omega) (by simpa using c3)
        refine hR.trans ?_
        rw [List.drop_zero]; simp only [if_neg c3]
theorem lk_next {l : List (Nat × Nat)} {s : Int} (h : lkE l s = 0) (hs : s ≤ 996) : lkE l (s + 4) = 0 ∧ lkX l (s + 4) = lkX l s ∧ lkY l (s + 4) = lkY l s ∧ -1000 ≤ s := by
  have h4 : -1000 ≤ s ∧ lkE l (s + 4) = 0 := by
    unfold lkE at h ⊢
    split at h
    · cases h
    · rename_i c1; rw [if_neg c1]
      split at h
      · cases h
      · rename_i c2; rw [if_neg c2]
        split at h
        · rename_i c3; rw [if_pos c3]
          split at h
          · rename_i c4; exact ⟨c4.1, by rw [if_pos (by omega)]⟩
          · cases h
        · rename_i c3; exact absurd h c3
  have hg := sg_congr (l := l.map bP) (b := -(s + 4)) (c := -s) (by omega) l.length
  refine ⟨h4.2, ?_, ?_, h4.1⟩
  · unfold lkX; rw [if_pos h4.2, if_pos h, hg.1]
  · unfold lkY; rw [if_pos h4.2, if_pos h, hg.2]
theorem f57_eq {a b : Nat} {k : Bool → Option α} : f57_0 α a b a b k = k true := by
  simp only [f57_0, f57_0g, beq_self_eq_true, cK_true]
abbrev rF3 (x : Nat) : List DC := [.v (.float .f32 x)]
theorem rowK_F3 {l : List Nat} {i : Nat} {f : Nat → Option α} (h : i < l.length) : rowK (l.map rF3) (i : Int) [.flt .f32] f = f (l[i]'h) :=
  (rowK_get (sh := [.flt .f32]) (f := f) (r := rF3 (l[i]'h)) (by simp [h])).trans rfl
theorem R13_eq {re im : List Nat} (h1 : re.length ≤ 70) (h2 : re.length ≤ im.length) {k : Int → Bool → Rows → Option α} : ∀ (m j n : Nat), j + m = re.length → m < n →
    R13_0_0 α (re.map rF3) (im.map rF3) k n (j : Int) (((re.zip im).take j).map rC) = k (re.length : Int) false ((re.zip im).map rC) := by
  intro m
  have hz : (re.zip im).length = re.length := by rw [List.length_zip]; omega
  induction m with
  | zero =>
    intro j n h3 h4
    obtain ⟨n, rfl⟩ : ∃ z, n = z + 1 := ⟨n - 1, by omega⟩
    have hj : j = re.length := by omega
    subst hj
    simp only [R13_0_0, S13_0_0, S13_0_0g, List.length_map]
    rw [decide_eq_false (by omega), List.take_of_length_le (by omega)]; rfl
  | succ m ih =>
    intro j n h3 h4
    obtain ⟨n, rfl⟩ : ∃ z, n = z + 1 := ⟨n - 1, by omega⟩
    have hj : j < re.length := by omega
    have hj2 : j < im.length := by omega
    have hj3 : j < (re.zip im).length := by omega
    simp only [R13_0_0, S13_0_0, S13_0_0g, List.length_map]
    rw [decide_eq_true (by omega), cK_true, rowK_F3 hj, rowK_F3 hj2]
    have e : ((re.zip im).take j).map rC ++ [[DC.v (.complex .f32 re[j] im[j])]] = ((re.zip im).take (j + 1)).map rC := by
      rw [List.take_succ_eq_append_getElem hj3, List.map_append]; simp
    rw [show ([[DC.v (.complex .f32 re[j] im[j])]] : Rows) = [(re[j], im[j])].map rC from rfl, apOk_of (enc := rC) (n := 1) (fun _ => rfl) (by simp; omega) (by simp; omega), gK_true, show ([(re[j], im[j])].map rC : Rows) = [[DC.v (.complex .f32 re[j] im[j])]] from rfl, e, w64_in (n := (j : Int) + 1) (by omega) (by omega), show (j : Int) + 1 = ((j + 1 : Nat) : Int) by omega]
    exact ih (j + 1) n (by omega) (by omega)
theorem law13 {re im : List Nat} {s : Int} {k : Bool → Option α} : f13_0 α (re.map rF3) (im.map rF3) s k = k true := by
  have hf := fuel_ge
  simp only [f13_0, f13_0g, f15_0, L13_0_0, List.length_map]
  by_cases c1 : 70 < re.length
  · rw [decide_eq_true (by omega), cK_true]
  rw [decide_eq_false (by omega), cK_false]
  by_cases c2 : im.length < re.length
  · rw [decide_eq_true (by omega), cK_true]
  rw [decide_eq_false (by omega), cK_false]
  have hz : (re.zip im).length ≤ 70 := by rw [List.length_zip]; omega
  have hR := @R13_eq α re im (by omega) (by omega)
  have hR0 := fun k => hR (k := k) re.length 0 fuel (by omega) (by omega)
  simp only [List.take_zero, List.map_nil] at hR0
  refine (hR0 _).trans ?_
  rw [apOk_of (enc := rC) (n := 1) (rows := []) (fun _ => rfl) (by simp; omega) (by simp; omega), gK_true, List.nil_append, f55_eq hz, f56_eq hz, bne_self_eq_false, cK_false, f57_eq, Bool.not_true, cK_false]
  by_cases c3 : lkE (re.zip im) s = 0
  · rw [c3, bne_self_eq_false, cK_false]
    by_cases c4 : 996 < s
    · rw [decide_eq_true c4, cK_true]
    · obtain ⟨n1, n2, n3, n4⟩ := lk_next c3 (by omega)
      rw [decide_eq_false c4, cK_false, w64_in (n := s + 4) (by omega) (by omega), f55_eq hz, n1, n2, n3, beq_self_eq_true, cK_true, f57_eq]
  · rw [bne_iff_ne.2 c3, cK_true]
end Go.AM.K
