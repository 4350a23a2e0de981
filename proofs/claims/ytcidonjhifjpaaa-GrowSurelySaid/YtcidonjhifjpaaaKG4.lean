/- Chapter 8: the program's turns; GrowTurns. -/
import Derived.Test.YtcidonjhifjpaaaKG3
namespace Go.AM.K
variable {α : Type}
set_option linter.unusedVariables false
set_option linter.unusedSimpArgs false

theorem takeS {A : Type} {S : List A} {k : Nat} (hi : k < S.length) : S.take (k + 1) = S.take k ++ [S[k]'hi] := by simp

theorem f81_eq {a : Int} {l : List Int} (hl : l.length < 1000) {k : Int → Option α} : f81_0 α ((a :: l).map rI1) k = k (mxL a l) := by
  simp only [f81_0, f81_0g, L81_0_0]
  have hf := fuel_ge
  have h1 : ¬ ((((a :: l).map rI1).length : Nat) : Int) < 1 := by simp; omega
  rw [decide_eq_false h1, cK_false, show (0 : Int) = ((0 : Nat) : Int) from rfl, rowK_N (s := a :: l) (by omega) (by simp), Int.toNat_natCast]
  have := loopF (N := l.length) (R := fun n (j : Int) (s : Int) => R81_0_0 α ((a :: l).map rI1) (fun x8 _ _ => k x8) n s (1 + j)) (st := fun j => mxL a (l.take j)) (fin := k (mxL a l)) (fun n j hj => ?_) (fun n => ?_) l.length 0 fuel (by omega) (by omega)
  · exact this
  · have hlt : (1 + (j : Int) < (((a :: l).length : Nat) : Int)) := by simp; omega
    simp only [R81_0_0, S81_0_0, S81_0_0g, List.length_map, hlt, decide_true, cK_true]
    rw [show (1 + (j : Int)) = ((j + 1 : Nat) : Int) by omega, rowK_N (s := a :: l) (by omega) (by simp; omega), Int.toNat_natCast, List.getD_cons_succ, w64_su (N := 1001) (by omega) (by omega), takeS hj, mxL_app, gD hj, show ((j + 1 + 1 : Nat) : Int) = 1 + ((j + 1 : Nat) : Int) by omega]
  · have hlt : ¬ (1 + (l.length : Int) < (((a :: l).length : Nat) : Int)) := by simp; omega
    simp only [R81_0_0, S81_0_0, S81_0_0g, List.length_map, hlt, decide_false, cK_false, List.take_length]
theorem f82_eq {a : Int} {l : List Int} (hl : l.length < 1000) {k : Int → Option α} : f82_0 α ((a :: l).map rI1) k = k (mnL a l) := by
  simp only [f82_0, f82_0g, L82_0_0]
  have hf := fuel_ge
  have h1 : ¬ ((((a :: l).map rI1).length : Nat) : Int) < 1 := by simp; omega
  rw [decide_eq_false h1, cK_false, show (0 : Int) = ((0 : Nat) : Int) from rfl, rowK_N (s := a :: l) (by omega) (by simp), Int.toNat_natCast]
  have := loopF (N := l.length) (R := fun n (j : Int) (s : Int) => R82_0_0 α ((a :: l).map rI1) (fun x8 _ _ => k x8) n s (1 + j)) (st := fun j => mnL a (l.take j)) (fin := k (mnL a l)) (fun n j hj => ?_) (fun n => ?_) l.length 0 fuel (by omega) (by omega)
  · exact this
  · have hlt : (1 + (j : Int) < (((a :: l).length : Nat) : Int)) := by simp; omega
    simp only [R82_0_0, S82_0_0, S82_0_0g, List.length_map, hlt, decide_true, cK_true]
    rw [show (1 + (j : Int)) = ((j + 1 : Nat) : Int) by omega, rowK_N (s := a :: l) (by omega) (by simp; omega), Int.toNat_natCast, List.getD_cons_succ, w64_su (N := 1001) (by omega) (by omega), takeS hj, mnL_app, gD hj, show ((j + 1 + 1 : Nat) : Int) = 1 + ((j + 1 : Nat) : Int) by omega]
  · have hlt : ¬ (1 + (l.length : Int) < (((a :: l).length : Nat) : Int)) := by simp; omega
    simp only [R82_0_0, S82_0_0, S82_0_0g, List.length_map, hlt, decide_false, cK_false, List.take_length]

/-- The first and the last one that is near, of a list that has one. -/
theorem lastK {q : Nat → Bool} {f : Nat} {n : Nat} (h : fsI q n = some f) : (match lsI q n with | some t => (t : Int) | none => (f : Int)) = match lsI q n with | some t => (t : Int) | none => 0 := by
  obtain ⟨_, _, k, h1, _⟩ := fs_ls h
  rw [h1]
theorem f83_0_eq {S : List Int} (hS : S.length ≤ 200) {b seen g top most : Int} {q : Nat → Bool} (hq : ∀ j, j < S.length → q j = decide (w64 (top - most) ≤ S.getD j 0)) {f t : Nat} (hf : fsI q S.length = some f) (ht : lsI q S.length = some t) {k : Bool → Int → Int → Int → Option α} :
    f83_0 α b (S.map rI1) g seen top most k = k (g == 1) (w64 (b + (f : Int))) (w64 (b + (t : Int))) seen := by
  have hfu := fuel_ge
  simp only [f83_0, f83_0g, f124_0, f124_0g, L124_0_0, L83_0_0, List.length_map]
  refine (loopS (N := S.length) (R := R124_0_0 α (S.map rI1) top most ((S.length : Nat) : Int) _ _) (p := fun j => if q j = true then some j else none)
    (yes := fun j => R83_0_0 α top most (S.map rI1) ((S.length : Nat) : Int) (fun x26 _ _ => k (g == 1) (w64 (b + (j : Int))) (w64 (b + x26)) seen) fuel (j : Int) 0) (no := R83_0_0 α top most (S.map rI1) ((S.length : Nat) : Int) (fun x26 _ _ => k (g == 1) (w64 (b + (-1))) (w64 (b + x26)) seen) fuel (-1) 0) (by omega) (fun n i hi => ?_) (fun n => ?_)).trans ?_
  · simp only [R124_0_0, S124_0_0, S124_0_0g, lt_len, hi, decide_true, cK_true, f84_0, f84_0g]
    rw [rowK_N (by omega) (by omega), Int.toNat_natCast, ← hq i hi, w64_su hi (by omega), orK_if]
  · simp only [R124_0_0, S124_0_0, S124_0_0g, Int.lt_irrefl, decide_false, cK_false]
  · have : srch (fun j => if q j = true then some j else none) S.length 0 = some f := hf
    rw [this, orK_some]
    have := loopF0 (N := S.length) (R := fun n i (s : Int) => R83_0_0 α top most (S.map rI1) ((S.length : Nat) : Int) (fun x26 _ _ => k (g == 1) (w64 (b + (f : Int))) (w64 (b + x26)) seen) n s i) (st := fun j => (match lsI q j with | some t => (t : Int) | none => (f : Int))) (fin := k (g == 1) (w64 (b + (f : Int))) (w64 (b + (t : Int))) seen) (by omega) (fun n i hi => ?_) (fun n => ?_)
    · exact this
    · simp only [R83_0_0, S83_0_0, S83_0_0g, lt_len, hi, decide_true, cK_true, f84_0, f84_0g]
      rw [rowK_N (by omega) (by omega), Int.toNat_natCast, ← hq i hi, w64_su hi (by omega), lsI_succ]
      cases q i <;> rfl
    · simp only [R83_0_0, S83_0_0, S83_0_0g, Int.lt_irrefl, decide_false, cK_false]
      rw [ht]
theorem f83_1_eq {S : List Int} (hS : S.length ≤ 200) {b seen g bot most : Int} {q : Nat → Bool} (hq : ∀ j, j < S.length → q j = decide (S.getD j 0 ≤ w64 (bot + most))) {f t : Nat} (hf : fsI q S.length = some f) (ht : lsI q S.length = some t) {k : Bool → Int → Int → Int → Option α} :
    f83_1 α b (S.map rI1) g seen bot most k = k (g == 1) (w64 (b + (f : Int))) (w64 (b + (t : Int))) seen := by
  have hfu := fuel_ge
  simp only [f83_1, f83_1g, f124_1, f124_1g, L124_1_0, L83_1_0, List.length_map]
  refine (loopS (N := S.length) (R := R124_1_0 α (S.map rI1) bot most ((S.length : Nat) : Int) _ _) (p := fun j => if q j = true then some j else none)
    (yes := fun j => R83_1_0 α bot most (S.map rI1) ((S.length : Nat) : Int) (fun x26 _ _ => k (g == 1) (w64 (b + (j : Int))) (w64 (b + x26)) seen) fuel (j : Int) 0) (no := R83_1_0 α bot most (S.map rI1) ((S.length : Nat) : Int) (fun x26 _ _ => k (g == 1) (w64 (b + (-1))) (w64 (b + x26)) seen) fuel (-1) 0) (by omega) (fun n i hi => ?_) (fun n => ?_)).trans ?_
  · simp only [R124_1_0, S124_1_0, S124_1_0g, lt_len, hi, decide_true, cK_true, f85_0, f85_0g]
    rw [rowK_N (by omega) (by omega), Int.toNat_natCast, ← hq i hi, w64_su hi (by omega), orK_if]
  · simp only [R124_1_0, S124_1_0, S124_1_0g, Int.lt_irrefl, decide_false, cK_false]
  · have : srch (fun j => if q j = true then some j else none) S.length 0 = some f := hf
    rw [this, orK_some]
    have := loopF0 (N := S.length) (R := fun n i (s : Int) => R83_1_0 α bot most (S.map rI1) ((S.length : Nat) : Int) (fun x26 _ _ => k (g == 1) (w64 (b + (f : Int))) (w64 (b + x26)) seen) n s i) (st := fun j => (match lsI q j with | some t => (t : Int) | none => (f : Int))) (fin := k (g == 1) (w64 (b + (f : Int))) (w64 (b + (t : Int))) seen) (by omega) (fun n i hi => ?_) (fun n => ?_)
    · exact this
    · simp only [R83_1_0, S83_1_0, S83_1_0g, lt_len, hi, decide_true, cK_true, f85_0, f85_0g]
      rw [rowK_N (by omega) (by omega), Int.toNat_natCast, ← hq i hi, w64_su hi (by omega), lsI_succ]
      cases q i <;> rfl
    · simp only [R83_1_0, S83_1_0, S83_1_0g, Int.lt_irrefl, decide_false, cK_false]
      rw [ht]

/-- Where it goes. -/
def gC (w : Nat) : Int := if w = 2 then -1 else (w : Int)
theorem seg_cons {L : List Int} {a i : Nat} (h1 : a < i) (h2 : i ≤ L.length) : ∃ x l, seg L a i = x :: l ∧ l.length < i := by
  have hl := seg_len (L := L) (a := a) (i := i) (by omega) h2
  cases hs : seg L a i with
  | nil => rw [hs] at hl; simp at hl; omega
  | cons x l => exact ⟨x, l, rfl, by rw [hs] at hl; simp at hl; omega⟩
section
variable {N : Int} {L : List Int} (hR : RN N L)
include hR
theorem trn_top {f i : Nat} (hfi : f < i) (h : i < L.length) (hc : 2 * N < mxL (L.getD i 0) (seg L f i) - L.getD i 0) {k : Bool → Int → Int → Int → Option α} :
    f83_0 α (f : Int) ((seg L f i).map rI1) 1 (i : Int) (mxL (L.getD i 0) (seg L f i)) (2 * N) k = k true (trn (nearT N L f i) f i true).2.1 (trn (nearT N L f i) f i true).2.2.1 (i : Int) := by
  have hl := hR.l
  have hN := hR.n
  have hmx := mx_bd hR (a := f) h
  have hsl := seg_len (L := L) (a := f) (i := i) (by omega) (by omega)
  obtain ⟨j, hj, hnj⟩ := nearT_ex hR (by omega) h hc
  obtain ⟨ff, hff⟩ := fs_ex hj hnj
  obtain ⟨g1, g2, t, g3, g4, g5, g6⟩ := fs_ls hff
  rw [f83_0_eq (by omega) (q := nearT N L f i) (fun j hj => by
    rw [hsl] at hj
    unfold nearT
    rw [w64_in (by omega) (by omega), seg_get (by omega)]) (by rw [hsl]; exact hff) (by rw [hsl]; exact g3)]
  simp only [trn, fsZ, hff, g3]
  rw [w64_in (n := (f : Int) + (ff : Int)) (by omega) (by omega), w64_in (n := (f : Int) + (t : Int)) (by omega) (by omega)]
  rfl
theorem trn_bot {f i : Nat} (hfi : f < i) (h : i < L.length) (hc : 2 * N < L.getD i 0 - mnL (L.getD i 0) (seg L f i)) {k : Bool → Int → Int → Int → Option α} :
    f83_1 α (f : Int) ((seg L f i).map rI1) (-1) (i : Int) (mnL (L.getD i 0) (seg L f i)) (2 * N) k = k false (trn (nearB N L f i) f i false).2.1 (trn (nearB N L f i) f i false).2.2.1 (i : Int) := by
  have hl := hR.l
  have hN := hR.n
  have hmn := mn_bd hR (a := f) h
  have hsl := seg_len (L := L) (a := f) (i := i) (by omega) (by omega)
  obtain ⟨j, hj, hnj⟩ := nearB_ex hR (by omega) h hc
  obtain ⟨ff, hff⟩ := fs_ex hj hnj
  obtain ⟨g1, g2, t, g3, g4, g5, g6⟩ := fs_ls hff
  rw [f83_1_eq (by omega) (q := nearB N L f i) (fun j hj => by
    rw [hsl] at hj
    unfold nearB
    rw [w64_in (by omega) (by omega), seg_get (by omega)]) (by rw [hsl]; exact hff) (by rw [hsl]; exact g3)]
  simp only [trn, fsZ, hff, g3]
  rw [w64_in (n := (f : Int) + (ff : Int)) (by omega) (by omega), w64_in (n := (f : Int) + (t : Int)) (by omega) (by omega)]
  rfl

theorem J22_2 {l : List Nat} (hL : L = l.map smp) {i : Nat} (h : i < l.length) (hx : chkX (l.getD i 0) = none) {st : Nat × Nat × List Turn} (hT : TI i st) (h1 : 1 ≤ i) {kn : Rows → Int → Int → Rows → Option α} :
    J22_0_2 α (l.map rF) (i : Int) (st.2.2.map rT) (2 * N) (st.2.1 : Int) (gC st.1) ((seg L st.2.1 i).map rI1) (fun x67 => kn (st.2.2.map rT) (st.2.1 : Int) (gC st.1) x67) (fun x68 x69 => kn x68 (i : Int) (-1) x69) (fun x70 => kn (st.2.2.map rT) (i : Int) (-1) x70) (fun x71 x72 => kn x71 (i : Int) 1 x72) (fun x73 => kn (st.2.2.map rT) (i : Int) 1 x73) (fun x74 => kn (st.2.2.map rT) (st.2.1 : Int) (gC st.1) x74) =
      kn ((stp N L i st).2.2.map rT) ((stp N L i st).2.1 : Int) (gC (stp N L i st).1) ((seg L (stp N L i st).2.1 (i + 1)).map rI1) := by
  obtain ⟨w, f, out⟩ := st
  have hf := hT.f
  have hw := hT.w
  have hn := hT.n
  simp only at hf hw hn ⊢
  have hLl : L.length = l.length := by rw [hL]; simp
  have h' : i < L.length := by omega
  have hl := hR.l
  have hN := hR.n
  have hfi : f < i := by omega
  have hxi : smp (l.getD i 0) = L.getD i 0 := by rw [hL, gD h, gD (by simpa using h)]; simp
  obtain ⟨a, sl, hs, hsl⟩ := seg_cons (L := L) hfi (by omega)
  have hbx := hR.b i
  have hmx := mx_bd hR (a := f) h'
  have hmn := mn_bd hR (a := f) h'
  simp only [J22_0_2, J22_0_2g]
  rw [rowK_F h, (smp_ok hx).1]
  show cK ((((seg L f i).map rI1).length : Int) == 0) _ _ = _
  have hne : ((((seg L f i).map rI1).length : Int) == 0) = false := beq_false_of_ne (by rw [hs]; simp; omega)
  rw [hne, cK_false, hxi]
  have e81 : ∀ k : Int → Option α, f81_0 α ((seg L f i).map rI1) k = k (mxL a sl) := fun k => by rw [hs]; exact f81_eq (by omega)
  have e82 : ∀ k : Int → Option α, f82_0 α ((seg L f i).map rI1) k = k (mnL a sl) := fun k => by rw [hs]; exact f82_eq (by omega)
  rw [e81, e82]
  have em : (if mxL a sl > L.getD i 0 then mxL a sl else L.getD i 0) = mxL (L.getD i 0) (seg L f i) := by rw [hs]; exact mx_swap
  have en : (if mnL a sl < L.getD i 0 then mnL a sl else L.getD i 0) = mnL (L.getD i 0) (seg L f i) := by rw [hs]; exact mn_swap
  rw [em, en]
  have j0 : ∀ k : Bool → Option α, J22_0_0 α (L.getD i 0) (2 * N) (gC w) (mxL (L.getD i 0) (seg L f i)) k = k (decide (w ≠ 2 ∧ 2 * N < mxL (L.getD i 0) (seg L f i) - L.getD i 0)) := fun k => by
    simp only [J22_0_0, J22_0_0g]
    rw [w64_in (n := mxL (L.getD i 0) (seg L f i) - L.getD i 0) (by omega) (by omega)]
    by_cases h2 : w = 2
    · subst h2; simp [gC]
    · have : (gC w != (-1)) = true := bne_iff_ne.2 (by unfold gC; rw [if_neg h2]; omega)
      rw [this, cK_true]; simp [h2]
  have j1 : ∀ k : Bool → Option α, J22_0_1 α (L.getD i 0) (2 * N) (gC w) (mnL (L.getD i 0) (seg L f i)) k = k (decide (w ≠ 1 ∧ 2 * N < L.getD i 0 - mnL (L.getD i 0) (seg L f i))) := fun k => by
    simp only [J22_0_1, J22_0_1g]
    rw [w64_in (n := L.getD i 0 - mnL (L.getD i 0) (seg L f i)) (by omega) (by omega)]
    by_cases h2 : w = 1
    · subst h2; simp [gC]
    · have : (gC w != 1) = true := bne_iff_ne.2 (by unfold gC; split <;> omega)
      rw [this, cK_true]; simp [h2]
  have hone : seg L i (i + 1) = [L.getD i 0] := by rw [seg_succ (by omega) h', seg_self]; rfl
  rw [j0]
  unfold stp
  simp only
  by_cases c1 : w ≠ 2 ∧ 2 * N < mxL (L.getD i 0) (seg L f i) - L.getD i 0
  · rw [decide_eq_true c1, cK_true, if_pos c1]
    simp only [hone]
    by_cases h1' : w = 1
    · subst h1'
      have g1 : gC 1 = 1 := rfl
      rw [g1, show ((1 : Int) == 1) = true from rfl, cK_true, trn_top hR hfi h' c1.2]
      show gK (apOk 4 32 (out.map rT) [rT (trn (nearT N L f i) f i true)]) (kn (out.map rT ++ [rT (trn (nearT N L f i) f i true)]) (i : Int) (-1) [[DC.v (.int .i64 (L.getD i 0))]]) = _
      rw [apT (by omega), gK_true, if_pos rfl, List.map_append]; rfl
    · have : (gC w == 1) = false := beq_false_of_ne (by unfold gC; split <;> omega)
      rw [this, cK_false, if_neg h1']; rfl
  · rw [decide_eq_false c1, cK_false, if_neg c1, j1]
    by_cases c2 : w ≠ 1 ∧ 2 * N < L.getD i 0 - mnL (L.getD i 0) (seg L f i)
    · rw [decide_eq_true c2, cK_true, if_pos c2]
      simp only [hone]
      by_cases h1' : w = 2
      · subst h1'
        have g1 : gC 2 = -1 := rfl
        rw [g1, show ((-1 : Int) == (-1)) = true from rfl, cK_true, trn_bot hR hfi h' c2.2]
        show gK (apOk 4 32 (out.map rT) [rT (trn (nearB N L f i) f i false)]) (kn (out.map rT ++ [rT (trn (nearB N L f i) f i false)]) (i : Int) 1 [[DC.v (.int .i64 (L.getD i 0))]]) = _
        rw [apT (by omega), gK_true, if_pos rfl, List.map_append]; rfl
      · have : (gC w == (-1)) = false := beq_false_of_ne (by unfold gC; rw [if_neg h1']; omega)
        rw [this, cK_false, if_neg h1']; rfl
    · rw [decide_eq_false c2, cK_false, if_neg c2]
      have hsl2 := seg_len (L := L) (a := f) (i := i) (by omega) (by omega)
      rw [show [[DC.v (Value.int .i64 (L.getD i 0))]] = [L.getD i 0].map rI1 from rfl, apOk_of (enc := rI1) (fun _ => rfl) (by simp [hsl2]; omega) (by simp [hsl2]; omega), gK_true, ← List.map_append, ← seg_succ (by omega) h']
end

theorem f22_eq {N : Int} {l : List Nat} (hl : l.length < 1000) {k : Rows → Int → Option α} : f22_0 α N (l.map rF) k = if (chkSig N l).2 ≠ 0 then k [] (chkSig N l).2 else k ((tst N (l.map smp) l.length).2.2.map rT) 0 := by
  simp only [f22_0, f22_0g]
  rw [f20_eq (by omega)]
  by_cases he : (chkSig N l).2 = 0
  · obtain ⟨h1, h2, h3⟩ := chkSig_ok he
    have hR := RN_of he
    rw [if_neg (by simp [he]), he]
    simp only [bne_self_eq_false, cK_false, List.length_map, L22_0_3]
    rw [w64_in (n := 2 * N) (by omega) (by omega)]
    have hlen : (l.map smp).length = l.length := by simp
    have hf := fuel_ge
    have key : ∀ (m i n : Nat), i + m = l.length → m < n → R22_0_3 α (l.map rF) ((l.length : Nat) : Int) (2 * N) (fun _ _ x78 _ _ _ => k x78 0) n (i : Int) ((tst N (l.map smp) i).2.2.map rT) ((tst N (l.map smp) i).2.1 : Int) (gC (tst N (l.map smp) i).1) ((seg (l.map smp) (tst N (l.map smp) i).2.1 i).map rI1) = k ((tst N (l.map smp) l.length).2.2.map rT) 0 := by
      intro m
      induction m with
      | zero =>
        intro i n e1 e2
        obtain ⟨n, rfl⟩ : ∃ z, n = z + 1 := ⟨n - 1, by omega⟩
        have : i = l.length := by omega
        subst this
        simp only [R22_0_3, S22_0_3, S22_0_3g, Int.lt_irrefl, decide_false, cK_false]
      | succ m ih =>
        intro i n e1 e2
        obtain ⟨n, rfl⟩ : ∃ z, n = z + 1 := ⟨n - 1, by omega⟩
        have hi : i < l.length := by omega
        simp only [R22_0_3, S22_0_3, S22_0_3g, lt_len, hi, decide_true, cK_true]
        rw [w64_su hi (by omega)]
        by_cases h0 : i = 0
        · subst h0
          have hxi : smp (l.getD 0 0) = (l.map smp).getD 0 0 := by rw [gD hi, gD (by simpa using hi)]; simp
          have hs : seg (l.map smp) 0 1 = [smp (l.getD 0 0)] := by rw [seg_succ (by omega) (by simpa using hi), seg_self, hxi]; rfl
          simp only [tst, seg_self, List.map_nil, J22_0_2, J22_0_2g]
          rw [rowK_F hi, (smp_ok (h3 0 hi)).1]
          show gK (apOk 1 8 ([] : Rows) ([smp (l.getD 0 0)].map rI1)) _ = _
          rw [apOk_of (enc := rI1) (fun _ => rfl) (by simp) (by simp), gK_true]
          have := ih 1 n (by omega) (by omega)
          simp only [tst, hs, List.map_nil] at this
          exact this
        · have hj := J22_2 (α := α) hR (L := l.map smp) rfl hi (h3 i hi) (tst_ok (N := N) (L := l.map smp) i (by omega)) (by omega) (kn := fun a b c d => R22_0_3 α (l.map rF) ((l.length : Nat) : Int) (2 * N) (fun _ _ x78 _ _ _ => k x78 0) n ((i + 1 : Nat) : Int) a b c d)
          refine Eq.trans hj ?_
          rw [← tst_succ (by omega)]
          exact ih (i + 1) n (by omega) (by omega)
    have := key l.length 0 fuel (by omega) (by omega)
    simp only [tst, seg_self, List.map_nil] at this
    exact this
  · rw [if_pos he]
    have : ((chkSig N l).2 != 0) = true := bne_iff_ne.2 he
    rw [this]; rfl

/-! ### The statement -/

theorem f21_eq {N : Int} {l : List Nat} (hl : l.length < 1000) {k : Int → Rows → Option α} : f21_0 α N (l.map rF) k = k N (l.map rF) := by
  simp only [f21_0, f21_0g]
  rw [gK_ap0 (enc := rF) (fun _ => rfl) (by omega) (by omega)]; rfl
theorem flT {out : List Turn} {x : Option α} : flatK [out.map rT] x = x := flatK_map (enc := rT) (fun _ => rfl)
abbrev t0 : Turn := (true, 0, 0, 0)
theorem ixK_T {out : List Turn} {i : Nat} (h : i < out.length) {x : Option α} : ixK (out.map rT) (i : Int) 4 x = x := ixK_m (enc := rT) (fun _ => rfl) (by omega) (by omega)
theorem ldK_T4 {out : List Turn} {i : Nat} (h : i < out.length) {f : Bool → Int → Int → Int → Option α} : ldK (out.map rT) i 0 [.bool, .int .i64, .int .i64, .int .i64] f = f (out.getD i t0).1 (out.getD i t0).2.1 (out.getD i t0).2.2.1 (out.getD i t0).2.2.2 := by
  have : decide (i < (out.map rT).length) = true := decide_eq_true (by simpa using h)
  unfold ldK; rw [this, rowAt_m (dA := t0) h]; rfl
theorem ldK_T0 {out : List Turn} {i : Nat} (h : i < out.length) {f : Bool → Option α} : ldK (out.map rT) i 0 [.bool] f = f (out.getD i t0).1 := by
  have : decide (i < (out.map rT).length) = true := decide_eq_true (by simpa using h)
  unfold ldK; rw [this, rowAt_m (dA := t0) h]; rfl
theorem ldK_T3 {out : List Turn} {i : Nat} (h : i < out.length) {f : Int → Option α} : ldK (out.map rT) i 3 [.int .i64] f = f (out.getD i t0).2.2.2 := by
  have : decide (i < (out.map rT).length) = true := decide_eq_true (by simpa using h)
  unfold ldK; rw [this, rowAt_m (dA := t0) h]; rfl

theorem law4 {N : Int} {l : List Nat} {k : Bool → Option α} : f4_0 α N (l.map rF) k = k true := by
  simp only [f4_0, f4_0g, f14_0, J4_0_0, J4_0_0g, List.length_map]
  have main : l.length ≤ 202 → (l.length ≤ 60 ∨ 200 < l.length) → ∀ b : Bool, (f21_0 α N (l.map rF) (fun (x9 : Int) (x10 : Rows) => f20_0 α x9 x10
          (fun (x11 : Int) (x12 : Int) => f21_0 α N (l.map rF)
            (fun (x13 : Int) (x14 : Rows) => f22_0 α x13 x14
              (fun (x15 : Rows) (x16 : Int) => flatK [x15]
                (f23_0 α N (l.map rF)
                  (fun (x17 : Int) (x18 : Int) => cK (x11 != x17)
                    (k false)
                    (cK (x12 != x18)
                      (k false)
                      (cK (x18 != 0)
                        (cK (x16 == x18)
                          (k (((List.length x15 : Nat) : Int) == 0))
                          (k false))
                        (f24_0 α N (l.map rF)
                          (fun (x19 : Rows) => cK (x16 != 0)
                            (k false)
                            (cK (((List.length x15 : Nat) : Int) != ((List.length x19 : Nat) : Int))
                              (k false)
                              (L4_0_1 α x15 x19
                                (k false)
                                (fun (x36 : Int) (x37 : Bool) => k true) 0))))))))))))) = k true := by
    intro h1 h2 b
    rw [f21_eq (by omega), f20_eq (by omega), f21_eq (by omega), f22_eq (by omega)]
    by_cases he : (chkSig N l).2 = 0
    · obtain ⟨g1, g2, g3⟩ := chkSig_ok he
      rw [if_neg (by simp [he]), flT, f23_eq (by omega), he]
      simp only [bne_self_eq_false, cK_false]
      rw [f24_eq he]
      simp only [bne_self_eq_false, cK_false, List.length_map, L4_0_1]
      by_cases hz : l.length = 0
      · have hl0 : l = [] := List.length_eq_zero_iff.1 hz
        subst hl0
        obtain ⟨n, hn⟩ : ∃ n, fuel = n + 1 := ⟨fuel - 1, by have := fuel_ge; omega⟩
        rw [hn]
        simp only [R4_0_1, S4_0_1, S4_0_1g, tst, List.map_nil, List.length_nil]
        rfl
      · have hT := tst_ok (N := N) (L := l.map smp) l.length (by omega)
        generalize (tst N (l.map smp) l.length) = st at hT ⊢
        have hn := hT.n
        have hf := fuel_ge
        refine (loopS (N := st.2.2.length) (R := R4_0_1 α (st.2.2.map rT) (st.2.2.map rT) (k false) (fun _ _ => k true)) (p := fun _ => (none : Option Unit)) (yes := fun _ => k false) (no := k true) (by omega) (fun n i hi => ?_) (fun n => ?_)).trans ?_
        · simp only [R4_0_1, S4_0_1, S4_0_1g, List.length_map, lt_len, hi, decide_true, cK_true]
          rw [ixK_T hi, Int.toNat_natCast, ldK_T4 hi, ixK_T hi, ldK_T4 hi]
          simp only [beq_self_eq_true, Bool.and_self, Bool.not_true, cK_false, orK_none]
          rw [w64_su hi (by omega)]
          cases i with
          | zero => rfl
          | succ i =>
            have hp : (0 : Int) < ((i + 1 : Nat) : Int) := by omega
            have hi' : i < st.2.2.length := by omega
            obtain ⟨a1, a2⟩ := hT.a i hi
            rw [decide_eq_true hp, cK_true, ixK_T hi, ldK_T0 hi, w64_in (n := ((i + 1 : Nat) : Int) - 1) (by omega) (by omega), show ((i + 1 : Nat) : Int) - 1 = (i : Int) by omega, ixK_T hi', Int.toNat_natCast, ldK_T0 hi']
            have e1 : ((st.2.2.getD (i + 1) t0).1 == (st.2.2.getD i t0).1) = false := beq_false_of_ne a1
            rw [e1, cK_false, ixK_T hi, ldK_T3 hi, ixK_T hi', ldK_T3 hi']
            have a2' : (st.2.2.getD i t0).2.2.2 < (st.2.2.getD (i + 1) t0).2.2.2 := a2
            have e2 : ¬ (st.2.2.getD (i + 1) t0).2.2.2 ≤ (st.2.2.getD i t0).2.2.2 := by omega
            rw [decide_eq_false e2, cK_false]
        · simp only [R4_0_1, S4_0_1, S4_0_1g, List.length_map, Int.lt_irrefl, decide_false, cK_false]
        · have : srch (fun _ => (none : Option Unit)) st.2.2.length 0 = none := srch_none.2 fun _ _ _ => rfl
          rw [this]; rfl
    · rw [if_pos he, show flatK (α := α) [([] : Rows)] = fun x => x from rfl, f23_eq (by omega)]
      have : ((chkSig N l).2 != 0) = true := bne_iff_ne.2 he
      simp [this]
  by_cases h60 : 60 < l.length
  · have h60' : (60 : Int) < ((l.length : Nat) : Int) := by omega
    by_cases h200 : l.length ≤ 200
    · have h200' : ((l.length : Nat) : Int) ≤ 200 := by omega
      simp [h60', h200']
    · have h200' : ¬ ((l.length : Nat) : Int) ≤ 200 := by omega
      by_cases h202 : 202 < l.length
      · have h202' : (202 : Int) < ((l.length : Nat) : Int) := by omega
        simp [h60', h200', h202']
      · have h202' : ¬ (202 : Int) < ((l.length : Nat) : Int) := by omega
        simp only [h60', h200', h202', decide_true, decide_false, cK_true, cK_false]
        exact main (by omega) (by omega) false
  · have h60' : ¬ (60 : Int) < ((l.length : Nat) : Int) := by omega
    have h202' : ¬ (202 : Int) < ((l.length : Nat) : Int) := by omega
    simp only [h60', h202', decide_false, cK_false]
    exact main (by omega) (by omega) false

end Go.AM.K
