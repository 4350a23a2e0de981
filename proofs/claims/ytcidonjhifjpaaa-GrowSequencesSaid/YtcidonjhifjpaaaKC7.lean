/- Chapter 8: labels, the iterator of safe states; GrowClaims. -/
import Derived.Test.YtcidonjhifjpaaaKC6
namespace Go.AM.K
variable {α : Type}
set_option linter.unusedVariables false
set_option linter.unusedSimpArgs false

/-- The safe states behind one switch. -/
def prI (a b : Int) : Int × Int := (a, b)
def nxF (R : List Rule) (n i : Nat) : Option (Int × Int) := if sfN R (n ^^^ 2 ^ i) = true then some (prI (i : Int) ((n ^^^ 2 ^ i : Nat) : Int)) else none
def nxt (R : List Rule) (d n : Nat) : List (Int × Int) := (List.range' 0 d).filterMap (nxF R n)

theorem dx_ex (a : xII.X) : xII.dx (xII.ex a) = some a := rfl
theorem decL_map : ∀ (l : List xII.X), decL xII (l.map xII.ex) = some l
  | [] => rfl
  | a :: r => by
    have ih := decL_map r
    simp only [List.map_cons, decL, ih, dx_ex a]

theorem xK_map (l : List xII.X) (f : List xII.X → Option α) : xK xII (l.map xII.ex) f = f l := by unfold xK; rw [decL_map]

section
variable {D : List ByteArray} {R : List Rule} {s t : List Bool}

theorem nextGo_eq {n : Nat} (hg : GC D R) (hn : n < 2 ^ D.length) : ∀ (l : List Nat), (∀ i ∈ l, i < D.length) → nextGo E131q.env [.sl (D.map rS), .sl (R.map rR)] (n : Int) l = some ((l.filterMap (nxF R n)).map xII.ex)
  | [], _ => rfl
  | i :: r, h => by
    have h8 := hg.d8
    have hr := hg.r30
    have hi : i < D.length := h i (by simp)
    have e1 : E131q.env 105 [(false, [.v (.int .i64 (n : Int))]), (false, [.v (.int .i64 (i : Int))])] = f105_0 _ (n : Int) (i : Int) (fun m => some [(false, [.d (.v (.int .i64 m))])]) := rfl
    have e2 : ∀ m : Int, E131q.env 116 [(true, [.sl (D.map rS), .sl (R.map rR)]), (false, [.v (.int .i64 m)])] = f116_0 _ (D.map rS) (R.map rR) m (fun b => some [(false, [.d (.v (.bool b))])]) := fun _ => rfl
    rw [f105_n (Nat.lt_of_lt_of_le hn (pow8 h8)) (by omega)] at e1
    have hx : n ^^^ 2 ^ i < 2 ^ D.length := xor_lt hn hi
    have e2' := e2 ((n ^^^ 2 ^ i : Nat) : Int)
    rw [f116_n hg.rin h8 hx (by omega)] at e2'
    have ih := nextGo_eq hg hn r fun j hj => h j (List.mem_cons_of_mem _ hj)
    simp only [nextGo, e1, e2', ih]
    cases hs : sfN R (n ^^^ 2 ^ i) with
    | false =>
      have e : nxF R n i = none := by unfold nxF; rw [hs]; rfl
      rw [List.filterMap_cons_none e]; rfl
    | true =>
      have e : nxF R n i = some (prI (i : Int) ((n ^^^ 2 ^ i : Nat) : Int)) := by unfold nxF; rw [hs]; rfl
      rw [List.filterMap_cons_some e]; rfl

theorem q_eq {n : Nat} (hg : GC D R) (hn : n < 2 ^ D.length) {f : List xII.X → Option α} : qK (q131 (D.map rS) (R.map rR) (n : Int)) xII f = f (nxt R D.length n) := by
  have h8 := hg.d8
  have : q131 (D.map rS) (R.map rR) (n : Int) = some ((nxt R D.length n).map xII.ex) := by
    have hl : (D.map rS).length < 1000 := by simp; omega
    simp only [q131, nextSq, if_true, List.length_map]
    rw [if_pos (show D.length < 1000 by omega)]
    exact nextGo_eq hg hn (List.range' 0 D.length) fun i hi => by have := List.mem_range'_1.1 hi; omega
  rw [this]
  exact xK_map (nxt R D.length n) f

/-- A label that is too great behind a switch. -/
def badP (R : List Rule) (L : List Int) (n i : Nat) : Option Unit := if (sfN R (n ^^^ 2 ^ i) && decide (L.getD n 0 + 1 < L.getD (n ^^^ 2 ^ i) 0)) = true then some () else none
def badN (R : List Rule) (d : Nat) (L : List Int) (n : Nat) : Option Unit := if sfN R n = true then srch (badP R L n) d 0 else none
def rngP (L : List Int) (i : Nat) : Option Unit := if (!inW (L.getD i 0) 0 1000) = true then some () else none
def labR (R : List Rule) (d : Nat) (L : List Int) (n m : Nat) : Int × Int :=
  if L.length ≠ 2 ^ d then (0, 12) else match srch (rngP L) L.length 0 with
    | some _ => (0, 2)
    | none => if L.getD n 0 ≠ 0 then (0, 20) else match srch (badN R d L) L.length 0 with
      | some _ => (0, 20)
      | none => (L.getD m 0, 0)

theorem rng_ok {L : List Int} (h : srch (rngP L) L.length 0 = none) (i : Nat) : 0 ≤ L.getD i 0 ∧ L.getD i 0 ≤ 1000 := by
  by_cases hi : i < L.length
  · have := srch_none.1 h i (by omega) (by omega)
    unfold rngP at this
    cases hw : inW (L.getD i 0) 0 1000 with
    | false => rw [hw] at this; cases this
    | true => simpa [inW] using hw
  · rw [List.getD_eq_getElem?_getD, List.getElem?_eq_none (by omega)]; simp

theorem V60 {d n : Nat} {L : List Int} (hn : n < 2 ^ d) (hL : L.length = 2 ^ d) (hr : srch (rngP L) L.length 0 = none) {k1 k2 : Option α} : ∀ (m i : Nat), i + m = d → V60_0_5 α (L.map rI1) (n : Int) k1 k2 ((List.range' i m).filterMap (nxF R n)) = orK (srch (badP R L n) m i) (fun _ => k2) k1
  | 0, i, _ => rfl
  | m + 1, i, h => by
    have ih := V60 hn hL hr (k1 := k1) (k2 := k2) m (i + 1) (by omega)
    have hx : n ^^^ 2 ^ i < 2 ^ d := xor_lt hn (by omega)
    rw [List.range'_succ]
    simp only [srch]
    cases hs : sfN R (n ^^^ 2 ^ i) with
    | false =>
      have e : nxF R n i = none := by unfold nxF; rw [hs]; rfl
      have e2 : badP R L n i = none := by unfold badP; rw [hs]; rfl
      rw [List.filterMap_cons_none e, e2]; exact ih
    | true =>
      have e : nxF R n i = some (prI (i : Int) ((n ^^^ 2 ^ i : Nat) : Int)) := by unfold nxF; rw [hs]; rfl
      rw [List.filterMap_cons_some e]
      simp only [hs, badP, Bool.true_and, V60_0_5, S60_0_5, S60_0_5g, prI]
      have h1 := rng_ok hr n
      rw [rowK_N (by omega) (by omega), rowK_N (by omega) (by omega), Int.toNat_natCast, Int.toNat_natCast, w64_in (n := L.getD n 0 + 1) (by omega) (by omega)]
      cases decide (L.getD n 0 + 1 < L.getD (n ^^^ 2 ^ i) 0) with
      | true => rfl
      | false => simp only [cK_false, Bool.false_eq_true, if_false]; exact ih

theorem pow_w {d : Nat} (h : d ≤ 20) : gK (α := α) (decide (0 ≤ ((d : Nat) : Int))) = (fun x => x) ∧ w64 (1 * 2 ^ (min (Int.toNat ((d : Nat) : Int)) 64)) = ((2 ^ d : Nat) : Int) := by
  constructor
  · have : (0 : Int) ≤ (d : Int) := by omega
    funext x; simp [this]
  · rw [Int.toNat_natCast, Nat.min_eq_left (by omega)]
    have h20 : 2 ^ d ≤ 2 ^ 20 := Nat.pow_le_pow_right (by decide) h
    have hp : 0 < 2 ^ d := Nat.two_pow_pos d
    rw [show (1 * 2 ^ d : Int) = ((2 ^ d : Nat) : Int) by simp, w64_in (by omega) (by omega)]

theorem f60_eq {L : List Int} (hR : R.length < 1000) (hb : ∀ x ∈ D, x.size ≤ 9223372036854775807) {k : Int → Int → Option α} :
    f60_0 α (D.map rS) (R.map rR) (s.map rB1) (t.map rB1) (L.map rI1) k = if chE D R s t ≠ 0 then k 0 (chE D R s t) else k (labR R D.length L (num s) (num t)).1 (labR R D.length L (num s) (num t)).2 := by
  simp only [f60_0, f60_0g, J60_0_0, J60_0_0g, List.length_map]
  rw [f109_eq hR hb]
  by_cases he : chE D R s t = 0
  · have hc := chE_ok he
    have h8 := hc.gc.d8
    have h256 := pow8 h8
    rw [if_neg (by simp [he]), if_neg (by simp [he]), (pow_w (α := α) (d := D.length) (by omega)).1, (pow_w (α := α) (d := D.length) (by omega)).2]
    simp only [labR]
    by_cases hL : L.length = 2 ^ D.length
    · have hL' : (((L.length : Nat) : Int) != ((2 ^ D.length : Nat) : Int)) = false := by simp [hL]
      rw [hL', cK_false, if_neg (by simp [hL])]
      simp only [L60_0_4]
      refine (loopS (N := L.length) (R := R60_0_4 α (L.map rI1) ((L.length : Nat) : Int) (k 0 2) _) (p := rngP L) (yes := fun _ => k 0 2) (no := rowK (L.map rI1) (num s : Int) [.int .i64] (fun (x103 : Int) => cK (x103 != 0) (k 0 20) (L60_0_6 α ((L.length : Nat) : Int) (L.map rI1) (D.map rS) (R.map rR) (fun _ _ _ _ _ => k 0 20) (fun _ _ => rowK (L.map rI1) (num t : Int) [.int .i64] (fun (x148 : Int) => k x148 0)) 0))) (by omega) (fun n i hi => ?_) (fun n => ?_)).trans ?_
      · simp only [R60_0_4, S60_0_4, S60_0_4g, lt_len, hi, decide_true, cK_true]
        rw [rowK_N (by omega) (by omega), f78_eq, w64_su hi (by omega), Int.toNat_natCast]
        unfold rngP inW
        rw [orK_if]
      · simp only [R60_0_4, S60_0_4, S60_0_4g, Int.lt_irrefl, decide_false, cK_false]
      · cases hr : srch (rngP L) L.length 0 with
        | some u => rfl
        | none =>
          simp only [orK_none]
          have hsn := hc.sn
          have htn := hc.symm.sn
          rw [rowK_N (by omega) (by omega), Int.toNat_natCast]
          by_cases hz : L.getD (num s) 0 = 0
          · have : (L.getD (num s) 0 != 0) = false := by rw [hz]; rfl
            rw [this, cK_false, if_neg (fun h => h hz)]
            simp only [L60_0_6]
            refine (loopS (N := L.length) (R := R60_0_6 α ((L.length : Nat) : Int) (L.map rI1) (D.map rS) (R.map rR) (fun _ _ _ _ _ => k 0 20) _) (p := badN R D.length L) (yes := fun _ => k 0 20) (no := rowK (L.map rI1) (num t : Int) [.int .i64] (fun (x148 : Int) => k x148 0)) (by omega) (fun n i hi => ?_) (fun n => ?_)).trans ?_
            · simp only [R60_0_6, S60_0_6, S60_0_6g, lt_len, hi, decide_true, cK_true]
              rw [f116_n hc.gc.rin h8 (by omega) hR, w64_su hi (by omega)]
              unfold badN
              cases hs : sfN R i with
              | false => simp
              | true =>
                simp only [Bool.not_true, cK_false, f111_0, f111_0g, if_true]
                rw [q_eq hc.gc (by omega)]
                exact V60 (by omega) hL hr D.length 0 (by omega)
            · simp only [R60_0_6, S60_0_6, S60_0_6g, Int.lt_irrefl, decide_false, cK_false]
            · cases srch (badN R D.length L) L.length 0 with
              | some u => rfl
              | none => rw [orK_none, rowK_N (by omega) (by omega), Int.toNat_natCast]
          · have : (L.getD (num s) 0 != 0) = true := bne_iff_ne.2 hz
            rw [this, if_pos hz]; rfl
    · have hL' : (((L.length : Nat) : Int) != ((2 ^ D.length : Nat) : Int)) = true := by simp only [bne_iff_ne, ne_eq]; omega
      rw [hL', if_pos hL]; rfl
  · rw [if_pos he, if_pos he]
    have : (chE D R s t != 0) = true := by simpa using he
    rw [this]; rfl

/-! ### The document's -/

theorem R64 {d : Nat} {l : List Int} (hg : GC D R) (hd : D.length = d) (hl : l.length ≤ 1000) {k1 : Int → Option α} {k2 : Rows → Int → Bool → Option α} {fin : Nat → Option α} (hk : ∀ a b c, k2 ((lst d a).map rB1) b c = fin a) : ∀ (m i n st : Nat), i + m = l.length → m < n → st < 2 ^ d →
    R64_0_0 α (l.map rI1) (D.map rS) (R.map rR) k1 k2 n ((lst d st).map rB1) (i : Int) = match wlk R d (l.drop i) st with | .inl e => k1 e | .inr p => fin p := by
  have h8 := hg.d8
  have hr := hg.r30
  intro m
  induction m with
  | zero =>
    intro i n st h1 h2 h3
    obtain ⟨n, rfl⟩ : ∃ k, n = k + 1 := ⟨n - 1, by omega⟩
    rw [List.drop_eq_nil_of_le (by omega)]
    have : ¬ i < l.length := by omega
    simp only [R64_0_0, S64_0_0, S64_0_0g, List.length_map, lt_len, this, decide_false, cK_false, hk, wlk]
  | succ m ih =>
    intro i n st h1 h2 h3
    obtain ⟨n, rfl⟩ : ∃ k, n = k + 1 := ⟨n - 1, by omega⟩
    have hi : i < l.length := by omega
    rw [dN hi]
    simp only [R64_0_0, S64_0_0, S64_0_0g, lt_len, hi, decide_true, cK_true, List.length_map, wlk]
    rw [rowK_N (by omega) (by omega), Int.toNat_natCast, f19_eq, w64_in (n := (D.length : Int) - 1) (by omega) (by omega), hd]
    show cK (!inW (l.getD i 0) 0 ((d : Int) - 1)) _ _ = _
    by_cases hx : inW (l.getD i 0) 0 ((d : Int) - 1) = false
    · rw [hx]; rfl
    · have hx2 : 0 ≤ l.getD i 0 ∧ l.getD i 0 < (d : Int) := by
        by_cases h : 0 ≤ l.getD i 0 ∧ l.getD i 0 < (d : Int)
        · exact h
        · exact absurd (inW_f.2 h) hx
      have hx3 : inW (l.getD i 0) 0 ((d : Int) - 1) = true := by simpa using hx
      rw [hx3]
      simp only [Bool.not_true, cK_false, Bool.true_eq_false, if_false]
      rw [rowK_N (by omega) (by omega), Int.toNat_natCast]
      generalize l.getD i 0 = x at *
      have h4 : st ^^^ 2 ^ x.toNat < 2 ^ d := xor_lt h3 (by omega)
      rw [f53_eq (by simp; omega) hx2.1 (by simpa using hx2.2), lst_flp h3 (by omega), f52_n (by simp) (hd ▸ hg.rin) (by omega), num_lst h4, brkI_pos]
      show cK (!sfN R (st ^^^ 2 ^ x.toNat)) _ _ = _
      cases sfN R (st ^^^ 2 ^ x.toNat) with
      | false => rfl
      | true =>
        simp only [Bool.not_true, cK_false, Bool.true_eq_false, if_false]
        rw [w64_su hi (by omega)]
        exact ih (i + 1) n _ (by omega) (by omega) h4

theorem f64_eq {l : List Int} (h : CE D R s t) {k : Int → Int → Option α} : f64_0 α (D.map rS) (R.map rR) (s.map rB1) (t.map rB1) (l.map rI1) k = k (seqR R D.length l (num s) (num t)).1 (seqR R D.length l (num s) (num t)).2 := by
  simp only [f64_0, f64_0g, List.length_map, seqR]
  by_cases h1 : 1000 < l.length
  · have : (1000 : Int) < (l.length : Int) := by omega
    simp [h1, this]
  · have h1' : ¬ (1000 : Int) < (l.length : Int) := by omega
    have h8 := h.gc.d8
    simp only [h1, h1', decide_false, cK_false, if_false, L64_0_0]
    have hf := fuel_ge
    have hs : s = lst D.length (num s) := by rw [← h.ls]; exact lst_num.symm
    have := R64 (α := α) (D := D) (R := R) h.gc rfl (l := l) (by omega) (k1 := fun x19 => k 0 x19) (k2 := fun x20 _ _ => f54_0 α x20 (t.map rB1) fun x24 => cK (!x24) (k 0 23) (k ((l.length : Nat) : Int) 0)) (fin := fun a => cK (!(lst D.length a == t)) (k 0 23) (k ((l.length : Nat) : Int) 0)) (fun a _ _ => by rw [f54_eq (by simp; omega)]) l.length 0 fuel (num s) (by omega) (by omega) h.sn
    rw [← hs] at this
    refine Eq.trans this ?_
    rw [List.drop_zero]
    cases hw : wlk R D.length l (num s) with
    | inl e => rfl
    | inr p =>
      simp only
      have hp2 : p < 2 ^ D.length := pth_lt h.sn (wlk_pth.1 hw)
      by_cases hp : p = num t
      · subst hp
        rw [← h.lt, lst_num]; simp
      · have : (lst D.length p == t) = false := by
          refine beq_false_of_ne fun he => hp ?_
          rw [← he, num_lst hp2]
        rw [this, if_neg hp]; rfl

theorem f59_eq {L : List Int} (h : CE D R s t) {k : Int → Int → Option α} : f59_0 α (D.map rS) (R.map rR) (s.map rB1) (t.map rB1) (L.map rI1) k = k (labR R D.length L (num s) (num t)).1 (labR R D.length L (num s) (num t)).2 := by
  have h8 := h.gc.d8
  have h256 := pow8 h8
  have hr := h.gc.r30
  simp only [f59_0, f59_0g, L59_0_0]
  refine loopF0 (N := D.length) (R := fun n i acc => R59_0_0 α (D.map rS) _ n acc i) (st := fun i => ((2 ^ i : Nat) : Int)) (by omega) (fun n i hi => ?_) (fun n => ?_)
  · simp only [R59_0_0, S59_0_0, S59_0_0g, List.length_map, lt_len, hi, decide_true, cK_true]
    have h20 : 2 ^ i ≤ 2 ^ 8 := Nat.pow_le_pow_right (by decide) (by omega)
    have hp : 0 < 2 ^ i := Nat.two_pow_pos i
    rw [w64_su hi (by omega), show w64 (2 * ((2 ^ i : Nat) : Int)) = ((2 ^ (i + 1) : Nat) : Int) by rw [w64_in (by omega) (by omega), Nat.pow_succ]; omega]
  · simp only [R59_0_0, S59_0_0, S59_0_0g, List.length_map, Int.lt_irrefl, decide_false, cK_false, labR]
    by_cases hL : L.length = 2 ^ D.length
    · have hL' : (((L.length : Nat) : Int) != ((2 ^ D.length : Nat) : Int)) = false := by simp [hL]
      rw [hL', cK_false, if_neg (by simp [hL])]
      simp only [L59_0_1]
      refine (loopS (N := L.length) (R := R59_0_1 α (L.map rI1) (k 0 2) _) (p := rngP L) (yes := fun _ => k 0 2) (no := f114_0 α (s.map rB1) fun x31 => rowK (L.map rI1) x31 [.int .i64] (fun (x32 : Int) => cK (x32 != 0) (k 0 20) (L59_0_3 α (L.map rI1) ((2 ^ D.length : Nat) : Int) (D.map rS) (R.map rR) (k 0 20) (fun _ _ => f114_0 α (t.map rB1) fun x64 => rowK (L.map rI1) x64 [.int .i64] (fun (x65 : Int) => k x65 0)) 0))) (by omega) (fun n i hi => ?_) (fun n => ?_)).trans ?_
      · simp only [R59_0_1, S59_0_1, S59_0_1g, List.length_map, lt_len, hi, decide_true, cK_true]
        rw [rowK_N (by omega) (by omega), f19_eq, w64_su hi (by omega), Int.toNat_natCast]
        unfold rngP inW
        rw [orK_if]
      · simp only [R59_0_1, S59_0_1, S59_0_1g, List.length_map, Int.lt_irrefl, decide_false, cK_false]
      · cases hrg : srch (rngP L) L.length 0 with
        | some u => rfl
        | none =>
          simp only [orK_none]
          have hsn := h.sn
          have htn := h.symm.sn
          have hls := h.ls
          have hlt := h.lt
          rw [f114_eq (by omega), rowK_N (by omega) (by omega), Int.toNat_natCast]
          by_cases hz : L.getD (num s) 0 = 0
          · have : (L.getD (num s) 0 != 0) = false := by rw [hz]; rfl
            rw [this, cK_false, if_neg (fun h => h hz)]
            simp only [L59_0_3]
            refine (loopS (N := L.length) (R := R59_0_3 α (L.map rI1) ((2 ^ D.length : Nat) : Int) (D.map rS) (R.map rR) (k 0 20) _) (p := badN R D.length L) (yes := fun _ => k 0 20) (no := f114_0 α (t.map rB1) fun x64 => rowK (L.map rI1) x64 [.int .i64] (fun (x65 : Int) => k x65 0)) (by omega) (fun n i hi => ?_) (fun n => ?_)).trans ?_
            · have hi2 : i < 2 ^ D.length := by omega
              simp only [R59_0_3, S59_0_3, S59_0_3g, List.length_map, lt_len, hi2, decide_true, cK_true]
              rw [f115_eq (by omega) (by omega), f52_n (by simp) h.gc.rin (by omega), num_lst hi2, brkI_pos, w64_su hi2 (by omega)]
              show cK (!sfN R i) _ _ = _
              unfold badN
              cases hs : sfN R i with
              | false => simp
              | true =>
                simp only [Bool.not_true, cK_false, if_true, L59_0_2]
                refine (loopS (N := D.length) (R := R59_0_2 α (L.map rI1) (i : Int) (D.map rS) (R.map rR) ((lst D.length i).map rB1) (k 0 20) _) (p := badP R L i) (yes := fun _ => k 0 20) (no := R59_0_3 α (L.map rI1) ((2 ^ D.length : Nat) : Int) (D.map rS) (R.map rR) (k 0 20) _ n ((i + 1 : Nat) : Int)) (by omega) (fun m j hj => ?_) (fun m => ?_)).trans rfl
                · simp only [R59_0_2, S59_0_2, S59_0_2g, List.length_map, lt_len, hj, decide_true, cK_true]
                  have hx : i ^^^ 2 ^ j < 2 ^ D.length := xor_lt hi2 hj
                  rw [f53_eq (by simp; omega) (by omega) (by simp; omega), Int.toNat_natCast, lst_flp hi2 hj, flB, f52_n (by simp) h.gc.rin (by omega), num_lst hx, brkI_neg, w64_su hj (by omega)]
                  show cK (sfN R (i ^^^ 2 ^ j)) _ _ = _
                  unfold badP
                  cases hs2 : sfN R (i ^^^ 2 ^ j) with
                  | false => simp
                  | true =>
                    simp only [cK_true, Bool.true_and]
                    have h1 := rng_ok hrg i
                    rw [f114_eq (by simp; omega), num_lst hx, rowK_N (by omega) (by omega), rowK_N (by omega) (by omega), Int.toNat_natCast, Int.toNat_natCast, w64_in (n := L.getD i 0 + 1) (by omega) (by omega), orK_if]
                · simp only [R59_0_2, S59_0_2, S59_0_2g, List.length_map, Int.lt_irrefl, decide_false, cK_false]
            · have hi2 : ((L.length : Nat) : Int) = ((2 ^ D.length : Nat) : Int) := by omega
              simp only [R59_0_3, S59_0_3, S59_0_3g, List.length_map, hi2, Int.lt_irrefl, decide_false, cK_false]
            · cases srch (badN R D.length L) L.length 0 with
              | some u => rfl
              | none => rw [orK_none, f114_eq (by omega), rowK_N (by omega) (by omega), Int.toNat_natCast]
          · have : (L.getD (num s) 0 != 0) = true := bne_iff_ne.2 hz
            rw [this, if_pos hz]; rfl
    · have hL' : (((L.length : Nat) : Int) != ((2 ^ D.length : Nat) : Int)) = true := by simp only [bne_iff_ne, ne_eq]; omega
      rw [hL', if_pos hL]; rfl

end

end Go.AM.K
