/- Chapter 8: the turns of both texts; GrowTurns. -/
import Derived.Test.YtcidonjhifjpaaaKG1
import Derived.Test.YtcidonjhifjpaaaKG2
namespace Go.AM.K
variable {α : Type}
set_option linter.unusedVariables false
set_option linter.unusedSimpArgs false

abbrev rT (t : Turn) : List DC := [.v (.bool t.1), .v (.int .i64 t.2.1), .v (.int .i64 t.2.2.1), .v (.int .i64 t.2.2.2)]
theorem ixK_N {L : List Int} {i : Nat} (h : i < L.length) {x : Option α} : ixK (L.map rI1) (i : Int) 1 x = x := ixK_m (enc := rI1) (fun _ => rfl) (by omega) (by omega)
def inW (a lo hi : Int) : Bool := decide (lo ≤ a) && decide (a ≤ hi)

theorem lsI_succ {q : Nat → Bool} {j : Nat} : lsI q (j + 1) = if q j = true then some j else lsI q j := rfl

theorem apT {out : List Turn} (ho : out.length ≤ 200) (t : Turn) : apOk 4 32 (out.map rT) [rT t] = true := by
  have := apOk_of (enc := rT) (n := 4) (b := 32) (fun _ => rfl) (rows := out.map rT) (l := [t]) (by simp; omega) (by simp; omega)
  exact this

/-- Right numbers. -/
structure RN (N : Int) (L : List Int) : Prop where
  n : 0 ≤ N ∧ N ≤ 1000000
  l : L.length ≤ 200
  b : ∀ i, 0 ≤ L.getD i 0 ∧ L.getD i 0 ≤ 1000000

section
variable {N : Int} {L : List Int} (hR : RN N L)
include hR
theorem mx_bd {a i : Nat} (h : i < L.length) : 0 ≤ mxL (L.getD i 0) (seg L a i) ∧ mxL (L.getD i 0) (seg L a i) ≤ 1000000 ∧ L.getD i 0 ≤ mxL (L.getD i 0) (seg L a i) := by
  have h1 := mxL_is (seg L a i) (L.getD i 0)
  have h2 := h1.1 (L.getD i 0) (List.mem_cons_self ..)
  have h3 := hR.b i
  refine ⟨by omega, ?_, h2⟩
  rcases List.mem_cons.1 h1.2 with h4 | h4
  · rw [h4]; omega
  · obtain ⟨j, hj, e⟩ := List.mem_iff_getElem.1 h4
    have : (seg L a i).getD j 0 = L.getD (a + j) 0 := seg_get (by unfold seg at hj; simp at hj; omega)
    rw [gD hj, e] at this
    rw [this]; exact (hR.b _).2
theorem mn_bd {a i : Nat} (h : i < L.length) : 0 ≤ mnL (L.getD i 0) (seg L a i) ∧ mnL (L.getD i 0) (seg L a i) ≤ 1000000 ∧ mnL (L.getD i 0) (seg L a i) ≤ L.getD i 0 := by
  have h1 := mnL_is (seg L a i) (L.getD i 0)
  have h2 := h1.1 (L.getD i 0) (List.mem_cons_self ..)
  have h3 := hR.b i
  refine ⟨?_, by omega, h2⟩
  rcases List.mem_cons.1 h1.2 with h4 | h4
  · rw [h4]; omega
  · obtain ⟨j, hj, e⟩ := List.mem_iff_getElem.1 h4
    have : (seg L a i).getD j 0 = L.getD (a + j) 0 := seg_get (by unfold seg at hj; simp at hj; omega)
    rw [gD hj, e] at this
    rw [this]; exact (hR.b _).1
/-- The greatest one of a stretch is in it, if the sample is far below. -/
theorem nearT_ex {a i : Nat} (hai : a ≤ i) (h : i < L.length) (hc : 2 * N < mxL (L.getD i 0) (seg L a i) - L.getD i 0) : ∃ j, j < i - a ∧ nearT N L a i j = true := by
  have h1 := mxL_is (seg L a i) (L.getD i 0)
  have hn := hR.n
  rcases List.mem_cons.1 h1.2 with h4 | h4
  · omega
  · obtain ⟨j, hj, e⟩ := List.mem_iff_getElem.1 h4
    rw [seg_len hai (by omega)] at hj
    have : (seg L a i).getD j 0 = L.getD (a + j) 0 := seg_get (by omega)
    rw [gD (by rw [seg_len hai (by omega)]; exact hj), e] at this
    refine ⟨j, hj, ?_⟩
    unfold nearT
    rw [← this]
    exact decide_eq_true (by omega)
theorem nearB_ex {a i : Nat} (hai : a ≤ i) (h : i < L.length) (hc : 2 * N < L.getD i 0 - mnL (L.getD i 0) (seg L a i)) : ∃ j, j < i - a ∧ nearB N L a i j = true := by
  have h1 := mnL_is (seg L a i) (L.getD i 0)
  have hn := hR.n
  rcases List.mem_cons.1 h1.2 with h4 | h4
  · omega
  · obtain ⟨j, hj, e⟩ := List.mem_iff_getElem.1 h4
    rw [seg_len hai (by omega)] at hj
    have : (seg L a i).getD j 0 = L.getD (a + j) 0 := seg_get (by omega)
    rw [gD (by rw [seg_len hai (by omega)]; exact hj), e] at this
    refine ⟨j, hj, ?_⟩
    unfold nearB
    rw [← this]
    exact decide_eq_true (by omega)

/-! ### The document's -/

theorem L24_1 {a i : Nat} (hai : a ≤ i) (h : i < L.length) {x : Int} {k1 : Int → Int → Int → Bool → Option α} {fin : Int → Int → Option α} (hk : ∀ p q r s, k1 p q r s = fin p q) :
    L24_0_1 α (i : Int) (L.map rI1) k1 x x (a : Int) = fin (mxL x (seg L a i)) (mnL x (seg L a i)) := by
  have hl := hR.l
  simp only [L24_0_1]
  have hf := fuel_ge
  have := loopF (N := i - a) (R := fun n (j : Int) (s : Int × Int) => R24_0_1 α (i : Int) (L.map rI1) k1 n s.1 s.2 ((a : Int) + j)) (st := fun j => (mxL x (seg L a (a + j)), mnL x (seg L a (a + j)))) (fin := fin (mxL x (seg L a i)) (mnL x (seg L a i))) (fun n j hj => ?_) (fun n => ?_) (i - a) 0 fuel (by omega) (by omega)
  · rw [show a + 0 = a by omega, seg_self, show ((a : Int) + ((0 : Nat) : Int)) = (a : Int) by omega] at this
    exact this
  · have hlt : a + j < i := by omega
    have hlt2 : ((a : Int) + (j : Int) < (i : Int)) := by omega
    simp only [R24_0_1, S24_0_1, S24_0_1g, hlt2, decide_true, cK_true]
    rw [show ((a : Int) + (j : Int)) = ((a + j : Nat) : Int) by omega, ixK_N (by omega), Int.toNat_natCast, ldK_N (by omega), ixK_N (by omega), ldK_N (by omega), w64_su (N := L.length) (by omega) (by omega), show a + (j + 1) = a + j + 1 by omega, seg_succ (by omega) (by omega), mxL_app, mnL_app]
    rfl
  · have : ¬ ((a : Int) + ((i - a : Nat) : Int) < (i : Int)) := by omega
    simp only [R24_0_1, S24_0_1, S24_0_1g, this, decide_false, cK_false, hk]
    rw [show a + (i - a) = i by omega]
theorem f87_eq {a i : Nat} (hai : a ≤ i) (h : i < L.length) {lo hi : Int} {top : Bool} {k : Bool → Int → Int → Int → Option α} : f87_0 α (L.map rI1) (a : Int) (i : Int) lo hi top k =
    k top (fsZ (fsI (fun j => inW (L.getD (a + j) 0) lo hi) (i - a)) (-1) a) (fsZ (lsI (fun j => inW (L.getD (a + j) 0) lo hi) (i - a)) 0 a) (i : Int) := by
  have hl := hR.l
  simp only [f87_0, f87_0g, L87_0_0]
  have hf := fuel_ge
  have hq' : ∀ j, (fun j => inW (L.getD (a + j) 0) lo hi) j = inW (L.getD (a + j) 0) lo hi := fun j => rfl
  generalize (fun j => inW (L.getD (a + j) 0) lo hi) = q at hq' ⊢
  have := loopF (N := i - a) (R := fun n (j : Int) (s : Int × Int) => R87_0_0 α (L.map rI1) (i : Int) lo hi (fun _ _ x26 x27 => k top x26 x27 (i : Int)) n ((a : Int) + j) s.1 s.2)
    (st := fun j => (fsZ (fsI q j) (-1) a, fsZ (lsI q j) 0 a)) (fin := k top (fsZ (fsI q (i - a)) (-1) a) (fsZ (lsI q (i - a)) 0 a) (i : Int)) (fun n j hj => ?_) (fun n => ?_) (i - a) 0 fuel (by omega) (by omega)
  · rw [show ((a : Int) + ((0 : Nat) : Int)) = (a : Int) by omega] at this
    exact this
  · have hlt2 : ((a : Int) + (j : Int) < (i : Int)) := by omega
    simp only [R87_0_0, S87_0_0, S87_0_0g, hlt2, decide_true, cK_true]
    rw [show ((a : Int) + (j : Int)) = ((a + j : Nat) : Int) by omega, rowK_N (by omega) (by omega), Int.toNat_natCast, f19_eq, w64_su (N := L.length) (by omega) (by omega), show ((a + j + 1 : Nat) : Int) = (a : Int) + ((j + 1 : Nat) : Int) by omega, fsI_succ, lsI_succ]
    show cK (inW (L.getD (a + j) 0) lo hi) _ _ = _
    rw [← hq' j]
    cases hqj : q j with
    | true =>
      simp only [cK_true, if_true]
      cases hfs : fsI q j with
      | none => simp only [fsZ]; rw [show ((a + j : Nat) : Int) = (a : Int) + (j : Int) by omega]; rfl
      | some z =>
        have : ¬ ((a : Int) + (z : Int) < 0) := by omega
        simp only [fsZ, this, decide_false, cK_false]; rw [show ((a + j : Nat) : Int) = (a : Int) + (j : Int) by omega]
    | false =>
      simp only [cK_false, Bool.false_eq_true, if_false]
      cases hfs : fsI q j <;> rfl
  · have : ¬ ((a : Int) + ((i - a : Nat) : Int) < (i : Int)) := by omega
    simp only [R87_0_0, S87_0_0, S87_0_0g, this, decide_false, cK_false]
theorem J24_4 {i : Nat} (h : i < L.length) {st : Nat × Nat × List Turn} (hT : TI i st) (h1 : 1 ≤ i) {kn : Int → Int → Rows → Option α} :
    J24_0_4 α (st.1 : Int) (st.2.1 : Int) (i : Int) N (st.2.2.map rT) (L.map rI1) (fun x => kn 2 (i : Int) x) (fun x => kn x (i : Int) (st.2.2.map rT)) (fun x => kn 1 (i : Int) x) (fun _ _ => kn (st.1 : Int) (st.2.1 : Int) (st.2.2.map rT)) =
      kn ((stp N L i st).1 : Int) ((stp N L i st).2.1 : Int) ((stp N L i st).2.2.map rT) := by
  obtain ⟨w, f, out⟩ := st
  have hf := hT.f
  have hw := hT.w
  have hn := hT.n
  simp only at hf hw hn ⊢
  have hl := hR.l
  have hN := hR.n
  have hfi : f ≤ i := by omega
  simp only [J24_0_4, J24_0_4g]
  rw [ixK_N h, Int.toNat_natCast, ldK_N h, ixK_N h, ldK_N h, L24_1 hR hfi h (fin := fun x47 x48 => J24_0_2 α (w : Int) (i : Int) x47 N (L.map rI1) fun x65 => cK x65
                (cK ((w : Int) == 1)
                  (f87_0 α (L.map rI1) (f : Int) (i : Int) (w64 (x47 - (w64 (2 * N)))) x47 true
                    (fun (x67 : Bool) (x68 : Int) (x69 : Int) (x70 : Int) => gK (apOk 4 32 (out.map rT) [[DC.v (.bool x67), DC.v (.int .i64 x68), DC.v (.int .i64 x69), DC.v (.int .i64 x70)]]) (kn 2 (i : Int) (out.map rT ++ [[DC.v (.bool x67), DC.v (.int .i64 x68), DC.v (.int .i64 x69), DC.v (.int .i64 x70)]]))))
                  (kn 2 (i : Int) (out.map rT)))
                (J24_0_3 α (w : Int) (i : Int) x48 N (L.map rI1)
                  (fun (x83 : Bool) => cK x83
                    (cK ((w : Int) == 2)
                      (f87_0 α (L.map rI1) (f : Int) (i : Int) x48 (w64 (x48 + (w64 (2 * N)))) false
                        (fun (x85 : Bool) (x86 : Int) (x87 : Int) (x88 : Int) => gK (apOk 4 32 (out.map rT) [[DC.v (.bool x85), DC.v (.int .i64 x86), DC.v (.int .i64 x87), DC.v (.int .i64 x88)]]) (kn 1 (i : Int) (out.map rT ++ [[DC.v (.bool x85), DC.v (.int .i64 x86), DC.v (.int .i64 x87), DC.v (.int .i64 x88)]]))))
                      (kn 1 (i : Int) (out.map rT)))
                    (kn (w : Int) (f : Int) (out.map rT))))) (fun _ _ _ _ => rfl)]
  have hmx := mx_bd hR (a := f) h
  have hmn := mn_bd hR (a := f) h
  have hx := hR.b i
  have eN : w64 (2 * N) = 2 * N := w64_in (by omega) (by omega)
  have j2 : ∀ k : Bool → Option α, J24_0_2 α (w : Int) (i : Int) (mxL (L.getD i 0) (seg L f i)) N (L.map rI1) k = k (decide (w ≠ 2 ∧ 2 * N < mxL (L.getD i 0) (seg L f i) - L.getD i 0)) := fun k => by
    simp only [J24_0_2, J24_0_2g]
    rw [ixK_N h, Int.toNat_natCast, ldK_N h, eN, w64_in (n := mxL (L.getD i 0) (seg L f i) - L.getD i 0) (by omega) (by omega)]
    by_cases h2 : w = 2
    · subst h2; simp
    · have : ((w : Int) != 2) = true := bne_iff_ne.2 (by omega)
      rw [this, cK_true]; simp [h2]
  have j3 : ∀ k : Bool → Option α, J24_0_3 α (w : Int) (i : Int) (mnL (L.getD i 0) (seg L f i)) N (L.map rI1) k = k (decide (w ≠ 1 ∧ 2 * N < L.getD i 0 - mnL (L.getD i 0) (seg L f i))) := fun k => by
    simp only [J24_0_3, J24_0_3g]
    rw [ixK_N h, Int.toNat_natCast, ldK_N h, eN, w64_in (n := L.getD i 0 - mnL (L.getD i 0) (seg L f i)) (by omega) (by omega)]
    by_cases h2 : w = 1
    · subst h2; simp
    · have : ((w : Int) != 1) = true := bne_iff_ne.2 (by omega)
      rw [this, cK_true]; simp [h2]
  rw [j2]
  unfold stp
  simp only
  by_cases c1 : w ≠ 2 ∧ 2 * N < mxL (L.getD i 0) (seg L f i) - L.getD i 0
  · rw [decide_eq_true c1, cK_true, if_pos c1]
    by_cases h1' : w = 1
    · subst h1'
      rw [show (((1 : Nat) : Int) == 1) = true from rfl, cK_true, f87_eq hR hfi h, eN, w64_in (n := mxL (L.getD i 0) (seg L f i) - 2 * N) (by omega) (by omega)]
      have hq : ∀ j, j < i - f → inW (L.getD (f + j) 0) (mxL (L.getD i 0) (seg L f i) - 2 * N) (mxL (L.getD i 0) (seg L f i)) = nearT N L f i j := fun j hj => by
        have h4 : L.getD (f + j) 0 ≤ mxL (L.getD i 0) (seg L f i) := by
          have e : (seg L f i).getD j 0 = L.getD (f + j) 0 := seg_get (by omega)
          have hjl : j < (seg L f i).length := by rw [seg_len hfi (by omega)]; exact hj
          have := (mxL_is (seg L f i) (L.getD i 0)).1 ((seg L f i).getD j 0) (by rw [gD hjl]; exact List.mem_cons_of_mem _ (List.getElem_mem _))
          rwa [e] at this
        unfold inW nearT
        rw [decide_eq_true h4, Bool.and_true]
      rw [fsI_congr hq, lsI_congr hq]
      show gK (apOk 4 32 (out.map rT) [rT (trn (nearT N L f i) f i true)]) (kn 2 (i : Int) (out.map rT ++ [rT (trn (nearT N L f i) f i true)])) = _
      rw [apT (by omega), gK_true, if_pos rfl, List.map_append]; rfl
    · have : ((w : Int) == 1) = false := beq_false_of_ne (by omega)
      rw [this, cK_false, if_neg h1']; rfl
  · rw [decide_eq_false c1, cK_false, if_neg c1, j3]
    by_cases c2 : w ≠ 1 ∧ 2 * N < L.getD i 0 - mnL (L.getD i 0) (seg L f i)
    · rw [decide_eq_true c2, cK_true, if_pos c2]
      by_cases h1' : w = 2
      · subst h1'
        rw [show (((2 : Nat) : Int) == 2) = true from rfl, cK_true, f87_eq hR hfi h, eN, w64_in (n := mnL (L.getD i 0) (seg L f i) + 2 * N) (by omega) (by omega)]
        have hq : ∀ j, j < i - f → inW (L.getD (f + j) 0) (mnL (L.getD i 0) (seg L f i)) (mnL (L.getD i 0) (seg L f i) + 2 * N) = nearB N L f i j := fun j hj => by
          have h4 : mnL (L.getD i 0) (seg L f i) ≤ L.getD (f + j) 0 := by
            have e : (seg L f i).getD j 0 = L.getD (f + j) 0 := seg_get (by omega)
            have hjl : j < (seg L f i).length := by rw [seg_len hfi (by omega)]; exact hj
            have := (mnL_is (seg L f i) (L.getD i 0)).1 ((seg L f i).getD j 0) (by rw [gD hjl]; exact List.mem_cons_of_mem _ (List.getElem_mem _))
            rwa [e] at this
          unfold inW nearB
          rw [decide_eq_true h4, Bool.true_and]
        rw [fsI_congr hq, lsI_congr hq]
        show gK (apOk 4 32 (out.map rT) [rT (trn (nearB N L f i) f i false)]) (kn 1 (i : Int) (out.map rT ++ [rT (trn (nearB N L f i) f i false)])) = _
        rw [apT (by omega), gK_true, if_pos rfl, List.map_append]; rfl
      · have : ((w : Int) == 2) = false := beq_false_of_ne (by omega)
        rw [this, cK_false, if_neg h1']; rfl
    · rw [decide_eq_false c2, cK_false, if_neg c2]
end

theorem L24_0 {l : List Nat} (hl : l.length ≤ 200) (hc : ∀ i, i < l.length → chkX (l.getD i 0) = none) {k1 : Int → Bool → Rows → Option α} {fin : Rows → Option α} (hk : ∀ a b c, k1 a b c = fin c) : L24_0_0 α (l.map rF) k1 0 ([] : Rows) = fin ((l.map smp).map rI1) := by
  simp only [L24_0_0]
  have := loopF0 (N := l.length) (R := fun n i (s : Rows) => R24_0_0 α (l.map rF) k1 n i s) (st := fun i => ((l.take i).map smp).map rI1) (fin := fin ((l.map smp).map rI1)) (by omega) (fun n i hi => ?_) (fun n => ?_)
  · simpa using this
  · simp only [R24_0_0, S24_0_0, S24_0_0g, List.length_map, lt_len, hi, decide_true, cK_true]
    have h4 : ∀ (S : List Nat) (hi : i < S.length), S.take (i + 1) = S.take i ++ [S[i]'hi] := fun S hi => by simp
    rw [rowK_F hi, (smp_ok (hc i hi)).1, h4 _ hi, List.map_append, List.map_append, ← gD (d := 0) hi]
    show gK (apOk 1 8 _ [rI1 (smp (l.getD i 0))]) _ = _
    rw [show [rI1 (smp (l.getD i 0))] = ([smp (l.getD i 0)]).map rI1 from rfl, apOk_of (enc := rI1) (fun _ => rfl) (by simp; omega) (by simp; omega), gK_true, w64_su hi (by omega)]
    rfl
  · simp only [R24_0_0, S24_0_0, S24_0_0g, List.length_map, Int.lt_irrefl, decide_false, cK_false, hk, List.take_length]

theorem RN_of {N : Int} {l : List Nat} (h : (chkSig N l).2 = 0) : RN N (l.map smp) := by
  obtain ⟨h1, h2, h3⟩ := chkSig_ok h
  refine ⟨h1, by simpa using h2, fun i => ?_⟩
  by_cases hi : i < l.length
  · have : (l.map smp).getD i 0 = smp (l.getD i 0) := by rw [gD (by simpa using hi), gD hi]; simp
    rw [this]; exact (smp_ok (h3 i hi)).2
  · rw [List.getD_eq_getElem?_getD, List.getElem?_eq_none (by simp; omega)]; simp

theorem f24_eq {N : Int} {l : List Nat} (h : (chkSig N l).2 = 0) {k : Rows → Option α} : f24_0 α N (l.map rF) k = k ((tst N (l.map smp) l.length).2.2.map rT) := by
  obtain ⟨h1, h2, h3⟩ := chkSig_ok h
  have hR := RN_of h
  simp only [f24_0, f24_0g]
  rw [L24_0 h2 h3 (fin := fun x13 => L24_0_5 α N x13 (fun _ _ _ _ x99 => k x99) 0 0 1 ([] : Rows)) (fun _ _ _ => rfl)]
  simp only [L24_0_5]
  have hf := fuel_ge
  by_cases h0 : l.length = 0
  · obtain ⟨n, hn⟩ : ∃ n, fuel = n + 1 := ⟨fuel - 1, by omega⟩
    have hl0 : l = [] := List.length_eq_zero_iff.1 h0
    subst hl0
    rw [hn]
    simp only [R24_0_5, S24_0_5, S24_0_5g, List.map_nil, List.length_nil]
    rfl
  · have hlen : (l.map smp).length = l.length := by simp
    have key : ∀ (m i n : Nat), i + m = l.length → m < n → 1 ≤ i → R24_0_5 α N ((l.map smp).map rI1) (fun _ _ _ _ x99 => k x99) n ((tst N (l.map smp) i).1 : Int) ((tst N (l.map smp) i).2.1 : Int) (i : Int) ((tst N (l.map smp) i).2.2.map rT) = k ((tst N (l.map smp) l.length).2.2.map rT) := by
      intro m
      induction m with
      | zero =>
        intro i n e1 e2 e3
        obtain ⟨n, rfl⟩ : ∃ z, n = z + 1 := ⟨n - 1, by omega⟩
        have : i = l.length := by omega
        subst this
        simp only [R24_0_5, S24_0_5, S24_0_5g, List.length_map, Int.lt_irrefl, decide_false, cK_false]
      | succ m ih =>
        intro i n e1 e2 e3
        obtain ⟨n, rfl⟩ : ∃ z, n = z + 1 := ⟨n - 1, by omega⟩
        have hi : i < l.length := by omega
        simp only [R24_0_5, S24_0_5, S24_0_5g, List.length_map, lt_len, hi, decide_true, cK_true]
        rw [w64_su hi (by omega)]
        have hj := J24_4 (α := α) hR (by rw [hlen]; exact hi) (tst_ok (N := N) (L := l.map smp) i e3) e3 (kn := fun a b c => R24_0_5 α N ((l.map smp).map rI1) (fun _ _ _ _ x99 => k x99) n a b ((i + 1 : Nat) : Int) c)
        refine Eq.trans hj ?_
        rw [← tst_succ e3]
        exact ih (i + 1) n (by omega) (by omega) (by omega)
    exact key (l.length - 1) 1 fuel (by omega) (by omega) (by omega)

end Go.AM.K
