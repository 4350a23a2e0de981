/- Chapter 8: GrowSequences. -/
import Derived.Test.YtcidonjhifjpaaaKC9
namespace Go.AM.K
variable {α : Type}
set_option linter.unusedVariables false
set_option linter.unusedSimpArgs false

section
variable {D : List ByteArray} {R : List Rule} {s t : List Bool}

theorem beq_comm_int (a b : Int) : (a == b) = (b == a) := by
  by_cases h : a = b
  · subst h; rfl
  · rw [beq_false_of_ne h, beq_false_of_ne (fun h' => h h'.symm)]

theorem R58_0 (hg : GC D R) {x : Nat} (hx : x < 2 ^ D.length) {L : List Int} (hL : L.length = 2 ^ D.length) {v : Int} (hv : lb L x = v) (hv2 : 0 < v ∧ v ≤ 1000) {out : List Int} (ho : out.length ≤ 1000) {k1 : Rows → Rows → Option α} {k2 : Int → Bool → Option α} {no : Option α} (hk : ∀ a b, k2 a b = no) :
    L58_0_0 α ((lst D.length x).map rB1) v (D.map rS) (L.map rI1) (out.map rI1) k1 k2 0 = orK (near (sfN R) D.length L x) (fun i => k1 ((lst D.length (x ^^^ 2 ^ i)).map rB1) ((out ++ [(i : Int)]).map rI1)) no := by
  have h8 := hg.d8
  simp only [L58_0_0, near]
  refine loopS (N := D.length) (R := R58_0_0 α ((lst D.length x).map rB1) v (D.map rS) (L.map rI1) (out.map rI1) k1 k2) (p := fun i => if (lb L (x ^^^ 2 ^ i) == lb L x - 1) = true then some i else none) (no := no) (by omega) (fun n i hi => ?_) (fun n => ?_)
  · simp only [R58_0_0, S58_0_0, S58_0_0g, List.length_map, lt_len, hi, decide_true, cK_true]
    have hm := xor_lt hx hi
    have hl : x ^^^ 2 ^ i < L.length := by rw [hL]; exact hm
    rw [f53_eq (by simp; omega) (by omega) (by simp; omega), Int.toNat_natCast, lst_flp hx hi, f114_eq (by simp; omega), num_lst hm, ixK_N hl, Int.toNat_natCast, ldK_N hl, w64_in (n := v - 1) (by omega) (by omega), orK_if, hv, w64_su hi (by omega),
      show [[DC.v (Value.int .i64 (i : Int))]] = [(i : Int)].map rI1 from rfl, apOk_of (enc := rI1) (fun _ => rfl) (by simp; omega) (by simp; omega), gK_true, ← List.map_append]
  · simp only [R58_0_0, S58_0_0, S58_0_0g, List.length_map, Int.lt_irrefl, decide_false, cK_false, hk]

theorem R58_1 (hg : GC D R) {src : Nat} {L : List Int} (hL : IsD (sfN R) D.length L src) {k1 : Rows → Int → Bool → Rows → Option α} {fin : Rows → Option α} (hk : ∀ a b c e, k1 a b c e = fin e) : ∀ (v n x : Nat) (out : List Int), v < n → v < 1000 → x < 2 ^ D.length → lb L x = v → out.length + v ≤ 1000 →
    R58_0_1 α (D.map rS) (L.map rI1) k1 n ((lst D.length x).map rB1) (v : Int) (out.map rI1) = fin ((out ++ way (sfN R) D.length L v x).map rI1) := by
  intro v
  induction v with
  | zero =>
    intro n x out h1 h2 hx hv ho
    obtain ⟨n, rfl⟩ : ∃ k, n = k + 1 := ⟨n - 1, by omega⟩
    simp only [R58_0_1, S58_0_1, S58_0_1g, way, List.append_nil, hk]
    rfl
  | succ v ih =>
    intro n x out h1 h2 hx hv ho
    obtain ⟨n, rfl⟩ : ∃ k, n = k + 1 := ⟨n - 1, by omega⟩
    have hpos : (0 : Int) < ((v + 1 : Nat) : Int) := by omega
    have hne : x ≠ src := by intro he; rw [he, hL.src0] at hv; omega
    obtain ⟨i, h3, h4, h5, h6⟩ := hL.near_some hx (by omega) hne
    simp only [R58_0_1, S58_0_1, S58_0_1g, hpos, decide_true, cK_true]
    rw [R58_0 hg hx hL.len hv (by omega) (by omega) (fun _ _ => rfl), h3, orK_some, w64_in (n := ((v + 1 : Nat) : Int) - 1) (by omega) (by omega), show ((v + 1 : Nat) : Int) - 1 = (v : Int) by omega, ih n _ _ (by omega) (by omega) (xor_lt hx h4) (by omega) (by simp; omega)]
    simp only [way, h3, List.append_assoc, List.singleton_append]

theorem f58_eq (h : CE D R s t) {L : List Int} (hL : IsD (sfN R) D.length L (num t)) {k : Rows → Bool → Option α} : f58_0 α (D.map rS) (R.map rR) (s.map rB1) (t.map rB1) k =
    if lb L (num s) = 1000 then k [] false else k ((way (sfN R) D.length L (lb L (num s)).toNat (num s)).map rI1) true := by
  have h8 := h.gc.d8
  have h256 := pow8 h8
  simp only [f58_0, f58_0g]
  have hls := h.ls
  have hl : num s < L.length := by rw [hL.len]; exact h.sn
  have hr := hL.rng _ h.sn
  rw [f113_eq h.gc h.lt h.st hL, f114_eq (by omega), ixK_N hl, Int.toNat_natCast, ldK_N hl]
  by_cases hq : lb L (num s) = 1000
  · have hq' : (L.getD (num s) 0 == 1000) = true := beq_iff_eq.2 hq
    rw [hq', if_pos hq]; rfl
  · have hq' : (L.getD (num s) 0 == 1000) = false := beq_false_of_ne hq
    rw [hq', if_neg hq, cK_false]
    simp only [L58_0_1]
    have hf := fuel_ge
    have := R58_1 (α := α) h.gc hL (k1 := fun _ _ _ x34 => k x34 true) (fin := fun x34 => k x34 true) (fun _ _ _ _ => rfl) (lb L (num s)).toNat fuel (num s) [] (by omega) (by omega) h.sn (by omega) (by rw [List.length_nil]; omega)
    rw [← h.ls, lst_num, Int.toNat_of_nonneg hr.1] at this
    simp only [List.nil_append, List.map_nil] at this
    rw [← h.ls]
    exact this

theorem V55 {d x : Nat} (hx : x < 2 ^ d) {L : List Int} (hL : L.length = 2 ^ d) {out : List Int} (ho : out.length ≤ 1000) {k1 : Option α} {k2 : Rows → Int → Option α} : ∀ (m j : Nat), j + m = d →
    V55_0_3 α (out.map rI1) (L.map rI1) (x : Int) k1 k2 ((List.range' j m).filterMap (nxF R x)) = orK (srch (fun i => if (sfN R (x ^^^ 2 ^ i) && decide (lb L (x ^^^ 2 ^ i) < lb L x)) = true then some i else none) m j) (fun i => k2 ((out ++ [(i : Int)]).map rI1) ((x ^^^ 2 ^ i : Nat) : Int)) k1
  | 0, j, h => rfl
  | m + 1, j, h => by
    have ih := V55 hx hL ho (k1 := k1) (k2 := k2) m (j + 1) (by omega)
    have hm := xor_lt hx (show j < d by omega)
    have hl1 : x < L.length := by rw [hL]; exact hx
    have hl2 : x ^^^ 2 ^ j < L.length := by rw [hL]; exact hm
    rw [List.range'_succ]
    simp only [srch]
    cases hs : sfN R (x ^^^ 2 ^ j) with
    | false =>
      have e : nxF R x j = none := by unfold nxF; rw [hs]; rfl
      rw [List.filterMap_cons_none e]
      simp only [Bool.false_and, Bool.false_eq_true, if_false]
      exact ih
    | true =>
      have e : nxF R x j = some (prI (j : Int) ((x ^^^ 2 ^ j : Nat) : Int)) := by unfold nxF; rw [hs]; rfl
      rw [List.filterMap_cons_some e]
      simp only [V55_0_3, S55_0_3, S55_0_3g, prI, Bool.true_and]
      rw [ixK_N hl2, Int.toNat_natCast, ldK_N hl2, ixK_N hl1, Int.toNat_natCast, ldK_N hl1, show [[DC.v (Value.int .i64 (j : Int))]] = [(j : Int)].map rI1 from rfl, apOk_of (enc := rI1) (fun _ => rfl) (by simp; omega) (by simp; omega), gK_true, ← List.map_append]
      cases decide (lb L (x ^^^ 2 ^ j) < lb L x) with
      | true => rfl
      | false => exact ih

theorem R55 (hg : GC D R) {dst : Nat} {L : List Int} (hL : IsD (sfN R) D.length L dst) {k1 : Bool → Rows → Int → Option α} {fin : Rows → Option α} (hk : ∀ a b c, k1 a b c = fin b) : ∀ (v n x : Nat) (out : List Int), v < n → v < 1000 → x < 2 ^ D.length → lb L x = v → out.length + v ≤ 1000 →
    R55_0_4 α (D.map rS) (R.map rR) (dst : Int) (L.map rI1) k1 n (out.map rI1) (x : Int) = fin ((out ++ way (sfN R) D.length L v x).map rI1) := by
  intro v
  induction v with
  | zero =>
    intro n x out h1 h2 hx hv ho
    obtain ⟨n, rfl⟩ : ∃ k, n = k + 1 := ⟨n - 1, by omega⟩
    obtain ⟨h3, h4⟩ := hL.pred x hx (by omega)
    have : x = dst := by
      rcases h4 with h4 | ⟨i, h5, h6, h7⟩
      · exact h4
      · have := (hL.rng _ (xor_lt hx h5)).1; omega
    subst this
    simp only [R55_0_4, S55_0_4, S55_0_4g, way, List.append_nil, hk, bne_self_eq_false, cK_false]
  | succ v ih =>
    intro n x out h1 h2 hx hv ho
    obtain ⟨n, rfl⟩ : ∃ k, n = k + 1 := ⟨n - 1, by omega⟩
    have hne : x ≠ dst := by intro he; rw [he, hL.src0] at hv; omega
    have hne' : ((x : Int) != (dst : Int)) = true := bne_iff_ne.2 (by omega)
    obtain ⟨i, h3, h4, h5, h6⟩ := hL.near_some hx (by omega) hne
    have hss := (hL.pred x hx (by omega)).1
    simp only [R55_0_4, S55_0_4, S55_0_4g, hne', cK_true, f111_0, f111_0g]
    rw [q_eq hg hx]
    refine (V55 (R := R) hx hL.len (by omega) D.length 0 (by omega)).trans ?_
    rw [← hL.near_lt hx hss (by omega), h3, orK_some, ih n _ _ (by omega) (by omega) (xor_lt hx h4) (by omega) (by simp; omega)]
    simp only [way, h3, List.append_assoc, List.singleton_append]

theorem f55_err (hR : R.length < 1000) (hb : ∀ x ∈ D, x.size ≤ 9223372036854775807) (he : chE D R s t ≠ 0) {k : Rows → Rows → Int → Option α} : f55_0 α (D.map rS) (R.map rR) (s.map rB1) (t.map rB1) k = k [] [] (chE D R s t) := by
  simp only [f55_0, f55_0g, J55_0_0, J55_0_0g]
  rw [f109_eq hR hb, if_pos he]
  have : (chE D R s t != 0) = true := bne_iff_ne.2 he
  rw [this]; rfl
theorem f55_eq (hR : R.length < 1000) (hb : ∀ x ∈ D, x.size ≤ 9223372036854775807) (h : CE D R s t) (h5 : D.length ≤ 5) {Lf Lt : List Int} (hf : IsD (sfN R) D.length Lf (num s)) (ht : IsD (sfN R) D.length Lt (num t)) {k : Rows → Rows → Int → Option α} : f55_0 α (D.map rS) (R.map rR) (s.map rB1) (t.map rB1) k =
    if lb Lf (num t) = 1000 then k [] (Lf.map rI1) 17 else k ((way (sfN R) D.length Lt (lb Lt (num s)).toNat (num s)).map rI1) (Lf.map rI1) 0 := by
  have h8 := h.gc.d8
  have h256 := pow8 h8
  simp only [f55_0, f55_0g, J55_0_0, J55_0_0g]
  rw [f109_eq hR hb, if_neg (by simp [h.zero]), f110_eq h.gc h5 h.sn h.ss hf]
  have hl : num t < Lf.length := by rw [hf.len]; exact h.symm.sn
  rw [ixK_N hl, Int.toNat_natCast, ldK_N hl]
  have hsym := hf.sym ht h.ss h.st
  have hr := ht.rng _ h.sn
  by_cases hq : lb Lf (num t) = 1000
  · have hq' : (Lf.getD (num t) 0 == 1000) = true := beq_iff_eq.2 hq
    rw [hq', if_pos hq]; rfl
  · have hq' : (Lf.getD (num t) 0 == 1000) = false := beq_false_of_ne hq
    rw [hq', if_neg hq, cK_false, f110_eq h.gc h5 h.symm.sn h.st ht]
    simp only [L55_0_4]
    have hfu := fuel_ge
    exact R55 (α := α) h.gc ht (k1 := fun _ x115 _ => k x115 (Lf.map rI1) 0) (fin := fun x115 => k x115 (Lf.map rI1) 0) (fun _ _ _ => rfl) (lb Lt (num s)).toNat fuel (num s) [] (by omega) (by omega) h.sn (by omega) (by rw [List.length_nil]; omega)

theorem f63_same {l : List Int} (h : l.length ≤ 1000) {k : Bool → Option α} : f63_0 α (l.map rI1) (l.map rI1) k = k true := by
  simp only [f63_0, f63_0g, L63_0_0, List.length_map, bne_self_eq_false, cK_false]
  refine (loopS (N := l.length) (R := R63_0_0 α (l.map rI1) (l.map rI1) (k false) (fun _ _ => k true)) (p := fun _ => (none : Option Unit)) (yes := fun _ => k false) (no := k true) (by omega) (fun n i hi => ?_) (fun n => ?_)).trans ?_
  · simp only [R63_0_0, S63_0_0, S63_0_0g, List.length_map, lt_len, hi, decide_true, cK_true]
    rw [rowK_N (by omega) (by omega), rowK_N (by omega) (by omega), w64_su hi (by omega)]
    simp
  · simp only [R63_0_0, S63_0_0, S63_0_0g, List.length_map, Int.lt_irrefl, decide_false, cK_false]
  · have : srch (fun _ => (none : Option Unit)) l.length 0 = none := srch_none.2 fun _ _ _ => rfl
    rw [this]; rfl

theorem way_ok {d dst : Nat} {L : List Int} (hL : IsD (sfN R) d L dst) : ∀ (v x : Nat), x < 2 ^ d → v < 1000 → lb L x = v → (way (sfN R) d L v x).length = v ∧ pth R d (way (sfN R) d L v x) x dst := by
  intro v
  induction v with
  | zero =>
    intro x hx _ hv
    obtain ⟨h3, h4⟩ := hL.pred x hx (by omega)
    refine ⟨rfl, ?_⟩
    rcases h4 with h4 | ⟨i, h5, h6, h7⟩
    · exact h4
    · have := (hL.rng _ (xor_lt hx h5)).1; omega
  | succ v ih =>
    intro x hx hv2 hv
    have hne : x ≠ dst := by intro he; rw [he, hL.src0] at hv; omega
    obtain ⟨i, h3, h4, h5, h6⟩ := hL.near_some hx (by omega) hne
    obtain ⟨h7, h8⟩ := ih _ (xor_lt hx h4) (by omega) (by omega)
    simp only [way, h3, List.length_cons, h7, pth, Int.toNat_natCast]
    exact ⟨trivial, by omega, h5, h8⟩

theorem labR_ok {d a b : Nat} {L : List Int} (hL : IsD (sfN R) d L a) : labR R d L a b = (lb L b, 0) := by
  unfold labR
  rw [if_neg (by simp [hL.len])]
  have h1 : srch (rngP L) L.length 0 = none := srch_none.2 fun i _ hi => by
    have := hL.rng i (by rw [← hL.len]; omega)
    have e : inW (L.getD i 0) 0 1000 = true := by
      unfold inW
      rw [decide_eq_true (show 0 ≤ L.getD i 0 from this.1), decide_eq_true (show L.getD i 0 ≤ 1000 from this.2)]; rfl
    unfold rngP; rw [e]; rfl
  have h2 : srch (badN R d L) L.length 0 = none := srch_none.2 fun n _ hn => by
    have hn2 : n < 2 ^ d := by rw [← hL.len]; omega
    unfold badN
    cases hs : sfN R n with
    | false => rfl
    | true =>
      rw [if_pos rfl]
      refine srch_none.2 fun i _ hi => ?_
      unfold badP
      cases hs2 : sfN R (n ^^^ 2 ^ i) with
      | false => rfl
      | true =>
        have h3 : ¬ L.getD n 0 + 1 < L.getD (n ^^^ 2 ^ i) 0 := by
          have : L.getD (n ^^^ 2 ^ i) 0 ≤ L.getD n 0 + 1 := hL.relax n i hn2 (by omega) hs hs2
          omega
        rw [decide_eq_false h3]; rfl
  have h0 : L.getD a 0 = 0 := hL.src0
  rw [h1]
  simp only
  rw [if_neg (fun h => h h0), h2]

theorem law10 (hb : ∀ x ∈ D, x.size ≤ 9223372036854775807) {k : Bool → Option α} : f10_0 α (D.map rS) (R.map rR) (s.map rB1) (t.map rB1) k = k true := by
  simp only [f10_0, f10_0g, f14_0]
  rw [f44_eq]
  simp only [List.length_map]
  cases hsm : (decide (D.length ≤ 5) || (decide (8 < D.length) && decide (D.length ≤ 10))) && decide (R.length ≤ 32) with
  | false => rfl
  | true =>
    simp only [Bool.and_eq_true, Bool.or_eq_true, decide_eq_true_eq] at hsm
    simp only [Bool.not_true, cK_false]
    by_cases hs12 : (12 : Int) < ((s.length : Nat) : Int)
    · simp [hs12]
    by_cases ht12 : (12 : Int) < ((t.length : Nat) : Int)
    · simp [hs12, ht12]
    simp only [hs12, ht12, decide_false, cK_false]
    have hR : R.length < 1000 := by omega
    have hD : D.length ≤ 1000000 := by omega
    rw [f46_eq hD (by omega), f56_eq (by omega) (by omega)]
    by_cases he : chE D R s t = 0
    · have hc := chE_ok he
      have h8 := hc.gc.d8
      have h5 : D.length ≤ 5 := by omega
      have h256 := pow8 h8
      obtain ⟨Lf, hf⟩ := isD_ex (S := sfN R) h256 hc.sn hc.ss
      obtain ⟨Lt, ht⟩ := isD_ex (S := sfN R) h256 hc.symm.sn hc.st
      have hsym := hf.sym ht hc.ss hc.st
      have hrf := hf.rng _ hc.symm.sn
      have hlf : Lf.length ≤ 256 := by rw [hf.len]; exact h256
      rw [f55_eq hR hb hc h5 hf ht]
      by_cases hq : lb Lf (num t) = 1000
      · have hq2 : lb Lt (num s) = 1000 := by omega
        rw [if_pos hq, show flatK (α := α) [([] : Rows), Lf.map rI1] = flatK [([] : List Int).map rI1, Lf.map rI1] from rfl, flN2, f57_eq hR, he]
        simp only [bne_self_eq_false, cK_false]
        rw [f58_eq hc ht, if_pos hq2, f59_eq hc, f46_eq hD (by omega), f56_eq (by omega) (by omega), f61_eq (by omega), flN, f60_eq hR hb, if_neg (by simp [he]), labR_ok hf, hq]
        simp
      · have hq2 : ¬ lb Lt (num s) = 1000 := by omega
        obtain ⟨hw1, hw2⟩ := way_ok ht (lb Lt (num s)).toNat (num s) hc.sn (by omega) (by omega)
        rw [if_neg hq, flN2, f57_eq hR, he]
        simp only [bne_self_eq_false, cK_false]
        rw [f58_eq hc ht, if_neg hq2]
        generalize way (sfN R) D.length Lt (lb Lt (num s)).toNat (num s) = w at hw1 hw2 ⊢
        rw [f59_eq hc, f46_eq hD (by omega), f56_eq (by omega) (by omega), f61_eq (by omega), flN, f60_eq hR hb, if_neg (by simp [he]), labR_ok hf]
        simp only [bne_self_eq_false, cK_false, Bool.not_true]
        rw [f46_eq hD (by omega), f56_eq (by omega) (by omega), f61_eq (by omega), flN, f62_eq hR hb, if_neg (by simp [he])]
        have hseq : seqR R D.length w (num s) (num t) = ((w.length : Int), 0) := by
          unfold seqR
          rw [if_neg (by omega), wlk_pth.2 hw2]
          simp
        rw [hseq]
        simp only [beq_self_eq_true, cK_true, List.length_map]
        rw [f63_same (by omega)]
        have : (lb Lf (num t) == (w.length : Int)) = true := by rw [beq_iff_eq]; omega
        rw [this]; rfl
    · rw [f55_err hR hb he, f57_eq hR]
      have : (chE D R s t != 0) = true := bne_iff_ne.2 he
      simp only [this, cK_true, beq_self_eq_true, List.length_nil]
      rfl
end

end Go.AM.K
