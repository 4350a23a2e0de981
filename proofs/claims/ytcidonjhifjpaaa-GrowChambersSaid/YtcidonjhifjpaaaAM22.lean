/- The abstract machine: a region that draws its order. -/
import Derived.Test.YtcidonjhifjpaaaAM21
namespace Go.AM
open Go.RowKit

variable {P : Program} {E : Env} {w0 : Base} {w w' : World} {N0 : Nat → Prop} {r : Option Nat} {n nt : Nat} {mvs : List Nat} {svv : Array Value} {a : Act} {σ σ' : St} {ops : Array Oper} {as : List AOper} {os : List Outc}
  {bef : List (List Nat)} {prs : List (Nat × Nat)}

theorem compileOs_spec : ∀ (l : List Oper) (as : List AOper), compileOs P mvs nt ops l = some as → as.length = l.length ∧ ∀ (i : Nat) (o : Oper), l[i]? = some o → ∃ ao, as[i]? = some ao ∧ compileO P mvs nt ops o = some ao
  | [], as, h => by simp only [compileOs, Option.some.injEq] at h; subst h; simp
  | o :: l, as, h => by
    simp only [compileOs] at h
    split at h
    · rename_i ao as' h1 h2
      simp only [Option.some.injEq] at h
      subst h
      obtain ⟨h3, h4⟩ := compileOs_spec l as' h2
      refine ⟨by simp [h3], fun i o' hi => ?_⟩
      cases i with
      | zero => simp only [List.getElem?_cons_zero, Option.some.injEq] at hi; subst hi; exact ⟨ao, rfl, h1⟩
      | succ i => simpa using h4 i o' (by simpa using hi)
    · cases h

/-- What the checks say. -/
structure Sched (ops : Array Oper) (as : List AOper) (os : List Outc) (bef : List (List Nat)) : Prop where
  len : as.length = ops.size
  olen : os.length = ops.size
  back : ∀ (j : Nat) (o : Oper), ops[j]? = some o → ∀ e ∈ o.after, Region.binds .any e = true → e.on < j
  before : ∀ (j : Nat) (o : Oper), ops[j]? = some o → ∀ i ∈ befOf bef j, ∃ e ∈ o.after, Region.binds .any e = true ∧ (e.on = i ∨ i ∈ befOf bef e.on)
  apart : ∀ (i j : Nat) (x y : AOper), i < j → i ∉ befOf bef j → as[i]? = some x → as[j]? = some y → apartA x y = true
  disj : ∀ (i j : Nat) (x y : Outc), i < j → i ∉ befOf bef j → os[i]? = some x → os[j]? = some y → (∀ n ∈ x.es.map (·.1), n ∉ y.lk) ∧ (∀ n ∈ y.es.map (·.1), n ∉ x.lk)
  sub : ∀ (j : Nat) (x : Outc), os[j]? = some x → ∀ n ∈ x.es.map (·.1), n ∈ x.lk

theorem befOk_spec (h : befOk ops bef = true) : (∀ (j : Nat) (o : Oper), ops[j]? = some o → ∀ e ∈ o.after, Region.binds .any e = true → e.on < j) ∧
    ∀ (j : Nat) (o : Oper), ops[j]? = some o → ∀ i ∈ befOf bef j, ∃ e ∈ o.after, Region.binds .any e = true ∧ (e.on = i ∨ i ∈ befOf bef e.on) := by
  have key : ∀ (j : Nat) (o : Oper), ops[j]? = some o → ((o.after.toList.all fun e => !Region.binds .any e || decide (e.on < j)) &&
      (befOf bef j).all fun i => o.after.toList.any fun e => Region.binds .any e && (e.on == i || (befOf bef e.on).contains i)) = true := by
    intro j o ho
    have hj : j < ops.size := (Array.getElem?_eq_some_iff.1 ho).1
    have := List.all_eq_true.1 h j (List.mem_range.2 hj)
    simp only [ho] at this
    exact this
  refine ⟨fun j o ho e he hb => ?_, fun j o ho i hi => ?_⟩
  · have := key j o ho
    simp only [Bool.and_eq_true] at this
    have := List.all_eq_true.1 this.1 e (by simpa using he)
    simpa [hb] using this
  · have := key j o ho
    simp only [Bool.and_eq_true] at this
    have := List.all_eq_true.1 this.2 i hi
    obtain ⟨e, he, hx⟩ := List.any_eq_true.1 this
    simp only [Bool.and_eq_true, Bool.or_eq_true, beq_iff_eq, List.contains_iff_mem] at hx
    exact ⟨e, by simpa using he, hx.1, hx.2⟩

theorem pairsOk_spec (h : pairsOk as bef prs = true) {i j : Nat} {x y : AOper} (hij : i < j) (hb : i ∉ befOf bef j) (hx : as[i]? = some x) (hy : as[j]? = some y) :
    apartA x y = true ∧ (calmPair x y = true ∨ (i, j) ∈ prs) := by
  have hj : j < as.length := (List.getElem?_eq_some_iff.1 hy).1
  have := List.all_eq_true.1 (List.all_eq_true.1 h j (List.mem_range.2 hj)) i (List.mem_range.2 hij)
  simp only [hx, hy, Bool.or_eq_true, Bool.and_eq_true, List.contains_iff_mem] at this
  rcases this with this | this
  · exact absurd this hb
  · exact this

theorem disjN_spec {l m : List Nat} (h : disjN l m = true) : ∀ n ∈ l, n ∉ m := by
  intro n hn hm
  have := List.all_eq_true.1 h n hn
  simp [hm] at this

theorem outA_kind {ao : AOper} {y : AV} {es : List (Nat × Entry)} (h : outA P E ao σ = some (y, es)) (hk : kindA ao.op ≤ 1) : es = [] := by
  unfold outA at h
  split at h
  · exact kind_es hk h
  · simp only [Option.some.injEq, Prod.mk.injEq] at h; exact h.2.symm
  · cases h

theorem sched_of (hc : compileOs P mvs nt ops ops.toList = some as) (hb : befOk ops bef = true) (hp : pairsOk as bef prs = true) (ho : outsA P E as σ = some (os, σ')) (hd : prs.all (pairOk os) = true) : Sched ops as os bef := by
  obtain ⟨h1, h2⟩ := compileOs_spec _ _ hc
  obtain ⟨h3, _, h5⟩ := outsA_spec as σ os σ' 0 ho
  obtain ⟨h6, h7⟩ := befOk_spec hb
  have hget : ∀ (i : Nat) (x : Outc), os[i]? = some x → ∃ ao, as[i]? = some ao := fun i x hx => by
    have hi : i < as.length := by rw [← h3]; exact (List.getElem?_eq_some_iff.1 hx).1
    exact ⟨as[i], by simp [hi]⟩
  have hsub : ∀ (j : Nat) (x : Outc), os[j]? = some x → ∀ n ∈ x.es.map (·.1), n ∈ x.lk := by
    intro j x hx n hn
    obtain ⟨ao, hao⟩ := hget j x hx
    obtain ⟨h8, _, h9⟩ := h5 j ao x hao hx
    rw [h9]
    unfold lkA
    split
    · exact List.mem_append_right _ hn
    · rename_i hw
      unfold outA at h8
      split at h8
      · rename_i hw'; exact absurd hw' (by simpa using hw)
      · simp only [Option.some.injEq, Prod.mk.injEq] at h8
        rw [← h8.2] at hn
        simp at hn
      · cases h8
  refine ⟨by simpa using h1, by rw [h3]; simpa using h1, h6, h7, fun i j x y hij hb hx hy => (pairsOk_spec hp hij hb hx hy).1, fun i j x y hij hbf hx hy => ?_, hsub⟩
  obtain ⟨ax, hax⟩ := hget i x hx
  obtain ⟨ay, hay⟩ := hget j y hy
  obtain ⟨ex, _, lx⟩ := h5 i ax x hax hx
  obtain ⟨ey, _, ly⟩ := h5 j ay y hay hy
  rcases (pairsOk_spec hp hij hbf hax hay).2 with hcalm | hmem
  · have z1 : kindA ax.op = 0 → x.es = [] ∧ x.lk = [] := fun hk => by
      have := outA_kind ex (by omega)
      refine ⟨this, ?_⟩
      rw [lx, this]
      unfold lkA
      split
      · simp [kind_looks hk]
      · rfl
    have z2 : kindA ay.op = 0 → y.es = [] ∧ y.lk = [] := fun hk => by
      have := outA_kind ey (by omega)
      refine ⟨this, ?_⟩
      rw [ly, this]
      unfold lkA
      split
      · simp [kind_looks hk]
      · rfl
    simp only [calmPair, Bool.or_eq_true, beq_iff_eq, Bool.and_eq_true, decide_eq_true_eq] at hcalm
    rcases hcalm with (hk | hk) | ⟨hk1, hk2⟩
    · rw [(z1 hk).1, (z1 hk).2]; simp
    · rw [(z2 hk).1, (z2 hk).2]; simp
    · rw [outA_kind ex hk1, outA_kind ey hk2]; simp
  · have := List.all_eq_true.1 hd (i, j) hmem
    simp only [pairOk, esN, lkN, hx, hy, Bool.and_eq_true] at this
    exact ⟨disjN_spec this.1, disjN_spec this.2⟩

/-- What is listed is closed backwards. -/
def Closed (ops : Array Oper) (p : Nat → Bool) : Prop := ∀ (j : Nat) (o : Oper), ops[j]? = some o → p j = true → ∀ e ∈ o.after, Region.binds .any e = true → p e.on = true

theorem Sched.closed (hS : Sched ops as os bef) {p : Nat → Bool} (hp : Closed ops p) : ∀ (j : Nat) (o : Oper), ops[j]? = some o → (∀ e ∈ o.after, Region.binds .any e = true → p e.on = true) → ∀ i ∈ befOf bef j, p i = true := by
  intro j
  induction j using Nat.strongRecOn with
  | ind j ih =>
    intro o ho hd i hi
    obtain ⟨e, he, hb, h⟩ := hS.before j o ho i hi
    rcases h with h | h
    · rw [← h]; exact hd e he hb
    · have hlt := hS.back j o ho e he hb
      have hj : j < ops.size := (Array.getElem?_eq_some_iff.1 ho).1
      have ho' : ops[e.on]? = some ops[e.on] := by simp [show e.on < ops.size by omega]
      exact ih e.on hlt ops[e.on] ho' (hp e.on _ ho' (hd e he hb)) i h

theorem Sched.lt_of_bef (hS : Sched ops as os bef) : ∀ (j : Nat) (o : Oper), ops[j]? = some o → ∀ i ∈ befOf bef j, i < j := by
  intro j
  induction j using Nat.strongRecOn with
  | ind j ih =>
    intro o ho i hi
    obtain ⟨e, he, hb, h⟩ := hS.before j o ho i hi
    have hlt := hS.back j o ho e he hb
    rcases h with h | h
    · omega
    · have hj : j < ops.size := (Array.getElem?_eq_some_iff.1 ho).1
      have ho' : ops[e.on]? = some ops[e.on] := by simp [show e.on < ops.size by omega]
      have := ih e.on hlt _ ho' i h
      omega

theorem dstNot_spec {d : Option Nat} {l : List Nat} (h : dstNot d l = true) {t : Nat} (hd : d = some t) : t ∉ l := by
  subst hd
  simpa [dstNot] using h

/-- An operation that is ready behaves as it did in the order of the text, and adds what it added there. -/
theorem Sched.take (hS : Sched ops as os bef) {σ0 : St} (hsp : ∀ j ao o, as[j]? = some ao → os[j]? = some o →
      outA P E ao (foldS (fun i => decide (i < 0 + j)) 0 os σ0) = some (o.y, o.es) ∧ o.dst = ao.dst ∧ o.lk = lkA (foldS (fun i => decide (i < 0 + j)) 0 os σ0) ao o.es)
    {p : Nat → Bool} (hp : Closed ops p) {j : Nat} {op : Oper} {ao : AOper} {o : Outc} (hop : ops[j]? = some op) (hao : as[j]? = some ao) (ho : os[j]? = some o) (hn : noSelB ao.op = true) (hj : p j = false)
    (hd : ∀ e ∈ op.after, Region.binds .any e = true → p e.on = true) {σc : St} (ht : ∀ t, aget σc.tmps t = aget (foldS p 0 os σ0).tmps t) (hT : ∀ n, aget σc.tab n = aget (foldS p 0 os σ0).tab n) :
    outA P E ao σc = some (o.y, o.es) ∧ ∀ q : Nat → Bool, (∀ i, i < os.length → q i = (p i || i == j)) →
      (∀ t, aget (applyO o σc).tmps t = aget (foldS q 0 os σ0).tmps t) ∧ ∀ n, aget (applyO o σc).tab n = aget (foldS q 0 os σ0).tab n := by
  obtain ⟨hout, hdst, hlk⟩ := hsp j ao o hao ho
  have hget : ∀ (i : Nat) (x : Outc), os[i]? = some x → ∃ ai oi, as[i]? = some ai ∧ ops[i]? = some oi ∧ x.dst = ai.dst := fun i x hx => by
    have hi : i < ops.size := by rw [← hS.olen]; exact (List.getElem?_eq_some_iff.1 hx).1
    have hi' : i < as.length := by rw [hS.len]; exact hi
    refine ⟨as[i], ops[i], by simp [hi'], by simp [hi], (hsp i as[i] x (by simp [hi']) hx).2.1⟩
  have later : ∀ (i : Nat) (x : Outc), os[i]? = some x → j < i → p i = true → j ∉ befOf bef i := fun i x hx hji hpi hb => by
    obtain ⟨ai, oi, h1, h2, _⟩ := hget i x hx
    have := hS.closed hp i oi h2 (hp i oi h2 hpi) j hb
    rw [hj] at this
    cases this
  have agree : ∀ (i : Nat) (x : Outc), os[i]? = some x → ((∃ t, x.dst = some t ∧ t ∈ slotsA ao) ∨ ∃ n ∈ x.es.map (·.1), n ∈ o.lk) → p i = decide (i < j) := by
    intro i x hx hcase
    obtain ⟨ai, oi, h1, h2, h3⟩ := hget i x hx
    rcases Nat.lt_trichotomy i j with hij | hij | hij
    · rw [decide_eq_true hij]
      by_cases hb : i ∈ befOf bef j
      · exact hS.closed hp j op hop hd i hb
      · exfalso
        rcases hcase with ⟨t, ht1, ht2⟩ | ⟨m, hm1, hm2⟩
        · have := hS.apart i j ai ao hij hb h1 hao
          simp only [apartA, Bool.and_eq_true] at this
          exact dstNot_spec this.1.1 (h3 ▸ ht1) ht2
        · exact (hS.disj i j x o hij hb hx ho).1 m hm1 hm2
    · subst hij; simp [hj]
    · rw [decide_eq_false (by omega)]
      cases hpi : p i with
      | false => rfl
      | true =>
        exfalso
        have hb := later i x hx hij hpi
        rcases hcase with ⟨t, ht1, ht2⟩ | ⟨m, hm1, hm2⟩
        · have := hS.apart j i ao ai hij hb hao h1
          simp only [apartA, Bool.and_eq_true] at this
          exact dstNot_spec this.1.2 (h3 ▸ ht1) ht2
        · exact (hS.disj j i o x hij hb ho hx).2 m hm1 hm2
  constructor
  · refine outA_congr hn (fun t hts => ?_) (fun m hm => ?_) hout
    · rw [ht]
      exact foldS_tmp os 0 σ0 σ0 rfl fun i x hx hxd => by simpa using agree i x hx (.inl ⟨t, hxd, hts⟩)
    · rw [hT]
      rw [← hlk] at hm
      exact foldS_tab os 0 σ0 σ0 rfl fun i x hx hxn => by simpa using agree i x hx (.inr ⟨m, hxn, hm⟩)
  · intro q hq
    have hlen : ∀ (i : Nat) (x : Outc), os[i]? = some x → i < os.length := fun i x hx => (List.getElem?_eq_some_iff.1 hx).1
    have hqj : q (0 + j) = true := by rw [Nat.zero_add, hq j (hlen j o ho)]; simp
    constructor
    · intro t
      simp only [applyO, applyA, get_put]
      split
      · rename_i hdt
        refine (foldS_last_tmp hdt os 0 j σ0 ho hqj fun i x hx hji hqi hxd => ?_).symm
        rw [Nat.zero_add, hq i (hlen i x hx)] at hqi
        have hpi : p i = true := by
          have : ¬ i = j := by omega
          simpa [this] using hqi
        obtain ⟨ai, oi, h1, h2, h3⟩ := hget i x hx
        have := hS.apart j i ao ai hji (later i x hx hji hpi) hao h1
        simp only [apartA, Bool.and_eq_true] at this
        exact dstNot_spec this.2 (hdst ▸ hdt) (by rw [← h3, hxd]; simp)
      · rename_i hdt
        rw [ht]
        refine foldS_tmp os 0 σ0 σ0 rfl fun i x hx hxd => ?_
        rw [Nat.zero_add, hq i (hlen i x hx)]
        by_cases hij : i = j
        · subst hij
          rw [ho] at hx
          simp only [Option.some.injEq] at hx
          subst hx
          exact absurd hxd hdt
        · simp [hij]
    · intro m
      simp only [applyO, applyA]
      by_cases hm : m ∈ o.es.map (·.1)
      · refine (foldS_last_tab hm σc.tab os 0 j σ0 ho hqj fun i x hx hji hqi hxd => ?_).symm
        rw [Nat.zero_add, hq i (hlen i x hx)] at hqi
        have hpi : p i = true := by
          have : ¬ i = j := by omega
          simpa [this] using hqi
        exact (hS.disj j i o x hji (later i x hx hji hpi) ho hx).1 m hm (hS.sub i x hx m hxd)
      · rw [get_aputs_not hm, hT]
        refine foldS_tab os 0 σ0 σ0 rfl fun i x hx hxd => ?_
        rw [Nat.zero_add, hq i (hlen i x hx)]
        by_cases hij : i = j
        · subst hij
          rw [ho] at hx
          simp only [Option.some.injEq] at hx
          subst hx
          exact absurd hxd hm
        · simp [hij]

theorem any_ok (hE : EnvOk P E) (hds : dstsOk nt ops = true) (hc : compileOs P mvs nt ops ops.toList = some as) (hS : Sched ops as os bef) {σ0 : St} (hfin : foldS (fun _ => true) 0 os σ0 = σ')
    (hsp : ∀ j ao o, as[j]? = some ao → os[j]? = some o →
      outA P E ao (foldS (fun i => decide (i < 0 + j)) 0 os σ0) = some (o.y, o.es) ∧ o.dst = ao.dst ∧ o.lk = lkA (foldS (fun i => decide (i < 0 + j)) 0 os σ0) ao o.es)
    {Q : Exit → Act → World → Prop} (hQ : ∀ a' w', Rel w0 N0 nt svv σ' a' w' → Q .normal a' w') :
    ∀ (fuel : Nat) (U : List Nat) (listed : Array Bool) (σc : St) (a : Act) (w : World), Rel w0 N0 nt svv σc a w → listed.size = ops.size → U.Nodup → (∀ j, j ∈ U ↔ listed[j]? = some false) → U.length = fuel →
      Closed ops (fun i => listed.getD i false) → (∀ t, aget σc.tmps t = aget (foldS (fun i => listed.getD i false) 0 os σ0).tmps t) → (∀ n, aget σc.tab n = aget (foldS (fun i => listed.getD i false) 0 os σ0).tab n) → σc.sv = σ0.sv →
      wpAnyIn (Fw r) n P .any ops Q fuel listed a w := by
  have hend : ∀ (U : List Nat) (listed : Array Bool) (σc : St) (a : Act) (w : World), Rel w0 N0 nt svv σc a w → listed.size = ops.size → (∀ j, j ∈ U ↔ listed[j]? = some false) → U = [] →
      (∀ t, aget σc.tmps t = aget (foldS (fun i => listed.getD i false) 0 os σ0).tmps t) → (∀ n, aget σc.tab n = aget (foldS (fun i => listed.getD i false) 0 os σ0).tab n) → σc.sv = σ0.sv → Q .normal a w := by
    intro U listed σc a w hR hsz hU hnil ht hT hsv
    have hall : ∀ (i : Nat) (x : Outc), os[i]? = some x → listed.getD (0 + i) false = true := fun i x hx => by
      have hi : i < listed.size := by rw [hsz, ← hS.olen]; exact (List.getElem?_eq_some_iff.1 hx).1
      cases hl : listed[i] with
      | true => simp [Array.getD, hi, hl]
      | false =>
        have : i ∈ U := (hU i).2 (by simp [hi, hl])
        rw [hnil] at this
        simp at this
    refine hQ a w (hR.congr (fun t => ?_) (fun m => ?_) (by rw [← hfin, foldS_sv, hsv]))
    · rw [← hfin, ht]; exact foldS_tmp os 0 σ0 σ0 rfl fun i x hx _ => (hall i x hx).symm
    · rw [← hfin, hT]; exact foldS_tab os 0 σ0 σ0 rfl fun i x hx _ => (hall i x hx).symm
  have hready : ∀ (U : List Nat) (listed : Array Bool), listed.size = ops.size → (∀ j, j ∈ U ↔ listed[j]? = some false) → Region.ready .any ops listed = [] → U = [] := by
    intro U listed hsz hU hr
    have key : ∀ j, j ∉ U := by
      intro j
      induction j using Nat.strongRecOn with
      | ind j ih =>
        intro hj
        have hlj := (hU j).1 hj
        have hjs : j < ops.size := by rw [← hsz]; exact (Array.getElem?_eq_some_iff.1 hlj).1
        have ho : ops[j]? = some ops[j] := by simp [hjs]
        have : j ∈ Region.ready .any ops listed := mem_ready.2 ⟨by simp [Array.getD_eq_getD_getElem?, hlj], ops[j], ho, fun e he hb => by
          have hlt := hS.back j _ ho e he hb
          have h1 := ih e.on hlt
          rw [hU] at h1
          have hes : e.on < listed.size := by omega
          cases hl : listed[e.on] with
          | true => simp [Array.getD, hes, hl]
          | false => exact absurd (by simp [hes, hl]) h1⟩
        rw [hr] at this
        cases this
    cases U with
    | nil => rfl
    | cons j U => exact absurd (List.mem_cons_self) (key j)
  intro fuel
  induction fuel with
  | zero =>
    intro U listed σc a w hR hsz hnd hU hlen hcl ht hT hsv
    have hnil : U = [] := List.length_eq_zero_iff.1 hlen
    refine ⟨?_, hend U listed σc a w hR hsz hU hnil ht hT hsv⟩
    cases hr : Region.ready .any ops listed with
    | nil => rfl
    | cons j l =>
      have hj : j ∈ Region.ready .any ops listed := by rw [hr]; exact List.mem_cons_self
      obtain ⟨h0, o, ho, _⟩ := mem_ready.1 hj
      have hjs : j < listed.size := by rw [hsz]; exact (Array.getElem?_eq_some_iff.1 ho).1
      have : j ∈ U := (hU j).2 (by simp [Array.getD, hjs] at h0; simp [hjs, h0])
      rw [hnil] at this
      simp at this
  | succ fuel ih =>
    intro U listed σc a w hR hsz hnd hU hlen hcl ht hT hsv
    refine ⟨fun hr => hend U listed σc a w hR hsz hU (hready U listed hsz hU hr) ht hT hsv, fun j hj => ?_⟩
    obtain ⟨h0, op, hop, hdeps⟩ := mem_ready.1 hj
    have hjo : j < ops.size := (Array.getElem?_eq_some_iff.1 hop).1
    have hjs : j < listed.size := by omega
    have hlj : listed[j] = false := by simpa [Array.getD, hjs] using h0
    obtain ⟨ao, hao, hco⟩ := (compileOs_spec _ _ hc).2 j op (by simpa using hop)
    have hjl : j < os.length := by rw [hS.olen]; exact hjo
    have hoj : os[j]? = some os[j] := by simp [hjl]
    obtain ⟨_, _, _, _, hns⟩ := compileO_spec hco
    have hdst : (os[j]).dst = ao.dst := (hsp j ao _ hao hoj).2.1
    obtain ⟨hout, hadd⟩ := hS.take (P := P) (E := E) hsp hcl hop hao hoj hns (by simp [Array.getD, hjs, hlj]) hdeps ht hT
    have hstep : stepA P E ao σc = some (applyO os[j] σc) := by
      unfold stepA
      rw [hout]
      simp only [applyO, hdst]
    refine stepA_ok hE hco hds hop hR hstep fun a' w' hR' => ?_
    have hq : ∀ i, i < os.length → (listed.setIfInBounds j true).getD i false = (listed.getD i false || i == j) := by
      intro i hi
      have his : i < listed.size := by rw [hsz, ← hS.olen]; exact hi
      by_cases hij : i = j
      · subst hij; simp [hjs]
      · rw [getD_set_ne false (Ne.symm hij)]; simp [hij]
    obtain ⟨h1, h2⟩ := hadd (fun i => (listed.setIfInBounds j true).getD i false) hq
    have hjU : j ∈ U := (hU j).2 (by simp [hjs, hlj])
    refine ih (U.erase j) (listed.setIfInBounds j true) _ a' w' hR' (by simpa using hsz) (hnd.erase j) (fun i => ?_) (by rw [List.length_erase_of_mem hjU, hlen]; rfl) (fun i o ho hi e he hb => ?_) h1 h2 hsv
    · rw [hnd.mem_erase_iff, hU]
      by_cases hij : i = j
      · subst hij; simp [hjs]
      · rw [Array.getElem?_setIfInBounds_ne (Ne.symm hij)]; simp [hij]
    · have his : i < os.length := by rw [hS.olen]; exact (Array.getElem?_eq_some_iff.1 ho).1
      have hon : e.on < os.length := by have := hS.back i o ho e he hb; omega
      simp only [hq i his, Bool.or_eq_true, beq_iff_eq] at hi
      simp only [hq e.on hon, Bool.or_eq_true, beq_iff_eq]
      rcases hi with hi | hi
      · exact .inl (hcl i o ho hi e he hb)
      · subst hi
        rw [hop] at ho
        simp only [Option.some.injEq] at ho
        subst ho
        exact .inl (hdeps e he hb)

/-- A region that draws its order. -/
theorem draw_ok (hE : EnvOk P E) (hm : P.follows .mixedOrders = true) (hds : dstsOk nt ops = true) (hc : compileOs P mvs nt ops ops.toList = some as) (hb : befOk ops bef = true) (hp : pairsOk as bef prs = true)
    (ho : outsA P E as σ = some (os, σ')) (hd : prs.all (pairOk os) = true) {id : Nat} {Q : Exit → Act → World → Prop} (hR : Rel w0 N0 nt svv σ a w)
    (hQ : ∀ a' w', Rel w0 N0 nt svv σ' a' w' → Q .normal a' w') : (Code.region id ops true).wpIn (Fw r) n P Q a w := by
  have hS := sched_of hc hb hp ho hd
  obtain ⟨h3, h4, h5⟩ := outsA_spec as σ os σ' 0 ho
  have e1 : ∀ (l : List Outc) (k : Nat) (σ : St), foldS (fun i => (Array.replicate ops.size false).getD i false) k l σ = σ := by
    intro l
    induction l with
    | nil => intro k σ; rfl
    | cons o l ih =>
      intro k σ
      simp only [foldS, ih]
      rw [if_neg]
      simp only [Array.getD_eq_getD_getElem?, Array.getElem?_replicate]
      split <;> simp
  refine wpIn_region_any hm (any_ok hE hds hc hS h4 h5 hQ ops.size (List.range ops.size) (Array.replicate ops.size false) σ a _ hR.drew (by simp) List.nodup_range (fun j => ?_) (by simp) (fun j o hj hp => ?_) (fun t => by rw [e1]) (fun m => by rw [e1]) rfl)
  · rw [List.mem_range, Array.getElem?_replicate]
    split <;> simp_all
  · simp only [Array.getD_eq_getD_getElem?, Array.getElem?_replicate] at hp
    split at hp <;> simp at hp

/-- Where no pair leans on memory, the plain run does. -/
theorem outs_of_run : ∀ (as : List AOper) (σ σ' : St), runA P E as σ = some σ' → ∃ os, outsA P E as σ = some (os, σ')
  | [], σ, σ', h => by simp only [runA, Option.some.injEq] at h; subst h; exact ⟨[], rfl⟩
  | ao :: l, σ, σ', h => by
    simp only [runA, stepA] at h
    split at h
    · rename_i σ1 h1
      split at h1
      · rename_i y es hout
        simp only [Option.some.injEq] at h1
        subst h1
        obtain ⟨os, hos⟩ := outs_of_run l _ _ h
        exact ⟨⟨ao.dst, y, es, lkA σ ao es⟩ :: os, by simp only [outsA, hout, hos]⟩
      · cases h1
    · cases h

end Go.AM
