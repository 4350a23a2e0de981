/- The abstract machine: a function's contract is one run of its code. -/
import Derived.Test.YtcidonjhifjpaaaAM24
namespace Go.AM
open Go.RowKit

variable {P : Program} {E : Env} {w0 : Base} {w w' : World} {N0 : Nat → Prop} {g g' : Gh} {T T' : Tab} {nt : Nat} {svv : Array Value} {a : Act} {σ σ' : St} {tr tl : List (Nat × Tidy)}

def resVal (tmps : Array Value) : ResultVar → Sem Value
  | .tmp t => pure (tmps.getD t undef)
  | .cell a t => do loadVar t (← asAddr (tmps.getD a undef))

/-- One result. -/
theorem resAV_ok (hM : Mem w0 N0 g σ.tab w) (hS : SRel w (avoid N0 g σ.tab) g σ.tab σ.tmps a.tmps) : ∀ (rv : ResultVar) (l : List ResultVar) (rs : List AResV), fnRes P (rv :: l) = some rs → ∃ x r, rs = x :: r ∧ fnRes P l = some r ∧
    ∀ y, resAV σ x = some y → ∃ v, (resVal a.tmps rv).run P w = .ok v w ∧ AVRel w (avoid N0 g σ.tab) g σ.tab y v := by
  intro rv l rs h
  cases rv with
  | tmp t =>
    simp only [fnRes, Option.map_eq_some_iff] at h
    obtain ⟨r, h1, rfl⟩ := h
    refine ⟨_, r, rfl, h1, fun y hy => ?_⟩
    simp only [resAV, Option.some.injEq] at hy
    subst hy
    exact ⟨_, rfl, evO_rel (a := a) hS (.tmp t)⟩
  | cell t ty =>
    simp only [fnRes] at h
    split at h
    · rename_i d s hu hs
      simp only [Option.map_eq_some_iff] at h
      obtain ⟨r, h1, rfl⟩ := h
      refine ⟨_, r, rfl, h1, fun y hy => ?_⟩
      simp only [resAV] at hy
      split at hy
      · rename_i m off hx
        obtain ⟨_, b, hb, hv⟩ := oneA_rel (evO_rel (a := a) hS (.tmp t)) hx
        have hv' : a.tmps.getD t undef = .pointer (some ⟨b, off, none⟩) := hv
        generalize hk : (if isAggD d = true then s else 1) = k at hy
        split at hy
        · rename_i cs hm
          split at hy
          · rename_i hlen
            obtain ⟨b', cells, t', h1', h2, h3, h4, h5⟩ := hM.box hm
            rw [hb] at h1'
            simp only [Option.some.injEq] at h1'
            subst h1'
            have hcell : ∀ j c, ((cs.drop off).take k)[j]? = some c → w.cell? ⟨b, off + j, none⟩ = some ((cells[off + j]?).getD undef) ∧ CRel w (avoid N0 g σ.tab) g σ.tab c ((cells[off + j]?).getD undef) := by
              intro j c hc
              obtain ⟨hj, hc⟩ := getElem?_seg hc
              have hlt : off + j < cells.size := by rw [h3]; exact (List.getElem?_eq_some_iff.1 hc).1
              simp only [World.cell?, h2]
              refine ⟨by simp [hlt], ?_⟩
              have := h4 (off + j) c cells[off + j] hc (by simp [hlt])
              simpa [hlt] using this
            simp only [resVal, hv', asAddr]
            unfold aggA at hy
            cases hd : isAggD d with
            | true =>
              simp only [hd, if_true] at hk
              subst hk
              simp only [hd, if_true, Option.some.injEq] at hy
              subst hy
              have hl : ((cs.drop off).take s).length = s := by simp; omega
              refine ⟨.agg ((List.range s).map fun j => (cells[off + j]?).getD undef).toArray, ?_, ?_⟩
              · have := load_agg (P := P) (w := w) hu hd hs (fun j => (cells[off + j]?).getD undef) (b := b) (o := off) (fun j hj => (hcell j ((cs.drop off).take s)[j] (by rw [List.getElem?_eq_getElem])).1)
                simpa using this
              · refine ⟨_, rfl, by rw [hl]; simp, fun i c x hc hx => ?_⟩
                have h1 := (hcell i c hc).2
                have hi : i < s := by rw [← hl]; exact (List.getElem?_eq_some_iff.1 hc).1
                simp [hi] at hx
                rwa [← hx]
            | false =>
              simp only [hd, Bool.false_eq_true, if_false] at hk
              subst hk
              simp only [hd, Bool.false_eq_true, if_false] at hy
              split at hy
              · rename_i c hc
                simp only [Option.some.injEq] at hy
                subst hy
                obtain ⟨h6, h7⟩ := hcell 0 c (by rw [hc]; rfl)
                refine ⟨_, ?_, ⟨c, rfl, h7⟩⟩
                have := load_one (P := P) (w := w) hu hd (show w.cell? ⟨b, off, none⟩ = some ((cells[off + 0]?).getD undef) by simpa using h6)
                simpa using this
              · cases hy
          · cases hy
        · cases hy
      · cases hy
    · cases h

/-- All results. -/
theorem resAVs_ok (hM : Mem w0 N0 g σ.tab w) (hS : SRel w (avoid N0 g σ.tab) g σ.tab σ.tmps a.tmps) : ∀ (l : List ResultVar) (rs : List AResV) (ys : List AV), fnRes P l = some rs → resAVs σ rs = some ys →
    ∃ vs : List Value, (l.mapM (resVal a.tmps)).run P w = .ok vs w ∧ vs.length = ys.length ∧ ∀ (i : Nat) (y : AV) (v : Value), ys[i]? = some y → vs[i]? = some v → AVRel w (avoid N0 g σ.tab) g σ.tab y v
  | [], rs, ys, h, hy => by
    simp only [fnRes, Option.some.injEq] at h
    subst h
    simp only [resAVs, Option.some.injEq] at hy
    subst hy
    exact ⟨[], rfl, rfl, fun i y v h => by simp at h⟩
  | rv :: l, rs, ys, h, hy => by
    obtain ⟨x, r, rfl, h1, h2⟩ := resAV_ok (P := P) hM hS rv l rs h
    simp only [resAVs] at hy
    split at hy
    · rename_i y ys' hy1 hy2
      simp only [Option.some.injEq] at hy
      subst hy
      obtain ⟨v, hv, hr⟩ := h2 y hy1
      obtain ⟨vs, hvs, hl, hrs⟩ := resAVs_ok hM hS l r ys' h1 hy2
      refine ⟨v :: vs, ?_, by simp [hl], fun i y' v' hi hv' => ?_⟩
      · rw [List.mapM_cons]
        simp [Sem.run_bind, hv, hvs]
      · cases i with
        | zero => simp at hi hv'; subst hi; subst hv'; exact hr
        | succ i => exact hrs i y' v' (by simpa using hi) (by simpa using hv')
    · cases hy

theorem results_run {fn : Func} {tmps : Array Value} {vs : List Value} (h : (fn.results.toList.mapM (resVal tmps)).run P w = .ok vs w) :
    (results fn tmps).run P w = .ok (if h : vs.toArray.size = 1 then vs.toArray[0] else .tuple vs.toArray) w := by
  have e : results fn tmps = (do let vs ← fn.results.mapM (resVal tmps); pure (if h : vs.size = 1 then vs[0] else .tuple vs)) := by
    unfold results
    congr 1
  rw [e, Sem.run_bind, Array.mapM_eq_mapM_toList, Sem.run_map, h]
  rfl

/-- Where an owned slice is handed over, its block. -/
def blkAt (g : Gh) (T : Tab) (avs : List AV) (i j : Nat) : Option Nat :=
  match avs[i]? with
  | some (.val _ cs) => match cs[j]? with
    | some (.ref n) => match aget T n with
      | some (.own _ _) => g.blk n
      | _ => none
    | _ => none
  | _ => none

theorem mem_ownCs {i : Nat} : ∀ {cs : List C} {j k n s : Nat} {rows : List (List DC)}, cs[k]? = some (.ref n) → aget T n = some (.own s rows) → ((i, j + k), n) ∈ ownCs T i j cs
  | [], j, k, n, s, rows, h, _ => by simp at h
  | c :: r, j, 0, n, s, rows, h, ho => by
    simp only [List.getElem?_cons_zero, Option.some.injEq] at h
    subst h
    simp [ownCs, ho]
  | c :: r, j, k + 1, n, s, rows, h, ho => by
    have := mem_ownCs (i := i) (j := j + 1) (cs := r) (k := k) (by simpa using h) ho
    rw [show j + 1 + k = j + (k + 1) by omega] at this
    simp only [ownCs]
    split
    · split
      · exact List.mem_cons_of_mem _ this
      · exact this
    · exact this

theorem mem_ownAs : ∀ {avs : List AV} {i k j n s : Nat} {b : Bool} {cs : List C} {rows : List (List DC)}, avs[k]? = some (.val b cs) → cs[j]? = some (.ref n) → aget T n = some (.own s rows) → ((i + k, j), n) ∈ ownAs T i avs
  | [], i, k, j, n, s, b, cs, rows, h, _, _ => by simp at h
  | x :: r, i, 0, j, n, s, b, cs, rows, h, hc, ho => by
    simp only [List.getElem?_cons_zero, Option.some.injEq] at h
    subst h
    have := mem_ownCs (T := T) (i := i) (j := 0) hc ho
    simp only [ownAs, List.mem_append]
    exact .inl (by simpa using this)
  | x :: r, i, k + 1, j, n, s, b, cs, rows, h, hc, ho => by
    have := mem_ownAs (i := i + 1) (avs := r) (k := k) (by simpa using h) hc ho
    rw [show i + 1 + k = i + (k + 1) by omega] at this
    simp only [ownAs, List.mem_append]
    exact .inr this

theorem cellsR_spec : ∀ {cs : List C} {xs : List RC} {l : List Nat}, cellsR T cs = some (xs, l) → xs.length = cs.length ∧ ∀ (i : Nat) (c : C), cs[i]? = some c → ∃ x l', xs[i]? = some x ∧ cellR T c = some (x, l') ∧ ∀ m ∈ l', m ∈ l
  | [], xs, l, h => by simp only [cellsR, Option.some.injEq, Prod.mk.injEq] at h; obtain ⟨rfl, rfl⟩ := h; simp
  | c :: r, xs, l, h => by
    simp only [cellsR] at h
    split at h
    · rename_i x l1 xs' l2 h1 h2
      simp only [Option.some.injEq, Prod.mk.injEq] at h
      obtain ⟨rfl, rfl⟩ := h
      obtain ⟨h3, h4⟩ := cellsR_spec h2
      refine ⟨by simp [h3], fun i c' hc => ?_⟩
      cases i with
      | zero => simp at hc; subst hc; exact ⟨x, l1, rfl, h1, fun m hm => List.mem_append_left _ hm⟩
      | succ i =>
        obtain ⟨y, l', hy, hc', hl⟩ := h4 i c' (by simpa using hc)
        exact ⟨y, l', by simpa using hy, hc', fun m hm => List.mem_append_right _ (hl m hm)⟩
    · cases h

theorem avsR_spec : ∀ {avs : List AV} {res : List RV} {l : List Nat}, avsR T avs = some (res, l) → res.length = avs.length ∧ ∀ (i : Nat) (x : AV), avs[i]? = some x → ∃ b cs xs l', x = .val b cs ∧ res[i]? = some (b, xs) ∧ cellsR T cs = some (xs, l') ∧ ∀ m ∈ l', m ∈ l
  | [], res, l, h => by simp only [avsR, Option.some.injEq, Prod.mk.injEq] at h; obtain ⟨rfl, rfl⟩ := h; simp
  | .val b cs :: r, res, l, h => by
    simp only [avsR] at h
    split at h
    · rename_i x l1 xs' l2 h1 h2
      simp only [Option.some.injEq, Prod.mk.injEq] at h
      obtain ⟨rfl, rfl⟩ := h
      obtain ⟨h3, h4⟩ := avsR_spec h2
      refine ⟨by simp [h3], fun i c' hc => ?_⟩
      cases i with
      | zero => simp at hc; subst hc; exact ⟨b, cs, x, l1, rfl, rfl, h1, fun m hm => List.mem_append_left _ hm⟩
      | succ i =>
        obtain ⟨b', cs', y, l', h5, hy, hc', hl⟩ := h4 i c' (by simpa using hc)
        exact ⟨b', cs', y, l', h5, by simpa using hy, hc', fun m hm => List.mem_append_right _ (hl m hm)⟩
    · cases h
  | .tup _ :: r, res, l, h => by simp [avsR] at h

/-- What a function hands back is what the machine says. -/
theorem resOut_ok {wb : World} (hM : Mem ⟨wb, fun _ => False⟩ N0 g σ.tab w) {avs : List AV} {vs : List Value} {res : List RV} {names : List Nat} (hl : vs.length = avs.length)
    (hr : ∀ (i : Nat) (y : AV) (v : Value), avs[i]? = some y → vs[i]? = some v → AVRel w (avoid N0 g σ.tab) g σ.tab y v)
    (ha : avsR σ.tab avs = some (res, names)) (ho : ownsOk (ownAs σ.tab 0 avs) names = true) : ResRel wb N0 res (if h : vs.toArray.size = 1 then vs.toArray[0] else .tuple vs.toArray) w := by
  obtain ⟨h1, h2⟩ := avsR_spec ha
  have hown : ∀ (i j b : Nat), blkAt g σ.tab avs i j = some b → ∃ bb cs n s rows, avs[i]? = some (.val bb cs) ∧ cs[j]? = some (.ref n) ∧ aget σ.tab n = some (.own s rows) ∧ g.blk n = some b ∧ ((i, j), n) ∈ ownAs σ.tab 0 avs := by
    intro i j b hb
    unfold blkAt at hb
    split at hb
    · rename_i bb cs hi
      split at hb
      · rename_i n hj
        split at hb
        · rename_i s rows hn
          exact ⟨bb, cs, n, s, rows, hi, hj, hn, hb, by have := mem_ownAs (T := σ.tab) (i := 0) hi hj hn; simpa using this⟩
        · cases hb
      · cases hb
    · cases hb
  have hok : ∀ p ∈ ownAs σ.tab 0 avs, p.2 ∉ names ∧ ∀ q ∈ ownAs σ.tab 0 avs, p.2 = q.2 → p.1 = q.1 := by
    intro p hp
    have := List.all_eq_true.1 ho p hp
    simp only [Bool.and_eq_true, Bool.not_eq_true'] at this
    refine ⟨fun hx => by rw [inN_iff.2 hx] at this; exact absurd this.1 (by simp), fun q hq he => ?_⟩
    have := List.all_eq_true.1 this.2 q hq
    simp only [he, beq_self_eq_true, Bool.not_true, Bool.false_or, Bool.and_eq_true, beq_iff_eq] at this
    exact Prod.ext this.1 this.2
  have hlive : ∀ {n s rows}, aget σ.tab n = some (.own s rows) → live σ.tab n := fun h => by unfold live; rw [h]; trivial
  refine ⟨vs.toArray, blkAt g σ.tab avs, rfl, by simp [h1, hl], fun i x u hx hu => ?_, fun i j b hb => ?_, fun i j i' j' b hb hb' => ?_⟩
  · have hi : i < avs.length := by rw [← h1]; exact (List.getElem?_eq_some_iff.1 hx).1
    obtain ⟨b, cs, xs, l', hav, hres, hcs, hsub⟩ := h2 i avs[i] (by simp [hi])
    rw [hx] at hres
    simp only [Option.some.injEq] at hres
    subst hres
    have hai : avs[i]? = some (.val b cs) := by rw [← hav]; simp [hi]
    have hrel := hr i _ u hai (by simpa using hu)
    obtain ⟨h3, h4⟩ := cellsR_spec hcs
    have hN : ∀ b', (N0 b' ∨ ∃ i j, blkAt g σ.tab avs i j = some b') → avoid N0 g σ.tab b' := by
      rintro b' (h | ⟨i', j', h⟩)
      · exact .inl h
      · obtain ⟨_, _, n, s, rows, _, _, hn, hb, _⟩ := hown i' j' b' h
        exact .inr ⟨n, hlive hn, hb⟩
    have hNd : ∀ b', (N0 b' ∨ ∃ i j, blkAt g σ.tab avs i j = some b') → butFor N0 g σ.tab names b' := by
      rintro b' (h | ⟨i', j', h⟩)
      · exact .inl h
      · obtain ⟨_, _, n, s, rows, _, _, hn, hb, hm⟩ := hown i' j' b' h
        exact .inr ⟨n, (hok _ hm).1, hlive hn, hb⟩
    have cell : ∀ (j : Nat) (c : C) (v : Value), cs[j]? = some c → CRel w (avoid N0 g σ.tab) g σ.tab c v → ∃ x', xs[j]? = some x' ∧ RCRel w (fun b' => N0 b' ∨ ∃ i j, blkAt g σ.tab avs i j = some b') (blkAt g σ.tab avs i j) x' v := by
      intro j c v hc hv
      obtain ⟨x', l1, hx', hcr, hl1⟩ := h4 j c hc
      refine ⟨x', hx', ?_⟩
      have hdata : ∀ d, toDC σ.tab 4 c = some d → x' = .d d → (∀ m ∈ namesC σ.tab 4 c, m ∈ l1) → RCRel w (fun b' => N0 b' ∨ ∃ i j, blkAt g σ.tab avs i j = some b') (blkAt g σ.tab avs i j) x' v := by
        intro d hd he hnm
        subst he
        exact (toDC_ok hM (names := names) 4 hv hd fun m hm => hsub m (hl1 m (hnm m hm))).less hNd
      cases c with
      | ref n =>
        simp only [cellR] at hcr
        split at hcr
        · rename_i s rows hn
          simp only [Option.some.injEq, Prod.mk.injEq] at hcr
          obtain ⟨rfl, rfl⟩ := hcr
          have hb : blkAt g σ.tab avs i j = g.blk n := by simp only [blkAt, hai, hc, hn]
          rw [hb]
          obtain ⟨_, hvv, _⟩ := hv
          have := (hM.ents n _ hn).1
          rw [hvv]
          rcases this with x | ⟨b', off, cap, cells, t, fz, e1, e2, e3, e4, e5, e6, e7, e8, e9, e10⟩
          · exact .inl x
          · exact .inr ⟨b', off, cap, cells, t, fz, e1, e2, e3, e4, e5, e6, e7, e8, e9, fun i j r d hr hd => by
              obtain ⟨c, hc, hx⟩ := e10 i j r d hr hd
              exact ⟨c, hc, hx.less hN⟩⟩
        · rename_i rows hn
          simp only [Option.some.injEq, Prod.mk.injEq] at hcr
          obtain ⟨rfl, rfl⟩ := hcr
          exact hdata _ (by simp [toDC, hn]) rfl (fun m hm => by simpa [namesC] using hm)
        · cases hcr
      | d y =>
        simp only [cellR, Option.map_eq_some_iff, Prod.mk.injEq] at hcr
        obtain ⟨d, hd, rfl, rfl⟩ := hcr
        exact hdata d hd rfl fun m hm => hm
      | nils =>
        simp only [cellR, Option.map_eq_some_iff, Prod.mk.injEq] at hcr
        obtain ⟨d, hd, rfl, rfl⟩ := hcr
        exact hdata d hd rfl fun m hm => hm
      | und => simp [cellR, toDC] at hcr
      | unk => simp [cellR, toDC] at hcr
      | yld l => simp [cellR, toDC] at hcr
      | sub n lo hi => simp [cellR, toDC] at hcr
      | ptr m off =>
        simp only [cellR, Option.map_eq_some_iff, Prod.mk.injEq] at hcr
        obtain ⟨d, hd, rfl, rfl⟩ := hcr
        exact hdata d hd rfl fun m hm => hm
      | eptr m k off =>
        simp only [cellR, Option.map_eq_some_iff, Prod.mk.injEq] at hcr
        obtain ⟨d, hd, rfl, rfl⟩ := hcr
        exact hdata d hd rfl fun m hm => hm
      | fn f caps =>
        simp only [cellR, Option.map_eq_some_iff, Prod.mk.injEq] at hcr
        obtain ⟨d, hd, rfl, rfl⟩ := hcr
        exact hdata d hd rfl fun m hm => hm
    cases b with
    | true =>
      obtain ⟨ys, e1, e2, e3⟩ := hrel
      refine ⟨ys, e1, by rw [h3]; exact e2, fun j x' v hxj hv => ?_⟩
      have hj : j < cs.length := by rw [← h3]; exact (List.getElem?_eq_some_iff.1 hxj).1
      obtain ⟨x'', hx'', hrc⟩ := cell j cs[j] v (by simp [hj]) (e3 j cs[j] v (by simp [hj]) hv)
      rw [hxj] at hx''
      simp only [Option.some.injEq] at hx''
      subst hx''
      exact hrc
    | false =>
      obtain ⟨c, e1, e2⟩ := hrel
      subst e1
      obtain ⟨x'', hx'', hrc⟩ := cell 0 c u rfl e2
      refine ⟨x'', ?_, hrc⟩
      cases xs with
      | nil => simp at hx''
      | cons y ys =>
        simp only [List.length_cons, List.length_nil, Nat.add_eq_right, List.length_eq_zero_iff] at h3
        subst h3
        simp at hx''
        subst hx''
        rfl
  · obtain ⟨_, _, n, s, rows, _, _, hn, hbn, _⟩ := hown i j b hb
    have := hM.rng n b (hlive hn) hbn
    exact ⟨this.1.elim id fun h => h.elim, this.2⟩
  · obtain ⟨_, _, n, s, rows, _, _, hn, hbn, hm⟩ := hown i j b hb
    obtain ⟨_, _, n', s', rows', _, _, hn', hbn', hm'⟩ := hown i' j' b hb'
    have := hM.inj n n' b (hlive hn) (hlive hn') hbn hbn'
    have := (hok _ hm).2 _ hm' this
    simpa using this

/-! ### The contract -/

def argT : Nat → List DV → List (Nat × AV)
  | _, [] => []
  | k, d :: r => (k, .val d.1 (d.2.map .d)) :: argT (k + 1) r

def initS (ds : List DV) : St := ⟨argT 0 ds, [], []⟩

theorem aget_argT : ∀ (ds : List DV) (k t : Nat) (x : AV), aget (argT k ds) t = some x → ∃ i d, t = k + i ∧ ds[i]? = some d ∧ x = .val d.1 (d.2.map .d)
  | [], k, t, x, h => by simp [argT, aget] at h
  | d :: r, k, t, x, h => by
    simp only [argT, aget] at h
    split at h
    · rename_i hk
      simp only [Option.some.injEq] at h
      exact ⟨0, d, by omega, rfl, h.symm⟩
    · obtain ⟨i, d', h1, h2, h3⟩ := aget_argT r (k + 1) t x h
      exact ⟨i + 1, d', by omega, by simpa using h2, h3⟩

theorem DVRel.av {N : Nat → Prop} {d : DV} {v : Value} (h : DVRel w N d v) : AVRel w N g T (.val d.1 (d.2.map .d)) v := by
  obtain ⟨b, cs⟩ := d
  cases b with
  | true =>
    obtain ⟨xs, h1, h2, h3⟩ := h
    refine ⟨xs, h1, by simpa using h2, fun i c x hc hx => ?_⟩
    rw [List.getElem?_map] at hc
    cases hq : cs[i]? with
    | none => rw [hq] at hc; cases hc
    | some d =>
      rw [hq] at hc
      simp only [Option.map_some, Option.some.injEq] at hc
      subst hc
      exact h3 i d x hq hx
  | false =>
    obtain ⟨d, h1, h2⟩ := h
    subst h1
    exact ⟨.d d, rfl, h2⟩

theorem initS_rel {N : Nat → Prop} {ds : List DV} {vs : Array Value} (hN : ∀ b, N b → b < w.heap.size) (h : ArgsRel w N ds vs) (hn : vs.size ≤ nt) :
    Rel ⟨w, fun _ => False⟩ N nt #[] (initS ds) { tmps := vs ++ Array.replicate (nt - vs.size) undef, defers := [] } w := by
  have hlive : ∀ n, ¬ live ([] : Tab) n := fun n h => by simp [live, aget] at h
  refine ⟨⟨fun _ => none, fun _ => undef, fun _ => 0⟩, ⟨.refl, fun n e he => by simp [initS, aget] at he, fun n m b hn => absurd hn (hlive n), fun n b hn => absurd hn (hlive n), fun b hb => ⟨hN b hb, id⟩⟩, fun t x hx => ?_, by simp; omega, ⟨List.nodup_nil, fun _ => rfl, fun d hd => by simp at hd⟩, fun t x hx => by simp [initS, aget] at hx⟩
  obtain ⟨i, d, rfl, hd, rfl⟩ := aget_argT ds 0 t x hx
  have hi : i < vs.size := by rw [← h.1]; exact (List.getElem?_eq_some_iff.1 hd).1
  have hv : vs[i]? = some vs[i] := by simp [hi]
  have := h.2 i d vs[i] hd hv
  have hav : (avoid N ⟨fun _ => none, fun _ => undef, fun _ => 0⟩ (initS ds).tab) = N := by
    funext b
    simp only [avoid, eq_iff_iff]
    exact ⟨fun h => h.elim id fun ⟨n, h, _⟩ => absurd h (hlive n), .inl⟩
  rw [hav]
  have hget : (vs ++ Array.replicate (nt - vs.size) undef).getD (0 + i) undef = vs[i] := by
    rw [Array.getD_eq_getD_getElem?, Nat.zero_add, Array.getElem?_append_left hi, hv]; rfl
  rw [hget]
  exact this.av

/-- What a run of a function's code must come to. -/
def Done (rs : List AResV) (res : List RV) (e : Exit) (σ : St) : Prop := (e = .ret ∨ e = .normal) ∧ resOut rs σ = some res

/-- A function leaves by way of the marks of its loops over functions. -/
theorem leaves_marks {F : Fence} {n : Nat} {fn : Func} {tmps : Array Value} {R : Ending → World → Prop} {svv : Array Value} (hfin : ∀ w g, Mem w0 N0 g σ.tab w → SRel w (avoid N0 g σ.tab) g σ.tab σ.tmps tmps → LeavesIn F n P fn tmps R [] .returning w) :
    ∀ (l : List Deferred) (w : World) (g : Gh), Mem w0 N0 g σ.tab w → SRel w (avoid N0 g σ.tab) g σ.tab σ.tmps tmps → Marks w0 svv l w → LeavesInM F n P fn tmps R l .returning w
  | [], w, g, hM, hS, _ => hfin w g hM hS
  | d :: l, w, g, hM, hS, hm => by
    obtain ⟨D, h1, h2, h3⟩ := hm.2.2 d (by simp)
    refine ⟨nofun, .inl ⟨D, _, by rw [h1], run_takeDeferred h3, ?_⟩⟩
    obtain ⟨h4, h5⟩ := hM.putObj (o' := .deferred none) h3 rfl (.inl h2)
    refine leaves_marks hfin l _ g h4 (fun t x hx => h5.a (hS t x hx)) ⟨(List.nodup_cons.1 hm.1).2, fun h => absurd (hm.2.1 h) (List.cons_ne_nil _ _), fun d' hd' => ?_⟩
    obtain ⟨D', k1, k2, k3⟩ := hm.2.2 d' (List.mem_cons_of_mem _ hd')
    refine ⟨D', k1, k2, ?_⟩
    rw [World.putObj_heap_other fun e => (List.nodup_cons.1 hm.1).1 (by rw [h1, ← e, ← k1]; exact hd')]
    exact k3

/-- **A FUNCTION'S CONTRACT IS ONE RUN OF ITS CODE.** -/
theorem contract_of {f : FuncId} {fn : Func} {c : Code} {ac : ACode} {rs : List AResV} (hf : P.funcs[f]? = some fn) (hb : fn.body = some c) (hm : P.follows .mixedOrders = true) (hc : mk P fn.ntmps tr tl true c = some ac)
    (hr : fnRes P fn.results.toList = some rs) (hE : EnvOk P E) {ds : List DV} {res : List RV} (hn : ds.length ≤ fn.ntmps) (h : wpA P E ac (Done rs res) (initS ds)) : Contract P f ds res := by
  intro w vs N hN hargs
  have hsz : vs.size ≤ fn.ntmps := by rw [← hargs.1]; exact hn
  refine callsIn_wide (n := 0).1 (callsIn_of_wp_marks hf hb trivial ?_)
  refine wpA_ok hE hm c true ac hc none (fun _ => rfl) 0 ⟨w, fun _ => False⟩ N #[] (Done rs res) _ (initS ds) _ w (fun _ => rfl) (fun e σ a' w' hd hR => ?_) (initS_rel hN hargs hsz) h
  obtain ⟨he, hres⟩ := hd
  obtain ⟨g, hM, hS, hsz', hdf, _⟩ := hR
  have key : LeavesInM Fence.wide 0 P fn a'.tmps (fun e w' => ∃ v, e = .returned v ∧ Below w.heap.size w w' ∧ ResRel w N res v w') a'.defers .returning w' := by
    refine leaves_marks (σ := σ) (fun w2 g2 hM2 hS2 => ?_) a'.defers w' g hM hS hdf
    unfold resOut at hres
    split at hres
    · rename_i avs havs
      split at hres
      · rename_i res' names har
        split at hres
        · rename_i hown
          simp only [Option.some.injEq] at hres
          subst hres
          obtain ⟨vs', hrun, hlen, hrel⟩ := resAVs_ok (P := P) (a := a') hM2 hS2 fn.results.toList rs avs hr havs
          exact ⟨_, results_run hrun, _, rfl, ⟨hM2.below.os, hM2.below.tape, hM2.below.output, hM2.below.size, fun k hk => hM2.below.block k hk id⟩, resOut_ok hM2 hlen hrel har hown⟩
        · cases hres
      · cases hres
    · cases hres
  rcases he with rfl | rfl <;> exact key

end Go.AM
