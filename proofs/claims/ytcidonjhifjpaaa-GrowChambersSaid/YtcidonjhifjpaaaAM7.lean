/- The abstract machine: operations against the model, one by one: those that do not write. -/
import Derived.Test.YtcidonjhifjpaaaAM6
namespace Go.AM
open Go.RowKit

variable {P : Program} {E : Env} {w0 : Base} {w w' : World} {N0 : Nat → Prop} {g g' : Gh} {T T' : Tab} {r : Option Nat} {n : Nat} {o : Oper} {a : Act} {ρ : Operand → AV} {dst : Nat}
  {y : AV} {es : List (Nat × Entry)}

theorem ok_mv (hM : Mem w0 N0 g T w) (hρ : ∀ x, AVRel w (avoid N0 g T) g T (ρ x) (a.eval x)) {x : Operand} (ho : o.op = .move x ∨ o.op = .assign x)
    (he : eff P E T ρ dst (.mv x) = some (y, es)) : OpOk r n P o a w (Res w0 N0 g T w y es) := by
  simp only [eff, Option.some.injEq, Prod.mk.injEq] at he
  obtain ⟨rfl, rfl⟩ := he
  exact OpOk.value (fun c h => by rcases ho with ho | ho <;> rw [ho] at h <;> cases h) (v := a.eval x) (by rcases ho with ho | ho <;> simp [execOp, ho]) (Res.same hM (hρ x))

theorem ok_pick (hM : Mem w0 N0 g T w) (hρ : ∀ x, AVRel w (avoid N0 g T) g T (ρ x) (a.eval x)) {c p q : Operand} (ho : o.op = .pick c p q)
    (he : eff P E T ρ dst (.pick c p q) = some (y, es)) : OpOk r n P o a w (Res w0 N0 g T w y es) := by
  simp only [eff] at he
  split at he
  · rename_i t ht
    simp only [Option.some.injEq, Prod.mk.injEq] at he
    obtain ⟨rfl, rfl⟩ := he
    have hc := boolA_rel (hρ c) ht
    refine OpOk.value (fun c h => by rw [ho] at h; cases h) (v := if t then a.eval p else a.eval q) (by simp [execOp, ho, hc, asBool]) (Res.same hM ?_)
    cases t
    · simpa using hρ q
    · simpa using hρ p
  · cases he

/-- The cells of an owned variable. -/
theorem Mem.box (hM : Mem w0 N0 g T w) {m : Nat} {cs : List C} (hm : aget T m = some (.box cs)) :
    ∃ b cells t, g.blk m = some b ∧ w.heap[b]? = some (.cells cells t (0, 0)) ∧ cells.size = cs.length ∧ (∀ (i : Nat) (c : C) (x : Value), cs[i]? = some c → cells[i]? = some x → CRel w (avoid N0 g T) g T c x) ∧
      ∀ (i : Nat) (c : C), cs[i]? = some c → okC c = true := hM.ents m _ hm

theorem addr_add (b o j : Nat) : (⟨b, o, none⟩ : Addr).add j = ⟨b, o + j, none⟩ := by
  unfold Addr.add; split <;> simp_all

theorem run_isAgg {t : TypeId} {d : TypeDesc} (h : P.underlying t = some d) (w : World) : (isAgg t).run P w = .ok (isAggD d) w := by
  unfold isAgg
  rw [Sem.run_bind, run_underlying h w]
  cases d <;> rfl

theorem run_sizeOf {t : TypeId} {s : Nat} (h : sizeT P t = some s) (w : World) : (sizeOf t).run P w = .ok s w := by
  unfold sizeT at h
  cases hi : P.info? t with
  | none => simp [hi] at h
  | some i => simp [hi] at h; simp [sizeOf, typeInfo, hi, h]

/-- A value of many cells, out of cells that relate one by one. -/
theorem load_agg {t : TypeId} {d : TypeDesc} {s b o : Nat} (hu : P.underlying t = some d) (hd : isAggD d = true) (hs : sizeT P t = some s) (f : Nat → Value)
    (hc : ∀ j, j < s → w.cell? ⟨b, o + j, none⟩ = some (f j)) : (loadVar t ⟨b, o, none⟩).run P w = .ok (.agg ((List.range s).map f).toArray) w := by
  have h := run_loadCells (P := P) w ⟨b, o, none⟩ s f (fun j hj => by rw [addr_add]; exact hc j hj)
  simp [loadVar, run_isAgg hu, hd, run_sizeOf hs, h]

theorem load_one {t : TypeId} {d : TypeDesc} {b o : Nat} {x : Value} (hu : P.underlying t = some d) (hd : isAggD d = false)
    (hc : w.cell? ⟨b, o, none⟩ = some x) : (loadVar t ⟨b, o, none⟩).run P w = .ok x w := by
  simp [loadVar, run_isAgg hu, hd, hc]

/-- A load from cells that are known one by one. -/
theorem ok_load_at (hM : Mem w0 N0 g T w) {t : TypeId} {x : Operand} {d : TypeDesc} {s : Nat} (ho : o.op = .load t x) (hu : P.underlying t = some d) (hs : sizeT P t = some s)
    {b off : Nat} (hx : a.eval x = .pointer (some ⟨b, off, none⟩)) {cs : List C} (hl : cs.length = if isAggD d then s else 1) (f : Nat → Value)
    (hc : ∀ j c, cs[j]? = some c → w.cell? ⟨b, off + j, none⟩ = some (f j) ∧ CRel w (avoid N0 g T) g T c (f j)) (hy : aggA (isAggD d) cs = some y) :
    OpOk r n P o a w (Res w0 N0 g T w y []) := by
  unfold aggA at hy
  cases hd : isAggD d with
  | true =>
    simp only [hd, if_true, Option.some.injEq] at hy hl
    subst hy
    refine OpOk.value (fun c h => by rw [ho] at h; cases h) (v := .agg ((List.range s).map f).toArray)
      (by simp [execOp, ho, hx, Instr.loadAt, Instr.sureAddr, load_agg hu hd hs f (fun j hj => (hc j cs[j] (by simp [hl, hj])).1)]) (Res.same hM ⟨_, rfl, by simp [hl], fun i c x hci hxi => ?_⟩)
    have h1 := (hc i c hci).2
    have hi : i < s := by rw [← hl]; exact (List.getElem?_eq_some_iff.1 hci).1
    simp [hi] at hxi
    rwa [← hxi]
  | false =>
    simp only [hd, Bool.false_eq_true, if_false] at hy hl
    split at hy
    · rename_i c
      simp only [Option.some.injEq] at hy
      subst hy
      have h1 := hc 0 c rfl
      exact OpOk.value (fun c h => by rw [ho] at h; cases h) (v := f 0) (by simp [execOp, ho, hx, Instr.loadAt, Instr.sureAddr, load_one hu hd (show w.cell? ⟨b, off, none⟩ = some (f 0) by simpa using h1.1)]) (Res.same hM ⟨c, rfl, h1.2⟩)
    · cases hy

theorem getElem?_seg {α : Type} {l : List α} {off s j : Nat} {c : α} (h : ((l.drop off).take s)[j]? = some c) : j < s ∧ l[off + j]? = some c := by
  rw [List.getElem?_take] at h
  split at h
  · exact ⟨by assumption, by simpa using h⟩
  · cases h

/-- The rows of an owned or frozen slice, as memory holds them. -/
theorem Mem.rows (hM : Mem w0 N0 g T w) {m : Nat} {rows : List (List DC)} (hm : (∃ s, aget T m = some (.own s rows)) ∨ aget T m = some (.imm rows)) (hne : rows ≠ []) :
    ∃ b off cap, g.sv m = .slice (some ⟨b, off, none⟩) rows.length cap ∧ b < w.heap.size ∧ 0 < g.st m ∧ (∀ r ∈ rows, r.length = g.st m) ∧
      ∀ (i j : Nat) (r : List DC) (d : DC), rows[i]? = some r → r[j]? = some d → ∃ c, w.cell? ⟨b, off + i * g.st m + j, none⟩ = some c ∧ DRel w (avoid N0 g T) d c := by
  rcases hm with ⟨s, hm⟩ | hm
  · obtain ⟨hs, hst⟩ := hM.ents m _ hm
    rw [hst]
    rcases hs with ⟨_, h, _⟩ | ⟨b, off, cap, cells, t, fz, h1, h2, h3, h4, h5, h6, h7, h8, h9, h10⟩
    · exact absurd h hne
    · refine ⟨b, off, cap, h2, (Array.getElem?_eq_some_iff.1 h3).1, h9, h8, fun i j r d hr hd => ?_⟩
      obtain ⟨c, hc, hx⟩ := h10 i j r d hr hd
      exact ⟨c, by simp [World.cell?, h3, hc], hx⟩
  · obtain ⟨hd, hl⟩ := hM.ents m _ hm
    generalize hv : g.sv m = v at hd
    cases hd with
    | nil => exact absurd rfl hne
    | @sl _ b off cap sz f hne' hN hb hsz hl' hcap hc hd =>
      obtain ⟨r0, rest, rfl⟩ := List.exists_cons_of_ne_nil hne
      have hst : g.st m = sz := by rw [← hl r0 (by simp), hl' r0 (by simp)]
      refine ⟨b, off, cap, rfl, hb, by rw [hst]; exact hsz, hl, fun i j r d hr hdd => ⟨f i j, ?_, hd i j r d hr hdd⟩⟩
      rw [hst]
      refine hc i j (List.getElem?_eq_some_iff.1 hr).1 ?_
      rw [← hl' r (List.mem_of_getElem? hr)]
      exact (List.getElem?_eq_some_iff.1 hdd).1

/-- A function that gives every cell where there is one. -/
theorem choose_cells {w : World} {b off : Nat} {N : Nat → Prop} {ds : List DC} (h : ∀ (j : Nat) (d : DC), ds[j]? = some d → ∃ c, w.cell? ⟨b, off + j, none⟩ = some c ∧ DRel w N d c) :
    ∃ f : Nat → Value, ∀ (j : Nat) (d : DC), ds[j]? = some d → w.cell? ⟨b, off + j, none⟩ = some (f j) ∧ DRel w N d (f j) :=
  ⟨fun j => (w.cell? ⟨b, off + j, none⟩).getD undef, fun j d hd => by
    obtain ⟨c, hc, hx⟩ := h j d hd
    exact ⟨by simp [hc], by simpa [hc] using hx⟩⟩

theorem rowAt_get {rows : List (List DC)} {i : Nat} (h : i < rows.length) : rows[i]? = some (rowAt rows i) := by
  simp [rowAt, h]

theorem ok_load (hM : Mem w0 N0 g T w) (hρ : ∀ x, AVRel w (avoid N0 g T) g T (ρ x) (a.eval x)) {t : TypeId} {x : Operand} {d : TypeDesc} {s : Nat} (ho : o.op = .load t x) (hu : P.underlying t = some d)
    (hs : sizeT P t = some s) {k : Nat} (hk : k = if isAggD d then s else 1) (he : eff P E T ρ dst (.load (isAggD d) k x) = some (y, es)) : OpOk r n P o a w (Res w0 N0 g T w y es) := by
  simp only [eff] at he
  split at he
  · rename_i m off hx
    obtain ⟨_, b, hb, hv⟩ := oneA_rel (hρ x) hx
    split at he
    · rename_i cs hm
      split at he
      · rename_i hlen
        obtain ⟨b', cells, t', h1, h2, h3, h4, h5⟩ := hM.box hm
        rw [hb] at h1
        simp only [Option.some.injEq] at h1
        subst h1
        cases hy : aggA (isAggD d) ((cs.drop off).take k) with
        | none => rw [hy] at he; simp at he
        | some z =>
          rw [hy] at he
          simp only [Option.map_some, Option.some.injEq, Prod.mk.injEq] at he
          obtain ⟨rfl, rfl⟩ := he
          refine ok_load_at hM ho hu hs hv (by rw [← hk]; simp; omega) (fun j => (cells[off + j]?).getD undef) (fun j c hc => ?_) hy
          obtain ⟨hj, hc⟩ := getElem?_seg hc
          have hlt : off + j < cells.size := by rw [h3]; exact (List.getElem?_eq_some_iff.1 hc).1
          simp only [World.cell?, h2]
          refine ⟨by simp [hlt], ?_⟩
          have := h4 (off + j) c cells[off + j] hc (by simp [hlt])
          simpa [hlt] using this
      · cases he
    · cases he
  · rename_i m i off hx
    obtain ⟨_, b, o', len, cap, hsv, hv⟩ := oneA_rel (hρ x) hx
    have key : ∀ rows, ((∃ s, aget T m = some (.own s rows)) ∨ aget T m = some (.imm rows)) →
        (if i < rows.length ∧ off + k ≤ (rowAt rows i).length then
          (aggA (isAggD d) ((((rowAt rows i).drop off).take k).map .d)).map fun y => (y, ([] : List (Nat × Entry))) else none) = some (y, es) → OpOk r n P o a w (Res w0 N0 g T w y es) := by
      intro rows hm he
      split at he
      · rename_i hlen
        obtain ⟨hi, hlen⟩ := hlen
        have hne : rows ≠ [] := fun h => by subst h; simp at hi
        obtain ⟨b', off', cap', h1, h2, h3, h4, h5⟩ := hM.rows hm hne
        rw [hsv] at h1
        simp only [Value.slice.injEq, Option.some.injEq, Addr.mk.injEq, and_true] at h1
        obtain ⟨⟨rfl, rfl⟩, _, _⟩ := h1
        obtain ⟨f, hf⟩ := choose_cells (b := b) (off := o' + i * g.st m + off) (ds := (rowAt rows i).drop off) (fun j d hd => by
          have := h5 i (off + j) _ d (rowAt_get hi) (by simpa using hd)
          rwa [← Nat.add_assoc] at this)
        cases hy : aggA (isAggD d) ((((rowAt rows i).drop off).take k).map .d) with
        | none => rw [hy] at he; simp at he
        | some z =>
          rw [hy] at he
          simp only [Option.map_some, Option.some.injEq, Prod.mk.injEq] at he
          obtain ⟨rfl, rfl⟩ := he
          refine ok_load_at hM ho hu hs hv (by rw [← hk]; simp; omega) f (fun j c hc => ?_) hy
          rw [List.getElem?_map] at hc
          cases hq : (((rowAt rows i).drop off).take k)[j]? with
          | none => simp [hq] at hc
          | some q =>
            simp only [hq, Option.map_some, Option.some.injEq] at hc
            subst hc
            rw [List.getElem?_take] at hq
            split at hq
            · exact hf j q hq
            · cases hq
      · cases he
    split at he
    · rename_i s' rows hm; exact key rows (.inl ⟨_, hm⟩) he
    · rename_i rows hm; exact key rows (.inr hm) he
    · cases he
  · rename_i cs off hx
    have hd := oneA_rel (hρ x) hx
    generalize hv : a.eval x = v at hd
    change DRel w (avoid N0 g T) (.cref cs off) v at hd
    cases hd with
    | @cref _ b o' _ f hN hb hc hd =>
      split at he
      · rename_i hlen
        cases hy : aggA (isAggD d) (((cs.drop off).take k).map .d) with
        | none => rw [hy] at he; simp at he
        | some z =>
          rw [hy] at he
          simp only [Option.map_some, Option.some.injEq, Prod.mk.injEq] at he
          obtain ⟨rfl, rfl⟩ := he
          refine ok_load_at hM ho hu hs hv (by rw [← hk]; simp; omega) (fun j => f (off + j)) (fun j c hc' => ?_) hy
          rw [List.getElem?_map] at hc'
          cases hq : ((cs.drop off).take k)[j]? with
          | none => simp [hq] at hc'
          | some q =>
            simp only [hq, Option.map_some, Option.some.injEq] at hc'
            subst hc'
            obtain ⟨hj, hq⟩ := getElem?_seg hq
            have hlt := (List.getElem?_eq_some_iff.1 hq).1
            refine ⟨?_, hd (off + j) q hq⟩
            have := hc (off + j) hlt
            rwa [← Nat.add_assoc] at this
      · cases he
  · cases he

end Go.AM
