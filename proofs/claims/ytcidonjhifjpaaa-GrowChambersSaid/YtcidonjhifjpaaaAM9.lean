/- The abstract machine: operations against the model, one by one: new memory. -/
import Derived.Test.YtcidonjhifjpaaaAM8
namespace Go.AM
open Go.RowKit

variable {P : Program} {E : Env} {w0 : Base} {w w' : World} {N0 : Nat → Prop} {g g' : Gh} {T T' : Tab} {r : Option Nat} {n : Nat} {o : Oper} {a : Act} {ρ : Operand → AV} {dst : Nat}
  {y : AV} {es : List (Nat × Entry)}

theorem none_of_isNone {α : Type} {x : Option α} (h : x.isNone = true) : x = none := by cases x <;> simp_all

/-- A new variable. -/
theorem Res.newBox (hM : Mem w0 N0 g T w) (hf : (aget T dst).isNone = true) {cs : List C} {cells : Array Value} {t : TypeId} (hl : cells.size = cs.length) (hok : okCs cs = true)
    (hc : ∀ (i : Nat) (c : C) (x : Value), cs[i]? = some c → cells[i]? = some x → CRel w (avoid N0 g T) g T c x) :
    Res w0 N0 g T w (.val false [.ptr dst 0]) [(dst, .box cs)] (.pointer (some ⟨w.heap.size, 0, none⟩)) (w.alloc (.cells cells t)) := by
  have hn := none_of_isNone hf
  obtain ⟨h1, h2⟩ := hM.create (w' := w.alloc (.cells cells t)) (e := .box cs) (ob := some w.heap.size) (sv := undef) (s := 0) hn ((Below.refl _ w).alloc (Nat.le_refl _) _)
    (fun b hb => by simp at hb; subst hb; simp) (fun hK => ⟨w.heap.size, cells, t, by simp [Gh.set], heap_alloc_new w _, hl, fun i c x hci hxi => hK.c (hc i c x hci hxi), okCs_get hok⟩)
  exact ⟨_, h1, h2, _, rfl, by rw [show aputs T [(dst, Entry.box cs)] = aput T dst (.box cs) from rfl, aget_aput_same]; rfl, w.heap.size, by simp [Gh.set], rfl⟩

theorem run_zeroValue {t : TypeId} {v : Value} (h : zeroT P t = some v) (w : World) : (zeroValue t).run P w = .ok v w := by
  unfold zeroT at h
  cases hi : P.info? t with
  | none => simp [hi] at h
  | some i => simp only [hi, Option.bind_some] at h; simp [zeroValue, typeInfo, hi, h]

theorem zeroC_spec {t : TypeId} {cs : List C} (h : zeroC P t = some cs) : ∃ v, zeroT P t = some v ∧ cs = v.cells.toList.map ofValC ∧ okCs cs = true := by
  unfold zeroC at h
  cases hz : zeroT P t with
  | none => simp [hz] at h
  | some v =>
    simp only [hz, Option.bind_some] at h
    split at h
    · rename_i hok
      simp only [Option.some.injEq] at h
      subst h
      exact ⟨v, rfl, rfl, hok⟩
    · cases h

theorem zero_rel {N : Nat → Prop} (v : Value) : ∀ (i : Nat) (c : C) (x : Value), (v.cells.toList.map ofValC)[i]? = some c → v.cells[i]? = some x → CRel w N g T c x := by
  intro i c x hc hx
  simp only [List.getElem?_map, Array.getElem?_toList, hx, Option.map_some, Option.some.injEq] at hc
  subst hc
  exact ofValC_rel x

theorem ok_alloc (hM : Mem w0 N0 g T w) {t : TypeId} {cs : List C} (ho : o.op = .alloc t) (hz : zeroC P t = some cs)
    (he : eff P E T ρ dst (.alloc cs) = some (y, es)) : OpOk r n P o a w (Res w0 N0 g T w y es) := by
  simp only [eff] at he
  split at he
  · rename_i hf
    simp only [Option.some.injEq, Prod.mk.injEq] at he
    obtain ⟨rfl, rfl⟩ := he
    obtain ⟨v, h1, h2, h3⟩ := zeroC_spec hz
    refine OpOk.value (fun c h => by rw [ho] at h; cases h) (v := .pointer (some ⟨w.heap.size, 0, none⟩)) (w' := w.alloc (.cells v.cells t))
      (by simp [execOp, ho, Instr.alloc, run_zeroValue h1, newVar, newRow]) (Res.newBox hM hf (by rw [h2]; simp) h3 ?_)
    rw [h2]
    exact zero_rel v
  · cases he

theorem ok_box (hM : Mem w0 N0 g T w) (hρ : ∀ x, AVRel w (avoid N0 g T) g T (ρ x) (a.eval x)) {t : TypeId} {x : Operand} (ho : o.op = .box t x)
    (he : eff P E T ρ dst (.box x) = some (y, es)) : OpOk r n P o a w (Res w0 N0 g T w y es) := by
  simp only [eff] at he
  split at he
  · rename_i cs hx
    split at he
    · rename_i hf
      simp only [Option.some.injEq, Prod.mk.injEq] at he
      obtain ⟨rfl, rfl⟩ := he
      obtain ⟨b, hv⟩ := cellsA_rel (hρ x) hx
      obtain ⟨h1, h2, h3⟩ := hv.cells hf.2
      exact OpOk.value (fun c h => by rw [ho] at h; cases h) (v := .pointer (some ⟨w.heap.size, 0, none⟩)) (w' := w.alloc (.cells (a.eval x).cells t))
        (by simp [execOp, ho, Instr.box, newVar, newRow]) (Res.newBox hM hf.1 h1 hf.2 h2)
    · cases he
  · cases he

/-! ### build -/

theorem foldl_set (vs : List Value) : ∀ (k off : Nat) (cells : Array Value), off + k + vs.length ≤ cells.size →
    ((vs.zipIdx k).foldl (fun cs (c, j) => cs.setIfInBounds (off + j) c) cells).toList = cells.toList.take (off + k) ++ vs ++ cells.toList.drop (off + k + vs.length) := by
  induction vs with
  | nil => intro k off cells _; simp
  | cons v rest ih =>
    intro k off cells h
    simp only [List.zipIdx_cons, List.foldl_cons]
    rw [ih (k + 1) off _ (by simp at h ⊢; omega)]
    have := list_seg_step cells.toList (off + k) v rest (by simp at h ⊢; omega)
    simp only [Array.toList_setIfInBounds, ← Nat.add_assoc]
    simp only [List.length_cons]
    rw [show off + k + (rest.length + 1) = off + k + rest.length + 1 by omega]
    rw [show off + k + (rest.length + 1) = off + k + rest.length + 1 by omega] at this
    rw [← this]

theorem splice_get {α : Type} {l xs : List α} {off : Nat} (h : off + xs.length ≤ l.length) (i : Nat) :
    (splice l off xs)[i]? = if off ≤ i ∧ i < off + xs.length then xs[i - off]? else l[i]? := by
  unfold splice
  rw [List.getElem?_append, List.getElem?_append]
  simp only [List.length_append, List.length_take, Nat.min_eq_left (show off ≤ l.length by omega), List.getElem?_take, List.getElem?_drop]
  by_cases h1 : i < off
  · rw [if_neg (show ¬ (off ≤ i ∧ i < off + xs.length) by omega), if_pos (show i < off + xs.length by omega), if_pos h1, if_pos h1]
  · by_cases h2 : i < off + xs.length
    · rw [if_pos (show off ≤ i ∧ i < off + xs.length by omega), if_pos h2, if_neg h1]
    · rw [if_neg (show ¬ (off ≤ i ∧ i < off + xs.length) by omega), if_neg h2, show off + xs.length + (i - (off + xs.length)) = i by omega]

theorem splice_length {α : Type} {l xs : List α} {off : Nat} (h : off + xs.length ≤ l.length) : (splice l off xs).length = l.length := by
  unfold splice; simp; omega

theorem okCs_splice {l xs : List C} {off : Nat} (h1 : okCs l = true) (h2 : okCs xs = true) (h : off + xs.length ≤ l.length) : okCs (splice l off xs) = true := by
  refine okCs_of fun i c hc => ?_
  rw [splice_get h] at hc
  split at hc
  · exact okCs_get h2 _ c hc
  · exact okCs_get h1 _ c hc

/-- Cells that relate one by one. -/
def CellsRel (w : World) (N : Nat → Prop) (g : Gh) (T : Tab) (cs : List C) (xs : List Value) : Prop :=
  xs.length = cs.length ∧ ∀ (i : Nat) (c : C) (x : Value), cs[i]? = some c → xs[i]? = some x → CRel w N g T c x

theorem CellsRel.splice {N : Nat → Prop} {cs ds : List C} {xs us : List Value} {off : Nat} (h : CellsRel w N g T cs xs) (k : CellsRel w N g T ds us) (hl : off + ds.length ≤ cs.length) :
    CellsRel w N g T (splice cs off ds) (AM.splice xs off us) := by
  have hl' : off + us.length ≤ xs.length := by rw [k.1, h.1]; exact hl
  refine ⟨by rw [splice_length hl, splice_length hl', h.1], fun i c x hc hx => ?_⟩
  rw [splice_get hl] at hc
  rw [splice_get hl', k.1] at hx
  split at hc
  · rename_i h1; simp only [h1, and_self, if_true] at hx; exact k.2 _ c x hc hx
  · rename_i h1; rw [if_neg h1] at hx; exact h.2 i c x hc hx

theorem fill_spec {N : Nat → Prop} {ρ : Operand → AV} {ev : Operand → Value} (hρ : ∀ x, AVRel w N g T (ρ x) (ev x)) (place : Nat → Option (Nat × Nat)) :
    ∀ (parts : List (Nat × Operand)) (ps : List (Nat × Nat × Operand)) (cs cs' : List C) (cells : Array Value),
      (parts.map fun p => (place p.1).map fun q => (q.1, q.2, p.2)) = ps.map some → CellsRel w N g T cs cells.toList → buildGo ρ cs ps = some cs' →
      ∃ cells', Instr.fill place cells (parts.map fun p => (p.1, ev p.2)) = some cells' ∧ CellsRel w N g T cs' cells'.toList
  | [], ps, cs, cs', cells, hp, hc, hb => by
    cases ps with
    | nil => simp only [buildGo, Option.some.injEq] at hb; subst hb; exact ⟨cells, rfl, hc⟩
    | cons => simp at hp
  | (i, x) :: rest, ps, cs, cs', cells, hp, hc, hb => by
    cases ps with
    | nil => simp at hp
    | cons q ps =>
      obtain ⟨off, sz, x'⟩ := q
      simp only [List.map_cons, List.cons.injEq] at hp
      obtain ⟨hp1, hp2⟩ := hp
      cases hpl : place i with
      | none => simp [hpl] at hp1
      | some q =>
        simp only [hpl, Option.map_some, Option.some.injEq, Prod.mk.injEq] at hp1
        obtain ⟨rfl, rfl, rfl⟩ := hp1
        simp only [buildGo] at hb
        split at hb
        · rename_i xs hx
          split at hb
          · rename_i hcond
            obtain ⟨h1, h2, h3⟩ := hcond
            obtain ⟨b, hv⟩ := cellsA_rel (hρ x) hx
            obtain ⟨k1, k2, _⟩ := hv.cells h3
            have hrel : CellsRel w N g T xs (ev x).cells.toList := ⟨by simpa using k1, fun i c u hc hu => k2 i c u hc (by simpa using hu)⟩
            have hsz : cells.size = cs.length := by simpa using hc.1
            have hfold : (((ev x).cells.zipIdx.foldl (fun cs (c, j) => cs.setIfInBounds (q.1 + j) c) cells)).toList = splice cells.toList q.1 (ev x).cells.toList := by
              rw [← Array.foldl_toList, Array.toList_zipIdx]
              have := foldl_set (ev x).cells.toList 0 q.1 cells (by simp [k1]; omega)
              simpa [splice] using this
            have := fill_spec hρ place rest ps _ cs' ((ev x).cells.zipIdx.foldl (fun cs (c, j) => cs.setIfInBounds (q.1 + j) c) cells) hp2 (by rw [hfold]; exact hc.splice hrel (by omega)) hb
            obtain ⟨cells', hf, hr⟩ := this
            refine ⟨cells', ?_, hr⟩
            simp only [List.map_cons, Instr.fill, hpl]
            rw [if_neg (by simp [k1, h1, hsz]; omega)]
            exact hf
          · cases hb
        · cases hb

theorem mapM_fields {fs : List Field} {places : List (Nat × Nat)} (h : fieldsT P fs = some places) (w : World) :
    (fs.mapM (m := Sem) fun f => do pure (f.offset, ← sizeOf f.type)).run P w = .ok places w := by
  induction fs generalizing places with
  | nil => simp [fieldsT] at h; subst h; rfl
  | cons f rest ih =>
    simp only [fieldsT, List.mapM_cons, Option.bind_eq_bind] at h
    cases hs : sizeT P f.type with
    | none => simp [hs] at h
    | some s =>
      simp only [hs, Option.map_some, Option.bind_some] at h
      cases hr : fieldsT P rest with
      | none => simp only [fieldsT] at hr; simp [hr] at h
      | some ps =>
        have hr' := hr
        simp only [fieldsT] at hr
        simp [hr] at h
        subst h
        simp only [List.mapM_cons, Sem.run_bind, run_sizeOf hs, Result.andThen_ok, Sem.run_pure, ih hr']

theorem mapM_option {α β : Type} (f : α → Option β) : ∀ (l : List α) (r : List β), l.mapM f = some r → l.map f = r.map some
  | [], r, h => by simp at h; subst h; rfl
  | x :: l, r, h => by
    simp only [List.mapM_cons, Option.bind_eq_bind] at h
    cases hx : f x with
    | none => simp [hx] at h
    | some y =>
      simp only [hx, Option.bind_some] at h
      cases hr : l.mapM f with
      | none => simp [hr] at h
      | some ys =>
        simp [hr] at h
        subst h
        simp [hx, mapM_option f l ys hr]

theorem ok_build_struct (hM : Mem w0 N0 g T w) (hρ : ∀ x, AVRel w (avoid N0 g T) g T (ρ x) (a.eval x)) {t : TypeId} {parts : Array (Nat × Operand)} {fs : Array Field} {z : List C} {places : List (Nat × Nat)} {ps : List (Nat × Nat × Operand)}
    (ho : o.op = .build t parts) (hu : P.underlying t = some (.struct fs)) (hz : zeroC P t = some z) (hp : fieldsT P fs.toList = some places)
    (hps : (parts.toList.mapM fun p => (places[p.1]?).map fun q => (q.1, q.2, p.2)) = some ps)
    (he : eff P E T ρ dst (.build z ps) = some (y, es)) : OpOk r n P o a w (Res w0 N0 g T w y es) := by
  simp only [eff] at he
  cases hb : buildGo ρ z ps with
  | none => rw [hb] at he; simp at he
  | some cs =>
    rw [hb] at he
    simp only [Option.map_some, Option.some.injEq, Prod.mk.injEq] at he
    obtain ⟨rfl, rfl⟩ := he
    obtain ⟨v, h1, h2, h3⟩ := zeroC_spec hz
    have hrel : CellsRel w (avoid N0 g T) g T z v.cells.toList := ⟨by rw [h2]; simp, fun i c x hc hx => zero_rel v i c x (by rw [← h2]; exact hc) (by simpa using hx)⟩
    obtain ⟨cells', hf, hr⟩ := fill_spec hρ (fun i => places[i]?) parts.toList ps z cs v.cells (mapM_option _ _ _ hps) hrel hb
    refine OpOk.value (fun c h => by rw [ho] at h; cases h) (v := .agg cells') ?_ (Res.same hM ⟨cells', rfl, by have := hr.1; simp at this; omega, fun i c x hc hx => hr.2 i c x hc (by simpa using hx)⟩)
    have hpl : (fs.mapM (m := Sem) fun f => do pure (f.offset, ← sizeOf f.type)).run P w = .ok places.toArray w := by
      rw [Array.mapM_eq_mapM_toList, Sem.run_map, mapM_fields hp w]
      rfl
    simp only [execOp, ho, Instr.build, Sem.run_bind, run_zeroValue h1, Result.andThen_ok, run_underlying hu, hpl, Array.toList_map]
    simp only [List.getElem?_toArray, hf]
    rfl

end Go.AM
