/- The abstract machine: operations against the model, one by one: stores. -/
import Derived.Test.YtcidonjhifjpaaaAM12
namespace Go.AM
open Go.RowKit

variable {P : Program} {E : Env} {w0 : Base} {w w' : World} {N0 : Nat → Prop} {g g' : Gh} {T T' : Tab} {r : Option Nat} {n : Nat} {o : Oper} {a : Act} {ρ : Operand → AV} {dst : Nat}
  {y : AV} {es : List (Nat × Entry)}

theorem run_storeCells_gen (P : Program) (b o : Nat) (t : TypeId) (fz : Nat × Nat) : ∀ (vs : List Value) (i : Nat) (cur : Array Value) (w : World), w.heap[b]? = some (.cells cur t fz) → o + i + vs.length ≤ cur.size →
    (∀ j, j < vs.length → (decide (fz.1 ≤ o + i + j) && decide (o + i + j < fz.2)) = false) → (∀ v ∈ vs, v.oneCell' = true) →
    (storeCells ⟨b, o, none⟩ vs i).run P w = .ok () (w.setRow b (splice cur.toList (o + i) vs).toArray)
  | [], i, cur, w, hg, _, _, _ => by
    simp only [storeCells, splice, List.append_nil, List.length_nil, Nat.add_zero, List.take_append_drop, Array.toArray_toList]
    rw [setRow_self w b cur t fz hg]
    rfl
  | v :: rest, i, cur, w, hg, hl, hf, h1 => by
    have hi : o + i < cur.size := by simp at hl; omega
    have hcell : w.cell? ⟨b, o + i, none⟩ = some cur[o + i] := by simp [World.cell?, hg, hi]
    have hfro : w.frozen? ⟨b, o + i, none⟩ = false := by
      have := hf 0 (by simp)
      simp only [World.frozen?, hg]
      simpa using this
    have hst : (store ((⟨b, o, none⟩ : Addr).add i) v).run P w = .ok () (w.setRow b (cur.setIfInBounds (o + i) v)) := by
      rw [addr_add, run_store P w _ v _ (h1 v (by simp)), hcell]
      simp [hfro, setCell_eq_setRow w b (o + i) cur t fz v hg]
    have ih := run_storeCells_gen P b o t fz rest (i + 1) (cur.setIfInBounds (o + i) v) (w.setRow b (cur.setIfInBounds (o + i) v)) (setRow_heap w b cur _ t fz hg) (by simp at hl ⊢; omega)
      (fun j hj => by have := hf (j + 1) (by simp; omega); rwa [show o + i + (j + 1) = o + (i + 1) + j by omega] at this) (fun x hx => h1 x (by simp [hx]))
    simp only [storeCells, Sem.run_bind, hst, Result.andThen_ok, ih, setRow_setRow]
    congr 2
    have := list_seg_step cur.toList (o + i) v rest (by simp at hl ⊢; omega)
    simp only [splice, Array.toList_setIfInBounds, List.length_cons]
    rw [show o + (i + 1) = o + i + 1 by omega]
    rw [this]

theorem grownBy_setRow (w : World) (b : Nat) (cs : Array Value) : w.grownBy (w.setRow b cs) (some b) :=
  ⟨rfl, rfl, rfl, by simp, fun k _ hk => setRow_other w b k cs (fun h => hk (by rw [h]))⟩

theorem run_store_op {t : TypeId} {x z : Operand} (ho : o.op = .store t x z) {s b off : Nat} (hs : sizeT P t = some s) (hx : a.eval x = .pointer (some ⟨b, off, none⟩)) (hsz : (a.eval z).cells.size = s) {cur : Array Value} {te : TypeId} {fz : Nat × Nat}
    (hg : w.heap[b]? = some (.cells cur te fz)) (hl : off + s ≤ cur.size) (hf : ∀ j, j < s → (decide (fz.1 ≤ off + j) && decide (off + j < fz.2)) = false) (h1 : ∀ v ∈ (a.eval z).cells.toList, v.oneCell' = true) :
    (execOp a.eval o).run P w = .ok .skip (w.setRow b (splice cur.toList off (a.eval z).cells.toList).toArray) := by
  have := run_storeCells_gen P b off te fz (a.eval z).cells.toList 0 cur w hg (by simp [hsz]; omega) (fun j hj => by simpa using hf j (by simpa [hsz] using hj)) h1
  simp only [Nat.add_zero] at this
  simp only [execOp, ho, Instr.storeAt, hx, Instr.sureAddr, Sem.run_bind, Sem.run_pure, Result.andThen_ok, storeVar, run_sizeOf hs]
  rw [if_neg (by simpa using hsz)]
  simp [this]

theorem ok_store (hM : Mem w0 N0 g T w) (hρ : ∀ x, AVRel w (avoid N0 g T) g T (ρ x) (a.eval x)) {t : TypeId} {x z : Operand} {s : Nat} (ho : o.op = .store t x z) (hs : sizeT P t = some s)
    (he : eff P E T ρ dst (.store s x z) = some (y, es)) : OpOk r n P o a w (Res w0 N0 g T w y es) := by
  have hd : ∀ c, o.op ≠ .defer c := fun c h => by rw [ho] at h; cases h
  simp only [eff] at he
  split at he
  · rename_i ys m off hy hx
    obtain ⟨_, b, hb, hv⟩ := oneA_rel (hρ x) hx
    split at he
    · rename_i cs hm
      split at he
      · rename_i hcond
        obtain ⟨h1, h2, h3⟩ := hcond
        simp only [Option.some.injEq, Prod.mk.injEq] at he
        obtain ⟨rfl, rfl⟩ := he
        obtain ⟨b', cells, t', k1, k2, k3, k4, k5⟩ := hM.box hm
        rw [hb] at k1
        simp only [Option.some.injEq] at k1
        subst k1
        obtain ⟨bb, hvz⟩ := cellsA_rel (hρ z) hy
        obtain ⟨c1, c2, c3⟩ := hvz.cells h3
        have hl : live T m := by unfold live; rw [hm]; trivial
        have hrun := run_store_op (w := w) ho hs hv (by rw [c1, h1]) k2 (by omega) (fun j _ => by simp) c3
        have hfit : off + ys.length ≤ cs.length := by omega
        obtain ⟨q1, q2⟩ := hM.write (e := .box (splice cs off ys)) hl hb trivial (grownBy_setRow w b _) (by simp) (fun hK => by
          have hrel : CellsRel w (avoid N0 g T) g T (splice cs off ys) (splice cells.toList off (a.eval z).cells.toList) :=
            CellsRel.splice ⟨by simpa using k3, fun i c x hc hx => k4 i c x hc (by simpa using hx)⟩ ⟨by simpa using c1, fun i c x hc hx => c2 i c x hc (by simpa using hx)⟩ hfit
          exact ⟨b, (splice cells.toList off (a.eval z).cells.toList).toArray, t', hb, setRow_heap w b cells _ t' _ k2, by rw [List.size_toArray]; exact hrel.1, fun i c x hc hx => hK.c (hrel.2 i c x hc (by rw [List.getElem?_toArray] at hx; exact hx)), okCs_get (okCs_splice (okCs_of k5) h3 hfit)⟩)
        exact OpOk.skip hd hrun ⟨g, q1, q2, _, rfl, rfl⟩
      · cases he
    · cases he
  · rename_i ys m i off hy hx
    obtain ⟨hsome, b, o', len, cap, hsv, hv⟩ := oneA_rel (hρ x) hx
    split at he
    · rename_i ds fs hfz
      split at he
      · rename_i s' rows hm
        split at he
        · rename_i hcond
          obtain ⟨h1, h2, h3⟩ := hcond
          simp only [Option.some.injEq, Prod.mk.injEq] at he
          obtain ⟨rfl, rfl⟩ := he
          obtain ⟨bb, hvz⟩ := cellsA_rel (hρ z) hy
          have hok : okCs ys = true := by
            refine okCs_of fun j c hc => ?_
            have : ∀ {cs : List C} {T : Tab} {ds : List DC} {es : List (Nat × Entry)}, freezeCs T cs = some (ds, es) → ∀ (j : Nat) (c : C), cs[j]? = some c → okC c = true := by
              intro cs
              induction cs with
              | nil => intro T ds es _ j c hc; simp at hc
              | cons c0 cr ih =>
                intro T ds es hf j c hc
                simp only [freezeCs] at hf
                split at hf
                · cases hf
                · rename_i d e' h3
                  split at hf
                  · cases hf
                  · rename_i ds' es' h4
                    cases j with
                    | zero =>
                      simp at hc; subst hc
                      cases c0 <;> first | rfl | (simp [freezeC] at h3)
                    | succ j => exact ih h4 j c (by simpa using hc)
            exact this hfz j c hc
          obtain ⟨c1, c2, c3⟩ := hvz.cells hok
          obtain ⟨m1, m2, m3, m4⟩ := freezeCs_ok hM (xs := (a.eval z).cells.toList) ⟨by simpa using c1, fun j c u hc hu => c2 j c u hc (by simpa using hu)⟩ hfz
          obtain ⟨hso, hst⟩ := m1.ents m _ hm
          have hl : live (aputs T fs) m := by unfold live; rw [hm]; trivial
          rcases hso with ⟨_, hr, _⟩ | ⟨b', off', cap', cells, t', fz, k1, k2, k3, k4, k5, k6, k7, k8, k9, k10⟩
          · subst hr; simp at h2
          · rw [hsv] at k2
            simp only [Value.slice.injEq, Option.some.injEq, Addr.mk.injEq, and_true] at k2
            obtain ⟨⟨rfl, rfl⟩, hlen, rfl⟩ := k2
            have hrow := k8 _ (List.mem_of_getElem? (rowAt_get h2))
            have hin : i * s' + s' ≤ cap * s' := by
              have : (i + 1) * s' ≤ cap * s' := Nat.mul_le_mul_right _ (by omega)
              rwa [Nat.add_mul, Nat.one_mul] at this
            rw [hst] at hv
            have hrun := run_store_op (w := w) ho hs hv (by rw [c1, h1]) k3 (by omega) (fun j hj => k7 _ (by omega) (by omega)) c3
            have hlz : (a.eval z).cells.toList.length = s := by simp [c1, h1]
            have hfit : o' + i * s' + off + (a.eval z).cells.toList.length ≤ cells.toList.length := by rw [hlz]; simp; omega
            have hds : ds.length = s := by rw [m3, h1]
            obtain ⟨q1, q2⟩ := m1.write (e := .own s' (rows.set i (splice (rowAt rows i) off ds))) hl k1 trivial (grownBy_setRow w b _) (by simp) (fun hK => by
              refine ⟨.inr ⟨b, o', cap, (splice cells.toList (o' + i * s' + off) (a.eval z).cells.toList).toArray, t', fz, k1, by rw [hsv, hlen]; simp, setRow_heap w b cells _ t' _ k3, by simpa using k4, k5, by rw [List.size_toArray, splice_length hfit]; simpa using k6, k7, fun r hr => ?_, k9, fun p j r d hr hdd => ?_⟩, hst⟩
              · rcases List.mem_or_eq_of_mem_set hr with hr | rfl
                · exact k8 r hr
                · rw [splice_length (by omega), hrow]
              · have hget : (splice cells.toList (o' + i * s' + off) (a.eval z).cells.toList).toArray[o' + p * s' + j]? = if o' + i * s' + off ≤ o' + p * s' + j ∧ o' + p * s' + j < o' + i * s' + off + s then (a.eval z).cells.toList[o' + p * s' + j - (o' + i * s' + off)]? else cells[o' + p * s' + j]? := by
                  rw [List.getElem?_toArray, splice_get hfit, hlz]
                  simp only [Array.getElem?_toList]
                rw [hget]
                rw [List.getElem?_set] at hr
                by_cases hp : i = p
                · subst hp
                  simp only [h2, if_true, Option.some.injEq] at hr
                  subst hr
                  rw [splice_get (by omega), hds] at hdd
                  by_cases hj : off ≤ j ∧ j < off + s
                  · rw [if_pos hj] at hdd
                    rw [if_pos (by omega), show o' + i * s' + j - (o' + i * s' + off) = j - off by omega]
                    obtain ⟨u, hu⟩ : ∃ u, (a.eval z).cells.toList[j - off]? = some u := ⟨(a.eval z).cells.toList[j - off]'(by omega), by simp⟩
                    exact ⟨u, hu, hK.d _ _ (m4 _ d u hdd hu)⟩
                  · rw [if_neg hj] at hdd
                    rw [if_neg (by omega)]
                    obtain ⟨c, hc, hx⟩ := k10 i j _ d (rowAt_get h2) hdd
                    exact ⟨c, hc, hK.d _ _ hx⟩
                · simp only [hp, if_false] at hr
                  have hjl : j < s' := by rw [← k8 r (List.mem_of_getElem? hr)]; exact (List.getElem?_eq_some_iff.1 hdd).1
                  rw [if_neg]
                  · obtain ⟨c, hc, hx⟩ := k10 p j r d hr hdd
                    exact ⟨c, hc, hK.d _ _ hx⟩
                  · intro ⟨e1, e2⟩
                    exact row_ne (Ne.symm hp) hjl (m := p * s' + j - i * s') (by omega) (by omega))
            exact OpOk.skip hd hrun (Res.trans m2 ⟨g, q1, q2, _, rfl, rfl⟩)
        · cases he
      · cases he
    · cases he
  · cases he

end Go.AM
