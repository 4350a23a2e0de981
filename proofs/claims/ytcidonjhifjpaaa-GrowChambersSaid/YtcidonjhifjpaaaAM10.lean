/- The abstract machine: operations against the model, one by one: slices that are made. -/
import Derived.Test.YtcidonjhifjpaaaAM9
namespace Go.AM
open Go.RowKit

variable {P : Program} {E : Env} {w0 : Base} {w w' : World} {N0 : Nat → Prop} {g g' : Gh} {T T' : Tab} {r : Option Nat} {n : Nat} {o : Oper} {a : Act} {ρ : Operand → AV} {dst : Nat}
  {y : AV} {es : List (Nat × Entry)}

theorem ok_build_array (hM : Mem w0 N0 g T w) (hρ : ∀ x, AVRel w (avoid N0 g T) g T (ρ x) (a.eval x)) {t e : TypeId} {len s : Nat} {parts : Array (Nat × Operand)} {z : List C}
    (ho : o.op = .build t parts) (hu : P.underlying t = some (.array len e)) (hz : zeroC P t = some z) (hs : sizeT P e = some s)
    (he : eff P E T ρ dst (.build z (parts.toList.map fun p => (p.1 * s, s, p.2))) = some (y, es)) : OpOk r n P o a w (Res w0 N0 g T w y es) := by
  simp only [eff] at he
  cases hb : buildGo ρ z (parts.toList.map fun p => (p.1 * s, s, p.2)) with
  | none => rw [hb] at he; simp at he
  | some cs =>
    rw [hb] at he
    simp only [Option.map_some, Option.some.injEq, Prod.mk.injEq] at he
    obtain ⟨rfl, rfl⟩ := he
    obtain ⟨v, h1, h2, h3⟩ := zeroC_spec hz
    have hrel : CellsRel w (avoid N0 g T) g T z v.cells.toList := ⟨by rw [h2]; simp, fun i c x hc hx => zero_rel v i c x (by rw [← h2]; exact hc) (by simpa using hx)⟩
    obtain ⟨cells', hf, hr⟩ := fill_spec hρ (fun i => some (i * s, s)) parts.toList _ z cs v.cells (by simp) hrel hb
    refine OpOk.value (fun c h => by rw [ho] at h; cases h) (v := .agg cells') ?_ (Res.same hM ⟨cells', rfl, by have := hr.1; simp at this; omega, fun i c x hc hx => hr.2 i c x hc (by simpa using hx)⟩)
    simp only [execOp, ho, Instr.build, Sem.run_bind, run_zeroValue h1, Result.andThen_ok, run_underlying hu, run_sizeOf hs, Array.toList_map, hf]
    rfl

theorem aputs_append {es fs : List (Nat × Entry)} : ∀ {T : Tab}, aputs T (es ++ fs) = aputs (aputs T es) fs := by
  induction es with
  | nil => intro T; rfl
  | cons p r ih => intro T; exact ih

/-! ### Freezing -/

theorem freezeC_ok (hM : Mem w0 N0 g T w) {c : C} {x : Value} {d : DC} (hc : CRel w (avoid N0 g T) g T c x) (h : freezeC T c = some (d, es)) :
    Mem w0 N0 g (aputs T es) w ∧ Keeps N0 g T w g (aputs T es) w ∧ DRel w (avoid N0 g (aputs T es)) d x := by
  unfold freezeC at h
  split at h
  · simp only [Option.some.injEq, Prod.mk.injEq] at h
    obtain ⟨rfl, rfl⟩ := h
    exact ⟨hM, Keeps.refl, hc⟩
  · simp only [Option.some.injEq, Prod.mk.injEq] at h
    obtain ⟨rfl, rfl⟩ := h
    rw [show x = _ from hc]
    exact ⟨hM, Keeps.refl, .nil⟩
  · rename_i m
    split at h
    · rename_i s rows hm
      simp only [Option.some.injEq, Prod.mk.injEq] at h
      obtain ⟨rfl, rfl⟩ := h
      obtain ⟨h1, h2⟩ := hM.freeze hm
      refine ⟨h1, h2, ?_⟩
      obtain ⟨_, rfl, _⟩ := hc
      exact (h1.ents m _ (aget_aput_same T m (.imm rows))).1
    · rename_i rows hm
      simp only [Option.some.injEq, Prod.mk.injEq] at h
      obtain ⟨rfl, rfl⟩ := h
      obtain ⟨_, rfl, _⟩ := hc
      exact ⟨hM, Keeps.refl, (hM.ents m _ hm).1⟩
    · cases h
  · rename_i f
    simp only [Option.some.injEq, Prod.mk.injEq] at h
    obtain ⟨rfl, rfl⟩ := h
    obtain ⟨cs, rfl, h2, _⟩ := hc
    exact ⟨hM, Keeps.refl, .fn h2 (by simp)⟩
  · cases h

theorem freezeCs_ok : ∀ {cs : List C} {T : Tab} {xs : List Value} {ds : List DC} {es : List (Nat × Entry)}, Mem w0 N0 g T w → CellsRel w (avoid N0 g T) g T cs xs → freezeCs T cs = some (ds, es) →
    Mem w0 N0 g (aputs T es) w ∧ Keeps N0 g T w g (aputs T es) w ∧ ds.length = cs.length ∧ ∀ (i : Nat) (d : DC) (x : Value), ds[i]? = some d → xs[i]? = some x → DRel w (avoid N0 g (aputs T es)) d x
  | [], T, xs, ds, es, hM, hc, h => by
    simp only [freezeCs, Option.some.injEq, Prod.mk.injEq] at h
    obtain ⟨rfl, rfl⟩ := h
    exact ⟨hM, Keeps.refl, rfl, by simp⟩
  | c :: rest, T, xs, ds, es, hM, hc, h => by
    simp only [freezeCs] at h
    split at h
    · cases h
    · rename_i d e h1
      split at h
      · cases h
      · rename_i ds' es' h2
        simp only [Option.some.injEq, Prod.mk.injEq] at h
        obtain ⟨rfl, rfl⟩ := h
        cases xs with
        | nil => have := hc.1; simp at this
        | cons x xs =>
          obtain ⟨k1, k2, k3⟩ := freezeC_ok hM (hc.2 0 c x rfl rfl) h1
          obtain ⟨m1, m2, m3, m4⟩ := freezeCs_ok (T := aputs T e) (xs := xs) k1 ⟨by have := hc.1; simpa using this, fun i c x hci hxi => k2.c (hc.2 (i + 1) c x (by simpa using hci) (by simpa using hxi))⟩ h2
          rw [aputs_append]
          refine ⟨m1, k2.trans m2, by simp [m3], fun i d' x' hd hx => ?_⟩
          cases i with
          | zero => simp at hd hx; subst hd; subst hx; exact m2.d _ _ k3
          | succ i => exact m4 i d' x' (by simpa using hd) (by simpa using hx)

/-- Rows as one block of cells. -/
def RowsRel (w : World) (N : Nat → Prop) (sz : Nat) (rows : List (List DC)) (cells : List Value) : Prop :=
  cells.length = rows.length * sz ∧ (∀ r ∈ rows, r.length = sz) ∧ ∀ (i j : Nat) (r : List DC) (d : DC), rows[i]? = some r → r[j]? = some d → ∃ c, cells[i * sz + j]? = some c ∧ DRel w N d c

theorem row_in {i j n sz : Nat} (hi : i < n) (hj : j < sz) : i * sz + j < n * sz := by
  have : (i + 1) * sz ≤ n * sz := Nat.mul_le_mul_right _ hi
  rw [Nat.add_mul, Nat.one_mul] at this
  omega

theorem row_ne {i k j sz m : Nat} (h : i ≠ k) (hj : j < sz) (hm : m < sz) : i * sz + j ≠ k * sz + m := by
  intro e
  apply h
  have h1 : (i * sz + j) / sz = i := by rw [Nat.mul_comm, Nat.mul_add_div (by omega), Nat.div_eq_of_lt hj]; rfl
  have h2 : (k * sz + m) / sz = k := by rw [Nat.mul_comm, Nat.mul_add_div (by omega), Nat.div_eq_of_lt hm]; rfl
  rw [← h1, e, h2]

theorem RowsRel.set {N : Nat → Prop} {sz : Nat} {rows : List (List DC)} {cells : List Value} (h : RowsRel w N sz rows cells) {i : Nat} (hi : i < rows.length) {ds : List DC} {xs : List Value} (hl : ds.length = sz) (hx : xs.length = sz)
    (hd : ∀ (j : Nat) (d : DC) (x : Value), ds[j]? = some d → xs[j]? = some x → DRel w N d x) : RowsRel w N sz (rows.set i ds) (splice cells (i * sz) xs) := by
  have hfit : i * sz + xs.length ≤ cells.length := by
    rw [hx, h.1]
    have : (i + 1) * sz ≤ rows.length * sz := Nat.mul_le_mul_right _ hi
    rw [Nat.add_mul, Nat.one_mul] at this
    exact this
  refine ⟨by rw [splice_length hfit, h.1]; simp, fun r hr => ?_, fun k j r d hr hdd => ?_⟩
  · rcases List.mem_or_eq_of_mem_set hr with hr | rfl
    · exact h.2.1 r hr
    · exact hl
  · rw [splice_get hfit, hx]
    rw [List.getElem?_set] at hr
    by_cases hk : i = k
    · subst hk
      simp only [hi, if_true, Option.some.injEq] at hr
      subst hr
      have hj := (List.getElem?_eq_some_iff.1 hdd).1
      rw [if_pos (by omega), show i * sz + j - i * sz = j by omega]
      obtain ⟨x, hxj⟩ : ∃ x, xs[j]? = some x := ⟨xs[j]'(by omega), by simp⟩
      exact ⟨x, hxj, hd j d x hdd hxj⟩
    · simp only [hk, if_false] at hr
      have hj : j < sz := by rw [← h.2.1 r (List.mem_of_getElem? hr)]; exact (List.getElem?_eq_some_iff.1 hdd).1
      rw [if_neg]
      · exact h.2.2 k j r d hr hdd
      · intro ⟨h1, h2⟩
        exact row_ne (Ne.symm hk) hj (m := k * sz + j - i * sz) (by omega) (by omega)

theorem RowsRel.keeps {sz : Nat} {rows : List (List DC)} {cells : List Value} (h : RowsRel w (avoid N0 g T) sz rows cells) (hK : Keeps N0 g T w g' T' w') : RowsRel w' (avoid N0 g' T') sz rows cells :=
  ⟨h.1, h.2.1, fun i j r d hr hd => by obtain ⟨c, hc, hx⟩ := h.2.2 i j r d hr hd; exact ⟨c, hc, hK.d _ _ hx⟩⟩

theorem bsliceGo_ok {sz : Nat} {ev : Operand → Value} : ∀ (parts : List (Nat × Operand)) {T : Tab} {rows rows' : List (List DC)} {e0 es : List (Nat × Entry)} {cells : Array Value}, Mem w0 N0 g T w →
    (∀ x, AVRel w (avoid N0 g T) g T (ρ x) (ev x)) → RowsRel w (avoid N0 g T) sz rows cells.toList → bsliceGo ρ sz T rows e0 parts = some (rows', es) →
    ∃ fs cells', es = e0 ++ fs ∧ rows'.length = rows.length ∧ Mem w0 N0 g (aputs T fs) w ∧ Keeps N0 g T w g (aputs T fs) w ∧
      Instr.fill (fun i => some (i * sz, sz)) cells (parts.map fun p => (p.1, ev p.2)) = some cells' ∧ RowsRel w (avoid N0 g (aputs T fs)) sz rows' cells'.toList
  | [], T, rows, rows', e0, es, cells, hM, hρ, hR, h => by
    simp only [bsliceGo, Option.some.injEq, Prod.mk.injEq] at h
    obtain ⟨rfl, rfl⟩ := h
    exact ⟨[], cells, by simp, rfl, hM, Keeps.refl, rfl, hR⟩
  | (i, x) :: rest, T, rows, rows', e0, es, cells, hM, hρ, hR, h => by
    simp only [bsliceGo] at h
    split at h
    · rename_i xs hx
      split at h
      · rename_i ds e hfz
        split at h
        · rename_i hcond
          obtain ⟨h1, h2⟩ := hcond
          obtain ⟨b, hv⟩ := cellsA_rel (hρ x) hx
          have hok : okCs xs = true := by
            refine okCs_of fun j c hc => ?_
            have : ∀ {cs : List C} {T : Tab} {ds : List DC} {es : List (Nat × Entry)}, freezeCs T cs = some (ds, es) → ∀ (j : Nat) (c : C), cs[j]? = some c → okC c = true := by
              intro cs
              induction cs with
              | nil => intro T ds es _ j c hc; simp at hc
              | cons c0 cr ih =>
                intro T ds es hf j c hc
                simp only [freezeCs] at hf
                split at hf
                · cases hf
                · rename_i d e' h3
                  split at hf
                  · cases hf
                  · rename_i ds' es' h4
                    cases j with
                    | zero =>
                      simp at hc; subst hc
                      cases c0 <;> first | rfl | (simp [freezeC] at h3)
                    | succ j => exact ih h4 j c (by simpa using hc)
            exact this hfz j c hc
          obtain ⟨k1, k2, _⟩ := hv.cells hok
          obtain ⟨m1, m2, m3, m4⟩ := freezeCs_ok hM (xs := (ev x).cells.toList) ⟨by simpa using k1, fun j c u hc hu => k2 j c u hc (by simpa using hu)⟩ hfz
          have hlx : (ev x).cells.toList.length = sz := by simpa [h1] using k1
          have hfit : i * sz + sz ≤ cells.size := by
            have h3 := hR.1
            have : (i + 1) * sz ≤ rows.length * sz := Nat.mul_le_mul_right _ h2
            rw [Nat.add_mul, Nat.one_mul] at this
            simp at h3
            omega
          have hfold : (((ev x).cells.zipIdx.foldl (fun cs (c, j) => cs.setIfInBounds (i * sz + j) c) cells)).toList = splice cells.toList (i * sz) (ev x).cells.toList := by
            rw [← Array.foldl_toList, Array.toList_zipIdx]
            have := foldl_set (ev x).cells.toList 0 (i * sz) cells (by omega)
            simpa [splice] using this
          obtain ⟨fs, cells', q1, q2, q3, q4, q5, q6⟩ := bsliceGo_ok rest (T := aputs T e) (rows := rows.set i ds) (e0 := e0 ++ e)
            (cells := (ev x).cells.zipIdx.foldl (fun cs (c, j) => cs.setIfInBounds (i * sz + j) c) cells) m1 (fun x => m2.a (hρ x))
            (by rw [hfold]; exact (hR.keeps m2).set h2 (by rw [m3, h1]) hlx (fun j d u hd hu => m4 j d u hd hu)) h
          refine ⟨e ++ fs, cells', by rw [q1, List.append_assoc], by rw [q2]; simp, by rw [aputs_append]; exact q3, by rw [aputs_append]; exact m2.trans q4, ?_, by rw [aputs_append]; exact q6⟩
          have hz : (ev x).cells.size = sz := by simpa using hlx
          simp only [List.map_cons, Instr.fill]
          rw [if_neg (by simp [hz]; omega)]
          exact q5
        · cases h
      · cases h
    · cases h

end Go.AM
