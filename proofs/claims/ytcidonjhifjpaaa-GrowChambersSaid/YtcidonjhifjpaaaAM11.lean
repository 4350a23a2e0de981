/- The abstract machine: operations against the model, one by one: slices that are made, cut and written. -/
import Derived.Test.YtcidonjhifjpaaaAM10
namespace Go.AM
open Go.RowKit

variable {P : Program} {E : Env} {w0 : Base} {w w' : World} {N0 : Nat → Prop} {g g' : Gh} {T T' : Tab} {r : Option Nat} {n : Nat} {o : Oper} {a : Act} {ρ : Operand → AV} {dst : Nat}
  {y : AV} {es : List (Nat × Entry)}

theorem constDC_rel {N : Nat → Prop} {c : C} {d : DC} {v : Value} (h : constDC c = some d) (hc : CRel w N g T c v) : DRel w N d v := by
  unfold constDC at h
  split at h
  · simp only [Option.some.injEq] at h; subst h; exact hc
  · simp only [Option.some.injEq] at h; subst h; rw [show v = _ from hc]; exact .nil
  · simp only [Option.some.injEq] at h; subst h
    obtain ⟨cs, rfl, h2, _⟩ := hc
    exact .fn h2 (by simp)
  · cases h

theorem mapM_spec {α β : Type} {f : α → Option β} {l : List α} {r : List β} (h : l.mapM f = some r) : r.length = l.length ∧ ∀ (i : Nat) (x : α), l[i]? = some x → ∃ y, r[i]? = some y ∧ f x = some y := by
  have h1 := mapM_option f l r h
  have hl : l.length = r.length := by have := congrArg List.length h1; simpa using this
  refine ⟨hl.symm, fun i x hx => ?_⟩
  have h2 := congrArg (fun l => l[i]?) h1
  simp only [List.getElem?_map, hx, Option.map_some] at h2
  cases hr : r[i]? with
  | none => simp [hr] at h2
  | some y => simp only [hr, Option.map_some, Option.some.injEq] at h2; exact ⟨y, rfl, h2⟩

theorem zeroD_spec {t : TypeId} {ds : List DC} (h : zeroD P t = some ds) : ∃ v, zeroT P t = some v ∧ v.cells.size = ds.length ∧
    ∀ (w : World) (N : Nat → Prop) (i : Nat) (d : DC) (x : Value), ds[i]? = some d → v.cells[i]? = some x → DRel w N d x := by
  unfold zeroD at h
  cases hz : zeroC P t with
  | none => simp [hz] at h
  | some cs =>
    simp only [hz, Option.bind_some] at h
    obtain ⟨v, h1, h2, h3⟩ := zeroC_spec hz
    obtain ⟨h4, h5⟩ := mapM_spec h
    refine ⟨v, h1, by rw [h4, h2]; simp, fun w N i d x hd hx => ?_⟩
    have hc : cs[i]? = some (ofValC x) := by rw [h2]; simp [hx]
    obtain ⟨d', hd', hf⟩ := h5 i _ hc
    rw [hd] at hd'
    simp only [Option.some.injEq] at hd'
    subst hd'
    exact constDC_rel (g := { blk := fun _ => none, sv := fun _ => undef, st := fun _ => 0 }) (T := []) hf (ofValC_rel x)

theorem mul_add_mod' (i s j : Nat) (h : j < s) : (i * s + j) % s = j := by
  rw [Nat.mul_comm, Nat.mul_add_mod, Nat.mod_eq_of_lt h]

/-- The cells of many zero values. -/
theorem zeroRows {ds : List DC} (w : World) (N : Nat → Prop) {v : Value} (hs : v.cells.size = ds.length) (hd : ∀ (i : Nat) (d : DC) (x : Value), ds[i]? = some d → v.cells[i]? = some x → DRel w N d x) {k m : Nat} (hk : k ≤ m) :
    ∀ (i j : Nat) (r : List DC) (d : DC), (List.replicate k ds)[i]? = some r → r[j]? = some d → ∃ c, ((Array.range (m * ds.length)).map (v.cells[· % v.cells.size]!))[i * ds.length + j]? = some c ∧ DRel w N d c := by
  intro i j r d hr hdd
  obtain ⟨hi, rfl⟩ : i < k ∧ ds = r := by
    rw [List.getElem?_replicate] at hr
    split at hr
    · exact ⟨by assumption, by simpa using hr⟩
    · cases hr
  have hj := (List.getElem?_eq_some_iff.1 hdd).1
  have hlt : i * ds.length + j < m * ds.length := row_in (by omega) hj
  have hj' : j < v.cells.size := by omega
  refine ⟨v.cells[j], ?_, hd j d _ hdd (by simp [hj'])⟩
  simp only [Array.getElem?_map, Array.getElem?_range, hlt, if_true, Option.map_some, Option.some.injEq, hs, mul_add_mod' _ _ _ hj]
  simp [hj']

theorem elemT_spec {t e : TypeId} (h : elemT P t = some e) : P.underlying t = some (.slice e) := by
  unfold elemT at h
  split at h
  · simp only [Option.some.injEq] at h; subst h; assumption
  · cases h

/-- A new slice. -/
theorem Res.newSlice (hM : Mem w0 N0 g T w) (hf : (aget T dst).isNone = true) {sz len cap : Nat} {rows : List (List DC)} {cells : Array Value} {t : TypeId} (hlen : rows.length = len) (hcap : len ≤ cap) (hmax : cap ≤ maxLen)
    (hsize : cap * sz ≤ cells.size) (h0 : 0 < sz) (hl : ∀ r ∈ rows, r.length = sz)
    (hd : ∀ (i j : Nat) (r : List DC) (d : DC), rows[i]? = some r → r[j]? = some d → ∃ c, cells[i * sz + j]? = some c ∧ DRel w (avoid N0 g T) d c) (hext : Below w.heap.size w w') (hw : w'.heap = w.heap.push (.cells cells t)) :
    Res w0 N0 g T w (.val false [.ref dst]) [(dst, .own sz rows)] (.slice (some ⟨w.heap.size, 0, none⟩) len cap) w' := by
  have hn := none_of_isNone hf
  subst hlen
  obtain ⟨h1, h2⟩ := hM.create (w' := w') (e := .own sz rows) (ob := some w.heap.size) (sv := .slice (some ⟨w.heap.size, 0, none⟩) rows.length cap) (s := sz) hn hext
    (fun b hb => by simp at hb; subst hb; rw [hw]; simp) (fun hK => ⟨.inr ⟨w.heap.size, 0, cap, cells, t, (0, 0), by simp [Gh.set], by simp [Gh.set], by rw [hw]; simp, hcap, hmax, by simpa using hsize, by simp, hl, h0,
      fun i j r d hr hdd => by obtain ⟨c, hc, hx⟩ := hd i j r d hr hdd; exact ⟨c, by simpa using hc, hK.d _ _ hx⟩⟩, by simp [Gh.set]⟩)
  refine ⟨_, h1, h2, _, rfl, by rw [show aputs T [(dst, Entry.own sz rows)] = aput T dst (.own sz rows) from rfl, aget_aput_same]; rfl, by simp [Gh.set], _, _, _, rfl⟩

theorem Res.trans {fs : List (Nat × Entry)} (h2 : Keeps N0 g T w g (aputs T fs) w) {v : Value} (h : Res w0 N0 g (aputs T fs) w y es v w') : Res w0 N0 g T w y (fs ++ es) v w' := by
  obtain ⟨g', k1, k2, k3⟩ := h
  exact ⟨g', by rw [aputs_append]; exact k1, by rw [aputs_append]; exact h2.trans k2, by rw [aputs_append]; exact k3⟩

theorem ok_bslice (hM : Mem w0 N0 g T w) (hρ : ∀ x, AVRel w (avoid N0 g T) g T (ρ x) (a.eval x)) {t e : TypeId} {len s : Nat} {parts : Array (Nat × Operand)} {z : List DC}
    (ho : o.op = .buildSlice t len parts) (hu : elemT P t = some e) (hs : sizeT P e = some s) (hz : zeroD P e = some z) (hlim : len * s ≤ 16777216) (hzs : z.length = s) (h0 : 0 < s)
    (he : eff P E T ρ dst (.bslice s len z parts.toList) = some (y, es)) : OpOk r n P o a w (Res w0 N0 g T w y es) := by
  simp only [eff] at he
  split at he
  · rename_i rows fs hb
    split at he
    · rename_i hf
      simp only [Option.some.injEq, Prod.mk.injEq] at he
      obtain ⟨rfl, rfl⟩ := he
      obtain ⟨v, h1, h2, h3⟩ := zeroD_spec hz
      subst hzs
      have hR : RowsRel w (avoid N0 g T) z.length (List.replicate len z) ((Array.range (len * z.length)).map (v.cells[· % v.cells.size]!)).toList := by
        refine ⟨by simp, fun r hr => by rw [List.eq_of_mem_replicate hr], fun i j r d hr hd => ?_⟩
        have := zeroRows w (avoid N0 g T) h2 (h3 w _) (Nat.le_refl len) i j r d hr hd
        simpa only [Array.getElem?_toList] using this
      obtain ⟨fs', cells', q1, q2, q3, q4, q5, q6⟩ := bsliceGo_ok parts.toList hM hρ hR hb
      simp only [List.nil_append] at q1
      subst q1
      have hq6 := q6.1
      rw [q2] at hq6
      simp only [List.length_replicate, Array.length_toList] at hq6
      refine OpOk.value (fun c h => by rw [ho] at h; cases h) (v := .slice (some ⟨w.heap.size, 0, none⟩) len len) (w' := w.alloc (.cells cells' e)) ?_
        (Res.trans q4 (Res.newSlice q3 hf (by rw [q2]; simp) (Nat.le_refl _) (by unfold maxLen; have : len ≤ len * z.length := Nat.le_mul_of_pos_right _ h0; omega) (by omega) h0 q6.2.1
          (fun i j r d hr hd => by have := q6.2.2 i j r d hr hd; simpa only [Array.getElem?_toList] using this) ((Below.refl _ w).alloc (Nat.le_refl _) _) rfl))
      have hlim' : ¬ len * z.length > 2 ^ 24 := by omega
      by_cases hzero : len * z.length = 0
      · have hr : ∀ zz : Array Value, (Array.range (len * z.length)).map (zz[· % zz.size]!) = #[] := fun zz => by simp [hzero]
        rw [hr] at q5
        simp only [execOp, ho, Instr.buildSlice, Sem.run_bind, run_underlying (elemT_spec hu), Result.andThen_ok, run_sizeOf hs, hlim', if_false, Array.toList_map]
        rw [if_pos hzero]
        simp only [Sem.run_bind, Sem.run_pure, Result.andThen_ok, hr, q5]
        rfl
      · simp only [execOp, ho, Instr.buildSlice, Sem.run_bind, run_underlying (elemT_spec hu), Result.andThen_ok, run_sizeOf hs, hlim', if_false, Array.toList_map]
        rw [if_neg hzero]
        simp only [Sem.run_bind, Sem.run_pure, run_zeroValue h1, Result.andThen_ok, q5]
        rfl
    · cases he
  · cases he

theorem ok_mkslice (hM : Mem w0 N0 g T w) (hρ : ∀ x, AVRel w (avoid N0 g T) g T (ρ x) (a.eval x)) {t e : TypeId} {i : TypeInfo} {z : List DC} {lo co : Operand}
    (ho : o.op = .makeSlice t lo co) (hu : elemT P t = some e) (hi : P.info? e = some i) (hz : zeroD P e = some z) (hzs : z.length = i.size) (h0 : 0 < i.size)
    (he : eff P E T ρ dst (.mkslice i.size i.bytes z lo co) = some (y, es)) : OpOk r n P o a w (Res w0 N0 g T w y es) := by
  simp only [eff] at he
  split at he
  · rename_i l c hl hc
    split at he
    · rename_i hcond
      obtain ⟨h1, h2, h3, h4, hf⟩ := hcond
      simp only [Option.some.injEq, Prod.mk.injEq] at he
      obtain ⟨rfl, rfl⟩ := he
      obtain ⟨k1, hl'⟩ := intA_rel (hρ lo) hl
      obtain ⟨k2, hc'⟩ := intA_rel (hρ co) hc
      obtain ⟨v, hv1, hv2, hv3⟩ := zeroD_spec hz
      have wl : IntKind.i64.wrap l = l := IntWalk.i64_in _ (by omega)
      have wc : IntKind.i64.wrap c = c := IntWalk.i64_in _ (by omega)
      refine OpOk.value (fun c h => by rw [ho] at h; cases h) (v := .slice (some ⟨w.heap.size, 0, none⟩) l.toNat c.toNat) (w' := w.alloc (.cells ((Array.range (c.toNat * i.size)).map (v.cells[· % v.cells.size]!)) e)) ?_
        (Res.newSlice hM hf (by simp) (by omega) (by unfold maxLen; omega) (by simp) h0 (fun r hr => by rw [List.eq_of_mem_replicate hr, hzs])
          (fun p q r d hr hd => by have := zeroRows w (avoid N0 g T) hv2 (hv3 w _) (k := l.toNat) (m := c.toNat) (by omega) p q r d hr hd; rwa [hzs] at this) ((Below.refl _ w).alloc (Nat.le_refl _) _) rfl)
      have hsz : sizeT P e = some i.size := by simp [sizeT, hi]
      have t1 : (decide (c < 0) || decide ((i.bytes : Int) * c > 2 ^ 48)) = false := by simp; omega
      have t2 : ¬ l < 0 := by omega
      have t3 : ¬ l > c := by omega
      by_cases hzero : c.toNat * i.size = 0
      · have hr : ∀ zz : Array Value, (Array.range (c.toNat * i.size)).map (zz[· % zz.size]!) = #[] := fun zz => by simp [hzero]
        simp only [execOp, ho, Instr.makeSlice, Sem.run_bind, run_underlying (elemT_spec hu), Result.andThen_ok, hl', hc', asInt, asIntOf, Sem.run_pure, typeInfo, run_program, hi, wl, wc, t1, t2, t3, decide_false, Bool.or_false, Bool.false_eq_true, if_false, run_askRoom, run_sizeOf hsz]
        rw [if_pos hzero]
        simp only [Sem.run_bind, Sem.run_pure, Result.andThen_ok, hr]
        rfl
      · simp only [execOp, ho, Instr.makeSlice, Sem.run_bind, run_underlying (elemT_spec hu), Result.andThen_ok, hl', hc', asInt, asIntOf, Sem.run_pure, typeInfo, run_program, hi, wl, wc, t1, t2, t3, decide_false, Bool.or_false, Bool.false_eq_true, if_false, run_askRoom, run_sizeOf hsz]
        rw [if_neg hzero]
        simp only [Sem.run_bind, Sem.run_pure, run_zeroValue hv1, Result.andThen_ok]
        rfl
    · cases he
  · cases he

end Go.AM
