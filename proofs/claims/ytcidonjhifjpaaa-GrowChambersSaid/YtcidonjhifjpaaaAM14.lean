/- The abstract machine: operations against the model, one by one: append and copy. -/
import Derived.Test.YtcidonjhifjpaaaAM13
namespace Go.AM
open Go.RowKit

variable {P : Program} {E : Env} {w0 : Base} {w w' : World} {N0 : Nat → Prop} {g g' : Gh} {T T' : Tab} {r : Option Nat} {n : Nat} {o : Oper} {a : Act} {ρ : Operand → AV} {dst : Nat}
  {y : AV} {es : List (Nat × Entry)}

theorem RowsRel.append {N : Nat → Prop} {sz : Nat} {rows rows2 : List (List DC)} {A B : List Value} (h : RowsRel w N sz rows A) (k : RowsRel w N sz rows2 B) : RowsRel w N sz (rows ++ rows2) (A ++ B) := by
  refine ⟨by simp [h.1, k.1, Nat.add_mul], fun r hr => ?_, fun i j r d hr hd => ?_⟩
  · rcases List.mem_append.1 hr with hr | hr
    · exact h.2.1 r hr
    · exact k.2.1 r hr
  · rw [List.getElem?_append] at hr
    split at hr
    · rename_i hi
      have hj : j < sz := by rw [← h.2.1 r (List.mem_of_getElem? hr)]; exact (List.getElem?_eq_some_iff.1 hd).1
      obtain ⟨c, hc, hx⟩ := h.2.2 i j r d hr hd
      rw [List.getElem?_append_left (by rw [h.1]; exact row_in hi hj)]
      exact ⟨c, hc, hx⟩
    · rename_i hi
      obtain ⟨c, hc, hx⟩ := k.2.2 (i - rows.length) j r d hr hd
      have e : i * sz + j - A.length = (i - rows.length) * sz + j := by
        rw [h.1]
        have : i * sz = rows.length * sz + (i - rows.length) * sz := by rw [← Nat.add_mul]; congr 1; omega
        omega
      rw [List.getElem?_append_right (by rw [h.1]; have := Nat.mul_le_mul_right sz (show rows.length ≤ i by omega); omega), e]
      exact ⟨c, hc, hx⟩

/-- Every cell of the rows, out of its place. -/
theorem RowsRel.one {N : Nat → Prop} {sz : Nat} {rows : List (List DC)} {A : List Value} (h : RowsRel w N sz rows A) (h0 : 0 < sz) : ∀ v ∈ A, v.oneCell' = true := by
  intro v hv
  obtain ⟨k, hk⟩ := List.mem_iff_getElem?.1 hv
  have hlt : k < rows.length * sz := by rw [← h.1]; exact (List.getElem?_eq_some_iff.1 hk).1
  have hi : k / sz < rows.length := Nat.div_lt_of_lt_mul (by rw [Nat.mul_comm]; exact hlt)
  have hj : k % sz < sz := Nat.mod_lt _ h0
  have hr : rows[k / sz]? = some rows[k / sz] := by simp [hi]
  have hlen := h.2.1 _ (List.mem_of_getElem? hr)
  have hd : rows[k / sz][k % sz]? = some (rows[k / sz][k % sz]'(by omega)) := by simp
  obtain ⟨c, hc, hx⟩ := h.2.2 _ _ _ _ hr hd
  rw [Nat.mul_comm, Nat.div_add_mod, hk] at hc
  simp only [Option.some.injEq] at hc
  subst hc
  exact hx.one

/-- Rows that memory holds, read as cells. -/
theorem read_rows {N : Nat → Prop} {sz : Nat} {rows : List (List DC)} {b off : Nat} (h0 : 0 < sz) (hl : ∀ r ∈ rows, r.length = sz)
    (hc : ∀ (i j : Nat) (r : List DC) (d : DC), rows[i]? = some r → r[j]? = some d → ∃ c, w.cell? ⟨b, off + i * sz + j, none⟩ = some c ∧ DRel w N d c) :
    ∃ A : Array Value, (loadCells ⟨b, off, none⟩ (rows.length * sz)).run P w = .ok A w ∧ RowsRel w N sz rows A.toList := by
  have key : ∀ k, k < rows.length * sz → ∃ r d, rows[k / sz]? = some r ∧ r[k % sz]? = some d := fun k hk => by
    have hi : k / sz < rows.length := Nat.div_lt_of_lt_mul (by rw [Nat.mul_comm]; exact hk)
    have hj : k % sz < sz := Nat.mod_lt _ h0
    have hr : rows[k / sz]? = some rows[k / sz] := by simp [hi]
    have hlen := hl _ (List.mem_of_getElem? hr)
    exact ⟨_, _, hr, by rw [List.getElem?_eq_getElem (by omega)]⟩
  have hcell : ∀ k, k < rows.length * sz → ∃ c, w.cell? ⟨b, off + k, none⟩ = some c := fun k hk => by
    obtain ⟨r, d, hr, hd⟩ := key k hk
    obtain ⟨c, hc, _⟩ := hc _ _ r d hr hd
    rw [Nat.add_assoc, Nat.mul_comm, Nat.div_add_mod] at hc
    exact ⟨c, hc⟩
  refine ⟨((List.range (rows.length * sz)).map fun k => (w.cell? ⟨b, off + k, none⟩).getD undef).toArray, ?_, by simp, hl, fun i j r d hr hd => ?_⟩
  · refine run_loadCells w _ _ _ fun j hj => ?_
    obtain ⟨c, hc⟩ := hcell j hj
    rw [addr_add, hc]; rfl
  · have hi := (List.getElem?_eq_some_iff.1 hr).1
    have hj : j < sz := by rw [← hl r (List.mem_of_getElem? hr)]; exact (List.getElem?_eq_some_iff.1 hd).1
    obtain ⟨c, hc, hx⟩ := hc i j r d hr hd
    refine ⟨c, ?_, hx⟩
    have hlt := row_in hi hj
    rw [Nat.add_assoc] at hc
    simp [hlt, hc]

/-- What an append adds. -/
theorem read_args (hM : Mem w0 N0 g T w) {x : AV} {rows : List (List DC)} {v : Value} {sz : Nat} (h0 : 0 < sz) (hx : AVRel w (avoid N0 g T) g T x v) (h : rowsA T x = some rows) (hall : allLen sz rows = true) :
    ∃ (ad : Option Addr) (cap : Nat) (A : Array Value), v = .slice ad rows.length cap ∧ (Builtin.firstCells sz rows.length v).run P w = .ok A w ∧ RowsRel w (avoid N0 g T) sz rows A.toList := by
  obtain ⟨ad, cap, hv, hr⟩ := rowsA_rel hM hx h
  have hl := allLen_spec hall
  rcases hr with rfl | ⟨b, off, s, rfl, hb, hs, hls, hc⟩
  · refine ⟨ad, cap, #[], hv, ?_, by simp, by simp, by simp⟩
    subst hv
    cases ad with
    | none => rfl
    | some ad =>
      have := run_loadCells_list (P := P) w ad [] (by simp)
      simpa [Builtin.firstCells] using this
  · by_cases hne : rows = []
    · subst hne
      refine ⟨_, cap, #[], hv, ?_, by simp, by simp, by simp⟩
      subst hv
      have := run_loadCells_list (P := P) w ⟨b, off, none⟩ [] (by simp)
      simpa [Builtin.firstCells] using this
    · obtain ⟨r0, rest, rfl⟩ := List.exists_cons_of_ne_nil hne
      have : s = sz := by rw [← hls r0 (by simp), hl r0 (by simp)]
      subst this
      obtain ⟨A, hA, hR⟩ := read_rows (P := P) hs hls hc
      exact ⟨_, cap, A, hv, by subst hv; exact hA, hR⟩

theorem run_append_grow' {t u e : TypeId} {ty : TypeId} {i : TypeInfo} {z : Value} (ht : P.underlying t = some (.slice e)) (hu : P.underlying u = some (.slice e)) (hi : P.info? e = some i) (hz : zeroT P e = some z)
    {base : Option Addr} {sLen sCap m : Nat} {x : Value} (hx : (Builtin.lenOf x).run P w = .ok m w) (hneed : sCap < sLen + m) (hbytes : (sLen + m) * i.bytes ≤ 140737488355328)
    {old news : Array Value} (ho : (Builtin.firstCells i.size sLen (.slice base sLen sCap)).run P w.drew = .ok old w.drew) (hn : (Builtin.firstCells i.size m x).run P w.drew = .ok news w.drew) (hmax : sLen + m ≤ 9223372036854775807) :
    (Builtin.append_ #[t, u] ty #[.slice base sLen sCap, x]).run P w =
      .ok (.slice (some ⟨w.heap.size, 0, none⟩) (sLen + m) (grownCap w (sLen + m) sCap e)) (w.drew.alloc (.cells (old ++ news ++ Builtin.zeroCells z.cells (grownCap w (sLen + m) sCap e - (sLen + m))) e)) := by
  have hfit := growslice_fits hneed hbytes
  have h1 : ¬ sLen + m ≤ sCap := by omega
  have h2 : ¬ Builtin.nextslicecap (sLen + m) sCap * i.bytes > 2 ^ 48 := by omega
  have h3 : ¬ ((sLen + m : Nat) : Int) > IntKind.i64.max := by simp [IntKind.max, IntKind.signed, IntKind.bits]; omega
  have hzz := run_zeroValue hz w.drew
  simp only [Builtin.append_]
  simp [run_underlying ht, run_underlying hu, sizeOf, typeInfo, hi, hx, h1, h2, Question.forced, ho, hn, hzz, newRow, grownCap]
  simp at h3
  omega

theorem run_append_room' {t u e : TypeId} {ty : TypeId} {i : TypeInfo} (ht : P.underlying t = some (.slice e)) (hu : P.underlying u = some (.slice e)) (hi : P.info? e = some i)
    {b off sLen sCap m : Nat} {x : Value} (hx : (Builtin.lenOf x).run P w = .ok m w) (hneed : sLen + m ≤ sCap)
    {news : Array Value} (hn : (Builtin.firstCells i.size m x).run P w = .ok news w) {cur : Array Value} {te : TypeId} {fz : Nat × Nat} (hg : w.heap[b]? = some (.cells cur te fz)) (hfit : off + sLen * i.size + news.size ≤ cur.size)
    (hf : ∀ j, j < news.size → (decide (fz.1 ≤ off + sLen * i.size + j) && decide (off + sLen * i.size + j < fz.2)) = false) (h1 : ∀ v ∈ news.toList, v.oneCell' = true) :
    (Builtin.append_ #[t, u] ty #[.slice (some ⟨b, off, none⟩) sLen sCap, x]).run P w =
      .ok (.slice (some ⟨b, off, none⟩) (sLen + m) sCap) (w.setRow b (splice cur.toList (off + sLen * i.size) news.toList).toArray) := by
  have hst := run_storeCells_gen P b (off + sLen * i.size) te fz news.toList 0 cur w hg (by simpa using hfit) (by simpa using hf) h1
  simp only [Nat.add_zero] at hst
  simp [Builtin.append_, run_underlying ht, run_underlying hu, sizeOf, typeInfo, hi, hx, hneed, hn, addr_add, hst]

theorem run_append_none {t u e : TypeId} {ty : TypeId} {i : TypeInfo} (ht : P.underlying t = some (.slice e)) (hu : P.underlying u = some (.slice e)) (hi : P.info? e = some i)
    {x : Value} (hx : (Builtin.lenOf x).run P w = .ok 0 w) {news : Array Value} (hn : (Builtin.firstCells i.size 0 x).run P w = .ok news w) :
    (Builtin.append_ #[t, u] ty #[.slice none 0 0, x]).run P w = .ok (.slice none 0 0) w := by
  simp [Builtin.append_, run_underlying ht, run_underlying hu, sizeOf, typeInfo, hi, hx, hn]

theorem firstCells_drew {v : Value} {sz k : Nat} {A : Array Value} (h : (Builtin.firstCells sz k v).run P w = .ok A w) : (Builtin.firstCells sz k v).run P w.drew = .ok A w.drew := by
  unfold Builtin.firstCells at *
  split at h
  · rename_i ad _ _
    have key : ∀ (n i : Nat) (acc : Array Value) (A : Array Value), (loadCellsFrom ad i n acc).run P w = .ok A w → (loadCellsFrom ad i n acc).run P w.drew = .ok A w.drew := by
      intro n
      induction n with
      | zero => intro i acc A h; simp only [loadCellsFrom, Sem.run_pure, Result.ok.injEq] at h ⊢; exact ⟨h.1, trivial⟩
      | succ n ih =>
        intro i acc A h
        simp only [loadCellsFrom, Sem.run_bind, run_load, World.cell?_drew] at h ⊢
        cases hc : w.cell? (ad.add i) with
        | some x => simp only [hc, Result.andThen_ok] at h ⊢; exact ih _ _ _ h
        | none =>
          simp only [hc] at h ⊢
          have e : w.drew.farLoad P (ad.add i) (Mode.plain == Mode.atomic) = w.farLoad P (ad.add i) (Mode.plain == Mode.atomic) := rfl
          rw [e]
          cases hf : w.farLoad P (ad.add i) (Mode.plain == Mode.atomic) with
          | ok p => simp only [hf, Result.andThen_ok] at h ⊢; exact ih _ _ _ h
          | error h' => simp only [hf, Result.andThen_halt] at h; cases h
    exact key _ _ _ _ h
  · simp only [Sem.run_pure, Result.ok.injEq] at h ⊢; exact ⟨h.1, trivial⟩
  · simp only [Sem.run_pure, Result.ok.injEq] at h ⊢; exact ⟨h.1, trivial⟩
  · cases h

theorem DRel.heap {N : Nat → Prop} {d : DC} {v : Value} (h : DRel w N d v) (hs : w'.heap = w.heap) : DRel w' N d v := h.mono (by rw [hs]; exact Nat.le_refl _) (fun b _ _ => by rw [hs]) (fun _ _ h => h)

theorem ok_append (hM : Mem w0 N0 g T w) (hρ : ∀ x, AVRel w (avoid N0 g T) g T (ρ x) (a.eval x)) {c : Call} {p q : Operand} {t u e : TypeId} {i : TypeInfo} {z : Value} (ho : o.op = .call c) (hc : c.callee = .builtin .append)
    (ha : c.args.toList = [p, q]) (hat : c.argTypes.toList = [t, u]) (ht : elemT P t = some e) (hu : elemT P u = some e) (hi : P.info? e = some i) (hz : zeroT P e = some z) (hzs : z.cells.size = i.size) (h0 : 0 < i.size)
    (he : eff P E T ρ dst (.append i.size i.bytes p q) = some (y, es)) : OpOk r n P o a w (Res w0 N0 g T w y es) := by
  have hd : ∀ c, o.op ≠ .defer c := fun c h => by rw [ho] at h; cases h
  have ha' : c.args = #[p, q] := by rw [← Array.toArray_toList (xs := c.args), ha]
  have hat' : c.argTypes = #[t, u] := by rw [← Array.toArray_toList (xs := c.argTypes), hat]
  have hexec : ∀ {v : Value} {w'' : World}, (Builtin.append_ #[t, u] o.type #[a.eval p, a.eval q]).run P w = .ok v w'' → (execOp a.eval o).run P w = .ok (.value v) w'' := fun h => by
    simp [execOp, ho, resolve, hc, invoke, builtin, ha', hat', h]
  have ht' := elemT_spec ht
  have hu' := elemT_spec hu
  have hsz : sizeT P e = some i.size := by simp [sizeT, hi]
  simp only [eff] at he
  split at he
  · rename_i rows2 hr2
    split at he
    · rename_i hp
      split at he
      · rename_i hcond
        obtain ⟨hall, hby, hmx, hf⟩ := hcond
        simp only [Option.some.injEq, Prod.mk.injEq] at he
        obtain ⟨rfl, rfl⟩ := he
        obtain ⟨ad, cap, A, hv, hA, hR⟩ := read_args (P := P) hM h0 (hρ q) hr2 hall
        have hlen : (Builtin.lenOf (a.eval q)).run P w = .ok rows2.length w := by rw [hv]; rfl
        have hpv : a.eval p = .slice none 0 0 := oneA_rel (hρ p) hp
        by_cases hm : rows2.length = 0
        · have hrn : rows2 = [] := List.eq_nil_of_length_eq_zero hm
          subst hrn
          have hrun := run_append_none (ty := o.type) ht' hu' hi (x := a.eval q) (by simpa using hlen) (by simpa using hA)
          rw [← hpv] at hrun
          have hn := none_of_isNone hf
          obtain ⟨q1, q2⟩ := hM.create (w' := w) (e := .own i.size []) (ob := none) (sv := .slice none 0 0) (s := i.size) hn (Below.refl _ _) (fun b hb => by cases hb) (fun hK => ⟨.inl ⟨by simp [Gh.set], rfl, by simp [Gh.set]⟩, by simp [Gh.set]⟩)
          exact OpOk.value hd (hexec hrun) ⟨_, q1, q2, _, rfl, by rw [show aputs T [(dst, Entry.own i.size [])] = aput T dst (.own i.size []) from rfl, aget_aput_same]; rfl, by simp [Gh.set, hpv], _, _, _, hpv⟩
        · have hrun := run_append_grow' (ty := o.type) ht' hu' hi hz (base := none) (sLen := 0) (sCap := 0) hlen (by omega) (by simpa using hby) (old := #[]) (by rfl) (firstCells_drew hA) (by omega)
          rw [← hpv] at hrun
          have hcapn := grownCap_ge w (0 + rows2.length) 0 e
          have hcapm := grownCap_le_maxLen w (0 + rows2.length) 0 e (by unfold maxLen; omega)
          have hzc : (Builtin.zeroCells z.cells (grownCap w (0 + rows2.length) 0 e - (0 + rows2.length))).size = (grownCap w (0 + rows2.length) 0 e - (0 + rows2.length)) * i.size := by rw [size_zeroCells, hzs]
          have hAs : A.size = rows2.length * i.size := by simpa using hR.1
          refine OpOk.value hd (hexec hrun) ?_
          simp only [Nat.zero_add] at hcapn hcapm hzc ⊢
          refine Res.newSlice hM hf rfl hcapn hcapm ?_ h0 hR.2.1 (fun k j r d hr hdd => ?_) (((Below.refl _ w).drew).alloc (Nat.le_refl _) _) rfl
          · rw [Array.size_append, Array.size_append, hzc, hAs]
            simp only [Array.size_empty, Nat.zero_add]
            rw [← Nat.add_mul]
            exact Nat.mul_le_mul_right _ (by omega)
          · obtain ⟨c, hcc, hx⟩ := hR.2.2 k j r d hr hdd
            refine ⟨c, ?_, hx⟩
            rw [Array.getElem?_toList] at hcc
            have hlt := (Array.getElem?_eq_some_iff.1 hcc).1
            simp only [Array.empty_append]
            rw [Array.getElem?_append_left hlt]
            exact hcc
      · cases he
    · rename_i m hp
      obtain ⟨hsome, hpv, _⟩ := oneA_rel (hρ p) hp
      split at he
      · rename_i s rows hm
        split at he
        · rename_i hcond
          obtain ⟨rfl, hall, hby, hmx, hf⟩ := hcond
          simp only [Option.some.injEq, Prod.mk.injEq] at he
          obtain ⟨rfl, rfl⟩ := he
          obtain ⟨ad, cap2, A, hv, hA, hR⟩ := read_args (P := P) hM h0 (hρ q) hr2 hall
          have hlen : (Builtin.lenOf (a.eval q)).run P w = .ok rows2.length w := by rw [hv]; rfl
          obtain ⟨hso, hst⟩ := hM.ents m _ hm
          have hne : dst ≠ m := fun h => by subst h; rw [hm] at hf; simp at hf
          have hf1 : aget (aput T m .dead) dst = none := by rw [aget_aput_other _ _ hne]; exact none_of_isNone hf
          have hAs : A.size = rows2.length * i.size := by simpa using hR.1
          have hget : ∀ X : Entry, aget (aputs T [(m, Entry.dead), (dst, X)]) dst = some X := fun X => aget_aput_same _ _ _
          -- a new block: the old name is let go first
          have fresh : ∀ {base : Option Addr} {sCap : Nat} {old : Array Value}, g.sv m = .slice base rows.length sCap → sCap < rows.length + rows2.length → (Builtin.firstCells i.size rows.length (.slice base rows.length sCap)).run P w = .ok old w →
              RowsRel w (avoid N0 g T) i.size rows old.toList → OpOk r n P o a w (Res w0 N0 g T w (.val false [.ref dst]) [(m, .dead), (dst, .own i.size (rows ++ rows2))]) := by
            intro base sCap old hsv hcap hold hRo
            have hrun := run_append_grow' (ty := o.type) ht' hu' hi hz (base := base) (sLen := rows.length) (sCap := sCap) hlen hcap hby (firstCells_drew hold) (firstCells_drew hA) (by omega)
            rw [← hsv, ← hpv] at hrun
            have hcapn := grownCap_ge w (rows.length + rows2.length) sCap e
            have hcapm := grownCap_le_maxLen w (rows.length + rows2.length) sCap e (by unfold maxLen; omega)
            have hzc : (Builtin.zeroCells z.cells (grownCap w (rows.length + rows2.length) sCap e - (rows.length + rows2.length))).size = (grownCap w (rows.length + rows2.length) sCap e - (rows.length + rows2.length)) * i.size := by rw [size_zeroCells, hzs]
            obtain ⟨q1, q2⟩ := hM.retire (n := m) (e := .dead) (isSome_of_get hm) trivial (fun _ => trivial)
            have hRR := (hRo.append hR).keeps q2
            refine OpOk.value hd (hexec hrun) (Res.trans (fs := [(m, .dead)]) q2 ?_)
            refine Res.newSlice q1 (by rw [hf1]; rfl) (by simp) hcapn hcapm ?_ h0 hRR.2.1 (fun k j r d hr hdd => ?_) (((Below.refl _ w).drew).alloc (Nat.le_refl _) _) rfl
            · have hos : old.size = rows.length * i.size := by simpa using hRo.1
              rw [Array.size_append, Array.size_append, hzc, hAs, hos, ← Nat.add_mul, ← Nat.add_mul]
              exact Nat.mul_le_mul_right _ (by omega)
            · obtain ⟨c, hcc, hx⟩ := hRR.2.2 k j r d hr hdd
              refine ⟨c, ?_, hx⟩
              rw [← Array.toList_append, Array.getElem?_toList] at hcc
              rw [Array.getElem?_append_left (Array.getElem?_eq_some_iff.1 hcc).1]
              exact hcc
          rcases hso with ⟨hsv, hrn, hbn⟩ | ⟨b, off, cap, cells, tt, fz, k1, k2, k3, k4, k5, k6, k7, k8, k9, k10⟩
          · subst hrn
            by_cases hm0 : rows2.length = 0
            · have hrn2 : rows2 = [] := List.eq_nil_of_length_eq_zero hm0
              subst hrn2
              have hrun := run_append_none (ty := o.type) ht' hu' hi (x := a.eval q) (by simpa using hlen) (by simpa using hA)
              rw [← hsv, ← hpv] at hrun
              obtain ⟨q1, q2⟩ := hM.move (dst := dst) (rows' := []) (v := .slice none 0 0) hm (none_of_isNone hf) (w' := w) ⟨rfl, rfl, rfl, Nat.le_refl _, fun _ _ _ => rfl⟩ rfl (fun hK => .inl ⟨rfl, rfl, hbn⟩)
              refine OpOk.value hd (hexec hrun) ⟨_, q1, q2, _, rfl, by simp only [List.append_nil]; rw [hget]; rfl, by simp [Gh.set, hpv, hsv], _, _, _, by rw [hpv, hsv]⟩
            · exact fresh hsv (by simp; omega) (by rfl) ⟨by simp, by simp, by simp⟩
          · by_cases hroom : rows.length + rows2.length ≤ cap
            · have hAl : A.toList.length = rows2.length * i.size := by simpa using hAs
              have hmul : rows.length * i.size + rows2.length * i.size ≤ cap * i.size := by rw [← Nat.add_mul]; exact Nat.mul_le_mul_right _ hroom
              have hrun := run_append_room' (w := w) (ty := o.type) ht' hu' hi (x := a.eval q) (b := b) (off := off) hlen hroom hA k3 (by omega) (fun j hj => k7 _ (by omega) (by omega)) (hR.one h0)
              rw [← k2, ← hpv] at hrun
              have hfit : off + rows.length * i.size + A.toList.length ≤ cells.toList.length := by rw [hAl]; simp; omega
              obtain ⟨q1, q2⟩ := hM.move (dst := dst) (rows' := rows ++ rows2) (v := .slice (some ⟨b, off, none⟩) (rows.length + rows2.length) cap) hm (none_of_isNone hf) (w' := w.setRow b (splice cells.toList (off + rows.length * i.size) A.toList).toArray) (by rw [k1]; exact grownBy_setRow w b _) (by simp) (fun hK => by
                refine .inr ⟨b, off, cap, (splice cells.toList (off + rows.length * i.size) A.toList).toArray, tt, fz, k1, by simp, setRow_heap w b cells _ tt _ k3, by simpa using hroom, k5, by rw [List.size_toArray, splice_length hfit]; simpa using k6, k7, fun r hr => ?_, k9, fun p j r d hr hdd => ?_⟩
                · rcases List.mem_append.1 hr with hr | hr
                  · exact k8 r hr
                  · exact hR.2.1 r hr
                · rw [List.getElem?_toArray, splice_get hfit, hAl]
                  rw [List.getElem?_append] at hr
                  split at hr
                  · rename_i hpl
                    have hjl : j < i.size := by rw [← k8 r (List.mem_of_getElem? hr)]; exact (List.getElem?_eq_some_iff.1 hdd).1
                    have := row_in hpl hjl
                    rw [if_neg (by omega)]
                    obtain ⟨c, hc', hx⟩ := k10 p j r d hr hdd
                    exact ⟨c, by simpa using hc', hK.d _ _ hx⟩
                  · rename_i hpl
                    have hjl : j < i.size := by rw [← hR.2.1 r (List.mem_of_getElem? hr)]; exact (List.getElem?_eq_some_iff.1 hdd).1
                    have hp2 := (List.getElem?_eq_some_iff.1 hr).1
                    have h5 := row_in hp2 hjl
                    have h6 : p * i.size = rows.length * i.size + (p - rows.length) * i.size := by rw [← Nat.add_mul]; congr 1; omega
                    rw [if_pos (by omega), show off + p * i.size + j - (off + rows.length * i.size) = (p - rows.length) * i.size + j by omega]
                    obtain ⟨c, hc', hx⟩ := hR.2.2 (p - rows.length) j r d hr hdd
                    exact ⟨c, hc', hK.d _ _ hx⟩)
              exact OpOk.value hd (hexec hrun) ⟨_, q1, q2, _, rfl, by rw [hget]; rfl, by simp [Gh.set], _, _, _, rfl⟩
            · obtain ⟨B, hB, hRB⟩ := read_rows (P := P) (w := w) (N := avoid N0 g T) (b := b) (off := off) k9 k8 (fun p j r d hr hdd => by obtain ⟨c, hc', hx⟩ := k10 p j r d hr hdd; exact ⟨c, by simp [World.cell?, k3, hc'], hx⟩)
              exact fresh k2 (by omega) hB hRB
        · cases he
      · cases he
    · cases he
  · cases he

/-- The first rows of a slice. -/
theorem read_part (hM : Mem w0 N0 g T w) {x : AV} {rows : List (List DC)} {v : Value} {sz k : Nat} (h0 : 0 < sz) (hx : AVRel w (avoid N0 g T) g T x v) (h : rowsA T x = some rows) (hall : allLen sz rows = true) (hk : k ≤ rows.length) :
    ∃ (ad : Option Addr) (cap : Nat) (A : Array Value), v = .slice ad rows.length cap ∧ (Builtin.firstCells sz k v).run P w = .ok A w ∧ RowsRel w (avoid N0 g T) sz (rows.take k) A.toList := by
  obtain ⟨ad, cap, hv, hr⟩ := rowsA_rel hM hx h
  have hl := allLen_spec hall
  rcases hr with rfl | ⟨b, off, s, rfl, hb, hs, hls, hc⟩
  · have hk0 : k = 0 := by simpa using hk
    subst hk0
    refine ⟨ad, cap, #[], hv, ?_, by simp, by simp, by simp⟩
    subst hv
    cases ad with
    | none => rfl
    | some ad =>
      have := run_loadCells_list (P := P) w ad [] (by simp)
      simpa [Builtin.firstCells] using this
  · by_cases hne : rows = []
    · subst hne
      have hk0 : k = 0 := by simpa using hk
      subst hk0
      refine ⟨_, cap, #[], hv, ?_, by simp, by simp, by simp⟩
      subst hv
      have := run_loadCells_list (P := P) w ⟨b, off, none⟩ [] (by simp)
      simpa [Builtin.firstCells] using this
    · obtain ⟨r0, rest, hrr⟩ := List.exists_cons_of_ne_nil hne
      have : s = sz := by rw [← hls r0 (by rw [hrr]; simp), hl r0 (by rw [hrr]; simp)]
      subst this
      obtain ⟨A, hA, hR⟩ := read_rows (P := P) (w := w) (N := avoid N0 g T) (rows := rows.take k) (b := b) (off := off) hs (fun r hr => hls r (List.mem_of_mem_take hr)) (fun i j r d hr hd => hc i j r d (by rw [List.getElem?_take] at hr; split at hr; exact hr; cases hr) hd)
      refine ⟨_, cap, A, hv, ?_, hR⟩
      subst hv
      rw [List.length_take, Nat.min_eq_left hk] at hA
      exact hA

theorem ok_copy (hM : Mem w0 N0 g T w) (hρ : ∀ x, AVRel w (avoid N0 g T) g T (ρ x) (a.eval x)) {c : Call} {p q : Operand} {t u e : TypeId} {i : TypeInfo} (ho : o.op = .call c) (hc : c.callee = .builtin .copy)
    (ha : c.args.toList = [p, q]) (hat : c.argTypes.toList = [t, u]) (ht : elemT P t = some e) (hi : P.info? e = some i) (h0 : 0 < i.size)
    (he : eff P E T ρ dst (.copy i.size p q) = some (y, es)) : OpOk r n P o a w (Res w0 N0 g T w y es) := by
  have hd : ∀ c, o.op ≠ .defer c := fun c h => by rw [ho] at h; cases h
  have ha' : c.args = #[p, q] := by rw [← Array.toArray_toList (xs := c.args), ha]
  have hat' : c.argTypes = #[t, u] := by rw [← Array.toArray_toList (xs := c.argTypes), hat]
  simp only [eff] at he
  split at he
  · rename_i rows2 m lo hi' hrows hpart
    split at he
    · rename_i s rows hm
      split at he
      · rename_i hcond
        obtain ⟨rfl, hall, hlt, hle⟩ := hcond
        simp only [Option.some.injEq, Prod.mk.injEq] at he
        obtain ⟨rfl, rfl⟩ := he
        obtain ⟨hso, hst⟩ := hM.ents m _ hm
        have hl : live T m := by unfold live; rw [hm]; trivial
        rcases hso with ⟨_, hr, _⟩ | ⟨b, off, cap, cells, te, fz, k1, k2, k3, k4, k5, k6, k7, k8, k9, k10⟩
        · subst hr; simp at hle; omega
        · -- where the copy goes
          obtain ⟨cap', hvd⟩ : ∃ cap', a.eval p = .slice (some ⟨b, off + lo * i.size, none⟩) (hi' - lo) cap' := by
            cases hone : oneA (ρ p) with
            | none => rw [hone] at hpart; cases hpart
            | some cc =>
              rw [hone] at hpart
              have hcc := oneA_rel (hρ p) hone
              simp only [Option.bind_some] at hpart
              cases cc with
              | ref k =>
                simp only [partA] at hpart
                split at hpart
                · rename_i s' rows' hk
                  simp only [Option.some.injEq, Prod.mk.injEq] at hpart
                  obtain ⟨rfl, rfl, rfl⟩ := hpart
                  rw [hm] at hk
                  simp only [Option.some.injEq, Entry.own.injEq] at hk
                  obtain ⟨_, rfl⟩ := hk
                  exact ⟨cap, by rw [hcc.2.1, k2]; simp⟩
                · cases hpart
              | sub k a b =>
                simp only [partA, Option.some.injEq, Prod.mk.injEq] at hpart
                obtain ⟨rfl, rfl, rfl⟩ := hpart
                obtain ⟨_, _, b2, o2, len, cp, cp', e1, e2, e3⟩ := hcc
                rw [k2] at e1
                simp only [Value.slice.injEq, Option.some.injEq, Addr.mk.injEq, and_true] at e1
                obtain ⟨⟨rfl, rfl⟩, _, _⟩ := e1
                rw [hst] at e3
                exact ⟨cp', e3⟩
              | _ => simp [partA] at hpart
          generalize hkk : min rows2.length (hi' - lo) = k
          have hk1 : k ≤ rows2.length := by omega
          have hk2 : k ≤ hi' - lo := by omega
          obtain ⟨ad, cap2, A, hvs, hA, hR⟩ := read_part (P := P) hM h0 (hρ q) hrows hall hk1
          have htake : rows2.take (hi' - lo) = rows2.take k := by
            rw [← hkk]
            by_cases hc : rows2.length ≤ hi' - lo
            · rw [Nat.min_eq_left hc, List.take_of_length_le hc, List.take_of_length_le (Nat.le_refl _)]
            · rw [Nat.min_eq_right (by omega)]
          have hxl : (rows2.take k).length = k := by simp; omega
          have hAl : A.toList.length = k * i.size := by rw [hR.1, hxl]
          have hin : lo * i.size + k * i.size ≤ cap * i.size := by rw [← Nat.add_mul]; exact Nat.mul_le_mul_right _ (by omega)
          have hfit : off + lo * i.size + A.toList.length ≤ cells.toList.length := by rw [hAl]; simp; omega
          have hone := hR.one h0
          have hstore := run_storeCells_gen P b (off + lo * i.size) te fz A.toList 0 cells w k3 (by simpa using hfit) (fun j hj => by
            rw [hAl] at hj
            exact k7 _ (by omega) (by omega)) hone
          simp only [Nat.add_zero] at hstore
          have hlenOf : (Builtin.lenOf (.slice ad rows2.length cap2)).run P w = .ok rows2.length w := rfl
          have hrun : (execOp a.eval o).run P w = .ok (.value (goInt k)) (w.setRow b (splice cells.toList (off + lo * i.size) A.toList).toArray) := by
            rw [hvs] at hA
            have hmin : Nat.min rows2.length (hi' - lo) = k := hkk
            have hcopy : (Builtin.copy_ #[t, u] o.type #[.slice (some ⟨b, off + lo * i.size, none⟩) (hi' - lo) cap', .slice ad rows2.length cap2]).run P w = .ok (goInt k) (w.setRow b (splice cells.toList (off + lo * i.size) A.toList).toArray) := by
              simp [Builtin.copy_, run_underlying (elemT_spec ht), sizeOf, typeInfo, hi, hlenOf, hmin, hA, hstore]
            simp only [execOp, ho, resolve, hc]
            simp [invoke, builtin, ha', hat', hvd, hvs, hcopy]
          obtain ⟨q1, q2⟩ := hM.write (e := .own i.size (splice rows lo (rows2.take k))) hl k1 trivial (grownBy_setRow w b _) (by simp) (fun hK => by
            refine ⟨.inr ⟨b, off, cap, (splice cells.toList (off + lo * i.size) A.toList).toArray, te, fz, k1, by rw [k2, splice_length (by rw [hxl]; omega)], setRow_heap w b cells _ te _ k3, by rw [splice_length (by rw [hxl]; omega)]; exact k4, k5, by rw [List.size_toArray, splice_length hfit]; simpa using k6, k7, fun r hr => ?_, k9, fun pi j r d hr hdd => ?_⟩, hst⟩
            · unfold splice at hr
              rcases List.mem_append.1 hr with hr | hr
              · rcases List.mem_append.1 hr with hr | hr
                · exact k8 r (List.mem_of_mem_take hr)
                · exact hR.2.1 r hr
              · exact k8 r (List.mem_of_mem_drop hr)
            · rw [splice_get (by rw [hxl]; omega), hxl] at hr
              have hget : (splice cells.toList (off + lo * i.size) A.toList).toArray[off + pi * i.size + j]? = if off + lo * i.size ≤ off + pi * i.size + j ∧ off + pi * i.size + j < off + lo * i.size + k * i.size then A.toList[off + pi * i.size + j - (off + lo * i.size)]? else cells[off + pi * i.size + j]? := by
                rw [List.getElem?_toArray, splice_get hfit, hAl]
                simp only [Array.getElem?_toList]
              rw [hget]
              by_cases hpi : lo ≤ pi ∧ pi < lo + k
              · rw [if_pos hpi] at hr
                have hjl : j < i.size := by rw [← hR.2.1 r (List.mem_of_getElem? hr)]; exact (List.getElem?_eq_some_iff.1 hdd).1
                obtain ⟨c, hc, hx⟩ := hR.2.2 (pi - lo) j r d hr hdd
                have e1 : pi * i.size = lo * i.size + (pi - lo) * i.size := by rw [← Nat.add_mul]; congr 1; omega
                have e2 : (pi - lo) * i.size + j < k * i.size := row_in (by omega) hjl
                rw [if_pos (by omega), show off + pi * i.size + j - (off + lo * i.size) = (pi - lo) * i.size + j by omega]
                exact ⟨c, hc, hK.d _ _ hx⟩
              · rw [if_neg hpi] at hr
                have hjl : j < i.size := by rw [← k8 r (List.mem_of_getElem? hr)]; exact (List.getElem?_eq_some_iff.1 hdd).1
                rw [if_neg]
                · obtain ⟨c, hc, hx⟩ := k10 pi j r d hr hdd
                  exact ⟨c, hc, hK.d _ _ hx⟩
                · intro ⟨e1, e2⟩
                  rcases Nat.lt_or_ge pi lo with h | h
                  · have := row_in (n := lo) h hjl
                    omega
                  · have h2 : lo + k ≤ pi := by omega
                    have := Nat.mul_le_mul_right i.size h2
                    rw [Nat.add_mul] at this
                    omega)
          rw [htake]
          exact OpOk.value hd hrun ⟨g, q1, q2, _, rfl, DRel.v rfl⟩
      · cases he
    · cases he
  · cases he

end Go.AM
