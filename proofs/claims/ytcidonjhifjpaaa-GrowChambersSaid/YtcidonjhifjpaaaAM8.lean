/- The abstract machine: operations against the model, one by one: addresses, parts, scalars. -/
import Derived.Test.YtcidonjhifjpaaaAM7
namespace Go.AM
open Go.RowKit

variable {P : Program} {E : Env} {w0 : Base} {w w' : World} {N0 : Nat → Prop} {g g' : Gh} {T T' : Tab} {r : Option Nat} {n : Nat} {o : Oper} {a : Act} {ρ : Operand → AV} {dst : Nat}
  {y : AV} {es : List (Nat × Entry)}

theorem run_fieldPlace {f : Field} {s : Nat} (hs : sizeT P f.type = some s) (h0 : 0 < s) (b off : Nat) (w : World) :
    (fieldPlace ⟨b, off, none⟩ f).run P w = .ok ⟨b, off + f.offset, none⟩ w := by
  have : ¬ s = 0 := by omega
  simp [fieldPlace, run_sizeOf hs, this, addr_add]

theorem ok_faddr (hM : Mem w0 N0 g T w) (hρ : ∀ x, AVRel w (avoid N0 g T) g T (ρ x) (a.eval x)) {t : TypeId} {x : Operand} {k : Nat} {fs : Array Field} {fd : Field} {s : Nat} (ho : o.op = .fieldAddr t x k)
    (hu : P.underlying t = some (.struct fs)) (hf : fs[k]? = some fd) (hs : sizeT P fd.type = some s) (h0 : 0 < s)
    (he : eff P E T ρ dst (.faddr fd.offset x) = some (y, es)) : OpOk r n P o a w (Res w0 N0 g T w y es) := by
  have run : ∀ b off, a.eval x = .pointer (some ⟨b, off, none⟩) → (execOp a.eval o).run P w = .ok (.value (.pointer (some ⟨b, off + fd.offset, none⟩))) w := fun b off hx => by
    simp [execOp, ho, hx, Instr.fieldAt, run_underlying hu, hf, Instr.sureAddr, run_fieldPlace hs h0]
  have hd : ∀ c, o.op ≠ .defer c := fun c h => by rw [ho] at h; cases h
  simp only [eff] at he
  split at he
  · rename_i m off hx
    obtain ⟨h1, b, hb, hv⟩ := oneA_rel (hρ x) hx
    simp only [Option.some.injEq, Prod.mk.injEq] at he
    obtain ⟨rfl, rfl⟩ := he
    exact OpOk.value hd (run b off hv) (Res.same hM ⟨_, rfl, h1, b, hb, rfl⟩)
  · rename_i m i off hx
    obtain ⟨h1, b, o', len, cap, hsv, hv⟩ := oneA_rel (hρ x) hx
    simp only [Option.some.injEq, Prod.mk.injEq] at he
    obtain ⟨rfl, rfl⟩ := he
    exact OpOk.value hd (run b _ hv) (Res.same hM ⟨_, rfl, h1, b, o', len, cap, hsv, by simp [Nat.add_assoc]⟩)
  · rename_i cs off hx
    have hd' := oneA_rel (hρ x) hx
    generalize hv : a.eval x = v at hd'
    change DRel w (avoid N0 g T) (.cref cs off) v at hd'
    simp only [Option.some.injEq, Prod.mk.injEq] at he
    obtain ⟨rfl, rfl⟩ := he
    cases hd' with
    | @cref _ b o' _ f hN hb hc hd' =>
      refine OpOk.value hd (run b _ hv) (Res.same hM ⟨_, rfl, ?_⟩)
      have := DRel.cref (off := off + fd.offset) f hN hb hc hd'
      simpa [CRel, Nat.add_assoc] using this
  · cases he

theorem run_indexAt_slice {t e : TypeId} {s : Nat} (hu : P.underlying t = some (.slice e)) (hs : sizeT P e = some s) {b off len cap : Nat} {k : IntKind} {z : Int} (h0 : 0 ≤ z) (h1 : z < len) (w : World) :
    (Instr.indexAt t (.slice (some ⟨b, off, none⟩) len cap) (.int k z)).run P w = .ok (.pointer (some ⟨b, off + z.toNat * s, none⟩)) w := by
  simp [Instr.indexAt, asIntOf, run_underlying hu, h0, h1, run_sizeOf hs, addr_add]

theorem run_indexAt_array {t e : TypeId} {s len : Nat} (hu : P.underlying t = some (.array len e)) (hs : sizeT P e = some s) {b off : Nat} {k : IntKind} {z : Int} (h0 : 0 ≤ z) (h1 : z < len) (w : World) :
    (Instr.indexAt t (.pointer (some ⟨b, off, none⟩)) (.int k z)).run P w = .ok (.pointer (some ⟨b, off + z.toNat * s, none⟩)) w := by
  simp [Instr.indexAt, asIntOf, run_underlying hu, Instr.sureAddr, h0, h1, run_sizeOf hs, addr_add]

theorem ok_iaddr_slice (hM : Mem w0 N0 g T w) (hρ : ∀ x, AVRel w (avoid N0 g T) g T (ρ x) (a.eval x)) {t e : TypeId} {x i : Operand} {s : Nat} (ho : o.op = .indexAddr t x i)
    (hu : P.underlying t = some (.slice e)) (hs : sizeT P e = some s)
    (he : eff P E T ρ dst (.iaddr s none x i) = some (y, es)) : OpOk r n P o a w (Res w0 N0 g T w y es) := by
  have hd : ∀ c, o.op ≠ .defer c := fun c h => by rw [ho] at h; cases h
  have run : ∀ b off len cap z, intA (ρ i) = some z → a.eval x = .slice (some ⟨b, off, none⟩) len cap → 0 ≤ z → z < (len : Nat) →
      (execOp a.eval o).run P w = .ok (.value (.pointer (some ⟨b, off + z.toNat * s, none⟩))) w := fun b off len cap z hi hx h0 h1 => by
    obtain ⟨k, hk⟩ := intA_rel (hρ i) hi
    simp [execOp, ho, hx, hk, run_indexAt_slice hu hs h0 h1]
  simp only [eff] at he
  split at he
  · rename_i z rows hi hx
    split at he
    · rename_i hlen
      obtain ⟨h0, h1, h2⟩ := hlen
      have hd' := oneA_rel (hρ x) hx
      generalize hv : a.eval x = v at hd'
      change DRel w (avoid N0 g T) (.sl rows) v at hd'
      simp only [Option.some.injEq, Prod.mk.injEq] at he
      obtain ⟨rfl, rfl⟩ := he
      cases hd' with
      | nil => simp at h1; omega
      | @sl _ b off cap sz f hne hN hb hsz hl hcap hc hdd =>
        have hz : z.toNat < rows.length := by omega
        have hrow := rowAt_get hz
        have hsz' : sz = s := by rw [← h2, hl _ (List.mem_of_getElem? hrow)]
        refine OpOk.value hd (run b off _ cap z hi hv h0 h1) (Res.same hM ⟨_, rfl, ?_⟩)
        subst hsz'
        have := DRel.cref (w := w) (N := avoid N0 g T) (cs := rowAt rows z.toNat) (b := b) (o := off + z.toNat * sz) (off := 0) (fun j => f z.toNat j) hN hb (fun j hj => hc z.toNat j hz (by omega)) (fun j d hj => hdd z.toNat j _ d hrow hj)
        simpa [CRel] using this
    · cases he
  · rename_i z m hi hx
    obtain ⟨h1, hv, a', l', c', hsl⟩ := oneA_rel (hρ x) hx
    have key : ∀ rows, ((∃ s, aget T m = some (.own s rows)) ∨ aget T m = some (.imm rows)) →
        (if 0 ≤ z ∧ z < rows.length ∧ (rowAt rows z.toNat).length = s then some (AV.val false [C.eptr m z.toNat 0], ([] : List (Nat × Entry))) else none) = some (y, es) → OpOk r n P o a w (Res w0 N0 g T w y es) := by
      intro rows hm he
      split at he
      · rename_i hlen
        obtain ⟨h0, h1', h2⟩ := hlen
        have hz : z.toNat < rows.length := by omega
        have hne : rows ≠ [] := fun h => by subst h; simp at hz
        obtain ⟨b, off, cap, h3, h4, h5, h6, h7⟩ := hM.rows hm hne
        simp only [Option.some.injEq, Prod.mk.injEq] at he
        obtain ⟨rfl, rfl⟩ := he
        have hst : g.st m = s := by rw [← h2, h6 _ (List.mem_of_getElem? (rowAt_get hz))]
        refine OpOk.value hd (run b off _ cap z hi (hv.trans h3) h0 h1') (Res.same hM ⟨_, rfl, h1, b, off, _, cap, h3, by simp [hst]⟩)
      · cases he
    split at he
    · rename_i s' rows hm; exact key rows (.inl ⟨_, hm⟩) he
    · rename_i rows hm; exact key rows (.inr hm) he
    · cases he
  · cases he

theorem ok_iaddr_array (hM : Mem w0 N0 g T w) (hρ : ∀ x, AVRel w (avoid N0 g T) g T (ρ x) (a.eval x)) {t e : TypeId} {x i : Operand} {s len : Nat} (ho : o.op = .indexAddr t x i)
    (hu : P.underlying t = some (.array len e)) (hs : sizeT P e = some s)
    (he : eff P E T ρ dst (.iaddr s (some len) x i) = some (y, es)) : OpOk r n P o a w (Res w0 N0 g T w y es) := by
  have hd : ∀ c, o.op ≠ .defer c := fun c h => by rw [ho] at h; cases h
  have run : ∀ b off z, intA (ρ i) = some z → a.eval x = .pointer (some ⟨b, off, none⟩) → 0 ≤ z → z < (len : Nat) →
      (execOp a.eval o).run P w = .ok (.value (.pointer (some ⟨b, off + z.toNat * s, none⟩))) w := fun b off z hi hx h0 h1 => by
    obtain ⟨k, hk⟩ := intA_rel (hρ i) hi
    simp [execOp, ho, hx, hk, run_indexAt_array hu hs h0 h1]
  simp only [eff] at he
  split at he
  · rename_i z m off hi hx
    obtain ⟨h1, b, hb, hv⟩ := oneA_rel (hρ x) hx
    split at he
    · rename_i hlen
      simp only [Option.some.injEq, Prod.mk.injEq] at he
      obtain ⟨rfl, rfl⟩ := he
      exact OpOk.value hd (run b off z hi hv hlen.1 hlen.2) (Res.same hM ⟨_, rfl, h1, b, hb, rfl⟩)
    · cases he
  · rename_i z m k off hi hx
    obtain ⟨h1, b, o', len', cap, hsv, hv⟩ := oneA_rel (hρ x) hx
    split at he
    · rename_i hlen
      simp only [Option.some.injEq, Prod.mk.injEq] at he
      obtain ⟨rfl, rfl⟩ := he
      exact OpOk.value hd (run b _ z hi hv hlen.1 hlen.2) (Res.same hM ⟨_, rfl, h1, b, o', len', cap, hsv, by simp [Nat.add_assoc]⟩)
    · cases he
  · rename_i z cs off hi hx
    have hd' := oneA_rel (hρ x) hx
    generalize hv : a.eval x = v at hd'
    change DRel w (avoid N0 g T) (.cref cs off) v at hd'
    split at he
    · rename_i hlen
      simp only [Option.some.injEq, Prod.mk.injEq] at he
      obtain ⟨rfl, rfl⟩ := he
      cases hd' with
      | @cref _ b o' _ f hN hb hc hd' =>
        refine OpOk.value hd (run b _ z hi hv hlen.1 hlen.2) (Res.same hM ⟨_, rfl, ?_⟩)
        have := DRel.cref (off := off + z.toNat * s) f hN hb hc hd'
        simpa [CRel, Nat.add_assoc] using this
    · cases he
  · cases he

theorem aggCs_rel {x : AV} {cs : List C} {v : Value} {N : Nat → Prop} (hx : AVRel w N g T x v) (h : aggCs x = some cs) : VlRel w N g T true cs v := by
  unfold aggCs at h
  split at h
  · simp only [Option.some.injEq] at h; subst h; exact hx
  · cases h

/-- A part of an aggregate. -/
theorem run_part {t : TypeId} {d : TypeDesc} {s off : Nat} (hu : P.underlying t = some d) (hs : sizeT P t = some s) {cs : List C} {xs : Array Value} {N : Nat → Prop} (hv : VlRel w N g T true cs (.agg xs))
    {k : Nat} (hk : k = if isAggD d then s else 1) (hl : off + k ≤ cs.length) (hy : aggA (isAggD d) ((cs.drop off).take k) = some y) :
    ∃ u, (part t xs off).run P w = .ok u w ∧ AVRel w N g T y u := by
  obtain ⟨xs', h1, h2, h3⟩ := hv
  simp only [Value.agg.injEq] at h1
  subst h1
  unfold aggA at hy
  cases hd : isAggD d with
  | true =>
    simp only [hd, if_true, Option.some.injEq] at hy hk
    subst hy; subst hk
    refine ⟨.agg (xs.extract off (off + k)), by simp [part, run_isAgg hu, hd, run_sizeOf hs], _, rfl, by simp; omega, fun i c x hc hx => ?_⟩
    obtain ⟨hi, hc⟩ := getElem?_seg hc
    refine h3 (off + i) c x hc ?_
    rw [Array.getElem?_extract] at hx
    split at hx
    · exact hx
    · cases hx
  | false =>
    simp only [hd, Bool.false_eq_true, if_false] at hy hk
    subst hk
    split at hy
    · rename_i c hds
      simp only [Option.some.injEq] at hy
      subst hy
      have hc : ((cs.drop off).take 1)[0]? = some c := by rw [hds]; rfl
      obtain ⟨_, hc⟩ := getElem?_seg hc
      have hlt : off < xs.size := by omega
      exact ⟨xs[off], by simp [part, run_isAgg hu, hd, hlt], c, rfl, h3 off c _ (by simpa using hc) (by simp [hlt])⟩
    · cases hy

theorem ok_field (hM : Mem w0 N0 g T w) (hρ : ∀ x, AVRel w (avoid N0 g T) g T (ρ x) (a.eval x)) {t : TypeId} {x : Operand} {k : Nat} {fs : Array Field} {fd : Field} {d : TypeDesc} {s q : Nat} (ho : o.op = .field t x k)
    (hu : P.underlying t = some (.struct fs)) (hf : fs[k]? = some fd) (hd : P.underlying fd.type = some d) (hs : sizeT P fd.type = some s) (hq : q = if isAggD d then s else 1)
    (he : eff P E T ρ dst (.field (isAggD d) fd.offset q x) = some (y, es)) : OpOk r n P o a w (Res w0 N0 g T w y es) := by
  simp only [eff] at he
  split at he
  · rename_i cs hx
    have hv := aggCs_rel (hρ x) hx
    obtain ⟨xs, hxs, _⟩ := hv
    have hv := aggCs_rel (hρ x) hx
    rw [hxs] at hv
    split at he
    · rename_i hlen
      cases hy : aggA (isAggD d) ((cs.drop fd.offset).take q) with
      | none => rw [hy] at he; simp at he
      | some z =>
        rw [hy] at he
        simp only [Option.map_some, Option.some.injEq, Prod.mk.injEq] at he
        obtain ⟨rfl, rfl⟩ := he
        obtain ⟨u, h1, h2⟩ := run_part hd hs hv hq hlen hy
        exact OpOk.value (fun c h => by rw [ho] at h; cases h) (v := u) (by simp [execOp, ho, Instr.field, run_underlying hu, hf, hxs, asAgg, h1]) (Res.same hM h2)
    · cases he
  · cases he

theorem ok_index (hM : Mem w0 N0 g T w) (hρ : ∀ x, AVRel w (avoid N0 g T) g T (ρ x) (a.eval x)) {t e : TypeId} {x i : Operand} {len : Nat} {d : TypeDesc} {s q : Nat} (ho : o.op = .index t x i)
    (hu : P.underlying t = some (.array len e)) (hd : P.underlying e = some d) (hs : sizeT P e = some s) (hq : q = if isAggD d then s else 1) (hqs : q = s)
    (he : eff P E T ρ dst (.index (isAggD d) len q x i) = some (y, es)) : OpOk r n P o a w (Res w0 N0 g T w y es) := by
  simp only [eff] at he
  split at he
  · rename_i cs z hx hi
    have hv := aggCs_rel (hρ x) hx
    obtain ⟨xs, hxs, _⟩ := hv
    have hv := aggCs_rel (hρ x) hx
    rw [hxs] at hv
    obtain ⟨k, hk⟩ := intA_rel (hρ i) hi
    split at he
    · rename_i hlen
      obtain ⟨h0, h1, h2⟩ := hlen
      cases hy : aggA (isAggD d) ((cs.drop (z.toNat * q)).take q) with
      | none => rw [hy] at he; simp at he
      | some u =>
        rw [hy] at he
        simp only [Option.map_some, Option.some.injEq, Prod.mk.injEq] at he
        obtain ⟨rfl, rfl⟩ := he
        obtain ⟨u', h3, h4⟩ := run_part hd hs hv hq h2 hy
        rw [hqs] at h3
        exact OpOk.value (fun c h => by rw [ho] at h; cases h) (v := u') (by simp [execOp, ho, Instr.index, asIntOf, run_underlying hu, hk, hxs, h0, h1, run_sizeOf hs, h3]) (Res.same hM h4)
    · cases he
  · cases he

theorem ok_extract (hM : Mem w0 N0 g T w) (hρ : ∀ x, AVRel w (avoid N0 g T) g T (ρ x) (a.eval x)) {x : Operand} {i : Nat} (ho : o.op = .extract x i)
    (he : eff P E T ρ dst (.extract i x) = some (y, es)) : OpOk r n P o a w (Res w0 N0 g T w y es) := by
  simp only [eff] at he
  split at he
  · rename_i l hx
    have h := hρ x
    rw [hx] at h
    obtain ⟨xs, h1, h2, h3⟩ := h
    cases hp : l[i]? with
    | none => rw [hp] at he; simp at he
    | some p =>
      rw [hp] at he
      simp only [Option.map_some, Option.some.injEq, Prod.mk.injEq] at he
      obtain ⟨rfl, rfl⟩ := he
      have hlt : i < xs.size := by rw [← h2]; exact (List.getElem?_eq_some_iff.1 hp).1
      exact OpOk.value (fun c h => by rw [ho] at h; cases h) (v := xs[i]) (by simp [execOp, ho, Instr.extract, h1, hlt]) (Res.same hM (h3 i p _ hp (by simp [hlt])))
  · cases he

theorem capsA_spec {N : Nat → Prop} (hρ : ∀ x, AVRel w N g T (ρ x) (a.eval x)) : ∀ {caps : List Operand} {cs : List Cap}, capsA ρ caps = some cs → cs.length = caps.length ∧
    ∀ (i : Nat) (c : Cap) (x : Value), cs[i]? = some c → (caps.map a.eval)[i]? = some x → CapRel w N g T c x
  | [], cs, h => by simp [capsA] at h; subst h; simp
  | x :: rest, cs, h => by
    simp only [capsA] at h
    split at h
    · rename_i m cs' h1 h2
      simp only [Option.some.injEq] at h
      subst h
      obtain ⟨h3, h4⟩ := capsA_spec hρ h2
      refine ⟨by simp [h3], fun i c u hc hu => ?_⟩
      cases i with
      | zero =>
        simp at hc hu
        subst hc; subst hu
        exact oneA_rel (hρ x) h1
      | succ i => exact h4 i c u (by simpa using hc) (by simpa using hu)
    · rename_i d cs' h1 h2
      simp only [Option.some.injEq] at h
      subst h
      obtain ⟨h3, h4⟩ := capsA_spec hρ h2
      refine ⟨by simp [h3], fun i c u hc hu => ?_⟩
      cases i with
      | zero =>
        simp at hc hu
        subst hc; subst hu
        exact oneA_rel (hρ x) h1
      | succ i => exact h4 i c u (by simpa using hc) (by simpa using hu)
    · cases h

theorem ok_mkfn (hM : Mem w0 N0 g T w) (hρ : ∀ x, AVRel w (avoid N0 g T) g T (ρ x) (a.eval x)) {f : Nat} {first caps : Array Operand} (ho : o.op = .makeFunc (.func f) first caps) (hf : first.size = 0)
    (he : eff P E T ρ dst (.mkfn f caps.toList) = some (y, es)) : OpOk r n P o a w (Res w0 N0 g T w y es) := by
  simp only [eff] at he
  cases hc : capsA ρ caps.toList with
  | none => rw [hc] at he; simp at he
  | some cs =>
    rw [hc] at he
    simp only [Option.map_some, Option.some.injEq, Prod.mk.injEq] at he
    obtain ⟨rfl, rfl⟩ := he
    obtain ⟨h1, h2⟩ := capsA_spec hρ hc
    have hf' : first = #[] := Array.eq_empty_of_size_eq_zero hf
    refine OpOk.value (fun c h => by rw [ho] at h; cases h) (v := .func (.func f) #[] (caps.map a.eval)) (by simp [execOp, ho, Instr.makeFunc, hf']) (Res.same hM ⟨_, rfl, _, rfl, by simp [h1], fun i c x hci hx => h2 i c x hci ?_⟩)
    rw [← Array.getElem?_toList] at hx
    simpa using hx

theorem ok_nilchk (hM : Mem w0 N0 g T w) (hρ : ∀ x, AVRel w (avoid N0 g T) g T (ρ x) (a.eval x)) {x : Operand} (ho : o.op = .nilCheck x)
    (he : eff P E T ρ dst (.nilchk x) = some (y, es)) : OpOk r n P o a w (Res w0 N0 g T w y es) := by
  have hd : ∀ c, o.op ≠ .defer c := fun c h => by rw [ho] at h; cases h
  simp only [eff] at he
  split at he <;> simp only [Option.some.injEq, Prod.mk.injEq, reduceCtorEq] at he
  · rename_i hx
    obtain ⟨rfl, rfl⟩ := he
    obtain ⟨_, b, _, hv⟩ := oneA_rel (hρ x) hx
    exact OpOk.value hd (v := a.eval x) (by simp [execOp, ho, hv]) (Res.same hM (hρ x))
  · rename_i hx
    obtain ⟨rfl, rfl⟩ := he
    obtain ⟨_, b, o', len, cap, _, hv⟩ := oneA_rel (hρ x) hx
    exact OpOk.value hd (v := a.eval x) (by simp [execOp, ho, hv]) (Res.same hM (hρ x))
  · rename_i cs off hx
    obtain ⟨rfl, rfl⟩ := he
    have hd' := oneA_rel (hρ x) hx
    generalize hv : a.eval x = v at hd'
    change DRel w (avoid N0 g T) (.cref cs off) v at hd'
    refine OpOk.value hd (v := a.eval x) ?_ (Res.same hM (hρ x))
    cases hd'
    simp [execOp, ho, hv]
  · rename_i f caps hx
    obtain ⟨rfl, rfl⟩ := he
    obtain ⟨cs, hv, _⟩ := oneA_rel (hρ x) hx
    exact OpOk.value hd (v := a.eval x) (by simp [execOp, ho, hv]) (Res.same hM (hρ x))
  · rename_i f caps hx
    obtain ⟨rfl, rfl⟩ := he
    have hd' := oneA_rel (hρ x) hx
    generalize hv : a.eval x = v at hd'
    change DRel w (avoid N0 g T) (.fn f caps) v at hd'
    refine OpOk.value hd (v := a.eval x) ?_ (Res.same hM (hρ x))
    cases hd'
    simp [execOp, ho, hv]

theorem ok_pure (hM : Mem w0 N0 g T w) (hρ : ∀ x, AVRel w (avoid N0 g T) g T (ρ x) (a.eval x)) (hs : ∀ cs b, o.op ≠ .select cs b) (hd : ∀ c, o.op ≠ .defer c)
    (he : eff P E T ρ dst (.pure o) = some (y, es)) : OpOk r n P o a w (Res w0 N0 g T w y es) := by
  simp only [eff] at he
  split at he
  · rename_i hall
    split at he
    · rename_i v hv
      simp only [Option.some.injEq, Prod.mk.injEq] at he
      obtain ⟨rfl, rfl⟩ := he
      refine OpOk.value hd (v := v) ?_ (Res.same hM (ofVal_rel v))
      rw [execOp_congr (ρ' := fun x => (valO ρ x).getD undef) o hs]
      · exact evalPure_run hv w
      · intro x hx
        have := List.all_eq_true.1 hall x (by simpa using hx)
        obtain ⟨u, hu⟩ := Option.isSome_iff_exists.1 this
        rw [hu]
        unfold valO at hu
        split at hu
        · simp only [Option.some.injEq] at hu; subst hu; rfl
        · exact toVal_rel (hρ _) hu
    · cases he
  · cases he

theorem ok_bin (hM : Mem w0 N0 g T w) (hρ : ∀ x, AVRel w (avoid N0 g T) g T (ρ x) (a.eval x)) {op : BinOp} {t u : TypeId} {p q : Operand} (ho : o.op = .binOp op t p q u)
    (he : eff P E T ρ dst (.bin op t p q) = some (y, es)) : OpOk r n P o a w (Res w0 N0 g T w y es) := by
  simp only [eff] at he
  split at he
  · rename_i x z hx hz
    cases hv : binV P op t p q x z with
    | none => rw [hv] at he; simp at he
    | some v =>
      rw [hv] at he
      simp only [Option.map_some, Option.some.injEq, Prod.mk.injEq] at he
      obtain ⟨rfl, rfl⟩ := he
      have h := evalPure_run (P := P) (a := v) hv w
      refine OpOk.value (fun c h => by rw [ho] at h; cases h) (v := v) ?_ (Res.same hM (ofVal_rel v))
      simp only [execOp, ho, toVal_rel (hρ p) hx, toVal_rel (hρ q) hz, Sem.run_bind]
      simp only [Sem.run_bind] at h
      rw [h]
      rfl
  · cases he

/-- The rows that a slice reads as. -/
theorem rowsA_rel (hM : Mem w0 N0 g T w) {x : AV} {rows : List (List DC)} {v : Value} (hx : AVRel w (avoid N0 g T) g T x v) (h : rowsA T x = some rows) :
    ∃ a cap, v = .slice a rows.length cap ∧ (rows = [] ∨ ∃ b off sz, a = some ⟨b, off, none⟩ ∧ b < w.heap.size ∧ 0 < sz ∧ (∀ r ∈ rows, r.length = sz) ∧
      ∀ (i j : Nat) (r : List DC) (d : DC), rows[i]? = some r → r[j]? = some d → ∃ c, w.cell? ⟨b, off + i * sz + j, none⟩ = some c ∧ DRel w (avoid N0 g T) d c) := by
  unfold rowsA at h
  split at h
  · rename_i rows'
    simp only [Option.some.injEq] at h
    subst h
    obtain ⟨c, h1, h2⟩ := hx
    simp only [List.cons.injEq, and_true] at h1
    subst h1
    change DRel w (avoid N0 g T) (.sl rows') v at h2
    cases h2 with
    | nil => exact ⟨_, _, rfl, .inl rfl⟩
    | @sl _ b off cap sz f hne hN hb hsz hl hcap hc hdd =>
      refine ⟨_, _, rfl, .inr ⟨b, off, sz, rfl, hb, hsz, hl, fun i j r d hr hd => ⟨f i j, hc i j (List.getElem?_eq_some_iff.1 hr).1 ?_, hdd i j r d hr hd⟩⟩⟩
      rw [← hl r (List.mem_of_getElem? hr)]
      exact (List.getElem?_eq_some_iff.1 hd).1
  · simp only [Option.some.injEq] at h
    subst h
    obtain ⟨c, h1, h2⟩ := hx
    simp only [List.cons.injEq, and_true] at h1
    subst h1
    exact ⟨none, 0, h2, .inl rfl⟩
  · rename_i m
    obtain ⟨c, h1, h2⟩ := hx
    simp only [List.cons.injEq, and_true] at h1
    subst h1
    obtain ⟨_, hv, _⟩ := h2
    have key : ∀ rows', ((∃ s, aget T m = some (.own s rows')) ∨ aget T m = some (.imm rows')) → rows' = rows → ∃ a cap, v = .slice a rows.length cap ∧ (rows = [] ∨ ∃ b off sz, a = some ⟨b, off, none⟩ ∧ b < w.heap.size ∧ 0 < sz ∧ (∀ r ∈ rows, r.length = sz) ∧
      ∀ (i j : Nat) (r : List DC) (d : DC), rows[i]? = some r → r[j]? = some d → ∃ c, w.cell? ⟨b, off + i * sz + j, none⟩ = some c ∧ DRel w (avoid N0 g T) d c) := by
      rintro rows' hm rfl
      by_cases hne : rows' = []
      · subst hne
        rw [hv]
        rcases hm with ⟨s, hm⟩ | hm
        · obtain ⟨hs, _⟩ := hM.ents m _ hm
          rcases hs with ⟨h1, _, _⟩ | ⟨b, off, cap, cells, t, fz, _, h2, _⟩
          · exact ⟨none, 0, h1, .inl rfl⟩
          · exact ⟨_, _, h2, .inl rfl⟩
        · obtain ⟨hd, _⟩ := hM.ents m _ hm
          generalize g.sv m = u at hd
          cases hd with
          | nil => exact ⟨_, _, rfl, .inl rfl⟩
          | sl f hne => simp at hne
      · obtain ⟨b, off, cap, h3, h4, h5, h6, h7⟩ := hM.rows hm hne
        exact ⟨_, cap, hv.trans h3, .inr ⟨b, off, g.st m, rfl, h4, h5, h6, h7⟩⟩
    split at h
    · rename_i s' rows' hm
      exact key rows' (.inl ⟨_, hm⟩) (by simpa using h)
    · rename_i rows' hm
      exact key rows' (.inr hm) (by simpa using h)
    · cases h
  · rename_i m lo hi
    obtain ⟨c, h1, h2⟩ := hx
    simp only [List.cons.injEq, and_true] at h1
    subst h1
    obtain ⟨_, hlt, b0, o0, len, cap, cap', hsv, hle, hv⟩ := h2
    have key : ∀ rows', ((∃ s, aget T m = some (.own s rows')) ∨ aget T m = some (.imm rows')) → (rows'.take hi).drop lo = rows → ∃ a cap, v = .slice a rows.length cap ∧ (rows = [] ∨ ∃ b off sz, a = some ⟨b, off, none⟩ ∧ b < w.heap.size ∧ 0 < sz ∧ (∀ r ∈ rows, r.length = sz) ∧
      ∀ (i j : Nat) (r : List DC) (d : DC), rows[i]? = some r → r[j]? = some d → ∃ c, w.cell? ⟨b, off + i * sz + j, none⟩ = some c ∧ DRel w (avoid N0 g T) d c) := by
      rintro rows' hm rfl
      have hlen : len = rows'.length ∨ rows' = [] := by
        by_cases hne : rows' = []
        · exact .inr hne
        · obtain ⟨b, off, cap, h3, _⟩ := hM.rows hm hne
          rw [h3] at hsv
          simp only [Value.slice.injEq] at hsv
          exact .inl hsv.2.1.symm
      have hne : rows' ≠ [] := by
        intro hnil
        subst hnil
        rcases hm with ⟨s, hm⟩ | hm
        · obtain ⟨hs, _⟩ := hM.ents m _ hm
          rcases hs with ⟨h1, _, _⟩ | ⟨b, off, cap, cells, t, fz, _, h2, _⟩
          · rw [h1] at hsv; cases hsv
          · rw [h2] at hsv
            simp only [Value.slice.injEq, List.length_nil] at hsv
            omega
        · obtain ⟨hd, _⟩ := hM.ents m _ hm
          generalize g.sv m = u at hd hsv
          cases hd with
          | nil => simp only [Value.slice.injEq] at hsv; omega
          | sl f hne => simp at hne
      have hlen' : len = rows'.length := hlen.resolve_right hne
      obtain ⟨b, off, cap2, h3, h4, h5, h6, h7⟩ := hM.rows hm hne
      rw [h3] at hsv
      simp only [Value.slice.injEq, Option.some.injEq, Addr.mk.injEq, and_true] at hsv
      obtain ⟨⟨rfl, rfl⟩, _, _⟩ := hsv
      refine ⟨_, cap', by rw [hv]; congr 1; simp; omega, .inr ⟨b, off + lo * g.st m, g.st m, rfl, h4, h5, fun r hr => h6 r (List.mem_of_mem_take (List.mem_of_mem_drop hr)), fun i j r d hr hd => ?_⟩⟩
      rw [List.getElem?_drop] at hr
      obtain ⟨c, hc, hx⟩ := h7 (lo + i) j r d (by rw [List.getElem?_take] at hr; split at hr; exact hr; cases hr) hd
      rw [Nat.add_mul, ← Nat.add_assoc] at hc
      exact ⟨c, hc, hx⟩
    split at h
    · rename_i s' rows' hm
      exact key rows' (.inl ⟨_, hm⟩) (by simpa using h)
    · rename_i rows' hm
      exact key rows' (.inr hm) (by simpa using h)
    · cases h
  · cases h

theorem ok_len (hM : Mem w0 N0 g T w) (hρ : ∀ x, AVRel w (avoid N0 g T) g T (ρ x) (a.eval x)) {c : Call} {x : Operand} {t : TypeId} {d : TypeId} (ho : o.op = .call c) (hc : c.callee = .builtin .len) (ha : c.args.toList = [x])
    (ht : c.argTypes[0]? = some t) (hu : P.underlying t = some (.slice d))
    (he : eff P E T ρ dst (.len x) = some (y, es)) : OpOk r n P o a w (Res w0 N0 g T w y es) := by
  simp only [eff] at he
  cases hr : rowsA T (ρ x) with
  | none => rw [hr] at he; simp at he
  | some rows =>
    rw [hr] at he
    simp only [Option.map_some, Option.some.injEq, Prod.mk.injEq] at he
    obtain ⟨rfl, rfl⟩ := he
    obtain ⟨ad, cap, hv, _⟩ := rowsA_rel hM (hρ x) hr
    have ha' : c.args = #[x] := by rw [← Array.toArray_toList (xs := c.args), ha]
    exact OpOk.value (fun c h => by rw [ho] at h; cases h) (v := .int .i64 rows.length)
      (by simp [execOp, ho, resolve, hc, invoke, builtin, ha', hv, Builtin.len_, ht, run_underlying hu, goInt]) (Res.same hM ⟨_, rfl, DRel.v rfl⟩)

end Go.AM
