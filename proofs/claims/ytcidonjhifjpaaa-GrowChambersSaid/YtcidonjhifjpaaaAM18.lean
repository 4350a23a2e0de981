/- The abstract machine: every operation. -/
import Derived.Test.YtcidonjhifjpaaaAM17
import Derived.Lib.ConvBytes
import Derived.RangeFuncFrom
import Derived.RangeFuncLeaves
namespace Go.AM
open Go.RowKit

variable {P : Program} {E : Env} {w0 : Base} {w w' : World} {N0 : Nat → Prop} {g g' : Gh} {T T' : Tab} {r : Option Nat} {n : Nat} {o : Oper} {a : Act} {ρ : Operand → AV} {dst : Nat}
  {y : AV} {es : List (Nat × Entry)}

/-- The program's functions have bodies, as the environment takes them. -/
def Bodied (P : Program) (f : FuncId) : Prop := ∃ fn, P.funcs[f]? = some fn ∧ fn.body.isSome = true ∧ (fn.name == "runtime.NumGoroutine") = false

theorem ok_bytes (hM : Mem w0 N0 g T w) (hρ : ∀ x, AVRel w (avoid N0 g T) g T (ρ x) (a.eval x)) {src d e : TypeId} {x : Operand} (ho : o.op = .convert src d x) (hs : P.underlying src = some .string)
    (hd : P.underlying d = some (.slice e)) (he' : P.underlying e = some (.int .u8)) (he : eff P E T ρ dst (.bytes x) = some (y, es)) : OpOk r n P o a w (Res w0 N0 g T w y es) := by
  simp only [eff] at he
  split at he
  · rename_i s hx
    split at he
    · rename_i hc
      simp only [Option.some.injEq, Prod.mk.injEq] at he
      obtain ⟨rfl, rfl⟩ := he
      have hv := toVal_rel (hρ x) hx
      have hn : aget T dst = none := by simpa using hc.2
      have hcap := grownCap_ge w s.size 0 e
      have hmax := grownCap_le_maxLen w s.size 0 e (by unfold maxLen; exact hc.1)
      have hnew := Lib.bytesWorld_at_new w e s
      have hsz : (Lib.bytesCells w e s).size = grownCap w s.size 0 e := by
        simp only [Lib.bytesCells, Array.size_append, Array.size_map, Array.size_replicate]
        change s.size + _ = _
        omega
      have hext : Below w.heap.size w (Lib.bytesWorld w e s) := ⟨rfl, rfl, rfl, by rw [Lib.bytesWorld_size]; omega, fun k hk => Lib.bytesWorld_at_old w e s k hk⟩
      have hrun := Lib.run_convert_string_bytes (P := P) w src d e s hs hd he'
      refine OpOk.value (fun c h => by rw [ho] at h; cases h) (v := .slice (some ⟨w.heap.size, 0, none⟩) s.size (grownCap w s.size 0 e)) (w' := Lib.bytesWorld w e s) (by simp [execOp, ho, hv, hrun]) ?_
      have hlen : (s.data.toList.map fun b => [DC.v (.int .u8 b.toNat)]).length = s.size := by simp
      obtain ⟨h1, h2⟩ := hM.create (w' := Lib.bytesWorld w e s) (e := .own 1 (s.data.toList.map fun b => [.v (.int .u8 b.toNat)])) (ob := some w.heap.size) (sv := .slice (some ⟨w.heap.size, 0, none⟩) s.size (grownCap w s.size 0 e)) (s := 1) hn hext
        (fun b hb => by simp at hb; subst hb; rw [Lib.bytesWorld_size]; omega) (fun hK => ⟨.inr ⟨w.heap.size, 0, grownCap w s.size 0 e, Lib.bytesCells w e s, e, _, by simp [Gh.set], by rw [hlen]; simp [Gh.set], hnew, by rw [hlen]; exact hcap, hmax, by omega,
          fun j _ hj => by simp; omega, fun r hr => by
            obtain ⟨b, _, rfl⟩ := List.mem_map.1 hr
            rfl, by omega, fun i j r d hr hdd => by
            rw [List.getElem?_map] at hr
            cases hq : s.data.toList[i]? with
            | none => rw [hq] at hr; cases hr
            | some b =>
              rw [hq] at hr
              simp only [Option.map_some, Option.some.injEq] at hr
              subst hr
              cases j with
              | succ j => simp at hdd
              | zero =>
                simp only [List.getElem?_cons_zero, Option.some.injEq] at hdd
                subst hdd
                refine ⟨.int .u8 b.toNat, ?_, .v rfl⟩
                have hi : i < s.data.size := by simpa using (List.getElem?_eq_some_iff.1 hq).1
                have hb : s.data[i]? = some b := by simpa using hq
                simp only [Lib.bytesCells, Nat.zero_add, Nat.mul_one, Nat.add_zero]
                rw [Array.getElem?_append_left (by simpa using hi), Array.getElem?_map, hb]
                rfl⟩, by simp [Gh.set]⟩)
      exact ⟨_, h1, h2, _, rfl, by rw [show aputs T [(dst, _)] = aput T dst _ from rfl, aget_aput_same]; rfl, by simp [Gh.set], _, _, _, rfl⟩
    · cases he
  · cases he

/-- What lies below B, and is not N's, lies as it lay. -/
def Kept (B : Nat) (N : Nat → Prop) (w w' : World) : Prop := w.heap.size ≤ w'.heap.size ∧ ∀ b, b < B → ¬ N b → w'.heap[b]? = w.heap[b]?

/-- A function over which a loop ranges: it hands these rows to the loop's body, in this order, until the body leaves the loop. -/
def IterOk (P : Program) (f : FuncId) (caps : List DC) (xs : List (List Value)) : Prop :=
  (∀ x ∈ xs, ∀ v ∈ x, plain v = true) ∧
  ∀ (w : World) (N : Nat → Prop) (lb : Array Value) (l : Nat) (J : Nat → World → Prop) (Jx : World → Prop) (n : Nat), (∀ b, N b → b < w.heap.size) → caps.length = lb.size →
    (∀ (i : Nat) (d : DC) (v : Value), caps[i]? = some d → lb[i]? = some v → DRel w N d v) →
    (∀ i W W', J i W → Below W.heap.size W W' → J i W') → (∀ W W', Jx W → Below W.heap.size W W' → Jx W') →
    (∀ i x W1, xs[i]? = some x → J i W1 → YieldAt (Fw none) n P l x.toArray W1 fun e W' => Kept w.heap.size N W1 W' ∧ ((e = .returned (.bool true) ∧ J (i + 1) W') ∨ (e = .returned (.bool false) ∧ Jx W'))) →
    J 0 w → Calls P f (#[.func (.yield l) #[] #[]] ++ lb) w fun e W' => (∃ v, e = .returned v) ∧ (J xs.length W' ∨ Jx W')

/-- What the environment says of calls is so. -/
structure EnvOk (P : Program) (E : Env) : Prop where
  call : ∀ f ds res, E f ds = some res → Contract P f ds res ∧ Bodied P f
  seq : ∀ f caps xs, E.seq f caps = some xs → IterOk P f caps xs ∧ Bodied P f

theorem ok_enter (hM : Mem w0 N0 g T w) (hd : ∀ c, o.op ≠ .defer c) {f : FuncId} {vs : Array Value} {ds : List DV} {res : List RV} {names : List Nat} (hrun : (execOp a.eval o).run P w = .ok (.enter f vs) w)
    (hC : Contract P f ds res) (hargs : ArgsRel w (butFor N0 g T names) ds vs) (hout : callOut dst T names res = some (y, es)) : OpOk r n P o a w (Res w0 N0 g T w y es) :=
  OpOk.enter hd hrun ((hC w vs (butFor N0 g T names) (fun _ hb => avoid_lt hM (butFor_sub hb)) hargs).mono fun _ _ ⟨v, he, hext, hres⟩ => ⟨v, he, callOut_ok hM hext hres hout⟩)

theorem run_callFunc {f : FuncId} {fn : Func} (hf : P.funcs[f]? = some fn) (hb : fn.body.isSome = true) (hn : (fn.name == "runtime.NumGoroutine") = false) (args : Array Value) (w : World) :
    (callFunc f args).run P w = .ok (.enter f args) w := by
  have h1 : ¬ fn.name = "runtime.NumGoroutine" := by simpa using hn
  have h2 : ¬ fn.body = none := by cases hq : fn.body <;> simp_all
  simp [callFunc, hf, h1, h2]

theorem ok_call (hE : EnvOk P E) (hM : Mem w0 N0 g T w) (hρ : ∀ x, AVRel w (avoid N0 g T) g T (ρ x) (a.eval x)) {c : Call} {f : FuncId} {fn : Func} (ho : o.op = .call c) (hc : c.callee = .value (.func f)) (hf : P.funcs[f]? = some fn)
    (hb : fn.body.isSome = true) (hn : (fn.name == "runtime.NumGoroutine") = false) (he : eff P E T ρ dst (.call f c.args.toList) = some (y, es)) : OpOk r n P o a w (Res w0 N0 g T w y es) := by
  have hd : ∀ c, o.op ≠ .defer c := fun c h => by rw [ho] at h; cases h
  simp only [eff] at he
  split at he
  · rename_i ds hds
    split at he
    · rename_i res hres
      obtain ⟨h1, h2⟩ := argsA_ok hM hρ (names := c.args.toList.flatMap fun x => namesA T (ρ x)) hds (fun m hm => hm)
      refine ok_enter hM hd (f := f) (vs := c.args.map a.eval) ?_ (hE.call f ds res hres).1 ⟨by simp [h1], fun i d v hdi hv => h2 i d v hdi (by rw [← Array.getElem?_toList] at hv; simpa using hv)⟩ he
      have hev : a.eval (.func f) = .func (.func f) #[] #[] := rfl
      simp only [execOp, ho, resolve, hc, hev]
      simp [Deferred.ofValue, invoke, run_callFunc hf hb hn]
    · cases he
  · cases he

theorem ok_calld (hE : EnvOk P E) (hM : Mem w0 N0 g T w) (hρ : ∀ x, AVRel w (avoid N0 g T) g T (ρ x) (a.eval x)) {c : Call} {x : Operand} (ho : o.op = .call c) (hc : c.callee = .value x)
    (he : eff P E T ρ dst (.calld x c.args.toList) = some (y, es)) : OpOk r n P o a w (Res w0 N0 g T w y es) := by
  have hd : ∀ c, o.op ≠ .defer c := fun c h => by rw [ho] at h; cases h
  simp only [eff] at he
  split at he
  · rename_i k ds hk hds
    split at he
    · rename_i f caps hcd
      split at he
      · rename_i res hres
        obtain ⟨h1, h2⟩ := argsA_ok hM hρ (names := namesC T 4 k ++ c.args.toList.flatMap fun x => namesA T (ρ x)) hds (fun m hm => List.mem_append_right _ hm)
        have h3 := toDC_ok hM (names := namesC T 4 k ++ c.args.toList.flatMap fun x => namesA T (ρ x)) 4 (oneA_rel (hρ x) hk) hcd (fun m hm => List.mem_append_left _ hm)
        generalize hv : a.eval x = v at h3
        cases h3 with
        | @fn _ _ cs hl hdd =>
          obtain ⟨hC, fn, hf, hb, hn⟩ := hE.call f _ _ hres
          refine ok_enter hM hd (f := f) (vs := c.args.map a.eval ++ cs) ?_ hC ⟨by simp [h1, hl], fun i d v hdi hvi => ?_⟩ he
          · simp only [execOp, ho, resolve, hc, hv]
            simp [Deferred.ofValue, invoke, run_callFunc hf hb hn]
          · rw [← Array.getElem?_toList, Array.toList_append, Array.toList_map] at hvi
            rw [List.getElem?_append] at hdi hvi
            simp only [List.length_map] at hvi
            rw [← h1] at hvi
            split at hdi
            · rename_i hi
              rw [if_pos hi] at hvi
              exact h2 i d v hdi hvi
            · rename_i hi
              rw [if_neg hi] at hvi
              rw [List.getElem?_map] at hdi
              cases hq : caps[i - ds.length]? with
              | none => rw [hq] at hdi; cases hdi
              | some d' =>
                rw [hq] at hdi
                simp only [Option.map_some, Option.some.injEq] at hdi
                subst hdi
                exact ⟨d', rfl, hdd _ d' v hq (by simpa using hvi)⟩
      · cases he
    · cases he
  · cases he

theorem compileOp_plain {ao : AOp} (h : compileOp P o = some ao) : (∀ c, o.op ≠ .defer c) ∧ ∀ cs b, o.op ≠ .select cs b := by
  unfold compileOp at h
  constructor
  · intro c hc; rw [hc] at h; cases h
  · intro cs b hc; rw [hc] at h; cases h

theorem compileCall_ok (hE : EnvOk P E) (hM : Mem w0 N0 g T w) (hρ : ∀ x, AVRel w (avoid N0 g T) g T (ρ x) (a.eval x)) {c : Call} {ao : AOp} (ho : o.op = .call c) (hc : compileCall P o c = some ao)
    (he : eff P E T ρ dst ao = some (y, es)) : OpOk r n P o a w (Res w0 N0 g T w y es) := by
  have hpure : eff P E T ρ dst (.pure o) = some (y, es) → OpOk r n P o a w (Res w0 N0 g T w y es) := fun he =>
    ok_pure hM hρ (fun cs b h => by rw [ho] at h; cases h) (fun c h => by rw [ho] at h; cases h) he
  unfold compileCall at hc
  split at hc
  · rename_i f hcal
    split at hc
    · rename_i fn hf
      split at hc
      · rename_i hcond
        simp only [Option.some.injEq] at hc
        subst hc
        exact ok_call hE hM hρ ho hcal hf hcond.1 hcond.2 he
      · simp only [Option.some.injEq] at hc
        subst hc
        exact hpure he
    · cases hc
  · rename_i x _ hcal
    simp only [Option.some.injEq] at hc
    subst hc
    exact ok_calld hE hM hρ ho hcal he
  · rename_i hcal
    split at hc
    · rename_i x t ha ht
      split at hc
      · rename_i e hu
        simp only [Option.some.injEq] at hc
        subst hc
        exact ok_len hM hρ ho hcal ha ht hu he
      · simp only [Option.some.injEq] at hc
        subst hc
        exact hpure he
      · simp only [Option.some.injEq] at hc
        subst hc
        exact hpure he
      · cases hc
    · cases hc
  · rename_i hcal
    split at hc
    · rename_i p q t u ha hat
      split at hc
      · rename_i e ht
        split at hc
        · rename_i i hi
          split at hc
          · rename_i h0
            simp only [Option.some.injEq] at hc
            subst hc
            exact ok_copy hM hρ ho hcal ha hat ht hi h0 he
          · cases hc
        · cases hc
      · cases hc
    · cases hc
  · rename_i hcal
    split at hc
    · rename_i p q t u ha hat
      split at hc
      · rename_i e e' ht hu
        split at hc
        · rename_i i z hi hz
          split at hc
          · rename_i hcond
            obtain ⟨rfl, hzs, h0⟩ := hcond
            simp only [Option.some.injEq] at hc
            subst hc
            exact ok_append hM hρ ho hcal ha hat ht hu hi hz hzs h0 he
          · cases hc
        · cases hc
      · cases hc
    · cases hc
  all_goals first
    | (simp only [Option.some.injEq] at hc; subst hc; exact hpure he)
    | cases hc

theorem eff_ok (hE : EnvOk P E) (hM : Mem w0 N0 g T w) (hρ : ∀ x, AVRel w (avoid N0 g T) g T (ρ x) (a.eval x)) {ao : AOp} (hc : compileOp P o = some ao)
    (he : eff P E T ρ dst ao = some (y, es)) : OpOk r n P o a w (Res w0 N0 g T w y es) := by
  have hpl := compileOp_plain hc
  unfold compileOp at hc
  split at hc
  · rename_i x ho; simp only [Option.some.injEq] at hc; subst hc; exact ok_mv hM hρ (.inl ho) he
  · rename_i x ho; simp only [Option.some.injEq] at hc; subst hc; exact ok_mv hM hρ (.inr ho) he
  · rename_i c p q ho; simp only [Option.some.injEq] at hc; subst hc; exact ok_pick hM hρ ho he
  · rename_i e ho
    cases hz : zeroC P e with
    | none => rw [hz] at hc; cases hc
    | some cs => rw [hz] at hc; simp only [Option.map_some, Option.some.injEq] at hc; subst hc; exact ok_alloc hM ho hz he
  · rename_i t x ho; simp only [Option.some.injEq] at hc; subst hc; exact ok_box hM hρ ho he
  · rename_i t parts ho
    split at hc
    · rename_i fs z hu hz
      cases hp : fieldsT P fs.toList with
      | none => rw [hp] at hc; cases hc
      | some places =>
        rw [hp] at hc
        simp only [Option.bind_some] at hc
        cases hps : (parts.toList.mapM fun p => (places[p.1]?).map fun q => (q.1, q.2, p.2)) with
        | none => rw [hps] at hc; cases hc
        | some ps => rw [hps] at hc; simp only [Option.map_some, Option.some.injEq] at hc; subst hc; exact ok_build_struct hM hρ ho hu hz hp hps he
    · rename_i len e z hu hz
      cases hs : sizeT P e with
      | none => rw [hs] at hc; cases hc
      | some s => rw [hs] at hc; simp only [Option.map_some, Option.some.injEq] at hc; subst hc; exact ok_build_array hM hρ ho hu hz hs he
    · cases hc
  · rename_i t len parts ho
    split at hc
    · rename_i e hu
      split at hc
      · rename_i s z hs hz
        split at hc
        · rename_i hcond
          obtain ⟨h1, h2, h3⟩ := hcond
          simp only [Option.some.injEq] at hc; subst hc
          exact ok_bslice hM hρ ho hu hs hz h1 h2 h3 he
        · cases hc
      · cases hc
    · cases hc
  · rename_i t x ho
    split at hc
    · rename_i d s hu hs
      split at hc
      · rename_i hd
        simp only [Option.some.injEq] at hc; subst hc
        exact ok_load hM hρ ho hu hs (k := s) (by simp [hd]) (by rw [hd]; exact he)
      · rename_i hd
        simp only [Option.some.injEq] at hc; subst hc
        have hd' : isAggD d = false := by simpa using hd
        exact ok_load hM hρ ho hu hs (k := 1) (by simp [hd']) (by rw [hd']; exact he)
    · cases hc
  · rename_i t x z ho
    cases hs : sizeT P t with
    | none => rw [hs] at hc; cases hc
    | some s => rw [hs] at hc; simp only [Option.map_some, Option.some.injEq] at hc; subst hc; exact ok_store hM hρ ho hs he
  · rename_i x ho; simp only [Option.some.injEq] at hc; subst hc; exact ok_nilchk hM hρ ho he
  · rename_i t x f ho
    split at hc
    · rename_i fs hu
      split at hc
      · rename_i fd hf
        split at hc
        · rename_i s hs
          split at hc
          · rename_i h0
            simp only [Option.some.injEq] at hc; subst hc
            exact ok_faddr hM hρ ho hu hf hs h0 he
          · cases hc
        · cases hc
      · cases hc
    · cases hc
  · rename_i t x i ho
    split at hc
    · rename_i e hu
      cases hs : sizeT P e with
      | none => rw [hs] at hc; cases hc
      | some s => rw [hs] at hc; simp only [Option.map_some, Option.some.injEq] at hc; subst hc; exact ok_iaddr_slice hM hρ ho hu hs he
    · rename_i len e hu
      cases hs : sizeT P e with
      | none => rw [hs] at hc; cases hc
      | some s => rw [hs] at hc; simp only [Option.map_some, Option.some.injEq] at hc; subst hc; exact ok_iaddr_array hM hρ ho hu hs he
    · cases hc
  · rename_i t x f ho
    split at hc
    · rename_i fs hu
      split at hc
      · rename_i fd hf
        split at hc
        · rename_i d s hd hs
          split at hc
          · rename_i hdd
            simp only [Option.some.injEq] at hc; subst hc
            exact ok_field hM hρ ho hu hf hd hs (q := s) (by simp [hdd]) (by rw [hdd]; exact he)
          · rename_i hdd
            simp only [Option.some.injEq] at hc; subst hc
            have hd' : isAggD d = false := by simpa using hdd
            exact ok_field hM hρ ho hu hf hd hs (q := 1) (by simp [hd']) (by rw [hd']; exact he)
        · cases hc
      · cases hc
    · cases hc
  · rename_i t x i ho
    split at hc
    · rename_i len e hu
      split at hc
      · rename_i d s hd hs
        split at hc
        · rename_i hdd
          simp only [Option.some.injEq] at hc; subst hc
          exact ok_index hM hρ ho hu hd hs (q := s) (by simp [hdd]) rfl (by rw [hdd]; exact he)
        · rename_i hdd
          split at hc
          · rename_i hs1
            simp only [Option.some.injEq] at hc; subst hc
            have hd' : isAggD d = false := by simpa using hdd
            exact ok_index hM hρ ho hu hd hs (q := 1) (by simp [hd']) hs1.symm (by rw [hd']; exact he)
          · cases hc
      · cases hc
    · simp only [Option.some.injEq] at hc; subst hc; exact ok_pure hM hρ hpl.2 hpl.1 he
    · cases hc
  · rename_i t x lo hi ho
    split at hc
    · rename_i e hu
      cases hs : sizeT P e with
      | none => rw [hs] at hc; cases hc
      | some s => rw [hs] at hc; simp only [Option.map_some, Option.some.injEq] at hc; subst hc; exact ok_slice hM hρ ho hu hs he
    · simp only [Option.some.injEq] at hc; subst hc; exact ok_pure hM hρ hpl.2 hpl.1 he
    · cases hc
  · rename_i x i ho; simp only [Option.some.injEq] at hc; subst hc; exact ok_extract hM hρ ho he
  · rename_i f first caps ho
    split at hc
    · rename_i h0
      simp only [Option.some.injEq] at hc; subst hc
      exact ok_mkfn hM hρ ho h0 he
    · cases hc
  · rename_i t l c ho
    split at hc
    · rename_i e hu
      split at hc
      · rename_i i z hi hz
        split at hc
        · rename_i hcond
          simp only [Option.some.injEq] at hc; subst hc
          exact ok_mkslice hM hρ ho hu hi hz hcond.1 hcond.2 he
        · cases hc
      · cases hc
    · cases hc
  · rename_i op t x z u ho
    split at hc
    · cases hc
    · cases hc
    · cases hc
    · simp only [Option.some.injEq] at hc; subst hc; exact ok_bin hM hρ ho he
  · simp only [Option.some.injEq] at hc; subst hc; exact ok_pure hM hρ hpl.2 hpl.1 he
  · rename_i src d x ho
    split at hc
    · rename_i e h1 h2
      split at hc
      · rename_i h3
        simp only [Option.some.injEq] at hc; subst hc
        exact ok_bytes hM hρ ho h1 h2 (isU8_spec h3) he
      · cases hc
    · simp only [Option.some.injEq] at hc; subst hc; exact ok_pure hM hρ hpl.2 hpl.1 he
  · rename_i c ho; exact compileCall_ok hE hM hρ ho hc he
  · cases hc

end Go.AM
