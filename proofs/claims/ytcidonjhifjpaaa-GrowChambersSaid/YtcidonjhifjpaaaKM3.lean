/- Runs in continuation form: operations, and their rest. -/
import Derived.Test.YtcidonjhifjpaaaKM2
namespace Go.AM
variable {α β : Type} {P : Program}

/-- Float to whole number, float to float. -/
def f2i (s : FloatKind) (b : Nat) (k : IntKind) : Option Int := match (s.decode b).toInt .zero with
  | some n => if k.min ≤ n ∧ n ≤ k.max then some n else none
  | none => none
def f2f (s : FloatKind) (b : Nat) (k : FloatKind) : Option Nat := if s = k then some b else match s.decode b with
  | .nan _ _ => none
  | .infinity sg => some (k.encode (.infinity sg))
  | .number sg m e => if (k.decode (k.encode (.number sg m e))).isInfinity then none else some (k.encode (.number sg m e))

def strBounds (ρ : Operand → AV) (s : ByteArray) (lo hi : Option Operand) (k : Nat → Nat → Option α) : Option α :=
  match boundA ρ 0 lo, boundA ρ s.size hi with
  | some l, some h => gK (decide (0 ≤ l ∧ l ≤ h ∧ h ≤ s.size)) (k l.toNat h.toNat)
  | _, _ => none

def dfltK (P : Program) (E : Env) (T : Tab) (ρ : Operand → AV) (dst : Nat) (ao : AOp) (k : AV → List (Nat × Entry) → Option α) : Option α :=
  match eff P E T ρ dst ao with
  | some p => k p.1 p.2
  | none => none

def pureK (P : Program) (E : Env) (T : Tab) (ρ : Operand → AV) (dst : Nat) (o : Oper) (k : AV → List (Nat × Entry) → Option α) : Option α :=
  match o.op with
  | .index t x i => match P.underlying t, valO ρ x, valO ρ i with
    | some .string, some (.string s), some (.int _ z) => sixK s z fun b => k (.val false [.d (.v (.int .u8 b.toNat))]) []
    | _, _, _ => dfltK P E T ρ dst (.pure o) k
  | .slice t x lo hi none => match P.underlying t, valO ρ x with
    | some .string, some (.string s) => strBounds (fun y => match valO ρ y with | some v => .val false [.d (.v v)] | none => .val false [.unk]) s lo hi fun l h => k (.val false [.d (.v (.string (s.extract l h)))]) []
    | _, _ => dfltK P E T ρ dst (.pure o) k
  | .convert src d x => match P.underlying src, P.underlying d, valO ρ x with
    | some _, some (.int kk), some (.float s b) => ivK (f2i s b kk) fun n => k (.val false [.d (.v (.int kk n))]) []
    | some _, some (.float kk), some (.float s b) => flK (f2f s b kk) fun n => k (.val false [.d (.v (.float kk n))]) []
    | _, _, _ => dfltK P E T ρ dst (.pure o) k
  | _ => dfltK P E T ρ dst (.pure o) k

theorem dfltK_some {E : Env} {T : Tab} {ρ : Operand → AV} {dst : Nat} {ao : AOp} {k : AV → List (Nat × Entry) → Option α} {a : α} (h : dfltK P E T ρ dst ao k = some a) : ∃ y es, eff P E T ρ dst ao = some (y, es) ∧ k y es = some a := by
  unfold dfltK at h
  split at h
  · rename_i p hp; exact ⟨p.1, p.2, hp, h⟩
  · cases h

theorem dfltK_bind {E : Env} {T : Tab} {ρ : Operand → AV} {dst : Nat} {ao : AOp} {k : AV → List (Nat × Entry) → Option α} {g : α → Option β} : (dfltK P E T ρ dst ao k).bind g = dfltK P E T ρ dst ao fun y es => (k y es).bind g := by
  unfold dfltK; split <;> rfl

theorem eff_pure_of {E : Env} {T : Tab} {ρ : Operand → AV} {dst : Nat} {o : Oper} {v : Value} (hall : (o.op.operands.toList.all fun x => (valO ρ x).isSome) = true) (h : evalPure P (execOp (fun x => (valO ρ x).getD undef) o) = some (.value v)) :
    eff P E T ρ dst (.pure o) = some (ofVal v, []) := by
  simp only [eff, hall, h]

theorem evalPure_bound {lo : Option Operand} {ρ : Operand → AV} {dflt : Int} {n m : Nat} {c : BoundsCode} {z : Int} (h : boundA (fun y => match valO ρ y with | some v => .val false [.d (.v v)] | none => .val false [.unk]) dflt lo = some z) (hz : 0 ≤ z ∧ z ≤ n)
    (hd : lo = none → m = z.toNat) : evalPure P (match lo.map (fun x => (valO ρ x).getD undef) with | some v => Instr.sliceBound v n c | none => pure m) = some z.toNat := by
  cases lo with
  | none => rw [← hd rfl]; rfl
  | some x =>
    simp only [boundA] at h
    cases hv : valO ρ x with
    | none => simp [hv, intA] at h
    | some v =>
      simp only [hv] at h
      cases v <;> simp [intA] at h
      subst h
      simp only [Option.map, hv, Option.getD, Instr.sliceBound, asIntOf, bind, Sem.bind, pure, evalPure]
      rw [if_pos hz]; rfl

theorem pureK_some {E : Env} {T : Tab} {ρ : Operand → AV} {dst : Nat} {o : Oper} {k : AV → List (Nat × Entry) → Option α} {a : α} (h : pureK P E T ρ dst o k = some a) : ∃ y es, eff P E T ρ dst (.pure o) = some (y, es) ∧ k y es = some a := by
  unfold pureK at h
  split at h
  · rename_i t x i ho
    split at h
    · rename_i s kk z h1 h2 h3
      obtain ⟨b, hb, hk⟩ := sixK_some h
      refine ⟨_, _, eff_pure_of (v := .int .u8 b.toNat) ?_ ?_, hk⟩
      · simp [ho, Op.operands, h2, h3]
      · simp only [execOp, ho, h2, h3, Option.getD, bind, Sem.bind, pure, Instr.index, asIntOf]
        rw [evalPure_bind (y := (Value.int .u8 b.toNat))]
        · rfl
        · rw [evalPure_bind (evalPure_underlying h1)]
          simp only [hb]
          rfl
    · exact dfltK_some h
  · rename_i t x lo hi ho
    split at h
    · rename_i s h1 h2
      unfold strBounds at h
      split at h
      · rename_i l hh hl hhi
        obtain ⟨h3, hk⟩ := gK_some h
        have h3 := of_decide_eq_true h3
        have hall : ∀ (y : Option Operand) (d z : Int), boundA (fun y => match valO ρ y with | some v => .val false [.d (.v v)] | none => .val false [.unk]) d y = some z → ∀ x ∈ y, (valO ρ x).isSome = true := by
          intro y d z hb x hx
          cases y with
          | none => cases hx
          | some y =>
            simp only [Option.mem_def, Option.some.injEq] at hx
            subst hx
            simp only [boundA] at hb
            cases hv : valO ρ y with
            | none => simp [hv, intA] at hb
            | some v => rfl
        refine ⟨_, _, eff_pure_of (v := .string (s.extract l.toNat hh.toNat)) ?_ ?_, hk⟩
        · have e1 := hall lo _ _ hl
          have e2 := hall hi _ _ hhi
          cases lo <;> cases hi <;> simp_all [ho, Op.operands]
        · have hb1 : evalPure P (match (hi.map fun x => (valO ρ x).getD undef), (none : Option Value) with
              | some v, some _ => Instr.sliceBound v s.size .slice3B
              | some v, none => Instr.sliceBound v s.size .sliceAlen
              | none, none => pure s.size
              | none, some _ => stuck "Slice: max without high") = some hh.toNat := by
            have := evalPure_bound (n := s.size) (m := s.size) (c := .sliceAlen) (P := P) hhi ⟨by omega, h3.2.2⟩ (by rintro rfl; simp only [boundA, Option.some.injEq] at hhi; omega)
            cases hi <;> exact this
          have hb2 : evalPure P (match (lo.map fun x => (valO ρ x).getD undef) with | some v => Instr.sliceBound v hh.toNat .sliceB | none => pure 0) = some l.toNat :=
            evalPure_bound hl ⟨h3.1, by omega⟩ (by rintro rfl; simp only [boundA, Option.some.injEq] at hl; omega)
          have hsb : evalPure P (Instr.sliceBounds false s.size s.size (lo.map fun x => (valO ρ x).getD undef) (hi.map fun x => (valO ρ x).getD undef) none) = some (l.toNat, hh.toNat, s.size) := by
            unfold Instr.sliceBounds
            simp only [bind, pure]
            cases hi <;> cases lo <;> simp only [Option.map, pure, Option.isSome_none, Bool.false_eq_true, if_false] at hb1 hb2 ⊢ <;> rw [evalPure_bind (y := s.size) rfl, evalPure_bind hb1, evalPure_bind hb2] <;> rfl
          simp only [execOp, ho, h2, Option.getD, bind, pure, Instr.sliceAt, Option.map_none]
          rw [evalPure_bind (y := Value.string (s.extract l.toNat hh.toNat))]
          · rfl
          · rw [evalPure_bind (evalPure_underlying h1)]
            simp only [Instr.slice, bind, pure]
            rw [evalPure_bind (evalPure_underlying h1)]
            simp only [Option.isSome_none, Bool.false_eq_true, if_false]
            simp only [Option.getD] at hsb
            rw [evalPure_bind hsb]; rfl
      · cases h
    · exact dfltK_some h
  · rename_i src d x ho
    split at h
    · rename_i u kk s b h1 h2 h3
      obtain ⟨n, hb, hk⟩ := ivK_some h
      refine ⟨_, _, eff_pure_of (v := .int kk n) ?_ ?_, hk⟩
      · simp [ho, Op.operands, h3]
      · simp only [execOp, ho, h3, Option.getD, bind, Sem.bind, pure, convert]
        rw [evalPure_bind (y := (Value.int kk n))]
        · rfl
        · rw [evalPure_bind (evalPure_underlying h1), evalPure_bind (evalPure_underlying h2)]
          unfold f2i at hb
          simp only [Conv.floatToInt]
          split at hb
          · rename_i m hm
            split at hb
            · rename_i hr
              simp only [Option.some.injEq] at hb; subst hb
              simp only [hm, if_pos hr]
              rfl
            · cases hb
          · cases hb
    · rename_i u kk s b h1 h2 h3
      obtain ⟨n, hb, hk⟩ := flK_some h
      refine ⟨_, _, eff_pure_of (v := .float kk n) ?_ ?_, hk⟩
      · simp [ho, Op.operands, h3]
      · simp only [execOp, ho, h3, Option.getD, bind, Sem.bind, pure, convert]
        rw [evalPure_bind (y := (Value.float kk n))]
        · rfl
        · rw [evalPure_bind (evalPure_underlying h1), evalPure_bind (evalPure_underlying h2)]
          unfold f2f at hb
          simp only [Conv.floatToFloat]
          split at hb
          · rename_i hs
            simp only [Option.some.injEq] at hb; subst hb
            rw [if_pos hs]; rfl
          · rename_i hs
            rw [if_neg hs]
            split at hb
            · cases hb
            · rename_i sg hd
              simp only [Option.some.injEq] at hb; subst hb
              rw [hd]; rfl
            · rename_i sg m e hd
              split at hb
              · cases hb
              · rename_i hi
                simp only [Option.some.injEq] at hb; subst hb
                rw [hd]; simp only [hi]; rfl
    · exact dfltK_some h
  · exact dfltK_some h

theorem pureK_bind {E : Env} {T : Tab} {ρ : Operand → AV} {dst : Nat} {o : Oper} {k : AV → List (Nat × Entry) → Option α} {g : α → Option β} : (pureK P E T ρ dst o k).bind g = pureK P E T ρ dst o fun y es => (k y es).bind g := by
  unfold pureK
  split
  · split
    · exact sixK_bind
    · exact dfltK_bind
  · split
    · unfold strBounds; split
      · exact gK_bind
      · rfl
    · exact dfltK_bind
  · split
    · exact ivK_bind
    · exact flK_bind
    · exact dfltK_bind
  · exact dfltK_bind

end Go.AM
