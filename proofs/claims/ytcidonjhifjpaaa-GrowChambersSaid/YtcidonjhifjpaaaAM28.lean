/- The abstract machine: functions over which a loop may range. -/
import Derived.Test.YtcidonjhifjpaaaAM27
namespace Go.AM
open Go.RowKit

def valsOf (ρ : Operand → AV) : List Operand → Option (List Value)
  | [] => some []
  | x :: r => match oneA (ρ x), valsOf ρ r with
    | some (.d (.v v)), some vs => some (v :: vs)
    | _, _ => none

/-- A call of 'yield'. -/
def yieldOf (l : Nat) (ρ : Operand → AV) : AOp → Option (List Operand)
  | .calld x as => match oneA (ρ x) with
    | some (.yld l') => if l' = l then some as else none
    | _ => none
  | _ => none

/-- What leads into no memory. -/
def flatA : AV → Bool
  | .val _ cs => cs.all fun | .d (.v _) | .und | .yld _ => true | _ => false
  | .tup _ => false

def flatT : List (Nat × AV) → List (Nat × AV)
  | [] => []
  | (k, x) :: r => (k, if flatA x then x else .val false [.unk]) :: flatT r

/-- Behind a call of 'yield'. -/
def backI (A : List (Nat × AV)) (σ : St) (dst : Option Nat) (b : Bool) : St := ⟨putT (A ++ flatT σ.tmps) dst (.val false [.d (.v (.bool b))]), [], []⟩

def okDst (A : List (Nat × AV)) : Option Nat → Bool
  | some d => (aget A d).isNone
  | none => true

def runI (P : Program) (E : Env) (xs : List (List Value)) (l : Nat) (A : List (Nat × AV)) : List AOper → (Option Nat → St → Prop) → Option Nat → St → Prop
  | [], K, i, σ => K i σ
  | ao :: r, K, i, σ => okDst A ao.dst = true ∧ condW (wantA σ.tmps ao.guard)
      (match yieldOf l (evO σ.tmps) ao.op with
        | some as => match i with
          | some k => (∃ x, xs[k]? = some x ∧ valsOf (evO σ.tmps) as = some x) ∧ runI P E xs l A r K (some (k + 1)) (backI A σ ao.dst true) ∧ runI P E xs l A r K none (backI A σ ao.dst false)
          | none => False
        | none => outW (eff P E [] (evO σ.tmps) (ao.dst.getD 9999) ao.op) fun y es => es = [] ∧ runI P E xs l A r K i (applyA σ ao.dst y []))
      (runI P E xs l A r K i (applyA σ ao.dst (.val false [.und]) []))

def thenI (K : Option Nat → St → Prop) (Q : Exit → Option Nat → St → Prop) : Exit → Option Nat → St → Prop
  | .normal, i, σ => K i σ
  | .exit id, i, σ => Q (.exit id) i σ
  | .ret, i, σ => Q .ret i σ
  | _, _, _ => False

def blockI (id : Nat) (Q : Exit → Option Nat → St → Prop) : Exit → Option Nat → St → Prop
  | .normal, i, σ => Q .normal i σ
  | .exit id', i, σ => if id' = id then Q .normal i σ else Q (.exit id') i σ
  | .ret, i, σ => Q .ret i σ
  | _, _, _ => False

def loopI (f : (Exit → Option Nat → St → Prop) → Option Nat → St → Prop) (ks : List Nat) (Q : Exit → Option Nat → St → Prop) : Nat → Option Nat → St → Prop
  | 0, _, _ => False
  | k + 1, i, σ => f (thenI (loopI f ks Q k) Q) i ⟨pickL ks σ.tmps, [], []⟩

def keepO : Option Tidy → List (Nat × AV) → List (Nat × AV)
  | none, l => l
  | some t, l => pickL t.keep l

def keepsL : Option Tidy → List Nat
  | none => []
  | some t => t.keep

def wpI (P : Program) (E : Env) (xs : List (List Value)) (l : Nat) (A : List (Nat × AV)) : ACode → (Exit → Option Nat → St → Prop) → Option Nat → St → Prop
  | .skip, Q, i, σ => Q .normal i σ
  | .ret, Q, i, σ => Q .ret i σ
  | .exit id, Q, i, σ => Q (.exit id) i σ
  | .region ops _ td, Q, i, σ => runI P E xs l A ops (fun i' σ' => Q .normal i' ⟨keepO td σ'.tmps, [], []⟩) i σ
  | .seq a b, Q, i, σ => wpI P E xs l A a (thenI (wpI P E xs l A b Q) Q) i σ
  | .cond c a b, Q, i, σ => condW (boolA (evO σ.tmps c)) (wpI P E xs l A a Q i σ) (wpI P E xs l A b Q i σ)
  | .block id b, Q, i, σ => wpI P E xs l A b (blockI id Q) i σ
  | .loop td b, Q, i, σ => ∃ k, loopI (wpI P E xs l A b) (keepsL td) Q k i σ
  | .rangeF _ _ _ _ _, _, _, _ => False

/-- No region draws its order. -/
def noDraw : Code → Bool
  | .region _ _ d => !d
  | .seq a b | .cond _ a b => noDraw a && noDraw b
  | .block _ b | .loop b => noDraw b
  | .skip | .ret | .exit _ => true
  | _ => false

variable {P : Program} {E : Env} {xs : List (List Value)} {nt : Nat} {mvs : List Nat} {N : Nat → Prop} {B l : Nat} {J : Nat → World → Prop} {Jx : World → Prop} {w w' : World} {a : Act} {σ σ' : St} {i : Option Nat} {n : Nat} {g g' : Gh}

def gh0 : Gh := ⟨fun _ => none, fun _ => undef, fun _ => 0⟩

def now (J : Nat → World → Prop) (Jx : World → Prop) : Option Nat → World → Prop
  | some k, w => J k w
  | none, w => Jx w

/-- N's blocks, and those from B on. -/
def upB (N : Nat → Prop) (B : Nat) : Nat → Prop := fun b => N b ∨ B ≤ b

/-- The state of such a function, between two of its operations. -/
def RelI (A : List (Nat × AV)) (N : Nat → Prop) (B : Nat) (nt : Nat) (J : Nat → World → Prop) (Jx : World → Prop) (i : Option Nat) (σ : St) (a : Act) (w : World) : Prop :=
  σ.tab = [] ∧ a.tmps.size = nt ∧ a.defers = [] ∧ B ≤ w.heap.size ∧ SRel w N gh0 [] σ.tmps a.tmps ∧ now J Jx i w ∧ SRel w (upB N B) gh0 [] A a.tmps

/-- What is asked of a loop's body. -/
def Gives (P : Program) (xs : List (List Value)) (l : Nat) (B : Nat) (N : Nat → Prop) (n : Nat) (J : Nat → World → Prop) (Jx : World → Prop) : Prop :=
  (∀ b, N b → b < B) ∧ (∀ i W W', J i W → Below W.heap.size W W' → J i W') ∧ (∀ W W', Jx W → Below W.heap.size W W' → Jx W') ∧
  ∀ i x W1, xs[i]? = some x → J i W1 → YieldAt (Fw none) n P l x.toArray W1 fun e W' => Kept B N W1 W' ∧ ((e = .returned (.bool true) ∧ J (i + 1) W') ∨ (e = .returned (.bool false) ∧ Jx W'))

theorem avoid_nil : avoid N g [] = N := by
  funext b
  simp only [avoid, eq_iff_iff]
  exact ⟨fun h => h.elim id fun ⟨n, h, _⟩ => by simp [live, aget] at h, .inl⟩

theorem AVRel.gh {y : AV} {v : Value} (h : AVRel w N g [] y v) : AVRel w N g' [] y v :=
  h.mono fun _ _ h => h.mono (fun _ _ h => h) (fun _ h => h) fun n hn => by simp [aget] at hn

theorem memI (hN : ∀ b, N b → b < B) (hB : B ≤ w.heap.size) : Mem ⟨w, fun _ => False⟩ N gh0 [] w :=
  ⟨.refl, fun n e he => by simp [aget] at he, fun n m b hn => by simp [live, aget] at hn, fun n b hn => by simp [live, aget] at hn, fun b hb => ⟨Nat.lt_of_lt_of_le (hN b hb) hB, id⟩⟩

theorem now.grow (hG : Gives P xs l B N n J Jx) (h : now J Jx i w) (hb : Below w.heap.size w w') : now J Jx i w' := by
  cases i with
  | some k => exact hG.2.1 k w w' h hb
  | none => exact hG.2.2.1 w w' h hb

theorem valsOf_rel {N : Nat → Prop} {T : Tab} {tmps : List (Nat × AV)} (h : SRel w N g T tmps a.tmps) : ∀ (as : List Operand) (vs : List Value), valsOf (evO tmps) as = some vs → as.map a.eval = vs
  | [], vs, hv => by simp only [valsOf, Option.some.injEq] at hv; subst hv; rfl
  | x :: r, vs, hv => by
    simp only [valsOf] at hv
    split at hv
    · rename_i v vs' h1 h2
      simp only [Option.some.injEq] at hv
      subst hv
      have := oneA_rel (evO_rel h x) h1
      rw [List.map_cons, valsOf_rel h r vs' h2, (dv_rel this).1]
    · cases hv

theorem compileCall_calld {o : Oper} {c : Call} {x : Operand} {as : List Operand} (h : compileCall P o c = some (.calld x as)) : c.callee = .value x ∧ c.args.toList = as := by
  unfold compileCall at h
  repeat' split at h
  all_goals first
    | (simp only [Option.some.injEq, AOp.calld.injEq] at h; exact ⟨by simp_all, h.2⟩)
    | simp at h

theorem compile_calld {o : Oper} {x : Operand} {as : List Operand} (h : compileOp P o = some (.calld x as)) : ∃ c, o.op = .call c ∧ c.callee = .value x ∧ c.args.toList = as := by
  cases ho : o.op
  case call c =>
    simp only [compileOp, ho] at h
    exact ⟨c, rfl, compileCall_calld h⟩
  all_goals (exfalso; simp only [compileOp, ho] at h)
  case makeFunc fn first caps => cases fn <;> simp at h <;> split at h <;> simp at h
  case slice t y lo hi mx => cases mx <;> simp only [] at h <;> (repeat' split at h) <;> simp_all
  case build t ps =>
    repeat' split at h
    all_goals (try (simp at h; done))
    all_goals (simp only [Option.map_eq_some_iff, Option.bind_eq_some_iff] at h; obtain ⟨_, _, _, _, h⟩ := h; cases h)
  all_goals (repeat' split at h)
  all_goals (try (simp at h; done))
  all_goals (try (simp only [Option.map_eq_some_iff] at h; obtain ⟨_, _, h⟩ := h; cases h))

theorem AVRel.nilT {N' : Nat → Prop} (hd : ∀ d v, DRel w N d v → DRel w' N' d v) {y : AV} {v : Value} (h : AVRel w N g [] y v) : AVRel w' N' g [] y v :=
  h.mono fun _ _ h => h.mono hd (fun _ h => h) fun n hn => by simp [aget] at hn

theorem aget_append {α : Type} (l m : List (Nat × α)) (t : Nat) : aget (l ++ m) t = match aget l t with | some x => some x | none => aget m t := by
  induction l with
  | nil => rfl
  | cons p r ih =>
    obtain ⟨k, x⟩ := p
    simp only [List.cons_append, aget]
    split
    · rfl
    · exact ih

theorem flatA_rel {N' : Nat → Prop} {y : AV} {v : Value} (h : AVRel w N g [] y v) : AVRel w' N' g [] (if flatA y then y else .val false [.unk]) v := by
  split
  · rename_i hf
    have cell : ∀ (c : C) (v : Value), (match c with | .d (.v _) | .und | .yld _ => true | _ => false) = true → CRel w N g [] c v → CRel w' N' g [] c v := by
      intro c v hc h
      split at hc
      · cases h with
        | v hp => exact DRel.v hp
      · exact h
      · exact h
      · cases hc
    cases y with
    | tup l => simp [flatA] at hf
    | val b cs =>
      simp only [flatA] at hf
      have hall := List.all_eq_true.1 hf
      cases b with
      | true =>
        obtain ⟨xs, h1, h2, h3⟩ := h
        exact ⟨xs, h1, h2, fun i c x hc hx => cell c x (hall c (List.mem_of_getElem? hc)) (h3 i c x hc hx)⟩
      | false =>
        obtain ⟨c, rfl, h2⟩ := h
        exact ⟨c, rfl, cell c v (hall c (by simp)) h2⟩
  · exact ⟨.unk, rfl, trivial⟩

theorem SRel.flat {tmps : List (Nat × AV)} {vals : Array Value} {N' : Nat → Prop} (h : SRel w N g [] tmps vals) : SRel w' N' g [] (flatT tmps) vals := by
  have key : ∀ (l : List (Nat × AV)) t, aget (flatT l) t = (aget l t).map fun x => if flatA x then x else .val false [.unk] := by
    intro l t
    induction l with
    | nil => rfl
    | cons p r ih =>
      obtain ⟨k, y⟩ := p
      simp only [flatT, aget]
      split
      · rfl
      · exact ih
  intro t x hx
  rw [key] at hx
  cases hq : aget tmps t with
  | none => rw [hq] at hx; cases hx
  | some y =>
    rw [hq] at hx
    simp only [Option.map_some, Option.some.injEq] at hx
    subst hx
    exact flatA_rel (h t y hq)

/-- One operation of such a function. -/
theorem stepI_ok (hE : EnvOk P E) (hG : Gives P xs l B N n J Jx) {A : List (Nat × AV)} {ops : Array Oper} {o : Oper} {ao : AOper} (hc : compileO P mvs nt ops o = some ao) (hds : dstsOk nt ops = true) {j : Nat} (hj : ops[j]? = some o)
    (hR : RelI A N B nt J Jx i σ a w) {rest : Option Nat → St → Prop} {Q' : Exit → Act → World → Prop} {K' : Act → World → Prop} (hK : ∀ i' σ' a' w', rest i' σ' → RelI A N B nt J Jx i' σ' a' w' → K' a' w')
    (hA : okDst A ao.dst = true)
    (h : condW (wantA σ.tmps ao.guard)
      (match yieldOf l (evO σ.tmps) ao.op with
        | some as => match (generalizing := false) i with
          | some k => (∃ x, xs[k]? = some x ∧ valsOf (evO σ.tmps) as = some x) ∧ rest (some (k + 1)) (backI A σ ao.dst true) ∧ rest none (backI A σ ao.dst false)
          | none => False
        | none => outW (eff P E [] (evO σ.tmps) (ao.dst.getD 9999) ao.op) fun y es => es = [] ∧ rest i (applyA σ ao.dst y []))
      (rest i (applyA σ ao.dst (.val false [.und]) []))) : wpOpIn (Fw none) (n + 1) P ops Q' j K' a w := by
  obtain ⟨htab, hsz, hdf, hB, hS, hnow, hArgs⟩ := hR
  obtain ⟨h1, h2, h3, h4, h5⟩ := compileO_spec hc
  have hS' : SRel w (avoid N gh0 []) gh0 [] σ.tmps a.tmps := by rw [avoid_nil]; exact hS
  have hput : ∀ (τ : St) (y : AV) (v : Value) (w' : World) (i' : Option Nat), AVRel w' N gh0 [] y v → SRel w' N gh0 [] τ.tmps a.tmps → τ.tab = [] → B ≤ w'.heap.size → now J Jx i' w' → SRel w' (upB N B) gh0 [] A a.tmps →
      RelI A N B nt J Jx i' ⟨putT τ.tmps ao.dst y, [], []⟩ (a.put o.dst v) w' := by
    intro τ y v w' i' hy hs ht hb hn hAr
    rw [h4] at hA ⊢
    cases hd : o.dst with
    | none => exact ⟨rfl, hsz, hdf, hb, hs, hn, hAr⟩
    | some d =>
      rw [hd] at h3 hA
      simp only [dstOk, decide_eq_true_eq] at h3
      refine ⟨rfl, by simpa [Act.put] using hsz, hdf, hb, hs.put (by omega) hy, hn, fun t x hx => ?_⟩
      have hne : d ≠ t := fun e => by subst e; simp [okDst, hx] at hA
      simp only [Act.put]
      rw [Array.getD_eq_getD_getElem?, Array.getElem?_setIfInBounds_ne hne, ← Array.getD_eq_getD_getElem?]
      exact hAr t x hx
  have happ : ∀ y, applyA σ ao.dst y [] = ⟨putT σ.tmps ao.dst y, [], σ.sv⟩ := fun y => by simp [applyA, aputs, htab]
  unfold wpOpIn
  simp only [hj]
  rcases condW_spec h with ⟨hw, h⟩ | ⟨hw, h⟩
  · rw [if_pos (wantA_rel hS' hsz (dstsOk_spec hds) h2 hw rfl)]
    split at h
    · rename_i as hy
      cases i with
      | none => exact h.elim
      | some k =>
        obtain ⟨⟨x, hx, hvals⟩, ht, hf⟩ := h
        have hcd : ∃ y, ao.op = .calld y as ∧ oneA (evO σ.tmps y) = some (.yld l) := by
          unfold yieldOf at hy
          split at hy
          · rename_i y as' hop
            split at hy
            · rename_i l' hone
              split at hy
              · rename_i hl
                simp only [Option.some.injEq] at hy
                subst hy; subst hl
                exact ⟨y, hop, hone⟩
              · cases hy
            · cases hy
          · cases hy
        obtain ⟨y, hop, hone⟩ := hcd
        rw [hop] at h1
        obtain ⟨c, ho, hcal, hargs⟩ := compile_calld (h1.resolve_left (by simp) |>.resolve_right (by rintro (⟨_, _, _, _, _, _, h | h⟩ | ⟨_, _, h⟩) <;> cases h))
        have hyv : a.eval y = .func (.yield l) #[] #[] := oneA_rel (evO_rel (a := a) hS y) hone
        have hav : c.args.map a.eval = x.toArray := by
          apply Array.ext'
          rw [Array.toList_map, hargs]
          simpa using valsOf_rel (a := a) hS as x hvals
        obtain ⟨fn, tmps, ca, cb, hrun, hround⟩ := hG.2.2.2 k x w hx hnow
        have hrun' : (execOp a.eval o).run P w = .ok (.round l fn tmps ca cb) w := by
          simp only [execOp, ho, resolve, hcal, hyv]
          simp [Deferred.ofValue, invoke, hav, hrun]
        refine ⟨fun _ _ => trivial, ?_⟩
        rw [Oper.semAt_eq _ _ _ (fun c' hc' => by rw [ho] at hc'; cases hc'), hrun']
        refine ⟨fun h => by simp [Fw, Fence.wide] at h, ?_⟩
        refine RoundIn.mono hround ?_
        have hargs' : ∀ W', Kept B N w W' → SRel W' (upB N B) gh0 [] A a.tmps := fun W' hk t x hx => (hArgs t x hx).nilT fun _ _ hd => hd.mono hk.1 (fun b hb hN => hk.2 b (Nat.lt_of_not_le fun h => hN (.inr h)) fun h => hN (.inl h)) fun _ _ h => h
        have hback : ∀ W', Kept B N w W' → SRel W' N gh0 [] (A ++ flatT σ.tmps) a.tmps := fun W' hk t x hx => by
          rw [aget_append] at hx
          cases hq : aget A t with
          | some y =>
            rw [hq] at hx
            simp only [Option.some.injEq] at hx
            subst hx
            exact (hargs' W' hk t y hq).nilT fun _ _ hd => hd.mono (Nat.le_refl _) (fun _ _ _ => rfl) fun _ _ h => .inl h
          | none =>
            rw [hq] at hx
            exact SRel.flat hS t x hx
        rintro e W' ⟨hkept, ⟨rfl, hJ⟩ | ⟨rfl, hJ⟩⟩
        · exact hK _ _ _ _ ht (hput ⟨A ++ flatT σ.tmps, [], []⟩ _ _ _ _ ⟨_, rfl, .v rfl⟩ (hback W' hkept) rfl (Nat.le_trans hB hkept.1) hJ (hargs' W' hkept))
        · exact hK _ _ _ _ hf (hput ⟨A ++ flatT σ.tmps, [], []⟩ _ _ _ _ ⟨_, rfl, .v rfl⟩ (hback W' hkept) rfl (Nat.le_trans hB hkept.1) hJ (hargs' W' hkept))
    · rename_i hy
      obtain ⟨y, es, heff, hes, hrest⟩ := outW_spec h
      subst hes
      refine effC_ok (r := none) (n := n + 1) hE (memI hG.1 hB) (fun x => evO_rel hS' x) h1 heff K' Q' ?_
      rintro v w' ⟨g', hM', hKp, hv⟩
      have hbel : Below w.heap.size w w' := ⟨hM'.below.os, hM'.below.tape, hM'.below.output, hM'.below.size, fun k hk => hM'.below.block k hk id⟩
      simp only [aputs, avoid_nil] at hv hKp
      have hrel := hput σ y v w' i hv.gh (fun t x hx => by
        have := hKp.a (hS' t x hx)
        rw [avoid_nil] at this
        exact this.gh) htab (Nat.le_trans hB hbel.size) (hnow.grow hG hbel) (fun t x hx => (hArgs t x hx).nilT fun _ _ hd => hd.mono hbel.size (fun b hb _ => hbel.block b hb) fun _ _ h => h)
      exact hK i (applyA σ ao.dst y []) _ _ hrest (by rw [happ]; exact ⟨rfl, hrel.2⟩)
  · rw [if_neg (by rw [wantA_rel hS' hsz (dstsOk_spec hds) h2 hw rfl]; simp)]
    have hrel := hput σ (.val false [.und]) undef w i ⟨_, rfl, rfl⟩ hS htab hB hnow hArgs
    exact ⟨fun _ _ => trivial, hK i (applyA σ ao.dst (.val false [.und]) []) _ _ h (by rw [happ]; exact ⟨rfl, hrel.2⟩)⟩

theorem runI_ok (hE : EnvOk P E) (hG : Gives P xs l B N n J Jx) {A : List (Nat × AV)} {ops : Array Oper} (hds : dstsOk nt ops = true) {K : Option Nat → St → Prop} {Q' : Exit → Act → World → Prop}
    (hQ : ∀ i' σ' a' w', K i' σ' → RelI A N B nt J Jx i' σ' a' w' → Q' .normal a' w') : ∀ (os : List Oper) (as : List AOper) (k : Nat) (i : Option Nat) (σ : St) (a : Act) (w : World), compileOs P mvs nt ops os = some as → (∀ j, os[j]? = ops[k + j]?) →
    RelI A N B nt J Jx i σ a w → runI P E xs l A as K i σ → wpOpsIn (Fw none) (n + 1) P ops Q' (List.range' k os.length) a w
  | [], as, k, i, σ, a, w, hc, hl, hR, h => by
    simp only [compileOs, Option.some.injEq] at hc
    subst hc
    exact hQ i σ a w h hR
  | o :: os, as, k, i, σ, a, w, hc, hl, hR, h => by
    simp only [compileOs] at hc
    split at hc
    · rename_i ao as' h1 h2
      simp only [Option.some.injEq] at hc
      subst hc
      have h0 : ops[k]? = some o := by simpa using (hl 0).symm
      rw [List.length_cons, List.range'_succ, wpOpsIn_cons]
      obtain ⟨hA, h⟩ := h
      exact stepI_ok hE hG h1 hds h0 hR (rest := runI P E xs l A as' K) (fun i' σ' a' w' hr hR' => runI_ok hE hG hds hQ os as' (k + 1) i' σ' a' w' h2 (fun j => by have := hl (j + 1); simpa [Nat.add_assoc, Nat.add_comm 1 j] using this) hR' hr) hA h
    · cases hc

theorem RelI.keep {A : List (Nat × AV)} {τ : St} (h : RelI A N B nt J Jx i σ a w) (ht : τ.tab = []) (hs : ∀ t x, aget τ.tmps t = some x → aget σ.tmps t = some x) : RelI A N B nt J Jx i τ a w :=
  ⟨ht, h.2.1, h.2.2.1, h.2.2.2.1, fun t x hx => h.2.2.2.2.1 t x (hs t x hx), h.2.2.2.2.2⟩

theorem wpI_ok (hE : EnvOk P E) (hG : Gives P xs l B N n J Jx) {A : List (Nat × AV)} {tr tl : List (Nat × Tidy)} : ∀ (c : Code) (ac : ACode), noDraw c = true → mk P nt tr tl true c = some ac →
    ∀ (Q : Exit → Option Nat → St → Prop) (Q' : Exit → Act → World → Prop) (i : Option Nat) (σ : St) (a : Act) (w : World), (∀ e i σ a w, Q e i σ → RelI A N B nt J Jx i σ a w → Q' e a w) → RelI A N B nt J Jx i σ a w →
    wpI P E xs l A ac Q i σ → c.wpIn (Fw none) (n + 1) P Q' a w := by
  intro c
  induction c with
  | skip => intro ac _ h Q Q' i σ a w hQ hR hw; simp only [mk, Option.some.injEq] at h; subst h; exact wpIn_skip (hQ _ _ _ _ _ hw hR)
  | ret => intro ac _ h Q Q' i σ a w hQ hR hw; simp only [mk, Option.some.injEq] at h; subst h; exact wpIn_ret (hQ _ _ _ _ _ hw hR)
  | exit id => intro ac _ h Q Q' i σ a w hQ hR hw; simp only [mk, Option.some.injEq] at h; subst h; exact wpIn_exit (hQ _ _ _ _ _ hw hR)
  | region id ops d =>
    intro ac hnd h Q Q' i σ a w hQ hR hw
    have hd : d = false := by simpa [noDraw] using hnd
    subst hd
    simp only [mk] at h
    split at h
    · rename_i as hc
      split at h
      · rename_i hds
        simp only [Bool.false_eq_true, if_false, Option.some.injEq] at h
        subst h
        refine wpIn_region ?_
        have := runI_ok hE hG hds (Q' := Q') (fun i' σ' a' w' hk hR' => hQ _ _ _ _ _ hk (hR'.keep rfl fun t x hx => by
          unfold keepO at hx
          split at hx
          · exact hx
          · exact aget_pickL _ _ _ _ hx)) ops.toList as 0 i σ a w hc (by simp) hR hw
        rw [List.range_eq_range']
        simpa using this
      · cases h
    · cases h
  | seq x y ihx ihy =>
    intro ac hnd h Q Q' i σ a w hQ hR hw
    simp only [noDraw, Bool.and_eq_true] at hnd
    simp only [mk] at h
    split at h
    · rename_i ax ay hx hy
      simp only [Option.some.injEq] at h
      subst h
      refine wpIn_seq (ihx ax hnd.1 hx _ _ i σ a w (fun e i1 σ1 a1 w1 h1 hR1 => ?_) hR hw)
      cases e with
      | normal => exact ihy ay hnd.2 hy Q Q' i1 σ1 a1 w1 hQ hR1 h1
      | exit id => exact hQ _ _ _ _ _ h1 hR1
      | ret => exact hQ _ _ _ _ _ h1 hR1
      | _ => exact h1.elim
    · cases h
  | cond c x y ihx ihy =>
    intro ac hnd h Q Q' i σ a w hQ hR hw
    simp only [noDraw, Bool.and_eq_true] at hnd
    simp only [mk] at h
    split at h
    · rename_i ax ay hx hy
      simp only [Option.some.injEq] at h
      subst h
      have hS := hR.2.2.2.2.1
      rcases condW_spec hw with ⟨hb, hw⟩ | ⟨hb, hw⟩
      · exact wpIn_cond_true (boolA_rel (evO_rel hS c) hb) (ihx ax hnd.1 hx Q Q' i σ a w hQ hR hw)
      · exact wpIn_cond_false (boolA_rel (evO_rel hS c) hb) (ihy ay hnd.2 hy Q Q' i σ a w hQ hR hw)
    · cases h
  | block id b ih =>
    intro ac hnd h Q Q' i σ a w hQ hR hw
    simp only [mk, Option.map_eq_some_iff] at h
    obtain ⟨ab, hb, rfl⟩ := h
    refine wpIn_block (ih ab hnd hb _ _ i σ a w (fun e i1 σ1 a1 w1 h1 hR1 => ?_) hR hw)
    cases e with
    | normal => exact hQ _ _ _ _ _ h1 hR1
    | exit id' =>
      simp only [blockI] at h1
      simp only [Exit.inBlock]
      split at h1
      · rename_i he; rw [if_pos he]; exact hQ _ _ _ _ _ h1 hR1
      · rename_i he; rw [if_neg he]; exact hQ _ _ _ _ _ h1 hR1
    | ret => exact hQ _ _ _ _ _ h1 hR1
    | _ => exact h1.elim
  | loop b ih =>
    intro ac hnd h Q Q' i σ a w hQ hR hw
    simp only [mk, Option.map_eq_some_iff] at h
    obtain ⟨ab, hb, rfl⟩ := h
    obtain ⟨k, hk⟩ := hw
    refine wpIn_loop_rounds k ?_
    have key : ∀ k i σ a w, RelI A N B nt J Jx i σ a w → loopI (wpI P E xs l A ab) (keepsL (aget tl (firstR b))) Q k i σ → Code.roundsIn (Fw none) (n + 1) P b Q' k a w := by
      intro k
      induction k with
      | zero => intro i σ a w _ h; exact h.elim
      | succ k ihk =>
        intro i σ a w hR h
        rw [roundsIn_succ]
        refine ih ab hnd hb _ _ i _ a w (fun e i2 σ2 a2 w2 h3 hR2 => ?_) (hR.keep rfl fun t x hx => aget_pickL _ _ _ _ hx) h
        cases e with
        | normal => exact ihk i2 σ2 a2 w2 hR2 h3
        | exit id => exact hQ _ _ _ _ _ h3 hR2
        | ret => exact hQ _ _ _ _ _ h3 hR2
        | _ => exact h3.elim
    exact key k i σ a w hR hk
  | _ => intro ac hnd; simp [noDraw] at hnd

/-- What a run must come to. -/
def DoneI (xs : List (List Value)) (e : Exit) (i : Option Nat) (_ : St) : Prop := (e = .ret ∨ e = .normal) ∧ (i = some xs.length ∨ i = none)

def capT : Nat → List DC → List (Nat × AV)
  | _, [] => []
  | k, d :: r => (k, .val false [.d d]) :: capT (k + 1) r

theorem aget_capT : ∀ (ds : List DC) (k t : Nat) (x : AV), aget (capT k ds) t = some x → ∃ i d, t = k + i ∧ ds[i]? = some d ∧ x = .val false [.d d]
  | [], k, t, x, h => by simp [capT, aget] at h
  | d :: r, k, t, x, h => by
    simp only [capT, aget] at h
    split at h
    · rename_i hk
      simp only [Option.some.injEq] at h
      exact ⟨0, d, by omega, rfl, h.symm⟩
    · obtain ⟨i, d', h1, h2, h3⟩ := aget_capT r (k + 1) t x h
      exact ⟨i + 1, d', by omega, by simpa using h2, h3⟩

/-- **A FUNCTION OVER WHICH A LOOP RANGES, BY ONE RUN OF ITS CODE.** -/
theorem iterOk_of (hE : EnvOk P E) {f : FuncId} {fn : Func} {c : Code} {ac : ACode} {tr tl : List (Nat × Tidy)} {caps : List DC} (hf : P.funcs[f]? = some fn) (hb : fn.body = some c) (hr : fn.results = #[])
    (hnd : noDraw c = true) (hc : mk P fn.ntmps tr tl true c = some ac) (hn : 1 + caps.length ≤ fn.ntmps) (hplain : ∀ x ∈ xs, ∀ v ∈ x, plain v = true)
    (h : ∀ l, wpI P E xs l (capT 1 caps) ac (DoneI xs) (some 0) ⟨(0, .val false [.yld l]) :: capT 1 caps, [], []⟩) : IterOk P f caps xs := by
  refine ⟨hplain, fun w N lb l J Jx n hN hlen hcaps hJ hJx hY h0 => ?_⟩
  refine callsIn_wide (n := n + 1).1 (callsIn_of_wp hf hb trivial ?_)
  have hG : Gives P xs l w.heap.size N n J Jx := ⟨hN, hJ, hJx, hY⟩
  have hget : ∀ (i : Nat) (d : DC), caps[i]? = some d → ∃ v, lb[i]? = some v ∧ (#[Value.func (.yield l) #[] #[]] ++ lb ++ Array.replicate (fn.ntmps - (#[Value.func (.yield l) #[] #[]] ++ lb).size) undef).getD (1 + i) undef = v := by
    intro i d hd
    have hi : i < lb.size := by rw [← hlen]; exact (List.getElem?_eq_some_iff.1 hd).1
    refine ⟨lb[i], by simp [hi], ?_⟩
    rw [Array.getD_eq_getD_getElem?, Array.getElem?_append_left (by simp; omega), Array.getElem?_append_right (by simp)]
    simp [hi]
  have hA : ∀ (M : Nat → Prop), (∀ b, b < w.heap.size → M b → N b) → SRel w M gh0 [] (capT 1 caps) (#[Value.func (.yield l) #[] #[]] ++ lb ++ Array.replicate (fn.ntmps - (#[Value.func (.yield l) #[] #[]] ++ lb).size) undef) := by
    intro M hM t x hx
    obtain ⟨i, d, rfl, hd, rfl⟩ := aget_capT caps 1 t x hx
    obtain ⟨v, hv, he⟩ := hget i d hd
    rw [he]
    exact ⟨_, rfl, (hcaps i d v hd hv).mono (Nat.le_refl _) (fun _ _ _ => rfl) hM⟩
  refine wpI_ok hE hG c ac hnd hc (DoneI xs) _ (some 0) _ _ w (fun e i σ a' w' hd hR => ?_) ⟨rfl, by simp; omega, rfl, Nat.le_refl _, fun t x hx => ?_, h0, hA (upB N w.heap.size) fun b hb hN => hN.elim id fun h => by omega⟩ (h l)
  · obtain ⟨he, hi⟩ := hd
    have key : a'.defers = [] ∧ ∃ v, (results fn a'.tmps).run P w' = .ok v w' ∧ (∃ v', Ending.returned v = .returned v') ∧ (J xs.length w' ∨ Jx w') := by
      refine ⟨hR.2.2.1, _, results_none hr _ _ _, ⟨_, rfl⟩, ?_⟩
      have hnow := hR.2.2.2.2.2.1
      rcases hi with rfl | rfl
      · exact .inl hnow
      · exact .inr hnow
    rcases he with rfl | rfl <;> exact key
  · simp only [aget] at hx
    split at hx
    · rename_i h0
      subst h0
      simp only [Option.some.injEq] at hx
      subst hx
      refine ⟨_, rfl, ?_⟩
      rw [Array.getD_eq_getD_getElem?, Array.getElem?_append_left (by simp; omega), Array.getElem?_append_left (by simp)]
      rfl
    · exact hA N (fun _ _ h => h) t x hx

end Go.AM
