/- The abstract machine: operations against the model, the frame of the proof. -/
import Derived.Test.YtcidonjhifjpaaaAM5
namespace Go.AM
open Go.RowKit

variable {P : Program} {w0 : Base} {w w' : World} {N : Nat → Prop} {N0 : Nat → Prop} {g g' : Gh} {T T' : Tab}

/-- New names, over new blocks. -/
theorem Mem.creates (hM : Mem w0 N0 g T w) (hext : Below w.heap.size w w') (hT : ∀ m, (aget T m).isSome → aget T' m = aget T m)
    (hg : ∀ m, (aget T m).isSome → g'.blk m = g.blk m ∧ g'.sv m = g.sv m ∧ g'.st m = g.st m)
    (hnew : ∀ m b, aget T m = none → live T' m → g'.blk m = some b → w.heap.size ≤ b ∧ b < w'.heap.size)
    (hinj : ∀ m k b, aget T m = none → aget T k = none → live T' m → live T' k → g'.blk m = some b → g'.blk k = some b → m = k)
    (hE : Keeps N0 g T w g' T' w' → ∀ m e, aget T m = none → aget T' m = some e → ERel w' (avoid N0 g' T') g' T' m e) :
    Mem w0 N0 g' T' w' ∧ Keeps N0 g T w g' T' w' := by
  have hold : ∀ m, (aget T m).isSome → (live T' m ↔ live T m) := fun m hm => by unfold live; rw [hT m hm]
  have hcase : ∀ m, aget T m = none ∨ (aget T m).isSome := fun m => by cases aget T m <;> simp
  have hK : Keeps N0 g T w g' T' w' := by
    refine Keeps.of hext.size (fun b hb _ => hext.block b hb) (fun b hb ha => ?_) (fun m hm => by rw [hT m hm]; exact hm) hg
    rcases ha with ha | ⟨m, hl, hbm⟩
    · exact .inl ha
    · rcases hcase m with hm | hm
      · have := hnew m b hm hl hbm; omega
      · exact .inr ⟨m, (hold m hm).1 hl, by rw [← (hg m hm).1]; exact hbm⟩
  refine ⟨hM.upd (.of hext hM.below.size) hK (fun m e' he' => ?_) (fun m k b hm hk bm bk => ?_) (fun m b hm bm => ?_), hK⟩
  · rcases hcase m with h | h
    · exact .inr (hE hK m e' h he')
    · rw [hT m h] at he'
      exact .inl ⟨he', fun b hl hb => hext.block b (hM.rng m b hl hb).2⟩
  · rcases hcase m with h1 | h1 <;> rcases hcase k with h2 | h2
    · exact hinj m k b h1 h2 hm hk bm bk
    · have hk' := (hold k h2).1 hk
      rw [(hg k h2).1] at bk
      have := (hM.rng k b hk' bk).2
      have := (hnew m b h1 hm bm).1
      omega
    · have hm' := (hold m h1).1 hm
      rw [(hg m h1).1] at bm
      have := (hM.rng m b hm' bm).2
      have := (hnew k b h2 hk bk).1
      omega
    · rw [(hg m h1).1] at bm
      rw [(hg k h2).1] at bk
      exact hM.inj m k b ((hold m h1).1 hm) ((hold k h2).1 hk) bm bk
  · rcases hcase m with h1 | h1
    · have := hnew m b h1 hm bm
      exact ⟨.inl (Nat.le_trans hM.below.size this.1), this.2⟩
    · rw [(hg m h1).1] at bm
      have := hM.rng m b ((hold m h1).1 hm) bm
      exact ⟨this.1, Nat.lt_of_lt_of_le this.2 hext.size⟩

def Fw (r : Option Nat) : Fence := { Fence.wide with round := r }

/-- An operation leads to such a value and such a world. -/
def OpOk (r : Option Nat) (n : Nat) (P : Program) (o : Oper) (a : Act) (w : World) (R : Value → World → Prop) : Prop :=
  ∀ (K : Act → World → Prop) (Q : Exit → Act → World → Prop), (∀ v w', R v w' → K (a.put o.dst v) w') → o.wpIn (Fw r) n P a w K Q

section
variable {r : Option Nat} {n : Nat} {o : Oper} {a : Act} {R : Value → World → Prop}

theorem OpOk.value (hd : ∀ c, o.op ≠ .defer c) {v : Value} (h : (execOp a.eval o).run P w = .ok (.value v) w') (hR : R v w') : OpOk r n P o a w R := by
  intro K Q hK
  refine ⟨fun _ _ => trivial, ?_⟩
  rw [Oper.semAt_eq _ _ _ hd, h]
  exact hK _ _ hR

theorem OpOk.skip (hd : ∀ c, o.op ≠ .defer c) (h : (execOp a.eval o).run P w = .ok .skip w') (hR : R undef w') : OpOk r n P o a w R := by
  intro K Q hK
  refine ⟨fun _ _ => trivial, ?_⟩
  rw [Oper.semAt_eq _ _ _ hd, h]
  exact hK _ _ hR

theorem OpOk.enter (hd : ∀ c, o.op ≠ .defer c) {f : FuncId} {args : Array Value} (h : (execOp a.eval o).run P w = .ok (.enter f args) w)
    (hc : Calls P f args w fun e w' => ∃ v, e = .returned v ∧ R v w') : OpOk r n P o a w R := by
  intro K Q hK
  refine ⟨fun _ _ => trivial, ?_⟩
  rw [Oper.semAt_eq _ _ _ hd, h]
  refine ⟨fun hx => by simp [Fw, Fence.wide] at hx, ?_⟩
  have : CallsIn (Fw r) (n - 1) P f args w fun e w' => ∃ v, e = .returned v ∧ R v w' := callsIn_wide.2 hc
  refine this.mono ?_
  rintro e w' ⟨v, rfl, hv⟩
  exact hK _ _ hv

theorem OpOk.mono {R' : Value → World → Prop} (h : OpOk r n P o a w R) (hR : ∀ v w', R v w' → R' v w') : OpOk r n P o a w R' :=
  fun K Q hK => h K Q fun v w' hv => hK v w' (hR v w' hv)
end

/-- What an operation's outcome must be. -/
def Res (w0 : Base) (N0 : Nat → Prop) (g : Gh) (T : Tab) (w : World) (x : AV) (es : List (Nat × Entry)) (v : Value) (w' : World) : Prop :=
  ∃ g', Mem w0 N0 g' (aputs T es) w' ∧ Keeps N0 g T w g' (aputs T es) w' ∧ AVRel w' (avoid N0 g' (aputs T es)) g' (aputs T es) x v

theorem Res.same (hM : Mem w0 N0 g T w) {x : AV} {v : Value} (h : AVRel w (avoid N0 g T) g T x v) : Res w0 N0 g T w x [] v w := ⟨g, hM, Keeps.refl, h⟩

/-! ### Data handed over -/

def DVRel (w : World) (N : Nat → Prop) (d : DV) (v : Value) : Prop :=
  match d with
  | (true, ds) => ∃ xs : Array Value, v = .agg xs ∧ ds.length = xs.size ∧ ∀ (i : Nat) (d : DC) (x : Value), ds[i]? = some d → xs[i]? = some x → DRel w N d x
  | (false, ds) => ∃ d, ds = [d] ∧ DRel w N d v

def ArgsRel (w : World) (N : Nat → Prop) (ds : List DV) (vs : Array Value) : Prop :=
  ds.length = vs.size ∧ ∀ (i : Nat) (d : DV) (v : Value), ds[i]? = some d → vs[i]? = some v → DVRel w N d v

def RCRel (w : World) (N : Nat → Prop) (ob : Option Nat) : RC → Value → Prop
  | .d x, v => DRel w N x v
  | .own sz rows, v => SliceOwn w N sz rows v ob

def RVRel (w : World) (N : Nat → Prop) (ob : Nat → Option Nat) (x : RV) (v : Value) : Prop :=
  match x with
  | (true, cs) => ∃ xs : Array Value, v = .agg xs ∧ cs.length = xs.size ∧ ∀ (j : Nat) (c : RC) (x : Value), cs[j]? = some c → xs[j]? = some x → RCRel w N (ob j) c x
  | (false, cs) => ∃ c, cs = [c] ∧ RCRel w N (ob 0) c v

/-- What a call hands back. -/
def ResRel (w : World) (N : Nat → Prop) (res : List RV) (v : Value) (w' : World) : Prop :=
  ∃ (vs : Array Value) (ob : Nat → Nat → Option Nat), v = (if h : vs.size = 1 then vs[0] else .tuple vs) ∧ res.length = vs.size ∧
    (∀ (i : Nat) (x : RV) (u : Value), res[i]? = some x → vs[i]? = some u → RVRel w' (fun b => N b ∨ ∃ i j, ob i j = some b) (ob i) x u) ∧
    (∀ i j b, ob i j = some b → w.heap.size ≤ b ∧ b < w'.heap.size) ∧ ∀ i j i' j' b, ob i j = some b → ob i' j' = some b → i = i' ∧ j = j'

/-- A function's contract at some data: it returns this, and nothing that lay has turned. -/
def Contract (P : Program) (f : FuncId) (args : List DV) (res : List RV) : Prop :=
  ∀ (w : World) (vs : Array Value) (N : Nat → Prop), (∀ b, N b → b < w.heap.size) → ArgsRel w N args vs →
    Calls P f vs w fun e w' => ∃ v, e = .returned v ∧ Below w.heap.size w w' ∧ ResRel w N res v w'

end Go.AM
