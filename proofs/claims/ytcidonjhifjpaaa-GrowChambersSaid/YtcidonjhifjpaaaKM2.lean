/- Runs in continuation form: operations. -/
import Derived.Test.YtcidonjhifjpaaaKM1
namespace Go.AM
variable {α β : Type}

/-- What calls come to, in continuation form. -/
structure EnvK where
  call : (α : Type) → Nat → List DV → (List RV → Option α) → Option α
  seq : Nat → List DC → Option (List (List Value))

def EnvK.env (E : EnvK) : Env := ⟨fun f ds => E.call _ f ds some, E.seq⟩

def EnvK.Nat' (E : EnvK) : Prop := ∀ (α β : Type) (f : Nat) (ds : List DV) (k : List RV → Option α) (g : α → Option β), (E.call α f ds k).bind g = E.call β f ds fun r => (k r).bind g

def arithF (op : BinOp) (k : FloatKind) (x y : Nat) : Option Nat :=
  match op with
  | .add => k.format.add x y
  | .sub => k.format.sub x y
  | .mul => k.format.mul x y
  | .quo => k.format.div x y
  | _ => none

def dvK (o : Option Value) (k : Value → Option α) : Option α := match o with | some v => k v | none => none

def eqK (o : Option Bool) (f : Bool → Option α) : Option α := match o with | some e => f e | none => none

def binK (P : Program) (op : BinOp) (t : TypeId) (x y : Operand) (a b : Value) (k : Value → Option α) : Option α :=
  match a, b with
  | .int k1 m, .int k2 n => match op with
    | .quo => if k1 = k2 then gK (n != 0) (k (.int k1 (k1.wrap (m.tdiv n)))) else none
    | .rem => if k1 = k2 then gK (n != 0) (k (.int k1 (m.tmod n))) else none
    | .shl => gK (decide (0 ≤ n)) (k (.int k1 (k1.wrap (m * 2 ^ (min n.toNat k1.bits)))))
    | .shr => gK (decide (0 ≤ n)) (k (.int k1 (m.fdiv (2 ^ (min n.toNat k1.bits)))))
    | _ => dvK (binV P op t x y a b) k
  | .float k1 m, .float k2 n => match op with
    | .add | .sub | .mul | .quo => if k1 = k2 then flK (arithF op k1 m n) fun r => k (.float k1 r) else none
    | _ => dvK (binV P op t x y a b) k
  | .complex k1 p q, .complex k2 r s => match op with
    | .add | .sub => if k1 = k2 then flK (arithF op k1 p r) fun c => flK (arithF op k1 q s) fun d => k (.complex k1 c d) else none
    | _ => dvK (binV P op t x y a b) k
  | .string s, .string u => match op with
    | .add => gK (!decide (IntKind.i64.max < ((s.size + u.size : Nat) : Int))) (k (.string (s ++ u)))
    | _ => dvK (binV P op t x y a b) k
  | .agg xs, .agg ys => match op with
    | .eql => if P.eqGuardType P.depth t then none else eqK (eqTy P Op.maxDepth t (.agg xs) (.agg ys)) fun e => k (.bool e)
    | .neq => if P.eqGuardType P.depth t then none else eqK (eqTy P Op.maxDepth t (.agg xs) (.agg ys)) fun e => k (.bool !e)
    | _ => dvK (binV P op t x y a b) k
  | _, _ => dvK (binV P op t x y a b) k

theorem eqK_some {o : Option Bool} {f : Bool → Option α} {a : α} (h : eqK o f = some a) : ∃ e, o = some e ∧ f e = some a := by cases o <;> first | cases h | exact ⟨_, rfl, h⟩
theorem eqK_bind {o : Option Bool} {f : Bool → Option α} {g : α → Option β} : (eqK o f).bind g = eqK o fun e => (f e).bind g := by cases o <;> rfl

theorem binV_agg {P : Program} {t : TypeId} {x y : Operand} {xs ys : Array Value} {e : Bool} (hg : ¬ P.eqGuardType P.depth t = true) (he : eqTy P Op.maxDepth t (.agg xs) (.agg ys) = some e) :
    binV P .eql t x y (.agg xs) (.agg ys) = some (.bool e) ∧ binV P .neq t x y (.agg xs) (.agg ys) = some (.bool !e) := by
  have h := eqTy_ok _ he
  have hg' : P.eqGuardType P.depth t = false := by simpa using hg
  constructor
  · simp only [binV, eqGuard, bind, pure]
    rw [evalPure_bind (y := ())]
    · simp only [binOp, Op.equal, bind, pure]
      rw [evalPure_bind h]; rfl
    · show evalPure P (Sem.bind program _) = _
      rw [evalPure_program]
      show evalPure P (Sem.bind program _) = _
      rw [evalPure_program]
      simp only [hg']
      rfl
  · simp only [binV, eqGuard, bind, pure]
    rw [evalPure_bind (y := ())]
    · simp only [binOp, Op.equal, bind, pure]
      rw [evalPure_bind h]; rfl
    · show evalPure P (Sem.bind program _) = _
      rw [evalPure_program]
      show evalPure P (Sem.bind program _) = _
      rw [evalPure_program]
      simp only [hg']
      rfl

theorem dflt_some {o : Option Value} {k : Value → Option α} {a : α} (h : dvK o k = some a) : ∃ v, o = some v ∧ k v = some a := by
  cases o with
  | none => cases h
  | some v => exact ⟨v, rfl, h⟩

theorem dvK_bind {o : Option Value} {k : Value → Option α} {g : α → Option β} : (dvK o k).bind g = dvK o fun v => (k v).bind g := by cases o <;> rfl

theorem binK_some {P : Program} {op : BinOp} {t : TypeId} {x y : Operand} {a b : Value} {k : Value → Option α} {r : α} (h : binK P op t x y a b k = some r) : ∃ v, binV P op t x y a b = some v ∧ k v = some r := by
  unfold binK at h
  split at h
  · rename_i k1 m k2 n
    split at h
    · split at h
      · rename_i hk; subst hk
        obtain ⟨h1, h2⟩ := gK_some h
        exact ⟨_, binV_quo (by simpa using h1), h2⟩
      · cases h
    · split at h
      · rename_i hk; subst hk
        obtain ⟨h1, h2⟩ := gK_some h
        exact ⟨_, binV_rem (by simpa using h1), h2⟩
      · cases h
    · obtain ⟨h1, h2⟩ := gK_some h
      have h1 : ¬ n < 0 := by have : 0 ≤ n := by simpa using h1
                              omega
      exact ⟨_, by simp [binV, eqGuard, binOp, Op.shift, evalPure, bind, Sem.bind, pure, h1], h2⟩
    · obtain ⟨h1, h2⟩ := gK_some h
      have h1 : ¬ n < 0 := by have : 0 ≤ n := by simpa using h1
                              omega
      exact ⟨_, by simp [binV, eqGuard, binOp, Op.shift, evalPure, bind, Sem.bind, pure, h1], h2⟩
    · exact dflt_some h
  · rename_i k1 m k2 n
    split at h
    · split at h
      · rename_i hk; subst hk
        obtain ⟨r', h1, h2⟩ := flK_some h
        simp only [arithF] at h1
        exact ⟨_, by simp [binV, eqGuard, binOp, Op.floatArith, evalPure, bind, Sem.bind, pure, h1], h2⟩
      · cases h
    · split at h
      · rename_i hk; subst hk
        obtain ⟨r', h1, h2⟩ := flK_some h
        simp only [arithF] at h1
        exact ⟨_, by simp [binV, eqGuard, binOp, Op.floatArith, evalPure, bind, Sem.bind, pure, h1], h2⟩
      · cases h
    · split at h
      · rename_i hk; subst hk
        obtain ⟨r', h1, h2⟩ := flK_some h
        simp only [arithF] at h1
        exact ⟨_, by simp [binV, eqGuard, binOp, Op.floatArith, evalPure, bind, Sem.bind, pure, h1], h2⟩
      · cases h
    · split at h
      · rename_i hk; subst hk
        obtain ⟨r', h1, h2⟩ := flK_some h
        simp only [arithF] at h1
        exact ⟨_, by simp [binV, eqGuard, binOp, Op.floatArith, evalPure, bind, Sem.bind, pure, h1], h2⟩
      · cases h
    · exact dflt_some h
  · rename_i k1 p q k2 r' s
    split at h
    · split at h
      · rename_i hk; subst hk
        obtain ⟨c, h1, h2⟩ := flK_some h
        obtain ⟨d, h3, h4⟩ := flK_some h2
        simp only [arithF] at h1 h3
        exact ⟨_, by simp [binV, eqGuard, binOp, Op.complexOp, Op.Complex.arith, Op.floatArith, evalPure, bind, Sem.bind, pure, h1, h3], h4⟩
      · cases h
    · split at h
      · rename_i hk; subst hk
        obtain ⟨c, h1, h2⟩ := flK_some h
        obtain ⟨d, h3, h4⟩ := flK_some h2
        simp only [arithF] at h1 h3
        exact ⟨_, by simp [binV, eqGuard, binOp, Op.complexOp, Op.Complex.arith, Op.floatArith, evalPure, bind, Sem.bind, pure, h1, h3], h4⟩
      · cases h
    · exact dflt_some h
  · rename_i s u
    split at h
    · obtain ⟨h1, h2⟩ := gK_some h
      have h1 : ¬ IntKind.i64.max < ((s.size + u.size : Nat) : Int) := by simpa using h1
      refine ⟨_, ?_, h2⟩
      show evalPure P (if ((s.size + u.size : Nat) : Int) > IntKind.i64.max then _ else _) = _
      rw [if_neg (by exact h1)]
      rfl
    · exact dflt_some h
  · rename_i xs ys
    split at h
    · split at h
      · cases h
      · rename_i hg
        obtain ⟨e, h1, h2⟩ := eqK_some h
        exact ⟨_, (binV_agg hg h1).1, h2⟩
    · split at h
      · cases h
      · rename_i hg
        obtain ⟨e, h1, h2⟩ := eqK_some h
        exact ⟨_, (binV_agg hg h1).2, h2⟩
    · exact dflt_some h
  · exact dflt_some h

theorem ite_bind {g : α → Option β} {c : Prop} [Decidable c] {x y : Option α} : (if c then x else y).bind g = if c then x.bind g else y.bind g := by split <;> rfl
theorem match_bind {γ : Type} {g : α → Option β} {o : Option γ} {k : γ → Option α} : (match o with | some v => k v | none => none).bind g = match o with | some v => (k v).bind g | none => none := by cases o <;> rfl

theorem binK_bind {P : Program} {op : BinOp} {t : TypeId} {x y : Operand} {a b : Value} {k : Value → Option α} {g : α → Option β} : (binK P op t x y a b k).bind g = binK P op t x y a b fun v => (k v).bind g := by
  unfold binK
  split
  · split <;> first | (rw [ite_bind, gK_bind]; rfl) | exact gK_bind | exact dvK_bind
  · split <;> first | (rw [ite_bind, flK_bind]; rfl) | exact dvK_bind
  · split <;> first | (rw [ite_bind, flK_bind]; simp only [flK_bind]; rfl) | exact dvK_bind
  · split <;> first | exact gK_bind | exact dvK_bind
  · split
    · split
      · rfl
      · exact eqK_bind
    · split
      · rfl
      · exact eqK_bind
    · exact dvK_bind
  · exact dvK_bind

end Go.AM
