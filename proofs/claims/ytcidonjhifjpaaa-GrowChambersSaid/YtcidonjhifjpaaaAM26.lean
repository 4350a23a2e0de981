/- The abstract machine: functions by their compiled code, and rules for scalars. -/
import Derived.Test.YtcidonjhifjpaaaAM25
namespace Go.AM
open Go.RowKit

/-- A function of the program, compiled. -/
def FnIs (P : Program) (f : FuncId) (nt : Nat) (tr tl : List (Nat × Tidy)) (ac : ACode) (rs : List AResV) : Prop :=
  ∃ fn, P.funcs[f]? = some fn ∧ fn.ntmps = nt ∧ fn.body.bind (mk P nt tr tl true) = some ac ∧ fnRes P fn.results.toList = some rs ∧ (fn.name == "runtime.NumGoroutine") = false

variable {P : Program} {E : Env} {f : FuncId} {nt : Nat} {tr tl : List (Nat × Tidy)} {ac : ACode} {rs : List AResV}

/-- A function's contract, and that it has a body: as an environment wants it. -/
theorem FnIs.contract (h : FnIs P f nt tr tl ac rs) (hm : P.follows .mixedOrders = true) (hE : EnvOk P E) {ds : List DV} {res : List RV} (hn : ds.length ≤ nt) (hw : wpA P E ac (Done rs res) (initS ds)) :
    Contract P f ds res ∧ Bodied P f := by
  obtain ⟨fn, h1, h2, h3, h4, h5⟩ := h
  subst h2
  cases hb : fn.body with
  | none => rw [hb] at h3; cases h3
  | some c =>
    rw [hb] at h3
    exact ⟨contract_of h1 hb hm h3 h4 hE hn hw, fn, h1, by rw [hb]; rfl, h5⟩

/-- An environment of one function more. -/
def Env.add (E : Env) (f : Nat) (s : List DV → Option (List RV)) : Env := ⟨fun g ds => if g = f then s ds else E g ds, E.seq⟩

theorem EnvOk.add (hE : EnvOk P E) {s : List DV → Option (List RV)} (h : ∀ ds res, s ds = some res → Contract P f ds res ∧ Bodied P f) : EnvOk P (E.add f s) := by
  refine ⟨fun g ds res hg => ?_, hE.seq⟩
  simp only [Env.add] at hg
  split at hg
  · rename_i he; subst he; exact h ds res hg
  · exact hE.call g ds res hg

def Env.nil : Env := ⟨fun _ _ => none, fun _ _ => none⟩

theorem EnvOk.nil : EnvOk P Env.nil := ⟨fun _ _ _ h => (nomatch h), fun _ _ _ h => (nomatch h)⟩

/-! ### Scalars -/

section
variable {t : TypeId} {x y : Operand} {k : IntKind} {a b : Int}

@[simp] theorem binV_add : binV P .add t x y (.int k a) (.int k b) = some (.int k (k.wrap (a + b))) := by simp [binV, eqGuard, binOp, Op.intArith, evalPure, bind, Sem.bind, pure]
@[simp] theorem binV_sub : binV P .sub t x y (.int k a) (.int k b) = some (.int k (k.wrap (a - b))) := by simp [binV, eqGuard, binOp, Op.intArith, evalPure, bind, Sem.bind, pure]
@[simp] theorem binV_mul : binV P .mul t x y (.int k a) (.int k b) = some (.int k (k.wrap (a * b))) := by simp [binV, eqGuard, binOp, Op.intArith, evalPure, bind, Sem.bind, pure]
theorem binV_quo (hb : b ≠ 0) : binV P .quo t x y (.int k a) (.int k b) = some (.int k (k.wrap (a.tdiv b))) := by simp [binV, eqGuard, binOp, Op.intDiv, evalPure, bind, Sem.bind, pure, hb]
theorem binV_rem (hb : b ≠ 0) : binV P .rem t x y (.int k a) (.int k b) = some (.int k (a.tmod b)) := by simp [binV, eqGuard, binOp, Op.intDiv, evalPure, bind, Sem.bind, pure, hb]
@[simp] theorem binV_eql : binV P .eql t x y (.int k a) (.int k b) = some (.bool (a == b)) := by simp [binV, eqGuard, binOp, Op.intCmp, evalPure, bind, Sem.bind, pure]
@[simp] theorem binV_neq : binV P .neq t x y (.int k a) (.int k b) = some (.bool (a != b)) := by simp [binV, eqGuard, binOp, Op.intCmp, evalPure, bind, Sem.bind, pure]
@[simp] theorem binV_lss : binV P .lss t x y (.int k a) (.int k b) = some (.bool (decide (a < b))) := by simp [binV, eqGuard, binOp, Op.intCmp, evalPure, bind, Sem.bind, pure]
@[simp] theorem binV_leq : binV P .leq t x y (.int k a) (.int k b) = some (.bool (decide (a ≤ b))) := by simp [binV, eqGuard, binOp, Op.intCmp, evalPure, bind, Sem.bind, pure]
@[simp] theorem binV_gtr : binV P .gtr t x y (.int k a) (.int k b) = some (.bool (decide (b < a))) := by simp [binV, eqGuard, binOp, Op.intCmp, evalPure, bind, Sem.bind, pure]
@[simp] theorem binV_geq : binV P .geq t x y (.int k a) (.int k b) = some (.bool (decide (b ≤ a))) := by simp [binV, eqGuard, binOp, Op.intCmp, evalPure, bind, Sem.bind, pure]
end

end Go.AM
