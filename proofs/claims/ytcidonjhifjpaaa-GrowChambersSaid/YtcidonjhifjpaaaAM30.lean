/- The abstract machine: rules for evaluating functions over which a loop ranges. -/
import Derived.Test.YtcidonjhifjpaaaAM29
namespace Go.AM

section
variable (P : Program) (E : Env) (xs : List (List Value)) (l : Nat) (A : List (Nat × AV))

def interpI : Kn → (Exit → Option Nat → St → Prop) → Exit → Option Nat → St → Prop
  | .nil, Q => Q
  | .seq b k, Q => thenI (wpI P E xs l A b (interpI k Q)) (interpI k Q)
  | .blk id k, Q => blockI id (interpI k Q)
  | .rounds td b n k, Q => thenI (loopI (wpI P E xs l A b) (keepsL td) (interpI k Q) n) (interpI k Q)

def icC (c : ACode) (k : Kn) (Q : Exit → Option Nat → St → Prop) (i : Option Nat) (σ : St) : Prop := wpI P E xs l A c (interpI P E xs l A k Q) i σ
def icK (k : Kn) (Q : Exit → Option Nat → St → Prop) (e : Exit) (i : Option Nat) (σ : St) : Prop := interpI P E xs l A k Q e i σ
def icL (td : Option Tidy) (b : ACode) (n : Nat) (k : Kn) (Q : Exit → Option Nat → St → Prop) (i : Option Nat) (σ : St) : Prop := loopI (wpI P E xs l A b) (keepsL td) (interpI P E xs l A k Q) n i σ
def icR (ops : List AOper) (td : Option Tidy) (k : Kn) (Q : Exit → Option Nat → St → Prop) (i : Option Nat) (σ : St) : Prop :=
  runI P E xs l A ops (fun i' σ' => interpI P E xs l A k Q .normal i' ⟨keepO td σ'.tmps, [], []⟩) i σ
def icB (o : Option Bool) (a b : ACode) (k : Kn) (Q : Exit → Option Nat → St → Prop) (i : Option Nat) (σ : St) : Prop := condW o (icC P E xs l A a k Q i σ) (icC P E xs l A b k Q i σ)
def icX (o : Option (AV × List (Nat × Entry))) (dst : Option Nat) (ops : List AOper) (td : Option Tidy) (k : Kn) (Q : Exit → Option Nat → St → Prop) (i : Option Nat) (σ : St) : Prop :=
  outW o fun y es => es = [] ∧ icR P E xs l A ops td k Q i (applyA σ dst y [])
def icY (o : Option (List Operand)) (ao : AOper) (ops : List AOper) (td : Option Tidy) (k : Kn) (Q : Exit → Option Nat → St → Prop) (i : Option Nat) (σ : St) : Prop :=
  match o with
  | some as => match i with
    | some n => (∃ x, xs[n]? = some x ∧ valsOf (evO σ.tmps) as = some x) ∧ icR P E xs l A ops td k Q (some (n + 1)) (backI A σ ao.dst true) ∧ icR P E xs l A ops td k Q none (backI A σ ao.dst false)
    | none => False
  | none => icX P E xs l A (eff P E [] (evO σ.tmps) (ao.dst.getD 9999) ao.op) ao.dst ops td k Q i σ
def icW (o : Option Bool) (ao : AOper) (ops : List AOper) (td : Option Tidy) (k : Kn) (Q : Exit → Option Nat → St → Prop) (i : Option Nat) (σ : St) : Prop :=
  condW o (icY P E xs l A (yieldOf l (evO σ.tmps) ao.op) ao ops td k Q i σ) (icR P E xs l A ops td k Q i (applyA σ ao.dst (.val false [.und]) []))
end

section
variable {P : Program} {E : Env} {xs : List (List Value)} {l : Nat} {A : List (Nat × AV)} {c a b : ACode} {k : Kn} {Q : Exit → Option Nat → St → Prop} {σ : St} {i : Option Nat} {n m : Nat} {td : Option Tidy} {ops : List AOper} {ao : AOper}
  {prs : List (Nat × Nat)} {as : List Operand}

theorem wp_ic (h : icC P E xs l A c .nil Q i σ) : wpI P E xs l A c Q i σ := h
theorem icC_skip : icC P E xs l A .skip k Q i σ = icK P E xs l A k Q .normal i σ := rfl
theorem icC_ret : icC P E xs l A .ret k Q i σ = icK P E xs l A k Q .ret i σ := rfl
theorem icC_exit : icC P E xs l A (.exit n) k Q i σ = icK P E xs l A k Q (.exit n) i σ := rfl
theorem icC_seq : icC P E xs l A (.seq a b) k Q i σ = icC P E xs l A a (.seq b k) Q i σ := rfl
theorem icC_block : icC P E xs l A (.block n b) k Q i σ = icC P E xs l A b (.blk n k) Q i σ := rfl
theorem icC_cond {c : Operand} : icC P E xs l A (.cond c a b) k Q i σ = icB P E xs l A (boolA (evO σ.tmps c)) a b k Q i σ := rfl
theorem icB_t : icB P E xs l A (some true) a b k Q i σ = icC P E xs l A a k Q i σ := by simp [icB, condW]
theorem icB_f : icB P E xs l A (some false) a b k Q i σ = icC P E xs l A b k Q i σ := by simp [icB, condW]
theorem icC_loop : icC P E xs l A (.loop td b) k Q i σ = ∃ n, icL P E xs l A td b n k Q i σ := rfl
theorem icC_region : icC P E xs l A (.region ops prs td) k Q i σ = icR P E xs l A ops td k Q i σ := rfl
theorem icL_succ : icL P E xs l A td b (n + 1) k Q i σ = icC P E xs l A b (.rounds td b n k) Q i ⟨pickL (keepsL td) σ.tmps, [], []⟩ := rfl
theorem icK_nil {e : Exit} : icK P E xs l A .nil Q e i σ = Q e i σ := rfl
theorem icK_seq_n : icK P E xs l A (.seq b k) Q .normal i σ = icC P E xs l A b k Q i σ := rfl
theorem icK_seq_r : icK P E xs l A (.seq b k) Q .ret i σ = icK P E xs l A k Q .ret i σ := rfl
theorem icK_seq_e : icK P E xs l A (.seq b k) Q (.exit n) i σ = icK P E xs l A k Q (.exit n) i σ := rfl
theorem icK_blk_n : icK P E xs l A (.blk m k) Q .normal i σ = icK P E xs l A k Q .normal i σ := rfl
theorem icK_blk_r : icK P E xs l A (.blk m k) Q .ret i σ = icK P E xs l A k Q .ret i σ := rfl
theorem icK_blk_e : icK P E xs l A (.blk m k) Q (.exit n) i σ = if n = m then icK P E xs l A k Q .normal i σ else icK P E xs l A k Q (.exit n) i σ := rfl
theorem icK_rounds_n : icK P E xs l A (.rounds td b n k) Q .normal i σ = icL P E xs l A td b n k Q i σ := rfl
theorem icK_rounds_r : icK P E xs l A (.rounds td b n k) Q .ret i σ = icK P E xs l A k Q .ret i σ := rfl
theorem icK_rounds_e : icK P E xs l A (.rounds td b n k) Q (.exit m) i σ = icK P E xs l A k Q (.exit m) i σ := rfl
theorem icR_nil : icR P E xs l A [] td k Q i σ = icK P E xs l A k Q .normal i ⟨keepO td σ.tmps, [], []⟩ := rfl
theorem icR_cons : icR P E xs l A (ao :: ops) td k Q i σ = (okDst A ao.dst = true ∧ icW P E xs l A (wantA σ.tmps ao.guard) ao ops td k Q i σ) := rfl
theorem icW_t : icW P E xs l A (some true) ao ops td k Q i σ = icY P E xs l A (yieldOf l (evO σ.tmps) ao.op) ao ops td k Q i σ := by simp [icW, condW]
theorem icW_f : icW P E xs l A (some false) ao ops td k Q i σ = icR P E xs l A ops td k Q i (applyA σ ao.dst (.val false [.und]) []) := by simp [icW, condW]
theorem icY_none : icY P E xs l A none ao ops td k Q i σ = icX P E xs l A (eff P E [] (evO σ.tmps) (ao.dst.getD 9999) ao.op) ao.dst ops td k Q i σ := rfl
theorem icY_some : icY P E xs l A (some as) ao ops td k Q (some n) σ = ((∃ x, xs[n]? = some x ∧ valsOf (evO σ.tmps) as = some x) ∧ icR P E xs l A ops td k Q (some (n + 1)) (backI A σ ao.dst true) ∧ icR P E xs l A ops td k Q none (backI A σ ao.dst false)) := rfl
theorem icX_some {y : AV} {dst : Option Nat} : icX P E xs l A (some (y, [])) dst ops td k Q i σ = icR P E xs l A ops td k Q i (applyA σ dst y []) := by simp [icX, outW]
end

end Go.AM
