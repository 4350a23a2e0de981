/- The abstract machine: rules for evaluating a run step by step, with the rest of the code as data. -/
import Derived.Test.YtcidonjhifjpaaaAM26
namespace Go.AM

abbrev vI (n : Int) : DV := (false, [.v (.int .i64 n)])
abbrev vB (n : Bool) : DV := (false, [.v (.bool n)])
abbrev rI (n : Int) : RV := (false, [.d (.v (.int .i64 n))])
abbrev rB (n : Bool) : RV := (false, [.d (.v (.bool n))])

/-- The rest of the code. -/
inductive Kn where
  | nil
  | seq (b : ACode) (k : Kn)
  | blk (id : Nat) (k : Kn)
  | rounds (td : Option Tidy) (b : ACode) (n : Nat) (k : Kn)

def interp (P : Program) (E : Env) : Kn → (Exit → St → Prop) → Exit → St → Prop
  | .nil, Q => Q
  | .seq b k, Q => thenA (wpA P E b (interp P E k Q)) (interp P E k Q)
  | .blk id k, Q => blockA id (interp P E k Q)
  | .rounds td b n k, Q => thenA (loopN (wpA P E b) td (interp P E k Q) n) (interp P E k Q)

def goC (P : Program) (E : Env) (c : ACode) (k : Kn) (Q : Exit → St → Prop) (σ : St) : Prop := wpA P E c (interp P E k Q) σ
def goK (P : Program) (E : Env) (k : Kn) (Q : Exit → St → Prop) (e : Exit) (σ : St) : Prop := interp P E k Q e σ
def goL (P : Program) (E : Env) (td : Option Tidy) (b : ACode) (n : Nat) (k : Kn) (Q : Exit → St → Prop) (σ : St) : Prop := loopN (wpA P E b) td (interp P E k Q) n σ
def goR (P : Program) (E : Env) (ops : List AOper) (td : Option Tidy) (k : Kn) (Q : Exit → St → Prop) (σ : St) : Prop := runW P E ops (fun σ' => someA (tidyO td σ') (interp P E k Q .normal)) σ
def goD (P : Program) (E : Env) (prs : List (Nat × Nat)) (acc : List Outc) (ops : List AOper) (td : Option Tidy) (k : Kn) (Q : Exit → St → Prop) (σ : St) : Prop :=
  outsW P E ops (fun os σ' => prs.all (pairOk os) = true ∧ someA (tidyO td σ') (interp P E k Q .normal)) acc σ

/-- A branch; an operation that may be wanted; what it comes to. -/
def goI (P : Program) (E : Env) (o : Option Bool) (a b : ACode) (k : Kn) (Q : Exit → St → Prop) (σ : St) : Prop := condW o (goC P E a k Q σ) (goC P E b k Q σ)
def goX (P : Program) (E : Env) (o : Option (AV × List (Nat × Entry))) (dst : Option Nat) (ops : List AOper) (td : Option Tidy) (k : Kn) (Q : Exit → St → Prop) (σ : St) : Prop :=
  outW o fun y es => goR P E ops td k Q (applyA σ dst y es)
def goW (P : Program) (E : Env) (o : Option Bool) (ao : AOper) (ops : List AOper) (td : Option Tidy) (k : Kn) (Q : Exit → St → Prop) (σ : St) : Prop :=
  condW o (goX P E (eff P E σ.tab (evO σ.tmps) (ao.dst.getD 9999) ao.op) ao.dst ops td k Q σ) (goR P E ops td k Q (applyA σ ao.dst (.val false [.und]) []))
def goY (P : Program) (E : Env) (prs : List (Nat × Nat)) (acc : List Outc) (o : Option (AV × List (Nat × Entry))) (ao : AOper) (ops : List AOper) (td : Option Tidy) (k : Kn) (Q : Exit → St → Prop) (σ : St) : Prop :=
  outW o fun y es => goD P E prs (⟨ao.dst, y, es, lkA σ ao es⟩ :: acc) ops td k Q (applyA σ ao.dst y es)
def goV (P : Program) (E : Env) (prs : List (Nat × Nat)) (acc : List Outc) (o : Option Bool) (ao : AOper) (ops : List AOper) (td : Option Tidy) (k : Kn) (Q : Exit → St → Prop) (σ : St) : Prop :=
  condW o (goY P E prs acc (eff P E σ.tab (evO σ.tmps) (ao.dst.getD 9999) ao.op) ao ops td k Q σ) (goD P E prs (⟨ao.dst, .val false [.und], [], lkA σ ao []⟩ :: acc) ops td k Q (applyA σ ao.dst (.val false [.und]) []))
def goT (P : Program) (E : Env) (o : Option St) (k : Kn) (Q : Exit → St → Prop) : Prop := someA o (goK P E k Q .normal)
def goM (P : Program) (E : Env) (o : Option St) (b : ACode) (k : Kn) (Q : Exit → St → Prop) : Prop := someA o (goC P E b k Q)

section
variable {P : Program} {E : Env} {c a b : ACode} {k : Kn} {Q : Exit → St → Prop} {σ : St} {e : Exit} {i n : Nat} {td : Option Tidy} {ops : List AOper} {ao : AOper} {prs : List (Nat × Nat)} {acc : List Outc} {p : Nat × Nat}

theorem wp_go (h : goC P E c .nil Q σ) : wpA P E c Q σ := h
theorem goC_skip : goC P E .skip k Q σ = goK P E k Q .normal σ := rfl
theorem goC_ret : goC P E .ret k Q σ = goK P E k Q .ret σ := rfl
theorem goC_exit : goC P E (.exit i) k Q σ = goK P E k Q (.exit i) σ := rfl
theorem goC_seq : goC P E (.seq a b) k Q σ = goC P E a (.seq b k) Q σ := rfl
theorem goC_block : goC P E (.block i b) k Q σ = goC P E b (.blk i k) Q σ := rfl
theorem goC_cond {c : Operand} : goC P E (.cond c a b) k Q σ = goI P E (boolA (evO σ.tmps c)) a b k Q σ := rfl
theorem goI_t : goI P E (some true) a b k Q σ = goC P E a k Q σ := by simp [goI, condW]
theorem goI_f : goI P E (some false) a b k Q σ = goC P E b k Q σ := by simp [goI, condW]
theorem goI_d {x : Bool} (h1 : x = true → goC P E a k Q σ) (h2 : x = false → goC P E b k Q σ) : goI P E (some x) a b k Q σ := ⟨h1, h2⟩
theorem goC_loop : goC P E (.loop td b) k Q σ = ∃ n, goL P E td b n k Q σ := rfl
theorem goC_region : goC P E (.region ops [] td) k Q σ = goR P E ops td k Q σ := rfl
theorem goC_draw : goC P E (.region ops (p :: prs) td) k Q σ = goD P E (p :: prs) [] ops td k Q σ := rfl
theorem goL_zero : goL P E td b 0 k Q σ = False := rfl
theorem goL_succ : goL P E td b (n + 1) k Q σ = goM P E (tidyO td σ) b (.rounds td b n k) Q := rfl
theorem goM_some : goM P E (some σ) b k Q = goC P E b k Q σ := rfl
theorem goT_some : goT P E (some σ) k Q = goK P E k Q .normal σ := rfl
theorem goK_nil : goK P E .nil Q e σ = Q e σ := rfl
theorem goK_seq_n : goK P E (.seq b k) Q .normal σ = goC P E b k Q σ := rfl
theorem goK_seq_r : goK P E (.seq b k) Q .ret σ = goK P E k Q .ret σ := rfl
theorem goK_seq_e : goK P E (.seq b k) Q (.exit i) σ = goK P E k Q (.exit i) σ := rfl
theorem goK_blk_n {j : Nat} : goK P E (.blk j k) Q .normal σ = goK P E k Q .normal σ := rfl
theorem goK_blk_r {j : Nat} : goK P E (.blk j k) Q .ret σ = goK P E k Q .ret σ := rfl
theorem goK_blk_e {j : Nat} : goK P E (.blk j k) Q (.exit i) σ = if i = j then goK P E k Q .normal σ else goK P E k Q (.exit i) σ := rfl
theorem goK_rounds_n : goK P E (.rounds td b n k) Q .normal σ = goL P E td b n k Q σ := rfl
theorem goK_rounds_r : goK P E (.rounds td b n k) Q .ret σ = goK P E k Q .ret σ := rfl
theorem goK_rounds_e : goK P E (.rounds td b n k) Q (.exit i) σ = goK P E k Q (.exit i) σ := rfl

theorem goR_nil : goR P E [] td k Q σ = goT P E (tidyO td σ) k Q := rfl
theorem goR_cons : goR P E (ao :: ops) td k Q σ = goW P E (wantA σ.tmps ao.guard) ao ops td k Q σ := rfl
theorem goW_t : goW P E (some true) ao ops td k Q σ = goX P E (eff P E σ.tab (evO σ.tmps) (ao.dst.getD 9999) ao.op) ao.dst ops td k Q σ := by simp [goW, condW]
theorem goW_f : goW P E (some false) ao ops td k Q σ = goR P E ops td k Q (applyA σ ao.dst (.val false [.und]) []) := by simp [goW, condW]
theorem goX_some {y : AV} {es : List (Nat × Entry)} {dst : Option Nat} : goX P E (some (y, es)) dst ops td k Q σ = goR P E ops td k Q (applyA σ dst y es) := rfl
theorem goD_nil : goD P E prs acc [] td k Q σ = (prs.all (pairOk acc.reverse) = true ∧ goT P E (tidyO td σ) k Q) := rfl
theorem goD_cons : goD P E prs acc (ao :: ops) td k Q σ = goV P E prs acc (wantA σ.tmps ao.guard) ao ops td k Q σ := rfl
theorem goV_t : goV P E prs acc (some true) ao ops td k Q σ = goY P E prs acc (eff P E σ.tab (evO σ.tmps) (ao.dst.getD 9999) ao.op) ao ops td k Q σ := by simp [goV, condW]
theorem goV_f : goV P E prs acc (some false) ao ops td k Q σ = goD P E prs (⟨ao.dst, .val false [.und], [], lkA σ ao []⟩ :: acc) ops td k Q (applyA σ ao.dst (.val false [.und]) []) := by simp [goV, condW]
theorem goY_some {y : AV} {es : List (Nat × Entry)} : goY P E prs acc (some (y, es)) ao ops td k Q σ = goD P E prs (⟨ao.dst, y, es, lkA σ ao es⟩ :: acc) ops td k Q (applyA σ ao.dst y es) := rfl

theorem done_ret {rs : List AResV} {res : List RV} : Done rs res .ret σ = (resOut rs σ = some res) := by simp [Done]
theorem done_normal {rs : List AResV} {res : List RV} : Done rs res .normal σ = (resOut rs σ = some res) := by simp [Done]
end

section
variable {P : Program} {t : TypeId} {x y : Operand} {k : IntKind} {a b : Int}
theorem binV_quo' : binV P .quo t x y (.int k a) (.int k b) = if b ≠ 0 then some (.int k (k.wrap (a.tdiv b))) else none := by
  by_cases h : b = 0
  · subst h; rw [if_neg (by simp)]; cases k <;> rfl
  · simp [binV_quo, h]
theorem binV_rem' : binV P .rem t x y (.int k a) (.int k b) = if b ≠ 0 then some (.int k (a.tmod b)) else none := by
  by_cases h : b = 0
  · subst h; rw [if_neg (by simp)]; cases k <;> rfl
  · simp [binV_rem, h]
end
theorem map_ite {α β : Type} {p : Prop} [Decidable p] {f : α → β} {x : α} : (if p then some x else none).map f = if p then some (f x) else none := by split <;> rfl

end Go.AM
