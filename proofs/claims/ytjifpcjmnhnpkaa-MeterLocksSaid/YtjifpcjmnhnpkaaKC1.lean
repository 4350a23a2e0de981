/- Plain tools: loops that search; rows of bools and numbers. -/
import Derived.Test.YtjifpcjmnhnpkaaKP1
namespace Go.AM
variable {α : Type}
set_option linter.unusedVariables false
set_option linter.unusedSimpArgs false
def orK {B : Type} (o : Option B) (y : B → Option α) (n : Option α) : Option α := match o with | some b => y b | none => n
@[simp] theorem orK_some {B : Type} {b : B} {y : B → Option α} {n : Option α} : orK (some b) y n = y b := rfl
@[simp] theorem orK_none {B : Type} {y : B → Option α} {n : Option α} : orK (none : Option B) y n = n := rfl
abbrev Rule := Int × Bool × Int × Bool
theorem gD {A : Type} {l : List A} {i : Nat} {d : A} (h : i < l.length) : l.getD i d = l[i]'h := by
  simp [List.getD_eq_getElem?_getD, h]
def r0 : Rule := (0, false, 0, false)
end Go.AM
