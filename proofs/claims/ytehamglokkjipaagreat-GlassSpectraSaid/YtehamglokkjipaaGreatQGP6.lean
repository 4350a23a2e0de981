/- Chapter 2: names; floats of a table as numbers. -/
import Derived.Test.YtehamglokkjipaaGreatQGP1
import Derived.Test.YtehamglokkjipaaGreatKN8
namespace Go.AM.K
open Ieee
set_option linter.unusedVariables false
set_option linter.unusedSimpArgs false
variable {α : Type}
def wv (x : Nat) : Option Int := match FloatKind.f32.decode x with
  | .number s m i => if whl (vl (.number s m i)) then some (sgn s (qt m i)) else none
  | _ => none
end Go.AM.K
