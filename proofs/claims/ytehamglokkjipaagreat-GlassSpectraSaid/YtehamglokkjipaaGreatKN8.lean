/- Floats as numbers: singles. Plain. -/
import Derived.Test.YtehamglokkjipaaGreatKN3
namespace Go.AM
open Ieee
set_option linter.unusedVariables false
set_option linter.unusedSimpArgs false
def whl (v : Int) : Bool := decide (v.natAbs % UU = 0)
end Go.AM
