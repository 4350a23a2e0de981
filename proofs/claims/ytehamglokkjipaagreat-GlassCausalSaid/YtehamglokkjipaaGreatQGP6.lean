/- Chapter 2: names; floats of a table as numbers. -/
import Derived.Test.YtehamglokkjipaaGreatQGP1
import Derived.Test.YtehamglokkjipaaGreatKNa
namespace Go.AM.K
open Ieee
set_option linter.unusedVariables false
set_option linter.unusedSimpArgs false
variable {α:Type}
end Go.AM.K
