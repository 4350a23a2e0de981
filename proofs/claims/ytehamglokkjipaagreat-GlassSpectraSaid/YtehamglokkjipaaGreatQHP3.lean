/- Chapter 2: index and loss at a wavelength, as the program and the document say them; Euclid. -/
import Derived.Test.YtehamglokkjipaaGreatQHP2
namespace Go.AM.K
open Ieee
set_option linter.unusedVariables false
set_option linter.unusedSimpArgs false
set_option linter.unusedSectionVars false
variable {α : Type}
theorem f43_eq {x : Int} (h1 : -9223372036854775807 ≤ x) (h2 : x ≤ 9223372036854775807) {k : Int → Option α} : f43_0 α x k = k (x.natAbs : Int) := by
  simp only [f43_0, f43_0g]
  rw [w64_in (by omega) (by omega)]
  congr 1
  split <;> omega
end Go.AM.K
