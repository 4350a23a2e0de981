/- Chapter 1 as the document says it, as far as Meter needs it: roots, directions, arcs. -/
import Derived.Test.YtehamglokkjipaaGreatQMB2
import Derived.Test.YtehamglokkjipaaGreatQGP1
namespace Go.AM.K.Mb
set_option linter.unusedVariables false
set_option linter.unusedSimpArgs false
variable {α:Type}
theorem f57_eq {n lo hi:Int}{k:Bool->Option α}:f57_0 α n lo hi k=k (decide (lo<=n/\n<=hi)):=by
 simp only [f57_0,f57_0g]
 by_cases h:lo<=n <;> simp [h]
end Go.AM.K.Mb
