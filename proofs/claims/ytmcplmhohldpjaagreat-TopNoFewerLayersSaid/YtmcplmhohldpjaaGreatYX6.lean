/- Quarter waves: the reflected amplitude contains the fraction that the rule tells. -/
import Derived.Test.YtmcplmhohldpjaaGreatYX5
namespace Go.AM.K
open Go.AM
set_option linter.unusedVariables false
set_option linter.unusedSimpArgs false
end Go.AM.K
