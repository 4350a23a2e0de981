/- A layer that is a quarter of a wave thick: its double factor contains -1. -/
import Derived.Test.YtmcplmhohldpjaaGreatYX3
namespace Go.AM.K
open Go.AM
set_option linter.unusedVariables false
set_option linter.unusedSimpArgs false
theorem agH:Con Bl1 1 1:=⟨by decide,by show (0:Int)<=1*0/\(1*1048576 - 1*1048576)*(1*1048576 - 1*1048576)+1*0*(1*0)<=(1*0:Int)*(1*0);decide⟩
theorem Zs:Con Bl0 0 1:=amU
end Go.AM.K
