/- A layer that is a quarter of a wave thick: its double factor contains -1. -/
import Derived.Test.YtmcplmhohldpjaaGreatYX3
namespace Go.AM.K
open Go.AM
set_option linter.unusedVariables false
set_option linter.unusedSimpArgs false
theorem con_one:Con Bl1 1 1:=⟨by decide,by show (0:Int)<=1*0/\(1*1048576 - 1*1048576)*(1*1048576 - 1*1048576)+1*0*(1*0)<=(1*0:Int)*(1*0);decide⟩
theorem con_none:Con Bl0 0 1:=con_0
end Go.AM.K
