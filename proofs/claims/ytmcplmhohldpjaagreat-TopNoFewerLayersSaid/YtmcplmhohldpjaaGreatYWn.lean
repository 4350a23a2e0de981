/- The shares of the example. -/
import Derived.Test.YtmcplmhohldpjaaGreatYWi
namespace Go.AM.K
def A0:Ask:=⟨10000,0,0,0,4000,4000,[(20000,20000,500,500,0)],40000,0⟩
theorem Rg:eV A0=((0,0,1048576,1048576,0,0),0):=by decide +kernel
end Go.AM.K
