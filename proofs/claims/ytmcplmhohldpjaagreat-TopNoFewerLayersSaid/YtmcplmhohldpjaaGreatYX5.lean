/- Quarter waves: the matrices, and the reflected amplitude, contain fractions. -/
import Derived.Test.YtmcplmhohldpjaaGreatYX4
namespace Go.AM.K
open Go.AM
set_option linter.unusedVariables false
set_option linter.unusedSimpArgs false
theorem cP {op:Bl->Bl->Bl × Int}{e:Int}{a b:Bl}{v:Bl × Int}(hv:two op e a b=v)(h:v.2=0):e=0/\op a b=v:=by
 subst hv
 obtain⟨h1,h2,_⟩:=A1 h
 exact⟨h1,h2.symm⟩
end Go.AM.K
