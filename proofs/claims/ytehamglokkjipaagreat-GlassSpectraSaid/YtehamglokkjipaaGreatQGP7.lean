/- Chapter 2: which materials are right. -/
import Derived.Test.YtehamglokkjipaaGreatQGP6
import Derived.Test.YtehamglokkjipaaGreatKC1
namespace Go.AM.K
set_option linter.unusedVariables false
set_option linter.unusedSimpArgs false
variable {α : Type}
abbrev rF (a : Nat) : List DC := [.v (.float .f32 a)]
section
variable {lw : List Int} {lx ly : List Nat} (h1 : lx.length = lw.length) (h2 : ly.length = lw.length) (h3 : lw.length ≤ 64)
include h1 h2 h3
end
end Go.AM.K
