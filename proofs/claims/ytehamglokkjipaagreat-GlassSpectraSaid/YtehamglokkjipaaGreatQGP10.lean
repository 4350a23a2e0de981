/- Chapter 2: index and loss at a wavelength, and between two. -/
import Derived.Test.YtehamglokkjipaaGreatQGP9
namespace Go.AM.K
open Ieee
set_option linter.unusedVariables false
set_option linter.unusedSimpArgs false
set_option linter.unusedSectionVars false
variable {α : Type}
section
variable {s : ByteArray} (hs : s.size ≤ 9223372036854775807) {kd : Int} {lw : List Int} {lx ly : List Nat} {c0 c1 : Int} (hw : lw.length ≤ 1000) (hx : lx.length ≤ 1000) (hy : ly.length ≤ 1000)
include hs hw hx hy
end
section
variable {lw : List Int} {lx ly : List Nat} (h : TabOk lw lx ly)
include h
end
end Go.AM.K
