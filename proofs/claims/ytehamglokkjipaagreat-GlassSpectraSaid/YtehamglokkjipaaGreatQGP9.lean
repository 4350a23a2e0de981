/- Chapter 2: enclosures between two wavelengths, index and loss at one. -/
import Derived.Test.YtehamglokkjipaaGreatQGP8
namespace Go.AM.K
open Ieee
set_option linter.unusedVariables false
set_option linter.unusedSimpArgs false
set_option linter.unusedSectionVars false
variable {α : Type}
section
variable {lw : List Int} {lx ly : List Nat} (h : TabOk lw lx ly)
include h
end
structure FrmOk (a b : Int) : Prop where
  a1 : 5000 ≤ a
  a2 : a ≤ 60000
  b1 : 0 ≤ b
  b2 : b ≤ 20000
end Go.AM.K
