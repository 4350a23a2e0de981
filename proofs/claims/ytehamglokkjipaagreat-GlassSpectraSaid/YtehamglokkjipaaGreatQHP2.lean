/- Chapter 2: enclosures, as the document says them. -/
import Derived.Test.YtehamglokkjipaaGreatQHP1
namespace Go.AM.K
open Ieee
set_option linter.unusedVariables false
set_option linter.unusedSimpArgs false
set_option linter.unusedSectionVars false
variable {α : Type}
section
variable {s : ByteArray} {kd c0 c1 : Int} {W X Y : Rows} {L : List Int} (hL : L.length ≤ 1000) {nx dx ny dy : Int → Int}
  (hex : ∀ w ∈ L, ∀ k : Int → Int → Int → Int → Option α, f73_0 α s kd W X Y c0 c1 w k = k (nx w) (dx w) (ny w) (dy w))
  (hb : ∀ w ∈ L, (0 < dx w ∧ dx w ≤ 9223372036854775807 ∧ -9223372036854775807 ≤ nx w ∧ nx w ≤ 9223372036854775807) ∧ (0 < dy w ∧ dy w ≤ 9223372036854775807 ∧ -9223372036854775807 ≤ ny w ∧ ny w ≤ 9223372036854775807))
include hL hex hb
end
end Go.AM.K
