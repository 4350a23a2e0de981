/-
  No cell of these rows narrows 'for every input' (looked for: loops, veiled, ifaces, maps, wideKeys, modest, calm, conditions, laid).
  DERIVED. THE GIVEN ROWS OF THIS SEAT. 3 by the template 'for every input the law returns true; each argument reads behind the call as it read before'; 0 by the template 'total and deterministic' (their statements: YtffcelhcekillaaGreatTotals.lean).
  GIVEN WITH THE SEED: the statements are not yours to turn. If you find one false, say at which input.
  Laid BY PROGRAM, IN A SANDBOX (cutbox-rows.mjs): the forced cells as the released guide's own fill.sh prints them over the translation 3539f56e71c6950e… (all of the seat's roots in one cut). By AI agents, Wed Nov 11 2026. No macro, syntax, notation, axiom, sorry.
-/
import Derived.Test.YtffcelhcekillaaGreatChecked
import GoSem.Claim
import GoSem.ClaimJoined
import GoSem.ClaimMapViews
import Derived.JoinedTies
import Derived.KernelRfl
namespace Go.Proofs.YtffcelhcekillaaGreat
/- THE CELL 'sum', in the pinned program and in every row, IS THE sha256 OF THE DUMP (.gsa) THAT YtffcelhcekillaaGreatProg.lean LOADS. Nothing in Lean hashes anything: it is a label: what it is worth is what the hold of that sum in a sandbox is worth. -/
noncomputable def Tryz.pinned : Pinned := { name := "ytffcelhcekillaagreat", sum := "3539f56e71c6950e98cadc5bccc00df7486ff37e8c2c674f86d82ea4acf2ae71", checked := Tryz.checked }
namespace Rows
def none {H : Type} : Left H := { results := [], args := [] }

/-- 'etalonlaw08.GrowTolerates': WHATEVER THE INPUT: true; the input reads as it did. -/
def growToleratesSpec : ChangeSpec := { name := "growTolerates", fn := fun _ => fun
  | [d1, d2] => { results := [.lit (.bool true)], args := [d1, d2] }
  | _ => none }
def growToleratesRow : OpenClaim := { program := "ytffcelhcekillaagreat", sum := "3539f56e71c6950e98cadc5bccc00df7486ff37e8c2c674f86d82ea4acf2ae71", func := "etalon/etalonlaw08.GrowTolerates", spec := "growTolerates", inPlace := ["math.archTrunc", "math.Float64bits", "math.Float64frombits", "math.sqrt"], unfollowed := true, recurses := true, named := ["math/bits.divideError", "math/bits.overflowError"], apart := false }
def GrowToleratesSaid : Prop := growToleratesRow.holds Tryz.pinned (OpenSpec.ofChange growToleratesSpec)

/-- ITS FALSE NEIGHBOUR: 'it returns false'. Refute it at one input. -/
def growToleratesWrong : ChangeSpec := { name := "growTolerates", fn := fun _ => fun
  | [d1, d2] => { results := [.lit (.bool false)], args := [d1, d2] }
  | _ => none }
def GrowToleratesWrongFalsely : Prop := growToleratesRow.holds Tryz.pinned (OpenSpec.ofChange growToleratesWrong)

/-- 'etalonlaw08.GrowReleases': WHATEVER THE INPUT: true; the input reads as it did. -/
def growReleasesSpec : ChangeSpec := { name := "growReleases", fn := fun _ => fun
  | [d] => { results := [.lit (.bool true)], args := [d] }
  | _ => none }
def growReleasesRow : OpenClaim := { program := "ytffcelhcekillaagreat", sum := "3539f56e71c6950e98cadc5bccc00df7486ff37e8c2c674f86d82ea4acf2ae71", func := "etalon/etalonlaw08.GrowReleases", spec := "growReleases", inPlace := ["math.archTrunc", "math.Float64bits", "math.Float64frombits", "math.sqrt"], unfollowed := true, recurses := true, named := ["math/bits.divideError", "math/bits.overflowError"], apart := false }
def GrowReleasesSaid : Prop := growReleasesRow.holds Tryz.pinned (OpenSpec.ofChange growReleasesSpec)

/-- ITS FALSE NEIGHBOUR: 'it returns false'. Refute it at one input. -/
def growReleasesWrong : ChangeSpec := { name := "growReleases", fn := fun _ => fun
  | [d] => { results := [.lit (.bool false)], args := [d] }
  | _ => none }
def GrowReleasesWrongFalsely : Prop := growReleasesRow.holds Tryz.pinned (OpenSpec.ofChange growReleasesWrong)

/-- 'etalonlaw08.GrowCompensates': WHATEVER THE INPUT: true; the input reads as it did. -/
def growCompensatesSpec : ChangeSpec := { name := "growCompensates", fn := fun _ => fun
  | [d1, d2] => { results := [.lit (.bool true)], args := [d1, d2] }
  | _ => none }
def growCompensatesRow : OpenClaim := { program := "ytffcelhcekillaagreat", sum := "3539f56e71c6950e98cadc5bccc00df7486ff37e8c2c674f86d82ea4acf2ae71", func := "etalon/etalonlaw08.GrowCompensates", spec := "growCompensates", inPlace := ["math.archTrunc", "math.Float64bits", "math.Float64frombits", "math.sqrt"], unfollowed := true, recurses := true, named := ["math/bits.divideError", "math/bits.overflowError"], apart := false }
def GrowCompensatesSaid : Prop := growCompensatesRow.holds Tryz.pinned (OpenSpec.ofChange growCompensatesSpec)

/-- ITS FALSE NEIGHBOUR: 'it returns false'. Refute it at one input. -/
def growCompensatesWrong : ChangeSpec := { name := "growCompensates", fn := fun _ => fun
  | [d1, d2] => { results := [.lit (.bool false)], args := [d1, d2] }
  | _ => none }
def GrowCompensatesWrongFalsely : Prop := growCompensatesRow.holds Tryz.pinned (OpenSpec.ofChange growCompensatesWrong)

/- THE SECOND FORM. 'bulk': how many values and letters a reading holds, each counted each time it is reached (what is shared counts as often as it is met; a slice's spare places count too). A statement '..UptoSaid' is the law's where the arguments, and the package variables that the reading takes, are together of bulk at most 1048576: NARROWER than '..Said'. Prove '..Said' where nothing that the law and all that it calls make is longer than what came in: it says more and counts as full. Else prove '..UptoSaid'. A law counts once. -/
mutual
def uptoBulk {H : Type} : DataW H → Nat
  | .lit (.string bytes) => bytes.length + 1
  | .lit _ => 1
  | .nil => 1
  | .ptr d => uptoBulk d + 1
  | .slice elems spare => uptoBulkAll elems + uptoBulkAll spare + 1
  | .agg parts => uptoBulkAll parts + 1
  | .iface _ d => uptoBulk d + 1
  | .map entries => uptoBulkEntries entries + 1
  | .held _ => 1
def uptoBulkAll {H : Type} : List (DataW H) → Nat
  | [] => 0
  | d :: r => uptoBulk d + uptoBulkAll r
def uptoBulkEntries {H : Type} : List (Lit × DataW H) → Nat
  | [] => 0
  | x :: r => uptoBulkEntry x + uptoBulkEntries r
def uptoBulkEntry {H : Type} : Lit × DataW H → Nat
  | (.string bytes, d) => bytes.length + uptoBulk d + 1
  | (_, d) => uptoBulk d + 1
 end
def uptoSmall : (H : Type) → List (DataW H) → Bool := fun _ ds => decide (uptoBulkAll ds ≤ 1048576)
def OpenSpec.upto (s : _root_.Go.ChangeSpec) : _root_.Go.OpenSpec := { _root_.Go.OpenSpec.ofChange s with cond := some uptoSmall }

/-- 'etalonlaw08.GrowTolerates', WHERE WHAT IT READS IS OF BULK AT MOST 1048576: true; the input reads as it did. -/
def growToleratesUptoRow : OpenClaim := { program := "ytffcelhcekillaagreat", sum := "3539f56e71c6950e98cadc5bccc00df7486ff37e8c2c674f86d82ea4acf2ae71", func := "etalon/etalonlaw08.GrowTolerates", spec := "growTolerates", inPlace := ["math.archTrunc", "math.Float64bits", "math.Float64frombits", "math.sqrt"], unfollowed := true, recurses := true, named := ["math/bits.divideError", "math/bits.overflowError"], apart := false, narrowed := true }
def GrowToleratesUptoSaid : Prop := growToleratesUptoRow.holds Tryz.pinned (OpenSpec.upto growToleratesSpec)

/-- 'etalonlaw08.GrowReleases', WHERE WHAT IT READS IS OF BULK AT MOST 1048576: true; the input reads as it did. -/
def growReleasesUptoRow : OpenClaim := { program := "ytffcelhcekillaagreat", sum := "3539f56e71c6950e98cadc5bccc00df7486ff37e8c2c674f86d82ea4acf2ae71", func := "etalon/etalonlaw08.GrowReleases", spec := "growReleases", inPlace := ["math.archTrunc", "math.Float64bits", "math.Float64frombits", "math.sqrt"], unfollowed := true, recurses := true, named := ["math/bits.divideError", "math/bits.overflowError"], apart := false, narrowed := true }
def GrowReleasesUptoSaid : Prop := growReleasesUptoRow.holds Tryz.pinned (OpenSpec.upto growReleasesSpec)

/-- 'etalonlaw08.GrowCompensates', WHERE WHAT IT READS IS OF BULK AT MOST 1048576: true; the input reads as it did. -/
def growCompensatesUptoRow : OpenClaim := { program := "ytffcelhcekillaagreat", sum := "3539f56e71c6950e98cadc5bccc00df7486ff37e8c2c674f86d82ea4acf2ae71", func := "etalon/etalonlaw08.GrowCompensates", spec := "growCompensates", inPlace := ["math.archTrunc", "math.Float64bits", "math.Float64frombits", "math.sqrt"], unfollowed := true, recurses := true, named := ["math/bits.divideError", "math/bits.overflowError"], apart := false, narrowed := true }
def GrowCompensatesUptoSaid : Prop := growCompensatesUptoRow.holds Tryz.pinned (OpenSpec.upto growCompensatesSpec)

end Rows
end Go.Proofs.YtffcelhcekillaaGreat
