/-
  No cell of these rows narrows 'for every input' (looked for: loops, veiled, ifaces, maps, wideKeys, modest, calm, conditions, laid).
  DERIVED. THE GIVEN ROWS OF THIS SEAT. 3 by the template 'for every input the law returns true; each argument reads behind the call as it read before'; 0 by the template 'total and deterministic' (their statements: YtmcplmhohldpjaaGreatTotals.lean).
  GIVEN WITH THE SEED: the statements are not yours to turn. If you find one false, say at which input.
  Laid BY PROGRAM, IN A SANDBOX (cutbox-rows.mjs): the forced cells as the released guide's own fill.sh prints them over the translation d15974fad6acc82a… (all of the seat's roots in one cut). By AI agents, Wed Nov 11 2026. No macro, syntax, notation, axiom, sorry.
-/
import Derived.Test.YtmcplmhohldpjaaGreatChecked
import GoSem.Claim
import GoSem.ClaimJoined
import GoSem.ClaimMapViews
import Derived.JoinedTies
import Derived.KernelRfl
namespace Go.Proofs.YtmcplmhohldpjaaGreat
/- THE CELL 'sum', in the pinned program and in every row, IS THE sha256 OF THE DUMP (.gsa) THAT YtmcplmhohldpjaaGreatProg.lean LOADS. Nothing in Lean hashes anything: it is a label: what it is worth is what the hold of that sum in a sandbox is worth. -/
noncomputable def Tryz.pinned : Pinned := { name := "ytmcplmhohldpjaagreat", sum := "d15974fad6acc82a57b0c4fe33b4b1b120e50893fd6506ea2c1f463d67ff614e", checked := Tryz.checked }
namespace Rows
def none {H : Type} : Left H := { results := [], args := [] }

/-- 'etalontop.TopKeptWithin': WHATEVER THE INPUT: true; the input reads as it did. -/
def topKeptWithinSpec : ChangeSpec := { name := "topKeptWithin", fn := fun _ => fun
  | [d1, d2] => { results := [.lit (.bool true)], args := [d1, d2] }
  | _ => none }
def topKeptWithinRow : OpenClaim := { program := "ytmcplmhohldpjaagreat", sum := "d15974fad6acc82a57b0c4fe33b4b1b120e50893fd6506ea2c1f463d67ff614e", func := "etalon/etalontop.TopKeptWithin", spec := "topKeptWithin", inPlace := ["math.archTrunc", "math.Float64bits", "math.Float64frombits", "math.sqrt"], unfollowed := true, recurses := true, named := ["math/bits.divideError", "math/bits.overflowError"], apart := false }
def TopKeptWithinSaid : Prop := topKeptWithinRow.holds Tryz.pinned (OpenSpec.ofChange topKeptWithinSpec)

/-- ITS FALSE NEIGHBOUR: 'it returns false'. Refute it at one input. -/
def topKeptWithinWrong : ChangeSpec := { name := "topKeptWithin", fn := fun _ => fun
  | [d1, d2] => { results := [.lit (.bool false)], args := [d1, d2] }
  | _ => none }
def TopKeptWithinWrongFalsely : Prop := topKeptWithinRow.holds Tryz.pinned (OpenSpec.ofChange topKeptWithinWrong)

/-- 'etalontop.TopNoFewerLayers': WHATEVER THE INPUT: true; the input reads as it did. -/
def topNoFewerLayersSpec : ChangeSpec := { name := "topNoFewerLayers", fn := fun _ => fun
  | [d1, d2, d3] => { results := [.lit (.bool true)], args := [d1, d2, d3] }
  | _ => none }
def topNoFewerLayersRow : OpenClaim := { program := "ytmcplmhohldpjaagreat", sum := "d15974fad6acc82a57b0c4fe33b4b1b120e50893fd6506ea2c1f463d67ff614e", func := "etalon/etalontop.TopNoFewerLayers", spec := "topNoFewerLayers", inPlace := ["math.archTrunc", "math.Float64bits", "math.Float64frombits", "math.sqrt"], unfollowed := true, recurses := true, named := ["math/bits.divideError", "math/bits.overflowError"], apart := false }
def TopNoFewerLayersSaid : Prop := topNoFewerLayersRow.holds Tryz.pinned (OpenSpec.ofChange topNoFewerLayersSpec)

/-- ITS FALSE NEIGHBOUR: 'it returns false'. Refute it at one input. -/
def topNoFewerLayersWrong : ChangeSpec := { name := "topNoFewerLayers", fn := fun _ => fun
  | [d1, d2, d3] => { results := [.lit (.bool false)], args := [d1, d2, d3] }
  | _ => none }
def TopNoFewerLayersWrongFalsely : Prop := topNoFewerLayersRow.holds Tryz.pinned (OpenSpec.ofChange topNoFewerLayersWrong)

/-- 'etalontop.TopReleasedKeeps': WHATEVER THE INPUT: true; the input reads as it did. -/
def topReleasedKeepsSpec : ChangeSpec := { name := "topReleasedKeeps", fn := fun _ => fun
  | [d1, d2, d3] => { results := [.lit (.bool true)], args := [d1, d2, d3] }
  | _ => none }
def topReleasedKeepsRow : OpenClaim := { program := "ytmcplmhohldpjaagreat", sum := "d15974fad6acc82a57b0c4fe33b4b1b120e50893fd6506ea2c1f463d67ff614e", func := "etalon/etalontop.TopReleasedKeeps", spec := "topReleasedKeeps", inPlace := ["math.archTrunc", "math.Float64bits", "math.Float64frombits", "math.sqrt"], unfollowed := true, recurses := true, named := ["math/bits.divideError", "math/bits.overflowError"], apart := false }
def TopReleasedKeepsSaid : Prop := topReleasedKeepsRow.holds Tryz.pinned (OpenSpec.ofChange topReleasedKeepsSpec)

/-- ITS FALSE NEIGHBOUR: 'it returns false'. Refute it at one input. -/
def topReleasedKeepsWrong : ChangeSpec := { name := "topReleasedKeeps", fn := fun _ => fun
  | [d1, d2, d3] => { results := [.lit (.bool false)], args := [d1, d2, d3] }
  | _ => none }
def TopReleasedKeepsWrongFalsely : Prop := topReleasedKeepsRow.holds Tryz.pinned (OpenSpec.ofChange topReleasedKeepsWrong)

/- THE SECOND FORM. 'bulk': how many values and letters a reading holds, each counted each time it is reached (what is shared counts as often as it is met; a slice's spare places count too). A statement '..UptoSaid' is the law's where the arguments, and the package variables that the reading takes, are together of bulk at most 1048576: NARROWER than '..Said'. Prove '..Said' where nothing that the law and all that it calls make is longer than what came in: it says more and counts as full. Else prove '..UptoSaid'. A law counts once. -/
mutual
def uptoBulk {H : Type} : DataW H → Nat
  | .lit (.string bytes) => bytes.length + 1
  | .lit _ => 1
  | .nil => 1
  | .ptr d => uptoBulk d + 1
  | .slice elems spare => uptoBulkAll elems + uptoBulkAll spare + 1
  | .agg parts => uptoBulkAll parts + 1
  | .iface _ d => uptoBulk d + 1
  | .map entries => uptoBulkEntries entries + 1
  | .held _ => 1
def uptoBulkAll {H : Type} : List (DataW H) → Nat
  | [] => 0
  | d :: r => uptoBulk d + uptoBulkAll r
def uptoBulkEntries {H : Type} : List (Lit × DataW H) → Nat
  | [] => 0
  | x :: r => uptoBulkEntry x + uptoBulkEntries r
def uptoBulkEntry {H : Type} : Lit × DataW H → Nat
  | (.string bytes, d) => bytes.length + uptoBulk d + 1
  | (_, d) => uptoBulk d + 1
 end
def uptoSmall : (H : Type) → List (DataW H) → Bool := fun _ ds => decide (uptoBulkAll ds ≤ 1048576)
def OpenSpec.upto (s : _root_.Go.ChangeSpec) : _root_.Go.OpenSpec := { _root_.Go.OpenSpec.ofChange s with cond := some uptoSmall }

/-- 'etalontop.TopKeptWithin', WHERE WHAT IT READS IS OF BULK AT MOST 1048576: true; the input reads as it did. -/
def topKeptWithinUptoRow : OpenClaim := { program := "ytmcplmhohldpjaagreat", sum := "d15974fad6acc82a57b0c4fe33b4b1b120e50893fd6506ea2c1f463d67ff614e", func := "etalon/etalontop.TopKeptWithin", spec := "topKeptWithin", inPlace := ["math.archTrunc", "math.Float64bits", "math.Float64frombits", "math.sqrt"], unfollowed := true, recurses := true, named := ["math/bits.divideError", "math/bits.overflowError"], apart := false, narrowed := true }
def TopKeptWithinUptoSaid : Prop := topKeptWithinUptoRow.holds Tryz.pinned (OpenSpec.upto topKeptWithinSpec)

/-- 'etalontop.TopNoFewerLayers', WHERE WHAT IT READS IS OF BULK AT MOST 1048576: true; the input reads as it did. -/
def topNoFewerLayersUptoRow : OpenClaim := { program := "ytmcplmhohldpjaagreat", sum := "d15974fad6acc82a57b0c4fe33b4b1b120e50893fd6506ea2c1f463d67ff614e", func := "etalon/etalontop.TopNoFewerLayers", spec := "topNoFewerLayers", inPlace := ["math.archTrunc", "math.Float64bits", "math.Float64frombits", "math.sqrt"], unfollowed := true, recurses := true, named := ["math/bits.divideError", "math/bits.overflowError"], apart := false, narrowed := true }
def TopNoFewerLayersUptoSaid : Prop := topNoFewerLayersUptoRow.holds Tryz.pinned (OpenSpec.upto topNoFewerLayersSpec)

/-- 'etalontop.TopReleasedKeeps', WHERE WHAT IT READS IS OF BULK AT MOST 1048576: true; the input reads as it did. -/
def topReleasedKeepsUptoRow : OpenClaim := { program := "ytmcplmhohldpjaagreat", sum := "d15974fad6acc82a57b0c4fe33b4b1b120e50893fd6506ea2c1f463d67ff614e", func := "etalon/etalontop.TopReleasedKeeps", spec := "topReleasedKeeps", inPlace := ["math.archTrunc", "math.Float64bits", "math.Float64frombits", "math.sqrt"], unfollowed := true, recurses := true, named := ["math/bits.divideError", "math/bits.overflowError"], apart := false, narrowed := true }
def TopReleasedKeepsUptoSaid : Prop := topReleasedKeepsUptoRow.holds Tryz.pinned (OpenSpec.upto topReleasedKeepsSpec)

end Rows
end Go.Proofs.YtmcplmhohldpjaaGreat
