/- The closed facts that the row of growStops asks of the program. -/
import Derived.Test.YtnhkllkecbmchaaGreatDoorRows
import Derived.JoinedOf
namespace Go.Proofs.YtnhkllkecbmchaaGreatDoor.Td3
theorem band {a b : Bool} (h : a = true) (k : b = true) : (a && b) = true := by rw [h, k]; rfl
theorem q1 : Rows.growStopsRow.wf (OpenSpec.ofChange Rows.growStopsSpec) = true := by kernel_rfl
theorem q2 : laidOutB Tryz.prog = true := by kernel_rfl
theorem q3 : mapsRowed Tryz.prog = true := by kernel_rfl
theorem q4 : Tryz.f3.params.all (Tryz.prog.readableRec ·) = true := by kernel_rfl
theorem q5 : namedTie Tryz.prog Rows.growStopsRow.named Rows.growStopsSpec.vars = true := by kernel_rfl
theorem q6 : (Rows.growStopsRow.stops == []) = true := by kernel_rfl
theorem q7 : (Tryz.prog.stops == []) = true := by kernel_rfl
theorem q8 : (Rows.growStopsRow.knobs == []) = true := by kernel_rfl
theorem q9 : (Tryz.prog.stopKnobs == []) = true := by kernel_rfl
theorem q10 : (Rows.growStopsRow.inPlace == Tryz.prog.inPlace 3) = true := by kernel_rfl
theorem q11 : (Rows.growStopsRow.unfollowed == Tryz.prog.unfollowed 3) = true := by kernel_rfl
theorem q12 : (Rows.growStopsRow.recurses == Tryz.prog.recurses 3) = true := by kernel_rfl
theorem q13 : (Rows.growStopsRow.named == Tryz.prog.varsNamed 3) = true := by kernel_rfl
theorem q14 : (Rows.growStopsRow.maps == (Tryz.f3.params.toList ++ Rows.growStopsSpec.plain.varTypes Tryz.prog).any (Tryz.prog.mapsRec ·)) = true := by kernel_rfl
theorem q15 : (Rows.growStopsRow.ifaces == (Tryz.f3.params.toList ++ Rows.growStopsSpec.plain.varTypes Tryz.prog).any (Tryz.prog.ifacesRec ·)) = true := by kernel_rfl
theorem q16 : (Rows.growStopsRow.mapsOut == Tryz.prog.mapsAmong Tryz.f3.resultTypes.toList) = true := by kernel_rfl
theorem q17 : (Rows.growStopsRow.loops == (Tryz.f3.params.toList ++ Rows.growStopsSpec.plain.varTypes Tryz.prog).any (Tryz.prog.loopsFrom ·)) = true := by kernel_rfl
theorem q18 : (Rows.growStopsRow.wideKeys == (Tryz.f3.params.toList ++ Rows.growStopsSpec.plain.varTypes Tryz.prog ++ Tryz.f3.resultTypes.toList).any (Tryz.prog.wideKeysFrom ·)) = true := by kernel_rfl
theorem q19 : Rows.growStopsSpec.vars.all (Tryz.prog.varReadable ·) = true := by kernel_rfl
theorem q20 : Tryz.f3.resultTypes.all (fun t => Tryz.prog.readableRec t && decide (t < Tryz.prog.types.size)) = true := by kernel_rfl
theorem q21 : (Rows.growStopsRow.ifacesOut == Tryz.f3.resultTypes.toList.any (Tryz.prog.ifacesRec ·)) = true := by kernel_rfl
theorem q22 : (Rows.growStopsRow.loopsOut == Tryz.f3.resultTypes.toList.any (Tryz.prog.loopsFrom ·)) = true := by kernel_rfl
theorem q23 : (Rows.growStopsRow.plainKeys == Tryz.prog.plainKeys) = true := by kernel_rfl
theorem q24 : Rows.growStopsRow.shortTexts.isNone = true := by kernel_rfl
theorem q25 : Tryz.prog.stopsHeard = true := by kernel_rfl
theorem q26 : Tryz.prog.mayEnter = true := by kernel_rfl
theorem q27 : (Rows.growStopsRow.lifted == Tryz.prog.liftsFinal) = true := by kernel_rfl
theorem q28 : (Tryz.prog.make == some Rows.growStopsRow.make) = true := by kernel_rfl
theorem q29 : (Rows.growStopsRow.kinds == (if Rows.growStopsRow.domain.isEmpty then [] else Tryz.f3.params.toList.map fun t => match Tryz.prog.underlying t with | some (.int k) => some k | _ => none)) = true := by kernel_rfl
theorem q30 : (Rows.growStopsRow.pinned == Rows.growStopsRow.pinnedBy) = true := by kernel_rfl
theorem q31 : (Rows.growStopsRow.veiled == (Tryz.f3.params.toList ++ Rows.growStopsSpec.plain.varTypes Tryz.prog ++ Tryz.f3.resultTypes.toList).any (Tryz.prog.veiledRec ·)) = true := by kernel_rfl
theorem q32 : Rows.growStopsRow.veiledFits Tryz.prog Tryz.f3.params.toList (Tryz.f3.params.toList ++ Rows.growStopsSpec.plain.varTypes Tryz.prog ++ Tryz.f3.resultTypes.toList) = true := by kernel_rfl
end Go.Proofs.YtnhkllkecbmchaaGreatDoor.Td3
