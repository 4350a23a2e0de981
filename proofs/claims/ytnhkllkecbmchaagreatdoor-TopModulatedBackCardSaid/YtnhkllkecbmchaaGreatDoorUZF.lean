/- The closed facts that the row of topModulatedBack asks of the program. -/
import Derived.Test.YtnhkllkecbmchaaGreatDoorRows
import Derived.JoinedOf
namespace Go.Proofs.YtnhkllkecbmchaaGreatDoor.Tm8
theorem band {a b : Bool} (h : a = true) (k : b = true) : (a && b) = true := by rw [h, k]; rfl
theorem q1 : Rows.topModulatedBackRow.wf (OpenSpec.ofChange Rows.topModulatedBackSpec) = true := by kernel_rfl
theorem q2 : laidOutB Tryz.prog = true := by kernel_rfl
theorem q3 : mapsRowed Tryz.prog = true := by kernel_rfl
theorem q4 : Tryz.f8.params.all (Tryz.prog.readableRec ·) = true := by kernel_rfl
theorem q5 : namedTie Tryz.prog Rows.topModulatedBackRow.named Rows.topModulatedBackSpec.vars = true := by kernel_rfl
theorem q6 : (Rows.topModulatedBackRow.stops == []) = true := by kernel_rfl
theorem q7 : (Tryz.prog.stops == []) = true := by kernel_rfl
theorem q8 : (Rows.topModulatedBackRow.knobs == []) = true := by kernel_rfl
theorem q9 : (Tryz.prog.stopKnobs == []) = true := by kernel_rfl
theorem q10 : (Rows.topModulatedBackRow.inPlace == Tryz.prog.inPlace 8) = true := by kernel_rfl
theorem q11 : (Rows.topModulatedBackRow.unfollowed == Tryz.prog.unfollowed 8) = true := by kernel_rfl
theorem q12 : (Rows.topModulatedBackRow.recurses == Tryz.prog.recurses 8) = true := by kernel_rfl
theorem q13 : (Rows.topModulatedBackRow.named == Tryz.prog.varsNamed 8) = true := by kernel_rfl
theorem q14 : (Rows.topModulatedBackRow.maps == (Tryz.f8.params.toList ++ Rows.topModulatedBackSpec.plain.varTypes Tryz.prog).any (Tryz.prog.mapsRec ·)) = true := by kernel_rfl
theorem q15 : (Rows.topModulatedBackRow.ifaces == (Tryz.f8.params.toList ++ Rows.topModulatedBackSpec.plain.varTypes Tryz.prog).any (Tryz.prog.ifacesRec ·)) = true := by kernel_rfl
theorem q16 : (Rows.topModulatedBackRow.mapsOut == Tryz.prog.mapsAmong Tryz.f8.resultTypes.toList) = true := by kernel_rfl
theorem q17 : (Rows.topModulatedBackRow.loops == (Tryz.f8.params.toList ++ Rows.topModulatedBackSpec.plain.varTypes Tryz.prog).any (Tryz.prog.loopsFrom ·)) = true := by kernel_rfl
theorem q18 : (Rows.topModulatedBackRow.wideKeys == (Tryz.f8.params.toList ++ Rows.topModulatedBackSpec.plain.varTypes Tryz.prog ++ Tryz.f8.resultTypes.toList).any (Tryz.prog.wideKeysFrom ·)) = true := by kernel_rfl
theorem q19 : Rows.topModulatedBackSpec.vars.all (Tryz.prog.varReadable ·) = true := by kernel_rfl
theorem q20 : Tryz.f8.resultTypes.all (fun t => Tryz.prog.readableRec t && decide (t < Tryz.prog.types.size)) = true := by kernel_rfl
theorem q21 : (Rows.topModulatedBackRow.ifacesOut == Tryz.f8.resultTypes.toList.any (Tryz.prog.ifacesRec ·)) = true := by kernel_rfl
theorem q22 : (Rows.topModulatedBackRow.loopsOut == Tryz.f8.resultTypes.toList.any (Tryz.prog.loopsFrom ·)) = true := by kernel_rfl
theorem q23 : (Rows.topModulatedBackRow.plainKeys == Tryz.prog.plainKeys) = true := by kernel_rfl
theorem q24 : Rows.topModulatedBackRow.shortTexts.isNone = true := by kernel_rfl
theorem q25 : Tryz.prog.stopsHeard = true := by kernel_rfl
theorem q26 : Tryz.prog.mayEnter = true := by kernel_rfl
theorem q27 : (Rows.topModulatedBackRow.lifted == Tryz.prog.liftsFinal) = true := by kernel_rfl
theorem q28 : (Tryz.prog.make == some Rows.topModulatedBackRow.make) = true := by kernel_rfl
theorem q29 : (Rows.topModulatedBackRow.kinds == (if Rows.topModulatedBackRow.domain.isEmpty then [] else Tryz.f8.params.toList.map fun t => match Tryz.prog.underlying t with | some (.int k) => some k | _ => none)) = true := by kernel_rfl
theorem q30 : (Rows.topModulatedBackRow.pinned == Rows.topModulatedBackRow.pinnedBy) = true := by kernel_rfl
theorem q31 : (Rows.topModulatedBackRow.veiled == (Tryz.f8.params.toList ++ Rows.topModulatedBackSpec.plain.varTypes Tryz.prog ++ Tryz.f8.resultTypes.toList).any (Tryz.prog.veiledRec ·)) = true := by kernel_rfl
theorem q32 : Rows.topModulatedBackRow.veiledFits Tryz.prog Tryz.f8.params.toList (Tryz.f8.params.toList ++ Rows.topModulatedBackSpec.plain.varTypes Tryz.prog ++ Tryz.f8.resultTypes.toList) = true := by kernel_rfl
end Go.Proofs.YtnhkllkecbmchaaGreatDoor.Tm8
