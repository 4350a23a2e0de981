/- The closed facts that the row of meterTexts asks of the program. -/
import Derived.Test.YtnhkllkecbmchaaGreatDoorRows
import Derived.JoinedOf
namespace Go.Proofs.YtnhkllkecbmchaaGreatDoor.Mt4
theorem band {a b:Bool}(h:a=true)(k:b=true):(a && b)=true:=by rw [h,k];rfl
theorem q1:Rows.meterTextsRow.wf (OpenSpec.ofChange Rows.meterTextsSpec)=true:=by kernel_rfl
theorem q2:laidOutB Tryz.prog=true:=by kernel_rfl
theorem q3:mapsRowed Tryz.prog=true:=by kernel_rfl
theorem q4:Tryz.f4.params.all (Tryz.prog.readableRec ·)=true:=by kernel_rfl
theorem q5:namedTie Tryz.prog Rows.meterTextsRow.named Rows.meterTextsSpec.vars=true:=by kernel_rfl
theorem q6:(Rows.meterTextsRow.stops == [])=true:=by kernel_rfl
theorem q7:(Tryz.prog.stops == [])=true:=by kernel_rfl
theorem q8:(Rows.meterTextsRow.knobs == [])=true:=by kernel_rfl
theorem q9:(Tryz.prog.stopKnobs == [])=true:=by kernel_rfl
theorem q10:(Rows.meterTextsRow.inPlace == Tryz.prog.inPlace 4)=true:=by kernel_rfl
theorem q11:(Rows.meterTextsRow.unfollowed == Tryz.prog.unfollowed 4)=true:=by kernel_rfl
theorem q12:(Rows.meterTextsRow.recurses == Tryz.prog.recurses 4)=true:=by kernel_rfl
theorem q13:(Rows.meterTextsRow.named == Tryz.prog.varsNamed 4)=true:=by kernel_rfl
theorem q14:(Rows.meterTextsRow.maps == (Tryz.f4.params.toList++Rows.meterTextsSpec.plain.varTypes Tryz.prog).any (Tryz.prog.mapsRec ·))=true:=by kernel_rfl
theorem q15:(Rows.meterTextsRow.ifaces == (Tryz.f4.params.toList++Rows.meterTextsSpec.plain.varTypes Tryz.prog).any (Tryz.prog.ifacesRec ·))=true:=by kernel_rfl
theorem q16:(Rows.meterTextsRow.mapsOut == Tryz.prog.mapsAmong Tryz.f4.resultTypes.toList)=true:=by kernel_rfl
theorem q17:(Rows.meterTextsRow.loops == (Tryz.f4.params.toList++Rows.meterTextsSpec.plain.varTypes Tryz.prog).any (Tryz.prog.loopsFrom ·))=true:=by kernel_rfl
theorem q18:(Rows.meterTextsRow.wideKeys == (Tryz.f4.params.toList++Rows.meterTextsSpec.plain.varTypes Tryz.prog++Tryz.f4.resultTypes.toList).any (Tryz.prog.wideKeysFrom ·))=true:=by kernel_rfl
theorem q19:Rows.meterTextsSpec.vars.all (Tryz.prog.varReadable ·)=true:=by kernel_rfl
theorem q20:Tryz.f4.resultTypes.all (fun t=>Tryz.prog.readableRec t && decide (t < Tryz.prog.types.size))=true:=by kernel_rfl
theorem q21:(Rows.meterTextsRow.ifacesOut == Tryz.f4.resultTypes.toList.any (Tryz.prog.ifacesRec ·))=true:=by kernel_rfl
theorem q22:(Rows.meterTextsRow.loopsOut == Tryz.f4.resultTypes.toList.any (Tryz.prog.loopsFrom ·))=true:=by kernel_rfl
theorem q23:(Rows.meterTextsRow.plainKeys == Tryz.prog.plainKeys)=true:=by kernel_rfl
theorem q24:Rows.meterTextsRow.shortTexts.isNone=true:=by kernel_rfl
theorem q25:Tryz.prog.stopsHeard=true:=by kernel_rfl
theorem q26:Tryz.prog.mayEnter=true:=by kernel_rfl
theorem q27:(Rows.meterTextsRow.lifted == Tryz.prog.liftsFinal)=true:=by kernel_rfl
theorem q28:(Tryz.prog.make == some Rows.meterTextsRow.make)=true:=by kernel_rfl
theorem q29:(Rows.meterTextsRow.kinds == (if Rows.meterTextsRow.domain.isEmpty then [] else Tryz.f4.params.toList.map fun t=>match Tryz.prog.underlying t with | some (.int k)=>some k | _=>none))=true:=by kernel_rfl
theorem q30:(Rows.meterTextsRow.pinned == Rows.meterTextsRow.pinnedBy)=true:=by kernel_rfl
theorem q31:(Rows.meterTextsRow.veiled == (Tryz.f4.params.toList++Rows.meterTextsSpec.plain.varTypes Tryz.prog++Tryz.f4.resultTypes.toList).any (Tryz.prog.veiledRec ·))=true:=by kernel_rfl
theorem q32:Rows.meterTextsRow.veiledFits Tryz.prog Tryz.f4.params.toList (Tryz.f4.params.toList++Rows.meterTextsSpec.plain.varTypes Tryz.prog++Tryz.f4.resultTypes.toList)=true:=by kernel_rfl
end Go.Proofs.YtnhkllkecbmchaaGreatDoor.Mt4
