/- The closed facts of the row, together. -/
import Derived.Test.YtnhkllkecbmchaaGreatDoorXZF
namespace Go.Proofs.YtnhkllkecbmchaaGreatDoor.Mt4
set_option maxRecDepth 100000
theorem closed:joinedFacts Tryz.prog 4 Tryz.f4 Rows.meterTextsSpec Rows.meterTextsRow=true:=by
 unfold joinedFacts
 exact (band (band (band (band (band (band (band (band (band (band (band (band (band (band (band (band (band (band (band (band (band (band (band (band (band (band (band (band (band (band (band q1 q2) q3) q4) q5) q6) q7) q8) q9) q10) q11) q12) q13) q14) q15) q16) q17) q18) q19) q20) q21) q22) q23) q24) q25) q26) q27) q28) q29) q30) q31) q32)
theorem inst:Tryz.f4.isInstance Tryz.prog Rows.meterTextsRow.origin Rows.meterTextsRow.targs:=of_decide_eq_true (by kernel_rfl)
theorem wrapper:Tryz.f4.isWrapper Tryz.prog Rows.meterTextsRow.wrapper Rows.meterTextsRow.mainSum:=by unfold Func.isWrapper;first | (rw [if_pos (by decide +kernel)];kernel_rfl) | (rw [if_neg (by decide +kernel)];exact⟨rfl,rfl⟩)
theorem named:Tryz.prog.funcNamed Rows.meterTextsRow.func=some 4:=by kernel_rfl
end Go.Proofs.YtnhkllkecbmchaaGreatDoor.Mt4
