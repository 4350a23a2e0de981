/- Printed by KGen. -/
import Derived.Test.YtjifpcjmnhnpkaaKTr
import Derived.Test.YtjifpcjmnhnpkaaAcX
namespace Go.AM.K
open Go.Proofs
set_option maxRecDepth 100000
set_option linter.unusedVariables false
abbrev nt14 : Nat := 89
def sh14 : List (Nat × List Sh) := [(17, [.int .i64, .int .i64, .int .i64, .int .i64, .int .i64, .int .i64, .int .i64, .int .i64, .int .i64, .int .i64]), (20, [.int .i64, .int .i64, .int .i64, .int .i64, .int .i64, .int .i64, .int .i64, .int .i64, .int .i64, .int .i64]), (24, [.int .i64, .int .i64, .int .i64, .int .i64, .int .i64, .int .i64]), (26, [.int .i64, .int .i64, .int .i64, .int .i64, .int .i64, .int .i64]), (32, [.int .i64, .int .i64, .int .i64, .int .i64, .int .i64, .int .i64, .int .i64, .int .i64, .int .i64, .int .i64]), (34, [.int .i64, .int .i64, .int .i64, .int .i64, .int .i64, .int .i64, .int .i64, .int .i64, .int .i64, .int .i64]), (39, [.int .i64, .int .i64, .int .i64]), (44, [.int .i64, .int .i64, .int .i64, .int .i64, .int .i64, .int .i64, .int .i64, .int .i64, .int .i64, .int .i64]), (49, [.int .i64, .int .i64, .int .i64, .int .i64, .int .i64, .int .i64, .int .i64, .int .i64, .int .i64, .int .i64]), (55, [.int .i64, .int .i64, .int .i64, .int .i64, .int .i64, .int .i64, .int .i64, .int .i64, .int .i64, .int .i64]), (57, [.int .i64, .int .i64, .int .i64, .int .i64, .int .i64, .int .i64, .int .i64, .int .i64, .int .i64, .int .i64]), (65, [.int .i64, .int .i64, .int .i64, .int .i64, .int .i64, .int .i64, .int .i64, .int .i64, .int .i64, .int .i64]), (66, [.int .i64, .int .i64, .int .i64, .int .i64, .int .i64, .int .i64, .int .i64, .int .i64, .int .i64, .int .i64]), (69, [.int .i64, .int .i64, .int .i64]), (77, [.int .i64, .int .i64, .int .i64, .int .i64, .int .i64, .int .i64, .int .i64, .int .i64, .int .i64, .int .i64]), (84, [.int .i64, .int .i64, .int .i64, .int .i64, .int .i64, .int .i64, .int .i64, .int .i64, .int .i64, .int .i64]), (85, [.int .i64, .int .i64, .int .i64])]
def r14_2 : List AOper := [oO 3 (.box (.tmp 0)), oO 4 (.box (.tmp 1)), oO 5 (.box (.tmp 2)), oO 6 (.mv (.const (.bool false)))]
def r14_5 : List AOper := [oO 14 (.call 15 []), oO 15 (.pure (oB (.unOp .not 4 (.tmp 14)) 4))]
def r14_8 : List AOper := [oO 6 (.mv (.const (.bool false)))]
def r14_11 : List AOper := [oO 16 (.iaddr 10 (some 2) (.tmp 3) (kI 0)), oO 17 (.load true 10 (.tmp 16)), oO 18 (.call 58 [(.tmp 17)]), oO 19 (.iaddr 10 (some 2) (.tmp 3) (kI 0)), oO 20 (.load true 10 (.tmp 19)), oO 21 (.call 59 [(.tmp 20)]), oO 22 (.bin .neq 3 (.tmp 18) (.tmp 21)), oM 23 22, oG 24 (.load true 6 (.tmp 5)) 23 false, oG 25 (.call 60 [(.tmp 24)]) 23 false, oG 26 (.load true 6 (.tmp 5)) 23 false, oG 27 (.call 24 [(.tmp 26)]) 23 false, oG 28 (.bin .neq 3 (.tmp 25) (.tmp 27)) 23 false, oO 29 (.pick (.tmp 23) (.const (.bool true)) (.tmp 28))]
def r14_14 : List AOper := [oO 6 (.mv (.const (.bool false)))]
def r14_16 : List AOper := [oO 31 (.iaddr 10 (some 2) (.tmp 3) (kI 0)), oO 32 (.load true 10 (.tmp 31)), oO 33 (.iaddr 10 (some 2) (.tmp 3) (kI 1)), oO 34 (.load true 10 (.tmp 33)), oO 35 (.call 61 [(.tmp 32), (.tmp 34)]), oM 30 35, oO 36 (.extract 0 (.tmp 30)), oO 37 (.extract 1 (.tmp 30)), oO 7 (.alloc [(cI 0), (cI 0), (cI 0), (cI 0), (cI 0), (cI 0), (cI 0), (cI 0), (cI 0), (cI 0)]), oD (.store 10 (.tmp 7) (.tmp 36)), oM 8 37]
def r14_18 : List AOper := [oO 39 (.load true 3 (.tmp 4)), oO 40 (.call 62 [(.tmp 39)]), oM 38 40, oO 41 (.extract 0 (.tmp 38)), oO 42 (.extract 1 (.tmp 38)), oO 9 (.alloc [(cI 0), (cI 0), (cI 0), (cI 0), (cI 0), (cI 0), (cI 0), (cI 0), (cI 0), (cI 0)]), oD (.store 10 (.tmp 9) (.tmp 41)), oM 10 42]
def r14_20 : List AOper := [oO 43 (.iaddr 10 (some 2) (.tmp 3) (kI 0)), oO 44 (.load true 10 (.tmp 43)), oO 45 (.call 59 [(.tmp 44)]), oM 11 45]
def r14_23 : List AOper := [oM 46 11, oO 47 (.bin .eql 3 (.tmp 46) (kI 0))]
def r14_25 : List AOper := [oO 48 (.iaddr 10 (some 2) (.tmp 3) (kI 1)), oO 49 (.load true 10 (.tmp 48)), oO 50 (.call 59 [(.tmp 49)]), oM 11 50]
def r14_27 : List AOper := [oO 12 (.alloc [(cI 0), (cI 0), (cI 0), (cI 0), (cI 0), (cI 0), (cI 0), (cI 0), (cI 0), (cI 0)])]
def r14_30 : List AOper := [oM 51 11, oO 52 (.bin .eql 3 (.tmp 51) (kI 0))]
def r14_32 : List AOper := [oO 54 (.iaddr 10 (some 2) (.tmp 3) (kI 0)), oO 55 (.load true 10 (.tmp 54)), oO 56 (.iaddr 10 (some 2) (.tmp 3) (kI 1)), oO 57 (.load true 10 (.tmp 56)), oO 58 (.call 63 [(.tmp 55), (.tmp 57)]), oM 53 58, oO 59 (.extract 0 (.tmp 53)), oO 60 (.extract 1 (.tmp 53)), oD (.store 10 (.tmp 12) (.tmp 59)), oM 11 60]
def r14_35 : List AOper := [oM 61 8, oM 62 11, oO 63 (.bin .neq 3 (.tmp 61) (.tmp 62)), oM 64 63, oG 65 (.load true 10 (.tmp 7)) 64 false, oG 66 (.load true 10 (.tmp 12)) 64 false, oG 67 (.bin .neq 127 (.tmp 65) (.tmp 66)) 64 false, oO 68 (.pick (.tmp 64) (.const (.bool true)) (.tmp 67))]
def r14_38 : List AOper := [oO 6 (.mv (.const (.bool false)))]
def r14_41 : List AOper := [oO 69 (.load true 3 (.tmp 4)), oO 70 (.call 30 [(.tmp 69)]), oM 13 70]
def r14_43 : List AOper := [oM 71 13, oO 72 (.bin .neq 3 (.tmp 71) (kI 0))]
def r14_46 : List AOper := [oM 73 10, oM 74 13, oO 75 (.bin .eql 3 (.tmp 73) (.tmp 74)), oM 76 75, oG 77 (.load true 10 (.tmp 9)) 76 true, oG 78 (.build [(cI 0), (cI 0), (cI 0), (cI 0), (cI 0), (cI 0), (cI 0), (cI 0), (cI 0), (cI 0)] []) 76 true, oG 79 (.bin .eql 127 (.tmp 77) (.tmp 78)) 76 true, oO 80 (.pick (.tmp 76) (.tmp 79) (.const (.bool false))), oM 6 80]
def r14_48 : List AOper := [oM 81 10, oO 82 (.bin .eql 28 (.tmp 81) (kI 0)), oM 83 82, oG 84 (.load true 10 (.tmp 9)) 83 true, oG 85 (.load true 3 (.tmp 4)) 83 true, oG 86 (.call 64 [(.tmp 85)]) 83 true, oG 87 (.bin .eql 127 (.tmp 84) (.tmp 86)) 83 true, oO 88 (.pick (.tmp 83) (.tmp 87) (.const (.bool false))), oM 6 88]
def tr14 : List (Nat × Tidy) := [tT 0 [3, 4, 5], tT 1 [3, 4, 5, 15], tT 2 [6], tT 3 [3, 4, 29], tT 4 [6], tT 5 [3, 4, 7, 8], tT 6 [3, 4, 7, 8, 9, 10], tT 7 [3, 4, 7, 8, 9, 10, 11], tT 8 [3, 4, 7, 8, 9, 10, 11, 47], tT 9 [3, 4, 7, 8, 9, 10, 11], tT 10 [3, 4, 7, 8, 9, 10, 11, 12], tT 11 [3, 4, 7, 8, 9, 10, 11, 12, 52], tT 12 [4, 7, 8, 9, 10, 11, 12], tT 13 [4, 9, 10, 68], tT 14 [6], tT 15 [4, 9, 10, 13], tT 16 [4, 9, 10, 13, 72], tT 17 [6], tT 18 [6]]
def tl14 : List (Nat × Tidy) := []
def rs14 : List AResV := [.tmp 6]
def p14_0_0 : PT St := pS [sl 3 (aV false [(cPtr 3 0)]), sl 4 (aV false [(cPtr 4 0)]), sl 7 (aV false [(cPtr 7 0)]), sl 8 (aV false [(cD (dI .i64))]), sl 9 (aV false [(cPtr 9 0)]), sl 10 (aV false [(cD (dI .i64))]), sl 11 (aV false [(cD (dI .i64))])] [eBox 3 [(cD (dI .i64)), (cD (dI .i64)), (cD (dI .i64)), (cD (dI .i64)), (cD (dI .i64)), (cD (dI .i64)), (cD (dI .i64)), (cD (dI .i64)), (cD (dI .i64)), (cD (dI .i64)), (cD (dI .i64)), (cD (dI .i64)), (cD (dI .i64)), (cD (dI .i64)), (cD (dI .i64)), (cD (dI .i64)), (cD (dI .i64)), (cD (dI .i64)), (cD (dI .i64)), (cD (dI .i64))], eBox 4 [(cD (dI .i64)), (cD (dI .i64)), (cD (dI .i64))], eBox 7 [(cD (dI .i64)), (cD (dI .i64)), (cD (dI .i64)), (cD (dI .i64)), (cD (dI .i64)), (cD (dI .i64)), (cD (dI .i64)), (cD (dI .i64)), (cD (dI .i64)), (cD (dI .i64))], eBox 9 [(cD (dI .i64)), (cD (dI .i64)), (cD (dI .i64)), (cD (dI .i64)), (cD (dI .i64)), (cD (dI .i64)), (cD (dI .i64)), (cD (dI .i64)), (cD (dI .i64)), (cD (dI .i64))]]
def u14_0_0 {β : Type} (g : St → β) : Int → Int → Int → Int → Int → Int → Int → Int → Int → Int → Int → Int → Int → Int → Int → Int → Int → Int → Int → Int → Int → Int → Int → Int → Int → Int → Int → Int → Int → Int → Int → Int → Int → Int → Int → Int → Int → Int → Int → Int → Int → Int → Int → Int → Int → Int → β := p14_0_0.unc g
def p14_0_1 : PT St := pS [sl 3 (aV false [(cPtr 3 0)]), sl 4 (aV false [(cPtr 4 0)]), sl 7 (aV false [(cPtr 7 0)]), sl 8 (aV false [(cD (dI .i64))]), sl 9 (aV false [(cPtr 9 0)]), sl 10 (aV false [(cD (dI .i64))]), sl 11 (aV false [(cD (dI .i64))]), sl 47 (aV false [(cD dB)])] [eBox 3 [(cD (dI .i64)), (cD (dI .i64)), (cD (dI .i64)), (cD (dI .i64)), (cD (dI .i64)), (cD (dI .i64)), (cD (dI .i64)), (cD (dI .i64)), (cD (dI .i64)), (cD (dI .i64)), (cD (dI .i64)), (cD (dI .i64)), (cD (dI .i64)), (cD (dI .i64)), (cD (dI .i64)), (cD (dI .i64)), (cD (dI .i64)), (cD (dI .i64)), (cD (dI .i64)), (cD (dI .i64))], eBox 4 [(cD (dI .i64)), (cD (dI .i64)), (cD (dI .i64))], eBox 7 [(cD (dI .i64)), (cD (dI .i64)), (cD (dI .i64)), (cD (dI .i64)), (cD (dI .i64)), (cD (dI .i64)), (cD (dI .i64)), (cD (dI .i64)), (cD (dI .i64)), (cD (dI .i64))], eBox 9 [(cD (dI .i64)), (cD (dI .i64)), (cD (dI .i64)), (cD (dI .i64)), (cD (dI .i64)), (cD (dI .i64)), (cD (dI .i64)), (cD (dI .i64)), (cD (dI .i64)), (cD (dI .i64))]]
def u14_0_1 {β : Type} (g : St → β) : Int → Int → Int → Bool → Int → Int → Int → Int → Int → Int → Int → Int → Int → Int → Int → Int → Int → Int → Int → Int → Int → Int → Int → Int → Int → Int → Int → Int → Int → Int → Int → Int → Int → Int → Int → Int → Int → Int → Int → Int → Int → Int → Int → Int → Int → Int → Int → β := p14_0_1.unc g
def p14_0_2 : PT St := pS [sl 3 (aV false [(cPtr 3 0)]), sl 4 (aV false [(cPtr 4 0)]), sl 7 (aV false [(cPtr 7 0)]), sl 8 (aV false [(cD (dI .i64))]), sl 9 (aV false [(cPtr 9 0)]), sl 10 (aV false [(cD (dI .i64))]), sl 11 (aV false [(cD (dI .i64))]), sl 12 (aV false [(cPtr 12 0)])] [eBox 3 [(cD (dI .i64)), (cD (dI .i64)), (cD (dI .i64)), (cD (dI .i64)), (cD (dI .i64)), (cD (dI .i64)), (cD (dI .i64)), (cD (dI .i64)), (cD (dI .i64)), (cD (dI .i64)), (cD (dI .i64)), (cD (dI .i64)), (cD (dI .i64)), (cD (dI .i64)), (cD (dI .i64)), (cD (dI .i64)), (cD (dI .i64)), (cD (dI .i64)), (cD (dI .i64)), (cD (dI .i64))], eBox 4 [(cD (dI .i64)), (cD (dI .i64)), (cD (dI .i64))], eBox 7 [(cD (dI .i64)), (cD (dI .i64)), (cD (dI .i64)), (cD (dI .i64)), (cD (dI .i64)), (cD (dI .i64)), (cD (dI .i64)), (cD (dI .i64)), (cD (dI .i64)), (cD (dI .i64))], eBox 9 [(cD (dI .i64)), (cD (dI .i64)), (cD (dI .i64)), (cD (dI .i64)), (cD (dI .i64)), (cD (dI .i64)), (cD (dI .i64)), (cD (dI .i64)), (cD (dI .i64)), (cD (dI .i64))], eBox 12 [(cD (dI .i64)), (cD (dI .i64)), (cD (dI .i64)), (cD (dI .i64)), (cD (dI .i64)), (cD (dI .i64)), (cD (dI .i64)), (cD (dI .i64)), (cD (dI .i64)), (cD (dI .i64))]]
def u14_0_2 {β : Type} (g : St → β) : Int → Int → Int → Int → Int → Int → Int → Int → Int → Int → Int → Int → Int → Int → Int → Int → Int → Int → Int → Int → Int → Int → Int → Int → Int → Int → Int → Int → Int → Int → Int → Int → Int → Int → Int → Int → Int → Int → Int → Int → Int → Int → Int → Int → Int → Int → Int → Int → Int → Int → Int → Int → Int → Int → Int → Int → β := p14_0_2.unc g
def p14_0_3 : PT St := pS [sl 4 (aV false [(cPtr 4 0)]), sl 7 (aV false [(cPtr 7 0)]), sl 8 (aV false [(cD (dI .i64))]), sl 9 (aV false [(cPtr 9 0)]), sl 10 (aV false [(cD (dI .i64))]), sl 11 (aV false [(cD (dI .i64))]), sl 12 (aV false [(cPtr 12 0)])] [eBox 4 [(cD (dI .i64)), (cD (dI .i64)), (cD (dI .i64))], eBox 7 [(cD (dI .i64)), (cD (dI .i64)), (cD (dI .i64)), (cD (dI .i64)), (cD (dI .i64)), (cD (dI .i64)), (cD (dI .i64)), (cD (dI .i64)), (cD (dI .i64)), (cD (dI .i64))], eBox 9 [(cD (dI .i64)), (cD (dI .i64)), (cD (dI .i64)), (cD (dI .i64)), (cD (dI .i64)), (cD (dI .i64)), (cD (dI .i64)), (cD (dI .i64)), (cD (dI .i64)), (cD (dI .i64))], eBox 12 [(cD (dI .i64)), (cD (dI .i64)), (cD (dI .i64)), (cD (dI .i64)), (cD (dI .i64)), (cD (dI .i64)), (cD (dI .i64)), (cD (dI .i64)), (cD (dI .i64)), (cD (dI .i64))]]
def u14_0_3 {β : Type} (g : St → β) : Int → Int → Int → Int → Int → Int → Int → Int → Int → Int → Int → Int → Int → Int → Int → Int → Int → Int → Int → Int → Int → Int → Int → Int → Int → Int → Int → Int → Int → Int → Int → Int → Int → Int → Int → Int → β := p14_0_3.unc g
def p14_0_4 : PT St := pS [sl 3 (aV false [(cPtr 3 0)]), sl 4 (aV false [(cPtr 4 0)]), sl 7 (aV false [(cPtr 7 0)]), sl 8 (aV false [(cD (dI .i64))]), sl 9 (aV false [(cPtr 9 0)]), sl 10 (aV false [(cD (dI .i64))]), sl 11 (aV false [(cD (dI .i64))]), sl 12 (aV false [(cPtr 12 0)]), sl 52 (aV false [(cD dB)])] [eBox 3 [(cD (dI .i64)), (cD (dI .i64)), (cD (dI .i64)), (cD (dI .i64)), (cD (dI .i64)), (cD (dI .i64)), (cD (dI .i64)), (cD (dI .i64)), (cD (dI .i64)), (cD (dI .i64)), (cD (dI .i64)), (cD (dI .i64)), (cD (dI .i64)), (cD (dI .i64)), (cD (dI .i64)), (cD (dI .i64)), (cD (dI .i64)), (cD (dI .i64)), (cD (dI .i64)), (cD (dI .i64))], eBox 4 [(cD (dI .i64)), (cD (dI .i64)), (cD (dI .i64))], eBox 7 [(cD (dI .i64)), (cD (dI .i64)), (cD (dI .i64)), (cD (dI .i64)), (cD (dI .i64)), (cD (dI .i64)), (cD (dI .i64)), (cD (dI .i64)), (cD (dI .i64)), (cD (dI .i64))], eBox 9 [(cD (dI .i64)), (cD (dI .i64)), (cD (dI .i64)), (cD (dI .i64)), (cD (dI .i64)), (cD (dI .i64)), (cD (dI .i64)), (cD (dI .i64)), (cD (dI .i64)), (cD (dI .i64))], eBox 12 [(cD (dI .i64)), (cD (dI .i64)), (cD (dI .i64)), (cD (dI .i64)), (cD (dI .i64)), (cD (dI .i64)), (cD (dI .i64)), (cD (dI .i64)), (cD (dI .i64)), (cD (dI .i64))]]
def u14_0_4 {β : Type} (g : St → β) : Int → Int → Int → Bool → Int → Int → Int → Int → Int → Int → Int → Int → Int → Int → Int → Int → Int → Int → Int → Int → Int → Int → Int → Int → Int → Int → Int → Int → Int → Int → Int → Int → Int → Int → Int → Int → Int → Int → Int → Int → Int → Int → Int → Int → Int → Int → Int → Int → Int → Int → Int → Int → Int → Int → Int → Int → Int → β := p14_0_4.unc g
def pr14_0_0 : PT (List RV) := pRs [pR false [rD dB]]
def ur14_0_0 {β : Type} (g : List RV → β) : Bool → β := pr14_0_0.unc g
def E14_0g (vf15_0 : Tf15_0) (vf58_0 : Tf58_0) (vf59_0 : Tf59_0) (vf60_0 : Tf60_0) (vf24_0 : Tf24_0) (vf61_0 : Tf61_0) (vf62_0 : Tf62_0) (vf63_0 : Tf63_0) (vf30_0 : Tf30_0) (vf64_0 : Tf64_0) : EnvK := EnvK.of [⟨15, nt15, [⟨pa15_0, Fn15_0 vf15_0⟩]⟩, ⟨58, nt58, [⟨pa58_0, Fn58_0 vf58_0⟩]⟩, ⟨59, nt59, [⟨pa59_0, Fn59_0 vf59_0⟩]⟩, ⟨60, nt60, [⟨pa60_0, Fn60_0 vf60_0⟩]⟩, ⟨24, nt24, [⟨pa24_0, Fn24_0 vf24_0⟩]⟩, ⟨61, nt61, [⟨pa61_0, Fn61_0 vf61_0⟩]⟩, ⟨62, nt62, [⟨pa62_0, Fn62_0 vf62_0⟩]⟩, ⟨63, nt63, [⟨pa63_0, Fn63_0 vf63_0⟩]⟩, ⟨30, nt30, [⟨pa30_0, Fn30_0 vf30_0⟩]⟩, ⟨64, nt64, [⟨pa64_0, Fn64_0 vf64_0⟩]⟩] noSeq
noncomputable def E14_0 : EnvK := E14_0g f15_0 f58_0 f59_0 f60_0 f24_0 f61_0 f62_0 f63_0 f30_0 f64_0
theorem eo14_0 : E14_0.Ok Try.prog := EnvK.of_ok noSeq_ok ⟨⟨io15_0, trivial⟩, ⟨io58_0, trivial⟩, ⟨io59_0, trivial⟩, ⟨io60_0, trivial⟩, ⟨io24_0, trivial⟩, ⟨io61_0, trivial⟩, ⟨io62_0, trivial⟩, ⟨io63_0, trivial⟩, ⟨io30_0, trivial⟩, ⟨io64_0, trivial⟩, trivial⟩
noncomputable def c14_0_28g  : MCode := (.seq (.region r14_30 [] (tO [3, 4, 7, 8, 9, 10, 11, 12, 52])) (.cond (.tmp 52) (.region r14_32 [] (tO [4, 7, 8, 9, 10, 11, 12])) .skip))
noncomputable def c14_0_28 : MCode := c14_0_28g 
theorem g14_0_28 : c14_0_28.Good Try.prog E14_0 sh14 := ⟨trivial, ⟨trivial, trivial⟩⟩
--CODE 28 0
abbrev TJ14_0_1 : Type 1 := (α : Type) → Int → Int → Int → Int → Int → Int → Int → Int → Int → Int → Int → Int → Int → Int → Int → Int → Int → Int → Int → Int → Int → (Int → Int → Int → Int → Int → Int → Int → Int → Int → Int → Int → Option α) → (Bool → Option α) → Option α
def J14_0_1g (vf63_0 : Tf63_0) (α : Type) (x106 x107 x108 x109 x110 x111 x112 x113 x114 x115 x116 x117 x118 x119 x120 x121 x122 x123 x124 x125 x126 : Int) (k1 : Int → Int → Int → Int → Int → Int → Int → Int → Int → Int → Int → Option α) (k2 : Bool → Option α) : Option α :=
 cK (x106 == 0)
 (vf63_0 α x107 x108 x109 x110 x111 x112 x113 x114 x115 x116 x117 x118 x119 x120 x121 x122 x123 x124 x125 x126
 (fun x161 x162 x163 x164 x165 x166 x167 x168 x169 x170 x171 => k1 x171 x161 x162 x163 x164 x165 x166 x167 x168 x169 x170))
 (k2 (x106 == 0))
noncomputable def J14_0_1 (α : Type) (x106 x107 x108 x109 x110 x111 x112 x113 x114 x115 x116 x117 x118 x119 x120 x121 x122 x123 x124 x125 x126 : Int) (k1 : Int → Int → Int → Int → Int → Int → Int → Int → Int → Int → Int → Option α) (k2 : Bool → Option α) : Option α := J14_0_1g f63_0 α x106 x107 x108 x109 x110 x111 x112 x113 x114 x115 x116 x117 x118 x119 x120 x121 x122 x123 x124 x125 x126 k1 k2
def F14_0_1 (v : TJ14_0_1) (α : Type) (K : Exit → St → Option α) : Int → Int → Int → Int → Int → Int → Int → Int → Int → Int → Int → Int → Int → Int → Int → Int → Int → Int → Int → Int → Int → Int → Int → Int → Int → Int → Int → Int → Int → Int → Int → Int → Int → Int → Int → Int → Int → Int → Int → Int → Int → Int → Int → Int → Int → Int → Int → Int → Int → Int → Int → Int → Int → Int → Int → Int → Option α := fun x104 x105 x106 x107 x108 x109 x110 x111 x112 x113 x114 x115 x116 x117 x118 x119 x120 x121 x122 x123 x124 x125 x126 x127 x128 x129 x130 x131 x132 x133 x134 x135 x136 x137 x138 x139 x140 x141 x142 x143 x144 x145 x146 x147 x148 x149 x150 x151 x152 x153 x154 x155 x156 x157 x158 x159 => v α x106 x107 x108 x109 x110 x111 x112 x113 x114 x115 x116 x117 x118 x119 x120 x121 x122 x123 x124 x125 x126 (fun (y1 : Int) (y2 : Int) (y3 : Int) (y4 : Int) (y5 : Int) (y6 : Int) (y7 : Int) (y8 : Int) (y9 : Int) (y10 : Int) (y11 : Int) => u14_0_3 (K .normal) x104 x105 y1 x127 x128 x129 x130 x131 x132 x133 x134 x135 x136 x137 x138 x139 x140 x141 x142 x143 x144 x145 x146 x147 x148 x149 y2 y3 y4 y5 y6 y7 y8 y9 y10 y11) (fun (y1 : Bool) => u14_0_4 (K .normal) x104 x105 x106 y1 x107 x108 x109 x110 x111 x112 x113 x114 x115 x116 x117 x118 x119 x120 x121 x122 x123 x124 x125 x126 x127 x128 x129 x130 x131 x132 x133 x134 x135 x136 x137 x138 x139 x140 x141 x142 x143 x144 x145 x146 x147 x148 x149 x150 x151 x152 x153 x154 x155 x156 x157 x158 x159) 
theorem m14_0_1g (vf15_0 : Tf15_0) (vf58_0 : Tf58_0) (vf59_0 : Tf59_0) (vf60_0 : Tf60_0) (vf24_0 : Tf24_0) (vf61_0 : Tf61_0) (vf62_0 : Tf62_0) (vf63_0 : Tf63_0) (vf30_0 : Tf30_0) (vf64_0 : Tf64_0)  (α : Type) (K : Exit → St → Option α) : F14_0_1 (J14_0_1g vf63_0) α K = p14_0_2.unc fun σ => runM Try.prog (E14_0g vf15_0 vf58_0 vf59_0 vf60_0 vf24_0 vf61_0 vf62_0 vf63_0 vf30_0 vf64_0) sh14 (c14_0_28g ) K σ := by kernel_rfl
theorem m14_0_1 : ∀ (α : Type) (K : Exit → St → Option α), F14_0_1 J14_0_1 α K = p14_0_2.unc fun σ => runM Try.prog E14_0 sh14 c14_0_28 K σ := m14_0_1g f15_0 f58_0 f59_0 f60_0 f24_0 f61_0 f62_0 f63_0 f30_0 f64_0
noncomputable def c14_0_21g  : MCode := (.seq (.region r14_23 [] (tO [3, 4, 7, 8, 9, 10, 11, 47])) (.cond (.tmp 47) (.region r14_25 [] (tO [3, 4, 7, 8, 9, 10, 11])) .skip))
noncomputable def c14_0_21 : MCode := c14_0_21g 
theorem g14_0_21 : c14_0_21.Good Try.prog E14_0 sh14 := ⟨trivial, ⟨trivial, trivial⟩⟩
--CODE 21 0
abbrev TJ14_0_0 : Type 1 := (α : Type) → Int → Int → Int → Int → Int → Int → Int → Int → Int → Int → Int → (Int → Option α) → (Bool → Option α) → Option α
def J14_0_0g (vf59_0 : Tf59_0) (α : Type) (x55 x66 x67 x68 x69 x70 x71 x72 x73 x74 x75 : Int) (k1 : Int → Option α) (k2 : Bool → Option α) : Option α :=
 cK (x55 == 0)
 (vf59_0 α x66 x67 x68 x69 x70 x71 x72 x73 x74 x75
 (fun x100 => k1 x100))
 (k2 (x55 == 0))
noncomputable def J14_0_0 (α : Type) (x55 x66 x67 x68 x69 x70 x71 x72 x73 x74 x75 : Int) (k1 : Int → Option α) (k2 : Bool → Option α) : Option α := J14_0_0g f59_0 α x55 x66 x67 x68 x69 x70 x71 x72 x73 x74 x75 k1 k2
def F14_0_0 (v : TJ14_0_0) (α : Type) (K : Exit → St → Option α) : Int → Int → Int → Int → Int → Int → Int → Int → Int → Int → Int → Int → Int → Int → Int → Int → Int → Int → Int → Int → Int → Int → Int → Int → Int → Int → Int → Int → Int → Int → Int → Int → Int → Int → Int → Int → Int → Int → Int → Int → Int → Int → Int → Int → Int → Int → Option α := fun x53 x54 x55 x56 x57 x58 x59 x60 x61 x62 x63 x64 x65 x66 x67 x68 x69 x70 x71 x72 x73 x74 x75 x76 x77 x78 x79 x80 x81 x82 x83 x84 x85 x86 x87 x88 x89 x90 x91 x92 x93 x94 x95 x96 x97 x98 => v α x55 x66 x67 x68 x69 x70 x71 x72 x73 x74 x75 (fun (y1 : Int) => u14_0_0 (K .normal) x53 x54 y1 x56 x57 x58 x59 x60 x61 x62 x63 x64 x65 x66 x67 x68 x69 x70 x71 x72 x73 x74 x75 x76 x77 x78 x79 x80 x81 x82 x83 x84 x85 x86 x87 x88 x89 x90 x91 x92 x93 x94 x95 x96 x97 x98) (fun (y1 : Bool) => u14_0_1 (K .normal) x53 x54 x55 y1 x56 x57 x58 x59 x60 x61 x62 x63 x64 x65 x66 x67 x68 x69 x70 x71 x72 x73 x74 x75 x76 x77 x78 x79 x80 x81 x82 x83 x84 x85 x86 x87 x88 x89 x90 x91 x92 x93 x94 x95 x96 x97 x98) 
theorem m14_0_0g (vf15_0 : Tf15_0) (vf58_0 : Tf58_0) (vf59_0 : Tf59_0) (vf60_0 : Tf60_0) (vf24_0 : Tf24_0) (vf61_0 : Tf61_0) (vf62_0 : Tf62_0) (vf63_0 : Tf63_0) (vf30_0 : Tf30_0) (vf64_0 : Tf64_0)  (α : Type) (K : Exit → St → Option α) : F14_0_0 (J14_0_0g vf59_0) α K = p14_0_0.unc fun σ => runM Try.prog (E14_0g vf15_0 vf58_0 vf59_0 vf60_0 vf24_0 vf61_0 vf62_0 vf63_0 vf30_0 vf64_0) sh14 (c14_0_21g ) K σ := by kernel_rfl
theorem m14_0_0 : ∀ (α : Type) (K : Exit → St → Option α), F14_0_0 J14_0_0 α K = p14_0_0.unc fun σ => runM Try.prog E14_0 sh14 c14_0_21 K σ := m14_0_0g f15_0 f58_0 f59_0 f60_0 f24_0 f61_0 f62_0 f63_0 f30_0 f64_0
abbrev Tf14_0 : Type 1 := (α : Type) → Int → Int → Int → Int → Int → Int → Int → Int → Int → Int → Int → Int → Int → Int → Int → Int → Int → Int → Int → Int → Int → Int → Int → Int → Int → Int → Int → Int → Int → (Bool → Option α) → Option α
def f14_0g (vJ14_0_0 : TJ14_0_0) (vJ14_0_1 : TJ14_0_1) (vf15_0 : Tf15_0) (vf24_0 : Tf24_0) (vf30_0 : Tf30_0) (vf58_0 : Tf58_0) (vf59_0 : Tf59_0) (vf60_0 : Tf60_0) (vf61_0 : Tf61_0) (vf62_0 : Tf62_0) (vf64_0 : Tf64_0) (α : Type) (x1 x2 x3 x4 x5 x6 x7 x8 x9 x10 x11 x12 x13 x14 x15 x16 x17 x18 x19 x20 x21 x22 x23 x24 x25 x26 x27 x28 x29 : Int) (k1 : Bool → Option α) : Option α :=
 vf15_0 α 
 (vf58_0 α x1 x2 x3 x4 x5 x6 x7 x8 x9 x10
 (fun x30 => vf59_0 α x1 x2 x3 x4 x5 x6 x7 x8 x9 x10
 (fun x31 => cK (x30 != x31)
 (k1 false)
 (vf60_0 α x24 x25 x26 x27 x28 x29
 (fun x32 => vf24_0 α x24 x25 x26 x27 x28 x29
 (fun x33 => cK (x32 != x33)
 (k1 false)
 (vf61_0 α x1 x2 x3 x4 x5 x6 x7 x8 x9 x10 x11 x12 x13 x14 x15 x16 x17 x18 x19 x20
 (fun x34 x35 x36 x37 x38 x39 x40 x41 x42 x43 x44 => vf62_0 α x21 x22 x23
 (fun x45 x46 x47 x48 x49 x50 x51 => vf59_0 α x1 x2 x3 x4 x5 x6 x7 x8 x9 x10
 (fun x52 => vJ14_0_0 α x52 x11 x12 x13 x14 x15 x16 x17 x18 x19 x20
 (fun x101 => vJ14_0_1 α x101 x1 x2 x3 x4 x5 x6 x7 x8 x9 x10 x11 x12 x13 x14 x15 x16 x17 x18 x19 x20
 (fun x172 x173 x174 x175 x176 x177 x178 x179 x180 x181 x182 => cK (x44 != x172)
 (k1 false)
 (cK (!(((x34 == x173) && ((x35 == x174) && ((x36 == x175) && ((x37 == x176) && ((x38 == x177) && ((x39 == x178) && ((x40 == x179) && ((x41 == x180) && ((x42 == x181) && true))))))))) && ((x43 == x182) && true)))
 (k1 false)
 (vf30_0 α x21 x22 x23
 (fun x185 => cK (x185 != 0)
 (cK (x51 == x185)
 (k1 (((x45 == 0) && ((0 == 0) && ((0 == 0) && ((0 == 0) && ((x46 == 0) && ((x47 == 0) && ((0 == 0) && ((x48 == 0) && ((x49 == 0) && true))))))))) && ((x50 == 0) && true)))
 (k1 false))
 (cK (x51 == 0)
 (vf64_0 α x21 x22 x23
 (fun x186 x187 x188 x189 x190 x191 => k1 (((x45 == x186) && ((0 == 0) && ((0 == 0) && ((0 == 0) && ((x46 == x187) && ((x47 == x188) && ((0 == 0) && ((x48 == x189) && ((x49 == x190) && true))))))))) && ((x50 == x191) && true))))
 (k1 false))))))
 (fun x183 => cK (x44 != x101)
 (k1 false)
 (cK (!(((x34 == 0) && ((x35 == 0) && ((x36 == 0) && ((x37 == 0) && ((x38 == 0) && ((x39 == 0) && ((x40 == 0) && ((x41 == 0) && ((x42 == 0) && true))))))))) && ((x43 == 0) && true)))
 (k1 false)
 (vf30_0 α x21 x22 x23
 (fun x192 => cK (x192 != 0)
 (cK (x51 == x192)
 (k1 (((x45 == 0) && ((0 == 0) && ((0 == 0) && ((0 == 0) && ((x46 == 0) && ((x47 == 0) && ((0 == 0) && ((x48 == 0) && ((x49 == 0) && true))))))))) && ((x50 == 0) && true)))
 (k1 false))
 (cK (x51 == 0)
 (vf64_0 α x21 x22 x23
 (fun x193 x194 x195 x196 x197 x198 => k1 (((x45 == x193) && ((0 == 0) && ((0 == 0) && ((0 == 0) && ((x46 == x194) && ((x47 == x195) && ((0 == 0) && ((x48 == x196) && ((x49 == x197) && true))))))))) && ((x50 == x198) && true))))
 (k1 false)))))))
 (fun x102 => vJ14_0_1 α x52 x1 x2 x3 x4 x5 x6 x7 x8 x9 x10 x11 x12 x13 x14 x15 x16 x17 x18 x19 x20
 (fun x199 x200 x201 x202 x203 x204 x205 x206 x207 x208 x209 => cK (x44 != x199)
 (k1 false)
 (cK (!(((x34 == x200) && ((x35 == x201) && ((x36 == x202) && ((x37 == x203) && ((x38 == x204) && ((x39 == x205) && ((x40 == x206) && ((x41 == x207) && ((x42 == x208) && true))))))))) && ((x43 == x209) && true)))
 (k1 false)
 (vf30_0 α x21 x22 x23
 (fun x212 => cK (x212 != 0)
 (cK (x51 == x212)
 (k1 (((x45 == 0) && ((0 == 0) && ((0 == 0) && ((0 == 0) && ((x46 == 0) && ((x47 == 0) && ((0 == 0) && ((x48 == 0) && ((x49 == 0) && true))))))))) && ((x50 == 0) && true)))
 (k1 false))
 (cK (x51 == 0)
 (vf64_0 α x21 x22 x23
 (fun x213 x214 x215 x216 x217 x218 => k1 (((x45 == x213) && ((0 == 0) && ((0 == 0) && ((0 == 0) && ((x46 == x214) && ((x47 == x215) && ((0 == 0) && ((x48 == x216) && ((x49 == x217) && true))))))))) && ((x50 == x218) && true))))
 (k1 false))))))
 (fun x210 => cK (x44 != x52)
 (k1 false)
 (cK (!(((x34 == 0) && ((x35 == 0) && ((x36 == 0) && ((x37 == 0) && ((x38 == 0) && ((x39 == 0) && ((x40 == 0) && ((x41 == 0) && ((x42 == 0) && true))))))))) && ((x43 == 0) && true)))
 (k1 false)
 (vf30_0 α x21 x22 x23
 (fun x219 => cK (x219 != 0)
 (cK (x51 == x219)
 (k1 (((x45 == 0) && ((0 == 0) && ((0 == 0) && ((0 == 0) && ((x46 == 0) && ((x47 == 0) && ((0 == 0) && ((x48 == 0) && ((x49 == 0) && true))))))))) && ((x50 == 0) && true)))
 (k1 false))
 (cK (x51 == 0)
 (vf64_0 α x21 x22 x23
 (fun x220 x221 x222 x223 x224 x225 => k1 (((x45 == x220) && ((0 == 0) && ((0 == 0) && ((0 == 0) && ((x46 == x221) && ((x47 == x222) && ((0 == 0) && ((x48 == x223) && ((x49 == x224) && true))))))))) && ((x50 == x225) && true))))
 (k1 false)))))))))))))))))
noncomputable def f14_0 (α : Type) (x1 x2 x3 x4 x5 x6 x7 x8 x9 x10 x11 x12 x13 x14 x15 x16 x17 x18 x19 x20 x21 x22 x23 x24 x25 x26 x27 x28 x29 : Int) (k1 : Bool → Option α) : Option α := f14_0g J14_0_0 J14_0_1 f15_0 f24_0 f30_0 f58_0 f59_0 f60_0 f61_0 f62_0 f64_0 α x1 x2 x3 x4 x5 x6 x7 x8 x9 x10 x11 x12 x13 x14 x15 x16 x17 x18 x19 x20 x21 x22 x23 x24 x25 x26 x27 x28 x29 k1
def pa14_0 : PT (List DV) := pA [pV true [(dI .i64), (dI .i64), (dI .i64), (dI .i64), (dI .i64), (dI .i64), (dI .i64), (dI .i64), (dI .i64), (dI .i64), (dI .i64), (dI .i64), (dI .i64), (dI .i64), (dI .i64), (dI .i64), (dI .i64), (dI .i64), (dI .i64), (dI .i64)], pV true [(dI .i64), (dI .i64), (dI .i64)], pV true [(dI .i64), (dI .i64), (dI .i64), (dI .i64), (dI .i64), (dI .i64)]]
def Fn14_0 (v : Tf14_0) (α : Type) (k : List RV → Option α) : Int → Int → Int → Int → Int → Int → Int → Int → Int → Int → Int → Int → Int → Int → Int → Int → Int → Int → Int → Int → Int → Int → Int → Int → Int → Int → Int → Int → Int → Option α := fun x1 x2 x3 x4 x5 x6 x7 x8 x9 x10 x11 x12 x13 x14 x15 x16 x17 x18 x19 x20 x21 x22 x23 x24 x25 x26 x27 x28 x29 => v α x1 x2 x3 x4 x5 x6 x7 x8 x9 x10 x11 x12 x13 x14 x15 x16 x17 x18 x19 x20 x21 x22 x23 x24 x25 x26 x27 x28 x29 (fun (y1 : Bool) => ur14_0_0 k y1)
noncomputable def cm14_0g (vJ14_0_0 : TJ14_0_0) (vJ14_0_1 : TJ14_0_1) : MCode := (.seq (.region r14_2 [] (tO [3, 4, 5])) (.seq (.seq (.region r14_5 [] (tO [3, 4, 5, 15])) (.cond (.tmp 15) (.seq (.region r14_8 [] (tO [6])) .ret) .skip)) (.seq (.seq (.region r14_11 [(2, 4), (9, 10)] (tO [3, 4, 29])) (.cond (.tmp 29) (.seq (.region r14_14 [] (tO [6])) .ret) .skip)) (.seq (.region r14_16 [] (tO [3, 4, 7, 8])) (.seq (.region r14_18 [] (tO [3, 4, 7, 8, 9, 10])) (.seq (.region r14_20 [] (tO [3, 4, 7, 8, 9, 10, 11])) (.seq (.mark [⟨p14_0_0, F14_0_0 vJ14_0_0⟩] c14_0_21) (.seq (.region r14_27 [] (tO [3, 4, 7, 8, 9, 10, 11, 12])) (.seq (.mark [⟨p14_0_2, F14_0_1 vJ14_0_1⟩] c14_0_28) (.seq (.seq (.region r14_35 [] (tO [4, 9, 10, 68])) (.cond (.tmp 68) (.seq (.region r14_38 [] (tO [6])) .ret) .skip)) (.seq (.seq (.region r14_41 [] (tO [4, 9, 10, 13])) (.seq (.region r14_43 [] (tO [4, 9, 10, 13, 72])) (.cond (.tmp 72) (.seq (.region r14_46 [] (tO [6])) .ret) .skip))) (.seq (.region r14_48 [(3, 5)] (tO [6])) .ret))))))))))))
noncomputable def cm14_0 : MCode := cm14_0g J14_0_0 J14_0_1
theorem gm14_0 : cm14_0.Good Try.prog E14_0 sh14 := ⟨trivial, ⟨⟨trivial, ⟨⟨trivial, trivial⟩, trivial⟩⟩, ⟨⟨trivial, ⟨⟨trivial, trivial⟩, trivial⟩⟩, ⟨trivial, ⟨trivial, ⟨trivial, ⟨⟨g14_0_21, m14_0_0, trivial⟩, ⟨trivial, ⟨⟨g14_0_28, m14_0_1, trivial⟩, ⟨⟨trivial, ⟨⟨trivial, trivial⟩, trivial⟩⟩, ⟨⟨trivial, ⟨trivial, ⟨⟨trivial, trivial⟩, trivial⟩⟩⟩, ⟨trivial, trivial⟩⟩⟩⟩⟩⟩⟩⟩⟩⟩⟩⟩
theorem fm14_0g (vf15_0 : Tf15_0) (vf58_0 : Tf58_0) (vf59_0 : Tf59_0) (vf60_0 : Tf60_0) (vf24_0 : Tf24_0) (vf61_0 : Tf61_0) (vf62_0 : Tf62_0) (vf63_0 : Tf63_0) (vf30_0 : Tf30_0) (vf64_0 : Tf64_0) (vJ14_0_0 : TJ14_0_0) (vJ14_0_1 : TJ14_0_1) (α : Type) (k : List RV → Option α) : Fn14_0 (f14_0g vJ14_0_0 vJ14_0_1 vf15_0 vf24_0 vf30_0 vf58_0 vf59_0 vf60_0 vf61_0 vf62_0 vf64_0) α k = pa14_0.unc fun ds => fnM Try.prog (E14_0g vf15_0 vf58_0 vf59_0 vf60_0 vf24_0 vf61_0 vf62_0 vf63_0 vf30_0 vf64_0) sh14 (cm14_0g vJ14_0_0 vJ14_0_1) rs14 k ds := by kernel_rfl
theorem fm14_0 : ∀ (α : Type) (k : List RV → Option α), Fn14_0 f14_0 α k = pa14_0.unc fun ds => fnM Try.prog E14_0 sh14 cm14_0 rs14 k ds := fm14_0g f15_0 f58_0 f59_0 f60_0 f24_0 f61_0 f62_0 f63_0 f30_0 f64_0 J14_0_0 J14_0_1
theorem is14 : FnIs Try.prog 14 nt14 tr14 tl14 cm14_0.erase rs14 := ⟨Try.f14, Try.func14, rfl, by kernel_rfl, by kernel_rfl, by kernel_rfl⟩
theorem io14_0 : InstOk Try.prog 14 nt14 ⟨pa14_0, Fn14_0 f14_0⟩ := inst_ok eo14_0 followsTry is14 ⟨⟨sh14, cm14_0, by kernel_rfl, gm14_0, fm14_0⟩⟩
end Go.AM.K
