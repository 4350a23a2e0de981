/- Printed by KGen. -/
import Derived.Test.YtjifpcjmnhnpkaaKTr
import Derived.Test.YtjifpcjmnhnpkaaAcX
namespace Go.AM.K
open Go.Proofs
set_option maxRecDepth 100000
set_option linter.unusedVariables false
abbrev nt6 : Nat := 225
def sh6 : List (Nat × List Sh) := [(22, [.int .i64, .int .i64, .int .i64]), (24, [.int .i64]), (29, [.int .i64]), (31, [.int .i64]), (34, [.int .i64]), (40, [.int .i64]), (42, [.int .i64]), (45, [.int .i64]), (51, [.int .i64]), (53, [.int .i64]), (56, [.int .i64]), (67, [.int .i64]), (72, [.int .i64, .int .i64, .int .i64]), (78, [.int .i64]), (86, [.int .i64]), (88, [.int .i64]), (91, [.int .i64]), (93, [.int .i64]), (97, [.int .i64]), (99, [.int .i64]), (102, [.int .i64]), (104, [.int .i64]), (108, [.int .i64]), (110, [.int .i64]), (115, [.int .i64]), (117, [.int .i64]), (140, [.int .i64]), (148, [.int .i64]), (159, [.sl]), (166, [.sl, .int .i64, .int .i64]), (173, [.int .i64, .int .i64, .int .i64, .int .i64, .int .i64, .int .i64]), (178, [.int .i64]), (184, [.int .i64]), (190, [.int .i64, .int .i64, .int .i64, .int .i64, .int .i64, .int .i64]), (192, [.int .i64, .int .i64, .int .i64, .int .i64, .int .i64, .int .i64]), (193, [.int .i64, .int .i64, .int .i64]), (201, [.int .i64, .int .i64]), (203, [.int .i64]), (205, [.int .i64]), (209, [.int .i64, .int .i64]), (211, [.int .i64]), (213, [.int .i64]), (218, [.int .i64, .int .i64]), (220, [.int .i64]), (222, [.int .i64])]
def r6_2 : List AOper := [oO 2 (.box (.tmp 0)), oO 4 (.mv (.const (.bool false)))]
def r6_5 : List AOper := [oO 19 (.call 15 []), oO 20 (.pure (oB (.unOp .not 4 (.tmp 19)) 4))]
def r6_8 : List AOper := [oO 4 (.mv (.const (.bool false)))]
def r6_10 : List AOper := [oO 21 (.faddr 4 (.tmp 2)), oO 22 (.load true 3 (.tmp 21)), oO 5 (.alloc [(cI 0), (cI 0), (cI 0)]), oD (.store 3 (.tmp 5) (.tmp 22))]
def r6_13 : List AOper := [oO 23 (.faddr 3 (.tmp 2)), oO 24 (.load false 1 (.tmp 23)), oO 25 (.call 29 [(.tmp 24), (kI 1), (kI 30)]), oO 26 (.pure (oB (.unOp .not 4 (.tmp 25)) 4)), oM 27 26, oG 28 (.faddr 0 (.tmp 2)) 27 false, oG 29 (.load false 1 (.tmp 28)) 27 false, oG 30 (.faddr 3 (.tmp 2)) 27 false, oG 31 (.load false 1 (.tmp 30)) 27 false, oG 32 (.pure (oB (.unOp .neg 3 (.tmp 31)) 3)) 27 false, oG 33 (.faddr 3 (.tmp 2)) 27 false, oG 34 (.load false 1 (.tmp 33)) 27 false, oG 35 (.call 29 [(.tmp 29), (.tmp 32), (.tmp 34)]) 27 false, oG 36 (.pure (oB (.unOp .not 4 (.tmp 35)) 4)) 27 false, oO 37 (.pick (.tmp 27) (.const (.bool true)) (.tmp 36)), oM 38 37, oG 39 (.faddr 1 (.tmp 2)) 38 false, oG 40 (.load false 1 (.tmp 39)) 38 false, oG 41 (.faddr 3 (.tmp 2)) 38 false, oG 42 (.load false 1 (.tmp 41)) 38 false, oG 43 (.pure (oB (.unOp .neg 3 (.tmp 42)) 3)) 38 false, oG 44 (.faddr 3 (.tmp 2)) 38 false, oG 45 (.load false 1 (.tmp 44)) 38 false, oG 46 (.call 29 [(.tmp 40), (.tmp 43), (.tmp 45)]) 38 false, oG 47 (.pure (oB (.unOp .not 4 (.tmp 46)) 4)) 38 false, oO 48 (.pick (.tmp 38) (.const (.bool true)) (.tmp 47)), oM 49 48, oG 50 (.faddr 2 (.tmp 2)) 49 false, oG 51 (.load false 1 (.tmp 50)) 49 false, oG 52 (.faddr 3 (.tmp 2)) 49 false, oG 53 (.load false 1 (.tmp 52)) 49 false, oG 54 (.pure (oB (.unOp .neg 3 (.tmp 53)) 3)) 49 false, oG 55 (.faddr 3 (.tmp 2)) 49 false, oG 56 (.load false 1 (.tmp 55)) 49 false, oG 57 (.call 29 [(.tmp 51), (.tmp 54), (.tmp 56)]) 49 false, oG 58 (.pure (oB (.unOp .not 4 (.tmp 57)) 4)) 49 false, oO 59 (.pick (.tmp 49) (.const (.bool true)) (.tmp 58)), oM 60 59, oG 61 (.mv (.tmp 1)) 60 false, oG 62 (.call 29 [(.tmp 61), (kI 0), (kI 3)]) 60 false, oG 63 (.pure (oB (.unOp .not 4 (.tmp 62)) 4)) 60 false, oO 64 (.pick (.tmp 60) (.const (.bool true)) (.tmp 63)), oM 65 64, oG 66 (.faddr 2 (.tmp 5)) 65 false, oG 67 (.load false 1 (.tmp 66)) 65 false, oG 68 (.call 29 [(.tmp 67), (kI 1), (kI 13)]) 65 false, oG 69 (.pure (oB (.unOp .not 4 (.tmp 68)) 4)) 65 false, oO 70 (.pick (.tmp 65) (.const (.bool true)) (.tmp 69)), oM 71 70, oG 72 (.load true 3 (.tmp 5)) 71 false, oG 73 (.call 30 [(.tmp 72)]) 71 false, oG 74 (.bin .neq 3 (.tmp 73) (kI 0)) 71 false, oO 75 (.pick (.tmp 71) (.const (.bool true)) (.tmp 74)), oM 76 75, oG 77 (.faddr 1 (.tmp 5)) 76 false, oG 78 (.load false 1 (.tmp 77)) 76 false, oG 79 (.bin .eql 3 (.tmp 78) (kI 0)) 76 false, oO 80 (.pick (.tmp 76) (.const (.bool true)) (.tmp 79))]
def r6_16 : List AOper := [oO 4 (.mv (.const (.bool true)))]
def r6_18 : List AOper := [oO 6 (.alloc [(cI 0), (cI 0), (cI 0), (cI 0), (cI 0), (cI 0), (cI 0), (cI 0), (cI 0), (cI 0), (cI 0), (cI 0)])]
def r6_21 : List AOper := [oO 7 (.mv (kI 0))]
def td6_23 : Option Tidy := (some ⟨[1, 2, 5, 6, 7], true, [⟨true, 11, 0, 31100, 1⟩], []⟩)
def r6_26 : List AOper := [oM 81 7, oO 82 (.bin .lss 3 (.tmp 81) (kI 2))]
def r6_31 : List AOper := [oO 85 (.faddr 3 (.tmp 2)), oO 86 (.load false 1 (.tmp 85)), oO 87 (.faddr 2 (.tmp 5)), oO 88 (.load false 1 (.tmp 87)), oO 89 (.bin .mul 3 (.tmp 86) (.tmp 88)), oO 90 (.faddr 0 (.tmp 2)), oO 91 (.load false 1 (.tmp 90)), oO 92 (.faddr 0 (.tmp 5)), oO 93 (.load false 1 (.tmp 92)), oO 94 (.bin .mul 3 (.tmp 91) (.tmp 93)), oO 95 (.bin .sub 3 (.tmp 89) (.tmp 94)), oO 96 (.faddr 3 (.tmp 2)), oO 97 (.load false 1 (.tmp 96)), oO 98 (.faddr 0 (.tmp 5)), oO 99 (.load false 1 (.tmp 98)), oO 100 (.bin .mul 3 (.tmp 97) (.tmp 99)), oO 101 (.faddr 0 (.tmp 2)), oO 102 (.load false 1 (.tmp 101)), oO 103 (.faddr 2 (.tmp 5)), oO 104 (.load false 1 (.tmp 103)), oO 105 (.bin .mul 3 (.tmp 102) (.tmp 104)), oO 106 (.bin .sub 3 (.tmp 100) (.tmp 105)), oO 107 (.faddr 1 (.tmp 2)), oO 108 (.load false 1 (.tmp 107)), oO 109 (.faddr 1 (.tmp 5)), oO 110 (.load false 1 (.tmp 109)), oO 111 (.bin .mul 3 (.tmp 108) (.tmp 110)), oM 8 95, oM 9 106, oM 10 111]
def r6_34 : List AOper := [oM 112 7, oO 113 (.bin .eql 3 (.tmp 112) (kI 1))]
def r6_36 : List AOper := [oO 114 (.faddr 2 (.tmp 2)), oO 115 (.load false 1 (.tmp 114)), oO 116 (.faddr 1 (.tmp 5)), oO 117 (.load false 1 (.tmp 116)), oO 118 (.bin .mul 3 (.tmp 115) (.tmp 117)), oM 10 118]
def r6_38 : List AOper := [oM 119 1, oO 120 (.build [.nils, (cI 0), (cI 0)] [(1, 1, (.tmp 119)), (2, 1, (kI 65536))]), oO 11 (.alloc [.nils, (cI 0), (cI 0)]), oD (.store 3 (.tmp 11) (.tmp 120))]
def r6_40 : List AOper := [oM 121 8, oM 122 9, oO 123 (.bin .add 3 (.tmp 121) (.tmp 122)), oM 124 8, oM 125 10, oO 126 (.bin .add 3 (.tmp 124) (.tmp 125)), oM 127 8, oM 128 9, oO 129 (.bin .sub 3 (.tmp 127) (.tmp 128)), oM 130 8, oM 131 10, oO 132 (.bin .sub 3 (.tmp 130) (.tmp 131)), oO 133 (.build [(cI 0), (cI 0), (cI 0), (cI 0)] [(0, 1, (.tmp 123)), (1, 1, (.tmp 126)), (2, 1, (.tmp 129)), (3, 1, (.tmp 132))]), oO 12 (.alloc [(cI 0), (cI 0), (cI 0), (cI 0)]), oD (.store 4 (.tmp 12) (.tmp 133))]
def r6_43 : List AOper := [oO 13 (.mv (kI 0))]
def td6_45 : Option Tidy := (some ⟨[1, 2, 5, 6, 7, 11, 12, 13], true, [⟨true, 11, 0, 31100, 1⟩], []⟩)
def r6_48 : List AOper := [oM 134 13, oO 135 (.bin .lss 3 (.tmp 134) (kI 4))]
def r6_53 : List AOper := [oM 138 13, oO 139 (.iaddr 1 (some 4) (.tmp 12) (.tmp 138)), oO 140 (.load false 1 (.tmp 139)), oO 141 (.bin .mul 3 (kI 20) (.tmp 140)), oM 142 7, oO 143 (.bin .mul 3 (kI 4) (.tmp 142)), oM 144 13, oO 145 (.bin .add 3 (.tmp 143) (.tmp 144)), oO 146 (.faddr 7 (.tmp 2)), oO 147 (.iaddr 1 (some 8) (.tmp 146) (.tmp 145)), oO 148 (.load false 1 (.tmp 147)), oM 149 1, oO 150 (.bin .mul 3 (kI 2) (.tmp 149)), oO 151 (.bin .add 3 (.tmp 150) (kI 1)), oO 152 (.call 31 [(.tmp 148), (.tmp 151)]), oO 153 (.bin .add 3 (.tmp 141) (.tmp 152)), oM 154 1, oO 155 (.bin .sub 3 (.tmp 153) (.tmp 154)), oM 14 155]
def r6_56 : List AOper := [oM 156 14, oO 157 (.bin .lss 3 (.tmp 156) (kI 0))]
def r6_59 : List AOper := [oO 4 (.mv (.const (.bool true)))]
def r6_60 : List AOper := [oO 158 (.faddr 0 (.tmp 11)), oO 159 (.load false 1 (.tmp 158)), oM 160 14, oO 161 (.pure (oB (.convert 3 74 (.tmp 160)) 74)), oO 162 (.bslice 1 1 [(.v (.float Go.FloatKind.f32 0))] [(0, (.tmp 161))]), oO 163 (.append 1 4 (.tmp 159) (.tmp 162)), oO 164 (.faddr 0 (.tmp 11)), oD (.store 1 (.tmp 164) (.tmp 163))]
def r6_61 : List AOper := [oM 136 13, oO 137 (.bin .add 3 (.tmp 136) (kI 1)), oM 13 137]
def r6_63 : List AOper := [oO 166 (.load true 3 (.tmp 11)), oO 167 (.call 21 [(.tmp 166)]), oM 165 167, oO 168 (.extract 0 (.tmp 165)), oO 169 (.extract 1 (.tmp 165)), oO 15 (.alloc [(cI 0), (cI 0), (cI 0), (cI 0), (cI 0), (cI 0)]), oD (.store 6 (.tmp 15) (.tmp 168)), oM 16 169]
def r6_66 : List AOper := [oM 170 16, oO 171 (.bin .neq 28 (.tmp 170) (kI 0))]
def r6_69 : List AOper := [oO 4 (.mv (.const (.bool false)))]
def r6_70 : List AOper := [oM 172 7, oO 173 (.load true 6 (.tmp 15)), oO 174 (.iaddr 6 (some 2) (.tmp 6) (.tmp 172)), oD (.store 6 (.tmp 174) (.tmp 173))]
def r6_71 : List AOper := [oM 83 7, oO 84 (.bin .add 3 (.tmp 83) (kI 1)), oM 7 84]
def r6_74 : List AOper := [oO 175 (.iaddr 6 (some 2) (.tmp 6) (kI 0)), oO 176 (.faddr 0 (.tmp 175)), oO 177 (.faddr 0 (.tmp 176)), oO 178 (.load false 1 (.tmp 177)), oO 179 (.bin .leq 3 (.tmp 178) (kI 0)), oM 180 179, oG 181 (.iaddr 6 (some 2) (.tmp 6) (kI 1)) 180 false, oG 182 (.faddr 0 (.tmp 181)) 180 false, oG 183 (.faddr 0 (.tmp 182)) 180 false, oG 184 (.load false 1 (.tmp 183)) 180 false, oG 185 (.bin .leq 3 (.tmp 184) (kI 0)) 180 false, oO 186 (.pick (.tmp 180) (.const (.bool true)) (.tmp 185))]
def r6_77 : List AOper := [oO 4 (.mv (.const (.bool true)))]
def r6_79 : List AOper := [oO 188 (.build [(cI 0), (cI 0)] [(0, 1, (kI 10000))]), oO 189 (.iaddr 6 (some 2) (.tmp 6) (kI 0)), oO 190 (.load true 6 (.tmp 189)), oO 191 (.iaddr 6 (some 2) (.tmp 6) (kI 1)), oO 192 (.load true 6 (.tmp 191)), oO 193 (.load true 3 (.tmp 5)), ⟨(some 194), (.build [(.d (.v (.string ⟨#[]⟩))), (cI 0), (cI 0), (cI 0), (cI 0), (cI 0), (cI 0), (cI 0), (cI 0), (cI 0), (cI 0), (cI 0), (cI 0), (cI 0), (cI 0), (cI 0), (cI 0), (cI 0), (cI 0)] [(0, 1, (.const (.string ⟨#[108, 105, 103, 104, 116]⟩))), (1, 1, (kI 6328)), (2, 2, (.tmp 188)), (4, 6, (.tmp 190)), (10, 6, (.tmp 192)), (16, 3, (.tmp 193))]), none⟩, oO 195 (.call 26 [(.tmp 194)]), oM 187 195, oO 196 (.extract 0 (.tmp 187)), oO 197 (.extract 1 (.tmp 187)), ⟨(some 17), (.alloc [(.d (.v (.string ⟨#[]⟩))), (cI 0), (cI 0), (cI 0), (cI 0), (cI 0), (cI 0), (cI 0), (cI 0), (cI 0)]), none⟩, oD (.store 10 (.tmp 17) (.tmp 196)), oM 18 197]
def r6_82 : List AOper := [oM 198 18, oO 199 (.bin .neq 28 (.tmp 198) (kI 0))]
def r6_85 : List AOper := [oO 4 (.mv (.const (.bool false)))]
def r6_87 : List AOper := [oO 200 (.faddr 4 (.tmp 17)), oO 201 (.load true 2 (.tmp 200)), oO 202 (.faddr 0 (.tmp 2)), oO 203 (.load false 1 (.tmp 202)), oO 204 (.faddr 3 (.tmp 2)), oO 205 (.load false 1 (.tmp 204)), oO 206 (.call 32 [(.tmp 201), (.tmp 203), (.tmp 205)]), oM 207 206, oG 208 (.faddr 6 (.tmp 17)) 207 true, oG 209 (.load true 2 (.tmp 208)) 207 true, oG 210 (.faddr 1 (.tmp 2)) 207 true, oG 211 (.load false 1 (.tmp 210)) 207 true, oG 212 (.faddr 3 (.tmp 2)) 207 true, oG 213 (.load false 1 (.tmp 212)) 207 true, oG 214 (.call 32 [(.tmp 209), (.tmp 211), (.tmp 213)]) 207 true, oO 215 (.pick (.tmp 207) (.tmp 214) (.const (.bool false))), oM 216 215, oG 217 (.faddr 8 (.tmp 17)) 216 true, oG 218 (.load true 2 (.tmp 217)) 216 true, oG 219 (.faddr 2 (.tmp 2)) 216 true, oG 220 (.load false 1 (.tmp 219)) 216 true, oG 221 (.faddr 3 (.tmp 2)) 216 true, oG 222 (.load false 1 (.tmp 221)) 216 true, oG 223 (.call 32 [(.tmp 218), (.tmp 220), (.tmp 222)]) 216 true, oO 224 (.pick (.tmp 216) (.tmp 223) (.const (.bool false))), oM 4 224]
def tr6 : List (Nat × Tidy) := [tT 0 [1, 2], tT 1 [1, 2, 20], tT 2 [4], tT 3 [1, 2, 5], tT 4 [1, 2, 5, 80], tT 5 [4], tT 6 [1, 2, 5, 6], tT 7 [1, 2, 5, 6, 7], tT 8 [1, 2, 5, 6, 7, 82], tT 10 [1, 2, 5, 6, 7, 8, 9, 10], tT 11 [1, 2, 5, 6, 7, 8, 9, 10, 113], tT 12 [1, 2, 5, 6, 7, 8, 9, 10], tT 13 [1, 2, 5, 6, 7, 8, 9, 10, 11], tT 14 [1, 2, 5, 6, 7, 11, 12], tT 15 [1, 2, 5, 6, 7, 11, 12, 13], tT 16 [1, 2, 5, 6, 7, 11, 12, 13, 135], tT 18 [1, 2, 5, 6, 7, 11, 12, 13, 14], tT 19 [1, 2, 5, 6, 7, 11, 12, 13, 14, 157], tT 20 [4], tT 21 [1, 2, 5, 6, 7, 11, 12, 13], tT 17 [1, 2, 5, 6, 7, 11, 12, 13], tT 22 [1, 2, 5, 6, 7, 15, 16], tT 23 [1, 2, 5, 6, 7, 15, 171], tT 24 [4], tT 25 [1, 2, 5, 6, 7], tT 9 [1, 2, 5, 6, 7], tT 26 [2, 5, 6, 186], tT 27 [4], tT 28 [2, 17, 18], tT 29 [2, 17, 199], tT 30 [4], tT 31 [4]]
def tl6 : List (Nat × Tidy) := [(8, ⟨[1, 2, 5, 6, 7], true, [⟨true, 11, 0, 31100, 1⟩], []⟩), (16, ⟨[1, 2, 5, 6, 7, 11, 12, 13], true, [⟨true, 11, 0, 31100, 1⟩], []⟩)]
def rs6 : List AResV := [.tmp 4]
def p6_0_0 : PT St := pS [sl 1 (aV false [(cD (dI .i64))]), sl 2 (aV false [(cPtr 2 0)]), sl 5 (aV false [(cPtr 5 0)])] [eBox 2 [(cD (dI .i64)), (cD (dI .i64)), (cD (dI .i64)), (cD (dI .i64)), (cD (dI .i64)), (cD (dI .i64)), (cD (dI .i64)), (cD (dI .i64)), (cD (dI .i64)), (cD (dI .i64)), (cD (dI .i64)), (cD (dI .i64)), (cD (dI .i64)), (cD (dI .i64)), (cD (dI .i64))], eBox 5 [(cD (dI .i64)), (cD (dI .i64)), (cD (dI .i64))]]
def u6_0_0 {β : Type} (g : St → β) : Int → Int → Int → Int → Int → Int → Int → Int → Int → Int → Int → Int → Int → Int → Int → Int → Int → Int → Int → β := p6_0_0.unc g
def p6_0_1 : PT St := pS [sl 1 (aV false [(cD (dI .i64))]), sl 2 (aV false [(cPtr 2 0)]), sl 5 (aV false [(cPtr 5 0)]), sl 80 (aV false [(cD dB)])] [eBox 2 [(cD (dI .i64)), (cD (dI .i64)), (cD (dI .i64)), (cD (dI .i64)), (cD (dI .i64)), (cD (dI .i64)), (cD (dI .i64)), (cD (dI .i64)), (cD (dI .i64)), (cD (dI .i64)), (cD (dI .i64)), (cD (dI .i64)), (cD (dI .i64)), (cD (dI .i64)), (cD (dI .i64))], eBox 5 [(cD (dI .i64)), (cD (dI .i64)), (cD (dI .i64))]]
def u6_0_1 {β : Type} (g : St → β) : Int → Bool → Int → Int → Int → Int → Int → Int → Int → Int → Int → Int → Int → Int → Int → Int → Int → Int → Int → Int → β := p6_0_1.unc g
def pr6_0_0 : PT (List RV) := pRs [pR false [rD dB]]
def ur6_0_0 {β : Type} (g : List RV → β) : Bool → β := pr6_0_0.unc g
def E6_0g (vf15_0 : Tf15_0) (vf29_0 : Tf29_0) (vf30_0 : Tf30_0) (vf31_0 : Tf31_0) (vf21_0 : Tf21_0) (vf26_0 : Tf26_0) (vf32_0 : Tf32_0) : EnvK := EnvK.of [⟨15, nt15, [⟨pa15_0, Fn15_0 vf15_0⟩]⟩, ⟨29, nt29, [⟨pa29_0, Fn29_0 vf29_0⟩]⟩, ⟨30, nt30, [⟨pa30_0, Fn30_0 vf30_0⟩]⟩, ⟨31, nt31, [⟨pa31_0, Fn31_0 vf31_0⟩]⟩, ⟨21, nt21, [⟨pa21_0, Fn21_0 vf21_0⟩]⟩, ⟨26, nt26, [⟨pa26_0, Fn26_0 vf26_0⟩]⟩, ⟨32, nt32, [⟨pa32_0, Fn32_0 vf32_0⟩]⟩] noSeq
noncomputable def E6_0 : EnvK := E6_0g f15_0 f29_0 f30_0 f31_0 f21_0 f26_0 f32_0
theorem eo6_0 : E6_0.Ok Try.prog := EnvK.of_ok noSeq_ok ⟨⟨io15_0, trivial⟩, ⟨io29_0, trivial⟩, ⟨io30_0, trivial⟩, ⟨io31_0, trivial⟩, ⟨io21_0, trivial⟩, ⟨io26_0, trivial⟩, ⟨io32_0, trivial⟩, trivial⟩
noncomputable def c6_0_12g  : MCode := (.region r6_13 [] (tO [1, 2, 5, 80]))
noncomputable def c6_0_12 : MCode := c6_0_12g 
theorem g6_0_12 : c6_0_12.Good Try.prog E6_0 sh6 := trivial
--CODE 12 0
abbrev TJ6_0_0 : Type 1 := (α : Type) → Int → Int → Int → Int → Int → Int → Int → Int → (Bool → Option α) → Option α
def J6_0_0g (vf29_0 : Tf29_0) (vf30_0 : Tf30_0) (α : Type) (x17 x18 x19 x20 x21 x33 x34 x35 : Int) (k1 : Bool → Option α) : Option α :=
 vf29_0 α x21 1 30
 (fun x37 => cK (!x37)
 (k1 true)
 (vf29_0 α x18 (w64 (0 - x21)) x21
 (fun x38 => cK (!x38)
 (k1 true)
 (vf29_0 α x19 (w64 (0 - x21)) x21
 (fun x39 => cK (!x39)
 (k1 true)
 (vf29_0 α x20 (w64 (0 - x21)) x21
 (fun x40 => cK (!x40)
 (k1 true)
 (vf29_0 α x17 0 3
 (fun x41 => cK (!x41)
 (k1 true)
 (vf29_0 α x35 1 13
 (fun x42 => cK (!x42)
 (k1 true)
 (vf30_0 α x33 x34 x35
 (fun x43 => cK (x43 != 0)
 (k1 true)
 (k1 (x34 == 0)))))))))))))))
noncomputable def J6_0_0 (α : Type) (x17 x18 x19 x20 x21 x33 x34 x35 : Int) (k1 : Bool → Option α) : Option α := J6_0_0g f29_0 f30_0 α x17 x18 x19 x20 x21 x33 x34 x35 k1
def F6_0_0 (v : TJ6_0_0) (α : Type) (K : Exit → St → Option α) : Int → Int → Int → Int → Int → Int → Int → Int → Int → Int → Int → Int → Int → Int → Int → Int → Int → Int → Int → Option α := fun x17 x18 x19 x20 x21 x22 x23 x24 x25 x26 x27 x28 x29 x30 x31 x32 x33 x34 x35 => v α x17 x18 x19 x20 x21 x33 x34 x35 (fun (y1 : Bool) => u6_0_1 (K .normal) x17 y1 x18 x19 x20 x21 x22 x23 x24 x25 x26 x27 x28 x29 x30 x31 x32 x33 x34 x35) 
theorem m6_0_0g (vf15_0 : Tf15_0) (vf29_0 : Tf29_0) (vf30_0 : Tf30_0) (vf31_0 : Tf31_0) (vf21_0 : Tf21_0) (vf26_0 : Tf26_0) (vf32_0 : Tf32_0)  (α : Type) (K : Exit → St → Option α) : F6_0_0 (J6_0_0g vf29_0 vf30_0) α K = p6_0_0.unc fun σ => runM Try.prog (E6_0g vf15_0 vf29_0 vf30_0 vf31_0 vf21_0 vf26_0 vf32_0) sh6 (c6_0_12g ) K σ := by kernel_rfl
theorem m6_0_0 : ∀ (α : Type) (K : Exit → St → Option α), F6_0_0 J6_0_0 α K = p6_0_0.unc fun σ => runM Try.prog E6_0 sh6 c6_0_12 K σ := m6_0_0g f15_0 f29_0 f30_0 f31_0 f21_0 f26_0 f32_0
abbrev Tf6_0 : Type 1 := (α : Type) → Int → Int → Int → Int → Int → Int → Int → Int → Int → Int → Int → Int → Int → Int → Int → Int → (Bool → Option α) → Option α
def f6_0g (vJ6_0_0 : TJ6_0_0) (vf15_0 : Tf15_0) (vf21_0 : Tf21_0) (vf26_0 : Tf26_0) (vf31_0 : Tf31_0) (vf32_0 : Tf32_0) (α : Type) (x1 x2 x3 x4 x5 x6 x7 x8 x9 x10 x11 x12 x13 x14 x15 x16 : Int) (k1 : Bool → Option α) : Option α :=
 vf15_0 α 
 (vJ6_0_0 α x16 x1 x2 x3 x4 x5 x6 x7
 (fun x44 => cK x44
 (k1 true)
 (vf31_0 α x8 (w64 ((w64 (2 * x16)) + 1))
 (fun x46 => cK (decide ((w64 ((w64 ((w64 (20 * (w64 ((w64 ((w64 (x4 * x7)) - (w64 (x1 * x5)))) + (w64 ((w64 (x4 * x5)) - (w64 (x1 * x7)))))))) + x46)) - x16)) < 0))
 (k1 true)
 (vf31_0 α x9 (w64 ((w64 (2 * x16)) + 1))
 (fun x47 => cK (decide ((w64 ((w64 ((w64 (20 * (w64 ((w64 ((w64 (x4 * x7)) - (w64 (x1 * x5)))) + (w64 (x2 * x6)))))) + x47)) - x16)) < 0))
 (k1 true)
 (vf31_0 α x10 (w64 ((w64 (2 * x16)) + 1))
 (fun x48 => cK (decide ((w64 ((w64 ((w64 (20 * (w64 ((w64 ((w64 (x4 * x7)) - (w64 (x1 * x5)))) - (w64 ((w64 (x4 * x5)) - (w64 (x1 * x7)))))))) + x48)) - x16)) < 0))
 (k1 true)
 (vf31_0 α x11 (w64 ((w64 (2 * x16)) + 1))
 (fun x49 => cK (decide ((w64 ((w64 ((w64 (20 * (w64 ((w64 ((w64 (x4 * x7)) - (w64 (x1 * x5)))) - (w64 (x2 * x6)))))) + x49)) - x16)) < 0))
 (k1 true)
 (vf21_0 α [[DC.v (.float .f32 (FloatKind.nearest .f32 (w64 ((w64 ((w64 (20 * (w64 ((w64 ((w64 (x4 * x7)) - (w64 (x1 * x5)))) + (w64 ((w64 (x4 * x5)) - (w64 (x1 * x7)))))))) + x46)) - x16))))], [DC.v (.float .f32 (FloatKind.nearest .f32 (w64 ((w64 ((w64 (20 * (w64 ((w64 ((w64 (x4 * x7)) - (w64 (x1 * x5)))) + (w64 (x2 * x6)))))) + x47)) - x16))))], [DC.v (.float .f32 (FloatKind.nearest .f32 (w64 ((w64 ((w64 (20 * (w64 ((w64 ((w64 (x4 * x7)) - (w64 (x1 * x5)))) - (w64 ((w64 (x4 * x5)) - (w64 (x1 * x7)))))))) + x48)) - x16))))], [DC.v (.float .f32 (FloatKind.nearest .f32 (w64 ((w64 ((w64 (20 * (w64 ((w64 ((w64 (x4 * x7)) - (w64 (x1 * x5)))) - (w64 (x2 * x6)))))) + x49)) - x16))))]] x16 65536
 (fun x50 x51 x52 x53 x54 x55 x56 => cK (x56 != 0)
 (k1 false)
 (vf31_0 α x12 (w64 ((w64 (2 * x16)) + 1))
 (fun x57 => cK (decide ((w64 ((w64 ((w64 (20 * (w64 ((w64 ((w64 (x4 * x7)) - (w64 (x1 * x5)))) + (w64 ((w64 (x4 * x5)) - (w64 (x1 * x7)))))))) + x57)) - x16)) < 0))
 (k1 true)
 (vf31_0 α x13 (w64 ((w64 (2 * x16)) + 1))
 (fun x58 => cK (decide ((w64 ((w64 ((w64 (20 * (w64 ((w64 ((w64 (x4 * x7)) - (w64 (x1 * x5)))) + (w64 (x3 * x6)))))) + x58)) - x16)) < 0))
 (k1 true)
 (vf31_0 α x14 (w64 ((w64 (2 * x16)) + 1))
 (fun x59 => cK (decide ((w64 ((w64 ((w64 (20 * (w64 ((w64 ((w64 (x4 * x7)) - (w64 (x1 * x5)))) - (w64 ((w64 (x4 * x5)) - (w64 (x1 * x7)))))))) + x59)) - x16)) < 0))
 (k1 true)
 (vf31_0 α x15 (w64 ((w64 (2 * x16)) + 1))
 (fun x60 => cK (decide ((w64 ((w64 ((w64 (20 * (w64 ((w64 ((w64 (x4 * x7)) - (w64 (x1 * x5)))) - (w64 (x3 * x6)))))) + x60)) - x16)) < 0))
 (k1 true)
 (vf21_0 α [[DC.v (.float .f32 (FloatKind.nearest .f32 (w64 ((w64 ((w64 (20 * (w64 ((w64 ((w64 (x4 * x7)) - (w64 (x1 * x5)))) + (w64 ((w64 (x4 * x5)) - (w64 (x1 * x7)))))))) + x57)) - x16))))], [DC.v (.float .f32 (FloatKind.nearest .f32 (w64 ((w64 ((w64 (20 * (w64 ((w64 ((w64 (x4 * x7)) - (w64 (x1 * x5)))) + (w64 (x3 * x6)))))) + x58)) - x16))))], [DC.v (.float .f32 (FloatKind.nearest .f32 (w64 ((w64 ((w64 (20 * (w64 ((w64 ((w64 (x4 * x7)) - (w64 (x1 * x5)))) - (w64 ((w64 (x4 * x5)) - (w64 (x1 * x7)))))))) + x59)) - x16))))], [DC.v (.float .f32 (FloatKind.nearest .f32 (w64 ((w64 ((w64 (20 * (w64 ((w64 ((w64 (x4 * x7)) - (w64 (x1 * x5)))) - (w64 (x3 * x6)))))) + x60)) - x16))))]] x16 65536
 (fun x61 x62 x63 x64 x65 x66 x67 => cK (x67 != 0)
 (k1 false)
 (cK (decide (x50 ≤ 0))
 (k1 true)
 (cK (decide (x61 ≤ 0))
 (k1 true)
 (vf26_0 α (⟨#[108, 105, 103, 104, 116]⟩ : ByteArray) 6328 10000 0 x50 x51 x52 x53 x54 x55 x61 x62 x63 x64 x65 x66 x5 x6 x7
 (fun x68 x69 x70 x71 x72 x73 x74 x75 x76 x77 x78 => cK (x78 != 0)
 (k1 false)
 (vf32_0 α x72 x73 x1 x4
 (fun x79 => cK x79
 (vf32_0 α x74 x75 x2 x4
 (fun x80 => cK x80
 (vf32_0 α x76 x77 x3 x4
 (fun x81 => k1 x81))
 (k1 false)))
 (k1 false)))))))))))))))))))))))))))))
noncomputable def f6_0 (α : Type) (x1 x2 x3 x4 x5 x6 x7 x8 x9 x10 x11 x12 x13 x14 x15 x16 : Int) (k1 : Bool → Option α) : Option α := f6_0g J6_0_0 f15_0 f21_0 f26_0 f31_0 f32_0 α x1 x2 x3 x4 x5 x6 x7 x8 x9 x10 x11 x12 x13 x14 x15 x16 k1
def pa6_0 : PT (List DV) := pA [pV true [(dI .i64), (dI .i64), (dI .i64), (dI .i64), (dI .i64), (dI .i64), (dI .i64), (dI .i64), (dI .i64), (dI .i64), (dI .i64), (dI .i64), (dI .i64), (dI .i64), (dI .i64)], pV false [(dI .i64)]]
def Fn6_0 (v : Tf6_0) (α : Type) (k : List RV → Option α) : Int → Int → Int → Int → Int → Int → Int → Int → Int → Int → Int → Int → Int → Int → Int → Int → Option α := fun x1 x2 x3 x4 x5 x6 x7 x8 x9 x10 x11 x12 x13 x14 x15 x16 => v α x1 x2 x3 x4 x5 x6 x7 x8 x9 x10 x11 x12 x13 x14 x15 x16 (fun (y1 : Bool) => ur6_0_0 k y1)
noncomputable def cm6_0g (vJ6_0_0 : TJ6_0_0) : MCode := (.seq (.region r6_2 [] (tO [1, 2])) (.seq (.seq (.region r6_5 [] (tO [1, 2, 20])) (.cond (.tmp 20) (.seq (.region r6_8 [] (tO [4])) .ret) .skip)) (.seq (.region r6_10 [] (tO [1, 2, 5])) (.seq (.seq (.mark [⟨p6_0_0, F6_0_0 vJ6_0_0⟩] c6_0_12) (.cond (.tmp 80) (.seq (.region r6_16 [] (tO [4])) .ret) .skip)) (.seq (.region r6_18 [] (tO [1, 2, 5, 6])) (.seq (.seq (.region r6_21 [] (tO [1, 2, 5, 6, 7])) (.block 0 (.loopU 3 td6_23 (.seq (.seq (.region r6_26 [] (tO [1, 2, 5, 6, 7, 82])) (.cond (.tmp 82) .skip (.exit 0))) (.seq (.block 1 (.seq (.region r6_31 [] (tO [1, 2, 5, 6, 7, 8, 9, 10])) (.seq (.seq (.region r6_34 [] (tO [1, 2, 5, 6, 7, 8, 9, 10, 113])) (.cond (.tmp 113) (.region r6_36 [] (tO [1, 2, 5, 6, 7, 8, 9, 10])) .skip)) (.seq (.region r6_38 [] (tO [1, 2, 5, 6, 7, 8, 9, 10, 11])) (.seq (.region r6_40 [] (tO [1, 2, 5, 6, 7, 11, 12])) (.seq (.seq (.region r6_43 [] (tO [1, 2, 5, 6, 7, 11, 12, 13])) (.block 2 (.loopU 5 td6_45 (.seq (.seq (.region r6_48 [] (tO [1, 2, 5, 6, 7, 11, 12, 13, 135])) (.cond (.tmp 135) .skip (.exit 2))) (.seq (.block 3 (.seq (.region r6_53 [(2, 14)] (tO [1, 2, 5, 6, 7, 11, 12, 13, 14])) (.seq (.seq (.region r6_56 [] (tO [1, 2, 5, 6, 7, 11, 12, 13, 14, 157])) (.cond (.tmp 157) (.seq (.region r6_59 [] (tO [4])) .ret) .skip)) (.region r6_60 [] (tO [1, 2, 5, 6, 7, 11, 12, 13]))))) (.region r6_61 [] (tO [1, 2, 5, 6, 7, 11, 12, 13]))))))) (.seq (.region r6_63 [] (tO [1, 2, 5, 6, 7, 15, 16])) (.seq (.seq (.region r6_66 [] (tO [1, 2, 5, 6, 7, 15, 171])) (.cond (.tmp 171) (.seq (.region r6_69 [] (tO [4])) .ret) .skip)) (.region r6_70 [] (tO [1, 2, 5, 6, 7])))))))))) (.region r6_71 [] (tO [1, 2, 5, 6, 7]))))))) (.seq (.seq (.region r6_74 [] (tO [2, 5, 6, 186])) (.cond (.tmp 186) (.seq (.region r6_77 [] (tO [4])) .ret) .skip)) (.seq (.region r6_79 [] (tO [2, 17, 18])) (.seq (.seq (.region r6_82 [] (tO [2, 17, 199])) (.cond (.tmp 199) (.seq (.region r6_85 [] (tO [4])) .ret) .skip)) (.seq (.region r6_87 [] (tO [4])) .ret))))))))))
noncomputable def cm6_0 : MCode := cm6_0g J6_0_0
theorem gm6_0 : cm6_0.Good Try.prog E6_0 sh6 := ⟨trivial, ⟨⟨trivial, ⟨⟨trivial, trivial⟩, trivial⟩⟩, ⟨trivial, ⟨⟨⟨g6_0_12, m6_0_0, trivial⟩, ⟨⟨trivial, trivial⟩, trivial⟩⟩, ⟨trivial, ⟨⟨trivial, ⟨⟨⟨trivial, ⟨trivial, trivial⟩⟩, ⟨⟨trivial, ⟨⟨trivial, ⟨trivial, trivial⟩⟩, ⟨trivial, ⟨trivial, ⟨⟨trivial, ⟨⟨⟨trivial, ⟨trivial, trivial⟩⟩, ⟨⟨trivial, ⟨⟨trivial, ⟨⟨trivial, trivial⟩, trivial⟩⟩, trivial⟩⟩, trivial⟩⟩, by decide⟩⟩, ⟨trivial, ⟨⟨trivial, ⟨⟨trivial, trivial⟩, trivial⟩⟩, trivial⟩⟩⟩⟩⟩⟩⟩, trivial⟩⟩, by decide⟩⟩, ⟨⟨trivial, ⟨⟨trivial, trivial⟩, trivial⟩⟩, ⟨trivial, ⟨⟨trivial, ⟨⟨trivial, trivial⟩, trivial⟩⟩, ⟨trivial, trivial⟩⟩⟩⟩⟩⟩⟩⟩⟩⟩
theorem fm6_0g (vf15_0 : Tf15_0) (vf29_0 : Tf29_0) (vf30_0 : Tf30_0) (vf31_0 : Tf31_0) (vf21_0 : Tf21_0) (vf26_0 : Tf26_0) (vf32_0 : Tf32_0) (vJ6_0_0 : TJ6_0_0) (α : Type) (k : List RV → Option α) : Fn6_0 (f6_0g vJ6_0_0 vf15_0 vf21_0 vf26_0 vf31_0 vf32_0) α k = pa6_0.unc fun ds => fnM Try.prog (E6_0g vf15_0 vf29_0 vf30_0 vf31_0 vf21_0 vf26_0 vf32_0) sh6 (cm6_0g vJ6_0_0) rs6 k ds := by kernel_rfl
theorem fm6_0 : ∀ (α : Type) (k : List RV → Option α), Fn6_0 f6_0 α k = pa6_0.unc fun ds => fnM Try.prog E6_0 sh6 cm6_0 rs6 k ds := fm6_0g f15_0 f29_0 f30_0 f31_0 f21_0 f26_0 f32_0 J6_0_0
theorem is6 : FnIs Try.prog 6 nt6 tr6 tl6 cm6_0.erase rs6 := ⟨Try.f6, Try.func6, rfl, by kernel_rfl, by kernel_rfl, by kernel_rfl⟩
theorem io6_0 : InstOk Try.prog 6 nt6 ⟨pa6_0, Fn6_0 f6_0⟩ := inst_ok eo6_0 followsTry is6 ⟨⟨sh6, cm6_0, by kernel_rfl, gm6_0, fm6_0⟩⟩
end Go.AM.K
