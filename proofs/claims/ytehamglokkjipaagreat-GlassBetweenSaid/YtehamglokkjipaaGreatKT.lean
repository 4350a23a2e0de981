/- Printed by KGen. -/
import Derived.Test.YtehamglokkjipaaGreatQGX6a
namespace Go.AM.K
open Go.Proofs
set_option maxRecDepth 100000
set_option linter.unusedVariables false
abbrev nt31 : Nat := 125
def sh31 : List (Nat × List Sh) := [(15, [.int .i64]), (20, [.int .i64]), (24, [.int .i64, .int .i64, .int .i64, .int .i64]), (26, [.int .i64]), (28, [.int .i64]), (30, [.int .i64, .int .i64, .int .i64, .int .i64]), (31, [.str, .int .i64, .sl, .sl, .sl, .int .i64, .int .i64]), (33, [.int .i64]), (37, [.str, .int .i64, .sl, .sl, .sl, .int .i64, .int .i64]), (39, [.int .i64]), (43, [.int .i64, .int .i64, .int .i64, .int .i64]), (45, [.int .i64]), (47, [.int .i64]), (51, [.sl]), (57, [.sl]), (59, [.int .i64]), (60, [.int .i64]), (62, [.int .i64]), (64, [.int .i64]), (68, [.sl]), (70, [.int .i64]), (71, [.int .i64]), (84, [.str, .int .i64, .sl, .sl, .sl, .int .i64, .int .i64]), (87, [.int .i64]), (88, [.int .i64]), (93, [.int .i64]), (95, [.int .i64]), (98, [.int .i64]), (100, [.int .i64]), (113, [.int .i64]), (119, [.int .i64]), (124, [.int .i64, .int .i64, .int .i64, .int .i64])]
def r31_2 : List AOper := [oO 2 (.box (.tmp 0)), oO 3 (.box (.tmp 1)), oO 4 (.alloc [(cI 0), (cI 0), (cI 0), (cI 0)]), oO 5 (.mv (kI 0))]
def r31_4 : List AOper := [oO 6 (.alloc [(cI 0), (cI 0), (cI 0), (cI 0)])]
def r31_7 : List AOper := [oO 14 (.faddr 0 (.tmp 3)), oO 15 (.load false 1 (.tmp 14)), oO 16 (.call 68 [(.tmp 15)]), oO 17 (.pure (oB (.unOp .not 4 (.tmp 16)) 4)), oM 18 17, oG 19 (.faddr 1 (.tmp 3)) 18 false, oG 20 (.load false 1 (.tmp 19)) 18 false, oG 21 (.call 68 [(.tmp 20)]) 18 false, oG 22 (.pure (oB (.unOp .not 4 (.tmp 21)) 4)) 18 false, oO 23 (.pick (.tmp 18) (.const (.bool true)) (.tmp 22))]
def r31_10 : List AOper := [oO 24 (.load true 4 (.tmp 6)), oD (.store 4 (.tmp 4) (.tmp 24)), oO 5 (.mv (kI 2))]
def r31_13 : List AOper := [oO 25 (.faddr 0 (.tmp 3)), oO 26 (.load false 1 (.tmp 25)), oO 27 (.faddr 1 (.tmp 3)), oO 28 (.load false 1 (.tmp 27)), oO 29 (.bin .gtr 3 (.tmp 26) (.tmp 28))]
def r31_16 : List AOper := [oO 30 (.load true 4 (.tmp 6)), oD (.store 4 (.tmp 4) (.tmp 30)), oO 5 (.mv (kI 10))]
def r31_19 : List AOper := [oO 31 (.load true 7 (.tmp 2)), oO 32 (.faddr 0 (.tmp 3)), oO 33 (.load false 1 (.tmp 32)), oO 34 (.call 70 [(.tmp 31), (.tmp 33)]), oO 35 (.bin .neq 3 (.tmp 34) (kI 0)), oM 36 35, oG 37 (.load true 7 (.tmp 2)) 36 false, oG 38 (.faddr 1 (.tmp 3)) 36 false, oG 39 (.load false 1 (.tmp 38)) 36 false, oG 40 (.call 70 [(.tmp 37), (.tmp 39)]) 36 false, oG 41 (.bin .neq 3 (.tmp 40) (kI 0)) 36 false, oO 42 (.pick (.tmp 36) (.const (.bool true)) (.tmp 41))]
def r31_22 : List AOper := [oO 43 (.load true 4 (.tmp 6)), oD (.store 4 (.tmp 4) (.tmp 43)), oO 5 (.mv (kI 17))]
def r31_24 : List AOper := [oO 44 (.faddr 0 (.tmp 3)), oO 45 (.load false 1 (.tmp 44)), oO 46 (.faddr 1 (.tmp 3)), oO 47 (.load false 1 (.tmp 46)), oO 48 (.bslice 1 2 [(.v (.int .i64 0))] [(0, (.tmp 45)), (1, (.tmp 47))]), oM 7 48]
def r31_27 : List AOper := [oO 8 (.mv (kI 0))]
def td31_29 : Option Tidy := (some ⟨[2, 3, 4, 6, 7, 8], true, [⟨false, 7, 0, 20007, 1⟩, ⟨true, 2, 2, 30202, 1⟩, ⟨true, 2, 3, 30203, 1⟩, ⟨true, 2, 4, 30204, 1⟩], []⟩)
def r31_32 : List AOper := [oM 49 8, oO 50 (.faddr 2 (.tmp 2)), oO 51 (.load false 1 (.tmp 50)), oO 52 (.len (.tmp 51)), oO 53 (.bin .lss 3 (.tmp 49) (.tmp 52))]
def r31_37 : List AOper := [oO 56 (.faddr 2 (.tmp 2)), oO 57 (.load false 1 (.tmp 56)), oM 58 8, oO 59 (.iaddr 1 none (.tmp 57) (.tmp 58)), oO 60 (.load false 1 (.tmp 59)), oO 61 (.faddr 0 (.tmp 3)), oO 62 (.load false 1 (.tmp 61)), oO 63 (.faddr 1 (.tmp 3)), oO 64 (.load false 1 (.tmp 63)), oO 65 (.call 57 [(.tmp 60), (.tmp 62), (.tmp 64)])]
def r31_39 : List AOper := [oM 66 7, oO 67 (.faddr 2 (.tmp 2)), oO 68 (.load false 1 (.tmp 67)), oM 69 8, oO 70 (.iaddr 1 none (.tmp 68) (.tmp 69)), oO 71 (.load false 1 (.tmp 70)), oO 72 (.bslice 1 1 [(.v (.int .i64 0))] [(0, (.tmp 71))]), oO 73 (.append 1 8 (.tmp 66) (.tmp 72)), oM 7 73]
def r31_40 : List AOper := [oM 54 8, oO 55 (.bin .add 3 (.tmp 54) (kI 1)), oM 8 55]
def r31_43 : List AOper := [oO 9 (.mv (kI 0))]
def td31_45 : Option Tidy := (some ⟨[2, 4, 6, 7, 9], true, [⟨false, 7, 0, 20007, 1⟩, ⟨true, 2, 2, 30202, 1⟩, ⟨true, 2, 3, 30203, 1⟩, ⟨true, 2, 4, 30204, 1⟩], []⟩)
def r31_48 : List AOper := [oM 74 9, oO 75 (.bin .lss 3 (.tmp 74) (kI 2))]
def r31_53 : List AOper := [oO 10 (.mv (kI 0))]
def td31_55 : Option Tidy := (some ⟨[2, 4, 6, 7, 9, 10], true, [⟨false, 7, 0, 20007, 1⟩, ⟨true, 2, 2, 30202, 1⟩, ⟨true, 2, 3, 30203, 1⟩, ⟨true, 2, 4, 30204, 1⟩], []⟩)
def r31_58 : List AOper := [oM 78 10, oM 79 7, oO 80 (.len (.tmp 79)), oO 81 (.bin .lss 3 (.tmp 78) (.tmp 80))]
def r31_63 : List AOper := [oO 84 (.load true 7 (.tmp 2)), oM 85 7, oM 86 10, oO 87 (.iaddr 1 none (.tmp 85) (.tmp 86)), oO 88 (.load false 1 (.tmp 87)), oO 89 (.call 73 [(.tmp 84), (.tmp 88)]), oM 90 9, oO 91 (.index true 2 2 (.tmp 89) (.tmp 90)), oO 11 (.alloc [(cI 0), (cI 0)]), oD (.store 2 (.tmp 11) (.tmp 91))]
def r31_65 : List AOper := [oO 92 (.faddr 0 (.tmp 11)), oO 93 (.load false 1 (.tmp 92)), oO 94 (.faddr 1 (.tmp 11)), oO 95 (.load false 1 (.tmp 94)), oO 96 (.call 76 [(.tmp 93), (.tmp 95)]), oO 97 (.faddr 0 (.tmp 11)), oO 98 (.load false 1 (.tmp 97)), oO 99 (.faddr 1 (.tmp 11)), oO 100 (.load false 1 (.tmp 99)), oO 101 (.call 77 [(.tmp 98), (.tmp 100)]), oM 12 96, oM 13 101]
def r31_68 : List AOper := [oM 102 10, oO 103 (.bin .eql 3 (.tmp 102) (kI 0))]
def r31_70 : List AOper := [oM 104 9, oM 105 12, oM 106 13, oO 107 (.build [(cI 0), (cI 0)] [(0, 1, (.tmp 105)), (1, 1, (.tmp 106))]), oO 108 (.iaddr 2 (some 2) (.tmp 6) (.tmp 104)), oD (.store 2 (.tmp 108) (.tmp 107))]
def r31_71 : List AOper := [oM 109 9, oM 110 9, oO 111 (.iaddr 2 (some 2) (.tmp 6) (.tmp 110)), oO 112 (.faddr 0 (.tmp 111)), oO 113 (.load false 1 (.tmp 112)), oM 114 12, oO 115 (.pure (oB (.call { callee := .builtin .min, args := #[(.tmp 113), (.tmp 114)], argTypes := #[3, 3] }) 3)), oM 116 9, oO 117 (.iaddr 2 (some 2) (.tmp 6) (.tmp 116)), oO 118 (.faddr 1 (.tmp 117)), oO 119 (.load false 1 (.tmp 118)), oM 120 13, oO 121 (.pure (oB (.call { callee := .builtin .max, args := #[(.tmp 119), (.tmp 120)], argTypes := #[3, 3] }) 3)), oO 122 (.build [(cI 0), (cI 0)] [(0, 1, (.tmp 115)), (1, 1, (.tmp 121))]), oO 123 (.iaddr 2 (some 2) (.tmp 6) (.tmp 109)), oD (.store 2 (.tmp 123) (.tmp 122))]
def r31_72 : List AOper := [oM 82 10, oO 83 (.bin .add 3 (.tmp 82) (kI 1)), oM 10 83]
def r31_73 : List AOper := [oM 76 9, oO 77 (.bin .add 3 (.tmp 76) (kI 1)), oM 9 77]
def r31_75 : List AOper := [oO 124 (.load true 4 (.tmp 6)), oD (.store 4 (.tmp 4) (.tmp 124)), oO 5 (.mv (kI 0))]
def tr31 : List (Nat × Tidy) := [tT 0 [2, 3, 4], tT 1 [2, 3, 4, 6], tT 2 [2, 3, 4, 6, 23], tT 3 [4, 5], tT 4 [2, 3, 4, 6, 29], tT 5 [4, 5], tT 6 [2, 3, 4, 6, 42], tT 7 [4, 5], tT 8 [2, 3, 4, 6, 7], tT 9 [2, 3, 4, 6, 7, 8], tT 10 [2, 3, 4, 6, 7, 8, 53], tT 12 [2, 3, 4, 6, 7, 8, 65], tT 13 [2, 3, 4, 6, 7, 8], tT 11 [2, 3, 4, 6, 7, 8], tT 14 [2, 4, 6, 7, 9], tT 15 [2, 4, 6, 7, 9, 75], tT 17 [2, 4, 6, 7, 9, 10], tT 18 [2, 4, 6, 7, 9, 10, 81], tT 20 [2, 4, 6, 7, 9, 10, 11], tT 21 [2, 4, 6, 7, 9, 10, 12, 13], tT 22 [2, 4, 6, 7, 9, 10, 12, 13, 103], tT 23 [2, 4, 6, 7, 9, 10, 12, 13], tT 24 [2, 4, 6, 7, 9, 10], tT 19 [2, 4, 6, 7, 9, 10], tT 16 [2, 4, 6, 7, 9], tT 25 [4, 5]]
def tl31 : List (Nat × Tidy) := [(10, ⟨[2, 3, 4, 6, 7, 8], true, [⟨false, 7, 0, 20007, 1⟩, ⟨true, 2, 2, 30202, 1⟩, ⟨true, 2, 3, 30203, 1⟩, ⟨true, 2, 4, 30204, 1⟩], []⟩), (15, ⟨[2, 4, 6, 7, 9], true, [⟨false, 7, 0, 20007, 1⟩, ⟨true, 2, 2, 30202, 1⟩, ⟨true, 2, 3, 30203, 1⟩, ⟨true, 2, 4, 30204, 1⟩], []⟩), (18, ⟨[2, 4, 6, 7, 9, 10], true, [⟨false, 7, 0, 20007, 1⟩, ⟨true, 2, 2, 30202, 1⟩, ⟨true, 2, 3, 30203, 1⟩, ⟨true, 2, 4, 30204, 1⟩], []⟩)]
def rs31 : List AResV := [.cell 4 true 4, .tmp 5]
def p31_0_0 : PT St := pS [sl 2 (aV false [(cPtr 2 0)]), sl 3 (aV false [(cPtr 3 0)]), sl 4 (aV false [(cPtr 4 0)]), sl 6 (aV false [(cPtr 6 0)]), sl 7 (aV false [(cRef 20007)]), sl 8 (aV false [(cD (dI .i64))])] [eBox 2 [(cD dS), (cD (dI .i64)), (cD dL), (cD dL), (cD dL), (cD (dI .i64)), (cD (dI .i64))], eBox 3 [(cD (dI .i64)), (cD (dI .i64))], eBox 4 [(cD (dI .i64)), (cD (dI .i64)), (cD (dI .i64)), (cD (dI .i64))], eBox 6 [(cD (dI .i64)), (cD (dI .i64)), (cD (dI .i64)), (cD (dI .i64))], eOwn 20007 1]
def u31_0_0 {β : Type} (g : St → β) : Int → ByteArray → Int → Rows → Rows → Rows → Int → Int → Int → Int → Int → Int → Int → Int → Int → Int → Int → Int → Rows → β := p31_0_0.unc g
def p31_0_1 : PT St := pS [sl 2 (aV false [(cPtr 2 0)]), sl 3 (aV false [(cPtr 3 0)]), sl 4 (aV false [(cPtr 4 0)]), sl 6 (aV false [(cPtr 6 0)]), sl 7 (aV false [(cRef 20007)]), sl 8 (aV false [(cD (dI .i64))]), sl 53 (aV false [(cD dB)])] [eBox 2 [(cD dS), (cD (dI .i64)), (cD dL), (cD dL), (cD dL), (cD (dI .i64)), (cD (dI .i64))], eBox 3 [(cD (dI .i64)), (cD (dI .i64))], eBox 4 [(cD (dI .i64)), (cD (dI .i64)), (cD (dI .i64)), (cD (dI .i64))], eBox 6 [(cD (dI .i64)), (cD (dI .i64)), (cD (dI .i64)), (cD (dI .i64))], eOwn 20007 1]
def u31_0_1 {β : Type} (g : St → β) : Int → Bool → ByteArray → Int → Rows → Rows → Rows → Int → Int → Int → Int → Int → Int → Int → Int → Int → Int → Int → Int → Rows → β := p31_0_1.unc g
def p31_0_2 : PT St := pS [sl 2 (aV false [(cPtr 2 0)]), sl 4 (aV false [(cPtr 4 0)]), sl 6 (aV false [(cPtr 6 0)]), sl 7 (aV false [(cRef 20007)]), sl 9 (aV false [(cD (dIc .i64 0))]), sl 10 (aV false [(cD (dI .i64))]), sl 12 (aV false [(cD (dI .i64))]), sl 13 (aV false [(cD (dI .i64))])] [eBox 2 [(cD dS), (cD (dI .i64)), (cD dL), (cD dL), (cD dL), (cD (dI .i64)), (cD (dI .i64))], eBox 4 [(cD (dI .i64)), (cD (dI .i64)), (cD (dI .i64)), (cD (dI .i64))], eBox 6 [(cD (dI .i64)), (cD (dI .i64)), (cD (dI .i64)), (cD (dI .i64))], eOwn 20007 1]
def u31_0_2 {β : Type} (g : St → β) : Int → Int → Int → ByteArray → Int → Rows → Rows → Rows → Int → Int → Int → Int → Int → Int → Int → Int → Int → Int → Rows → β := p31_0_2.unc g
def p31_0_3 : PT St := pS [sl 2 (aV false [(cPtr 2 0)]), sl 4 (aV false [(cPtr 4 0)]), sl 6 (aV false [(cPtr 6 0)]), sl 7 (aV false [(cRef 20007)]), sl 9 (aV false [(cD (dIc .i64 0))]), sl 10 (aV false [(cD (dI .i64))]), sl 12 (aV false [(cD (dI .i64))]), sl 13 (aV false [(cD (dI .i64))]), sl 103 (aV false [(cD dB)])] [eBox 2 [(cD dS), (cD (dI .i64)), (cD dL), (cD dL), (cD dL), (cD (dI .i64)), (cD (dI .i64))], eBox 4 [(cD (dI .i64)), (cD (dI .i64)), (cD (dI .i64)), (cD (dI .i64))], eBox 6 [(cD (dI .i64)), (cD (dI .i64)), (cD (dI .i64)), (cD (dI .i64))], eOwn 20007 1]
def u31_0_3 {β : Type} (g : St → β) : Int → Int → Int → Bool → ByteArray → Int → Rows → Rows → Rows → Int → Int → Int → Int → Int → Int → Int → Int → Int → Int → Rows → β := p31_0_3.unc g
def p31_0_4 : PT St := pS [sl 2 (aV false [(cPtr 2 0)]), sl 4 (aV false [(cPtr 4 0)]), sl 6 (aV false [(cPtr 6 0)]), sl 7 (aV false [(cRef 20007)]), sl 9 (aV false [(cD (dIc .i64 0))]), sl 10 (aV false [(cD (dI .i64))])] [eBox 2 [(cD dS), (cD (dI .i64)), (cD dL), (cD dL), (cD dL), (cD (dI .i64)), (cD (dI .i64))], eBox 4 [(cD (dI .i64)), (cD (dI .i64)), (cD (dI .i64)), (cD (dI .i64))], eBox 6 [(cD (dI .i64)), (cD (dI .i64)), (cD (dI .i64)), (cD (dI .i64))], eOwn 20007 1]
def u31_0_4 {β : Type} (g : St → β) : Int → ByteArray → Int → Rows → Rows → Rows → Int → Int → Int → Int → Int → Int → Int → Int → Int → Int → Rows → β := p31_0_4.unc g
def p31_0_5 : PT St := pS [sl 2 (aV false [(cPtr 2 0)]), sl 4 (aV false [(cPtr 4 0)]), sl 6 (aV false [(cPtr 6 0)]), sl 7 (aV false [(cRef 20007)]), sl 9 (aV false [(cD (dIc .i64 0))]), sl 10 (aV false [(cD (dI .i64))]), sl 81 (aV false [(cD dB)])] [eBox 2 [(cD dS), (cD (dI .i64)), (cD dL), (cD dL), (cD dL), (cD (dI .i64)), (cD (dI .i64))], eBox 4 [(cD (dI .i64)), (cD (dI .i64)), (cD (dI .i64)), (cD (dI .i64))], eBox 6 [(cD (dI .i64)), (cD (dI .i64)), (cD (dI .i64)), (cD (dI .i64))], eOwn 20007 1]
def u31_0_5 {β : Type} (g : St → β) : Int → Bool → ByteArray → Int → Rows → Rows → Rows → Int → Int → Int → Int → Int → Int → Int → Int → Int → Int → Rows → β := p31_0_5.unc g
def p31_0_6 : PT St := pS [sl 2 (aV false [(cPtr 2 0)]), sl 4 (aV false [(cPtr 4 0)]), sl 6 (aV false [(cPtr 6 0)]), sl 7 (aV false [(cRef 20007)]), sl 9 (aV false [(cD (dIc .i64 1))]), sl 10 (aV false [(cD (dI .i64))]), sl 12 (aV false [(cD (dI .i64))]), sl 13 (aV false [(cD (dI .i64))])] [eBox 2 [(cD dS), (cD (dI .i64)), (cD dL), (cD dL), (cD dL), (cD (dI .i64)), (cD (dI .i64))], eBox 4 [(cD (dI .i64)), (cD (dI .i64)), (cD (dI .i64)), (cD (dI .i64))], eBox 6 [(cD (dI .i64)), (cD (dI .i64)), (cD (dI .i64)), (cD (dI .i64))], eOwn 20007 1]
def u31_0_6 {β : Type} (g : St → β) : Int → Int → Int → ByteArray → Int → Rows → Rows → Rows → Int → Int → Int → Int → Int → Int → Int → Int → Int → Int → Rows → β := p31_0_6.unc g
def p31_0_7 : PT St := pS [sl 2 (aV false [(cPtr 2 0)]), sl 4 (aV false [(cPtr 4 0)]), sl 6 (aV false [(cPtr 6 0)]), sl 7 (aV false [(cRef 20007)]), sl 9 (aV false [(cD (dIc .i64 1))]), sl 10 (aV false [(cD (dI .i64))]), sl 12 (aV false [(cD (dI .i64))]), sl 13 (aV false [(cD (dI .i64))]), sl 103 (aV false [(cD dB)])] [eBox 2 [(cD dS), (cD (dI .i64)), (cD dL), (cD dL), (cD dL), (cD (dI .i64)), (cD (dI .i64))], eBox 4 [(cD (dI .i64)), (cD (dI .i64)), (cD (dI .i64)), (cD (dI .i64))], eBox 6 [(cD (dI .i64)), (cD (dI .i64)), (cD (dI .i64)), (cD (dI .i64))], eOwn 20007 1]
def u31_0_7 {β : Type} (g : St → β) : Int → Int → Int → Bool → ByteArray → Int → Rows → Rows → Rows → Int → Int → Int → Int → Int → Int → Int → Int → Int → Int → Rows → β := p31_0_7.unc g
def p31_0_8 : PT St := pS [sl 2 (aV false [(cPtr 2 0)]), sl 4 (aV false [(cPtr 4 0)]), sl 6 (aV false [(cPtr 6 0)]), sl 7 (aV false [(cRef 20007)]), sl 9 (aV false [(cD (dIc .i64 1))]), sl 10 (aV false [(cD (dI .i64))])] [eBox 2 [(cD dS), (cD (dI .i64)), (cD dL), (cD dL), (cD dL), (cD (dI .i64)), (cD (dI .i64))], eBox 4 [(cD (dI .i64)), (cD (dI .i64)), (cD (dI .i64)), (cD (dI .i64))], eBox 6 [(cD (dI .i64)), (cD (dI .i64)), (cD (dI .i64)), (cD (dI .i64))], eOwn 20007 1]
def u31_0_8 {β : Type} (g : St → β) : Int → ByteArray → Int → Rows → Rows → Rows → Int → Int → Int → Int → Int → Int → Int → Int → Int → Int → Rows → β := p31_0_8.unc g
def p31_0_9 : PT St := pS [sl 2 (aV false [(cPtr 2 0)]), sl 4 (aV false [(cPtr 4 0)]), sl 6 (aV false [(cPtr 6 0)]), sl 7 (aV false [(cRef 20007)]), sl 9 (aV false [(cD (dIc .i64 1))]), sl 10 (aV false [(cD (dI .i64))]), sl 81 (aV false [(cD dB)])] [eBox 2 [(cD dS), (cD (dI .i64)), (cD dL), (cD dL), (cD dL), (cD (dI .i64)), (cD (dI .i64))], eBox 4 [(cD (dI .i64)), (cD (dI .i64)), (cD (dI .i64)), (cD (dI .i64))], eBox 6 [(cD (dI .i64)), (cD (dI .i64)), (cD (dI .i64)), (cD (dI .i64))], eOwn 20007 1]
def u31_0_9 {β : Type} (g : St → β) : Int → Bool → ByteArray → Int → Rows → Rows → Rows → Int → Int → Int → Int → Int → Int → Int → Int → Int → Int → Rows → β := p31_0_9.unc g
def pr31_0_0 : PT (List RV) := pRs [pR true [rD (dI .i64), rD (dI .i64), rD (dI .i64), rD (dI .i64)], pR false [rD (dI .i64)]]
def ur31_0_0 {β : Type} (g : List RV → β) : Int → Int → Int → Int → Int → β := pr31_0_0.unc g
def E31_0g (vf68_0 : Tf68_0) (vf70_0 : Tf70_0) (vf57_0 : Tf57_0) (vf73_0 : Tf73_0) (vf76_0 : Tf76_0) (vf77_0 : Tf77_0) : EnvK := EnvK.of [⟨68, nt68, [⟨pa68_0, Fn68_0 vf68_0⟩]⟩, ⟨70, nt70, [⟨pa70_0, Fn70_0 vf70_0⟩]⟩, ⟨57, nt57, [⟨pa57_0, Fn57_0 vf57_0⟩]⟩, ⟨73, nt73, [⟨pa73_0, Fn73_0 vf73_0⟩]⟩, ⟨76, nt76, [⟨pa76_0, Fn76_0 vf76_0⟩]⟩, ⟨77, nt77, [⟨pa77_0, Fn77_0 vf77_0⟩]⟩] noSeq
noncomputable def E31_0 : EnvK := E31_0g f68_0 f70_0 f57_0 f73_0 f76_0 f77_0
theorem eo31_0 : E31_0.Ok Tryz.prog := EnvK.of_ok noSeq_ok ⟨⟨io68_0, trivial⟩, ⟨io70_0, trivial⟩, ⟨io57_0, trivial⟩, ⟨io73_0, trivial⟩, ⟨io76_0, trivial⟩, ⟨io77_0, trivial⟩, trivial⟩
noncomputable def c31_0_66g  : MCode := (.seq (.region r31_68 [] (tO [2, 4, 6, 7, 9, 10, 12, 13, 103])) (.cond (.tmp 103) (.region r31_70 [] (tO [2, 4, 6, 7, 9, 10, 12, 13])) .skip))
noncomputable def c31_0_66 : MCode := c31_0_66g 
theorem g31_0_66 : c31_0_66.Good Tryz.prog E31_0 sh31 := ⟨trivial, ⟨trivial, trivial⟩⟩
--CODE 66 0
abbrev TJ31_0_1 : Type 1 := (α : Type) → Int → (Option α) → (Bool → Option α) → Option α
def J31_0_1g  (α : Type) (x66 : Int) (k1 : Option α) (k2 : Bool → Option α) : Option α :=
 cK (x66 == 0)
 (k1)
 (k2 (x66 == 0))
noncomputable def J31_0_1 (α : Type) (x66 : Int) (k1 : Option α) (k2 : Bool → Option α) : Option α := J31_0_1g  α x66 k1 k2
def F31_0_1 (v : TJ31_0_1) (α : Type) (K : Exit → St → Option α) : Int → Int → Int → ByteArray → Int → Rows → Rows → Rows → Int → Int → Int → Int → Int → Int → Int → Int → Int → Int → Rows → Option α := fun x66 x67 x68 x69 x70 x71 x72 x73 x74 x75 x76 x77 x78 x79 x80 x81 x82 x83 x84 => v α x66 (u31_0_2 (K .normal) x66 x67 x68 x69 x70 x71 x72 x73 x74 x75 x76 x77 x78 x79 x67 x68 x82 x83 x84) (fun (y1 : Bool) => u31_0_3 (K .normal) x66 x67 x68 y1 x69 x70 x71 x72 x73 x74 x75 x76 x77 x78 x79 x80 x81 x82 x83 x84) 
theorem m31_0_1g (vf68_0 : Tf68_0) (vf70_0 : Tf70_0) (vf57_0 : Tf57_0) (vf73_0 : Tf73_0) (vf76_0 : Tf76_0) (vf77_0 : Tf77_0)  (α : Type) (K : Exit → St → Option α) : F31_0_1 (J31_0_1g ) α K = p31_0_2.unc fun σ => runM Tryz.prog (E31_0g vf68_0 vf70_0 vf57_0 vf73_0 vf76_0 vf77_0) sh31 (c31_0_66g ) K σ := by kernel_rfl
theorem m31_0_1 : ∀ (α : Type) (K : Exit → St → Option α), F31_0_1 J31_0_1 α K = p31_0_2.unc fun σ => runM Tryz.prog E31_0 sh31 c31_0_66 K σ := m31_0_1g f68_0 f70_0 f57_0 f73_0 f76_0 f77_0
--CODE 66 0
abbrev TJ31_0_3 : Type 1 := (α : Type) → Int → (Option α) → (Bool → Option α) → Option α
def J31_0_3g  (α : Type) (x118 : Int) (k1 : Option α) (k2 : Bool → Option α) : Option α :=
 cK (x118 == 0)
 (k1)
 (k2 (x118 == 0))
noncomputable def J31_0_3 (α : Type) (x118 : Int) (k1 : Option α) (k2 : Bool → Option α) : Option α := J31_0_3g  α x118 k1 k2
def F31_0_3 (v : TJ31_0_3) (α : Type) (K : Exit → St → Option α) : Int → Int → Int → ByteArray → Int → Rows → Rows → Rows → Int → Int → Int → Int → Int → Int → Int → Int → Int → Int → Rows → Option α := fun x118 x119 x120 x121 x122 x123 x124 x125 x126 x127 x128 x129 x130 x131 x132 x133 x134 x135 x136 => v α x118 (u31_0_6 (K .normal) x118 x119 x120 x121 x122 x123 x124 x125 x126 x127 x128 x129 x130 x131 x132 x133 x119 x120 x136) (fun (y1 : Bool) => u31_0_7 (K .normal) x118 x119 x120 y1 x121 x122 x123 x124 x125 x126 x127 x128 x129 x130 x131 x132 x133 x134 x135 x136) 
theorem m31_0_3g (vf68_0 : Tf68_0) (vf70_0 : Tf70_0) (vf57_0 : Tf57_0) (vf73_0 : Tf73_0) (vf76_0 : Tf76_0) (vf77_0 : Tf77_0)  (α : Type) (K : Exit → St → Option α) : F31_0_3 (J31_0_3g ) α K = p31_0_6.unc fun σ => runM Tryz.prog (E31_0g vf68_0 vf70_0 vf57_0 vf73_0 vf76_0 vf77_0) sh31 (c31_0_66g ) K σ := by kernel_rfl
theorem m31_0_3 : ∀ (α : Type) (K : Exit → St → Option α), F31_0_3 J31_0_3 α K = p31_0_6.unc fun σ => runM Tryz.prog E31_0 sh31 c31_0_66 K σ := m31_0_3g f68_0 f70_0 f57_0 f73_0 f76_0 f77_0
noncomputable def c31_0_55g (vJ31_0_1 : TJ31_0_1) (vJ31_0_3 : TJ31_0_3) : MCode := (.seq (.seq (.region r31_58 [] (tO [2, 4, 6, 7, 9, 10, 81])) (.cond (.tmp 81) .skip (.exit 4))) (.seq (.block 5 (.seq (.region r31_63 [(0, 8), (3, 8), (4, 8), (5, 8)] (tO [2, 4, 6, 7, 9, 10, 11])) (.seq (.region r31_65 [(4, 6), (4, 8)] (tO [2, 4, 6, 7, 9, 10, 12, 13])) (.seq (.mark [⟨p31_0_2, F31_0_1 vJ31_0_1⟩, ⟨p31_0_6, F31_0_3 vJ31_0_3⟩] c31_0_66) (.region r31_71 [] (tO [2, 4, 6, 7, 9, 10])))))) (.region r31_72 [] (tO [2, 4, 6, 7, 9, 10]))))
noncomputable def c31_0_55 : MCode := c31_0_55g J31_0_1 J31_0_3
theorem g31_0_55 : c31_0_55.Good Tryz.prog E31_0 sh31 := ⟨⟨trivial, ⟨trivial, trivial⟩⟩, ⟨⟨trivial, ⟨trivial, ⟨⟨g31_0_66, m31_0_1, m31_0_3, trivial⟩, trivial⟩⟩⟩, trivial⟩⟩
--CODE 55 0
def S31_0_2g (vJ31_0_1 : TJ31_0_1) (vf73_0 : Tf73_0) (vf76_0 : Tf76_0) (vf77_0 : Tf77_0) (α : Type) (x42 : ByteArray) (x43 : Int) (x44 x45 x46 : Rows) (x47 x48 : Int) (x57 : Rows) (x41 x53 x54 : Int) (kn : Int → Int → Int → Option α) (k1 : Int → Bool → Int → Int → Option α) : Option α :=
 cK (decide (x41 < ((List.length x57 : Nat) : Int)))
 (ixK x57 x41 1
 (ldK x57 (Int.toNat x41) 0 [.int .i64]
 (fun x59 => vf73_0 α x42 x43 x44 x45 x46 x47 x48 x59
 (fun x60 x61 x62 x63 => vf76_0 α x60 x61
 (fun x64 => vf77_0 α x60 x61
 (fun x65 => vJ31_0_1 α x41
 (kn (w64 (x41 + 1)) (if x64 < x64 then x64 else x64) (if x65 > x65 then x65 else x65))
 (fun x86 => kn (w64 (x41 + 1)) (if x64 < x53 then x64 else x53) (if x65 > x54 then x65 else x54))))))))
 (k1 x41 (decide (x41 < ((List.length x57 : Nat) : Int))) x53 x54)
noncomputable def S31_0_2 (α : Type) (x42 : ByteArray) (x43 : Int) (x44 x45 x46 : Rows) (x47 x48 : Int) (x57 : Rows) (x41 x53 x54 : Int) (kn : Int → Int → Int → Option α) (k1 : Int → Bool → Int → Int → Option α) : Option α := S31_0_2g J31_0_1 f73_0 f76_0 f77_0 α x42 x43 x44 x45 x46 x47 x48 x57 x41 x53 x54 kn k1
noncomputable def R31_0_2 (α : Type) (x42 : ByteArray) (x43 : Int) (x44 x45 x46 : Rows) (x47 x48 : Int) (x57 : Rows) (k1 : Int → Bool → Int → Int → Option α) : Nat → Int → Int → Int → Option α
 | 0, _, _, _ => none
 | n + 1, x41, x53, x54 => S31_0_2 α x42 x43 x44 x45 x46 x47 x48 x57 x41 x53 x54 (R31_0_2 α x42 x43 x44 x45 x46 x47 x48 x57 k1 n) k1
noncomputable def L31_0_2 (α : Type) (x42 : ByteArray) (x43 : Int) (x44 x45 x46 : Rows) (x47 x48 : Int) (x57 : Rows) (k1 : Int → Bool → Int → Int → Option α) (x41 x53 x54 : Int) : Option α := R31_0_2 α x42 x43 x44 x45 x46 x47 x48 x57 k1 fuel x41 x53 x54
abbrev TL31_0_2 : Type 1 := (α : Type) → ByteArray → Int → Rows → Rows → Rows → Int → Int → Rows → (Int → Bool → Int → Int → Option α) → Int → Int → Int → Option α
def F31_0_2 (v : TL31_0_2) (α : Type) (K : Exit → St → Option α) : Int → ByteArray → Int → Rows → Rows → Rows → Int → Int → Int → Int → Int → Int → Int → Int → Int → Int → Rows → Option α := fun x41 x42 x43 x44 x45 x46 x47 x48 x49 x50 x51 x52 x53 x54 x55 x56 x57 => v α x42 x43 x44 x45 x46 x47 x48 x57 (fun (y1 : Int) (y2 : Bool) (y3 : Int) (y4 : Int) => u31_0_5 (K (.exit 4)) y1 y2 x42 x43 x44 x45 x46 x47 x48 x49 x50 x51 x52 y3 y4 x55 x56 x57) x41 x53 x54
theorem r31_0_2g (vf68_0 : Tf68_0) (vf70_0 : Tf70_0) (vf57_0 : Tf57_0) (vf73_0 : Tf73_0) (vf76_0 : Tf76_0) (vf77_0 : Tf77_0) (vJ31_0_1 : TJ31_0_1) (vJ31_0_3 : TJ31_0_3) (α : Type) (K : Exit → St → Option α) (Kn : St → Option α) (x41 : Int) (x42 : ByteArray) (x43 : Int) (x44 x45 x46 : Rows) (x47 x48 x49 x50 x51 x52 x53 x54 x55 x56 : Int) (x57 : Rows) : u31_0_4 (fun σ => runM Tryz.prog (E31_0g vf68_0 vf70_0 vf57_0 vf73_0 vf76_0 vf77_0) sh31 (c31_0_55g vJ31_0_1 vJ31_0_3) (thenK (fun σ => tidyK td31_55 σ Kn) K) σ) x41 x42 x43 x44 x45 x46 x47 x48 x49 x50 x51 x52 x53 x54 x55 x56 x57 = S31_0_2g vJ31_0_1 vf73_0 vf76_0 vf77_0 α x42 x43 x44 x45 x46 x47 x48 x57 x41 x53 x54 (fun x41 x53 x54 => u31_0_4 Kn x41 x42 x43 x44 x45 x46 x47 x48 x49 x50 x51 x52 x53 x54 x55 x56 x57) (fun (y1 : Int) (y2 : Bool) (y3 : Int) (y4 : Int) => u31_0_5 (K (.exit 4)) y1 y2 x42 x43 x44 x45 x46 x47 x48 x49 x50 x51 x52 y3 y4 x55 x56 x57) := by kernel_rfl
theorem r31_0_2 (α : Type) (K : Exit → St → Option α) (Kn : St → Option α) (x41 : Int) (x42 : ByteArray) (x43 : Int) (x44 x45 x46 : Rows) (x47 x48 x49 x50 x51 x52 x53 x54 x55 x56 : Int) (x57 : Rows) : u31_0_4 (fun σ => runM Tryz.prog E31_0 sh31 c31_0_55 (thenK (fun σ => tidyK td31_55 σ Kn) K) σ) x41 x42 x43 x44 x45 x46 x47 x48 x49 x50 x51 x52 x53 x54 x55 x56 x57 = S31_0_2 α x42 x43 x44 x45 x46 x47 x48 x57 x41 x53 x54 (fun x41 x53 x54 => u31_0_4 Kn x41 x42 x43 x44 x45 x46 x47 x48 x49 x50 x51 x52 x53 x54 x55 x56 x57) (fun (y1 : Int) (y2 : Bool) (y3 : Int) (y4 : Int) => u31_0_5 (K (.exit 4)) y1 y2 x42 x43 x44 x45 x46 x47 x48 x49 x50 x51 x52 y3 y4 x55 x56 x57) := r31_0_2g f68_0 f70_0 f57_0 f73_0 f76_0 f77_0 J31_0_1 J31_0_3 α K Kn x41 x42 x43 x44 x45 x46 x47 x48 x49 x50 x51 x52 x53 x54 x55 x56 x57
theorem t31_0_2 (α : Type) (K : Exit → St → Option α) : ∀ (n : Nat) (x41 : Int) (x42 : ByteArray) (x43 : Int) (x44 x45 x46 : Rows) (x47 x48 x49 x50 x51 x52 x53 x54 x55 x56 : Int) (x57 : Rows), R31_0_2 α x42 x43 x44 x45 x46 x47 x48 x57 (fun (y1 : Int) (y2 : Bool) (y3 : Int) (y4 : Int) => u31_0_5 (K (.exit 4)) y1 y2 x42 x43 x44 x45 x46 x47 x48 x49 x50 x51 x52 y3 y4 x55 x56 x57) n x41 x53 x54 = u31_0_4 (loopT (runM Tryz.prog E31_0 sh31 c31_0_55) td31_55 K n) x41 x42 x43 x44 x45 x46 x47 x48 x49 x50 x51 x52 x53 x54 x55 x56 x57 := by
 intro n
 induction n with
 | zero => intros; rfl
 | succ n ih => intro x41 x42 x43 x44 x45 x46 x47 x48 x49 x50 x51 x52 x53 x54 x55 x56 x57; exact (congrArg (fun kn => S31_0_2 α x42 x43 x44 x45 x46 x47 x48 x57 x41 x53 x54 kn (fun (y1 : Int) (y2 : Bool) (y3 : Int) (y4 : Int) => u31_0_5 (K (.exit 4)) y1 y2 x42 x43 x44 x45 x46 x47 x48 x49 x50 x51 x52 y3 y4 x55 x56 x57)) (funext fun x41 => funext fun x53 => funext fun x54 => ih x41 x42 x43 x44 x45 x46 x47 x48 x49 x50 x51 x52 x53 x54 x55 x56 x57)).trans (r31_0_2 α K (loopT (runM Tryz.prog E31_0 sh31 c31_0_55) td31_55 K n) x41 x42 x43 x44 x45 x46 x47 x48 x49 x50 x51 x52 x53 x54 x55 x56 x57).symm
theorem m31_0_2 : ∀ (α : Type) (K : Exit → St → Option α), F31_0_2 L31_0_2 α K = p31_0_4.unc fun σ => loopT (runM Tryz.prog E31_0 sh31 c31_0_55) td31_55 K fuel σ := fun α K => funext fun x41 => funext fun x42 => funext fun x43 => funext fun x44 => funext fun x45 => funext fun x46 => funext fun x47 => funext fun x48 => funext fun x49 => funext fun x50 => funext fun x51 => funext fun x52 => funext fun x53 => funext fun x54 => funext fun x55 => funext fun x56 => funext fun x57 => t31_0_2 α K fuel x41 x42 x43 x44 x45 x46 x47 x48 x49 x50 x51 x52 x53 x54 x55 x56 x57
--CODE 55 0
def S31_0_4g (vJ31_0_3 : TJ31_0_3) (vf73_0 : Tf73_0) (vf76_0 : Tf76_0) (vf77_0 : Tf77_0) (α : Type) (x94 : ByteArray) (x95 : Int) (x96 x97 x98 : Rows) (x99 x100 : Int) (x109 : Rows) (x93 x107 x108 : Int) (kn : Int → Int → Int → Option α) (k1 : Int → Bool → Int → Int → Option α) : Option α :=
 cK (decide (x93 < ((List.length x109 : Nat) : Int)))
 (ixK x109 x93 1
 (ldK x109 (Int.toNat x93) 0 [.int .i64]
 (fun x111 => vf73_0 α x94 x95 x96 x97 x98 x99 x100 x111
 (fun x112 x113 x114 x115 => vf76_0 α x114 x115
 (fun x116 => vf77_0 α x114 x115
 (fun x117 => vJ31_0_3 α x93
 (kn (w64 (x93 + 1)) (if x116 < x116 then x116 else x116) (if x117 > x117 then x117 else x117))
 (fun x138 => kn (w64 (x93 + 1)) (if x116 < x107 then x116 else x107) (if x117 > x108 then x117 else x108))))))))
 (k1 x93 (decide (x93 < ((List.length x109 : Nat) : Int))) x107 x108)
noncomputable def S31_0_4 (α : Type) (x94 : ByteArray) (x95 : Int) (x96 x97 x98 : Rows) (x99 x100 : Int) (x109 : Rows) (x93 x107 x108 : Int) (kn : Int → Int → Int → Option α) (k1 : Int → Bool → Int → Int → Option α) : Option α := S31_0_4g J31_0_3 f73_0 f76_0 f77_0 α x94 x95 x96 x97 x98 x99 x100 x109 x93 x107 x108 kn k1
noncomputable def R31_0_4 (α : Type) (x94 : ByteArray) (x95 : Int) (x96 x97 x98 : Rows) (x99 x100 : Int) (x109 : Rows) (k1 : Int → Bool → Int → Int → Option α) : Nat → Int → Int → Int → Option α
 | 0, _, _, _ => none
 | n + 1, x93, x107, x108 => S31_0_4 α x94 x95 x96 x97 x98 x99 x100 x109 x93 x107 x108 (R31_0_4 α x94 x95 x96 x97 x98 x99 x100 x109 k1 n) k1
noncomputable def L31_0_4 (α : Type) (x94 : ByteArray) (x95 : Int) (x96 x97 x98 : Rows) (x99 x100 : Int) (x109 : Rows) (k1 : Int → Bool → Int → Int → Option α) (x93 x107 x108 : Int) : Option α := R31_0_4 α x94 x95 x96 x97 x98 x99 x100 x109 k1 fuel x93 x107 x108
abbrev TL31_0_4 : Type 1 := (α : Type) → ByteArray → Int → Rows → Rows → Rows → Int → Int → Rows → (Int → Bool → Int → Int → Option α) → Int → Int → Int → Option α
def F31_0_4 (v : TL31_0_4) (α : Type) (K : Exit → St → Option α) : Int → ByteArray → Int → Rows → Rows → Rows → Int → Int → Int → Int → Int → Int → Int → Int → Int → Int → Rows → Option α := fun x93 x94 x95 x96 x97 x98 x99 x100 x101 x102 x103 x104 x105 x106 x107 x108 x109 => v α x94 x95 x96 x97 x98 x99 x100 x109 (fun (y1 : Int) (y2 : Bool) (y3 : Int) (y4 : Int) => u31_0_9 (K (.exit 4)) y1 y2 x94 x95 x96 x97 x98 x99 x100 x101 x102 x103 x104 x105 x106 y3 y4 x109) x93 x107 x108
theorem r31_0_4g (vf68_0 : Tf68_0) (vf70_0 : Tf70_0) (vf57_0 : Tf57_0) (vf73_0 : Tf73_0) (vf76_0 : Tf76_0) (vf77_0 : Tf77_0) (vJ31_0_1 : TJ31_0_1) (vJ31_0_3 : TJ31_0_3) (α : Type) (K : Exit → St → Option α) (Kn : St → Option α) (x93 : Int) (x94 : ByteArray) (x95 : Int) (x96 x97 x98 : Rows) (x99 x100 x101 x102 x103 x104 x105 x106 x107 x108 : Int) (x109 : Rows) : u31_0_8 (fun σ => runM Tryz.prog (E31_0g vf68_0 vf70_0 vf57_0 vf73_0 vf76_0 vf77_0) sh31 (c31_0_55g vJ31_0_1 vJ31_0_3) (thenK (fun σ => tidyK td31_55 σ Kn) K) σ) x93 x94 x95 x96 x97 x98 x99 x100 x101 x102 x103 x104 x105 x106 x107 x108 x109 = S31_0_4g vJ31_0_3 vf73_0 vf76_0 vf77_0 α x94 x95 x96 x97 x98 x99 x100 x109 x93 x107 x108 (fun x93 x107 x108 => u31_0_8 Kn x93 x94 x95 x96 x97 x98 x99 x100 x101 x102 x103 x104 x105 x106 x107 x108 x109) (fun (y1 : Int) (y2 : Bool) (y3 : Int) (y4 : Int) => u31_0_9 (K (.exit 4)) y1 y2 x94 x95 x96 x97 x98 x99 x100 x101 x102 x103 x104 x105 x106 y3 y4 x109) := by kernel_rfl
theorem r31_0_4 (α : Type) (K : Exit → St → Option α) (Kn : St → Option α) (x93 : Int) (x94 : ByteArray) (x95 : Int) (x96 x97 x98 : Rows) (x99 x100 x101 x102 x103 x104 x105 x106 x107 x108 : Int) (x109 : Rows) : u31_0_8 (fun σ => runM Tryz.prog E31_0 sh31 c31_0_55 (thenK (fun σ => tidyK td31_55 σ Kn) K) σ) x93 x94 x95 x96 x97 x98 x99 x100 x101 x102 x103 x104 x105 x106 x107 x108 x109 = S31_0_4 α x94 x95 x96 x97 x98 x99 x100 x109 x93 x107 x108 (fun x93 x107 x108 => u31_0_8 Kn x93 x94 x95 x96 x97 x98 x99 x100 x101 x102 x103 x104 x105 x106 x107 x108 x109) (fun (y1 : Int) (y2 : Bool) (y3 : Int) (y4 : Int) => u31_0_9 (K (.exit 4)) y1 y2 x94 x95 x96 x97 x98 x99 x100 x101 x102 x103 x104 x105 x106 y3 y4 x109) := r31_0_4g f68_0 f70_0 f57_0 f73_0 f76_0 f77_0 J31_0_1 J31_0_3 α K Kn x93 x94 x95 x96 x97 x98 x99 x100 x101 x102 x103 x104 x105 x106 x107 x108 x109
theorem t31_0_4 (α : Type) (K : Exit → St → Option α) : ∀ (n : Nat) (x93 : Int) (x94 : ByteArray) (x95 : Int) (x96 x97 x98 : Rows) (x99 x100 x101 x102 x103 x104 x105 x106 x107 x108 : Int) (x109 : Rows), R31_0_4 α x94 x95 x96 x97 x98 x99 x100 x109 (fun (y1 : Int) (y2 : Bool) (y3 : Int) (y4 : Int) => u31_0_9 (K (.exit 4)) y1 y2 x94 x95 x96 x97 x98 x99 x100 x101 x102 x103 x104 x105 x106 y3 y4 x109) n x93 x107 x108 = u31_0_8 (loopT (runM Tryz.prog E31_0 sh31 c31_0_55) td31_55 K n) x93 x94 x95 x96 x97 x98 x99 x100 x101 x102 x103 x104 x105 x106 x107 x108 x109 := by
 intro n
 induction n with
 | zero => intros; rfl
 | succ n ih => intro x93 x94 x95 x96 x97 x98 x99 x100 x101 x102 x103 x104 x105 x106 x107 x108 x109; exact (congrArg (fun kn => S31_0_4 α x94 x95 x96 x97 x98 x99 x100 x109 x93 x107 x108 kn (fun (y1 : Int) (y2 : Bool) (y3 : Int) (y4 : Int) => u31_0_9 (K (.exit 4)) y1 y2 x94 x95 x96 x97 x98 x99 x100 x101 x102 x103 x104 x105 x106 y3 y4 x109)) (funext fun x93 => funext fun x107 => funext fun x108 => ih x93 x94 x95 x96 x97 x98 x99 x100 x101 x102 x103 x104 x105 x106 x107 x108 x109)).trans (r31_0_4 α K (loopT (runM Tryz.prog E31_0 sh31 c31_0_55) td31_55 K n) x93 x94 x95 x96 x97 x98 x99 x100 x101 x102 x103 x104 x105 x106 x107 x108 x109).symm
theorem m31_0_4 : ∀ (α : Type) (K : Exit → St → Option α), F31_0_4 L31_0_4 α K = p31_0_8.unc fun σ => loopT (runM Tryz.prog E31_0 sh31 c31_0_55) td31_55 K fuel σ := fun α K => funext fun x93 => funext fun x94 => funext fun x95 => funext fun x96 => funext fun x97 => funext fun x98 => funext fun x99 => funext fun x100 => funext fun x101 => funext fun x102 => funext fun x103 => funext fun x104 => funext fun x105 => funext fun x106 => funext fun x107 => funext fun x108 => funext fun x109 => t31_0_4 α K fuel x93 x94 x95 x96 x97 x98 x99 x100 x101 x102 x103 x104 x105 x106 x107 x108 x109
noncomputable def c31_0_29g  : MCode := (.seq (.seq (.region r31_32 [] (tO [2, 3, 4, 6, 7, 8, 53])) (.cond (.tmp 53) .skip (.exit 0))) (.seq (.block 1 (.seq (.region r31_37 [] (tO [2, 3, 4, 6, 7, 8, 65])) (.cond (.tmp 65) (.region r31_39 [] (tO [2, 3, 4, 6, 7, 8])) .skip))) (.region r31_40 [] (tO [2, 3, 4, 6, 7, 8]))))
noncomputable def c31_0_29 : MCode := c31_0_29g 
theorem g31_0_29 : c31_0_29.Good Tryz.prog E31_0 sh31 := ⟨⟨trivial, ⟨trivial, trivial⟩⟩, ⟨⟨trivial, ⟨trivial, trivial⟩⟩, trivial⟩⟩
--CODE 29 0
def S31_0_0g (vf57_0 : Tf57_0) (α : Type) (x17 : Rows) (x22 x23 x14 : Int) (x32 : Rows) (kn : Int → Rows → Option α) (k1 : Int → Bool → Rows → Option α) : Option α :=
 cK (decide (x14 < ((List.length x17 : Nat) : Int)))
 (rowK x17 x14 [.int .i64]
 (fun x34 => vf57_0 α x34 x22 x23
 (fun x35 => cK x35
 (rowK x17 x14 [.int .i64]
 (fun x36 => gK (apOk 1 8 x32 [[DC.v (.int .i64 x36)]]) (kn (w64 (x14 + 1)) (x32 ++ [[DC.v (.int .i64 x36)]]))))
 (kn (w64 (x14 + 1)) x32))))
 (k1 x14 (decide (x14 < ((List.length x17 : Nat) : Int))) x32)
noncomputable def S31_0_0 (α : Type) (x17 : Rows) (x22 x23 x14 : Int) (x32 : Rows) (kn : Int → Rows → Option α) (k1 : Int → Bool → Rows → Option α) : Option α := S31_0_0g f57_0 α x17 x22 x23 x14 x32 kn k1
noncomputable def R31_0_0 (α : Type) (x17 : Rows) (x22 x23 : Int) (k1 : Int → Bool → Rows → Option α) : Nat → Int → Rows → Option α
 | 0, _, _ => none
 | n + 1, x14, x32 => S31_0_0 α x17 x22 x23 x14 x32 (R31_0_0 α x17 x22 x23 k1 n) k1
noncomputable def L31_0_0 (α : Type) (x17 : Rows) (x22 x23 : Int) (k1 : Int → Bool → Rows → Option α) (x14 : Int) (x32 : Rows) : Option α := R31_0_0 α x17 x22 x23 k1 fuel x14 x32
abbrev TL31_0_0 : Type 1 := (α : Type) → Rows → Int → Int → (Int → Bool → Rows → Option α) → Int → Rows → Option α
def F31_0_0 (v : TL31_0_0) (α : Type) (K : Exit → St → Option α) : Int → ByteArray → Int → Rows → Rows → Rows → Int → Int → Int → Int → Int → Int → Int → Int → Int → Int → Int → Int → Rows → Option α := fun x14 x15 x16 x17 x18 x19 x20 x21 x22 x23 x24 x25 x26 x27 x28 x29 x30 x31 x32 => v α x17 x22 x23 (fun (y1 : Int) (y2 : Bool) (y3 : Rows) => u31_0_1 (K (.exit 0)) y1 y2 x15 x16 x17 x18 x19 x20 x21 x22 x23 x24 x25 x26 x27 x28 x29 x30 x31 y3) x14 x32
theorem r31_0_0g (vf68_0 : Tf68_0) (vf70_0 : Tf70_0) (vf57_0 : Tf57_0) (vf73_0 : Tf73_0) (vf76_0 : Tf76_0) (vf77_0 : Tf77_0)  (α : Type) (K : Exit → St → Option α) (Kn : St → Option α) (x14 : Int) (x15 : ByteArray) (x16 : Int) (x17 x18 x19 : Rows) (x20 x21 x22 x23 x24 x25 x26 x27 x28 x29 x30 x31 : Int) (x32 : Rows) : u31_0_0 (fun σ => runM Tryz.prog (E31_0g vf68_0 vf70_0 vf57_0 vf73_0 vf76_0 vf77_0) sh31 (c31_0_29g ) (thenK (fun σ => tidyK td31_29 σ Kn) K) σ) x14 x15 x16 x17 x18 x19 x20 x21 x22 x23 x24 x25 x26 x27 x28 x29 x30 x31 x32 = S31_0_0g vf57_0 α x17 x22 x23 x14 x32 (fun x14 x32 => u31_0_0 Kn x14 x15 x16 x17 x18 x19 x20 x21 x22 x23 x24 x25 x26 x27 x28 x29 x30 x31 x32) (fun (y1 : Int) (y2 : Bool) (y3 : Rows) => u31_0_1 (K (.exit 0)) y1 y2 x15 x16 x17 x18 x19 x20 x21 x22 x23 x24 x25 x26 x27 x28 x29 x30 x31 y3) := by kernel_rfl
theorem r31_0_0 (α : Type) (K : Exit → St → Option α) (Kn : St → Option α) (x14 : Int) (x15 : ByteArray) (x16 : Int) (x17 x18 x19 : Rows) (x20 x21 x22 x23 x24 x25 x26 x27 x28 x29 x30 x31 : Int) (x32 : Rows) : u31_0_0 (fun σ => runM Tryz.prog E31_0 sh31 c31_0_29 (thenK (fun σ => tidyK td31_29 σ Kn) K) σ) x14 x15 x16 x17 x18 x19 x20 x21 x22 x23 x24 x25 x26 x27 x28 x29 x30 x31 x32 = S31_0_0 α x17 x22 x23 x14 x32 (fun x14 x32 => u31_0_0 Kn x14 x15 x16 x17 x18 x19 x20 x21 x22 x23 x24 x25 x26 x27 x28 x29 x30 x31 x32) (fun (y1 : Int) (y2 : Bool) (y3 : Rows) => u31_0_1 (K (.exit 0)) y1 y2 x15 x16 x17 x18 x19 x20 x21 x22 x23 x24 x25 x26 x27 x28 x29 x30 x31 y3) := r31_0_0g f68_0 f70_0 f57_0 f73_0 f76_0 f77_0 α K Kn x14 x15 x16 x17 x18 x19 x20 x21 x22 x23 x24 x25 x26 x27 x28 x29 x30 x31 x32
theorem t31_0_0 (α : Type) (K : Exit → St → Option α) : ∀ (n : Nat) (x14 : Int) (x15 : ByteArray) (x16 : Int) (x17 x18 x19 : Rows) (x20 x21 x22 x23 x24 x25 x26 x27 x28 x29 x30 x31 : Int) (x32 : Rows), R31_0_0 α x17 x22 x23 (fun (y1 : Int) (y2 : Bool) (y3 : Rows) => u31_0_1 (K (.exit 0)) y1 y2 x15 x16 x17 x18 x19 x20 x21 x22 x23 x24 x25 x26 x27 x28 x29 x30 x31 y3) n x14 x32 = u31_0_0 (loopT (runM Tryz.prog E31_0 sh31 c31_0_29) td31_29 K n) x14 x15 x16 x17 x18 x19 x20 x21 x22 x23 x24 x25 x26 x27 x28 x29 x30 x31 x32 := by
 intro n
 induction n with
 | zero => intros; rfl
 | succ n ih => intro x14 x15 x16 x17 x18 x19 x20 x21 x22 x23 x24 x25 x26 x27 x28 x29 x30 x31 x32; exact (congrArg (fun kn => S31_0_0 α x17 x22 x23 x14 x32 kn (fun (y1 : Int) (y2 : Bool) (y3 : Rows) => u31_0_1 (K (.exit 0)) y1 y2 x15 x16 x17 x18 x19 x20 x21 x22 x23 x24 x25 x26 x27 x28 x29 x30 x31 y3)) (funext fun x14 => funext fun x32 => ih x14 x15 x16 x17 x18 x19 x20 x21 x22 x23 x24 x25 x26 x27 x28 x29 x30 x31 x32)).trans (r31_0_0 α K (loopT (runM Tryz.prog E31_0 sh31 c31_0_29) td31_29 K n) x14 x15 x16 x17 x18 x19 x20 x21 x22 x23 x24 x25 x26 x27 x28 x29 x30 x31 x32).symm
theorem m31_0_0 : ∀ (α : Type) (K : Exit → St → Option α), F31_0_0 L31_0_0 α K = p31_0_0.unc fun σ => loopT (runM Tryz.prog E31_0 sh31 c31_0_29) td31_29 K fuel σ := fun α K => funext fun x14 => funext fun x15 => funext fun x16 => funext fun x17 => funext fun x18 => funext fun x19 => funext fun x20 => funext fun x21 => funext fun x22 => funext fun x23 => funext fun x24 => funext fun x25 => funext fun x26 => funext fun x27 => funext fun x28 => funext fun x29 => funext fun x30 => funext fun x31 => funext fun x32 => t31_0_0 α K fuel x14 x15 x16 x17 x18 x19 x20 x21 x22 x23 x24 x25 x26 x27 x28 x29 x30 x31 x32
abbrev Tf31_0 : Type 1 := (α : Type) → ByteArray → Int → Rows → Rows → Rows → Int → Int → Int → Int → (Int → Int → Int → Int → Int → Option α) → Option α
def f31_0g (vL31_0_0 : TL31_0_0) (vL31_0_2 : TL31_0_2) (vL31_0_4 : TL31_0_4) (vf68_0 : Tf68_0) (vf70_0 : Tf70_0) (α : Type) (x1 : ByteArray) (x2 : Int) (x3 x4 x5 : Rows) (x6 x7 x8 x9 : Int) (k1 : Int → Int → Int → Int → Int → Option α) : Option α :=
 vf68_0 α x8
 (fun x10 => cK (!x10)
 (k1 0 0 0 0 2)
 (vf68_0 α x9
 (fun x11 => cK (!x11)
 (k1 0 0 0 0 2)
 (cK (decide (x9 < x8))
 (k1 0 0 0 0 10)
 (vf70_0 α x1 x2 x3 x4 x5 x6 x7 x8
 (fun x12 => cK (x12 != 0)
 (k1 0 0 0 0 17)
 (vf70_0 α x1 x2 x3 x4 x5 x6 x7 x9
 (fun x13 => cK (x13 != 0)
 (k1 0 0 0 0 17)
 (vL31_0_0 α x3 x8 x9
 (fun x37 x38 x39 => vL31_0_2 α x1 x2 x3 x4 x5 x6 x7 x39
 (fun x88 x89 x90 x91 => vL31_0_4 α x1 x2 x3 x4 x5 x6 x7 x39
 (fun x140 x141 x142 x143 => k1 x90 x91 x142 x143 0) 0 0 0) 0 0 0) 0 [[DC.v (.int .i64 x8)], [DC.v (.int .i64 x9)]])))))))))
noncomputable def f31_0 (α : Type) (x1 : ByteArray) (x2 : Int) (x3 x4 x5 : Rows) (x6 x7 x8 x9 : Int) (k1 : Int → Int → Int → Int → Int → Option α) : Option α := f31_0g L31_0_0 L31_0_2 L31_0_4 f68_0 f70_0 α x1 x2 x3 x4 x5 x6 x7 x8 x9 k1
def pa31_0 : PT (List DV) := pA [pV true [dS, (dI .i64), dL, dL, dL, (dI .i64), (dI .i64)], pV true [(dI .i64), (dI .i64)]]
def Fn31_0 (v : Tf31_0) (α : Type) (k : List RV → Option α) : ByteArray → Int → Rows → Rows → Rows → Int → Int → Int → Int → Option α := fun x1 x2 x3 x4 x5 x6 x7 x8 x9 => v α x1 x2 x3 x4 x5 x6 x7 x8 x9 (fun (y1 : Int) (y2 : Int) (y3 : Int) (y4 : Int) (y5 : Int) => ur31_0_0 k y1 y2 y3 y4 y5)
noncomputable def cm31_0g (vL31_0_0 : TL31_0_0) (vL31_0_2 : TL31_0_2) (vL31_0_4 : TL31_0_4) : MCode := (.seq (.region r31_2 [] (tO [2, 3, 4])) (.seq (.region r31_4 [] (tO [2, 3, 4, 6])) (.seq (.seq (.region r31_7 [] (tO [2, 3, 4, 6, 23])) (.cond (.tmp 23) (.seq (.region r31_10 [] (tO [4, 5])) .ret) .skip)) (.seq (.seq (.region r31_13 [] (tO [2, 3, 4, 6, 29])) (.cond (.tmp 29) (.seq (.region r31_16 [] (tO [4, 5])) .ret) .skip)) (.seq (.seq (.region r31_19 [] (tO [2, 3, 4, 6, 42])) (.cond (.tmp 42) (.seq (.region r31_22 [] (tO [4, 5])) .ret) .skip)) (.seq (.region r31_24 [] (tO [2, 3, 4, 6, 7])) (.seq (.seq (.region r31_27 [] (tO [2, 3, 4, 6, 7, 8])) (.block 0 (.loop td31_29 [⟨p31_0_0, F31_0_0 vL31_0_0⟩] c31_0_29))) (.seq (.seq (.region r31_43 [] (tO [2, 4, 6, 7, 9])) (.block 2 (.loopU 3 td31_45 (.seq (.seq (.region r31_48 [] (tO [2, 4, 6, 7, 9, 75])) (.cond (.tmp 75) .skip (.exit 2))) (.seq (.block 3 (.seq (.region r31_53 [] (tO [2, 4, 6, 7, 9, 10])) (.block 4 (.loop td31_55 [⟨p31_0_4, F31_0_2 vL31_0_2⟩, ⟨p31_0_8, F31_0_4 vL31_0_4⟩] c31_0_55)))) (.region r31_73 [] (tO [2, 4, 6, 7, 9]))))))) (.seq (.region r31_75 [] (tO [4, 5])) .ret)))))))))
noncomputable def cm31_0 : MCode := cm31_0g L31_0_0 L31_0_2 L31_0_4
theorem gm31_0 : cm31_0.Good Tryz.prog E31_0 sh31 := ⟨trivial, ⟨trivial, ⟨⟨trivial, ⟨⟨trivial, trivial⟩, trivial⟩⟩, ⟨⟨trivial, ⟨⟨trivial, trivial⟩, trivial⟩⟩, ⟨⟨trivial, ⟨⟨trivial, trivial⟩, trivial⟩⟩, ⟨trivial, ⟨⟨trivial, ⟨g31_0_29, m31_0_0, trivial⟩⟩, ⟨⟨trivial, ⟨⟨⟨trivial, ⟨trivial, trivial⟩⟩, ⟨⟨trivial, ⟨g31_0_55, m31_0_2, m31_0_4, trivial⟩⟩, trivial⟩⟩, by decide⟩⟩, ⟨trivial, trivial⟩⟩⟩⟩⟩⟩⟩⟩⟩
theorem fm31_0g (vf68_0 : Tf68_0) (vf70_0 : Tf70_0) (vf57_0 : Tf57_0) (vf73_0 : Tf73_0) (vf76_0 : Tf76_0) (vf77_0 : Tf77_0) (vL31_0_0 : TL31_0_0) (vL31_0_2 : TL31_0_2) (vL31_0_4 : TL31_0_4) (α : Type) (k : List RV → Option α) : Fn31_0 (f31_0g vL31_0_0 vL31_0_2 vL31_0_4 vf68_0 vf70_0) α k = pa31_0.unc fun ds => fnM Tryz.prog (E31_0g vf68_0 vf70_0 vf57_0 vf73_0 vf76_0 vf77_0) sh31 (cm31_0g vL31_0_0 vL31_0_2 vL31_0_4) rs31 k ds := by kernel_rfl
theorem fm31_0 : ∀ (α : Type) (k : List RV → Option α), Fn31_0 f31_0 α k = pa31_0.unc fun ds => fnM Tryz.prog E31_0 sh31 cm31_0 rs31 k ds := fm31_0g f68_0 f70_0 f57_0 f73_0 f76_0 f77_0 L31_0_0 L31_0_2 L31_0_4
theorem is31 : FnIs Tryz.prog 31 nt31 tr31 tl31 cm31_0.erase rs31 := ⟨Tryz.f31, Tryz.func31, rfl, by kernel_rfl, by kernel_rfl, by kernel_rfl⟩
theorem io31_0 : InstOk Tryz.prog 31 nt31 ⟨pa31_0, Fn31_0 f31_0⟩ := inst_ok eo31_0 followsTry is31 ⟨⟨sh31, cm31_0, by kernel_rfl, gm31_0, fm31_0⟩⟩
abbrev nt21 : Nat := 148
def sh21 : List (Nat × List Sh) := [(7, [.str]), (11, [.int .i64]), (15, [.int .i64]), (19, [.sl]), (22, [.int .i64]), (28, [.sl]), (34, [.sl]), (40, [.int .i64]), (43, [.int .i64]), (47, [.int .i64, .int .i64]), (54, [.sl]), (61, [.sl]), (74, [.sl]), (76, [.int .i64]), (77, [.int .i64]), (82, [.sl]), (84, [.flt .f32]), (85, [.flt .f32]), (91, [.sl]), (93, [.flt .f32]), (94, [.flt .f32]), (101, [.sl]), (103, [.flt .f32]), (104, [.flt .f32]), (108, [.sl]), (110, [.flt .f32]), (111, [.flt .f32]), (116, [.sl]), (118, [.flt .f32]), (119, [.flt .f32]), (124, [.sl]), (126, [.flt .f32]), (127, [.flt .f32]), (135, [.sl]), (137, [.int .i64]), (138, [.int .i64]), (140, [.sl]), (143, [.int .i64]), (144, [.int .i64])]
def r21_2 : List AOper := [oO 1 (.box (.tmp 0)), oO 2 (.mv (kI 0)), oO 3 (.mv (kI 0))]
def r21_5 : List AOper := [oO 6 (.faddr 0 (.tmp 1)), oO 7 (.load false 1 (.tmp 6)), oO 8 (.call 66 [(.tmp 7)]), oO 9 (.pure (oB (.unOp .not 4 (.tmp 8)) 4))]
def r21_8 : List AOper := [oO 2 (.mv (kI 0)), oO 3 (.mv (kI 3))]
def r21_11 : List AOper := [oO 10 (.faddr 1 (.tmp 1)), oO 11 (.load false 1 (.tmp 10)), oO 12 (.bin .neq 3 (.tmp 11) (kI 1)), oM 13 12, oG 14 (.faddr 1 (.tmp 1)) 13 true, oG 15 (.load false 1 (.tmp 14)) 13 true, oG 16 (.bin .neq 3 (.tmp 15) (kI 2)) 13 true, oO 17 (.pick (.tmp 13) (.tmp 16) (.const (.bool false)))]
def r21_14 : List AOper := [oO 2 (.mv (kI 0)), oO 3 (.mv (kI 11))]
def r21_16 : List AOper := [oO 18 (.faddr 2 (.tmp 1)), oO 19 (.load false 1 (.tmp 18)), oO 20 (.len (.tmp 19)), oM 4 20]
def r21_19 : List AOper := [oO 21 (.faddr 1 (.tmp 1)), oO 22 (.load false 1 (.tmp 21)), oO 23 (.bin .eql 3 (.tmp 22) (kI 2))]
def r21_23 : List AOper := [oM 24 4, oO 25 (.bin .gtr 3 (.tmp 24) (kI 0)), oM 26 25, oG 27 (.faddr 3 (.tmp 1)) 26 false, oG 28 (.load false 1 (.tmp 27)) 26 false, oG 29 (.len (.tmp 28)) 26 false, oG 30 (.bin .gtr 3 (.tmp 29) (kI 0)) 26 false, oO 31 (.pick (.tmp 26) (.const (.bool true)) (.tmp 30)), oM 32 31, oG 33 (.faddr 4 (.tmp 1)) 32 false, oG 34 (.load false 1 (.tmp 33)) 32 false, oG 35 (.len (.tmp 34)) 32 false, oG 36 (.bin .gtr 3 (.tmp 35) (kI 0)) 32 false, oO 37 (.pick (.tmp 32) (.const (.bool true)) (.tmp 36))]
def r21_26 : List AOper := [oO 2 (.mv (kI 0)), oO 3 (.mv (kI 13))]
def r21_29 : List AOper := [oO 38 (.faddr 5 (.tmp 1)), oO 39 (.iaddr 1 (some 2) (.tmp 38) (kI 0)), oO 40 (.load false 1 (.tmp 39)), oO 41 (.faddr 5 (.tmp 1)), oO 42 (.iaddr 1 (some 2) (.tmp 41) (kI 1)), oO 43 (.load false 1 (.tmp 42)), oO 44 (.call 67 [(.tmp 40), (.tmp 43)]), oO 45 (.pure (oB (.unOp .not 4 (.tmp 44)) 4))]
def r21_32 : List AOper := [oO 2 (.mv (kI 0)), oO 3 (.mv (kI 2))]
def r21_34 : List AOper := [oO 2 (.mv (kI 0)), oO 3 (.mv (kI 0))]
def r21_37 : List AOper := [oO 46 (.faddr 5 (.tmp 1)), oO 47 (.load true 2 (.tmp 46)), oO 48 (.build [(cI 0), (cI 0)] []), oO 49 (.bin .neq 36 (.tmp 47) (.tmp 48))]
def r21_40 : List AOper := [oO 2 (.mv (kI 0)), oO 3 (.mv (kI 13))]
def r21_43 : List AOper := [oM 50 4, oO 51 (.bin .eql 3 (.tmp 50) (kI 0)), oM 52 51, oG 53 (.faddr 3 (.tmp 1)) 52 false, oG 54 (.load false 1 (.tmp 53)) 52 false, oG 55 (.len (.tmp 54)) 52 false, oG 56 (.mv (.tmp 4)) 52 false, oG 57 (.bin .neq 3 (.tmp 55) (.tmp 56)) 52 false, oO 58 (.pick (.tmp 52) (.const (.bool true)) (.tmp 57)), oM 59 58, oG 60 (.faddr 4 (.tmp 1)) 59 false, oG 61 (.load false 1 (.tmp 60)) 59 false, oG 62 (.len (.tmp 61)) 59 false, oG 63 (.mv (.tmp 4)) 59 false, oG 64 (.bin .neq 3 (.tmp 62) (.tmp 63)) 59 false, oO 65 (.pick (.tmp 59) (.const (.bool true)) (.tmp 64))]
def r21_46 : List AOper := [oO 2 (.mv (kI 0)), oO 3 (.mv (kI 12))]
def r21_49 : List AOper := [oM 66 4, oO 67 (.bin .gtr 3 (.tmp 66) (kI 64))]
def r21_52 : List AOper := [oO 2 (.mv (kI 0)), oO 3 (.mv (kI 8))]
def r21_55 : List AOper := [oO 5 (.mv (kI 0))]
def td21_57 : Option Tidy := (some ⟨[1, 4, 5], true, [⟨true, 1, 2, 30102, 1⟩, ⟨true, 1, 3, 30103, 1⟩, ⟨true, 1, 4, 30104, 1⟩], []⟩)
def r21_60 : List AOper := [oM 68 5, oM 69 4, oO 70 (.bin .lss 3 (.tmp 68) (.tmp 69))]
def r21_66 : List AOper := [oO 73 (.faddr 2 (.tmp 1)), oO 74 (.load false 1 (.tmp 73)), oM 75 5, oO 76 (.iaddr 1 none (.tmp 74) (.tmp 75)), oO 77 (.load false 1 (.tmp 76)), oO 78 (.call 68 [(.tmp 77)]), oO 79 (.pure (oB (.unOp .not 4 (.tmp 78)) 4))]
def r21_69 : List AOper := [oM 80 5, oM 2 80, oO 3 (.mv (kI 2))]
def r21_72 : List AOper := [oO 81 (.faddr 3 (.tmp 1)), oO 82 (.load false 1 (.tmp 81)), oM 83 5, oO 84 (.iaddr 1 none (.tmp 82) (.tmp 83)), oO 85 (.load false 1 (.tmp 84)), oO 86 (.pure (oB (.convert 125 117 (.tmp 85)) 117)), oO 87 (.call 69 [(.tmp 86)]), oO 88 (.pure (oB (.unOp .not 4 (.tmp 87)) 4)), oM 89 88, oG 90 (.faddr 4 (.tmp 1)) 89 false, oG 91 (.load false 1 (.tmp 90)) 89 false, oG 92 (.mv (.tmp 5)) 89 false, oG 93 (.iaddr 1 none (.tmp 91) (.tmp 92)) 89 false, oG 94 (.load false 1 (.tmp 93)) 89 false, oG 95 (.pure (oB (.convert 125 117 (.tmp 94)) 117)) 89 false, oG 96 (.call 69 [(.tmp 95)]) 89 false, oG 97 (.pure (oB (.unOp .not 4 (.tmp 96)) 4)) 89 false, oO 98 (.pick (.tmp 89) (.const (.bool true)) (.tmp 97))]
def r21_75 : List AOper := [oM 99 5, oM 2 99, oO 3 (.mv (kI 27))]
def r21_78 : List AOper := [oO 100 (.faddr 3 (.tmp 1)), oO 101 (.load false 1 (.tmp 100)), oM 102 5, oO 103 (.iaddr 1 none (.tmp 101) (.tmp 102)), oO 104 (.load false 1 (.tmp 103)), oO 105 (.bin .lss 125 (.tmp 104) (.const (.float Go.FloatKind.f32 1167867904))), oM 106 105, oG 107 (.faddr 3 (.tmp 1)) 106 false, oG 108 (.load false 1 (.tmp 107)) 106 false, oG 109 (.mv (.tmp 5)) 106 false, oG 110 (.iaddr 1 none (.tmp 108) (.tmp 109)) 106 false, oG 111 (.load false 1 (.tmp 110)) 106 false, oG 112 (.bin .gtr 125 (.tmp 111) (.const (.float Go.FloatKind.f32 1201422336))) 106 false, oO 113 (.pick (.tmp 106) (.const (.bool true)) (.tmp 112)), oM 114 113, oG 115 (.faddr 4 (.tmp 1)) 114 false, oG 116 (.load false 1 (.tmp 115)) 114 false, oG 117 (.mv (.tmp 5)) 114 false, oG 118 (.iaddr 1 none (.tmp 116) (.tmp 117)) 114 false, oG 119 (.load false 1 (.tmp 118)) 114 false, oG 120 (.bin .lss 125 (.tmp 119) (.const (.float Go.FloatKind.f32 0))) 114 false, oO 121 (.pick (.tmp 114) (.const (.bool true)) (.tmp 120)), oM 122 121, oG 123 (.faddr 4 (.tmp 1)) 122 false, oG 124 (.load false 1 (.tmp 123)) 122 false, oG 125 (.mv (.tmp 5)) 122 false, oG 126 (.iaddr 1 none (.tmp 124) (.tmp 125)) 122 false, oG 127 (.load false 1 (.tmp 126)) 122 false, oG 128 (.bin .gtr 125 (.tmp 127) (.const (.float Go.FloatKind.f32 1201422336))) 122 false, oO 129 (.pick (.tmp 122) (.const (.bool true)) (.tmp 128))]
def r21_81 : List AOper := [oM 130 5, oM 2 130, oO 3 (.mv (kI 2))]
def r21_83 : List AOper := [oM 131 5, oO 132 (.bin .gtr 3 (.tmp 131) (kI 0)), oM 133 132, oG 134 (.faddr 2 (.tmp 1)) 133 true, oG 135 (.load false 1 (.tmp 134)) 133 true, oG 136 (.mv (.tmp 5)) 133 true, oG 137 (.iaddr 1 none (.tmp 135) (.tmp 136)) 133 true, oG 138 (.load false 1 (.tmp 137)) 133 true, oG 139 (.faddr 2 (.tmp 1)) 133 true, oG 140 (.load false 1 (.tmp 139)) 133 true, oG 141 (.mv (.tmp 5)) 133 true, oG 142 (.bin .sub 3 (.tmp 141) (kI 1)) 133 true, oG 143 (.iaddr 1 none (.tmp 140) (.tmp 142)) 133 true, oG 144 (.load false 1 (.tmp 143)) 133 true, oG 145 (.bin .leq 3 (.tmp 138) (.tmp 144)) 133 true, oO 146 (.pick (.tmp 133) (.tmp 145) (.const (.bool false)))]
def r21_86 : List AOper := [oM 147 5, oM 2 147, oO 3 (.mv (kI 10))]
def r21_87 : List AOper := [oM 71 5, oO 72 (.bin .add 3 (.tmp 71) (kI 1)), oM 5 72]
def r21_89 : List AOper := [oO 2 (.mv (kI 0)), oO 3 (.mv (kI 0))]
def tr21 : List (Nat × Tidy) := [tT 0 [1], tT 1 [1, 9], tT 2 [2, 3], tT 3 [1, 17], tT 4 [2, 3], tT 5 [1, 4], tT 6 [1, 4, 23], tT 7 [1, 37], tT 8 [2, 3], tT 9 [45], tT 10 [2, 3], tT 11 [2, 3], tT 12 [1, 4, 49], tT 13 [2, 3], tT 14 [1, 4, 65], tT 15 [2, 3], tT 16 [1, 4, 67], tT 17 [2, 3], tT 18 [1, 4, 5], tT 19 [1, 4, 5, 70], tT 21 [1, 4, 5, 79], tT 22 [2, 3], tT 23 [1, 4, 5, 98], tT 24 [2, 3], tT 25 [1, 4, 5, 129], tT 26 [2, 3], tT 27 [1, 4, 5, 146], tT 28 [2, 3], tT 20 [1, 4, 5], tT 29 [2, 3]]
def tl21 : List (Nat × Tidy) := [(19, ⟨[1, 4, 5], true, [⟨true, 1, 2, 30102, 1⟩, ⟨true, 1, 3, 30103, 1⟩, ⟨true, 1, 4, 30104, 1⟩], []⟩)]
def rs21 : List AResV := [.tmp 2, .tmp 3]
def p21_0_0 : PT St := pS [sl 1 (aV false [(cPtr 1 0)]), sl 9 (aV false [(cD dB)])] [eBox 1 [(cD dS), (cD (dI .i64)), (cD dL), (cD dL), (cD dL), (cD (dI .i64)), (cD (dI .i64))]]
def u21_0_0 {β : Type} (g : St → β) : Bool → ByteArray → Int → Rows → Rows → Rows → Int → Int → β := p21_0_0.unc g
def p21_0_1 : PT St := pS [sl 2 (aV false [(cD (dI .i64))]), sl 3 (aV false [(cD (dI .i64))])] []
def u21_0_1 {β : Type} (g : St → β) : Int → Int → β := p21_0_1.unc g
def p21_0_2 : PT St := pS [sl 1 (aV false [(cPtr 1 0)]), sl 17 (aV false [(cD dB)])] [eBox 1 [(cD dS), (cD (dI .i64)), (cD dL), (cD dL), (cD dL), (cD (dI .i64)), (cD (dI .i64))]]
def u21_0_2 {β : Type} (g : St → β) : Bool → ByteArray → Int → Rows → Rows → Rows → Int → Int → β := p21_0_2.unc g
def p21_0_3 : PT St := pS [sl 1 (aV false [(cPtr 1 0)]), sl 4 (aV false [(cD (dI .i64))]), sl 5 (aV false [(cD (dI .i64))])] [eBox 1 [(cD dS), (cD (dI .i64)), (cD dL), (cD dL), (cD dL), (cD (dI .i64)), (cD (dI .i64))]]
def u21_0_3 {β : Type} (g : St → β) : Int → Int → ByteArray → Int → Rows → Rows → Rows → Int → Int → β := p21_0_3.unc g
def p21_0_4 : PT St := pS [sl 1 (aV false [(cPtr 1 0)]), sl 4 (aV false [(cD (dI .i64))]), sl 5 (aV false [(cD (dI .i64))]), sl 70 (aV false [(cD dB)])] [eBox 1 [(cD dS), (cD (dI .i64)), (cD dL), (cD dL), (cD dL), (cD (dI .i64)), (cD (dI .i64))]]
def u21_0_4 {β : Type} (g : St → β) : Int → Int → Bool → ByteArray → Int → Rows → Rows → Rows → Int → Int → β := p21_0_4.unc g
def pr21_0_0 : PT (List RV) := pRs [pR false [rD (dI .i64)], pR false [rD (dI .i64)]]
def ur21_0_0 {β : Type} (g : List RV → β) : Int → Int → β := pr21_0_0.unc g
def E21_0g (vf66_0 : Tf66_0) (vf67_0 : Tf67_0) (vf68_0 : Tf68_0) (vf69_0 : Tf69_0) (vf69_1 : Tf69_1) : EnvK := EnvK.of [⟨66, nt66, [⟨pa66_0, Fn66_0 vf66_0⟩]⟩, ⟨67, nt67, [⟨pa67_0, Fn67_0 vf67_0⟩]⟩, ⟨68, nt68, [⟨pa68_0, Fn68_0 vf68_0⟩]⟩, ⟨69, nt69, [⟨pa69_0, Fn69_0 vf69_0⟩, ⟨pa69_1, Fn69_1 vf69_1⟩]⟩] noSeq
noncomputable def E21_0 : EnvK := E21_0g f66_0 f67_0 f68_0 f69_0 f69_1
theorem eo21_0 : E21_0.Ok Tryz.prog := EnvK.of_ok noSeq_ok ⟨⟨io66_0, trivial⟩, ⟨io67_0, trivial⟩, ⟨io68_0, trivial⟩, ⟨io69_0, io69_1, trivial⟩, trivial⟩
noncomputable def c21_0_57g  : MCode := (.seq (.seq (.region r21_60 [] (tO [1, 4, 5, 70])) (.cond (.tmp 70) .skip (.exit 0))) (.seq (.block 1 (.seq (.seq (.region r21_66 [] (tO [1, 4, 5, 79])) (.cond (.tmp 79) (.seq (.region r21_69 [] (tO [2, 3])) .ret) .skip)) (.seq (.seq (.region r21_72 [] (tO [1, 4, 5, 98])) (.cond (.tmp 98) (.seq (.region r21_75 [] (tO [2, 3])) .ret) .skip)) (.seq (.seq (.region r21_78 [] (tO [1, 4, 5, 129])) (.cond (.tmp 129) (.seq (.region r21_81 [] (tO [2, 3])) .ret) .skip)) (.seq (.region r21_83 [] (tO [1, 4, 5, 146])) (.cond (.tmp 146) (.seq (.region r21_86 [] (tO [2, 3])) .ret) .skip)))))) (.region r21_87 [] (tO [1, 4, 5]))))
noncomputable def c21_0_57 : MCode := c21_0_57g 
theorem g21_0_57 : c21_0_57.Good Tryz.prog E21_0 sh21 := ⟨⟨trivial, ⟨trivial, trivial⟩⟩, ⟨⟨⟨trivial, ⟨⟨trivial, trivial⟩, trivial⟩⟩, ⟨⟨trivial, ⟨⟨trivial, trivial⟩, trivial⟩⟩, ⟨⟨trivial, ⟨⟨trivial, trivial⟩, trivial⟩⟩, ⟨trivial, ⟨⟨trivial, trivial⟩, trivial⟩⟩⟩⟩⟩, trivial⟩⟩
--CODE 57 0
def S21_0_1g (vf68_0 : Tf68_0) (vf69_0 : Tf69_0) (vf69_1 : Tf69_1) (α : Type) (x21 : Int) (x25 x26 x27 : Rows) (x22 : Int) (kn : Int → Option α) (k1 : Int → Int → Option α) (k2 : Int → Bool → Option α) : Option α :=
 cK (decide (x22 < x21))
 (rowK x25 x22 [.int .i64]
 (fun x31 => vf68_0 α x31
 (fun x32 => cK (!x32)
 (k1 x22 2)
 (rowK x26 x22 [.flt .f32]
 (fun x33 => cK (isNaNb .f32 x33)
 (vf69_0 α 
 (k1 x22 27))
 (flK (f2f .f32 x33 .f64)
 (fun x34 => vf69_1 α x34
 (fun x35 => cK (!x35)
 (k1 x22 27)
 (rowK x27 x22 [.flt .f32]
 (fun x36 => cK (isNaNb .f32 x36)
 (vf69_0 α 
 (k1 x22 27))
 (flK (f2f .f32 x36 .f64)
 (fun x37 => vf69_1 α x37
 (fun x38 => cK (!x38)
 (k1 x22 27)
 (rowK x26 x22 [.flt .f32]
 (fun x39 => cK ((FloatKind.format .f32).order x39 1167867904 == some Ordering.lt)
 (k1 x22 2)
 (rowK x26 x22 [.flt .f32]
 (fun x40 => cK ((FloatKind.format .f32).order x40 1201422336 == some Ordering.gt)
 (k1 x22 2)
 (rowK x27 x22 [.flt .f32]
 (fun x41 => cK ((FloatKind.format .f32).order x41 0 == some Ordering.lt)
 (k1 x22 2)
 (rowK x27 x22 [.flt .f32]
 (fun x42 => cK ((FloatKind.format .f32).order x42 1201422336 == some Ordering.gt)
 (k1 x22 2)
 (cK (decide (0 < x22))
 (rowK x25 x22 [.int .i64]
 (fun x43 => rowK x25 (w64 (x22 - 1)) [.int .i64]
 (fun x44 => cK (decide (x43 ≤ x44))
 (k1 x22 10)
 (kn (w64 (x22 + 1))))))
 (kn (w64 (x22 + 1)))))))))))))))))))))))))
 (k2 x22 (decide (x22 < x21)))
noncomputable def S21_0_1 (α : Type) (x21 : Int) (x25 x26 x27 : Rows) (x22 : Int) (kn : Int → Option α) (k1 : Int → Int → Option α) (k2 : Int → Bool → Option α) : Option α := S21_0_1g f68_0 f69_0 f69_1 α x21 x25 x26 x27 x22 kn k1 k2
noncomputable def R21_0_1 (α : Type) (x21 : Int) (x25 x26 x27 : Rows) (k1 : Int → Int → Option α) (k2 : Int → Bool → Option α) : Nat → Int → Option α
 | 0, _ => none
 | n + 1, x22 => S21_0_1 α x21 x25 x26 x27 x22 (R21_0_1 α x21 x25 x26 x27 k1 k2 n) k1 k2
noncomputable def L21_0_1 (α : Type) (x21 : Int) (x25 x26 x27 : Rows) (k1 : Int → Int → Option α) (k2 : Int → Bool → Option α) (x22 : Int) : Option α := R21_0_1 α x21 x25 x26 x27 k1 k2 fuel x22
abbrev TL21_0_1 : Type 1 := (α : Type) → Int → Rows → Rows → Rows → (Int → Int → Option α) → (Int → Bool → Option α) → Int → Option α
def F21_0_1 (v : TL21_0_1) (α : Type) (K : Exit → St → Option α) : Int → Int → ByteArray → Int → Rows → Rows → Rows → Int → Int → Option α := fun x21 x22 x23 x24 x25 x26 x27 x28 x29 => v α x21 x25 x26 x27 (fun (y1 : Int) (y2 : Int) => u21_0_1 (K .ret) y1 y2) (fun (y1 : Int) (y2 : Bool) => u21_0_4 (K (.exit 0)) x21 y1 y2 x23 x24 x25 x26 x27 x28 x29) x22
theorem r21_0_1g (vf66_0 : Tf66_0) (vf67_0 : Tf67_0) (vf68_0 : Tf68_0) (vf69_0 : Tf69_0) (vf69_1 : Tf69_1)  (α : Type) (K : Exit → St → Option α) (Kn : St → Option α) (x21 x22 : Int) (x23 : ByteArray) (x24 : Int) (x25 x26 x27 : Rows) (x28 x29 : Int) : u21_0_3 (fun σ => runM Tryz.prog (E21_0g vf66_0 vf67_0 vf68_0 vf69_0 vf69_1) sh21 (c21_0_57g ) (thenK (fun σ => tidyK td21_57 σ Kn) K) σ) x21 x22 x23 x24 x25 x26 x27 x28 x29 = S21_0_1g vf68_0 vf69_0 vf69_1 α x21 x25 x26 x27 x22 (fun x22 => u21_0_3 Kn x21 x22 x23 x24 x25 x26 x27 x28 x29) (fun (y1 : Int) (y2 : Int) => u21_0_1 (K .ret) y1 y2) (fun (y1 : Int) (y2 : Bool) => u21_0_4 (K (.exit 0)) x21 y1 y2 x23 x24 x25 x26 x27 x28 x29) := by kernel_rfl
theorem r21_0_1 (α : Type) (K : Exit → St → Option α) (Kn : St → Option α) (x21 x22 : Int) (x23 : ByteArray) (x24 : Int) (x25 x26 x27 : Rows) (x28 x29 : Int) : u21_0_3 (fun σ => runM Tryz.prog E21_0 sh21 c21_0_57 (thenK (fun σ => tidyK td21_57 σ Kn) K) σ) x21 x22 x23 x24 x25 x26 x27 x28 x29 = S21_0_1 α x21 x25 x26 x27 x22 (fun x22 => u21_0_3 Kn x21 x22 x23 x24 x25 x26 x27 x28 x29) (fun (y1 : Int) (y2 : Int) => u21_0_1 (K .ret) y1 y2) (fun (y1 : Int) (y2 : Bool) => u21_0_4 (K (.exit 0)) x21 y1 y2 x23 x24 x25 x26 x27 x28 x29) := r21_0_1g f66_0 f67_0 f68_0 f69_0 f69_1 α K Kn x21 x22 x23 x24 x25 x26 x27 x28 x29
theorem t21_0_1 (α : Type) (K : Exit → St → Option α) : ∀ (n : Nat) (x21 x22 : Int) (x23 : ByteArray) (x24 : Int) (x25 x26 x27 : Rows) (x28 x29 : Int), R21_0_1 α x21 x25 x26 x27 (fun (y1 : Int) (y2 : Int) => u21_0_1 (K .ret) y1 y2) (fun (y1 : Int) (y2 : Bool) => u21_0_4 (K (.exit 0)) x21 y1 y2 x23 x24 x25 x26 x27 x28 x29) n x22 = u21_0_3 (loopT (runM Tryz.prog E21_0 sh21 c21_0_57) td21_57 K n) x21 x22 x23 x24 x25 x26 x27 x28 x29 := by
 intro n
 induction n with
 | zero => intros; rfl
 | succ n ih => intro x21 x22 x23 x24 x25 x26 x27 x28 x29; exact (congrArg (fun kn => S21_0_1 α x21 x25 x26 x27 x22 kn (fun (y1 : Int) (y2 : Int) => u21_0_1 (K .ret) y1 y2) (fun (y1 : Int) (y2 : Bool) => u21_0_4 (K (.exit 0)) x21 y1 y2 x23 x24 x25 x26 x27 x28 x29)) (funext fun x22 => ih x21 x22 x23 x24 x25 x26 x27 x28 x29)).trans (r21_0_1 α K (loopT (runM Tryz.prog E21_0 sh21 c21_0_57) td21_57 K n) x21 x22 x23 x24 x25 x26 x27 x28 x29).symm
theorem m21_0_1 : ∀ (α : Type) (K : Exit → St → Option α), F21_0_1 L21_0_1 α K = p21_0_3.unc fun σ => loopT (runM Tryz.prog E21_0 sh21 c21_0_57) td21_57 K fuel σ := fun α K => funext fun x21 => funext fun x22 => funext fun x23 => funext fun x24 => funext fun x25 => funext fun x26 => funext fun x27 => funext fun x28 => funext fun x29 => t21_0_1 α K fuel x21 x22 x23 x24 x25 x26 x27 x28 x29
noncomputable def c21_0_9g  : MCode := (.seq (.region r21_11 [] (tO [1, 17])) (.cond (.tmp 17) (.seq (.region r21_14 [] (tO [2, 3])) .ret) .skip))
noncomputable def c21_0_9 : MCode := c21_0_9g 
theorem g21_0_9 : c21_0_9.Good Tryz.prog E21_0 sh21 := ⟨trivial, ⟨⟨trivial, trivial⟩, trivial⟩⟩
--CODE 9 0
abbrev TJ21_0_0 : Type 1 := (α : Type) → Int → (Option α) → (Bool → Option α) → Option α
def J21_0_0g  (α : Type) (x11 : Int) (k1 : Option α) (k2 : Bool → Option α) : Option α :=
 cK (x11 != 1)
 (cK (x11 != 2)
 (k1)
 (k2 (x11 != 2)))
 (k2 false)
noncomputable def J21_0_0 (α : Type) (x11 : Int) (k1 : Option α) (k2 : Bool → Option α) : Option α := J21_0_0g  α x11 k1 k2
def F21_0_0 (v : TJ21_0_0) (α : Type) (K : Exit → St → Option α) : Bool → ByteArray → Int → Rows → Rows → Rows → Int → Int → Option α := fun x9 x10 x11 x12 x13 x14 x15 x16 => v α x11 (u21_0_1 (K .ret) 0 11) (fun (y1 : Bool) => u21_0_2 (K .normal) y1 x10 x11 x12 x13 x14 x15 x16) 
theorem m21_0_0g (vf66_0 : Tf66_0) (vf67_0 : Tf67_0) (vf68_0 : Tf68_0) (vf69_0 : Tf69_0) (vf69_1 : Tf69_1)  (α : Type) (K : Exit → St → Option α) : F21_0_0 (J21_0_0g ) α K = p21_0_0.unc fun σ => runM Tryz.prog (E21_0g vf66_0 vf67_0 vf68_0 vf69_0 vf69_1) sh21 (c21_0_9g ) K σ := by kernel_rfl
theorem m21_0_0 : ∀ (α : Type) (K : Exit → St → Option α), F21_0_0 J21_0_0 α K = p21_0_0.unc fun σ => runM Tryz.prog E21_0 sh21 c21_0_9 K σ := m21_0_0g f66_0 f67_0 f68_0 f69_0 f69_1
abbrev Tf21_0 : Type 1 := (α : Type) → ByteArray → Int → Rows → Rows → Rows → Int → Int → (Int → Int → Option α) → Option α
def f21_0g (vJ21_0_0 : TJ21_0_0) (vL21_0_1 : TL21_0_1) (vf66_0 : Tf66_0) (vf67_0 : Tf67_0) (α : Type) (x1 : ByteArray) (x2 : Int) (x3 x4 x5 : Rows) (x6 x7 : Int) (k1 : Int → Int → Option α) : Option α :=
 vf66_0 α x1
 (fun x8 => cK (!x8)
 (k1 0 3)
 (vJ21_0_0 α x2
 (k1 0 11)
 (fun x18 => cK (x2 == 2)
 (cK (decide (0 < ((List.length x3 : Nat) : Int)))
 (k1 0 13)
 (cK (decide (0 < ((List.length x4 : Nat) : Int)))
 (k1 0 13)
 (cK (decide (0 < ((List.length x5 : Nat) : Int)))
 (k1 0 13)
 (vf67_0 α x6 x7
 (fun x20 => cK (!x20)
 (k1 0 2)
 (k1 0 0))))))
 (cK (!((x6 == 0) && ((x7 == 0) && true)))
 (k1 0 13)
 (cK (((List.length x3 : Nat) : Int) == 0)
 (k1 0 12)
 (cK (((List.length x4 : Nat) : Int) != ((List.length x3 : Nat) : Int))
 (k1 0 12)
 (cK (((List.length x5 : Nat) : Int) != ((List.length x3 : Nat) : Int))
 (k1 0 12)
 (cK (decide (64 < ((List.length x3 : Nat) : Int)))
 (k1 0 8)
 (vL21_0_1 α ((List.length x3 : Nat) : Int) x3 x4 x5
 (fun x45 x46 => k1 x45 x46)
 (fun x47 x48 => k1 0 0) 0)))))))))
noncomputable def f21_0 (α : Type) (x1 : ByteArray) (x2 : Int) (x3 x4 x5 : Rows) (x6 x7 : Int) (k1 : Int → Int → Option α) : Option α := f21_0g J21_0_0 L21_0_1 f66_0 f67_0 α x1 x2 x3 x4 x5 x6 x7 k1
def pa21_0 : PT (List DV) := pA [pV true [dS, (dI .i64), dL, dL, dL, (dI .i64), (dI .i64)]]
def Fn21_0 (v : Tf21_0) (α : Type) (k : List RV → Option α) : ByteArray → Int → Rows → Rows → Rows → Int → Int → Option α := fun x1 x2 x3 x4 x5 x6 x7 => v α x1 x2 x3 x4 x5 x6 x7 (fun (y1 : Int) (y2 : Int) => ur21_0_0 k y1 y2)
noncomputable def cm21_0g (vJ21_0_0 : TJ21_0_0) (vL21_0_1 : TL21_0_1) : MCode := (.seq (.region r21_2 [] (tO [1])) (.seq (.seq (.region r21_5 [] (tO [1, 9])) (.cond (.tmp 9) (.seq (.region r21_8 [] (tO [2, 3])) .ret) .skip)) (.seq (.mark [⟨p21_0_0, F21_0_0 vJ21_0_0⟩] c21_0_9) (.seq (.region r21_16 [] (tO [1, 4])) (.seq (.seq (.region r21_19 [] (tO [1, 4, 23])) (.cond (.tmp 23) (.seq (.seq (.region r21_23 [] (tO [1, 37])) (.cond (.tmp 37) (.seq (.region r21_26 [] (tO [2, 3])) .ret) .skip)) (.seq (.seq (.region r21_29 [] (tO [45])) (.cond (.tmp 45) (.seq (.region r21_32 [] (tO [2, 3])) .ret) .skip)) (.seq (.region r21_34 [] (tO [2, 3])) .ret))) .skip)) (.seq (.seq (.region r21_37 [] (tO [1, 4, 49])) (.cond (.tmp 49) (.seq (.region r21_40 [] (tO [2, 3])) .ret) .skip)) (.seq (.seq (.region r21_43 [] (tO [1, 4, 65])) (.cond (.tmp 65) (.seq (.region r21_46 [] (tO [2, 3])) .ret) .skip)) (.seq (.seq (.region r21_49 [] (tO [1, 4, 67])) (.cond (.tmp 67) (.seq (.region r21_52 [] (tO [2, 3])) .ret) .skip)) (.seq (.seq (.region r21_55 [] (tO [1, 4, 5])) (.block 0 (.loop td21_57 [⟨p21_0_3, F21_0_1 vL21_0_1⟩] c21_0_57))) (.seq (.region r21_89 [] (tO [2, 3])) .ret))))))))))
noncomputable def cm21_0 : MCode := cm21_0g J21_0_0 L21_0_1
theorem gm21_0 : cm21_0.Good Tryz.prog E21_0 sh21 := ⟨trivial, ⟨⟨trivial, ⟨⟨trivial, trivial⟩, trivial⟩⟩, ⟨⟨g21_0_9, m21_0_0, trivial⟩, ⟨trivial, ⟨⟨trivial, ⟨⟨⟨trivial, ⟨⟨trivial, trivial⟩, trivial⟩⟩, ⟨⟨trivial, ⟨⟨trivial, trivial⟩, trivial⟩⟩, ⟨trivial, trivial⟩⟩⟩, trivial⟩⟩, ⟨⟨trivial, ⟨⟨trivial, trivial⟩, trivial⟩⟩, ⟨⟨trivial, ⟨⟨trivial, trivial⟩, trivial⟩⟩, ⟨⟨trivial, ⟨⟨trivial, trivial⟩, trivial⟩⟩, ⟨⟨trivial, ⟨g21_0_57, m21_0_1, trivial⟩⟩, ⟨trivial, trivial⟩⟩⟩⟩⟩⟩⟩⟩⟩⟩
theorem fm21_0g (vf66_0 : Tf66_0) (vf67_0 : Tf67_0) (vf68_0 : Tf68_0) (vf69_0 : Tf69_0) (vf69_1 : Tf69_1) (vJ21_0_0 : TJ21_0_0) (vL21_0_1 : TL21_0_1) (α : Type) (k : List RV → Option α) : Fn21_0 (f21_0g vJ21_0_0 vL21_0_1 vf66_0 vf67_0) α k = pa21_0.unc fun ds => fnM Tryz.prog (E21_0g vf66_0 vf67_0 vf68_0 vf69_0 vf69_1) sh21 (cm21_0g vJ21_0_0 vL21_0_1) rs21 k ds := by kernel_rfl
theorem fm21_0 : ∀ (α : Type) (k : List RV → Option α), Fn21_0 f21_0 α k = pa21_0.unc fun ds => fnM Tryz.prog E21_0 sh21 cm21_0 rs21 k ds := fm21_0g f66_0 f67_0 f68_0 f69_0 f69_1 J21_0_0 L21_0_1
theorem is21 : FnIs Tryz.prog 21 nt21 tr21 tl21 cm21_0.erase rs21 := ⟨Tryz.f21, Tryz.func21, rfl, by kernel_rfl, by kernel_rfl, by kernel_rfl⟩
theorem io21_0 : InstOk Tryz.prog 21 nt21 ⟨pa21_0, Fn21_0 f21_0⟩ := inst_ok eo21_0 followsTry is21 ⟨⟨sh21, cm21_0, by kernel_rfl, gm21_0, fm21_0⟩⟩
abbrev nt200 : Nat := 18
def sh200 : List (Nat × List Sh) := [(5, [.int .i64, .int .i64]), (7, [.int .i64]), (10, [.int .i64, .int .i64]), (12, [.int .i64])]
def r200_2 : List AOper := [oO 2 (.box (.tmp 0)), oO 3 (.box (.tmp 1)), oO 4 (.alloc [(cI 0), (cI 0), (cI 0), (cI 0)])]
def r200_4 : List AOper := [oO 5 (.load true 2 (.tmp 2)), oO 6 (.faddr 1 (.tmp 3)), oO 7 (.load false 1 (.tmp 6)), oO 8 (.call 203 [(.tmp 5), (.tmp 7), (kI 1)]), oO 9 (.call 108 [(.tmp 8)]), oO 10 (.load true 2 (.tmp 2)), oO 11 (.faddr 0 (.tmp 3)), oO 12 (.load false 1 (.tmp 11)), oO 13 (.call 203 [(.tmp 10), (.tmp 12), (kI 1)]), oO 14 (.call 109 [(.tmp 13)]), oO 15 (.build [(cI 0), (cI 0)] [(0, 1, (.tmp 9)), (1, 1, (.tmp 14))]), oO 16 (.build [(cI 0), (cI 0)] []), oO 17 (.build [(cI 0), (cI 0), (cI 0), (cI 0)] [(0, 2, (.tmp 15)), (2, 2, (.tmp 16))]), oD (.store 4 (.tmp 4) (.tmp 17))]
def tr200 : List (Nat × Tidy) := [tT 0 [2, 3, 4], tT 1 [4]]
def tl200 : List (Nat × Tidy) := []
def rs200 : List AResV := [.cell 4 true 4]
def pr200_0_0 : PT (List RV) := pRs [pR true [rD (dI .i64), rD (dI .i64), rD (dI .i64), rD (dI .i64)]]
def ur200_0_0 {β : Type} (g : List RV → β) : Int → Int → Int → Int → β := pr200_0_0.unc g
def E200_0g (vf203_0 : Tf203_0) (vf108_0 : Tf108_0) (vf109_0 : Tf109_0) : EnvK := EnvK.of [⟨203, nt203, [⟨pa203_0, Fn203_0 vf203_0⟩]⟩, ⟨108, nt108, [⟨pa108_0, Fn108_0 vf108_0⟩]⟩, ⟨109, nt109, [⟨pa109_0, Fn109_0 vf109_0⟩]⟩] noSeq
noncomputable def E200_0 : EnvK := E200_0g f203_0 f108_0 f109_0
theorem eo200_0 : E200_0.Ok Tryz.prog := EnvK.of_ok noSeq_ok ⟨⟨io203_0, trivial⟩, ⟨io108_0, trivial⟩, ⟨io109_0, trivial⟩, trivial⟩
abbrev Tf200_0 : Type 1 := (α : Type) → Int → Int → Int → Int → (Int → Int → Option α) → Option α
def f200_0g (vf108_0 : Tf108_0) (vf109_0 : Tf109_0) (vf203_0 : Tf203_0) (α : Type) (x1 x2 x3 x4 : Int) (k1 : Int → Int → Option α) : Option α :=
 vf203_0 α x1 x2 x4 1
 (fun x5 x6 => vf108_0 α x5 x6
 (fun x7 => vf203_0 α x1 x2 x3 1
 (fun x8 x9 => vf109_0 α x8 x9
 (fun x10 => k1 x7 x10))))
noncomputable def f200_0 (α : Type) (x1 x2 x3 x4 : Int) (k1 : Int → Int → Option α) : Option α := f200_0g f108_0 f109_0 f203_0 α x1 x2 x3 x4 k1
def pa200_0 : PT (List DV) := pA [pV true [(dI .i64), (dI .i64)], pV true [(dI .i64), (dI .i64)]]
def Fn200_0 (v : Tf200_0) (α : Type) (k : List RV → Option α) : Int → Int → Int → Int → Option α := fun x1 x2 x3 x4 => v α x1 x2 x3 x4 (fun (y1 : Int) (y2 : Int) => ur200_0_0 k y1 y2 0 0)
noncomputable def cm200_0g  : MCode := (.seq (.region r200_2 [] (tO [2, 3, 4])) (.seq (.region r200_4 [(3, 5), (4, 5), (3, 7), (4, 7)] (tO [4])) .ret))
noncomputable def cm200_0 : MCode := cm200_0g 
theorem gm200_0 : cm200_0.Good Tryz.prog E200_0 sh200 := ⟨trivial, ⟨trivial, trivial⟩⟩
theorem fm200_0g (vf203_0 : Tf203_0) (vf108_0 : Tf108_0) (vf109_0 : Tf109_0)  (α : Type) (k : List RV → Option α) : Fn200_0 (f200_0g vf108_0 vf109_0 vf203_0) α k = pa200_0.unc fun ds => fnM Tryz.prog (E200_0g vf203_0 vf108_0 vf109_0) sh200 (cm200_0g ) rs200 k ds := by kernel_rfl
theorem fm200_0 : ∀ (α : Type) (k : List RV → Option α), Fn200_0 f200_0 α k = pa200_0.unc fun ds => fnM Tryz.prog E200_0 sh200 cm200_0 rs200 k ds := fm200_0g f203_0 f108_0 f109_0
theorem is200 : FnIs Tryz.prog 200 nt200 tr200 tl200 cm200_0.erase rs200 := ⟨Tryz.f200, Tryz.func200, rfl, by kernel_rfl, by kernel_rfl, by kernel_rfl⟩
theorem io200_0 : InstOk Tryz.prog 200 nt200 ⟨pa200_0, Fn200_0 f200_0⟩ := inst_ok eo200_0 followsTry is200 ⟨⟨sh200, cm200_0, by kernel_rfl, gm200_0, fm200_0⟩⟩
abbrev nt65 : Nat := 8
def sh65 : List (Nat × List Sh) := [(3, [.int .i64, .int .i64]), (5, [.int .i64, .int .i64])]
def r65_2 : List AOper := [oO 1 (.box (.tmp 0)), oO 2 (.alloc [(cI 0), (cI 0)])]
def r65_4 : List AOper := [oO 3 (.load true 2 (.tmp 1)), oO 4 (.call 108 [(.tmp 3)]), oO 5 (.load true 2 (.tmp 1)), oO 6 (.call 109 [(.tmp 5)]), oO 7 (.build [(cI 0), (cI 0)] [(0, 1, (.tmp 4)), (1, 1, (.tmp 6))]), oD (.store 2 (.tmp 2) (.tmp 7))]
def tr65 : List (Nat × Tidy) := [tT 0 [1, 2], tT 1 [2]]
def tl65 : List (Nat × Tidy) := []
def rs65 : List AResV := [.cell 2 true 2]
def pr65_0_0 : PT (List RV) := pRs [pR true [rD (dI .i64), rD (dI .i64)]]
def ur65_0_0 {β : Type} (g : List RV → β) : Int → Int → β := pr65_0_0.unc g
def E65_0g (vf108_0 : Tf108_0) (vf109_0 : Tf109_0) : EnvK := EnvK.of [⟨108, nt108, [⟨pa108_0, Fn108_0 vf108_0⟩]⟩, ⟨109, nt109, [⟨pa109_0, Fn109_0 vf109_0⟩]⟩] noSeq
noncomputable def E65_0 : EnvK := E65_0g f108_0 f109_0
theorem eo65_0 : E65_0.Ok Tryz.prog := EnvK.of_ok noSeq_ok ⟨⟨io108_0, trivial⟩, ⟨io109_0, trivial⟩, trivial⟩
abbrev Tf65_0 : Type 1 := (α : Type) → Int → Int → (Int → Int → Option α) → Option α
def f65_0g (vf108_0 : Tf108_0) (vf109_0 : Tf109_0) (α : Type) (x1 x2 : Int) (k1 : Int → Int → Option α) : Option α :=
 vf108_0 α x1 x2
 (fun x3 => vf109_0 α x1 x2
 (fun x4 => k1 x3 x4))
noncomputable def f65_0 (α : Type) (x1 x2 : Int) (k1 : Int → Int → Option α) : Option α := f65_0g f108_0 f109_0 α x1 x2 k1
def pa65_0 : PT (List DV) := pA [pV true [(dI .i64), (dI .i64)]]
def Fn65_0 (v : Tf65_0) (α : Type) (k : List RV → Option α) : Int → Int → Option α := fun x1 x2 => v α x1 x2 (fun (y1 : Int) (y2 : Int) => ur65_0_0 k y1 y2)
noncomputable def cm65_0g  : MCode := (.seq (.region r65_2 [] (tO [1, 2])) (.seq (.region r65_4 [(1, 2)] (tO [2])) .ret))
noncomputable def cm65_0 : MCode := cm65_0g 
theorem gm65_0 : cm65_0.Good Tryz.prog E65_0 sh65 := ⟨trivial, ⟨trivial, trivial⟩⟩
theorem fm65_0g (vf108_0 : Tf108_0) (vf109_0 : Tf109_0)  (α : Type) (k : List RV → Option α) : Fn65_0 (f65_0g vf108_0 vf109_0) α k = pa65_0.unc fun ds => fnM Tryz.prog (E65_0g vf108_0 vf109_0) sh65 (cm65_0g ) rs65 k ds := by kernel_rfl
theorem fm65_0 : ∀ (α : Type) (k : List RV → Option α), Fn65_0 f65_0 α k = pa65_0.unc fun ds => fnM Tryz.prog E65_0 sh65 cm65_0 rs65 k ds := fm65_0g f108_0 f109_0
theorem is65 : FnIs Tryz.prog 65 nt65 tr65 tl65 cm65_0.erase rs65 := ⟨Tryz.f65, Tryz.func65, rfl, by kernel_rfl, by kernel_rfl, by kernel_rfl⟩
theorem io65_0 : InstOk Tryz.prog 65 nt65 ⟨pa65_0, Fn65_0 f65_0⟩ := inst_ok eo65_0 followsTry is65 ⟨⟨sh65, cm65_0, by kernel_rfl, gm65_0, fm65_0⟩⟩
abbrev nt168 : Nat := 23
def sh168 : List (Nat × List Sh) := []
def r168_2 : List AOper := [oO 2 (.mv (kI 0)), oO 3 (.mv (.const (.bool false)))]
def r168_4 : List AOper := [oM 5 0, oO 6 (.pure (oB (.convert 125 117 (.tmp 5)) 117)), oM 4 6]
def r168_7 : List AOper := [oM 7 4, oO 8 (.call 174 [(.tmp 7)]), oM 9 8, oG 10 (.mv (.tmp 4)) 9 false, oG 11 (.call 151 [(.tmp 10), (kI 0)]) 9 false, oO 12 (.pick (.tmp 9) (.const (.bool true)) (.tmp 11)), oM 13 12, oG 14 (.mv (.tmp 4)) 13 false, oG 15 (.call 150 [(.tmp 14)]) 13 false, oG 16 (.mv (.tmp 4)) 13 false, oG 17 (.bin .neq 117 (.tmp 15) (.tmp 16)) 13 false, oO 18 (.pick (.tmp 13) (.const (.bool true)) (.tmp 17))]
def r168_10 : List AOper := [oO 2 (.mv (kI 0)), oO 3 (.mv (.const (.bool false)))]
def r168_12 : List AOper := [oM 19 4, oO 20 (.pure (oB (.call { callee := .builtin .min, args := #[(.const (.float Go.FloatKind.f64 4741671816366391296)), (.tmp 19)], argTypes := #[117, 117] }) 117)), oO 21 (.pure (oB (.call { callee := .builtin .max, args := #[(.const (.float Go.FloatKind.f64 13965043853221167104)), (.tmp 20)], argTypes := #[117, 117] }) 117)), oO 22 (.pure (oB (.convert 117 3 (.tmp 21)) 3)), oM 2 22, oO 3 (.mv (.const (.bool true)))]
def tr168 : List (Nat × Tidy) := [tT 0 [0], tT 1 [4], tT 2 [4, 18], tT 3 [2, 3], tT 4 [2, 3]]
def tl168 : List (Nat × Tidy) := []
def rs168 : List AResV := [.tmp 2, .tmp 3]
def p168_0_0 : PT St := pS [sl 0 (aV false [(cD (dF .f32))])] []
def u168_0_0 {β : Type} (g : St → β) : Nat → β := p168_0_0.unc g
def p168_0_1 : PT St := pS [sl 4 (aV false [(cD (dNan .f64))])] []
def u168_0_1 {β : Type} (g : St → β) : β := p168_0_1.unc g
def p168_0_2 : PT St := pS [sl 4 (aV false [(cD (dF .f64))])] []
def u168_0_2 {β : Type} (g : St → β) : Nat → β := p168_0_2.unc g
def pr168_0_0 : PT (List RV) := pRs [pR false [rD (dI .i64)], pR false [rD dB]]
def ur168_0_0 {β : Type} (g : List RV → β) : Int → Bool → β := pr168_0_0.unc g
def E168_0g (vf174_0 : Tf174_0) (vf174_1 : Tf174_1) (vf151_0 : Tf151_0) (vf150_0 : Tf150_0) : EnvK := EnvK.of [⟨174, nt174, [⟨pa174_0, Fn174_0 vf174_0⟩, ⟨pa174_1, Fn174_1 vf174_1⟩]⟩, ⟨151, nt151, [⟨pa151_0, Fn151_0 vf151_0⟩]⟩, ⟨150, nt150, [⟨pa150_0, Fn150_0 vf150_0⟩]⟩] noSeq
noncomputable def E168_0 : EnvK := E168_0g f174_0 f174_1 f151_0 f150_0
theorem eo168_0 : E168_0.Ok Tryz.prog := EnvK.of_ok noSeq_ok ⟨⟨io174_0, io174_1, trivial⟩, ⟨io151_0, trivial⟩, ⟨io150_0, trivial⟩, trivial⟩
noncomputable def c168_0_3g  : MCode := (.region r168_4 [] (tO [4]))
noncomputable def c168_0_3 : MCode := c168_0_3g 
theorem g168_0_3 : c168_0_3.Good Tryz.prog E168_0 sh168 := trivial
--CODE 3 0
abbrev TJ168_0_0 : Type 1 := (α : Type) → Nat → (Option α) → (Nat → Option α) → Option α
def J168_0_0g  (α : Type) (x2 : Nat) (k1 : Option α) (k2 : Nat → Option α) : Option α :=
 cK (isNaNb .f32 x2)
 (k1)
 (flK (f2f .f32 x2 .f64)
 (fun x4 => k2 x4))
noncomputable def J168_0_0 (α : Type) (x2 : Nat) (k1 : Option α) (k2 : Nat → Option α) : Option α := J168_0_0g  α x2 k1 k2
def F168_0_0 (v : TJ168_0_0) (α : Type) (K : Exit → St → Option α) : Nat → Option α := fun x2 => v α x2 (u168_0_1 (K .normal) ) (fun (y1 : Nat) => u168_0_2 (K .normal) y1) 
theorem m168_0_0g (vf174_0 : Tf174_0) (vf174_1 : Tf174_1) (vf151_0 : Tf151_0) (vf150_0 : Tf150_0)  (α : Type) (K : Exit → St → Option α) : F168_0_0 (J168_0_0g ) α K = p168_0_0.unc fun σ => runM Tryz.prog (E168_0g vf174_0 vf174_1 vf151_0 vf150_0) sh168 (c168_0_3g ) K σ := by kernel_rfl
theorem m168_0_0 : ∀ (α : Type) (K : Exit → St → Option α), F168_0_0 J168_0_0 α K = p168_0_0.unc fun σ => runM Tryz.prog E168_0 sh168 c168_0_3 K σ := m168_0_0g f174_0 f174_1 f151_0 f150_0
abbrev Tf168_0 : Type 1 := (α : Type) → Nat → (Int → Bool → Option α) → Option α
def f168_0g (vJ168_0_0 : TJ168_0_0) (vf150_0 : Tf150_0) (vf151_0 : Tf151_0) (vf174_0 : Tf174_0) (vf174_1 : Tf174_1) (α : Type) (x1 : Nat) (k1 : Int → Bool → Option α) : Option α :=
 vJ168_0_0 α x1
 (vf174_0 α 
 (k1 0 false))
 (fun x5 => vf174_1 α x5
 (fun x7 => cK x7
 (k1 0 false)
 (vf151_0 α x5 0
 (fun x8 => cK x8
 (k1 0 false)
 (vf150_0 α x5
 (k1 0 false)
 (fun x9 => cK ((FloatKind.format .f64).order x9 x5 != some Ordering.eq)
 (k1 0 false)
 (flK (mxNat false .f64 4741671816366391296 x5)
 (fun x10 => flK (mxNat true .f64 13965043853221167104 x10)
 (fun x11 => ivK (f2i .f64 x11 .i64)
 (fun x12 => k1 x12 true))))))))))
noncomputable def f168_0 (α : Type) (x1 : Nat) (k1 : Int → Bool → Option α) : Option α := f168_0g J168_0_0 f150_0 f151_0 f174_0 f174_1 α x1 k1
def pa168_0 : PT (List DV) := pA [pV false [(dF .f32)]]
def Fn168_0 (v : Tf168_0) (α : Type) (k : List RV → Option α) : Nat → Option α := fun x1 => v α x1 (fun (y1 : Int) (y2 : Bool) => ur168_0_0 k y1 y2)
noncomputable def cm168_0g (vJ168_0_0 : TJ168_0_0) : MCode := (.seq (.region r168_2 [] (tO [0])) (.seq (.mark [⟨p168_0_0, F168_0_0 vJ168_0_0⟩] c168_0_3) (.seq (.seq (.region r168_7 [] (tO [4, 18])) (.cond (.tmp 18) (.seq (.region r168_10 [] (tO [2, 3])) .ret) .skip)) (.seq (.region r168_12 [] (tO [2, 3])) .ret))))
noncomputable def cm168_0 : MCode := cm168_0g J168_0_0
theorem gm168_0 : cm168_0.Good Tryz.prog E168_0 sh168 := ⟨trivial, ⟨⟨g168_0_3, m168_0_0, trivial⟩, ⟨⟨trivial, ⟨⟨trivial, trivial⟩, trivial⟩⟩, ⟨trivial, trivial⟩⟩⟩⟩
theorem fm168_0g (vf174_0 : Tf174_0) (vf174_1 : Tf174_1) (vf151_0 : Tf151_0) (vf150_0 : Tf150_0) (vJ168_0_0 : TJ168_0_0) (α : Type) (k : List RV → Option α) : Fn168_0 (f168_0g vJ168_0_0 vf150_0 vf151_0 vf174_0 vf174_1) α k = pa168_0.unc fun ds => fnM Tryz.prog (E168_0g vf174_0 vf174_1 vf151_0 vf150_0) sh168 (cm168_0g vJ168_0_0) rs168 k ds := by kernel_rfl
theorem fm168_0 : ∀ (α : Type) (k : List RV → Option α), Fn168_0 f168_0 α k = pa168_0.unc fun ds => fnM Tryz.prog E168_0 sh168 cm168_0 rs168 k ds := fm168_0g f174_0 f174_1 f151_0 f150_0 J168_0_0
theorem is168 : FnIs Tryz.prog 168 nt168 tr168 tl168 cm168_0.erase rs168 := ⟨Tryz.f168, Tryz.func168, rfl, by kernel_rfl, by kernel_rfl, by kernel_rfl⟩
theorem io168_0 : InstOk Tryz.prog 168 nt168 ⟨pa168_0, Fn168_0 f168_0⟩ := inst_ok eo168_0 followsTry is168 ⟨⟨sh168, cm168_0, by kernel_rfl, gm168_0, fm168_0⟩⟩
abbrev nt194 : Nat := 77
def sh194 : List (Nat × List Sh) := [(15, [.int .i64]), (17, [.int .i64]), (21, [.sl]), (25, [.int .i64]), (26, [.int .i64]), (29, [.int .i64]), (31, [.int .i64]), (43, [.int .i64]), (44, [.int .i64]), (45, [.str, .int .i64, .sl, .sl, .sl, .int .i64, .int .i64]), (52, [.int .i64, .int .i64]), (59, [.int .i64]), (61, [.int .i64]), (66, [.int .i64]), (68, [.int .i64]), (72, [.int .i64, .int .i64]), (76, [.int .i64, .int .i64, .int .i64, .int .i64])]
def r194_2 : List AOper := [oO 2 (.box (.tmp 0)), oO 3 (.box (.tmp 1)), oO 4 (.alloc [(cI 0), (cI 0), (cI 0), (cI 0)])]
def r194_4 : List AOper := [oO 14 (.faddr 0 (.tmp 3)), oO 15 (.load false 1 (.tmp 14)), oO 16 (.faddr 1 (.tmp 3)), oO 17 (.load false 1 (.tmp 16)), oO 18 (.bslice 1 2 [(.v (.int .i64 0))] [(0, (.tmp 15)), (1, (.tmp 17))]), oM 5 18]
def r194_7 : List AOper := [oO 19 (.faddr 0 (.tmp 2)), oO 20 (.faddr 2 (.tmp 19)), oO 21 (.load false 1 (.tmp 20)), oO 22 (.len (.tmp 21)), oO 23 (.mv (kI 0))]
def td194_9 : Option Tidy := (some ⟨[2, 3, 4, 5, 21, 22, 23], true, [⟨false, 5, 0, 20005, 1⟩, ⟨false, 21, 0, 20021, 1⟩, ⟨true, 2, 2, 30202, 1⟩, ⟨true, 2, 3, 30203, 1⟩, ⟨true, 2, 4, 30204, 1⟩], []⟩)
def r194_11 : List AOper := [oO 24 (.bin .lss 3 (.tmp 23) (.tmp 22))]
def r194_17 : List AOper := [oO 25 (.iaddr 1 none (.tmp 21) (.tmp 23)), oO 26 (.load false 1 (.tmp 25)), oM 7 26]
def r194_19 : List AOper := [oM 27 7, oO 28 (.faddr 0 (.tmp 3)), oO 29 (.load false 1 (.tmp 28)), oO 30 (.faddr 1 (.tmp 3)), oO 31 (.load false 1 (.tmp 30)), oO 32 (.call 51 [(.tmp 27), (.tmp 29), (.tmp 31)])]
def r194_21 : List AOper := [oM 33 5, oM 34 7, oO 35 (.bslice 1 1 [(.v (.int .i64 0))] [(0, (.tmp 34))]), oO 36 (.append 1 8 (.tmp 33) (.tmp 35)), oM 5 36]
def r194_22 : List AOper := [oO 37 (.bin .add 3 (.tmp 23) (kI 1)), oM 23 37]
def r194_24 : List AOper := [oO 8 (.alloc [(cI 0), (cI 0), (cI 0), (cI 0)])]
def r194_27 : List AOper := [oM 38 5, oO 39 (.len (.tmp 38)), oO 40 (.mv (kI 0))]
def td194_29 : Option Tidy := (some ⟨[2, 4, 8, 38, 39, 40], true, [⟨false, 38, 0, 20038, 1⟩, ⟨true, 2, 2, 30202, 1⟩, ⟨true, 2, 3, 30203, 1⟩, ⟨true, 2, 4, 30204, 1⟩], []⟩)
def r194_31 : List AOper := [oO 41 (.bin .lss 3 (.tmp 40) (.tmp 39))]
def r194_37 : List AOper := [oM 42 40, oO 43 (.iaddr 1 none (.tmp 38) (.tmp 40)), oO 44 (.load false 1 (.tmp 43)), oM 9 42, oM 10 44]
def r194_39 : List AOper := [oO 45 (.load true 7 (.tmp 2)), oM 46 10, oO 47 (.call 193 [(.tmp 45), (.tmp 46)]), oO 48 (.mv (kI 0))]
def td194_41 : Option Tidy := (some ⟨[2, 4, 8, 9, 38, 39, 40, 47, 48], true, [⟨false, 38, 0, 20038, 1⟩, ⟨true, 2, 2, 30202, 1⟩, ⟨true, 2, 3, 30203, 1⟩, ⟨true, 2, 4, 30204, 1⟩], []⟩)
def r194_43 : List AOper := [oO 49 (.bin .lss 3 (.tmp 48) (kI 2))]
def r194_49 : List AOper := [oM 50 48, oO 51 (.index true 2 2 (.tmp 47) (.tmp 48)), oO 12 (.alloc [(cI 0), (cI 0)]), oM 11 50, oD (.store 2 (.tmp 12) (.tmp 51))]
def r194_51 : List AOper := [oO 52 (.load true 2 (.tmp 12)), oO 53 (.call 65 [(.tmp 52)]), oO 13 (.alloc [(cI 0), (cI 0)]), oD (.store 2 (.tmp 13) (.tmp 53))]
def r194_54 : List AOper := [oM 54 9, oO 55 (.bin .gtr 3 (.tmp 54) (kI 0))]
def r194_56 : List AOper := [oM 56 11, oO 57 (.iaddr 2 (some 2) (.tmp 8) (.tmp 56)), oO 58 (.faddr 0 (.tmp 57)), oO 59 (.load false 1 (.tmp 58)), oO 60 (.faddr 0 (.tmp 13)), oO 61 (.load false 1 (.tmp 60)), oO 62 (.pure (oB (.call { callee := .builtin .min, args := #[(.tmp 59), (.tmp 61)], argTypes := #[3, 3] }) 3)), oM 63 11, oO 64 (.iaddr 2 (some 2) (.tmp 8) (.tmp 63)), oO 65 (.faddr 1 (.tmp 64)), oO 66 (.load false 1 (.tmp 65)), oO 67 (.faddr 1 (.tmp 13)), oO 68 (.load false 1 (.tmp 67)), oO 69 (.pure (oB (.call { callee := .builtin .max, args := #[(.tmp 66), (.tmp 68)], argTypes := #[3, 3] }) 3)), oO 70 (.build [(cI 0), (cI 0)] [(0, 1, (.tmp 62)), (1, 1, (.tmp 69))]), oD (.store 2 (.tmp 13) (.tmp 70))]
def r194_57 : List AOper := [oM 71 11, oO 72 (.load true 2 (.tmp 13)), oO 73 (.iaddr 2 (some 2) (.tmp 8) (.tmp 71)), oD (.store 2 (.tmp 73) (.tmp 72))]
def r194_58 : List AOper := [oO 74 (.bin .add 3 (.tmp 48) (kI 1)), oM 48 74]
def r194_59 : List AOper := [oO 75 (.bin .add 3 (.tmp 40) (kI 1)), oM 40 75]
def r194_61 : List AOper := [oO 76 (.load true 4 (.tmp 8)), oD (.store 4 (.tmp 4) (.tmp 76))]
def tr194 : List (Nat × Tidy) := [tT 0 [2, 3, 4], tT 1 [2, 3, 4, 5], tT 2 [2, 3, 4, 5, 21, 22, 23], tT 3 [2, 3, 4, 5, 21, 22, 23, 24], tT 4 [2, 3, 4, 5, 7, 21, 22, 23], tT 5 [2, 3, 4, 5, 7, 21, 22, 23, 32], tT 6 [2, 3, 4, 5, 21, 22, 23], tT 7 [2, 3, 4, 5, 21, 22, 23], tT 8 [2, 4, 5, 8], tT 9 [2, 4, 8, 38, 39, 40], tT 10 [2, 4, 8, 38, 39, 40, 41], tT 11 [2, 4, 8, 9, 10, 38, 39, 40], tT 12 [2, 4, 8, 9, 38, 39, 40, 47, 48], tT 13 [2, 4, 8, 9, 38, 39, 40, 47, 48, 49], tT 14 [2, 4, 8, 9, 11, 12, 38, 39, 40, 47, 48], tT 15 [2, 4, 8, 9, 11, 13, 38, 39, 40, 47, 48], tT 16 [2, 4, 8, 9, 11, 13, 38, 39, 40, 47, 48, 55], tT 17 [2, 4, 8, 9, 11, 13, 38, 39, 40, 47, 48], tT 18 [2, 4, 8, 9, 38, 39, 40, 47, 48], tT 19 [2, 4, 8, 9, 38, 39, 40, 47, 48], tT 20 [2, 4, 8, 38, 39, 40], tT 21 [4]]
def tl194 : List (Nat × Tidy) := [(3, ⟨[2, 3, 4, 5, 21, 22, 23], true, [⟨false, 5, 0, 20005, 1⟩, ⟨false, 21, 0, 20021, 1⟩, ⟨true, 2, 2, 30202, 1⟩, ⟨true, 2, 3, 30203, 1⟩, ⟨true, 2, 4, 30204, 1⟩], []⟩), (10, ⟨[2, 4, 8, 38, 39, 40], true, [⟨false, 38, 0, 20038, 1⟩, ⟨true, 2, 2, 30202, 1⟩, ⟨true, 2, 3, 30203, 1⟩, ⟨true, 2, 4, 30204, 1⟩], []⟩), (13, ⟨[2, 4, 8, 9, 38, 39, 40, 47, 48], true, [⟨false, 38, 0, 20038, 1⟩, ⟨true, 2, 2, 30202, 1⟩, ⟨true, 2, 3, 30203, 1⟩, ⟨true, 2, 4, 30204, 1⟩], []⟩)]
def rs194 : List AResV := [.cell 4 true 4]
def p194_0_0 : PT St := pS [sl 2 (aV false [(cPtr 2 0)]), sl 3 (aV false [(cPtr 3 0)]), sl 4 (aV false [(cPtr 4 0)]), sl 5 (aV false [(cRef 20005)]), sl 21 (aV false [(cD dL)]), sl 22 (aV false [(cD (dI .i64))]), sl 23 (aV false [(cD (dI .i64))])] [eBox 2 [(cD dS), (cD (dI .i64)), (cD dL), (cD dL), (cD dL), (cD (dI .i64)), (cD (dI .i64))], eBox 3 [(cD (dI .i64)), (cD (dI .i64))], eBox 4 [(cD (dI .i64)), (cD (dI .i64)), (cD (dI .i64)), (cD (dI .i64))], eOwn 20005 1]
def u194_0_0 {β : Type} (g : St → β) : Rows → Int → Int → ByteArray → Int → Rows → Rows → Rows → Int → Int → Int → Int → Int → Int → Int → Int → Rows → β := p194_0_0.unc g
def p194_0_1 : PT St := pS [sl 2 (aV false [(cPtr 2 0)]), sl 3 (aV false [(cPtr 3 0)]), sl 4 (aV false [(cPtr 4 0)]), sl 5 (aV false [(cRef 20005)]), sl 21 (aV false [(cD dL)]), sl 22 (aV false [(cD (dI .i64))]), sl 23 (aV false [(cD (dI .i64))]), sl 24 (aV false [(cD dB)])] [eBox 2 [(cD dS), (cD (dI .i64)), (cD dL), (cD dL), (cD dL), (cD (dI .i64)), (cD (dI .i64))], eBox 3 [(cD (dI .i64)), (cD (dI .i64))], eBox 4 [(cD (dI .i64)), (cD (dI .i64)), (cD (dI .i64)), (cD (dI .i64))], eOwn 20005 1]
def u194_0_1 {β : Type} (g : St → β) : Rows → Int → Int → Bool → ByteArray → Int → Rows → Rows → Rows → Int → Int → Int → Int → Int → Int → Int → Int → Rows → β := p194_0_1.unc g
def p194_0_2 : PT St := pS [sl 2 (aV false [(cPtr 2 0)]), sl 4 (aV false [(cPtr 4 0)]), sl 8 (aV false [(cPtr 8 0)]), sl 9 (aV false [(cD (dI .i64))]), sl 38 (aV false [(cRef 20038)]), sl 39 (aV false [(cD (dI .i64))]), sl 40 (aV false [(cD (dI .i64))]), sl 47 (aV true [(cD (dI .i64)), (cD (dI .i64)), (cD (dI .i64)), (cD (dI .i64))]), sl 48 (aV false [(cD (dIc .i64 0))])] [eBox 2 [(cD dS), (cD (dI .i64)), (cD dL), (cD dL), (cD dL), (cD (dI .i64)), (cD (dI .i64))], eBox 4 [(cD (dI .i64)), (cD (dI .i64)), (cD (dI .i64)), (cD (dI .i64))], eBox 8 [(cD (dI .i64)), (cD (dI .i64)), (cD (dI .i64)), (cD (dI .i64))], eOwn 20038 1]
def u194_0_2 {β : Type} (g : St → β) : Int → Int → Int → Int → Int → Int → Int → ByteArray → Int → Rows → Rows → Rows → Int → Int → Int → Int → Int → Int → Int → Int → Int → Int → Rows → β := p194_0_2.unc g
def p194_0_3 : PT St := pS [sl 2 (aV false [(cPtr 2 0)]), sl 4 (aV false [(cPtr 4 0)]), sl 8 (aV false [(cPtr 8 0)]), sl 9 (aV false [(cD (dI .i64))]), sl 38 (aV false [(cRef 20038)]), sl 39 (aV false [(cD (dI .i64))]), sl 40 (aV false [(cD (dI .i64))]), sl 47 (aV true [(cD (dI .i64)), (cD (dI .i64)), (cD (dI .i64)), (cD (dI .i64))]), sl 48 (aV false [(cD (dIc .i64 1))])] [eBox 2 [(cD dS), (cD (dI .i64)), (cD dL), (cD dL), (cD dL), (cD (dI .i64)), (cD (dI .i64))], eBox 4 [(cD (dI .i64)), (cD (dI .i64)), (cD (dI .i64)), (cD (dI .i64))], eBox 8 [(cD (dI .i64)), (cD (dI .i64)), (cD (dI .i64)), (cD (dI .i64))], eOwn 20038 1]
def u194_0_3 {β : Type} (g : St → β) : Int → Int → Int → Int → Int → Int → Int → ByteArray → Int → Rows → Rows → Rows → Int → Int → Int → Int → Int → Int → Int → Int → Int → Int → Rows → β := p194_0_3.unc g
def p194_0_4 : PT St := pS [sl 2 (aV false [(cPtr 2 0)]), sl 4 (aV false [(cPtr 4 0)]), sl 8 (aV false [(cPtr 8 0)]), sl 9 (aV false [(cD (dI .i64))]), sl 38 (aV false [(cRef 20038)]), sl 39 (aV false [(cD (dI .i64))]), sl 40 (aV false [(cD (dI .i64))]), sl 47 (aV true [(cD (dI .i64)), (cD (dI .i64)), (cD (dI .i64)), (cD (dI .i64))]), sl 48 (aV false [(cD (dIc .i64 2))])] [eBox 2 [(cD dS), (cD (dI .i64)), (cD dL), (cD dL), (cD dL), (cD (dI .i64)), (cD (dI .i64))], eBox 4 [(cD (dI .i64)), (cD (dI .i64)), (cD (dI .i64)), (cD (dI .i64))], eBox 8 [(cD (dI .i64)), (cD (dI .i64)), (cD (dI .i64)), (cD (dI .i64))], eOwn 20038 1]
def u194_0_4 {β : Type} (g : St → β) : Int → Int → Int → Int → Int → Int → Int → ByteArray → Int → Rows → Rows → Rows → Int → Int → Int → Int → Int → Int → Int → Int → Int → Int → Rows → β := p194_0_4.unc g
def p194_0_5 : PT St := pS [sl 2 (aV false [(cPtr 2 0)]), sl 4 (aV false [(cPtr 4 0)]), sl 8 (aV false [(cPtr 8 0)]), sl 38 (aV false [(cRef 20038)]), sl 39 (aV false [(cD (dI .i64))]), sl 40 (aV false [(cD (dI .i64))])] [eBox 2 [(cD dS), (cD (dI .i64)), (cD dL), (cD dL), (cD dL), (cD (dI .i64)), (cD (dI .i64))], eBox 4 [(cD (dI .i64)), (cD (dI .i64)), (cD (dI .i64)), (cD (dI .i64))], eBox 8 [(cD (dI .i64)), (cD (dI .i64)), (cD (dI .i64)), (cD (dI .i64))], eOwn 20038 1]
def u194_0_5 {β : Type} (g : St → β) : Int → Int → ByteArray → Int → Rows → Rows → Rows → Int → Int → Int → Int → Int → Int → Int → Int → Int → Int → Rows → β := p194_0_5.unc g
def p194_0_6 : PT St := pS [sl 2 (aV false [(cPtr 2 0)]), sl 4 (aV false [(cPtr 4 0)]), sl 8 (aV false [(cPtr 8 0)]), sl 38 (aV false [(cRef 20038)]), sl 39 (aV false [(cD (dI .i64))]), sl 40 (aV false [(cD (dI .i64))]), sl 41 (aV false [(cD dB)])] [eBox 2 [(cD dS), (cD (dI .i64)), (cD dL), (cD dL), (cD dL), (cD (dI .i64)), (cD (dI .i64))], eBox 4 [(cD (dI .i64)), (cD (dI .i64)), (cD (dI .i64)), (cD (dI .i64))], eBox 8 [(cD (dI .i64)), (cD (dI .i64)), (cD (dI .i64)), (cD (dI .i64))], eOwn 20038 1]
def u194_0_6 {β : Type} (g : St → β) : Int → Int → Bool → ByteArray → Int → Rows → Rows → Rows → Int → Int → Int → Int → Int → Int → Int → Int → Int → Int → Rows → β := p194_0_6.unc g
def pr194_0_0 : PT (List RV) := pRs [pR true [rD (dI .i64), rD (dI .i64), rD (dI .i64), rD (dI .i64)]]
def ur194_0_0 {β : Type} (g : List RV → β) : Int → Int → Int → Int → β := pr194_0_0.unc g
def E194_0g (vf51_0 : Tf51_0) (vf193_0 : Tf193_0) (vf65_0 : Tf65_0) : EnvK := EnvK.of [⟨51, nt51, [⟨pa51_0, Fn51_0 vf51_0⟩]⟩, ⟨193, nt193, [⟨pa193_0, Fn193_0 vf193_0⟩]⟩, ⟨65, nt65, [⟨pa65_0, Fn65_0 vf65_0⟩]⟩] noSeq
noncomputable def E194_0 : EnvK := E194_0g f51_0 f193_0 f65_0
theorem eo194_0 : E194_0.Ok Tryz.prog := EnvK.of_ok noSeq_ok ⟨⟨io51_0, trivial⟩, ⟨io193_0, trivial⟩, ⟨io65_0, trivial⟩, trivial⟩
noncomputable def c194_0_41g  : MCode := (.seq (.region r194_43 [] (tO [2, 4, 8, 9, 38, 39, 40, 47, 48, 49])) (.seq (.cond (.tmp 49) .skip (.exit 4)) (.seq (.block 5 (.seq (.region r194_49 [] (tO [2, 4, 8, 9, 11, 12, 38, 39, 40, 47, 48])) (.seq (.region r194_51 [] (tO [2, 4, 8, 9, 11, 13, 38, 39, 40, 47, 48])) (.seq (.seq (.region r194_54 [] (tO [2, 4, 8, 9, 11, 13, 38, 39, 40, 47, 48, 55])) (.cond (.tmp 55) (.region r194_56 [] (tO [2, 4, 8, 9, 11, 13, 38, 39, 40, 47, 48])) .skip)) (.region r194_57 [] (tO [2, 4, 8, 9, 38, 39, 40, 47, 48])))))) (.region r194_58 [] (tO [2, 4, 8, 9, 38, 39, 40, 47, 48])))))
noncomputable def c194_0_41 : MCode := c194_0_41g 
theorem g194_0_41 : c194_0_41.Good Tryz.prog E194_0 sh194 := ⟨trivial, ⟨⟨trivial, trivial⟩, ⟨⟨trivial, ⟨trivial, ⟨⟨trivial, ⟨trivial, trivial⟩⟩, trivial⟩⟩⟩, trivial⟩⟩⟩
--CODE 41 0
abbrev TJ194_0_1 : Type 1 := (α : Type) → Int → Int → Int → Int → Int → (Int → Int → Option α) → Option α
def J194_0_1g (vf65_0 : Tf65_0) (α : Type) (x58 x61 x62 x76 x77 : Int) (k1 : Int → Int → Option α) : Option α :=
 vf65_0 α x61 x62
 (fun x82 x83 => cK (decide (0 < x58))
 (k1 (if x82 < x76 then x82 else x76) (if x83 > x77 then x83 else x77))
 (k1 x82 x83))
noncomputable def J194_0_1 (α : Type) (x58 x61 x62 x76 x77 : Int) (k1 : Int → Int → Option α) : Option α := J194_0_1g f65_0 α x58 x61 x62 x76 x77 k1
def F194_0_1 (v : TJ194_0_1) (α : Type) (K : Exit → St → Option α) : Int → Int → Int → Int → Int → Int → Int → ByteArray → Int → Rows → Rows → Rows → Int → Int → Int → Int → Int → Int → Int → Int → Int → Int → Rows → Option α := fun x58 x59 x60 x61 x62 x63 x64 x65 x66 x67 x68 x69 x70 x71 x72 x73 x74 x75 x76 x77 x78 x79 x80 => v α x58 x61 x62 x76 x77 (fun (y1 : Int) (y2 : Int) => u194_0_3 (K .normal) x58 x59 x60 x61 x62 x63 x64 x65 x66 x67 x68 x69 x70 x71 x72 x73 x74 x75 y1 y2 x78 x79 x80) 
theorem m194_0_1g (vf51_0 : Tf51_0) (vf193_0 : Tf193_0) (vf65_0 : Tf65_0)  (α : Type) (K : Exit → St → Option α) : F194_0_1 (J194_0_1g vf65_0) α K = p194_0_2.unc fun σ => runM Tryz.prog (E194_0g vf51_0 vf193_0 vf65_0) sh194 (c194_0_41g ) K σ := by kernel_rfl
theorem m194_0_1 : ∀ (α : Type) (K : Exit → St → Option α), F194_0_1 J194_0_1 α K = p194_0_2.unc fun σ => runM Tryz.prog E194_0 sh194 c194_0_41 K σ := m194_0_1g f51_0 f193_0 f65_0
--CODE 41 0
abbrev TJ194_0_2 : Type 1 := (α : Type) → Int → Int → Int → Int → Int → (Int → Int → Option α) → Option α
def J194_0_2g (vf65_0 : Tf65_0) (α : Type) (x87 x92 x93 x107 x108 : Int) (k1 : Int → Int → Option α) : Option α :=
 vf65_0 α x92 x93
 (fun x111 x112 => cK (decide (0 < x87))
 (k1 (if x111 < x107 then x111 else x107) (if x112 > x108 then x112 else x108))
 (k1 x111 x112))
noncomputable def J194_0_2 (α : Type) (x87 x92 x93 x107 x108 : Int) (k1 : Int → Int → Option α) : Option α := J194_0_2g f65_0 α x87 x92 x93 x107 x108 k1
def F194_0_2 (v : TJ194_0_2) (α : Type) (K : Exit → St → Option α) : Int → Int → Int → Int → Int → Int → Int → ByteArray → Int → Rows → Rows → Rows → Int → Int → Int → Int → Int → Int → Int → Int → Int → Int → Rows → Option α := fun x87 x88 x89 x90 x91 x92 x93 x94 x95 x96 x97 x98 x99 x100 x101 x102 x103 x104 x105 x106 x107 x108 x109 => v α x87 x92 x93 x107 x108 (fun (y1 : Int) (y2 : Int) => u194_0_4 (K .normal) x87 x88 x89 x90 x91 x92 x93 x94 x95 x96 x97 x98 x99 x100 x101 x102 x103 x104 x105 x106 y1 y2 x109) 
theorem m194_0_2g (vf51_0 : Tf51_0) (vf193_0 : Tf193_0) (vf65_0 : Tf65_0)  (α : Type) (K : Exit → St → Option α) : F194_0_2 (J194_0_2g vf65_0) α K = p194_0_3.unc fun σ => runM Tryz.prog (E194_0g vf51_0 vf193_0 vf65_0) sh194 (c194_0_41g ) K σ := by kernel_rfl
theorem m194_0_2 : ∀ (α : Type) (K : Exit → St → Option α), F194_0_2 J194_0_2 α K = p194_0_3.unc fun σ => runM Tryz.prog E194_0 sh194 c194_0_41 K σ := m194_0_2g f51_0 f193_0 f65_0
noncomputable def c194_0_29g (vJ194_0_1 : TJ194_0_1) (vJ194_0_2 : TJ194_0_2) : MCode := (.seq (.region r194_31 [] (tO [2, 4, 8, 38, 39, 40, 41])) (.seq (.cond (.tmp 41) .skip (.exit 2)) (.seq (.block 3 (.seq (.region r194_37 [] (tO [2, 4, 8, 9, 10, 38, 39, 40])) (.seq (.region r194_39 [] (tO [2, 4, 8, 9, 38, 39, 40, 47, 48])) (.block 4 (.loopU 3 td194_41 (.mark [⟨p194_0_2, F194_0_1 vJ194_0_1⟩, ⟨p194_0_3, F194_0_2 vJ194_0_2⟩] c194_0_41)))))) (.region r194_59 [] (tO [2, 4, 8, 38, 39, 40])))))
noncomputable def c194_0_29 : MCode := c194_0_29g J194_0_1 J194_0_2
theorem g194_0_29 : c194_0_29.Good Tryz.prog E194_0 sh194 := ⟨trivial, ⟨⟨trivial, trivial⟩, ⟨⟨trivial, ⟨trivial, ⟨⟨g194_0_41, m194_0_1, m194_0_2, trivial⟩, by decide⟩⟩⟩, trivial⟩⟩⟩
--CODE 29 0
def S194_0_3g (vJ194_0_1 : TJ194_0_1) (vJ194_0_2 : TJ194_0_2) (vf193_0 : Tf193_0) (α : Type) (x34 : Int) (x36 : ByteArray) (x37 : Int) (x38 x39 x40 : Rows) (x41 x42 : Int) (x51 : Rows) (x35 x47 x48 x49 x50 : Int) (kn : Int → Int → Int → Int → Int → Option α) (k1 : Int → Bool → Int → Int → Int → Int → Option α) : Option α :=
 cK (decide (x35 < x34))
 (ixK x51 x35 1
 (ldK x51 (Int.toNat x35) 0 [.int .i64]
 (fun x53 => vf193_0 α x36 x37 x38 x39 x40 x41 x42 x53
 (fun x54 x55 x56 x57 => vJ194_0_1 α x35 x54 x55 x47 x48
 (fun x84 x85 => vJ194_0_2 α x35 x56 x57 x49 x50
 (fun x113 x114 => kn (w64 (x35 + 1)) x84 x85 x113 x114))))))
 (k1 x35 (decide (x35 < x34)) x47 x48 x49 x50)
noncomputable def S194_0_3 (α : Type) (x34 : Int) (x36 : ByteArray) (x37 : Int) (x38 x39 x40 : Rows) (x41 x42 : Int) (x51 : Rows) (x35 x47 x48 x49 x50 : Int) (kn : Int → Int → Int → Int → Int → Option α) (k1 : Int → Bool → Int → Int → Int → Int → Option α) : Option α := S194_0_3g J194_0_1 J194_0_2 f193_0 α x34 x36 x37 x38 x39 x40 x41 x42 x51 x35 x47 x48 x49 x50 kn k1
noncomputable def R194_0_3 (α : Type) (x34 : Int) (x36 : ByteArray) (x37 : Int) (x38 x39 x40 : Rows) (x41 x42 : Int) (x51 : Rows) (k1 : Int → Bool → Int → Int → Int → Int → Option α) : Nat → Int → Int → Int → Int → Int → Option α
 | 0, _, _, _, _, _ => none
 | n + 1, x35, x47, x48, x49, x50 => S194_0_3 α x34 x36 x37 x38 x39 x40 x41 x42 x51 x35 x47 x48 x49 x50 (R194_0_3 α x34 x36 x37 x38 x39 x40 x41 x42 x51 k1 n) k1
noncomputable def L194_0_3 (α : Type) (x34 : Int) (x36 : ByteArray) (x37 : Int) (x38 x39 x40 : Rows) (x41 x42 : Int) (x51 : Rows) (k1 : Int → Bool → Int → Int → Int → Int → Option α) (x35 x47 x48 x49 x50 : Int) : Option α := R194_0_3 α x34 x36 x37 x38 x39 x40 x41 x42 x51 k1 fuel x35 x47 x48 x49 x50
abbrev TL194_0_3 : Type 1 := (α : Type) → Int → ByteArray → Int → Rows → Rows → Rows → Int → Int → Rows → (Int → Bool → Int → Int → Int → Int → Option α) → Int → Int → Int → Int → Int → Option α
def F194_0_3 (v : TL194_0_3) (α : Type) (K : Exit → St → Option α) : Int → Int → ByteArray → Int → Rows → Rows → Rows → Int → Int → Int → Int → Int → Int → Int → Int → Int → Int → Rows → Option α := fun x34 x35 x36 x37 x38 x39 x40 x41 x42 x43 x44 x45 x46 x47 x48 x49 x50 x51 => v α x34 x36 x37 x38 x39 x40 x41 x42 x51 (fun (y1 : Int) (y2 : Bool) (y3 : Int) (y4 : Int) (y5 : Int) (y6 : Int) => u194_0_6 (K (.exit 2)) x34 y1 y2 x36 x37 x38 x39 x40 x41 x42 x43 x44 x45 x46 y3 y4 y5 y6 x51) x35 x47 x48 x49 x50
theorem r194_0_3g (vf51_0 : Tf51_0) (vf193_0 : Tf193_0) (vf65_0 : Tf65_0) (vJ194_0_1 : TJ194_0_1) (vJ194_0_2 : TJ194_0_2) (α : Type) (K : Exit → St → Option α) (Kn : St → Option α) (x34 x35 : Int) (x36 : ByteArray) (x37 : Int) (x38 x39 x40 : Rows) (x41 x42 x43 x44 x45 x46 x47 x48 x49 x50 : Int) (x51 : Rows) : u194_0_5 (fun σ => runM Tryz.prog (E194_0g vf51_0 vf193_0 vf65_0) sh194 (c194_0_29g vJ194_0_1 vJ194_0_2) (thenK (fun σ => tidyK td194_29 σ Kn) K) σ) x34 x35 x36 x37 x38 x39 x40 x41 x42 x43 x44 x45 x46 x47 x48 x49 x50 x51 = S194_0_3g vJ194_0_1 vJ194_0_2 vf193_0 α x34 x36 x37 x38 x39 x40 x41 x42 x51 x35 x47 x48 x49 x50 (fun x35 x47 x48 x49 x50 => u194_0_5 Kn x34 x35 x36 x37 x38 x39 x40 x41 x42 x43 x44 x45 x46 x47 x48 x49 x50 x51) (fun (y1 : Int) (y2 : Bool) (y3 : Int) (y4 : Int) (y5 : Int) (y6 : Int) => u194_0_6 (K (.exit 2)) x34 y1 y2 x36 x37 x38 x39 x40 x41 x42 x43 x44 x45 x46 y3 y4 y5 y6 x51) := by kernel_rfl
theorem r194_0_3 (α : Type) (K : Exit → St → Option α) (Kn : St → Option α) (x34 x35 : Int) (x36 : ByteArray) (x37 : Int) (x38 x39 x40 : Rows) (x41 x42 x43 x44 x45 x46 x47 x48 x49 x50 : Int) (x51 : Rows) : u194_0_5 (fun σ => runM Tryz.prog E194_0 sh194 c194_0_29 (thenK (fun σ => tidyK td194_29 σ Kn) K) σ) x34 x35 x36 x37 x38 x39 x40 x41 x42 x43 x44 x45 x46 x47 x48 x49 x50 x51 = S194_0_3 α x34 x36 x37 x38 x39 x40 x41 x42 x51 x35 x47 x48 x49 x50 (fun x35 x47 x48 x49 x50 => u194_0_5 Kn x34 x35 x36 x37 x38 x39 x40 x41 x42 x43 x44 x45 x46 x47 x48 x49 x50 x51) (fun (y1 : Int) (y2 : Bool) (y3 : Int) (y4 : Int) (y5 : Int) (y6 : Int) => u194_0_6 (K (.exit 2)) x34 y1 y2 x36 x37 x38 x39 x40 x41 x42 x43 x44 x45 x46 y3 y4 y5 y6 x51) := r194_0_3g f51_0 f193_0 f65_0 J194_0_1 J194_0_2 α K Kn x34 x35 x36 x37 x38 x39 x40 x41 x42 x43 x44 x45 x46 x47 x48 x49 x50 x51
theorem t194_0_3 (α : Type) (K : Exit → St → Option α) : ∀ (n : Nat) (x34 x35 : Int) (x36 : ByteArray) (x37 : Int) (x38 x39 x40 : Rows) (x41 x42 x43 x44 x45 x46 x47 x48 x49 x50 : Int) (x51 : Rows), R194_0_3 α x34 x36 x37 x38 x39 x40 x41 x42 x51 (fun (y1 : Int) (y2 : Bool) (y3 : Int) (y4 : Int) (y5 : Int) (y6 : Int) => u194_0_6 (K (.exit 2)) x34 y1 y2 x36 x37 x38 x39 x40 x41 x42 x43 x44 x45 x46 y3 y4 y5 y6 x51) n x35 x47 x48 x49 x50 = u194_0_5 (loopT (runM Tryz.prog E194_0 sh194 c194_0_29) td194_29 K n) x34 x35 x36 x37 x38 x39 x40 x41 x42 x43 x44 x45 x46 x47 x48 x49 x50 x51 := by
 intro n
 induction n with
 | zero => intros; rfl
 | succ n ih => intro x34 x35 x36 x37 x38 x39 x40 x41 x42 x43 x44 x45 x46 x47 x48 x49 x50 x51; exact (congrArg (fun kn => S194_0_3 α x34 x36 x37 x38 x39 x40 x41 x42 x51 x35 x47 x48 x49 x50 kn (fun (y1 : Int) (y2 : Bool) (y3 : Int) (y4 : Int) (y5 : Int) (y6 : Int) => u194_0_6 (K (.exit 2)) x34 y1 y2 x36 x37 x38 x39 x40 x41 x42 x43 x44 x45 x46 y3 y4 y5 y6 x51)) (funext fun x35 => funext fun x47 => funext fun x48 => funext fun x49 => funext fun x50 => ih x34 x35 x36 x37 x38 x39 x40 x41 x42 x43 x44 x45 x46 x47 x48 x49 x50 x51)).trans (r194_0_3 α K (loopT (runM Tryz.prog E194_0 sh194 c194_0_29) td194_29 K n) x34 x35 x36 x37 x38 x39 x40 x41 x42 x43 x44 x45 x46 x47 x48 x49 x50 x51).symm
theorem m194_0_3 : ∀ (α : Type) (K : Exit → St → Option α), F194_0_3 L194_0_3 α K = p194_0_5.unc fun σ => loopT (runM Tryz.prog E194_0 sh194 c194_0_29) td194_29 K fuel σ := fun α K => funext fun x34 => funext fun x35 => funext fun x36 => funext fun x37 => funext fun x38 => funext fun x39 => funext fun x40 => funext fun x41 => funext fun x42 => funext fun x43 => funext fun x44 => funext fun x45 => funext fun x46 => funext fun x47 => funext fun x48 => funext fun x49 => funext fun x50 => funext fun x51 => t194_0_3 α K fuel x34 x35 x36 x37 x38 x39 x40 x41 x42 x43 x44 x45 x46 x47 x48 x49 x50 x51
noncomputable def c194_0_9g  : MCode := (.seq (.region r194_11 [] (tO [2, 3, 4, 5, 21, 22, 23, 24])) (.seq (.cond (.tmp 24) .skip (.exit 0)) (.seq (.block 1 (.seq (.region r194_17 [] (tO [2, 3, 4, 5, 7, 21, 22, 23])) (.seq (.region r194_19 [] (tO [2, 3, 4, 5, 7, 21, 22, 23, 32])) (.cond (.tmp 32) (.region r194_21 [] (tO [2, 3, 4, 5, 21, 22, 23])) .skip)))) (.region r194_22 [] (tO [2, 3, 4, 5, 21, 22, 23])))))
noncomputable def c194_0_9 : MCode := c194_0_9g 
theorem g194_0_9 : c194_0_9.Good Tryz.prog E194_0 sh194 := ⟨trivial, ⟨⟨trivial, trivial⟩, ⟨⟨trivial, ⟨trivial, ⟨trivial, trivial⟩⟩⟩, trivial⟩⟩⟩
--CODE 9 0
def S194_0_0g (vf51_0 : Tf51_0) (α : Type) (x10 : Rows) (x11 x20 x21 x12 : Int) (x26 : Rows) (kn : Int → Rows → Option α) (k1 : Int → Bool → Rows → Option α) : Option α :=
 cK (decide (x12 < x11))
 (rowK x10 x12 [.int .i64]
 (fun x28 => vf51_0 α x28 x20 x21
 (fun x29 => cK x29
 (gK (apOk 1 8 x26 [[DC.v (.int .i64 x28)]]) (kn (w64 (x12 + 1)) (x26 ++ [[DC.v (.int .i64 x28)]])))
 (kn (w64 (x12 + 1)) x26))))
 (k1 x12 (decide (x12 < x11)) x26)
noncomputable def S194_0_0 (α : Type) (x10 : Rows) (x11 x20 x21 x12 : Int) (x26 : Rows) (kn : Int → Rows → Option α) (k1 : Int → Bool → Rows → Option α) : Option α := S194_0_0g f51_0 α x10 x11 x20 x21 x12 x26 kn k1
noncomputable def R194_0_0 (α : Type) (x10 : Rows) (x11 x20 x21 : Int) (k1 : Int → Bool → Rows → Option α) : Nat → Int → Rows → Option α
 | 0, _, _ => none
 | n + 1, x12, x26 => S194_0_0 α x10 x11 x20 x21 x12 x26 (R194_0_0 α x10 x11 x20 x21 k1 n) k1
noncomputable def L194_0_0 (α : Type) (x10 : Rows) (x11 x20 x21 : Int) (k1 : Int → Bool → Rows → Option α) (x12 : Int) (x26 : Rows) : Option α := R194_0_0 α x10 x11 x20 x21 k1 fuel x12 x26
abbrev TL194_0_0 : Type 1 := (α : Type) → Rows → Int → Int → Int → (Int → Bool → Rows → Option α) → Int → Rows → Option α
def F194_0_0 (v : TL194_0_0) (α : Type) (K : Exit → St → Option α) : Rows → Int → Int → ByteArray → Int → Rows → Rows → Rows → Int → Int → Int → Int → Int → Int → Int → Int → Rows → Option α := fun x10 x11 x12 x13 x14 x15 x16 x17 x18 x19 x20 x21 x22 x23 x24 x25 x26 => v α x10 x11 x20 x21 (fun (y1 : Int) (y2 : Bool) (y3 : Rows) => u194_0_1 (K (.exit 0)) x10 x11 y1 y2 x13 x14 x15 x16 x17 x18 x19 x20 x21 x22 x23 x24 x25 y3) x12 x26
theorem r194_0_0g (vf51_0 : Tf51_0) (vf193_0 : Tf193_0) (vf65_0 : Tf65_0)  (α : Type) (K : Exit → St → Option α) (Kn : St → Option α) (x10 : Rows) (x11 x12 : Int) (x13 : ByteArray) (x14 : Int) (x15 x16 x17 : Rows) (x18 x19 x20 x21 x22 x23 x24 x25 : Int) (x26 : Rows) : u194_0_0 (fun σ => runM Tryz.prog (E194_0g vf51_0 vf193_0 vf65_0) sh194 (c194_0_9g ) (thenK (fun σ => tidyK td194_9 σ Kn) K) σ) x10 x11 x12 x13 x14 x15 x16 x17 x18 x19 x20 x21 x22 x23 x24 x25 x26 = S194_0_0g vf51_0 α x10 x11 x20 x21 x12 x26 (fun x12 x26 => u194_0_0 Kn x10 x11 x12 x13 x14 x15 x16 x17 x18 x19 x20 x21 x22 x23 x24 x25 x26) (fun (y1 : Int) (y2 : Bool) (y3 : Rows) => u194_0_1 (K (.exit 0)) x10 x11 y1 y2 x13 x14 x15 x16 x17 x18 x19 x20 x21 x22 x23 x24 x25 y3) := by kernel_rfl
theorem r194_0_0 (α : Type) (K : Exit → St → Option α) (Kn : St → Option α) (x10 : Rows) (x11 x12 : Int) (x13 : ByteArray) (x14 : Int) (x15 x16 x17 : Rows) (x18 x19 x20 x21 x22 x23 x24 x25 : Int) (x26 : Rows) : u194_0_0 (fun σ => runM Tryz.prog E194_0 sh194 c194_0_9 (thenK (fun σ => tidyK td194_9 σ Kn) K) σ) x10 x11 x12 x13 x14 x15 x16 x17 x18 x19 x20 x21 x22 x23 x24 x25 x26 = S194_0_0 α x10 x11 x20 x21 x12 x26 (fun x12 x26 => u194_0_0 Kn x10 x11 x12 x13 x14 x15 x16 x17 x18 x19 x20 x21 x22 x23 x24 x25 x26) (fun (y1 : Int) (y2 : Bool) (y3 : Rows) => u194_0_1 (K (.exit 0)) x10 x11 y1 y2 x13 x14 x15 x16 x17 x18 x19 x20 x21 x22 x23 x24 x25 y3) := r194_0_0g f51_0 f193_0 f65_0 α K Kn x10 x11 x12 x13 x14 x15 x16 x17 x18 x19 x20 x21 x22 x23 x24 x25 x26
theorem t194_0_0 (α : Type) (K : Exit → St → Option α) : ∀ (n : Nat) (x10 : Rows) (x11 x12 : Int) (x13 : ByteArray) (x14 : Int) (x15 x16 x17 : Rows) (x18 x19 x20 x21 x22 x23 x24 x25 : Int) (x26 : Rows), R194_0_0 α x10 x11 x20 x21 (fun (y1 : Int) (y2 : Bool) (y3 : Rows) => u194_0_1 (K (.exit 0)) x10 x11 y1 y2 x13 x14 x15 x16 x17 x18 x19 x20 x21 x22 x23 x24 x25 y3) n x12 x26 = u194_0_0 (loopT (runM Tryz.prog E194_0 sh194 c194_0_9) td194_9 K n) x10 x11 x12 x13 x14 x15 x16 x17 x18 x19 x20 x21 x22 x23 x24 x25 x26 := by
 intro n
 induction n with
 | zero => intros; rfl
 | succ n ih => intro x10 x11 x12 x13 x14 x15 x16 x17 x18 x19 x20 x21 x22 x23 x24 x25 x26; exact (congrArg (fun kn => S194_0_0 α x10 x11 x20 x21 x12 x26 kn (fun (y1 : Int) (y2 : Bool) (y3 : Rows) => u194_0_1 (K (.exit 0)) x10 x11 y1 y2 x13 x14 x15 x16 x17 x18 x19 x20 x21 x22 x23 x24 x25 y3)) (funext fun x12 => funext fun x26 => ih x10 x11 x12 x13 x14 x15 x16 x17 x18 x19 x20 x21 x22 x23 x24 x25 x26)).trans (r194_0_0 α K (loopT (runM Tryz.prog E194_0 sh194 c194_0_9) td194_9 K n) x10 x11 x12 x13 x14 x15 x16 x17 x18 x19 x20 x21 x22 x23 x24 x25 x26).symm
theorem m194_0_0 : ∀ (α : Type) (K : Exit → St → Option α), F194_0_0 L194_0_0 α K = p194_0_0.unc fun σ => loopT (runM Tryz.prog E194_0 sh194 c194_0_9) td194_9 K fuel σ := fun α K => funext fun x10 => funext fun x11 => funext fun x12 => funext fun x13 => funext fun x14 => funext fun x15 => funext fun x16 => funext fun x17 => funext fun x18 => funext fun x19 => funext fun x20 => funext fun x21 => funext fun x22 => funext fun x23 => funext fun x24 => funext fun x25 => funext fun x26 => t194_0_0 α K fuel x10 x11 x12 x13 x14 x15 x16 x17 x18 x19 x20 x21 x22 x23 x24 x25 x26
abbrev Tf194_0 : Type 1 := (α : Type) → ByteArray → Int → Rows → Rows → Rows → Int → Int → Int → Int → (Int → Int → Int → Int → Option α) → Option α
def f194_0g (vL194_0_0 : TL194_0_0) (vL194_0_3 : TL194_0_3) (α : Type) (x1 : ByteArray) (x2 : Int) (x3 x4 x5 : Rows) (x6 x7 x8 x9 : Int) (k1 : Int → Int → Int → Int → Option α) : Option α :=
 vL194_0_0 α x3 ((List.length x3 : Nat) : Int) x8 x9
 (fun x30 x31 x32 => vL194_0_3 α ((List.length x32 : Nat) : Int) x1 x2 x3 x4 x5 x6 x7 x32
 (fun x116 x117 x118 x119 x120 x121 => k1 x118 x119 x120 x121) 0 0 0 0 0) 0 [[DC.v (.int .i64 x8)], [DC.v (.int .i64 x9)]]
noncomputable def f194_0 (α : Type) (x1 : ByteArray) (x2 : Int) (x3 x4 x5 : Rows) (x6 x7 x8 x9 : Int) (k1 : Int → Int → Int → Int → Option α) : Option α := f194_0g L194_0_0 L194_0_3 α x1 x2 x3 x4 x5 x6 x7 x8 x9 k1
def pa194_0 : PT (List DV) := pA [pV true [dS, (dI .i64), dL, dL, dL, (dI .i64), (dI .i64)], pV true [(dI .i64), (dI .i64)]]
def Fn194_0 (v : Tf194_0) (α : Type) (k : List RV → Option α) : ByteArray → Int → Rows → Rows → Rows → Int → Int → Int → Int → Option α := fun x1 x2 x3 x4 x5 x6 x7 x8 x9 => v α x1 x2 x3 x4 x5 x6 x7 x8 x9 (fun (y1 : Int) (y2 : Int) (y3 : Int) (y4 : Int) => ur194_0_0 k y1 y2 y3 y4)
noncomputable def cm194_0g (vL194_0_0 : TL194_0_0) (vL194_0_3 : TL194_0_3) : MCode := (.seq (.region r194_2 [] (tO [2, 3, 4])) (.seq (.region r194_4 [] (tO [2, 3, 4, 5])) (.seq (.seq (.region r194_7 [] (tO [2, 3, 4, 5, 21, 22, 23])) (.block 0 (.loop td194_9 [⟨p194_0_0, F194_0_0 vL194_0_0⟩] c194_0_9))) (.seq (.region r194_24 [] (tO [2, 4, 5, 8])) (.seq (.seq (.region r194_27 [] (tO [2, 4, 8, 38, 39, 40])) (.block 2 (.loop td194_29 [⟨p194_0_5, F194_0_3 vL194_0_3⟩] c194_0_29))) (.seq (.region r194_61 [] (tO [4])) .ret))))))
noncomputable def cm194_0 : MCode := cm194_0g L194_0_0 L194_0_3
theorem gm194_0 : cm194_0.Good Tryz.prog E194_0 sh194 := ⟨trivial, ⟨trivial, ⟨⟨trivial, ⟨g194_0_9, m194_0_0, trivial⟩⟩, ⟨trivial, ⟨⟨trivial, ⟨g194_0_29, m194_0_3, trivial⟩⟩, ⟨trivial, trivial⟩⟩⟩⟩⟩⟩
theorem fm194_0g (vf51_0 : Tf51_0) (vf193_0 : Tf193_0) (vf65_0 : Tf65_0) (vL194_0_0 : TL194_0_0) (vL194_0_3 : TL194_0_3) (α : Type) (k : List RV → Option α) : Fn194_0 (f194_0g vL194_0_0 vL194_0_3) α k = pa194_0.unc fun ds => fnM Tryz.prog (E194_0g vf51_0 vf193_0 vf65_0) sh194 (cm194_0g vL194_0_0 vL194_0_3) rs194 k ds := by kernel_rfl
theorem fm194_0 : ∀ (α : Type) (k : List RV → Option α), Fn194_0 f194_0 α k = pa194_0.unc fun ds => fnM Tryz.prog E194_0 sh194 cm194_0 rs194 k ds := fm194_0g f51_0 f193_0 f65_0 L194_0_0 L194_0_3
theorem is194 : FnIs Tryz.prog 194 nt194 tr194 tl194 cm194_0.erase rs194 := ⟨Tryz.f194, Tryz.func194, rfl, by kernel_rfl, by kernel_rfl, by kernel_rfl⟩
theorem io194_0 : InstOk Tryz.prog 194 nt194 ⟨pa194_0, Fn194_0 f194_0⟩ := inst_ok eo194_0 followsTry is194 ⟨⟨sh194, cm194_0, by kernel_rfl, gm194_0, fm194_0⟩⟩
abbrev nt159 : Nat := 40
def sh159 : List (Nat × List Sh) := []
def r159_2 : List AOper := [oO 6 (.mv (kI 0))]
def r159_5 : List AOper := [oM 11 0, oO 12 (.call 80 [(.tmp 11)]), oO 13 (.pure (oB (.unOp .not 4 (.tmp 12)) 4))]
def r159_8 : List AOper := [oO 6 (.mv (kI 2))]
def r159_10 : List AOper := [oM 15 1, oO 16 (.call 168 [(.tmp 15)]), oM 14 16, oO 17 (.extract 0 (.tmp 14)), oO 18 (.extract 1 (.tmp 14)), oM 7 17, oM 8 18]
def r159_12 : List AOper := [oM 20 2, oO 21 (.call 168 [(.tmp 20)]), oM 19 21, oO 22 (.extract 0 (.tmp 19)), oO 23 (.extract 1 (.tmp 19)), oM 9 22, oM 10 23]
def r159_16 : List AOper := [oM 25 8, oO 26 (.pure (oB (.unOp .not 4 (.tmp 25)) 4)), oM 27 26, oG 28 (.mv (.tmp 10)) 27 false, oG 29 (.pure (oB (.unOp .not 4 (.tmp 28)) 4)) 27 false, oO 30 (.pick (.tmp 27) (.const (.bool true)) (.tmp 29)), oM 24 30]
def r159_19 : List AOper := [oO 6 (.mv (kI 27))]
def r159_21 : List AOper := [oM 32 7, oO 33 (.call 132 [(.tmp 32)]), oO 34 (.pure (oB (.unOp .not 4 (.tmp 33)) 4)), oM 35 34, oG 36 (.mv (.tmp 9)) 35 false, oG 37 (.call 169 [(.tmp 36)]) 35 false, oG 38 (.pure (oB (.unOp .not 4 (.tmp 37)) 4)) 35 false, oO 39 (.pick (.tmp 35) (.const (.bool true)) (.tmp 38)), oM 31 39]
def r159_24 : List AOper := [oO 6 (.mv (kI 2))]
def r159_26 : List AOper := [oO 6 (.mv (kI 0))]
def tr159 : List (Nat × Tidy) := [tT 0 [0, 1, 2], tT 1 [1, 2, 13], tT 2 [6], tT 3 [2, 7, 8], tT 4 [7, 8, 9, 10], tT 5 [7, 9, 24], tT 6 [6], tT 7 [31], tT 8 [6], tT 9 [6]]
def tl159 : List (Nat × Tidy) := []
def rs159 : List AResV := [.tmp 6]
def p159_0_0 : PT St := pS [sl 7 (aV false [(cD (dI .i64))]), sl 8 (aV false [(cD dB)]), sl 9 (aV false [(cD (dI .i64))]), sl 10 (aV false [(cD dB)])] []
def u159_0_0 {β : Type} (g : St → β) : Int → Bool → Int → Bool → β := p159_0_0.unc g
def p159_0_1 : PT St := pS [sl 7 (aV false [(cD (dI .i64))]), sl 9 (aV false [(cD (dI .i64))]), sl 24 (aV false [(cD dB)])] []
def u159_0_1 {β : Type} (g : St → β) : Int → Int → Bool → β := p159_0_1.unc g
def pr159_0_0 : PT (List RV) := pRs [pR false [rD (dI .i64)]]
def ur159_0_0 {β : Type} (g : List RV → β) : Int → β := pr159_0_0.unc g
def E159_0g (vf80_0 : Tf80_0) (vf168_0 : Tf168_0) (vf132_0 : Tf132_0) (vf169_0 : Tf169_0) : EnvK := EnvK.of [⟨80, nt80, [⟨pa80_0, Fn80_0 vf80_0⟩]⟩, ⟨168, nt168, [⟨pa168_0, Fn168_0 vf168_0⟩]⟩, ⟨132, nt132, [⟨pa132_0, Fn132_0 vf132_0⟩]⟩, ⟨169, nt169, [⟨pa169_0, Fn169_0 vf169_0⟩]⟩] noSeq
noncomputable def E159_0 : EnvK := E159_0g f80_0 f168_0 f132_0 f169_0
theorem eo159_0 : E159_0.Ok Tryz.prog := EnvK.of_ok noSeq_ok ⟨⟨io80_0, trivial⟩, ⟨io168_0, trivial⟩, ⟨io132_0, trivial⟩, ⟨io169_0, trivial⟩, trivial⟩
noncomputable def c159_0_15g  : MCode := (.region r159_16 [] (tO [7, 9, 24]))
noncomputable def c159_0_15 : MCode := c159_0_15g 
theorem g159_0_15 : c159_0_15.Good Tryz.prog E159_0 sh159 := trivial
--CODE 15 0
abbrev TJ159_0_0 : Type 1 := (α : Type) → Bool → Bool → (Bool → Option α) → Option α
def J159_0_0g  (α : Type) (x10 x12 : Bool) (k1 : Bool → Option α) : Option α :=
 cK (!x10)
 (k1 true)
 (k1 (!x12))
noncomputable def J159_0_0 (α : Type) (x10 x12 : Bool) (k1 : Bool → Option α) : Option α := J159_0_0g  α x10 x12 k1
def F159_0_0 (v : TJ159_0_0) (α : Type) (K : Exit → St → Option α) : Int → Bool → Int → Bool → Option α := fun x9 x10 x11 x12 => v α x10 x12 (fun (y1 : Bool) => u159_0_1 (K .normal) x9 x11 y1) 
theorem m159_0_0g (vf80_0 : Tf80_0) (vf168_0 : Tf168_0) (vf132_0 : Tf132_0) (vf169_0 : Tf169_0)  (α : Type) (K : Exit → St → Option α) : F159_0_0 (J159_0_0g ) α K = p159_0_0.unc fun σ => runM Tryz.prog (E159_0g vf80_0 vf168_0 vf132_0 vf169_0) sh159 (c159_0_15g ) K σ := by kernel_rfl
theorem m159_0_0 : ∀ (α : Type) (K : Exit → St → Option α), F159_0_0 J159_0_0 α K = p159_0_0.unc fun σ => runM Tryz.prog E159_0 sh159 c159_0_15 K σ := m159_0_0g f80_0 f168_0 f132_0 f169_0
abbrev Tf159_0 : Type 1 := (α : Type) → Int → Nat → Nat → (Int → Option α) → Option α
def f159_0g (vJ159_0_0 : TJ159_0_0) (vf132_0 : Tf132_0) (vf168_0 : Tf168_0) (vf169_0 : Tf169_0) (vf80_0 : Tf80_0) (α : Type) (x1 : Int) (x2 x3 : Nat) (k1 : Int → Option α) : Option α :=
 vf80_0 α x1
 (fun x4 => cK (!x4)
 (k1 2)
 (vf168_0 α x2
 (fun x5 x6 => vf168_0 α x3
 (fun x7 x8 => vJ159_0_0 α x6 x8
 (fun x14 => cK x14
 (k1 27)
 (vf132_0 α x5
 (fun x16 => cK (!x16)
 (k1 2)
 (vf169_0 α x7
 (fun x17 => cK (!x17)
 (k1 2)
 (k1 0))))))))))
noncomputable def f159_0 (α : Type) (x1 : Int) (x2 x3 : Nat) (k1 : Int → Option α) : Option α := f159_0g J159_0_0 f132_0 f168_0 f169_0 f80_0 α x1 x2 x3 k1
def pa159_0 : PT (List DV) := pA [pV false [(dI .i64)], pV false [(dF .f32)], pV false [(dF .f32)]]
def Fn159_0 (v : Tf159_0) (α : Type) (k : List RV → Option α) : Int → Nat → Nat → Option α := fun x1 x2 x3 => v α x1 x2 x3 (fun (y1 : Int) => ur159_0_0 k y1)
noncomputable def cm159_0g (vJ159_0_0 : TJ159_0_0) : MCode := (.seq (.region r159_2 [] (tO [0, 1, 2])) (.seq (.seq (.region r159_5 [] (tO [1, 2, 13])) (.cond (.tmp 13) (.seq (.region r159_8 [] (tO [6])) .ret) .skip)) (.seq (.region r159_10 [] (tO [2, 7, 8])) (.seq (.region r159_12 [] (tO [7, 8, 9, 10])) (.seq (.block 0 (.seq (.mark [⟨p159_0_0, F159_0_0 vJ159_0_0⟩] c159_0_15) (.cond (.tmp 24) (.seq (.region r159_19 [] (tO [6])) .ret) (.seq (.region r159_21 [] (tO [31])) (.cond (.tmp 31) (.seq (.region r159_24 [] (tO [6])) .ret) .skip))))) (.seq (.region r159_26 [] (tO [6])) .ret))))))
noncomputable def cm159_0 : MCode := cm159_0g J159_0_0
theorem gm159_0 : cm159_0.Good Tryz.prog E159_0 sh159 := ⟨trivial, ⟨⟨trivial, ⟨⟨trivial, trivial⟩, trivial⟩⟩, ⟨trivial, ⟨trivial, ⟨⟨⟨g159_0_15, m159_0_0, trivial⟩, ⟨⟨trivial, trivial⟩, ⟨trivial, ⟨⟨trivial, trivial⟩, trivial⟩⟩⟩⟩, ⟨trivial, trivial⟩⟩⟩⟩⟩⟩
theorem fm159_0g (vf80_0 : Tf80_0) (vf168_0 : Tf168_0) (vf132_0 : Tf132_0) (vf169_0 : Tf169_0) (vJ159_0_0 : TJ159_0_0) (α : Type) (k : List RV → Option α) : Fn159_0 (f159_0g vJ159_0_0 vf132_0 vf168_0 vf169_0 vf80_0) α k = pa159_0.unc fun ds => fnM Tryz.prog (E159_0g vf80_0 vf168_0 vf132_0 vf169_0) sh159 (cm159_0g vJ159_0_0) rs159 k ds := by kernel_rfl
theorem fm159_0 : ∀ (α : Type) (k : List RV → Option α), Fn159_0 f159_0 α k = pa159_0.unc fun ds => fnM Tryz.prog E159_0 sh159 cm159_0 rs159 k ds := fm159_0g f80_0 f168_0 f132_0 f169_0 J159_0_0
theorem is159 : FnIs Tryz.prog 159 nt159 tr159 tl159 cm159_0.erase rs159 := ⟨Tryz.f159, Tryz.func159, rfl, by kernel_rfl, by kernel_rfl, by kernel_rfl⟩
theorem io159_0 : InstOk Tryz.prog 159 nt159 ⟨pa159_0, Fn159_0 f159_0⟩ := inst_ok eo159_0 followsTry is159 ⟨⟨sh159, cm159_0, by kernel_rfl, gm159_0, fm159_0⟩⟩
abbrev nt142 : Nat := 78
def sh142 : List (Nat × List Sh) := [(9, [.int .i64, .int .i64]), (14, [.sl]), (19, [.sl]), (22, [.sl]), (28, [.sl]), (31, [.sl]), (37, [.sl]), (41, [.sl]), (46, [.int .i64]), (47, [.int .i64]), (50, [.sl]), (52, [.flt .f32]), (53, [.flt .f32]), (55, [.sl]), (57, [.flt .f32]), (58, [.flt .f32]), (69, [.sl]), (72, [.int .i64]), (73, [.int .i64])]
def r142_2 : List AOper := [oO 1 (.box (.tmp 0)), oO 2 (.mv (kI 0)), oO 3 (.mv (kI 0))]
def r142_6 : List AOper := [oO 8 (.faddr 5 (.tmp 1)), oO 9 (.load true 2 (.tmp 8)), oO 10 (.build [(cI 0), (cI 0)] []), oO 11 (.bin .neq 36 (.tmp 9) (.tmp 10)), oM 7 11]
def r142_9 : List AOper := [oO 2 (.mv (kI 0)), oO 3 (.mv (kI 13))]
def r142_11 : List AOper := [oO 13 (.faddr 2 (.tmp 1)), oO 14 (.load false 1 (.tmp 13)), oO 15 (.len (.tmp 14)), oO 16 (.bin .eql 3 (.tmp 15) (kI 0)), oM 17 16, oG 18 (.faddr 3 (.tmp 1)) 17 false, oG 19 (.load false 1 (.tmp 18)) 17 false, oG 20 (.len (.tmp 19)) 17 false, oG 21 (.faddr 2 (.tmp 1)) 17 false, oG 22 (.load false 1 (.tmp 21)) 17 false, oG 23 (.len (.tmp 22)) 17 false, oG 24 (.bin .neq 3 (.tmp 20) (.tmp 23)) 17 false, oO 25 (.pick (.tmp 17) (.const (.bool true)) (.tmp 24)), oM 26 25, oG 27 (.faddr 4 (.tmp 1)) 26 false, oG 28 (.load false 1 (.tmp 27)) 26 false, oG 29 (.len (.tmp 28)) 26 false, oG 30 (.faddr 2 (.tmp 1)) 26 false, oG 31 (.load false 1 (.tmp 30)) 26 false, oG 32 (.len (.tmp 31)) 26 false, oG 33 (.bin .neq 3 (.tmp 29) (.tmp 32)) 26 false, oO 34 (.pick (.tmp 26) (.const (.bool true)) (.tmp 33)), oM 12 34]
def r142_14 : List AOper := [oO 2 (.mv (kI 0)), oO 3 (.mv (kI 12))]
def r142_16 : List AOper := [oO 36 (.faddr 2 (.tmp 1)), oO 37 (.load false 1 (.tmp 36)), oO 38 (.len (.tmp 37)), oO 39 (.bin .gtr 3 (.tmp 38) (kI 64)), oM 35 39]
def r142_19 : List AOper := [oO 2 (.mv (kI 0)), oO 3 (.mv (kI 8))]
def r142_22 : List AOper := [oO 40 (.faddr 2 (.tmp 1)), oO 41 (.load false 1 (.tmp 40)), oO 42 (.len (.tmp 41)), oO 43 (.mv (kI 0))]
def td142_24 : Option Tidy := (some ⟨[1, 41, 42, 43], true, [⟨false, 41, 0, 20041, 1⟩, ⟨true, 1, 2, 30102, 1⟩, ⟨true, 1, 3, 30103, 1⟩, ⟨true, 1, 4, 30104, 1⟩], []⟩)
def r142_26 : List AOper := [oO 44 (.bin .lss 3 (.tmp 43) (.tmp 42))]
def r142_32 : List AOper := [oM 45 43, oO 46 (.iaddr 1 none (.tmp 41) (.tmp 43)), oO 47 (.load false 1 (.tmp 46)), oM 4 45, oM 5 47]
def r142_35 : List AOper := [oM 48 5, oO 49 (.faddr 3 (.tmp 1)), oO 50 (.load false 1 (.tmp 49)), oM 51 4, oO 52 (.iaddr 1 none (.tmp 50) (.tmp 51)), oO 53 (.load false 1 (.tmp 52)), oO 54 (.faddr 4 (.tmp 1)), oO 55 (.load false 1 (.tmp 54)), oM 56 4, oO 57 (.iaddr 1 none (.tmp 55) (.tmp 56)), oO 58 (.load false 1 (.tmp 57)), oO 59 (.call 159 [(.tmp 48), (.tmp 53), (.tmp 58)]), oM 6 59]
def r142_37 : List AOper := [oM 60 6, oO 61 (.bin .neq 26 (.tmp 60) (kI 0))]
def r142_40 : List AOper := [oM 62 4, oM 63 6, oM 2 62, oM 3 63]
def r142_42 : List AOper := [oM 64 4, oO 65 (.bin .gtr 3 (.tmp 64) (kI 0)), oM 66 65, oG 67 (.mv (.tmp 5)) 66 true, oG 68 (.faddr 2 (.tmp 1)) 66 true, oG 69 (.load false 1 (.tmp 68)) 66 true, oG 70 (.mv (.tmp 4)) 66 true, oG 71 (.bin .sub 3 (.tmp 70) (kI 1)) 66 true, oG 72 (.iaddr 1 none (.tmp 69) (.tmp 71)) 66 true, oG 73 (.load false 1 (.tmp 72)) 66 true, oG 74 (.bin .leq 3 (.tmp 67) (.tmp 73)) 66 true, oO 75 (.pick (.tmp 66) (.tmp 74) (.const (.bool false)))]
def r142_45 : List AOper := [oM 76 4, oM 2 76, oO 3 (.mv (kI 10))]
def r142_46 : List AOper := [oO 77 (.bin .add 3 (.tmp 43) (kI 1)), oM 43 77]
def r142_48 : List AOper := [oO 2 (.mv (kI 0)), oO 3 (.mv (kI 0))]
def tr142 : List (Nat × Tidy) := [tT 0 [1], tT 1 [1, 7], tT 2 [2, 3], tT 3 [1, 12], tT 4 [2, 3], tT 5 [1, 35], tT 6 [2, 3], tT 7 [1, 41, 42, 43], tT 8 [1, 41, 42, 43, 44], tT 9 [1, 4, 5, 41, 42, 43], tT 10 [1, 4, 5, 6, 41, 42, 43], tT 11 [1, 4, 5, 6, 41, 42, 43, 61], tT 12 [2, 3], tT 13 [1, 4, 41, 42, 43, 75], tT 14 [2, 3], tT 15 [1, 41, 42, 43], tT 16 [2, 3]]
def tl142 : List (Nat × Tidy) := [(8, ⟨[1, 41, 42, 43], true, [⟨false, 41, 0, 20041, 1⟩, ⟨true, 1, 2, 30102, 1⟩, ⟨true, 1, 3, 30103, 1⟩, ⟨true, 1, 4, 30104, 1⟩], []⟩)]
def rs142 : List AResV := [.tmp 2, .tmp 3]
def p142_0_0 : PT St := pS [sl 1 (aV false [(cPtr 1 0)]), sl 7 (aV false [(cD dB)])] [eBox 1 [(cD dS), (cD (dI .i64)), (cD dL), (cD dL), (cD dL), (cD (dI .i64)), (cD (dI .i64))]]
def u142_0_0 {β : Type} (g : St → β) : Bool → ByteArray → Int → Rows → Rows → Rows → Int → Int → β := p142_0_0.unc g
def p142_0_1 : PT St := pS [sl 1 (aV false [(cPtr 1 0)]), sl 12 (aV false [(cD dB)])] [eBox 1 [(cD dS), (cD (dI .i64)), (cD dL), (cD dL), (cD dL), (cD (dI .i64)), (cD (dI .i64))]]
def u142_0_1 {β : Type} (g : St → β) : Bool → ByteArray → Int → Rows → Rows → Rows → Int → Int → β := p142_0_1.unc g
def p142_0_2 : PT St := pS [sl 1 (aV false [(cPtr 1 0)]), sl 41 (aV false [(cD dL)]), sl 42 (aV false [(cD (dI .i64))]), sl 43 (aV false [(cD (dI .i64))])] [eBox 1 [(cD dS), (cD (dI .i64)), (cD dL), (cD dL), (cD dL), (cD (dI .i64)), (cD (dI .i64))]]
def u142_0_2 {β : Type} (g : St → β) : Rows → Int → Int → ByteArray → Int → Rows → Rows → Rows → Int → Int → β := p142_0_2.unc g
def p142_0_3 : PT St := pS [sl 2 (aV false [(cD (dI .i64))]), sl 3 (aV false [(cD (dI .i64))])] []
def u142_0_3 {β : Type} (g : St → β) : Int → Int → β := p142_0_3.unc g
def p142_0_4 : PT St := pS [sl 1 (aV false [(cPtr 1 0)]), sl 41 (aV false [(cD dL)]), sl 42 (aV false [(cD (dI .i64))]), sl 43 (aV false [(cD (dI .i64))]), sl 44 (aV false [(cD dB)])] [eBox 1 [(cD dS), (cD (dI .i64)), (cD dL), (cD dL), (cD dL), (cD (dI .i64)), (cD (dI .i64))]]
def u142_0_4 {β : Type} (g : St → β) : Rows → Int → Int → Bool → ByteArray → Int → Rows → Rows → Rows → Int → Int → β := p142_0_4.unc g
def pr142_0_0 : PT (List RV) := pRs [pR false [rD (dI .i64)], pR false [rD (dI .i64)]]
def ur142_0_0 {β : Type} (g : List RV → β) : Int → Int → β := pr142_0_0.unc g
def E142_0g (vf159_0 : Tf159_0) : EnvK := EnvK.of [⟨159, nt159, [⟨pa159_0, Fn159_0 vf159_0⟩]⟩] noSeq
noncomputable def E142_0 : EnvK := E142_0g f159_0
theorem eo142_0 : E142_0.Ok Tryz.prog := EnvK.of_ok noSeq_ok ⟨⟨io159_0, trivial⟩, trivial⟩
noncomputable def c142_0_24g  : MCode := (.seq (.region r142_26 [] (tO [1, 41, 42, 43, 44])) (.seq (.cond (.tmp 44) .skip (.exit 1)) (.seq (.block 2 (.seq (.region r142_32 [] (tO [1, 4, 5, 41, 42, 43])) (.seq (.seq (.region r142_35 [] (tO [1, 4, 5, 6, 41, 42, 43])) (.seq (.region r142_37 [] (tO [1, 4, 5, 6, 41, 42, 43, 61])) (.cond (.tmp 61) (.seq (.region r142_40 [] (tO [2, 3])) .ret) .skip))) (.seq (.region r142_42 [] (tO [1, 4, 41, 42, 43, 75])) (.cond (.tmp 75) (.seq (.region r142_45 [] (tO [2, 3])) .ret) .skip))))) (.region r142_46 [] (tO [1, 41, 42, 43])))))
noncomputable def c142_0_24 : MCode := c142_0_24g 
theorem g142_0_24 : c142_0_24.Good Tryz.prog E142_0 sh142 := ⟨trivial, ⟨⟨trivial, trivial⟩, ⟨⟨trivial, ⟨⟨trivial, ⟨trivial, ⟨⟨trivial, trivial⟩, trivial⟩⟩⟩, ⟨trivial, ⟨⟨trivial, trivial⟩, trivial⟩⟩⟩⟩, trivial⟩⟩⟩
--CODE 24 0
def S142_0_1g (vf159_0 : Tf159_0) (α : Type) (x19 : Rows) (x20 : Int) (x24 x25 x26 : Rows) (x21 : Int) (kn : Int → Option α) (k1 : Int → Int → Option α) (k2 : Int → Bool → Option α) : Option α :=
 cK (decide (x21 < x20))
 (rowK x19 x21 [.int .i64]
 (fun x30 => rowK x25 x21 [.flt .f32]
 (fun x31 => rowK x26 x21 [.flt .f32]
 (fun x32 => vf159_0 α x30 x31 x32
 (fun x33 => cK (x33 != 0)
 (k1 x21 x33)
 (cK (decide (0 < x21))
 (rowK x24 (w64 (x21 - 1)) [.int .i64]
 (fun x34 => cK (decide (x30 ≤ x34))
 (k1 x21 10)
 (kn (w64 (x21 + 1)))))
 (kn (w64 (x21 + 1)))))))))
 (k2 x21 (decide (x21 < x20)))
noncomputable def S142_0_1 (α : Type) (x19 : Rows) (x20 : Int) (x24 x25 x26 : Rows) (x21 : Int) (kn : Int → Option α) (k1 : Int → Int → Option α) (k2 : Int → Bool → Option α) : Option α := S142_0_1g f159_0 α x19 x20 x24 x25 x26 x21 kn k1 k2
noncomputable def R142_0_1 (α : Type) (x19 : Rows) (x20 : Int) (x24 x25 x26 : Rows) (k1 : Int → Int → Option α) (k2 : Int → Bool → Option α) : Nat → Int → Option α
 | 0, _ => none
 | n + 1, x21 => S142_0_1 α x19 x20 x24 x25 x26 x21 (R142_0_1 α x19 x20 x24 x25 x26 k1 k2 n) k1 k2
noncomputable def L142_0_1 (α : Type) (x19 : Rows) (x20 : Int) (x24 x25 x26 : Rows) (k1 : Int → Int → Option α) (k2 : Int → Bool → Option α) (x21 : Int) : Option α := R142_0_1 α x19 x20 x24 x25 x26 k1 k2 fuel x21
abbrev TL142_0_1 : Type 1 := (α : Type) → Rows → Int → Rows → Rows → Rows → (Int → Int → Option α) → (Int → Bool → Option α) → Int → Option α
def F142_0_1 (v : TL142_0_1) (α : Type) (K : Exit → St → Option α) : Rows → Int → Int → ByteArray → Int → Rows → Rows → Rows → Int → Int → Option α := fun x19 x20 x21 x22 x23 x24 x25 x26 x27 x28 => v α x19 x20 x24 x25 x26 (fun (y1 : Int) (y2 : Int) => u142_0_3 (K .ret) y1 y2) (fun (y1 : Int) (y2 : Bool) => u142_0_4 (K (.exit 1)) x19 x20 y1 y2 x22 x23 x24 x25 x26 x27 x28) x21
theorem r142_0_1g (vf159_0 : Tf159_0)  (α : Type) (K : Exit → St → Option α) (Kn : St → Option α) (x19 : Rows) (x20 x21 : Int) (x22 : ByteArray) (x23 : Int) (x24 x25 x26 : Rows) (x27 x28 : Int) : u142_0_2 (fun σ => runM Tryz.prog (E142_0g vf159_0) sh142 (c142_0_24g ) (thenK (fun σ => tidyK td142_24 σ Kn) K) σ) x19 x20 x21 x22 x23 x24 x25 x26 x27 x28 = S142_0_1g vf159_0 α x19 x20 x24 x25 x26 x21 (fun x21 => u142_0_2 Kn x19 x20 x21 x22 x23 x24 x25 x26 x27 x28) (fun (y1 : Int) (y2 : Int) => u142_0_3 (K .ret) y1 y2) (fun (y1 : Int) (y2 : Bool) => u142_0_4 (K (.exit 1)) x19 x20 y1 y2 x22 x23 x24 x25 x26 x27 x28) := by kernel_rfl
theorem r142_0_1 (α : Type) (K : Exit → St → Option α) (Kn : St → Option α) (x19 : Rows) (x20 x21 : Int) (x22 : ByteArray) (x23 : Int) (x24 x25 x26 : Rows) (x27 x28 : Int) : u142_0_2 (fun σ => runM Tryz.prog E142_0 sh142 c142_0_24 (thenK (fun σ => tidyK td142_24 σ Kn) K) σ) x19 x20 x21 x22 x23 x24 x25 x26 x27 x28 = S142_0_1 α x19 x20 x24 x25 x26 x21 (fun x21 => u142_0_2 Kn x19 x20 x21 x22 x23 x24 x25 x26 x27 x28) (fun (y1 : Int) (y2 : Int) => u142_0_3 (K .ret) y1 y2) (fun (y1 : Int) (y2 : Bool) => u142_0_4 (K (.exit 1)) x19 x20 y1 y2 x22 x23 x24 x25 x26 x27 x28) := r142_0_1g f159_0 α K Kn x19 x20 x21 x22 x23 x24 x25 x26 x27 x28
theorem t142_0_1 (α : Type) (K : Exit → St → Option α) : ∀ (n : Nat) (x19 : Rows) (x20 x21 : Int) (x22 : ByteArray) (x23 : Int) (x24 x25 x26 : Rows) (x27 x28 : Int), R142_0_1 α x19 x20 x24 x25 x26 (fun (y1 : Int) (y2 : Int) => u142_0_3 (K .ret) y1 y2) (fun (y1 : Int) (y2 : Bool) => u142_0_4 (K (.exit 1)) x19 x20 y1 y2 x22 x23 x24 x25 x26 x27 x28) n x21 = u142_0_2 (loopT (runM Tryz.prog E142_0 sh142 c142_0_24) td142_24 K n) x19 x20 x21 x22 x23 x24 x25 x26 x27 x28 := by
 intro n
 induction n with
 | zero => intros; rfl
 | succ n ih => intro x19 x20 x21 x22 x23 x24 x25 x26 x27 x28; exact (congrArg (fun kn => S142_0_1 α x19 x20 x24 x25 x26 x21 kn (fun (y1 : Int) (y2 : Int) => u142_0_3 (K .ret) y1 y2) (fun (y1 : Int) (y2 : Bool) => u142_0_4 (K (.exit 1)) x19 x20 y1 y2 x22 x23 x24 x25 x26 x27 x28)) (funext fun x21 => ih x19 x20 x21 x22 x23 x24 x25 x26 x27 x28)).trans (r142_0_1 α K (loopT (runM Tryz.prog E142_0 sh142 c142_0_24) td142_24 K n) x19 x20 x21 x22 x23 x24 x25 x26 x27 x28).symm
theorem m142_0_1 : ∀ (α : Type) (K : Exit → St → Option α), F142_0_1 L142_0_1 α K = p142_0_2.unc fun σ => loopT (runM Tryz.prog E142_0 sh142 c142_0_24) td142_24 K fuel σ := fun α K => funext fun x19 => funext fun x20 => funext fun x21 => funext fun x22 => funext fun x23 => funext fun x24 => funext fun x25 => funext fun x26 => funext fun x27 => funext fun x28 => t142_0_1 α K fuel x19 x20 x21 x22 x23 x24 x25 x26 x27 x28
noncomputable def c142_0_10g  : MCode := (.region r142_11 [] (tO [1, 12]))
noncomputable def c142_0_10 : MCode := c142_0_10g 
theorem g142_0_10 : c142_0_10.Good Tryz.prog E142_0 sh142 := trivial
--CODE 10 0
abbrev TJ142_0_0 : Type 1 := (α : Type) → Rows → Rows → Rows → (Bool → Option α) → Option α
def J142_0_0g  (α : Type) (x11 x12 x13 : Rows) (k1 : Bool → Option α) : Option α :=
 cK (((List.length x11 : Nat) : Int) == 0)
 (k1 true)
 (cK (((List.length x12 : Nat) : Int) != ((List.length x11 : Nat) : Int))
 (k1 true)
 (k1 (((List.length x13 : Nat) : Int) != ((List.length x11 : Nat) : Int))))
noncomputable def J142_0_0 (α : Type) (x11 x12 x13 : Rows) (k1 : Bool → Option α) : Option α := J142_0_0g  α x11 x12 x13 k1
def F142_0_0 (v : TJ142_0_0) (α : Type) (K : Exit → St → Option α) : Bool → ByteArray → Int → Rows → Rows → Rows → Int → Int → Option α := fun x8 x9 x10 x11 x12 x13 x14 x15 => v α x11 x12 x13 (fun (y1 : Bool) => u142_0_1 (K .normal) y1 x9 x10 x11 x12 x13 x14 x15) 
theorem m142_0_0g (vf159_0 : Tf159_0)  (α : Type) (K : Exit → St → Option α) : F142_0_0 (J142_0_0g ) α K = p142_0_0.unc fun σ => runM Tryz.prog (E142_0g vf159_0) sh142 (c142_0_10g ) K σ := by kernel_rfl
theorem m142_0_0 : ∀ (α : Type) (K : Exit → St → Option α), F142_0_0 J142_0_0 α K = p142_0_0.unc fun σ => runM Tryz.prog E142_0 sh142 c142_0_10 K σ := m142_0_0g f159_0
abbrev Tf142_0 : Type 1 := (α : Type) → ByteArray → Int → Rows → Rows → Rows → Int → Int → (Int → Int → Option α) → Option α
def f142_0g (vJ142_0_0 : TJ142_0_0) (vL142_0_1 : TL142_0_1) (α : Type) (x1 : ByteArray) (x2 : Int) (x3 x4 x5 : Rows) (x6 x7 : Int) (k1 : Int → Int → Option α) : Option α :=
 cK (!((x6 == 0) && ((x7 == 0) && true)))
 (k1 0 13)
 (vJ142_0_0 α x3 x4 x5
 (fun x17 => cK x17
 (k1 0 12)
 (cK (decide (64 < ((List.length x3 : Nat) : Int)))
 (k1 0 8)
 (vL142_0_1 α x3 ((List.length x3 : Nat) : Int) x3 x4 x5
 (fun x35 x36 => k1 x35 x36)
 (fun x37 x38 => k1 0 0) 0))))
noncomputable def f142_0 (α : Type) (x1 : ByteArray) (x2 : Int) (x3 x4 x5 : Rows) (x6 x7 : Int) (k1 : Int → Int → Option α) : Option α := f142_0g J142_0_0 L142_0_1 α x1 x2 x3 x4 x5 x6 x7 k1
def pa142_0 : PT (List DV) := pA [pV true [dS, (dI .i64), dL, dL, dL, (dI .i64), (dI .i64)]]
def Fn142_0 (v : Tf142_0) (α : Type) (k : List RV → Option α) : ByteArray → Int → Rows → Rows → Rows → Int → Int → Option α := fun x1 x2 x3 x4 x5 x6 x7 => v α x1 x2 x3 x4 x5 x6 x7 (fun (y1 : Int) (y2 : Int) => ur142_0_0 k y1 y2)
noncomputable def cm142_0g (vJ142_0_0 : TJ142_0_0) (vL142_0_1 : TL142_0_1) : MCode := (.seq (.region r142_2 [] (tO [1])) (.seq (.block 0 (.seq (.region r142_6 [] (tO [1, 7])) (.cond (.tmp 7) (.seq (.region r142_9 [] (tO [2, 3])) .ret) (.seq (.mark [⟨p142_0_0, F142_0_0 vJ142_0_0⟩] c142_0_10) (.cond (.tmp 12) (.seq (.region r142_14 [] (tO [2, 3])) .ret) (.seq (.region r142_16 [] (tO [1, 35])) (.cond (.tmp 35) (.seq (.region r142_19 [] (tO [2, 3])) .ret) .skip))))))) (.seq (.seq (.region r142_22 [] (tO [1, 41, 42, 43])) (.block 1 (.loop td142_24 [⟨p142_0_2, F142_0_1 vL142_0_1⟩] c142_0_24))) (.seq (.region r142_48 [] (tO [2, 3])) .ret))))
noncomputable def cm142_0 : MCode := cm142_0g J142_0_0 L142_0_1
theorem gm142_0 : cm142_0.Good Tryz.prog E142_0 sh142 := ⟨trivial, ⟨⟨trivial, ⟨⟨trivial, trivial⟩, ⟨⟨g142_0_10, m142_0_0, trivial⟩, ⟨⟨trivial, trivial⟩, ⟨trivial, ⟨⟨trivial, trivial⟩, trivial⟩⟩⟩⟩⟩⟩, ⟨⟨trivial, ⟨g142_0_24, m142_0_1, trivial⟩⟩, ⟨trivial, trivial⟩⟩⟩⟩
theorem fm142_0g (vf159_0 : Tf159_0) (vJ142_0_0 : TJ142_0_0) (vL142_0_1 : TL142_0_1) (α : Type) (k : List RV → Option α) : Fn142_0 (f142_0g vJ142_0_0 vL142_0_1) α k = pa142_0.unc fun ds => fnM Tryz.prog (E142_0g vf159_0) sh142 (cm142_0g vJ142_0_0 vL142_0_1) rs142 k ds := by kernel_rfl
theorem fm142_0 : ∀ (α : Type) (k : List RV → Option α), Fn142_0 f142_0 α k = pa142_0.unc fun ds => fnM Tryz.prog E142_0 sh142 cm142_0 rs142 k ds := fm142_0g f159_0 J142_0_0 L142_0_1
theorem is142 : FnIs Tryz.prog 142 nt142 tr142 tl142 cm142_0.erase rs142 := ⟨Tryz.f142, Tryz.func142, rfl, by kernel_rfl, by kernel_rfl, by kernel_rfl⟩
theorem io142_0 : InstOk Tryz.prog 142 nt142 ⟨pa142_0, Fn142_0 f142_0⟩ := inst_ok eo142_0 followsTry is142 ⟨⟨sh142, cm142_0, by kernel_rfl, gm142_0, fm142_0⟩⟩
abbrev nt113 : Nat := 39
def sh113 : List (Nat × List Sh) := [(6, [.str]), (11, [.int .i64]), (13, [.str, .int .i64, .sl, .sl, .sl, .int .i64, .int .i64]), (19, [.int .i64]), (23, [.sl]), (26, [.sl]), (30, [.sl]), (36, [.int .i64, .int .i64])]
def r113_2 : List AOper := [oO 1 (.box (.tmp 0)), oO 2 (.mv (kI 0)), oO 3 (.mv (kI 0))]
def r113_6 : List AOper := [oO 5 (.faddr 0 (.tmp 1)), oO 6 (.load false 1 (.tmp 5)), oO 7 (.call 141 [(.tmp 6)]), oO 8 (.pure (oB (.unOp .not 4 (.tmp 7)) 4)), oM 4 8]
def r113_9 : List AOper := [oO 2 (.mv (kI 0)), oO 3 (.mv (kI 3))]
def r113_11 : List AOper := [oO 10 (.faddr 1 (.tmp 1)), oO 11 (.load false 1 (.tmp 10)), oO 12 (.bin .eql 3 (.tmp 11) (kI 1)), oM 9 12]
def r113_14 : List AOper := [oO 13 (.load true 7 (.tmp 1)), oO 14 (.call 142 [(.tmp 13)]), oO 15 (.extract 0 (.tmp 14)), oO 16 (.extract 1 (.tmp 14)), oM 2 15, oM 3 16]
def r113_16 : List AOper := [oO 18 (.faddr 1 (.tmp 1)), oO 19 (.load false 1 (.tmp 18)), oO 20 (.bin .neq 3 (.tmp 19) (kI 2)), oM 17 20]
def r113_19 : List AOper := [oO 2 (.mv (kI 0)), oO 3 (.mv (kI 11))]
def r113_21 : List AOper := [oO 22 (.faddr 2 (.tmp 1)), oO 23 (.load false 1 (.tmp 22)), oO 24 (.len (.tmp 23)), oO 25 (.faddr 3 (.tmp 1)), oO 26 (.load false 1 (.tmp 25)), oO 27 (.len (.tmp 26)), oO 28 (.bin .add 3 (.tmp 24) (.tmp 27)), oO 29 (.faddr 4 (.tmp 1)), oO 30 (.load false 1 (.tmp 29)), oO 31 (.len (.tmp 30)), oO 32 (.bin .add 3 (.tmp 28) (.tmp 31)), oO 33 (.bin .gtr 3 (.tmp 32) (kI 0)), oM 21 33]
def r113_24 : List AOper := [oO 2 (.mv (kI 0)), oO 3 (.mv (kI 13))]
def r113_26 : List AOper := [oO 35 (.faddr 5 (.tmp 1)), oO 36 (.load true 2 (.tmp 35)), oO 37 (.call 143 [(.tmp 36)]), oO 38 (.pure (oB (.unOp .not 4 (.tmp 37)) 4)), oM 34 38]
def r113_29 : List AOper := [oO 2 (.mv (kI 0)), oO 3 (.mv (kI 2))]
def r113_31 : List AOper := [oO 2 (.mv (kI 0)), oO 3 (.mv (kI 0))]
def tr113 : List (Nat × Tidy) := [tT 0 [1], tT 1 [1, 4], tT 2 [2, 3], tT 3 [1, 9], tT 4 [2, 3], tT 5 [1, 17], tT 6 [2, 3], tT 7 [1, 21], tT 8 [2, 3], tT 9 [34], tT 10 [2, 3], tT 11 [2, 3]]
def tl113 : List (Nat × Tidy) := []
def rs113 : List AResV := [.tmp 2, .tmp 3]
def pr113_0_0 : PT (List RV) := pRs [pR false [rD (dI .i64)], pR false [rD (dI .i64)]]
def ur113_0_0 {β : Type} (g : List RV → β) : Int → Int → β := pr113_0_0.unc g
def E113_0g (vf141_0 : Tf141_0) (vf142_0 : Tf142_0) (vf143_0 : Tf143_0) : EnvK := EnvK.of [⟨141, nt141, [⟨pa141_0, Fn141_0 vf141_0⟩]⟩, ⟨142, nt142, [⟨pa142_0, Fn142_0 vf142_0⟩]⟩, ⟨143, nt143, [⟨pa143_0, Fn143_0 vf143_0⟩]⟩] noSeq
noncomputable def E113_0 : EnvK := E113_0g f141_0 f142_0 f143_0
theorem eo113_0 : E113_0.Ok Tryz.prog := EnvK.of_ok noSeq_ok ⟨⟨io141_0, trivial⟩, ⟨io142_0, trivial⟩, ⟨io143_0, trivial⟩, trivial⟩
abbrev Tf113_0 : Type 1 := (α : Type) → ByteArray → Int → Rows → Rows → Rows → Int → Int → (Int → Int → Option α) → Option α
def f113_0g (vf141_0 : Tf141_0) (vf142_0 : Tf142_0) (vf143_0 : Tf143_0) (α : Type) (x1 : ByteArray) (x2 : Int) (x3 x4 x5 : Rows) (x6 x7 : Int) (k1 : Int → Int → Option α) : Option α :=
 vf141_0 α x1
 (fun x8 => cK (!x8)
 (k1 0 3)
 (cK (x2 == 1)
 (vf142_0 α x1 x2 x3 x4 x5 x6 x7
 (fun x9 x10 => k1 x9 x10))
 (cK (x2 != 2)
 (k1 0 11)
 (cK (decide (0 < (w64 ((w64 (((List.length x3 : Nat) : Int) + ((List.length x4 : Nat) : Int))) + ((List.length x5 : Nat) : Int)))))
 (k1 0 13)
 (vf143_0 α x6 x7
 (fun x11 => cK (!x11)
 (k1 0 2)
 (k1 0 0)))))))
noncomputable def f113_0 (α : Type) (x1 : ByteArray) (x2 : Int) (x3 x4 x5 : Rows) (x6 x7 : Int) (k1 : Int → Int → Option α) : Option α := f113_0g f141_0 f142_0 f143_0 α x1 x2 x3 x4 x5 x6 x7 k1
def pa113_0 : PT (List DV) := pA [pV true [dS, (dI .i64), dL, dL, dL, (dI .i64), (dI .i64)]]
def Fn113_0 (v : Tf113_0) (α : Type) (k : List RV → Option α) : ByteArray → Int → Rows → Rows → Rows → Int → Int → Option α := fun x1 x2 x3 x4 x5 x6 x7 => v α x1 x2 x3 x4 x5 x6 x7 (fun (y1 : Int) (y2 : Int) => ur113_0_0 k y1 y2)
noncomputable def cm113_0g  : MCode := (.seq (.region r113_2 [] (tO [1])) (.seq (.block 0 (.seq (.region r113_6 [] (tO [1, 4])) (.cond (.tmp 4) (.seq (.region r113_9 [] (tO [2, 3])) .ret) (.seq (.region r113_11 [] (tO [1, 9])) (.cond (.tmp 9) (.seq (.region r113_14 [] (tO [2, 3])) .ret) (.seq (.region r113_16 [] (tO [1, 17])) (.cond (.tmp 17) (.seq (.region r113_19 [] (tO [2, 3])) .ret) (.seq (.region r113_21 [] (tO [1, 21])) (.cond (.tmp 21) (.seq (.region r113_24 [] (tO [2, 3])) .ret) (.seq (.region r113_26 [] (tO [34])) (.cond (.tmp 34) (.seq (.region r113_29 [] (tO [2, 3])) .ret) .skip))))))))))) (.seq (.region r113_31 [] (tO [2, 3])) .ret)))
noncomputable def cm113_0 : MCode := cm113_0g 
theorem gm113_0 : cm113_0.Good Tryz.prog E113_0 sh113 := ⟨trivial, ⟨⟨trivial, ⟨⟨trivial, trivial⟩, ⟨trivial, ⟨⟨trivial, trivial⟩, ⟨trivial, ⟨⟨trivial, trivial⟩, ⟨trivial, ⟨⟨trivial, trivial⟩, ⟨trivial, ⟨⟨trivial, trivial⟩, trivial⟩⟩⟩⟩⟩⟩⟩⟩⟩⟩, ⟨trivial, trivial⟩⟩⟩
theorem fm113_0g (vf141_0 : Tf141_0) (vf142_0 : Tf142_0) (vf143_0 : Tf143_0)  (α : Type) (k : List RV → Option α) : Fn113_0 (f113_0g vf141_0 vf142_0 vf143_0) α k = pa113_0.unc fun ds => fnM Tryz.prog (E113_0g vf141_0 vf142_0 vf143_0) sh113 (cm113_0g ) rs113 k ds := by kernel_rfl
theorem fm113_0 : ∀ (α : Type) (k : List RV → Option α), Fn113_0 f113_0 α k = pa113_0.unc fun ds => fnM Tryz.prog E113_0 sh113 cm113_0 rs113 k ds := fm113_0g f141_0 f142_0 f143_0
theorem is113 : FnIs Tryz.prog 113 nt113 tr113 tl113 cm113_0.erase rs113 := ⟨Tryz.f113, Tryz.func113, rfl, by kernel_rfl, by kernel_rfl, by kernel_rfl⟩
theorem io113_0 : InstOk Tryz.prog 113 nt113 ⟨pa113_0, Fn113_0 f113_0⟩ := inst_ok eo113_0 followsTry is113 ⟨⟨sh113, cm113_0, by kernel_rfl, gm113_0, fm113_0⟩⟩
abbrev nt79 : Nat := 28
def sh79 : List (Nat × List Sh) := [(7, [.str, .int .i64, .sl, .sl, .sl, .int .i64, .int .i64]), (15, [.int .i64]), (17, [.str, .int .i64, .sl, .sl, .sl, .int .i64, .int .i64]), (22, [.int .i64]), (25, [.int .i64])]
def r79_2 : List AOper := [oO 1 (.box (.tmp 0)), oO 2 (.mv (.const .nilIface)), oO 3 (.mv (kI 0))]
def r79_5 : List AOper := [oO 7 (.load true 7 (.tmp 1)), oO 8 (.call 113 [(.tmp 7)]), oM 6 8, oO 9 (.extract 0 (.tmp 6)), oO 10 (.extract 1 (.tmp 6)), oM 4 9, oM 5 10]
def r79_7 : List AOper := [oM 11 5, oO 12 (.bin .neq 26 (.tmp 11) (kI 0))]
def r79_10 : List AOper := [oM 13 5, oO 2 (.mv (.const .nilIface)), oM 3 13]
def r79_13 : List AOper := [oO 14 (.faddr 1 (.tmp 1)), oO 15 (.load false 1 (.tmp 14)), oO 16 (.bin .eql 3 (.tmp 15) (kI 1))]
def r79_16 : List AOper := [oO 17 (.load true 7 (.tmp 1)), ⟨(some 18), (.build [(.d (.v (.string ⟨#[]⟩))), (cI 0), .nils, .nils, .nils, (cI 0), (cI 0)] [(0, 7, (.tmp 17))]), none⟩, oO 19 (.ifc 169 (.tmp 18)), oM 2 19, oO 3 (.mv (kI 0))]
def r79_18 : List AOper := [oO 20 (.faddr 5 (.tmp 1)), oO 21 (.iaddr 1 (some 2) (.tmp 20) (kI 0)), oO 22 (.load false 1 (.tmp 21)), oO 23 (.faddr 5 (.tmp 1)), oO 24 (.iaddr 1 (some 2) (.tmp 23) (kI 1)), oO 25 (.load false 1 (.tmp 24)), oO 26 (.build [(cI 0), (cI 0)] [(0, 1, (.tmp 22)), (1, 1, (.tmp 25))]), oO 27 (.ifc 171 (.tmp 26)), oM 2 27, oO 3 (.mv (kI 0))]
def tr79 : List (Nat × Tidy) := [tT 0 [1], tT 1 [1, 5], tT 2 [1, 5, 12], tT 3 [2, 3], tT 4 [1, 16], tT 5 [2, 3], tT 6 [2, 3]]
def tl79 : List (Nat × Tidy) := []
def rs79 : List AResV := [.tmp 2, .tmp 3]
def pr79_0_0 : PT (List RV) := pRs [pR false [rD dNIf], pR false [rD (dI .i64)]]
def ur79_0_0 {β : Type} (g : List RV → β) : Int → β := pr79_0_0.unc g
def pr79_0_1 : PT (List RV) := pRs [pR false [rD (dIf 169 true [dS, (dI .i64), dL, dL, dL, (dI .i64), (dI .i64)])], pR false [rD (dI .i64)]]
def ur79_0_1 {β : Type} (g : List RV → β) : ByteArray → Int → Rows → Rows → Rows → Int → Int → Int → β := pr79_0_1.unc g
def pr79_0_2 : PT (List RV) := pRs [pR false [rD (dIf 171 true [(dI .i64), (dI .i64)])], pR false [rD (dI .i64)]]
def ur79_0_2 {β : Type} (g : List RV → β) : Int → Int → Int → β := pr79_0_2.unc g
def E79_0g (vf113_0 : Tf113_0) : EnvK := EnvK.of [⟨113, nt113, [⟨pa113_0, Fn113_0 vf113_0⟩]⟩] noSeq
noncomputable def E79_0 : EnvK := E79_0g f113_0
theorem eo79_0 : E79_0.Ok Tryz.prog := EnvK.of_ok noSeq_ok ⟨⟨io113_0, trivial⟩, trivial⟩
abbrev Tf79_0 : Type 1 := (α : Type) → ByteArray → Int → Rows → Rows → Rows → Int → Int → (Int → Option α) → (ByteArray → Int → Rows → Rows → Rows → Int → Int → Option α) → (Int → Int → Option α) → Option α
def f79_0g (vf113_0 : Tf113_0) (α : Type) (x1 : ByteArray) (x2 : Int) (x3 x4 x5 : Rows) (x6 x7 : Int) (k1 : Int → Option α) (k2 : ByteArray → Int → Rows → Rows → Rows → Int → Int → Option α) (k3 : Int → Int → Option α) : Option α :=
 vf113_0 α x1 x2 x3 x4 x5 x6 x7
 (fun x8 x9 => cK (x9 != 0)
 (k1 x9)
 (cK (x2 == 1)
 (k2 x1 x2 x3 x4 x5 x6 x7)
 (k3 x6 x7)))
noncomputable def f79_0 (α : Type) (x1 : ByteArray) (x2 : Int) (x3 x4 x5 : Rows) (x6 x7 : Int) (k1 : Int → Option α) (k2 : ByteArray → Int → Rows → Rows → Rows → Int → Int → Option α) (k3 : Int → Int → Option α) : Option α := f79_0g f113_0 α x1 x2 x3 x4 x5 x6 x7 k1 k2 k3
def pa79_0 : PT (List DV) := pA [pV true [dS, (dI .i64), dL, dL, dL, (dI .i64), (dI .i64)]]
def Fn79_0 (v : Tf79_0) (α : Type) (k : List RV → Option α) : ByteArray → Int → Rows → Rows → Rows → Int → Int → Option α := fun x1 x2 x3 x4 x5 x6 x7 => v α x1 x2 x3 x4 x5 x6 x7 (fun (y1 : Int) => ur79_0_0 k y1) (fun (y1 : ByteArray) (y2 : Int) (y3 : Rows) (y4 : Rows) (y5 : Rows) (y6 : Int) (y7 : Int) => ur79_0_1 k y1 y2 y3 y4 y5 y6 y7 0) (fun (y1 : Int) (y2 : Int) => ur79_0_2 k y1 y2 0)
noncomputable def cm79_0g  : MCode := (.seq (.region r79_2 [] (tO [1])) (.seq (.seq (.region r79_5 [] (tO [1, 5])) (.seq (.region r79_7 [] (tO [1, 5, 12])) (.cond (.tmp 12) (.seq (.region r79_10 [] (tO [2, 3])) .ret) .skip))) (.seq (.seq (.region r79_13 [] (tO [1, 16])) (.cond (.tmp 16) (.seq (.region r79_16 [] (tO [2, 3])) .ret) .skip)) (.seq (.region r79_18 [] (tO [2, 3])) .ret))))
noncomputable def cm79_0 : MCode := cm79_0g 
theorem gm79_0 : cm79_0.Good Tryz.prog E79_0 sh79 := ⟨trivial, ⟨⟨trivial, ⟨trivial, ⟨⟨trivial, trivial⟩, trivial⟩⟩⟩, ⟨⟨trivial, ⟨⟨trivial, trivial⟩, trivial⟩⟩, ⟨trivial, trivial⟩⟩⟩⟩
theorem fm79_0g (vf113_0 : Tf113_0)  (α : Type) (k : List RV → Option α) : Fn79_0 (f79_0g vf113_0) α k = pa79_0.unc fun ds => fnM Tryz.prog (E79_0g vf113_0) sh79 (cm79_0g ) rs79 k ds := by kernel_rfl
theorem fm79_0 : ∀ (α : Type) (k : List RV → Option α), Fn79_0 f79_0 α k = pa79_0.unc fun ds => fnM Tryz.prog E79_0 sh79 cm79_0 rs79 k ds := fm79_0g f113_0
theorem is79 : FnIs Tryz.prog 79 nt79 tr79 tl79 cm79_0.erase rs79 := ⟨Tryz.f79, Tryz.func79, rfl, by kernel_rfl, by kernel_rfl, by kernel_rfl⟩
theorem io79_0 : InstOk Tryz.prog 79 nt79 ⟨pa79_0, Fn79_0 f79_0⟩ := inst_ok eo79_0 followsTry is79 ⟨⟨sh79, cm79_0, by kernel_rfl, gm79_0, fm79_0⟩⟩
abbrev nt30 : Nat := 54
def sh30 : List (Nat × List Sh) := [(9, [.str, .int .i64, .sl, .sl, .sl, .int .i64, .int .i64]), (20, [.int .i64]), (25, [.int .i64]), (32, [.int .i64]), (34, [.int .i64]), (40, [.int .i64]), (46, [.int .i64]), (52, [.int .i64, .int .i64])]
def r30_2 : List AOper := [oO 2 (.box (.tmp 0)), oO 3 (.box (.tmp 1)), oO 4 (.alloc [(cI 0), (cI 0), (cI 0), (cI 0)]), oO 5 (.mv (kI 0))]
def r30_4 : List AOper := [oO 9 (.load true 7 (.tmp 2)), oO 10 (.call 79 [(.tmp 9)]), oM 8 10, oO 11 (.extract 0 (.tmp 8)), oO 12 (.extract 1 (.tmp 8)), oM 6 11, oM 7 12]
def r30_8 : List AOper := [oM 14 7, oO 15 (.bin .neq 26 (.tmp 14) (kI 0)), oM 13 15]
def r30_11 : List AOper := [oO 16 (.build [(cI 0), (cI 0), (cI 0), (cI 0)] []), oM 17 7, oD (.store 4 (.tmp 4) (.tmp 16)), oM 5 17]
def r30_13 : List AOper := [oO 19 (.faddr 0 (.tmp 3)), oO 20 (.load false 1 (.tmp 19)), oO 21 (.call 80 [(.tmp 20)]), oO 22 (.pure (oB (.unOp .not 4 (.tmp 21)) 4)), oM 23 22, oG 24 (.faddr 1 (.tmp 3)) 23 false, oG 25 (.load false 1 (.tmp 24)) 23 false, oG 26 (.call 80 [(.tmp 25)]) 23 false, oG 27 (.pure (oB (.unOp .not 4 (.tmp 26)) 4)) 23 false, oO 28 (.pick (.tmp 23) (.const (.bool true)) (.tmp 27)), oM 18 28]
def r30_16 : List AOper := [oO 29 (.build [(cI 0), (cI 0), (cI 0), (cI 0)] []), oD (.store 4 (.tmp 4) (.tmp 29)), oO 5 (.mv (kI 2))]
def r30_18 : List AOper := [oO 31 (.faddr 0 (.tmp 3)), oO 32 (.load false 1 (.tmp 31)), oO 33 (.faddr 1 (.tmp 3)), oO 34 (.load false 1 (.tmp 33)), oO 35 (.bin .gtr 3 (.tmp 32) (.tmp 34)), oM 30 35]
def r30_21 : List AOper := [oO 36 (.build [(cI 0), (cI 0), (cI 0), (cI 0)] []), oD (.store 4 (.tmp 4) (.tmp 36)), oO 5 (.mv (kI 10))]
def r30_23 : List AOper := [oM 38 6, oO 39 (.faddr 0 (.tmp 3)), oO 40 (.load false 1 (.tmp 39)), oO 41 (.inv "etalon/glass.covers" (.tmp 38) [(.tmp 40)]), oO 42 (.pure (oB (.unOp .not 4 (.tmp 41)) 4)), oM 43 42, oG 44 (.mv (.tmp 6)) 43 false, oG 45 (.faddr 1 (.tmp 3)) 43 false, oG 46 (.load false 1 (.tmp 45)) 43 false, oG 47 (.inv "etalon/glass.covers" (.tmp 44) [(.tmp 46)]) 43 false, oG 48 (.pure (oB (.unOp .not 4 (.tmp 47)) 4)) 43 false, oO 49 (.pick (.tmp 43) (.const (.bool true)) (.tmp 48)), oM 37 49]
def r30_26 : List AOper := [oO 50 (.build [(cI 0), (cI 0), (cI 0), (cI 0)] []), oD (.store 4 (.tmp 4) (.tmp 50)), oO 5 (.mv (kI 17))]
def r30_28 : List AOper := [oM 51 6, oO 52 (.load true 2 (.tmp 3)), oO 53 (.inv "etalon/glass.between" (.tmp 51) [(.tmp 52)]), oD (.store 4 (.tmp 4) (.tmp 53)), oO 5 (.mv (kI 0))]
def tr30 : List (Nat × Tidy) := [tT 0 [2, 3, 4], tT 1 [3, 4, 6, 7], tT 2 [3, 4, 6, 7, 13], tT 3 [4, 5], tT 4 [3, 4, 6, 18], tT 5 [4, 5], tT 6 [3, 4, 6, 30], tT 7 [4, 5], tT 8 [3, 4, 6, 37], tT 9 [4, 5], tT 10 [4, 5]]
def tl30 : List (Nat × Tidy) := []
def rs30 : List AResV := [.cell 4 true 4, .tmp 5]
def p30_0_0 : PT St := pS [sl 2 (aV false [(cPtr 2 0)]), sl 3 (aV false [(cPtr 3 0)]), sl 4 (aV false [(cPtr 4 0)])] [eBox 2 [(cD dS), (cD (dI .i64)), (cD dL), (cD dL), (cD dL), (cD (dI .i64)), (cD (dI .i64))], eBox 3 [(cD (dI .i64)), (cD (dI .i64))], eBox 4 [(cD (dI .i64)), (cD (dI .i64)), (cD (dI .i64)), (cD (dI .i64))]]
def u30_0_0 {β : Type} (g : St → β) : ByteArray → Int → Rows → Rows → Rows → Int → Int → Int → Int → Int → Int → Int → Int → β := p30_0_0.unc g
def p30_0_1 : PT St := pS [sl 3 (aV false [(cPtr 3 0)]), sl 4 (aV false [(cPtr 4 0)]), sl 6 (aV false [(cD dNIf)]), sl 7 (aV false [(cD (dI .i64))])] [eBox 3 [(cD (dI .i64)), (cD (dI .i64))], eBox 4 [(cD (dI .i64)), (cD (dI .i64)), (cD (dI .i64)), (cD (dI .i64))]]
def u30_0_1 {β : Type} (g : St → β) : Int → Int → Int → Int → Int → Int → Int → β := p30_0_1.unc g
def p30_0_2 : PT St := pS [sl 3 (aV false [(cPtr 3 0)]), sl 4 (aV false [(cPtr 4 0)]), sl 6 (aV false [(cD (dIf 169 true [dS, (dI .i64), dL, dL, dL, (dI .i64), (dI .i64)]))]), sl 7 (aV false [(cD (dI .i64))])] [eBox 3 [(cD (dI .i64)), (cD (dI .i64))], eBox 4 [(cD (dI .i64)), (cD (dI .i64)), (cD (dI .i64)), (cD (dI .i64))]]
def u30_0_2 {β : Type} (g : St → β) : ByteArray → Int → Rows → Rows → Rows → Int → Int → Int → Int → Int → Int → Int → Int → Int → β := p30_0_2.unc g
def p30_0_3 : PT St := pS [sl 3 (aV false [(cPtr 3 0)]), sl 4 (aV false [(cPtr 4 0)]), sl 6 (aV false [(cD (dIf 171 true [(dI .i64), (dI .i64)]))]), sl 7 (aV false [(cD (dI .i64))])] [eBox 3 [(cD (dI .i64)), (cD (dI .i64))], eBox 4 [(cD (dI .i64)), (cD (dI .i64)), (cD (dI .i64)), (cD (dI .i64))]]
def u30_0_3 {β : Type} (g : St → β) : Int → Int → Int → Int → Int → Int → Int → Int → Int → β := p30_0_3.unc g
def p30_0_4 : PT St := pS [sl 3 (aV false [(cPtr 3 0)]), sl 4 (aV false [(cPtr 4 0)]), sl 6 (aV false [(cD dNIf)]), sl 7 (aV false [(cD (dI .i64))]), sl 13 (aV false [(cD dB)])] [eBox 3 [(cD (dI .i64)), (cD (dI .i64))], eBox 4 [(cD (dI .i64)), (cD (dI .i64)), (cD (dI .i64)), (cD (dI .i64))]]
def u30_0_4 {β : Type} (g : St → β) : Int → Bool → Int → Int → Int → Int → Int → Int → β := p30_0_4.unc g
def p30_0_5 : PT St := pS [sl 3 (aV false [(cPtr 3 0)]), sl 4 (aV false [(cPtr 4 0)]), sl 6 (aV false [(cD dNIf)]), sl 18 (aV false [(cD dB)])] [eBox 3 [(cD (dI .i64)), (cD (dI .i64))], eBox 4 [(cD (dI .i64)), (cD (dI .i64)), (cD (dI .i64)), (cD (dI .i64))]]
def u30_0_5 {β : Type} (g : St → β) : Bool → Int → Int → Int → Int → Int → Int → β := p30_0_5.unc g
def p30_0_6 : PT St := pS [sl 3 (aV false [(cPtr 3 0)]), sl 4 (aV false [(cPtr 4 0)]), sl 6 (aV false [(cD (dIf 169 true [dS, (dI .i64), dL, dL, dL, (dI .i64), (dI .i64)]))]), sl 7 (aV false [(cD (dI .i64))]), sl 13 (aV false [(cD dB)])] [eBox 3 [(cD (dI .i64)), (cD (dI .i64))], eBox 4 [(cD (dI .i64)), (cD (dI .i64)), (cD (dI .i64)), (cD (dI .i64))]]
def u30_0_6 {β : Type} (g : St → β) : ByteArray → Int → Rows → Rows → Rows → Int → Int → Int → Bool → Int → Int → Int → Int → Int → Int → β := p30_0_6.unc g
def p30_0_7 : PT St := pS [sl 3 (aV false [(cPtr 3 0)]), sl 4 (aV false [(cPtr 4 0)]), sl 6 (aV false [(cD (dIf 169 true [dS, (dI .i64), dL, dL, dL, (dI .i64), (dI .i64)]))]), sl 18 (aV false [(cD dB)])] [eBox 3 [(cD (dI .i64)), (cD (dI .i64))], eBox 4 [(cD (dI .i64)), (cD (dI .i64)), (cD (dI .i64)), (cD (dI .i64))]]
def u30_0_7 {β : Type} (g : St → β) : ByteArray → Int → Rows → Rows → Rows → Int → Int → Bool → Int → Int → Int → Int → Int → Int → β := p30_0_7.unc g
def p30_0_8 : PT St := pS [sl 3 (aV false [(cPtr 3 0)]), sl 4 (aV false [(cPtr 4 0)]), sl 6 (aV false [(cD (dIf 171 true [(dI .i64), (dI .i64)]))]), sl 7 (aV false [(cD (dI .i64))]), sl 13 (aV false [(cD dB)])] [eBox 3 [(cD (dI .i64)), (cD (dI .i64))], eBox 4 [(cD (dI .i64)), (cD (dI .i64)), (cD (dI .i64)), (cD (dI .i64))]]
def u30_0_8 {β : Type} (g : St → β) : Int → Int → Int → Bool → Int → Int → Int → Int → Int → Int → β := p30_0_8.unc g
def p30_0_9 : PT St := pS [sl 3 (aV false [(cPtr 3 0)]), sl 4 (aV false [(cPtr 4 0)]), sl 6 (aV false [(cD (dIf 171 true [(dI .i64), (dI .i64)]))]), sl 18 (aV false [(cD dB)])] [eBox 3 [(cD (dI .i64)), (cD (dI .i64))], eBox 4 [(cD (dI .i64)), (cD (dI .i64)), (cD (dI .i64)), (cD (dI .i64))]]
def u30_0_9 {β : Type} (g : St → β) : Int → Int → Bool → Int → Int → Int → Int → Int → Int → β := p30_0_9.unc g
def pr30_0_0 : PT (List RV) := pRs [pR true [rD (dI .i64), rD (dI .i64), rD (dI .i64), rD (dI .i64)], pR false [rD (dI .i64)]]
def ur30_0_0 {β : Type} (g : List RV → β) : Int → Int → Int → Int → Int → β := pr30_0_0.unc g
def E30_0g (vf79_0 : Tf79_0) (vf80_0 : Tf80_0) (vf195_0 : Tf195_0) (vf194_0 : Tf194_0) (vf201_0 : Tf201_0) (vf200_0 : Tf200_0) : EnvK := EnvK.of [⟨79, nt79, [⟨pa79_0, Fn79_0 vf79_0⟩]⟩, ⟨80, nt80, [⟨pa80_0, Fn80_0 vf80_0⟩]⟩, ⟨195, nt195, [⟨pa195_0, Fn195_0 vf195_0⟩]⟩, ⟨194, nt194, [⟨pa194_0, Fn194_0 vf194_0⟩]⟩, ⟨201, nt201, [⟨pa201_0, Fn201_0 vf201_0⟩]⟩, ⟨200, nt200, [⟨pa200_0, Fn200_0 vf200_0⟩]⟩] noSeq
noncomputable def E30_0 : EnvK := E30_0g f79_0 f80_0 f195_0 f194_0 f201_0 f200_0
theorem eo30_0 : E30_0.Ok Tryz.prog := EnvK.of_ok noSeq_ok ⟨⟨io79_0, trivial⟩, ⟨io80_0, trivial⟩, ⟨io195_0, trivial⟩, ⟨io194_0, trivial⟩, ⟨io201_0, trivial⟩, ⟨io200_0, trivial⟩, trivial⟩
noncomputable def c30_0_12g  : MCode := (.region r30_13 [] (tO [3, 4, 6, 18]))
noncomputable def c30_0_12 : MCode := c30_0_12g 
theorem g30_0_12 : c30_0_12.Good Tryz.prog E30_0 sh30 := trivial
--CODE 12 0
abbrev TJ30_0_1 : Type 1 := (α : Type) → Int → Int → (Bool → Option α) → Option α
def J30_0_1g (vf80_0 : Tf80_0) (α : Type) (x47 x48 : Int) (k1 : Bool → Option α) : Option α :=
 vf80_0 α x47
 (fun x54 => cK (!x54)
 (k1 true)
 (vf80_0 α x48
 (fun x55 => k1 (!x55))))
noncomputable def J30_0_1 (α : Type) (x47 x48 : Int) (k1 : Bool → Option α) : Option α := J30_0_1g f80_0 α x47 x48 k1
def F30_0_1 (v : TJ30_0_1) (α : Type) (K : Exit → St → Option α) : Int → Bool → Int → Int → Int → Int → Int → Int → Option α := fun x45 x46 x47 x48 x49 x50 x51 x52 => v α x47 x48 (fun (y1 : Bool) => u30_0_5 (K .normal) y1 x47 x48 x49 x50 x51 x52) 
theorem m30_0_1g (vf79_0 : Tf79_0) (vf80_0 : Tf80_0) (vf195_0 : Tf195_0) (vf194_0 : Tf194_0) (vf201_0 : Tf201_0) (vf200_0 : Tf200_0)  (α : Type) (K : Exit → St → Option α) : F30_0_1 (J30_0_1g vf80_0) α K = p30_0_4.unc fun σ => runM Tryz.prog (E30_0g vf79_0 vf80_0 vf195_0 vf194_0 vf201_0 vf200_0) sh30 (c30_0_12g ) K σ := by kernel_rfl
theorem m30_0_1 : ∀ (α : Type) (K : Exit → St → Option α), F30_0_1 J30_0_1 α K = p30_0_4.unc fun σ => runM Tryz.prog E30_0 sh30 c30_0_12 K σ := m30_0_1g f79_0 f80_0 f195_0 f194_0 f201_0 f200_0
--CODE 12 0
abbrev TJ30_0_2 : Type 1 := (α : Type) → Int → Int → (Bool → Option α) → Option α
def J30_0_2g (vf80_0 : Tf80_0) (α : Type) (x67 x68 : Int) (k1 : Bool → Option α) : Option α :=
 vf80_0 α x67
 (fun x74 => cK (!x74)
 (k1 true)
 (vf80_0 α x68
 (fun x75 => k1 (!x75))))
noncomputable def J30_0_2 (α : Type) (x67 x68 : Int) (k1 : Bool → Option α) : Option α := J30_0_2g f80_0 α x67 x68 k1
def F30_0_2 (v : TJ30_0_2) (α : Type) (K : Exit → St → Option α) : ByteArray → Int → Rows → Rows → Rows → Int → Int → Int → Bool → Int → Int → Int → Int → Int → Int → Option α := fun x58 x59 x60 x61 x62 x63 x64 x65 x66 x67 x68 x69 x70 x71 x72 => v α x67 x68 (fun (y1 : Bool) => u30_0_7 (K .normal) x58 x59 x60 x61 x62 x63 x64 y1 x67 x68 x69 x70 x71 x72) 
theorem m30_0_2g (vf79_0 : Tf79_0) (vf80_0 : Tf80_0) (vf195_0 : Tf195_0) (vf194_0 : Tf194_0) (vf201_0 : Tf201_0) (vf200_0 : Tf200_0)  (α : Type) (K : Exit → St → Option α) : F30_0_2 (J30_0_2g vf80_0) α K = p30_0_6.unc fun σ => runM Tryz.prog (E30_0g vf79_0 vf80_0 vf195_0 vf194_0 vf201_0 vf200_0) sh30 (c30_0_12g ) K σ := by kernel_rfl
theorem m30_0_2 : ∀ (α : Type) (K : Exit → St → Option α), F30_0_2 J30_0_2 α K = p30_0_6.unc fun σ => runM Tryz.prog E30_0 sh30 c30_0_12 K σ := m30_0_2g f79_0 f80_0 f195_0 f194_0 f201_0 f200_0
--CODE 12 0
abbrev TJ30_0_3 : Type 1 := (α : Type) → Int → Int → (Bool → Option α) → Option α
def J30_0_3g (vf80_0 : Tf80_0) (α : Type) (x88 x89 : Int) (k1 : Bool → Option α) : Option α :=
 vf80_0 α x88
 (fun x95 => cK (!x95)
 (k1 true)
 (vf80_0 α x89
 (fun x96 => k1 (!x96))))
noncomputable def J30_0_3 (α : Type) (x88 x89 : Int) (k1 : Bool → Option α) : Option α := J30_0_3g f80_0 α x88 x89 k1
def F30_0_3 (v : TJ30_0_3) (α : Type) (K : Exit → St → Option α) : Int → Int → Int → Bool → Int → Int → Int → Int → Int → Int → Option α := fun x84 x85 x86 x87 x88 x89 x90 x91 x92 x93 => v α x88 x89 (fun (y1 : Bool) => u30_0_9 (K .normal) x84 x85 y1 x88 x89 x90 x91 x92 x93) 
theorem m30_0_3g (vf79_0 : Tf79_0) (vf80_0 : Tf80_0) (vf195_0 : Tf195_0) (vf194_0 : Tf194_0) (vf201_0 : Tf201_0) (vf200_0 : Tf200_0)  (α : Type) (K : Exit → St → Option α) : F30_0_3 (J30_0_3g vf80_0) α K = p30_0_8.unc fun σ => runM Tryz.prog (E30_0g vf79_0 vf80_0 vf195_0 vf194_0 vf201_0 vf200_0) sh30 (c30_0_12g ) K σ := by kernel_rfl
theorem m30_0_3 : ∀ (α : Type) (K : Exit → St → Option α), F30_0_3 J30_0_3 α K = p30_0_8.unc fun σ => runM Tryz.prog E30_0 sh30 c30_0_12 K σ := m30_0_3g f79_0 f80_0 f195_0 f194_0 f201_0 f200_0
noncomputable def c30_0_3g  : MCode := (.region r30_4 [] (tO [3, 4, 6, 7]))
noncomputable def c30_0_3 : MCode := c30_0_3g 
theorem g30_0_3 : c30_0_3.Good Tryz.prog E30_0 sh30 := trivial
--CODE 3 0
abbrev TJ30_0_0 : Type 1 := (α : Type) → ByteArray → Int → Rows → Rows → Rows → Int → Int → (Int → Option α) → (ByteArray → Int → Rows → Rows → Rows → Int → Int → Option α) → (Int → Int → Option α) → Option α
def J30_0_0g (vf79_0 : Tf79_0) (α : Type) (x10 : ByteArray) (x11 : Int) (x12 x13 x14 : Rows) (x15 x16 : Int) (k1 : Int → Option α) (k2 : ByteArray → Int → Rows → Rows → Rows → Int → Int → Option α) (k3 : Int → Int → Option α) : Option α :=
 vf79_0 α x10 x11 x12 x13 x14 x15 x16
 (fun x24 => k1 x24)
 (fun x25 x26 x27 x28 x29 x30 x31 => k2 x25 x26 x27 x28 x29 x30 x31)
 (fun x32 x33 => k3 x32 x33)
noncomputable def J30_0_0 (α : Type) (x10 : ByteArray) (x11 : Int) (x12 x13 x14 : Rows) (x15 x16 : Int) (k1 : Int → Option α) (k2 : ByteArray → Int → Rows → Rows → Rows → Int → Int → Option α) (k3 : Int → Int → Option α) : Option α := J30_0_0g f79_0 α x10 x11 x12 x13 x14 x15 x16 k1 k2 k3
def F30_0_0 (v : TJ30_0_0) (α : Type) (K : Exit → St → Option α) : ByteArray → Int → Rows → Rows → Rows → Int → Int → Int → Int → Int → Int → Int → Int → Option α := fun x10 x11 x12 x13 x14 x15 x16 x17 x18 x19 x20 x21 x22 => v α x10 x11 x12 x13 x14 x15 x16 (fun (y1 : Int) => u30_0_1 (K .normal) y1 x17 x18 x19 x20 x21 x22) (fun (y1 : ByteArray) (y2 : Int) (y3 : Rows) (y4 : Rows) (y5 : Rows) (y6 : Int) (y7 : Int) => u30_0_2 (K .normal) y1 y2 y3 y4 y5 y6 y7 0 x17 x18 x19 x20 x21 x22) (fun (y1 : Int) (y2 : Int) => u30_0_3 (K .normal) y1 y2 0 x17 x18 x19 x20 x21 x22) 
theorem m30_0_0g (vf79_0 : Tf79_0) (vf80_0 : Tf80_0) (vf195_0 : Tf195_0) (vf194_0 : Tf194_0) (vf201_0 : Tf201_0) (vf200_0 : Tf200_0)  (α : Type) (K : Exit → St → Option α) : F30_0_0 (J30_0_0g vf79_0) α K = p30_0_0.unc fun σ => runM Tryz.prog (E30_0g vf79_0 vf80_0 vf195_0 vf194_0 vf201_0 vf200_0) sh30 (c30_0_3g ) K σ := by kernel_rfl
theorem m30_0_0 : ∀ (α : Type) (K : Exit → St → Option α), F30_0_0 J30_0_0 α K = p30_0_0.unc fun σ => runM Tryz.prog E30_0 sh30 c30_0_3 K σ := m30_0_0g f79_0 f80_0 f195_0 f194_0 f201_0 f200_0
abbrev Tf30_0 : Type 1 := (α : Type) → ByteArray → Int → Rows → Rows → Rows → Int → Int → Int → Int → (Int → Int → Int → Int → Int → Option α) → Option α
def f30_0g (vJ30_0_0 : TJ30_0_0) (vJ30_0_1 : TJ30_0_1) (vJ30_0_2 : TJ30_0_2) (vJ30_0_3 : TJ30_0_3) (vf194_0 : Tf194_0) (vf195_0 : Tf195_0) (vf200_0 : Tf200_0) (vf201_0 : Tf201_0) (α : Type) (x1 : ByteArray) (x2 : Int) (x3 x4 x5 : Rows) (x6 x7 x8 x9 : Int) (k1 : Int → Int → Int → Int → Int → Option α) : Option α :=
 vJ30_0_0 α x1 x2 x3 x4 x5 x6 x7
 (fun x34 => cK (x34 != 0)
 (k1 0 0 0 0 x34)
 (vJ30_0_1 α x8 x9
 (fun x56 => cK x56
 (k1 0 0 0 0 2)
 (cK (decide (x9 < x8))
 (k1 0 0 0 0 10)
 (none)))))
 (fun x35 x36 x37 x38 x39 x40 x41 => vJ30_0_2 α x8 x9
 (fun x76 => cK x76
 (k1 0 0 0 0 2)
 (cK (decide (x9 < x8))
 (k1 0 0 0 0 10)
 (vf195_0 α x35 x36 x37 x38 x39 x40 x41 x8
 (fun x78 => cK (!x78)
 (k1 0 0 0 0 17)
 (vf195_0 α x35 x36 x37 x38 x39 x40 x41 x9
 (fun x79 => cK (!x79)
 (k1 0 0 0 0 17)
 (vf194_0 α x35 x36 x37 x38 x39 x40 x41 x8 x9
 (fun x80 x81 x82 x83 => k1 x80 x81 x82 x83 0)))))))))
 (fun x42 x43 => vJ30_0_3 α x8 x9
 (fun x97 => cK x97
 (k1 0 0 0 0 2)
 (cK (decide (x9 < x8))
 (k1 0 0 0 0 10)
 (vf201_0 α x42 x43 x8
 (vf201_0 α x42 x43 x9
 (vf200_0 α x42 x43 x8 x9
 (fun x99 x100 => k1 x99 x100 0 0 0)))))))
noncomputable def f30_0 (α : Type) (x1 : ByteArray) (x2 : Int) (x3 x4 x5 : Rows) (x6 x7 x8 x9 : Int) (k1 : Int → Int → Int → Int → Int → Option α) : Option α := f30_0g J30_0_0 J30_0_1 J30_0_2 J30_0_3 f194_0 f195_0 f200_0 f201_0 α x1 x2 x3 x4 x5 x6 x7 x8 x9 k1
def pa30_0 : PT (List DV) := pA [pV true [dS, (dI .i64), dL, dL, dL, (dI .i64), (dI .i64)], pV true [(dI .i64), (dI .i64)]]
def Fn30_0 (v : Tf30_0) (α : Type) (k : List RV → Option α) : ByteArray → Int → Rows → Rows → Rows → Int → Int → Int → Int → Option α := fun x1 x2 x3 x4 x5 x6 x7 x8 x9 => v α x1 x2 x3 x4 x5 x6 x7 x8 x9 (fun (y1 : Int) (y2 : Int) (y3 : Int) (y4 : Int) (y5 : Int) => ur30_0_0 k y1 y2 y3 y4 y5)
noncomputable def cm30_0g (vJ30_0_0 : TJ30_0_0) (vJ30_0_1 : TJ30_0_1) (vJ30_0_2 : TJ30_0_2) (vJ30_0_3 : TJ30_0_3) : MCode := (.seq (.region r30_2 [] (tO [2, 3, 4])) (.seq (.mark [⟨p30_0_0, F30_0_0 vJ30_0_0⟩] c30_0_3) (.seq (.block 0 (.seq (.region r30_8 [] (tO [3, 4, 6, 7, 13])) (.cond (.tmp 13) (.seq (.region r30_11 [] (tO [4, 5])) .ret) (.seq (.mark [⟨p30_0_4, F30_0_1 vJ30_0_1⟩, ⟨p30_0_6, F30_0_2 vJ30_0_2⟩, ⟨p30_0_8, F30_0_3 vJ30_0_3⟩] c30_0_12) (.cond (.tmp 18) (.seq (.region r30_16 [] (tO [4, 5])) .ret) (.seq (.region r30_18 [] (tO [3, 4, 6, 30])) (.cond (.tmp 30) (.seq (.region r30_21 [] (tO [4, 5])) .ret) (.seq (.region r30_23 [] (tO [3, 4, 6, 37])) (.cond (.tmp 37) (.seq (.region r30_26 [] (tO [4, 5])) .ret) .skip))))))))) (.seq (.region r30_28 [] (tO [4, 5])) .ret))))
noncomputable def cm30_0 : MCode := cm30_0g J30_0_0 J30_0_1 J30_0_2 J30_0_3
theorem gm30_0 : cm30_0.Good Tryz.prog E30_0 sh30 := ⟨trivial, ⟨⟨g30_0_3, m30_0_0, trivial⟩, ⟨⟨trivial, ⟨⟨trivial, trivial⟩, ⟨⟨g30_0_12, m30_0_1, m30_0_2, m30_0_3, trivial⟩, ⟨⟨trivial, trivial⟩, ⟨trivial, ⟨⟨trivial, trivial⟩, ⟨trivial, ⟨⟨trivial, trivial⟩, trivial⟩⟩⟩⟩⟩⟩⟩⟩, ⟨trivial, trivial⟩⟩⟩⟩
theorem fm30_0g (vf79_0 : Tf79_0) (vf80_0 : Tf80_0) (vf195_0 : Tf195_0) (vf194_0 : Tf194_0) (vf201_0 : Tf201_0) (vf200_0 : Tf200_0) (vJ30_0_0 : TJ30_0_0) (vJ30_0_1 : TJ30_0_1) (vJ30_0_2 : TJ30_0_2) (vJ30_0_3 : TJ30_0_3) (α : Type) (k : List RV → Option α) : Fn30_0 (f30_0g vJ30_0_0 vJ30_0_1 vJ30_0_2 vJ30_0_3 vf194_0 vf195_0 vf200_0 vf201_0) α k = pa30_0.unc fun ds => fnM Tryz.prog (E30_0g vf79_0 vf80_0 vf195_0 vf194_0 vf201_0 vf200_0) sh30 (cm30_0g vJ30_0_0 vJ30_0_1 vJ30_0_2 vJ30_0_3) rs30 k ds := by kernel_rfl
theorem fm30_0 : ∀ (α : Type) (k : List RV → Option α), Fn30_0 f30_0 α k = pa30_0.unc fun ds => fnM Tryz.prog E30_0 sh30 cm30_0 rs30 k ds := fm30_0g f79_0 f80_0 f195_0 f194_0 f201_0 f200_0 J30_0_0 J30_0_1 J30_0_2 J30_0_3
theorem is30 : FnIs Tryz.prog 30 nt30 tr30 tl30 cm30_0.erase rs30 := ⟨Tryz.f30, Tryz.func30, rfl, by kernel_rfl, by kernel_rfl, by kernel_rfl⟩
theorem io30_0 : InstOk Tryz.prog 30 nt30 ⟨pa30_0, Fn30_0 f30_0⟩ := inst_ok eo30_0 followsTry is30 ⟨⟨sh30, cm30_0, by kernel_rfl, gm30_0, fm30_0⟩⟩
abbrev nt6 : Nat := 43
def sh6 : List (Nat × List Sh) := [(12, [.str, .int .i64, .sl, .sl, .sl, .int .i64, .int .i64]), (16, [.str, .int .i64, .sl, .sl, .sl, .int .i64, .int .i64]), (18, [.int .i64, .int .i64]), (23, [.str, .int .i64, .sl, .sl, .sl, .int .i64, .int .i64]), (30, [.str, .int .i64, .sl, .sl, .sl, .int .i64, .int .i64]), (31, [.int .i64, .int .i64]), (39, [.int .i64, .int .i64, .int .i64, .int .i64]), (40, [.int .i64, .int .i64, .int .i64, .int .i64])]
def r6_2 : List AOper := [oO 2 (.box (.tmp 0)), oO 3 (.box (.tmp 1)), oO 4 (.mv (.const (.bool false)))]
def r6_5 : List AOper := [oO 10 (.call 9 []), oO 11 (.pure (oB (.unOp .not 4 (.tmp 10)) 4))]
def r6_8 : List AOper := [oO 4 (.mv (.const (.bool false)))]
def r6_11 : List AOper := [oO 12 (.load true 7 (.tmp 2)), oO 13 (.call 16 [(.tmp 12)]), oO 14 (.pure (oB (.unOp .not 4 (.tmp 13)) 4))]
def r6_14 : List AOper := [oO 4 (.mv (.const (.bool true)))]
def r6_16 : List AOper := [oO 16 (.load true 7 (.tmp 2)), oO 17 (.call 18 [(.tmp 16)]), oO 18 (.load true 2 (.tmp 3)), oO 19 (.call 30 [(.tmp 17), (.tmp 18)]), oM 15 19, oO 20 (.extract 0 (.tmp 15)), oO 21 (.extract 1 (.tmp 15)), oO 5 (.alloc [(cI 0), (cI 0), (cI 0), (cI 0)]), oD (.store 4 (.tmp 5) (.tmp 20)), oM 6 21]
def r6_18 : List AOper := [oO 23 (.load true 7 (.tmp 2)), oO 24 (.call 21 [(.tmp 23)]), oM 22 24, oO 25 (.extract 0 (.tmp 22)), oO 26 (.extract 1 (.tmp 22)), oM 7 25, oM 8 26]
def r6_20 : List AOper := [oO 9 (.alloc [(cI 0), (cI 0), (cI 0), (cI 0)])]
def r6_23 : List AOper := [oM 27 8, oO 28 (.bin .eql 3 (.tmp 27) (kI 0))]
def r6_25 : List AOper := [oO 30 (.load true 7 (.tmp 2)), oO 31 (.load true 2 (.tmp 3)), oO 32 (.call 31 [(.tmp 30), (.tmp 31)]), oM 29 32, oO 33 (.extract 0 (.tmp 29)), oO 34 (.extract 1 (.tmp 29)), oD (.store 4 (.tmp 9) (.tmp 33)), oM 8 34]
def r6_27 : List AOper := [oM 35 6, oM 36 8, oO 37 (.bin .eql 3 (.tmp 35) (.tmp 36)), oM 38 37, oG 39 (.load true 4 (.tmp 5)) 38 true, oG 40 (.load true 4 (.tmp 9)) 38 true, oG 41 (.bin .eql 71 (.tmp 39) (.tmp 40)) 38 true, oO 42 (.pick (.tmp 38) (.tmp 41) (.const (.bool false))), oM 4 42]
def tr6 : List (Nat × Tidy) := [tT 0 [2, 3], tT 1 [2, 3, 11], tT 2 [4], tT 3 [2, 3, 14], tT 4 [4], tT 5 [2, 3, 5, 6], tT 6 [2, 3, 5, 6, 8], tT 7 [2, 3, 5, 6, 8, 9], tT 8 [2, 3, 5, 6, 8, 9, 28], tT 9 [5, 6, 8, 9], tT 10 [4]]
def tl6 : List (Nat × Tidy) := []
def rs6 : List AResV := [.tmp 4]
def p6_0_0 : PT St := pS [sl 2 (aV false [(cPtr 2 0)]), sl 3 (aV false [(cPtr 3 0)]), sl 5 (aV false [(cPtr 5 0)]), sl 6 (aV false [(cD (dI .i64))]), sl 8 (aV false [(cD (dI .i64))]), sl 9 (aV false [(cPtr 9 0)])] [eBox 2 [(cD dS), (cD (dI .i64)), (cD dL), (cD dL), (cD dL), (cD (dI .i64)), (cD (dI .i64))], eBox 3 [(cD (dI .i64)), (cD (dI .i64))], eBox 5 [(cD (dI .i64)), (cD (dI .i64)), (cD (dI .i64)), (cD (dI .i64))], eBox 9 [(cD (dI .i64)), (cD (dI .i64)), (cD (dI .i64)), (cD (dI .i64))]]
def u6_0_0 {β : Type} (g : St → β) : Int → Int → ByteArray → Int → Rows → Rows → Rows → Int → Int → Int → Int → Int → Int → Int → Int → Int → Int → Int → Int → β := p6_0_0.unc g
def p6_0_1 : PT St := pS [sl 5 (aV false [(cPtr 5 0)]), sl 6 (aV false [(cD (dI .i64))]), sl 8 (aV false [(cD (dI .i64))]), sl 9 (aV false [(cPtr 9 0)])] [eBox 5 [(cD (dI .i64)), (cD (dI .i64)), (cD (dI .i64)), (cD (dI .i64))], eBox 9 [(cD (dI .i64)), (cD (dI .i64)), (cD (dI .i64)), (cD (dI .i64))]]
def u6_0_1 {β : Type} (g : St → β) : Int → Int → Int → Int → Int → Int → Int → Int → Int → Int → β := p6_0_1.unc g
def p6_0_2 : PT St := pS [sl 2 (aV false [(cPtr 2 0)]), sl 3 (aV false [(cPtr 3 0)]), sl 5 (aV false [(cPtr 5 0)]), sl 6 (aV false [(cD (dI .i64))]), sl 8 (aV false [(cD (dI .i64))]), sl 9 (aV false [(cPtr 9 0)]), sl 28 (aV false [(cD dB)])] [eBox 2 [(cD dS), (cD (dI .i64)), (cD dL), (cD dL), (cD dL), (cD (dI .i64)), (cD (dI .i64))], eBox 3 [(cD (dI .i64)), (cD (dI .i64))], eBox 5 [(cD (dI .i64)), (cD (dI .i64)), (cD (dI .i64)), (cD (dI .i64))], eBox 9 [(cD (dI .i64)), (cD (dI .i64)), (cD (dI .i64)), (cD (dI .i64))]]
def u6_0_2 {β : Type} (g : St → β) : Int → Int → Bool → ByteArray → Int → Rows → Rows → Rows → Int → Int → Int → Int → Int → Int → Int → Int → Int → Int → Int → Int → β := p6_0_2.unc g
def pr6_0_0 : PT (List RV) := pRs [pR false [rD dB]]
def ur6_0_0 {β : Type} (g : List RV → β) : Bool → β := pr6_0_0.unc g
def E6_0g (vf9_0 : Tf9_0) (vf16_0 : Tf16_0) (vf18_0 : Tf18_0) (vf30_0 : Tf30_0) (vf21_0 : Tf21_0) (vf31_0 : Tf31_0) : EnvK := EnvK.of [⟨9, nt9, [⟨pa9_0, Fn9_0 vf9_0⟩]⟩, ⟨16, nt16, [⟨pa16_0, Fn16_0 vf16_0⟩]⟩, ⟨18, nt18, [⟨pa18_0, Fn18_0 vf18_0⟩]⟩, ⟨30, nt30, [⟨pa30_0, Fn30_0 vf30_0⟩]⟩, ⟨21, nt21, [⟨pa21_0, Fn21_0 vf21_0⟩]⟩, ⟨31, nt31, [⟨pa31_0, Fn31_0 vf31_0⟩]⟩] noSeq
noncomputable def E6_0 : EnvK := E6_0g f9_0 f16_0 f18_0 f30_0 f21_0 f31_0
theorem eo6_0 : E6_0.Ok Tryz.prog := EnvK.of_ok noSeq_ok ⟨⟨io9_0, trivial⟩, ⟨io16_0, trivial⟩, ⟨io18_0, trivial⟩, ⟨io30_0, trivial⟩, ⟨io21_0, trivial⟩, ⟨io31_0, trivial⟩, trivial⟩
noncomputable def c6_0_21g  : MCode := (.seq (.region r6_23 [] (tO [2, 3, 5, 6, 8, 9, 28])) (.cond (.tmp 28) (.region r6_25 [] (tO [5, 6, 8, 9])) .skip))
noncomputable def c6_0_21 : MCode := c6_0_21g 
theorem g6_0_21 : c6_0_21.Good Tryz.prog E6_0 sh6 := ⟨trivial, ⟨trivial, trivial⟩⟩
--CODE 21 0
abbrev TJ6_0_0 : Type 1 := (α : Type) → Int → ByteArray → Int → Rows → Rows → Rows → Int → Int → Int → Int → (Int → Int → Int → Int → Int → Option α) → (Bool → Option α) → Option α
def J6_0_0g (vf31_0 : Tf31_0) (α : Type) (x26 : Int) (x27 : ByteArray) (x28 : Int) (x29 x30 x31 : Rows) (x32 x33 x34 x35 : Int) (k1 : Int → Int → Int → Int → Int → Option α) (k2 : Bool → Option α) : Option α :=
 cK (x26 == 0)
 (vf31_0 α x27 x28 x29 x30 x31 x32 x33 x34 x35
 (fun x45 x46 x47 x48 x49 => k1 x49 x45 x46 x47 x48))
 (k2 (x26 == 0))
noncomputable def J6_0_0 (α : Type) (x26 : Int) (x27 : ByteArray) (x28 : Int) (x29 x30 x31 : Rows) (x32 x33 x34 x35 : Int) (k1 : Int → Int → Int → Int → Int → Option α) (k2 : Bool → Option α) : Option α := J6_0_0g f31_0 α x26 x27 x28 x29 x30 x31 x32 x33 x34 x35 k1 k2
def F6_0_0 (v : TJ6_0_0) (α : Type) (K : Exit → St → Option α) : Int → Int → ByteArray → Int → Rows → Rows → Rows → Int → Int → Int → Int → Int → Int → Int → Int → Int → Int → Int → Int → Option α := fun x25 x26 x27 x28 x29 x30 x31 x32 x33 x34 x35 x36 x37 x38 x39 x40 x41 x42 x43 => v α x26 x27 x28 x29 x30 x31 x32 x33 x34 x35 (fun (y1 : Int) (y2 : Int) (y3 : Int) (y4 : Int) (y5 : Int) => u6_0_1 (K .normal) x25 y1 x36 x37 x38 x39 y2 y3 y4 y5) (fun (y1 : Bool) => u6_0_2 (K .normal) x25 x26 y1 x27 x28 x29 x30 x31 x32 x33 x34 x35 x36 x37 x38 x39 x40 x41 x42 x43) 
theorem m6_0_0g (vf9_0 : Tf9_0) (vf16_0 : Tf16_0) (vf18_0 : Tf18_0) (vf30_0 : Tf30_0) (vf21_0 : Tf21_0) (vf31_0 : Tf31_0)  (α : Type) (K : Exit → St → Option α) : F6_0_0 (J6_0_0g vf31_0) α K = p6_0_0.unc fun σ => runM Tryz.prog (E6_0g vf9_0 vf16_0 vf18_0 vf30_0 vf21_0 vf31_0) sh6 (c6_0_21g ) K σ := by kernel_rfl
theorem m6_0_0 : ∀ (α : Type) (K : Exit → St → Option α), F6_0_0 J6_0_0 α K = p6_0_0.unc fun σ => runM Tryz.prog E6_0 sh6 c6_0_21 K σ := m6_0_0g f9_0 f16_0 f18_0 f30_0 f21_0 f31_0
abbrev Tf6_0 : Type 1 := (α : Type) → ByteArray → Int → Rows → Rows → Rows → Int → Int → Int → Int → (Bool → Option α) → Option α
def f6_0g (vJ6_0_0 : TJ6_0_0) (vf16_0 : Tf16_0) (vf18_0 : Tf18_0) (vf21_0 : Tf21_0) (vf30_0 : Tf30_0) (vf9_0 : Tf9_0) (α : Type) (x1 : ByteArray) (x2 : Int) (x3 x4 x5 : Rows) (x6 x7 x8 x9 : Int) (k1 : Bool → Option α) : Option α :=
 vf9_0 α 
 (vf16_0 α x1 x2 x3 x4 x5 x6 x7
 (fun x10 => cK (!x10)
 (k1 true)
 (vf18_0 α x1 x2 x3 x4 x5 x6 x7
 (fun x11 x12 x13 x14 x15 x16 x17 => vf30_0 α x11 x12 x13 x14 x15 x16 x17 x8 x9
 (fun x18 x19 x20 x21 x22 => vf21_0 α x1 x2 x3 x4 x5 x6 x7
 (fun x23 x24 => vJ6_0_0 α x24 x1 x2 x3 x4 x5 x6 x7 x8 x9
 (fun x50 x51 x52 x53 x54 => cK (x22 == x50)
 (k1 (((x18 == x51) && ((x19 == x52) && true)) && (((x20 == x53) && ((x21 == x54) && true)) && true)))
 (k1 false))
 (fun x55 => cK (x22 == x24)
 (k1 (((x18 == 0) && ((x19 == 0) && true)) && (((x20 == 0) && ((x21 == 0) && true)) && true)))
 (k1 false))))))))
noncomputable def f6_0 (α : Type) (x1 : ByteArray) (x2 : Int) (x3 x4 x5 : Rows) (x6 x7 x8 x9 : Int) (k1 : Bool → Option α) : Option α := f6_0g J6_0_0 f16_0 f18_0 f21_0 f30_0 f9_0 α x1 x2 x3 x4 x5 x6 x7 x8 x9 k1
def pa6_0 : PT (List DV) := pA [pV true [dS, (dI .i64), dL, dL, dL, (dI .i64), (dI .i64)], pV true [(dI .i64), (dI .i64)]]
def Fn6_0 (v : Tf6_0) (α : Type) (k : List RV → Option α) : ByteArray → Int → Rows → Rows → Rows → Int → Int → Int → Int → Option α := fun x1 x2 x3 x4 x5 x6 x7 x8 x9 => v α x1 x2 x3 x4 x5 x6 x7 x8 x9 (fun (y1 : Bool) => ur6_0_0 k y1)
noncomputable def cm6_0g (vJ6_0_0 : TJ6_0_0) : MCode := (.seq (.region r6_2 [] (tO [2, 3])) (.seq (.seq (.region r6_5 [] (tO [2, 3, 11])) (.cond (.tmp 11) (.seq (.region r6_8 [] (tO [4])) .ret) .skip)) (.seq (.seq (.region r6_11 [] (tO [2, 3, 14])) (.cond (.tmp 14) (.seq (.region r6_14 [] (tO [4])) .ret) .skip)) (.seq (.region r6_16 [(1, 2), (0, 7), (1, 7), (2, 7), (3, 7)] (tO [2, 3, 5, 6])) (.seq (.region r6_18 [] (tO [2, 3, 5, 6, 8])) (.seq (.region r6_20 [] (tO [2, 3, 5, 6, 8, 9])) (.seq (.mark [⟨p6_0_0, F6_0_0 vJ6_0_0⟩] c6_0_21) (.seq (.region r6_27 [] (tO [4])) .ret))))))))
noncomputable def cm6_0 : MCode := cm6_0g J6_0_0
theorem gm6_0 : cm6_0.Good Tryz.prog E6_0 sh6 := ⟨trivial, ⟨⟨trivial, ⟨⟨trivial, trivial⟩, trivial⟩⟩, ⟨⟨trivial, ⟨⟨trivial, trivial⟩, trivial⟩⟩, ⟨trivial, ⟨trivial, ⟨trivial, ⟨⟨g6_0_21, m6_0_0, trivial⟩, ⟨trivial, trivial⟩⟩⟩⟩⟩⟩⟩⟩
theorem fm6_0g (vf9_0 : Tf9_0) (vf16_0 : Tf16_0) (vf18_0 : Tf18_0) (vf30_0 : Tf30_0) (vf21_0 : Tf21_0) (vf31_0 : Tf31_0) (vJ6_0_0 : TJ6_0_0) (α : Type) (k : List RV → Option α) : Fn6_0 (f6_0g vJ6_0_0 vf16_0 vf18_0 vf21_0 vf30_0 vf9_0) α k = pa6_0.unc fun ds => fnM Tryz.prog (E6_0g vf9_0 vf16_0 vf18_0 vf30_0 vf21_0 vf31_0) sh6 (cm6_0g vJ6_0_0) rs6 k ds := by kernel_rfl
theorem fm6_0 : ∀ (α : Type) (k : List RV → Option α), Fn6_0 f6_0 α k = pa6_0.unc fun ds => fnM Tryz.prog E6_0 sh6 cm6_0 rs6 k ds := fm6_0g f9_0 f16_0 f18_0 f30_0 f21_0 f31_0 J6_0_0
theorem is6 : FnIs Tryz.prog 6 nt6 tr6 tl6 cm6_0.erase rs6 := ⟨Tryz.f6, Tryz.func6, rfl, by kernel_rfl, by kernel_rfl, by kernel_rfl⟩
theorem io6_0 : InstOk Tryz.prog 6 nt6 ⟨pa6_0, Fn6_0 f6_0⟩ := inst_ok eo6_0 followsTry is6 ⟨⟨sh6, cm6_0, by kernel_rfl, gm6_0, fm6_0⟩⟩
end Go.AM.K
