/- Printed by KGen. -/
import Derived.Test.YtnhkllkecbmchaaGreatDoorTLB
import Derived.Test.YtnhkllkecbmchaaGreatDoorTPt
import Derived.Test.YtnhkllkecbmchaaGreatDoorKMa
namespace Go.AM.K
open Go.Proofs
set_option maxRecDepth 100000
set_option linter.unusedVariables false
noncomputable section
abbrev Pg := Tryz.prog
theorem followsTry : Pg.follows .mixedOrders = true := by kernel_rfl
abbrev nt81 : Nat := 69
def sh81 : SG := [(14, [.str]), (15, [.str]), (28, [.str]), (31, [.str, .int .i64, .int .i64, .int .i64, .int .i64, .int .i64, .int .i64, .int .i64, .int .i64, .int .i64]), (42, [.str]), (43, [.str]), (63, [.str, .int .i64, .int .i64, .int .i64, .int .i64, .int .i64, .int .i64, .int .i64, .int .i64, .int .i64]), (68, [.str, .int .i64, .int .i64, .int .i64, .int .i64, .int .i64, .int .i64, .int .i64, .int .i64, .int .i64])]
def r81_2 : LA := [⟨(some 4), (.alloc [(.d (.v (.string ⟨#[]⟩))), (cI 0), (cI 0), (cI 0), (cI 0), (cI 0), (cI 0), (cI 0), (cI 0), (cI 0)]), none⟩, oO 5 (.mv (.const (.bool false)))]
def r81_4 : LA := [oM 13 0, oO 14 (.iaddr 1 none (.tmp 13) (kI 0)), lD 15 14, ⟨(some 16), (.build [(.d (.v (.string ⟨#[]⟩))), (cI 0), (cI 0), (cI 0), (cI 0), (cI 0), (cI 0), (cI 0), (cI 0), (cI 0)] [(0, 1, (.tmp 15))]), none⟩, ⟨(some 6), (.alloc [(.d (.v (.string ⟨#[]⟩))), (cI 0), (cI 0), (cI 0), (cI 0), (cI 0), (cI 0), (cI 0), (cI 0), (cI 0)]), none⟩, sD 10 6 16]
def r81_6 : LA := [oO 17 (.call 77 [.tmp 6]), oM 18 1, oO 19 (.append 1 8 (.tmp 17) (.tmp 18)), oM 7 19]
def r81_9 : LA := [oM 20 0, oO 21 (.len (.tmp 20)), oM 22 7, oO 23 (.len (.tmp 22)), bK 24 .add 23 1, bT 25 .neq 21 24, oM 26 25, oG 27 (.faddr 0 (.tmp 6)) 26 false, oG 28 (.load false 1 (.tmp 27)) 26 false, ⟨(some 29), (.call 173 [(.tmp 28), (.const (.string ⟨#[10]⟩))]), (some (26, false))⟩, oO 30 (.pick (.tmp 26) (.const (.bool true)) (.tmp 29))]
def r81_12 : LA := [lA 31 10 6, sD 10 4 31, oO 5 (.mv (.const (.bool false)))]
def r81_15 : LA := [oM 32 7, oO 33 (.len (.tmp 32)), mK 34 0]
def td81_17 : OT := (tO [0, 4, 6, 32, 33, 34])
def r81_19 : LA := [bT 35 .lss 34 33]
def r81_25 : LA := [oM 36 34, oO 37 (.iaddr 1 none (.tmp 32) (.tmp 34)), lD 38 37, oM 8 36, oM 9 38]
def r81_27 : LA := [oM 39 0, oM 40 8, bK 41 .add 40 1, oO 42 (.iaddr 1 none (.tmp 39) (.tmp 41)), lD 43 42, oM 10 43]
def r81_29 : LA := [oM 45 10, oO 46 (.call 63 [.tmp 45]), oM 44 46, oO 47 (.extract 0 (.tmp 44)), oO 48 (.extract 1 (.tmp 44)), oM 11 47, oM 12 48]
def r81_32 : LA := [oM 49 12, oO 50 (.bin .neq 153 (.tmp 49) (.const .nilIface)), oM 51 50, oG 52 (.mv (.tmp 11)) 51 false, oG 53 (.call 61 [.tmp 52]) 51 false, oG 54 (.mv (.tmp 10)) 51 false, oG 55 (.bin .neq 9 (.tmp 53) (.tmp 54)) 51 false, oO 56 (.pick (.tmp 51) (.const (.bool true)) (.tmp 55)), oM 57 56, oG 58 (.mv (.tmp 10)) 57 false, ⟨(some 59), (.call 64 [(.tmp 58), (.const (.string ⟨#[45]⟩))]), (some (57, false))⟩, oG 60 (.pure (oB (.call { callee := .builtin .len, args := #[(.tmp 59)], argTypes := #[9] }) 3)) 57 false, oG 61 (.bin .gtr 3 (.tmp 60) (kI 7)) 57 false, oO 62 (.pick (.tmp 57) (.const (.bool true)) (.tmp 61))]
def r81_35 : LA := [lA 63 10 6, sD 10 4 63, oO 5 (.mv (.const (.bool false)))]
def r81_36 : LA := [oM 64 9, oM 65 11, oO 66 (.nilchk (.tmp 64)), sD 1 66 65]
def r81_37 : LA := [bK 67 .add 34 1, oM 34 67]
def r81_39 : LA := [lA 68 10 6, sD 10 4 68, oO 5 (.mv (.const (.bool true)))]
def tr81 : TG := [tT 0 [0, 1, 4], tT 1 [0, 1, 4, 6], tT 2 [0, 4, 6, 7], tT 3 [0, 4, 6, 7, 30], tT 4 [4, 5], tT 5 [0, 4, 6, 32, 33, 34], tT 6 [0, 4, 6, 32, 33, 34, 35], tT 7 [0, 4, 6, 8, 9, 32, 33, 34], tT 8 [0, 4, 6, 9, 10, 32, 33, 34], tT 9 [0, 4, 6, 9, 10, 11, 12, 32, 33, 34], tT 10 [0, 4, 6, 9, 11, 32, 33, 34, 62], tT 11 [4, 5], tT 12 [0, 4, 6, 32, 33, 34], tT 13 [0, 4, 6, 32, 33, 34], tT 14 [4, 5]]
def tl81 : TG := [tT 6 [0, 4, 6, 32, 33, 34]]
def rs81 : List AResV := [.cell 4 true 10, .tmp 5]
def p81_0_0 : PT St := pS [sl 0 (aV false [(cD dL)]), sP 4, sP 6, sl 9 (aV false [(cPtr 6 1)]), sl 10 (aV false [(cD dS)]), sl 32 (aV false [(cPsl [(6, 1), (6, 2), (6, 3), (6, 4), (6, 5), (6, 6), (6, 7), (6, 8), (6, 9)])]), sI 33, sl 34 (aV false [(cD (dIc .i64 0))])] [eBox 4 [(cD dS), xI, xI, xI, xI, xI, xI, xI, xI, xI], eBox 6 [(cD dS), xI, xI, xI, xI, xI, xI, xI, xI, xI]]
def u81_0_0 {β : Type} (g : St -> β) : Rows -> BA -> Int -> BA -> Int -> Int -> Int -> Int -> Int -> Int -> Int -> Int -> Int -> BA -> I9 β := p81_0_0.unc g
def p81_0_1 : PT St := pS [sl 0 (aV false [(cD dL)]), sP 4, sP 6, sl 9 (aV false [(cPtr 6 1)]), sl 10 (aV false [(cD dS)]), sI 11, sl 12 (aV false [(cD dNIf)]), sl 32 (aV false [(cPsl [(6, 1), (6, 2), (6, 3), (6, 4), (6, 5), (6, 6), (6, 7), (6, 8), (6, 9)])]), sI 33, sl 34 (aV false [(cD (dIc .i64 0))])] [eBox 4 [(cD dS), xI, xI, xI, xI, xI, xI, xI, xI, xI], eBox 6 [(cD dS), xI, xI, xI, xI, xI, xI, xI, xI, xI]]
def u81_0_1 {β : Type} (g : St -> β) : Rows -> BA -> Int -> Int -> BA -> Int -> Int -> Int -> Int -> Int -> Int -> Int -> Int -> Int -> BA -> I9 β := p81_0_1.unc g
def p81_0_2 : PT St := pS [sl 0 (aV false [(cD dL)]), sP 4, sP 6, sl 9 (aV false [(cPtr 6 1)]), sl 10 (aV false [(cD dS)]), sI 11, sl 12 (aV false [(cD (dIf 362 false [(dP [] 0)]))]), sl 32 (aV false [(cPsl [(6, 1), (6, 2), (6, 3), (6, 4), (6, 5), (6, 6), (6, 7), (6, 8), (6, 9)])]), sI 33, sl 34 (aV false [(cD (dIc .i64 0))])] [eBox 4 [(cD dS), xI, xI, xI, xI, xI, xI, xI, xI, xI], eBox 6 [(cD dS), xI, xI, xI, xI, xI, xI, xI, xI, xI]]
def u81_0_2 {β : Type} (g : St -> β) : Rows -> BA -> Int -> Int -> BA -> Int -> Int -> Int -> Int -> Int -> Int -> Int -> Int -> Int -> BA -> I9 β := p81_0_2.unc g
def p81_0_3 : PT St := pS [sl 0 (aV false [(cD dL)]), sP 4, sP 6, sl 9 (aV false [(cPtr 6 2)]), sl 10 (aV false [(cD dS)]), sl 32 (aV false [(cPsl [(6, 1), (6, 2), (6, 3), (6, 4), (6, 5), (6, 6), (6, 7), (6, 8), (6, 9)])]), sI 33, sl 34 (aV false [(cD (dIc .i64 1))])] [eBox 4 [(cD dS), xI, xI, xI, xI, xI, xI, xI, xI, xI], eBox 6 [(cD dS), xI, xI, xI, xI, xI, xI, xI, xI, xI]]
def u81_0_3 {β : Type} (g : St -> β) : Rows -> BA -> Int -> BA -> Int -> Int -> Int -> Int -> Int -> Int -> Int -> Int -> Int -> BA -> I9 β := p81_0_3.unc g
def p81_0_4 : PT St := pS [sl 0 (aV false [(cD dL)]), sP 4, sP 6, sl 9 (aV false [(cPtr 6 2)]), sl 10 (aV false [(cD dS)]), sI 11, sl 12 (aV false [(cD dNIf)]), sl 32 (aV false [(cPsl [(6, 1), (6, 2), (6, 3), (6, 4), (6, 5), (6, 6), (6, 7), (6, 8), (6, 9)])]), sI 33, sl 34 (aV false [(cD (dIc .i64 1))])] [eBox 4 [(cD dS), xI, xI, xI, xI, xI, xI, xI, xI, xI], eBox 6 [(cD dS), xI, xI, xI, xI, xI, xI, xI, xI, xI]]
def u81_0_4 {β : Type} (g : St -> β) : Rows -> BA -> Int -> Int -> BA -> Int -> Int -> Int -> Int -> Int -> Int -> Int -> Int -> Int -> BA -> I9 β := p81_0_4.unc g
def p81_0_5 : PT St := pS [sl 0 (aV false [(cD dL)]), sP 4, sP 6, sl 9 (aV false [(cPtr 6 2)]), sl 10 (aV false [(cD dS)]), sI 11, sl 12 (aV false [(cD (dIf 362 false [(dP [] 0)]))]), sl 32 (aV false [(cPsl [(6, 1), (6, 2), (6, 3), (6, 4), (6, 5), (6, 6), (6, 7), (6, 8), (6, 9)])]), sI 33, sl 34 (aV false [(cD (dIc .i64 1))])] [eBox 4 [(cD dS), xI, xI, xI, xI, xI, xI, xI, xI, xI], eBox 6 [(cD dS), xI, xI, xI, xI, xI, xI, xI, xI, xI]]
def u81_0_5 {β : Type} (g : St -> β) : Rows -> BA -> Int -> Int -> BA -> Int -> Int -> Int -> Int -> Int -> Int -> Int -> Int -> Int -> BA -> I9 β := p81_0_5.unc g
def p81_0_6 : PT St := pS [sl 0 (aV false [(cD dL)]), sP 4, sP 6, sl 9 (aV false [(cPtr 6 3)]), sl 10 (aV false [(cD dS)]), sl 32 (aV false [(cPsl [(6, 1), (6, 2), (6, 3), (6, 4), (6, 5), (6, 6), (6, 7), (6, 8), (6, 9)])]), sI 33, sl 34 (aV false [(cD (dIc .i64 2))])] [eBox 4 [(cD dS), xI, xI, xI, xI, xI, xI, xI, xI, xI], eBox 6 [(cD dS), xI, xI, xI, xI, xI, xI, xI, xI, xI]]
def u81_0_6 {β : Type} (g : St -> β) : Rows -> BA -> Int -> BA -> Int -> Int -> Int -> Int -> Int -> Int -> Int -> Int -> Int -> BA -> I9 β := p81_0_6.unc g
def p81_0_7 : PT St := pS [sl 0 (aV false [(cD dL)]), sP 4, sP 6, sl 9 (aV false [(cPtr 6 3)]), sl 10 (aV false [(cD dS)]), sI 11, sl 12 (aV false [(cD dNIf)]), sl 32 (aV false [(cPsl [(6, 1), (6, 2), (6, 3), (6, 4), (6, 5), (6, 6), (6, 7), (6, 8), (6, 9)])]), sI 33, sl 34 (aV false [(cD (dIc .i64 2))])] [eBox 4 [(cD dS), xI, xI, xI, xI, xI, xI, xI, xI, xI], eBox 6 [(cD dS), xI, xI, xI, xI, xI, xI, xI, xI, xI]]
def u81_0_7 {β : Type} (g : St -> β) : Rows -> BA -> Int -> Int -> BA -> Int -> Int -> Int -> Int -> Int -> Int -> Int -> Int -> Int -> BA -> I9 β := p81_0_7.unc g
def p81_0_8 : PT St := pS [sl 0 (aV false [(cD dL)]), sP 4, sP 6, sl 9 (aV false [(cPtr 6 3)]), sl 10 (aV false [(cD dS)]), sI 11, sl 12 (aV false [(cD (dIf 362 false [(dP [] 0)]))]), sl 32 (aV false [(cPsl [(6, 1), (6, 2), (6, 3), (6, 4), (6, 5), (6, 6), (6, 7), (6, 8), (6, 9)])]), sI 33, sl 34 (aV false [(cD (dIc .i64 2))])] [eBox 4 [(cD dS), xI, xI, xI, xI, xI, xI, xI, xI, xI], eBox 6 [(cD dS), xI, xI, xI, xI, xI, xI, xI, xI, xI]]
def u81_0_8 {β : Type} (g : St -> β) : Rows -> BA -> Int -> Int -> BA -> Int -> Int -> Int -> Int -> Int -> Int -> Int -> Int -> Int -> BA -> I9 β := p81_0_8.unc g
def p81_0_9 : PT St := pS [sl 0 (aV false [(cD dL)]), sP 4, sP 6, sl 9 (aV false [(cPtr 6 4)]), sl 10 (aV false [(cD dS)]), sl 32 (aV false [(cPsl [(6, 1), (6, 2), (6, 3), (6, 4), (6, 5), (6, 6), (6, 7), (6, 8), (6, 9)])]), sI 33, sl 34 (aV false [(cD (dIc .i64 3))])] [eBox 4 [(cD dS), xI, xI, xI, xI, xI, xI, xI, xI, xI], eBox 6 [(cD dS), xI, xI, xI, xI, xI, xI, xI, xI, xI]]
def u81_0_9 {β : Type} (g : St -> β) : Rows -> BA -> Int -> BA -> Int -> Int -> Int -> Int -> Int -> Int -> Int -> Int -> Int -> BA -> I9 β := p81_0_9.unc g
def p81_0_10 : PT St := pS [sl 0 (aV false [(cD dL)]), sP 4, sP 6, sl 9 (aV false [(cPtr 6 4)]), sl 10 (aV false [(cD dS)]), sI 11, sl 12 (aV false [(cD dNIf)]), sl 32 (aV false [(cPsl [(6, 1), (6, 2), (6, 3), (6, 4), (6, 5), (6, 6), (6, 7), (6, 8), (6, 9)])]), sI 33, sl 34 (aV false [(cD (dIc .i64 3))])] [eBox 4 [(cD dS), xI, xI, xI, xI, xI, xI, xI, xI, xI], eBox 6 [(cD dS), xI, xI, xI, xI, xI, xI, xI, xI, xI]]
def u81_0_10 {β : Type} (g : St -> β) : Rows -> BA -> Int -> Int -> BA -> Int -> Int -> Int -> Int -> Int -> Int -> Int -> Int -> Int -> BA -> I9 β := p81_0_10.unc g
def p81_0_11 : PT St := pS [sl 0 (aV false [(cD dL)]), sP 4, sP 6, sl 9 (aV false [(cPtr 6 4)]), sl 10 (aV false [(cD dS)]), sI 11, sl 12 (aV false [(cD (dIf 362 false [(dP [] 0)]))]), sl 32 (aV false [(cPsl [(6, 1), (6, 2), (6, 3), (6, 4), (6, 5), (6, 6), (6, 7), (6, 8), (6, 9)])]), sI 33, sl 34 (aV false [(cD (dIc .i64 3))])] [eBox 4 [(cD dS), xI, xI, xI, xI, xI, xI, xI, xI, xI], eBox 6 [(cD dS), xI, xI, xI, xI, xI, xI, xI, xI, xI]]
def u81_0_11 {β : Type} (g : St -> β) : Rows -> BA -> Int -> Int -> BA -> Int -> Int -> Int -> Int -> Int -> Int -> Int -> Int -> Int -> BA -> I9 β := p81_0_11.unc g
def p81_0_12 : PT St := pS [sl 0 (aV false [(cD dL)]), sP 4, sP 6, sl 9 (aV false [(cPtr 6 5)]), sl 10 (aV false [(cD dS)]), sl 32 (aV false [(cPsl [(6, 1), (6, 2), (6, 3), (6, 4), (6, 5), (6, 6), (6, 7), (6, 8), (6, 9)])]), sI 33, sl 34 (aV false [(cD (dIc .i64 4))])] [eBox 4 [(cD dS), xI, xI, xI, xI, xI, xI, xI, xI, xI], eBox 6 [(cD dS), xI, xI, xI, xI, xI, xI, xI, xI, xI]]
def u81_0_12 {β : Type} (g : St -> β) : Rows -> BA -> Int -> BA -> Int -> Int -> Int -> Int -> Int -> Int -> Int -> Int -> Int -> BA -> I9 β := p81_0_12.unc g
def p81_0_13 : PT St := pS [sl 0 (aV false [(cD dL)]), sP 4, sP 6, sl 9 (aV false [(cPtr 6 5)]), sl 10 (aV false [(cD dS)]), sI 11, sl 12 (aV false [(cD dNIf)]), sl 32 (aV false [(cPsl [(6, 1), (6, 2), (6, 3), (6, 4), (6, 5), (6, 6), (6, 7), (6, 8), (6, 9)])]), sI 33, sl 34 (aV false [(cD (dIc .i64 4))])] [eBox 4 [(cD dS), xI, xI, xI, xI, xI, xI, xI, xI, xI], eBox 6 [(cD dS), xI, xI, xI, xI, xI, xI, xI, xI, xI]]
def u81_0_13 {β : Type} (g : St -> β) : Rows -> BA -> Int -> Int -> BA -> Int -> Int -> Int -> Int -> Int -> Int -> Int -> Int -> Int -> BA -> I9 β := p81_0_13.unc g
def p81_0_14 : PT St := pS [sl 0 (aV false [(cD dL)]), sP 4, sP 6, sl 9 (aV false [(cPtr 6 5)]), sl 10 (aV false [(cD dS)]), sI 11, sl 12 (aV false [(cD (dIf 362 false [(dP [] 0)]))]), sl 32 (aV false [(cPsl [(6, 1), (6, 2), (6, 3), (6, 4), (6, 5), (6, 6), (6, 7), (6, 8), (6, 9)])]), sI 33, sl 34 (aV false [(cD (dIc .i64 4))])] [eBox 4 [(cD dS), xI, xI, xI, xI, xI, xI, xI, xI, xI], eBox 6 [(cD dS), xI, xI, xI, xI, xI, xI, xI, xI, xI]]
def u81_0_14 {β : Type} (g : St -> β) : Rows -> BA -> Int -> Int -> BA -> Int -> Int -> Int -> Int -> Int -> Int -> Int -> Int -> Int -> BA -> I9 β := p81_0_14.unc g
def p81_0_15 : PT St := pS [sl 0 (aV false [(cD dL)]), sP 4, sP 6, sl 9 (aV false [(cPtr 6 6)]), sl 10 (aV false [(cD dS)]), sl 32 (aV false [(cPsl [(6, 1), (6, 2), (6, 3), (6, 4), (6, 5), (6, 6), (6, 7), (6, 8), (6, 9)])]), sI 33, sl 34 (aV false [(cD (dIc .i64 5))])] [eBox 4 [(cD dS), xI, xI, xI, xI, xI, xI, xI, xI, xI], eBox 6 [(cD dS), xI, xI, xI, xI, xI, xI, xI, xI, xI]]
def u81_0_15 {β : Type} (g : St -> β) : Rows -> BA -> Int -> BA -> Int -> Int -> Int -> Int -> Int -> Int -> Int -> Int -> Int -> BA -> I9 β := p81_0_15.unc g
def p81_0_16 : PT St := pS [sl 0 (aV false [(cD dL)]), sP 4, sP 6, sl 9 (aV false [(cPtr 6 6)]), sl 10 (aV false [(cD dS)]), sI 11, sl 12 (aV false [(cD dNIf)]), sl 32 (aV false [(cPsl [(6, 1), (6, 2), (6, 3), (6, 4), (6, 5), (6, 6), (6, 7), (6, 8), (6, 9)])]), sI 33, sl 34 (aV false [(cD (dIc .i64 5))])] [eBox 4 [(cD dS), xI, xI, xI, xI, xI, xI, xI, xI, xI], eBox 6 [(cD dS), xI, xI, xI, xI, xI, xI, xI, xI, xI]]
def u81_0_16 {β : Type} (g : St -> β) : Rows -> BA -> Int -> Int -> BA -> Int -> Int -> Int -> Int -> Int -> Int -> Int -> Int -> Int -> BA -> I9 β := p81_0_16.unc g
def p81_0_17 : PT St := pS [sl 0 (aV false [(cD dL)]), sP 4, sP 6, sl 9 (aV false [(cPtr 6 6)]), sl 10 (aV false [(cD dS)]), sI 11, sl 12 (aV false [(cD (dIf 362 false [(dP [] 0)]))]), sl 32 (aV false [(cPsl [(6, 1), (6, 2), (6, 3), (6, 4), (6, 5), (6, 6), (6, 7), (6, 8), (6, 9)])]), sI 33, sl 34 (aV false [(cD (dIc .i64 5))])] [eBox 4 [(cD dS), xI, xI, xI, xI, xI, xI, xI, xI, xI], eBox 6 [(cD dS), xI, xI, xI, xI, xI, xI, xI, xI, xI]]
def u81_0_17 {β : Type} (g : St -> β) : Rows -> BA -> Int -> Int -> BA -> Int -> Int -> Int -> Int -> Int -> Int -> Int -> Int -> Int -> BA -> I9 β := p81_0_17.unc g
def p81_0_18 : PT St := pS [sl 0 (aV false [(cD dL)]), sP 4, sP 6, sl 9 (aV false [(cPtr 6 7)]), sl 10 (aV false [(cD dS)]), sl 32 (aV false [(cPsl [(6, 1), (6, 2), (6, 3), (6, 4), (6, 5), (6, 6), (6, 7), (6, 8), (6, 9)])]), sI 33, sl 34 (aV false [(cD (dIc .i64 6))])] [eBox 4 [(cD dS), xI, xI, xI, xI, xI, xI, xI, xI, xI], eBox 6 [(cD dS), xI, xI, xI, xI, xI, xI, xI, xI, xI]]
def u81_0_18 {β : Type} (g : St -> β) : Rows -> BA -> Int -> BA -> Int -> Int -> Int -> Int -> Int -> Int -> Int -> Int -> Int -> BA -> I9 β := p81_0_18.unc g
def p81_0_19 : PT St := pS [sl 0 (aV false [(cD dL)]), sP 4, sP 6, sl 9 (aV false [(cPtr 6 7)]), sl 10 (aV false [(cD dS)]), sI 11, sl 12 (aV false [(cD dNIf)]), sl 32 (aV false [(cPsl [(6, 1), (6, 2), (6, 3), (6, 4), (6, 5), (6, 6), (6, 7), (6, 8), (6, 9)])]), sI 33, sl 34 (aV false [(cD (dIc .i64 6))])] [eBox 4 [(cD dS), xI, xI, xI, xI, xI, xI, xI, xI, xI], eBox 6 [(cD dS), xI, xI, xI, xI, xI, xI, xI, xI, xI]]
def u81_0_19 {β : Type} (g : St -> β) : Rows -> BA -> Int -> Int -> BA -> Int -> Int -> Int -> Int -> Int -> Int -> Int -> Int -> Int -> BA -> I9 β := p81_0_19.unc g
def p81_0_20 : PT St := pS [sl 0 (aV false [(cD dL)]), sP 4, sP 6, sl 9 (aV false [(cPtr 6 7)]), sl 10 (aV false [(cD dS)]), sI 11, sl 12 (aV false [(cD (dIf 362 false [(dP [] 0)]))]), sl 32 (aV false [(cPsl [(6, 1), (6, 2), (6, 3), (6, 4), (6, 5), (6, 6), (6, 7), (6, 8), (6, 9)])]), sI 33, sl 34 (aV false [(cD (dIc .i64 6))])] [eBox 4 [(cD dS), xI, xI, xI, xI, xI, xI, xI, xI, xI], eBox 6 [(cD dS), xI, xI, xI, xI, xI, xI, xI, xI, xI]]
def u81_0_20 {β : Type} (g : St -> β) : Rows -> BA -> Int -> Int -> BA -> Int -> Int -> Int -> Int -> Int -> Int -> Int -> Int -> Int -> BA -> I9 β := p81_0_20.unc g
def p81_0_21 : PT St := pS [sl 0 (aV false [(cD dL)]), sP 4, sP 6, sl 9 (aV false [(cPtr 6 8)]), sl 10 (aV false [(cD dS)]), sl 32 (aV false [(cPsl [(6, 1), (6, 2), (6, 3), (6, 4), (6, 5), (6, 6), (6, 7), (6, 8), (6, 9)])]), sI 33, sl 34 (aV false [(cD (dIc .i64 7))])] [eBox 4 [(cD dS), xI, xI, xI, xI, xI, xI, xI, xI, xI], eBox 6 [(cD dS), xI, xI, xI, xI, xI, xI, xI, xI, xI]]
def u81_0_21 {β : Type} (g : St -> β) : Rows -> BA -> Int -> BA -> Int -> Int -> Int -> Int -> Int -> Int -> Int -> Int -> Int -> BA -> I9 β := p81_0_21.unc g
def p81_0_22 : PT St := pS [sl 0 (aV false [(cD dL)]), sP 4, sP 6, sl 9 (aV false [(cPtr 6 8)]), sl 10 (aV false [(cD dS)]), sI 11, sl 12 (aV false [(cD dNIf)]), sl 32 (aV false [(cPsl [(6, 1), (6, 2), (6, 3), (6, 4), (6, 5), (6, 6), (6, 7), (6, 8), (6, 9)])]), sI 33, sl 34 (aV false [(cD (dIc .i64 7))])] [eBox 4 [(cD dS), xI, xI, xI, xI, xI, xI, xI, xI, xI], eBox 6 [(cD dS), xI, xI, xI, xI, xI, xI, xI, xI, xI]]
def u81_0_22 {β : Type} (g : St -> β) : Rows -> BA -> Int -> Int -> BA -> Int -> Int -> Int -> Int -> Int -> Int -> Int -> Int -> Int -> BA -> I9 β := p81_0_22.unc g
def p81_0_23 : PT St := pS [sl 0 (aV false [(cD dL)]), sP 4, sP 6, sl 9 (aV false [(cPtr 6 8)]), sl 10 (aV false [(cD dS)]), sI 11, sl 12 (aV false [(cD (dIf 362 false [(dP [] 0)]))]), sl 32 (aV false [(cPsl [(6, 1), (6, 2), (6, 3), (6, 4), (6, 5), (6, 6), (6, 7), (6, 8), (6, 9)])]), sI 33, sl 34 (aV false [(cD (dIc .i64 7))])] [eBox 4 [(cD dS), xI, xI, xI, xI, xI, xI, xI, xI, xI], eBox 6 [(cD dS), xI, xI, xI, xI, xI, xI, xI, xI, xI]]
def u81_0_23 {β : Type} (g : St -> β) : Rows -> BA -> Int -> Int -> BA -> Int -> Int -> Int -> Int -> Int -> Int -> Int -> Int -> Int -> BA -> I9 β := p81_0_23.unc g
def p81_0_24 : PT St := pS [sl 0 (aV false [(cD dL)]), sP 4, sP 6, sl 9 (aV false [(cPtr 6 9)]), sl 10 (aV false [(cD dS)]), sl 32 (aV false [(cPsl [(6, 1), (6, 2), (6, 3), (6, 4), (6, 5), (6, 6), (6, 7), (6, 8), (6, 9)])]), sI 33, sl 34 (aV false [(cD (dIc .i64 8))])] [eBox 4 [(cD dS), xI, xI, xI, xI, xI, xI, xI, xI, xI], eBox 6 [(cD dS), xI, xI, xI, xI, xI, xI, xI, xI, xI]]
def u81_0_24 {β : Type} (g : St -> β) : Rows -> BA -> Int -> BA -> Int -> Int -> Int -> Int -> Int -> Int -> Int -> Int -> Int -> BA -> I9 β := p81_0_24.unc g
def p81_0_25 : PT St := pS [sl 0 (aV false [(cD dL)]), sP 4, sP 6, sl 9 (aV false [(cPtr 6 9)]), sl 10 (aV false [(cD dS)]), sI 11, sl 12 (aV false [(cD dNIf)]), sl 32 (aV false [(cPsl [(6, 1), (6, 2), (6, 3), (6, 4), (6, 5), (6, 6), (6, 7), (6, 8), (6, 9)])]), sI 33, sl 34 (aV false [(cD (dIc .i64 8))])] [eBox 4 [(cD dS), xI, xI, xI, xI, xI, xI, xI, xI, xI], eBox 6 [(cD dS), xI, xI, xI, xI, xI, xI, xI, xI, xI]]
def u81_0_25 {β : Type} (g : St -> β) : Rows -> BA -> Int -> Int -> BA -> Int -> Int -> Int -> Int -> Int -> Int -> Int -> Int -> Int -> BA -> I9 β := p81_0_25.unc g
def p81_0_26 : PT St := pS [sl 0 (aV false [(cD dL)]), sP 4, sP 6, sl 9 (aV false [(cPtr 6 9)]), sl 10 (aV false [(cD dS)]), sI 11, sl 12 (aV false [(cD (dIf 362 false [(dP [] 0)]))]), sl 32 (aV false [(cPsl [(6, 1), (6, 2), (6, 3), (6, 4), (6, 5), (6, 6), (6, 7), (6, 8), (6, 9)])]), sI 33, sl 34 (aV false [(cD (dIc .i64 8))])] [eBox 4 [(cD dS), xI, xI, xI, xI, xI, xI, xI, xI, xI], eBox 6 [(cD dS), xI, xI, xI, xI, xI, xI, xI, xI, xI]]
def u81_0_26 {β : Type} (g : St -> β) : Rows -> BA -> Int -> Int -> BA -> Int -> Int -> Int -> Int -> Int -> Int -> Int -> Int -> Int -> BA -> I9 β := p81_0_26.unc g
def pr81_0_0 : PT (List RV) := pRs [pR true [rD dS, rD (dI .i64), rD (dI .i64), rD (dI .i64), rD (dI .i64), rD (dI .i64), rD (dI .i64), rD (dI .i64), rD (dI .i64), rD (dI .i64)], pR false [rD dB]]
def ur81_0_0 {β : Type} (g : List RV -> β) : BA -> Int -> Int -> Int -> Int -> Int -> Int -> Int -> Int -> Int -> Bool -> β := pr81_0_0.unc g
def E81_0g (a : Tf173_0) (b : Tf63_0) (c : Tf61_0) (d : Tf64_0) : EnvK := EnvK.ofP (EnvK.of [⟨173, nt173, [⟨pa173_0, Fn173_0 a⟩]⟩, ⟨63, nt63, [⟨pa63_0, Fn63_0 b⟩]⟩, ⟨61, nt61, [⟨pa61_0, Fn61_0 c⟩]⟩, ⟨64, nt64, [⟨pa64_0, Fn64_0 d⟩]⟩] noSeq) [(77, [1, 2, 3, 4, 5, 6, 7, 8, 9])]
def E81_0 : EnvK := E81_0g f173_0 f63_0 f61_0 f64_0
theorem eo81_0 : E81_0.Ok Pg := EnvK.ofP_ok (EnvK.of_ok noSeq_ok ⟨⟨io173_0, trivial⟩, ⟨io63_0, trivial⟩, ⟨io61_0, trivial⟩, ⟨io64_0, trivial⟩, trivial⟩) ⟨ptr77, trivial⟩
def c81_0_28g : MCode := (.region r81_29 [] (tO [0, 4, 6, 9, 10, 11, 12, 32, 33, 34]))
def c81_0_28 : MCode := c81_0_28g
theorem g81_0_28 : c81_0_28.Good Pg E81_0 sh81 := trivial
abbrev TJ81_0_0 : Type 1 := (α : Type) -> BA -> (Int -> Op α) -> (Int -> Op α) -> Op α
def J81_0_0g (a : Tf63_0) (α : Type) (b : BA) (k1 : Int -> Op α) (k2 : Int -> Op α) : Op α :=
 a α b
 (fun c => k1 c)
 (fun d => k2 d)
def J81_0_0 (α : Type) (a : BA) (k1 : Int -> Op α) (k2 : Int -> Op α) : Op α := J81_0_0g f63_0 α a k1 k2
def F81_0_0 (v : TJ81_0_0) (α : Type) (K : KT α) : Rows -> BA -> Int -> BA -> Int -> Int -> Int -> Int -> Int -> Int -> Int -> Int -> Int -> BA -> I9 (Op α) := fun c a d e g h i j l m o p q r s t w z A B C D F => v α a (fun b => u81_0_1 (K .normal) c a b d e g h i j l m o p q r s t w z A B C D F) (fun b => u81_0_2 (K .normal) c a b d e g h i j l m o p q r s t w z A B C D F)
theorem m81_0_0g (b : Tf173_0) (a : Tf63_0) (c : Tf61_0) (d : Tf64_0) (α : Type) (K : KT α) : F81_0_0 (J81_0_0g a) α K = p81_0_0.unc fun σ => runM Pg (E81_0g b a c d) sh81 (c81_0_28g ) K σ := by kernel_rfl
theorem m81_0_0 : ∀ (α : Type) (K : KT α), F81_0_0 J81_0_0 α K = p81_0_0.unc fun σ => runM Pg E81_0 sh81 c81_0_28 K σ := m81_0_0g f173_0 f63_0 f61_0 f64_0
abbrev TJ81_0_1 : Type 1 := (α : Type) -> BA -> (Int -> Op α) -> (Int -> Op α) -> Op α
def J81_0_1g (a : Tf63_0) (α : Type) (b : BA) (k1 : Int -> Op α) (k2 : Int -> Op α) : Op α :=
 a α b
 (fun c => k1 c)
 (fun d => k2 d)
def J81_0_1 (α : Type) (a : BA) (k1 : Int -> Op α) (k2 : Int -> Op α) : Op α := J81_0_1g f63_0 α a k1 k2
def F81_0_1 (v : TJ81_0_1) (α : Type) (K : KT α) : Rows -> BA -> Int -> BA -> Int -> Int -> Int -> Int -> Int -> Int -> Int -> Int -> Int -> BA -> I9 (Op α) := fun c a d e g h i j l m o p q r s t w z A B C D F => v α a (fun b => u81_0_4 (K .normal) c a b d e g h i j l m o p q r s t w z A B C D F) (fun b => u81_0_5 (K .normal) c a b d e g h i j l m o p q r s t w z A B C D F)
theorem m81_0_1g (b : Tf173_0) (a : Tf63_0) (c : Tf61_0) (d : Tf64_0) (α : Type) (K : KT α) : F81_0_1 (J81_0_1g a) α K = p81_0_3.unc fun σ => runM Pg (E81_0g b a c d) sh81 (c81_0_28g ) K σ := by kernel_rfl
theorem m81_0_1 : ∀ (α : Type) (K : KT α), F81_0_1 J81_0_1 α K = p81_0_3.unc fun σ => runM Pg E81_0 sh81 c81_0_28 K σ := m81_0_1g f173_0 f63_0 f61_0 f64_0
abbrev TJ81_0_2 : Type 1 := (α : Type) -> BA -> (Int -> Op α) -> (Int -> Op α) -> Op α
def J81_0_2g (a : Tf63_0) (α : Type) (b : BA) (k1 : Int -> Op α) (k2 : Int -> Op α) : Op α :=
 a α b
 (fun c => k1 c)
 (fun d => k2 d)
def J81_0_2 (α : Type) (a : BA) (k1 : Int -> Op α) (k2 : Int -> Op α) : Op α := J81_0_2g f63_0 α a k1 k2
def F81_0_2 (v : TJ81_0_2) (α : Type) (K : KT α) : Rows -> BA -> Int -> BA -> Int -> Int -> Int -> Int -> Int -> Int -> Int -> Int -> Int -> BA -> I9 (Op α) := fun c a d e g h i j l m o p q r s t w z A B C D F => v α a (fun b => u81_0_7 (K .normal) c a b d e g h i j l m o p q r s t w z A B C D F) (fun b => u81_0_8 (K .normal) c a b d e g h i j l m o p q r s t w z A B C D F)
theorem m81_0_2g (b : Tf173_0) (a : Tf63_0) (c : Tf61_0) (d : Tf64_0) (α : Type) (K : KT α) : F81_0_2 (J81_0_2g a) α K = p81_0_6.unc fun σ => runM Pg (E81_0g b a c d) sh81 (c81_0_28g ) K σ := by kernel_rfl
theorem m81_0_2 : ∀ (α : Type) (K : KT α), F81_0_2 J81_0_2 α K = p81_0_6.unc fun σ => runM Pg E81_0 sh81 c81_0_28 K σ := m81_0_2g f173_0 f63_0 f61_0 f64_0
abbrev TJ81_0_3 : Type 1 := (α : Type) -> BA -> (Int -> Op α) -> (Int -> Op α) -> Op α
def J81_0_3g (a : Tf63_0) (α : Type) (b : BA) (k1 : Int -> Op α) (k2 : Int -> Op α) : Op α :=
 a α b
 (fun c => k1 c)
 (fun d => k2 d)
def J81_0_3 (α : Type) (a : BA) (k1 : Int -> Op α) (k2 : Int -> Op α) : Op α := J81_0_3g f63_0 α a k1 k2
def F81_0_3 (v : TJ81_0_3) (α : Type) (K : KT α) : Rows -> BA -> Int -> BA -> Int -> Int -> Int -> Int -> Int -> Int -> Int -> Int -> Int -> BA -> I9 (Op α) := fun c a d e g h i j l m o p q r s t w z A B C D F => v α a (fun b => u81_0_10 (K .normal) c a b d e g h i j l m o p q r s t w z A B C D F) (fun b => u81_0_11 (K .normal) c a b d e g h i j l m o p q r s t w z A B C D F)
theorem m81_0_3g (b : Tf173_0) (a : Tf63_0) (c : Tf61_0) (d : Tf64_0) (α : Type) (K : KT α) : F81_0_3 (J81_0_3g a) α K = p81_0_9.unc fun σ => runM Pg (E81_0g b a c d) sh81 (c81_0_28g ) K σ := by kernel_rfl
theorem m81_0_3 : ∀ (α : Type) (K : KT α), F81_0_3 J81_0_3 α K = p81_0_9.unc fun σ => runM Pg E81_0 sh81 c81_0_28 K σ := m81_0_3g f173_0 f63_0 f61_0 f64_0
abbrev TJ81_0_4 : Type 1 := (α : Type) -> BA -> (Int -> Op α) -> (Int -> Op α) -> Op α
def J81_0_4g (a : Tf63_0) (α : Type) (b : BA) (k1 : Int -> Op α) (k2 : Int -> Op α) : Op α :=
 a α b
 (fun c => k1 c)
 (fun d => k2 d)
def J81_0_4 (α : Type) (a : BA) (k1 : Int -> Op α) (k2 : Int -> Op α) : Op α := J81_0_4g f63_0 α a k1 k2
def F81_0_4 (v : TJ81_0_4) (α : Type) (K : KT α) : Rows -> BA -> Int -> BA -> Int -> Int -> Int -> Int -> Int -> Int -> Int -> Int -> Int -> BA -> I9 (Op α) := fun c a d e g h i j l m o p q r s t w z A B C D F => v α a (fun b => u81_0_13 (K .normal) c a b d e g h i j l m o p q r s t w z A B C D F) (fun b => u81_0_14 (K .normal) c a b d e g h i j l m o p q r s t w z A B C D F)
theorem m81_0_4g (b : Tf173_0) (a : Tf63_0) (c : Tf61_0) (d : Tf64_0) (α : Type) (K : KT α) : F81_0_4 (J81_0_4g a) α K = p81_0_12.unc fun σ => runM Pg (E81_0g b a c d) sh81 (c81_0_28g ) K σ := by kernel_rfl
theorem m81_0_4 : ∀ (α : Type) (K : KT α), F81_0_4 J81_0_4 α K = p81_0_12.unc fun σ => runM Pg E81_0 sh81 c81_0_28 K σ := m81_0_4g f173_0 f63_0 f61_0 f64_0
abbrev TJ81_0_5 : Type 1 := (α : Type) -> BA -> (Int -> Op α) -> (Int -> Op α) -> Op α
def J81_0_5g (a : Tf63_0) (α : Type) (b : BA) (k1 : Int -> Op α) (k2 : Int -> Op α) : Op α :=
 a α b
 (fun c => k1 c)
 (fun d => k2 d)
def J81_0_5 (α : Type) (a : BA) (k1 : Int -> Op α) (k2 : Int -> Op α) : Op α := J81_0_5g f63_0 α a k1 k2
def F81_0_5 (v : TJ81_0_5) (α : Type) (K : KT α) : Rows -> BA -> Int -> BA -> Int -> Int -> Int -> Int -> Int -> Int -> Int -> Int -> Int -> BA -> I9 (Op α) := fun c a d e g h i j l m o p q r s t w z A B C D F => v α a (fun b => u81_0_16 (K .normal) c a b d e g h i j l m o p q r s t w z A B C D F) (fun b => u81_0_17 (K .normal) c a b d e g h i j l m o p q r s t w z A B C D F)
theorem m81_0_5g (b : Tf173_0) (a : Tf63_0) (c : Tf61_0) (d : Tf64_0) (α : Type) (K : KT α) : F81_0_5 (J81_0_5g a) α K = p81_0_15.unc fun σ => runM Pg (E81_0g b a c d) sh81 (c81_0_28g ) K σ := by kernel_rfl
theorem m81_0_5 : ∀ (α : Type) (K : KT α), F81_0_5 J81_0_5 α K = p81_0_15.unc fun σ => runM Pg E81_0 sh81 c81_0_28 K σ := m81_0_5g f173_0 f63_0 f61_0 f64_0
abbrev TJ81_0_6 : Type 1 := (α : Type) -> BA -> (Int -> Op α) -> (Int -> Op α) -> Op α
def J81_0_6g (a : Tf63_0) (α : Type) (b : BA) (k1 : Int -> Op α) (k2 : Int -> Op α) : Op α :=
 a α b
 (fun c => k1 c)
 (fun d => k2 d)
def J81_0_6 (α : Type) (a : BA) (k1 : Int -> Op α) (k2 : Int -> Op α) : Op α := J81_0_6g f63_0 α a k1 k2
def F81_0_6 (v : TJ81_0_6) (α : Type) (K : KT α) : Rows -> BA -> Int -> BA -> Int -> Int -> Int -> Int -> Int -> Int -> Int -> Int -> Int -> BA -> I9 (Op α) := fun c a d e g h i j l m o p q r s t w z A B C D F => v α a (fun b => u81_0_19 (K .normal) c a b d e g h i j l m o p q r s t w z A B C D F) (fun b => u81_0_20 (K .normal) c a b d e g h i j l m o p q r s t w z A B C D F)
theorem m81_0_6g (b : Tf173_0) (a : Tf63_0) (c : Tf61_0) (d : Tf64_0) (α : Type) (K : KT α) : F81_0_6 (J81_0_6g a) α K = p81_0_18.unc fun σ => runM Pg (E81_0g b a c d) sh81 (c81_0_28g ) K σ := by kernel_rfl
theorem m81_0_6 : ∀ (α : Type) (K : KT α), F81_0_6 J81_0_6 α K = p81_0_18.unc fun σ => runM Pg E81_0 sh81 c81_0_28 K σ := m81_0_6g f173_0 f63_0 f61_0 f64_0
abbrev TJ81_0_7 : Type 1 := (α : Type) -> BA -> (Int -> Op α) -> (Int -> Op α) -> Op α
def J81_0_7g (a : Tf63_0) (α : Type) (b : BA) (k1 : Int -> Op α) (k2 : Int -> Op α) : Op α :=
 a α b
 (fun c => k1 c)
 (fun d => k2 d)
def J81_0_7 (α : Type) (a : BA) (k1 : Int -> Op α) (k2 : Int -> Op α) : Op α := J81_0_7g f63_0 α a k1 k2
def F81_0_7 (v : TJ81_0_7) (α : Type) (K : KT α) : Rows -> BA -> Int -> BA -> Int -> Int -> Int -> Int -> Int -> Int -> Int -> Int -> Int -> BA -> I9 (Op α) := fun c a d e g h i j l m o p q r s t w z A B C D F => v α a (fun b => u81_0_22 (K .normal) c a b d e g h i j l m o p q r s t w z A B C D F) (fun b => u81_0_23 (K .normal) c a b d e g h i j l m o p q r s t w z A B C D F)
theorem m81_0_7g (b : Tf173_0) (a : Tf63_0) (c : Tf61_0) (d : Tf64_0) (α : Type) (K : KT α) : F81_0_7 (J81_0_7g a) α K = p81_0_21.unc fun σ => runM Pg (E81_0g b a c d) sh81 (c81_0_28g ) K σ := by kernel_rfl
theorem m81_0_7 : ∀ (α : Type) (K : KT α), F81_0_7 J81_0_7 α K = p81_0_21.unc fun σ => runM Pg E81_0 sh81 c81_0_28 K σ := m81_0_7g f173_0 f63_0 f61_0 f64_0
abbrev TJ81_0_8 : Type 1 := (α : Type) -> BA -> (Int -> Op α) -> (Int -> Op α) -> Op α
def J81_0_8g (a : Tf63_0) (α : Type) (b : BA) (k1 : Int -> Op α) (k2 : Int -> Op α) : Op α :=
 a α b
 (fun c => k1 c)
 (fun d => k2 d)
def J81_0_8 (α : Type) (a : BA) (k1 : Int -> Op α) (k2 : Int -> Op α) : Op α := J81_0_8g f63_0 α a k1 k2
def F81_0_8 (v : TJ81_0_8) (α : Type) (K : KT α) : Rows -> BA -> Int -> BA -> Int -> Int -> Int -> Int -> Int -> Int -> Int -> Int -> Int -> BA -> I9 (Op α) := fun c a d e g h i j l m o p q r s t w z A B C D F => v α a (fun b => u81_0_25 (K .normal) c a b d e g h i j l m o p q r s t w z A B C D F) (fun b => u81_0_26 (K .normal) c a b d e g h i j l m o p q r s t w z A B C D F)
theorem m81_0_8g (b : Tf173_0) (a : Tf63_0) (c : Tf61_0) (d : Tf64_0) (α : Type) (K : KT α) : F81_0_8 (J81_0_8g a) α K = p81_0_24.unc fun σ => runM Pg (E81_0g b a c d) sh81 (c81_0_28g ) K σ := by kernel_rfl
theorem m81_0_8 : ∀ (α : Type) (K : KT α), F81_0_8 J81_0_8 α K = p81_0_24.unc fun σ => runM Pg E81_0 sh81 c81_0_28 K σ := m81_0_8g f173_0 f63_0 f61_0 f64_0
abbrev Tf81_0 : Type 1 := (α : Type) -> Rows -> (BA -> I9 (Bool -> Op α)) -> Op α
def f81_0g (D : TJ81_0_0) (F : TJ81_0_1) (G : TJ81_0_2) (H : TJ81_0_3) (I : TJ81_0_4) (J : TJ81_0_5) (L : TJ81_0_6) (M : TJ81_0_7) (N : TJ81_0_8) (O : Tf173_0) (j : Tf61_0) (l : Tf64_0) (α : Type) (h : Rows) (k1 : BA -> I9 (Bool -> Op α)) : Op α :=
 rowK h 0 [.str]
 (fun a => cK (((List.length h : Nat) : Int) != 10)
 (k1 a 0 0 0 0 0 0 0 0 0 false)
 (O α a (⟨#[10]⟩ : BA)
 (fun P => cK P
 (k1 a 0 0 0 0 0 0 0 0 0 false)
 (rowK h 1 [.str]
 (fun p => D α p
 (fun b => j α b
 (fun Q => cK (!(Q.toList == p.toList))
 (k1 a 0 0 0 0 0 0 0 0 0 false)
 (l α p (⟨#[45]⟩ : BA)
 (fun R => cK (decide (7 < ((ByteArray.size R : Nat) : Int)))
 (k1 a 0 0 0 0 0 0 0 0 0 false)
 (rowK h 2 [.str]
 (fun q => F α q
 (fun c => j α c
 (fun T => cK (!(T.toList == q.toList))
 (k1 a b 0 0 0 0 0 0 0 0 false)
 (l α q (⟨#[45]⟩ : BA)
 (fun U => cK (decide (7 < ((ByteArray.size U : Nat) : Int)))
 (k1 a b 0 0 0 0 0 0 0 0 false)
 (rowK h 3 [.str]
 (fun r => G α r
 (fun d => j α d
 (fun V => cK (!(V.toList == r.toList))
 (k1 a b c 0 0 0 0 0 0 0 false)
 (l α r (⟨#[45]⟩ : BA)
 (fun W => cK (decide (7 < ((ByteArray.size W : Nat) : Int)))
 (k1 a b c 0 0 0 0 0 0 0 false)
 (rowK h 4 [.str]
 (fun s => H α s
 (fun e => j α e
 (fun X => cK (!(X.toList == s.toList))
 (k1 a b c d 0 0 0 0 0 0 false)
 (l α s (⟨#[45]⟩ : BA)
 (fun Y => cK (decide (7 < ((ByteArray.size Y : Nat) : Int)))
 (k1 a b c d 0 0 0 0 0 0 false)
 (rowK h 5 [.str]
 (fun t => I α t
 (fun g => j α g
 (fun Z => cK (!(Z.toList == t.toList))
 (k1 a b c d e 0 0 0 0 0 false)
 (l α t (⟨#[45]⟩ : BA)
 (fun a0 => cK (decide (7 < ((ByteArray.size a0 : Nat) : Int)))
 (k1 a b c d e 0 0 0 0 0 false)
 (rowK h 6 [.str]
 (fun w => J α w
 (fun i => j α i
 (fun a1 => cK (!(a1.toList == w.toList))
 (k1 a b c d e g 0 0 0 0 false)
 (l α w (⟨#[45]⟩ : BA)
 (fun a2 => cK (decide (7 < ((ByteArray.size a2 : Nat) : Int)))
 (k1 a b c d e g 0 0 0 0 false)
 (rowK h 7 [.str]
 (fun z => L α z
 (fun m => j α m
 (fun a3 => cK (!(a3.toList == z.toList))
 (k1 a b c d e g i 0 0 0 false)
 (l α z (⟨#[45]⟩ : BA)
 (fun a4 => cK (decide (7 < ((ByteArray.size a4 : Nat) : Int)))
 (k1 a b c d e g i 0 0 0 false)
 (rowK h 8 [.str]
 (fun A => M α A
 (fun o => j α o
 (fun a5 => cK (!(a5.toList == A.toList))
 (k1 a b c d e g i m 0 0 false)
 (l α A (⟨#[45]⟩ : BA)
 (fun a6 => cK (decide (7 < ((ByteArray.size a6 : Nat) : Int)))
 (k1 a b c d e g i m 0 0 false)
 (rowK h 9 [.str]
 (fun B => N α B
 (fun C => j α C
 (fun a7 => cK (!(a7.toList == B.toList))
 (k1 a b c d e g i m o 0 false)
 (l α B (⟨#[45]⟩ : BA)
 (fun a8 => cK (decide (7 < ((ByteArray.size a8 : Nat) : Int)))
 (k1 a b c d e g i m o 0 false)
 (k1 a b c d e g i m o C true)))))
 (fun a9 => k1 a b c d e g i m o 0 false)))))))
 (fun b0 => k1 a b c d e g i m 0 0 false)))))))
 (fun b1 => k1 a b c d e g i 0 0 0 false)))))))
 (fun b2 => k1 a b c d e g 0 0 0 0 false)))))))
 (fun b3 => k1 a b c d e 0 0 0 0 0 false)))))))
 (fun b4 => k1 a b c d 0 0 0 0 0 0 false)))))))
 (fun b5 => k1 a b c 0 0 0 0 0 0 0 false)))))))
 (fun b6 => k1 a b 0 0 0 0 0 0 0 0 false)))))))
 (fun b7 => k1 a 0 0 0 0 0 0 0 0 0 false))))))
def f81_0 (α : Type) (a : Rows) (k1 : BA -> I9 (Bool -> Op α)) : Op α := f81_0g J81_0_0 J81_0_1 J81_0_2 J81_0_3 J81_0_4 J81_0_5 J81_0_6 J81_0_7 J81_0_8 f173_0 f61_0 f64_0 α a k1
def pa81_0 : PT (List DV) := pA [pV false [dL], pV false [dLz]]
def Fn81_0 (v : Tf81_0) (α : Type) (k : RT α) : Rows -> Op α := fun a => v α a (fun b c d e g h i j l m o => ur81_0_0 k b c d e g h i j l m o)
def cm81_0g (a : TJ81_0_0) (b : TJ81_0_1) (c : TJ81_0_2) (d : TJ81_0_3) (e : TJ81_0_4) (g : TJ81_0_5) (h : TJ81_0_6) (i : TJ81_0_7) (j : TJ81_0_8) : MCode := (.seq (.region r81_2 [] (tO [0, 1, 4])) (.seq (.region r81_4 [] (tO [0, 1, 4, 6])) (.seq (.region r81_6 [] (tO [0, 4, 6, 7])) (.seq (.seq (.region r81_9 [] (tO [0, 4, 6, 7, 30])) (.cond (.tmp 30) (.seq (.region r81_12 [] (tO [4, 5])) .ret) .skip)) (.seq (.seq (.region r81_15 [] (tO [0, 4, 6, 32, 33, 34])) (.block 0 (.loopU 11 td81_17 (.seq (.region r81_19 [] (tO [0, 4, 6, 32, 33, 34, 35])) (.seq (.cond (.tmp 35) .skip (.exit 0)) (.seq (.block 1 (.seq (.region r81_25 [] (tO [0, 4, 6, 8, 9, 32, 33, 34])) (.seq (.region r81_27 [] (tO [0, 4, 6, 9, 10, 32, 33, 34])) (.seq (.mark [⟨p81_0_0, F81_0_0 a⟩, ⟨p81_0_3, F81_0_1 b⟩, ⟨p81_0_6, F81_0_2 c⟩, ⟨p81_0_9, F81_0_3 d⟩, ⟨p81_0_12, F81_0_4 e⟩, ⟨p81_0_15, F81_0_5 g⟩, ⟨p81_0_18, F81_0_6 h⟩, ⟨p81_0_21, F81_0_7 i⟩, ⟨p81_0_24, F81_0_8 j⟩] c81_0_28) (.seq (.seq (.region r81_32 [] (tO [0, 4, 6, 9, 11, 32, 33, 34, 62])) (.cond (.tmp 62) (.seq (.region r81_35 [] (tO [4, 5])) .ret) .skip)) (.region r81_36 [] (tO [0, 4, 6, 32, 33, 34]))))))) (.region r81_37 [] (tO [0, 4, 6, 32, 33, 34])))))))) (.seq (.region r81_39 [] (tO [4, 5])) .ret))))))
def cm81_0 : MCode := cm81_0g J81_0_0 J81_0_1 J81_0_2 J81_0_3 J81_0_4 J81_0_5 J81_0_6 J81_0_7 J81_0_8
theorem gm81_0 : cm81_0.Good Pg E81_0 sh81 := ⟨trivial, ⟨trivial, ⟨trivial, ⟨⟨trivial, ⟨⟨trivial, trivial⟩, trivial⟩⟩, ⟨⟨trivial, ⟨⟨trivial, ⟨⟨trivial, trivial⟩, ⟨⟨trivial, ⟨trivial, ⟨⟨g81_0_28, m81_0_0, m81_0_1, m81_0_2, m81_0_3, m81_0_4, m81_0_5, m81_0_6, m81_0_7, m81_0_8, trivial⟩, ⟨⟨trivial, ⟨⟨trivial, trivial⟩, trivial⟩⟩, trivial⟩⟩⟩⟩, trivial⟩⟩⟩, by decide⟩⟩, ⟨trivial, trivial⟩⟩⟩⟩⟩⟩
theorem fm81_0g (a : Tf173_0) (p : Tf63_0) (b : Tf61_0) (c : Tf64_0) (d : TJ81_0_0) (e : TJ81_0_1) (g : TJ81_0_2) (h : TJ81_0_3) (i : TJ81_0_4) (j : TJ81_0_5) (l : TJ81_0_6) (m : TJ81_0_7) (o : TJ81_0_8) (α : Type) (k : RT α) : Fn81_0 (f81_0g d e g h i j l m o a b c) α k = pa81_0.unc fun ds => fnM Pg (E81_0g a p b c) sh81 (cm81_0g d e g h i j l m o) rs81 k ds := by kernel_rfl
theorem fm81_0 : ∀ (α : Type) (k : RT α), Fn81_0 f81_0 α k = pa81_0.unc fun ds => fnM Pg E81_0 sh81 cm81_0 rs81 k ds := fm81_0g f173_0 f63_0 f61_0 f64_0 J81_0_0 J81_0_1 J81_0_2 J81_0_3 J81_0_4 J81_0_5 J81_0_6 J81_0_7 J81_0_8
theorem is81 : FnIs Pg 81 nt81 tr81 tl81 cm81_0.erase rs81 := ⟨Tryz.f81, Tryz.func81, rfl, by kernel_rfl, by kernel_rfl, by kernel_rfl⟩
theorem io81_0 : InstOk Pg 81 nt81 ⟨pa81_0, Fn81_0 f81_0⟩ := inst_ok eo81_0 followsTry is81 ⟨⟨sh81, cm81_0, by kernel_rfl, gm81_0, fm81_0⟩⟩
abbrev nt16 : Nat := 25
def sh16 : SG := [(7, [.str]), (18, iT)]
def r16_2 : LA := [oO 1 (.box (.tmp 0)), ⟨(some 2), (.mv (.const (.string ⟨#[]⟩))), none⟩]
def r16_4 : LA := [fA 6 0 1, lD 7 6, ⟨(some 8), (.bslice 1 1 [(.v (.string ⟨#[]⟩))] [(0, (.tmp 7))]), none⟩, oM 3 8]
def r16_7 : LA := [oO 9 (.call 77 [.tmp 1]), oO 10 (.len (.tmp 9)), mK 11 0]
def td16_9 : OT := (some ⟨[3, 9, 10, 11], true, [⟨false, 3, 0, 20003, 1⟩], []⟩)
def r16_11 : LA := [bT 12 .lss 11 10]
def r16_17 : LA := [oO 13 (.iaddr 1 none (.tmp 9) (.tmp 11)), lD 14 13, oM 5 14]
def r16_18 : LA := [oM 15 3, oM 16 5, oO 17 (.nilchk (.tmp 16)), lD 18 17, oO 19 (.call 61 [.tmp 18]), ⟨(some 20), (.bslice 1 1 [(.v (.string ⟨#[]⟩))] [(0, (.tmp 19))]), none⟩, oO 21 (.append 1 16 (.tmp 15) (.tmp 20)), oM 3 21]
def r16_19 : LA := [bK 22 .add 11 1, oM 11 22]
def r16_21 : LA := [oM 23 3, ⟨(some 24), (.call 78 [(.tmp 23), (.const (.string ⟨#[32]⟩))]), none⟩, oM 2 24]
def tr16 : TG := [tT 0 [1], tT 1 [1, 3], tT 2 [3, 9, 10, 11], tT 3 [3, 9, 10, 11, 12], tT 4 [3, 5, 9, 10, 11], tT 5 [3, 9, 10, 11], tT 6 [3, 9, 10, 11], tT 7 [2]]
def tl16 : TG := [(3, ⟨[3, 9, 10, 11], true, [⟨false, 3, 0, 20003, 1⟩], []⟩)]
def rs16 : List AResV := [.tmp 2]
def pr16_0_0 : PT (List RV) := pRs [pR false [rD dS]]
def ur16_0_0 {β : Type} (g : List RV -> β) : BA -> β := pr16_0_0.unc g
def E16_0g (a : Tf61_0) (b : Tf78_0) : EnvK := EnvK.ofP (EnvK.of [⟨61, nt61, [⟨pa61_0, Fn61_0 a⟩]⟩, ⟨78, nt78, [⟨pa78_0, Fn78_0 b⟩]⟩] noSeq) [(77, [1, 2, 3, 4, 5, 6, 7, 8, 9])]
def E16_0 : EnvK := E16_0g f61_0 f78_0
theorem eo16_0 : E16_0.Ok Pg := EnvK.ofP_ok (EnvK.of_ok noSeq_ok ⟨⟨io61_0, trivial⟩, ⟨io78_0, trivial⟩, trivial⟩) ⟨ptr77, trivial⟩
abbrev Tf16_0 : Type 1 := (α : Type) -> BA -> Int -> Int -> Int -> Int -> Int -> Int -> Int -> Int -> Int -> (BA -> Op α) -> Op α
def f16_0g (a : Tf61_0) (b : Tf78_0) (α : Type) (c : BA) (d e g h i j l m o : Int) (k1 : BA -> Op α) : Op α :=
 a α d
 (fun p => a α e
 (fun q => a α g
 (fun r => a α h
 (fun s => a α i
 (fun t => a α j
 (fun w => a α l
 (fun z => a α m
 (fun A => a α o
 (fun B => b α [[DC.v (.string c)], [DC.v (.string p)], [DC.v (.string q)], [DC.v (.string r)], [DC.v (.string s)], [DC.v (.string t)], [DC.v (.string w)], [DC.v (.string z)], [DC.v (.string A)], [DC.v (.string B)]] (⟨#[32]⟩ : BA)
 (fun C => k1 C))))))))))
def f16_0 (α : Type) (a : BA) (b c d e g h i j l : Int) (k1 : BA -> Op α) : Op α := f16_0g f61_0 f78_0 α a b c d e g h i j l k1
def pa16_0 : PT (List DV) := pA [pV true [dS, (dI .i64), (dI .i64), (dI .i64), (dI .i64), (dI .i64), (dI .i64), (dI .i64), (dI .i64), (dI .i64)]]
def Fn16_0 (v : Tf16_0) (α : Type) (k : RT α) : BA -> I9 (Op α) := fun a b c d e g h i j l => v α a b c d e g h i j l (fun m => ur16_0_0 k m)
def cm16_0g : MCode := (.seq (.region r16_2 [] (tO [1])) (.seq (.region r16_4 [] (tO [1, 3])) (.seq (.seq (.region r16_7 [] (tO [3, 9, 10, 11])) (.block 0 (.loopU 10 td16_9 (.seq (.region r16_11 [] (tO [3, 9, 10, 11, 12])) (.seq (.cond (.tmp 12) .skip (.exit 0)) (.seq (.block 1 (.seq (.region r16_17 [] (tO [3, 5, 9, 10, 11])) (.region r16_18 [] (tO [3, 9, 10, 11])))) (.region r16_19 [] (tO [3, 9, 10, 11])))))))) (.seq (.region r16_21 [] (tO [2])) .ret))))
def cm16_0 : MCode := cm16_0g
theorem gm16_0 : cm16_0.Good Pg E16_0 sh16 := ⟨trivial, ⟨trivial, ⟨⟨trivial, ⟨⟨trivial, ⟨⟨trivial, trivial⟩, ⟨⟨trivial, trivial⟩, trivial⟩⟩⟩, by decide⟩⟩, ⟨trivial, trivial⟩⟩⟩⟩
theorem fm16_0g (a : Tf61_0) (b : Tf78_0) (α : Type) (k : RT α) : Fn16_0 (f16_0g a b) α k = pa16_0.unc fun ds => fnM Pg (E16_0g a b) sh16 (cm16_0g ) rs16 k ds := by kernel_rfl
theorem fm16_0 : ∀ (α : Type) (k : RT α), Fn16_0 f16_0 α k = pa16_0.unc fun ds => fnM Pg E16_0 sh16 cm16_0 rs16 k ds := fm16_0g f61_0 f78_0
theorem is16 : FnIs Pg 16 nt16 tr16 tl16 cm16_0.erase rs16 := ⟨Tryz.f16, Tryz.func16, rfl, by kernel_rfl, by kernel_rfl, by kernel_rfl⟩
theorem io16_0 : InstOk Pg 16 nt16 ⟨pa16_0, Fn16_0 f16_0⟩ := inst_ok eo16_0 followsTry is16 ⟨⟨sh16, cm16_0, by kernel_rfl, gm16_0, fm16_0⟩⟩
abbrev nt137 : Nat := 61
def sh137 : SG := [(11, iS 2), (13, iS 2), (15, iS 2), (21, iT), (23, iT), (27, iT), (29, iT), (33, iT), (37, iT)]
def r137_2 : LA := [oO 1 (.box (.tmp 0)), mK 2 0, mK 3 0]
def r137_4 : LA := [mK 4 0, mK 5 0]
def r137_7 : LA := [fA 10 4 1, lA 11 2 10, fA 12 6 1, lA 13 2 12, fA 14 8 1, lA 15 2 14, oO 16 (.build (zI 6) [(0, 2, (.tmp 11)), (2, 2, (.tmp 13)), (4, 2, (.tmp 15))]), mK 17 0]
def td137_9 : OT := (tO [4, 5, 16, 17])
def r137_11 : LA := [bK 18 .lss 17 3]
def r137_17 : LA := [oO 19 (.index true 3 2 (.tmp 16) (.tmp 17)), oO 7 (.alloc [(cI 0), (cI 0)]), sD 2 7 19]
def r137_19 : LA := [fA 20 0 7, lD 21 20, fA 22 0 7, lD 23 22, oO 24 (.pure (oB (.unOp .neg 3 (.tmp 23)) 3)), oO 25 (.pure (oB (.call { callee := .builtin .max, args := #[(.tmp 21), (.tmp 24)], argTypes := #[3, 3] }) 3)), fA 26 1 7, lD 27 26, fA 28 1 7, lD 29 28, oO 30 (.pure (oB (.unOp .neg 3 (.tmp 29)) 3)), oO 31 (.pure (oB (.call { callee := .builtin .max, args := #[(.tmp 27), (.tmp 30)], argTypes := #[3, 3] }) 3)), oM 8 25, oM 9 31]
def r137_22 : LA := [fA 32 0 7, lD 33 32, bK 34 .gtr 33 0, oM 35 34, oG 36 (.faddr 1 (.tmp 7)) 35 false, oG 37 (.load false 1 (.tmp 36)) 35 false, oG 38 (.bin .lss 3 (.tmp 37) (kI 0)) 35 false, oO 39 (.pick (.tmp 35) (.const (.bool true)) (.tmp 38))]
def r137_24 : LA := [oM 40 4, oM 41 8, oM 42 9, oO 43 (.pure (oB (.call { callee := .builtin .min, args := #[(.tmp 41), (.tmp 42)], argTypes := #[3, 3] }) 3)), oM 44 8, oM 45 9, oO 46 (.pure (oB (.call { callee := .builtin .min, args := #[(.tmp 44), (.tmp 45)], argTypes := #[3, 3] }) 3)), bT 47 .mul 43 46, bT 48 .add 40 47, oM 4 48]
def r137_25 : LA := [oM 49 5, oM 50 8, oM 51 9, oO 52 (.pure (oB (.call { callee := .builtin .max, args := #[(.tmp 50), (.tmp 51)], argTypes := #[3, 3] }) 3)), oM 53 8, oM 54 9, oO 55 (.pure (oB (.call { callee := .builtin .max, args := #[(.tmp 53), (.tmp 54)], argTypes := #[3, 3] }) 3)), bT 56 .mul 52 55, bT 57 .add 49 56, oM 5 57]
def r137_26 : LA := [bK 58 .add 17 1, oM 17 58]
def r137_28 : LA := [oM 59 4, oM 60 5, oM 2 59, oM 3 60]
def tr137 : TG := [tT 0 [1], tT 1 [1, 4, 5], tT 2 [4, 5, 16, 17], tT 3 [4, 5, 16, 17, 18], tT 4 [4, 5, 7, 16, 17], tT 5 [4, 5, 7, 8, 9, 16, 17], tT 6 [4, 5, 8, 9, 16, 17, 39], tT 7 [4, 5, 8, 9, 16, 17], tT 8 [4, 5, 16, 17], tT 9 [4, 5, 16, 17], tT 10 [2, 3]]
def tl137 : TG := [tT 3 [4, 5, 16, 17]]
def rs137 : List AResV := [.tmp 2, .tmp 3]
def p137_0_0 : PT St := pS [sI 4, sI 5, sl 16 (aV true (xs 6)), sI 17, sl 18 (aV false [(cD dB)])] []
def u137_0_0 {β : Type} (g : St -> β) : Int -> Int -> Int -> Int -> Int -> Int -> Int -> Int -> Int -> Bool -> β := p137_0_0.unc g
def p137_0_1 : PT St := pS [sI 4, sI 5, sP 7, sl 16 (aV true (xs 6)), sI 17] [eBox 7 [xI, xI]]
def u137_0_1 {β : Type} (g : St -> β) : I11 β := p137_0_1.unc g
def p137_0_2 : PT St := pS [sI 4, sI 5, sP 7, sI 8, sI 9, sl 16 (aV true (xs 6)), sI 17] [eBox 7 [xI, xI]]
def u137_0_2 {β : Type} (g : St -> β) : I13 β := p137_0_2.unc g
def p137_0_3 : PT St := pS [sI 4, sI 5, sI 8, sI 9, sl 16 (aV true (xs 6)), sI 17, sl 39 (aV false [(cD dB)])] []
def u137_0_3 {β : Type} (g : St -> β) : Int -> Int -> Int -> Int -> Int -> Int -> Int -> Int -> Int -> Int -> Int -> Bool -> β := p137_0_3.unc g
def p137_0_4 : PT St := pS [sI 4, sI 5, sI 8, sI 9, sl 16 (aV true (xs 6)), sI 17] []
def u137_0_4 {β : Type} (g : St -> β) : I11 β := p137_0_4.unc g
def p137_0_5 : PT St := pS [sI 4, sI 5, sl 16 (aV true (xs 6)), sI 17] []
def u137_0_5 {β : Type} (g : St -> β) : I9 β := p137_0_5.unc g
def pr137_0_0 : PT (List RV) := pRs [wI, wI]
def ur137_0_0 {β : Type} (g : List RV -> β) : Int -> Int -> β := pr137_0_0.unc g
def E137_0g : EnvK := EnvK.of [] noSeq
def E137_0 : EnvK := E137_0g
theorem eo137_0 : E137_0.Ok Pg := EnvK.of_ok noSeq_ok trivial
def c137_0_21g : MCode := (.region r137_22 [] (tO [4, 5, 8, 9, 16, 17, 39]))
def c137_0_21 : MCode := c137_0_21g
theorem g137_0_21 : c137_0_21.Good Pg E137_0 sh137 := trivial
abbrev TJ137_0_1 : Type 1 := (α : Type) -> Int -> Int -> (Bool -> Op α) -> Op α
def J137_0_1g (α : Type) (a b : Int) (k1 : Bool -> Op α) : Op α :=
 cK (decide (0 < a))
 (k1 true)
 (k1 (decide (b < 0)))
def J137_0_1 (α : Type) (a b : Int) (k1 : Bool -> Op α) : Op α := J137_0_1g α a b k1
def F137_0_1 (v : TJ137_0_1) (α : Type) (K : KT α) : I13 (Op α) := fun a b c d e g h i j l m o p => v α o p (fun q => u137_0_3 (K .normal) a b c d e g h i j l m q)
theorem m137_0_1g (α : Type) (K : KT α) : F137_0_1 (J137_0_1g ) α K = p137_0_2.unc fun σ => runM Pg (E137_0g ) sh137 (c137_0_21g ) K σ := by kernel_rfl
theorem m137_0_1 : ∀ (α : Type) (K : KT α), F137_0_1 J137_0_1 α K = p137_0_2.unc fun σ => runM Pg E137_0 sh137 c137_0_21 K σ := m137_0_1g
def c137_0_20g (a : TJ137_0_1) : MCode := (.seq (.mark [⟨p137_0_2, F137_0_1 a⟩] c137_0_21) (.cond (.tmp 39) (.region r137_24 [] (tO [4, 5, 8, 9, 16, 17])) .skip))
def c137_0_20 : MCode := c137_0_20g J137_0_1
theorem g137_0_20 : c137_0_20.Good Pg E137_0 sh137 := ⟨⟨g137_0_21, m137_0_1, trivial⟩, ⟨trivial, trivial⟩⟩
abbrev TJ137_0_2 : Type 1 := (α : Type) -> Int -> Int -> Int -> Int -> Int -> (Int -> Op α) -> (Bool -> Op α) -> Op α
def J137_0_2g (d : TJ137_0_1) (α : Type) (e a b g h : Int) (k1 : Int -> Op α) (k2 : Bool -> Op α) : Op α :=
 d α g h
 (fun c => cK c
 (k1 (w64 (e + (w64 ((if b < a then b else a) * (if b < a then b else a))))))
 (k2 c))
def J137_0_2 (α : Type) (a b c d e : Int) (k1 : Int -> Op α) (k2 : Bool -> Op α) : Op α := J137_0_2g J137_0_1 α a b c d e k1 k2
def F137_0_2 (v : TJ137_0_2) (α : Type) (K : KT α) : I13 (Op α) := fun d e a b g h i j l m o p q => v α d a b p q (fun c => u137_0_4 (K .normal) c e a b g h i j l m o) (fun c => u137_0_3 (K .normal) d e a b g h i j l m o c)
theorem m137_0_2g (a : TJ137_0_1) (α : Type) (K : KT α) : F137_0_2 (J137_0_2g a) α K = p137_0_2.unc fun σ => runM Pg (E137_0g ) sh137 (c137_0_20g a) K σ := by kernel_rfl
theorem m137_0_2 : ∀ (α : Type) (K : KT α), F137_0_2 J137_0_2 α K = p137_0_2.unc fun σ => runM Pg E137_0 sh137 c137_0_20 K σ := m137_0_2g J137_0_1
def c137_0_16g : MCode := (.region r137_17 [] (tO [4, 5, 7, 16, 17]))
def c137_0_16 : MCode := c137_0_16g
theorem g137_0_16 : c137_0_16.Good Pg E137_0 sh137 := trivial
abbrev TJ137_0_0 : Type 1 := (α : Type) -> Int -> Int -> Int -> Int -> Int -> Int -> Int -> (Int -> Int -> Op α) -> Op α
def J137_0_0g (α : Type) (b c d e g h a : Int) (k1 : Int -> Int -> Op α) : Op α :=
 cK (a == 2)
 (k1 g h)
 (cK (a == 1)
 (k1 d e)
 (cK (a == 0)
 (k1 b c)
 (none)))
def J137_0_0 (α : Type) (a b c d e g h : Int) (k1 : Int -> Int -> Op α) : Op α := J137_0_0g α a b c d e g h k1
def F137_0_0 (v : TJ137_0_0) (α : Type) (K : KT α) : I9 (Bool -> Op α) := fun i j a b c d e g h o => v α a b c d e g h (fun l m => u137_0_1 (K .normal) i j a b c d e g h l m)
theorem m137_0_0g (α : Type) (K : KT α) : F137_0_0 (J137_0_0g ) α K = p137_0_0.unc fun σ => runM Pg (E137_0g ) sh137 (c137_0_16g ) K σ := by kernel_rfl
theorem m137_0_0 : ∀ (α : Type) (K : KT α), F137_0_0 J137_0_0 α K = p137_0_0.unc fun σ => runM Pg E137_0 sh137 c137_0_16 K σ := m137_0_0g
def c137_0_9g (a : TJ137_0_0) (b : TJ137_0_2) : MCode := (.seq (.region r137_11 [] (tO [4, 5, 16, 17, 18])) (.seq (.cond (.tmp 18) .skip (.exit 0)) (.seq (.block 1 (.seq (.mark [⟨p137_0_0, F137_0_0 a⟩] c137_0_16) (.seq (.region r137_19 [] (tO [4, 5, 7, 8, 9, 16, 17])) (.seq (.mark [⟨p137_0_2, F137_0_2 b⟩] c137_0_20) (.region r137_25 [] (tO [4, 5, 16, 17])))))) (.region r137_26 [] (tO [4, 5, 16, 17])))))
def c137_0_9 : MCode := c137_0_9g J137_0_0 J137_0_2
theorem g137_0_9 : c137_0_9.Good Pg E137_0 sh137 := ⟨trivial, ⟨⟨trivial, trivial⟩, ⟨⟨⟨g137_0_16, m137_0_0, trivial⟩, ⟨trivial, ⟨⟨g137_0_20, m137_0_2, trivial⟩, trivial⟩⟩⟩, trivial⟩⟩⟩
def S137_0_3g (g : TJ137_0_0) (h : TJ137_0_2) (α : Type) (i j l m o p d e c : Int) (kn : Int -> Int -> Int -> Op α) (k1 : Int -> Int -> Int -> Bool -> Op α) : Op α :=
 cK (decide (c < 3))
 (g α i j l m o p c
 (fun a b => h α d (if (w64 (0 - a)) > a then (w64 (0 - a)) else a) (if (w64 (0 - b)) > b then (w64 (0 - b)) else b) a b
 (fun q => kn q (w64 (e + (w64 ((if (if (w64 (0 - b)) > b then (w64 (0 - b)) else b) > (if (w64 (0 - a)) > a then (w64 (0 - a)) else a) then (if (w64 (0 - b)) > b then (w64 (0 - b)) else b) else (if (w64 (0 - a)) > a then (w64 (0 - a)) else a)) * (if (if (w64 (0 - b)) > b then (w64 (0 - b)) else b) > (if (w64 (0 - a)) > a then (w64 (0 - a)) else a) then (if (w64 (0 - b)) > b then (w64 (0 - b)) else b) else (if (w64 (0 - a)) > a then (w64 (0 - a)) else a)))))) (w64 (c + 1)))
 (fun r => kn d (w64 (e + (w64 ((if (if (w64 (0 - b)) > b then (w64 (0 - b)) else b) > (if (w64 (0 - a)) > a then (w64 (0 - a)) else a) then (if (w64 (0 - b)) > b then (w64 (0 - b)) else b) else (if (w64 (0 - a)) > a then (w64 (0 - a)) else a)) * (if (if (w64 (0 - b)) > b then (w64 (0 - b)) else b) > (if (w64 (0 - a)) > a then (w64 (0 - a)) else a) then (if (w64 (0 - b)) > b then (w64 (0 - b)) else b) else (if (w64 (0 - a)) > a then (w64 (0 - a)) else a)))))) (w64 (c + 1)))))
 (k1 d e c (decide (c < 3)))
def S137_0_3 (α : Type) (a b c d e g h i j : Int) (kn : Int -> Int -> Int -> Op α) (k1 : Int -> Int -> Int -> Bool -> Op α) : Op α := S137_0_3g J137_0_0 J137_0_2 α a b c d e g h i j kn k1
def R137_0_3 (α : Type) (a b c d e g : Int) (k1 : Int -> Int -> Int -> Bool -> Op α) : Nat -> Int -> Int -> Int -> Op α
 | 0, _, _, _ => none
 | n + 1, h, i, j => S137_0_3 α a b c d e g h i j (R137_0_3 α a b c d e g k1 n) k1
def L137_0_3 (α : Type) (a b c d e g : Int) (k1 : Int -> Int -> Int -> Bool -> Op α) (h i j : Int) : Op α := R137_0_3 α a b c d e g k1 fuel h i j
abbrev TL137_0_3 : Type 1 := (α : Type) -> Int -> Int -> Int -> Int -> Int -> Int -> (Int -> Int -> Int -> Bool -> Op α) -> Int -> Int -> Int -> Op α
def F137_0_3 (v : TL137_0_3) (α : Type) (K : KT α) : I9 (Op α) := fun h i a b c d e g j => v α a b c d e g (fun l m o p => u137_0_0 (K (.exit 0)) l m a b c d e g o p) h i j
theorem r137_0_3g (l : TJ137_0_0) (m : TJ137_0_2) (α : Type) (K : KT α) (Kn : SK α) (a b c d e g h i j : Int) : u137_0_5 (fun σ => runM Pg (E137_0g ) sh137 (c137_0_9g l m) (thenK (fun σ => tidyK td137_9 σ Kn) K) σ) a b c d e g h i j = S137_0_3g l m α c d e g h i a b j (fun a b j => u137_0_5 Kn a b c d e g h i j) (fun o p q r => u137_0_0 (K (.exit 0)) o p c d e g h i q r) := by kernel_rfl
theorem r137_0_3 (α : Type) (K : KT α) (Kn : SK α) (a b c d e g h i j : Int) : u137_0_5 (fun σ => runM Pg E137_0 sh137 c137_0_9 (thenK (fun σ => tidyK td137_9 σ Kn) K) σ) a b c d e g h i j = S137_0_3 α c d e g h i a b j (fun a b j => u137_0_5 Kn a b c d e g h i j) (fun l m o p => u137_0_0 (K (.exit 0)) l m c d e g h i o p) := r137_0_3g J137_0_0 J137_0_2 α K Kn a b c d e g h i j
theorem t137_0_3 (α : Type) (K : KT α) : ∀ (n : Nat) (h i a b c d e g j : Int), R137_0_3 α a b c d e g (fun l m o p => u137_0_0 (K (.exit 0)) l m a b c d e g o p) n h i j = u137_0_5 (loopT (runM Pg E137_0 sh137 c137_0_9) td137_9 K n) h i a b c d e g j := by
 intro n
 induction n with
 | zero => intros; rfl
 | succ n ih => intro h i a b c d e g j; exact (congrArg (fun kn => S137_0_3 α a b c d e g h i j kn (fun l m o p => u137_0_0 (K (.exit 0)) l m a b c d e g o p)) (funext fun h => funext fun i => funext fun j => ih h i a b c d e g j)).trans (r137_0_3 α K (loopT (runM Pg E137_0 sh137 c137_0_9) td137_9 K n) h i a b c d e g j).symm
theorem m137_0_3 : ∀ (α : Type) (K : KT α), F137_0_3 L137_0_3 α K = p137_0_5.unc fun σ => loopT (runM Pg E137_0 sh137 c137_0_9) td137_9 K fuel σ := fun α K => by funext a b c d e g h i j; exact t137_0_3 α K fuel a b c d e g h i j
abbrev Tf137_0 : Type 1 := (α : Type) -> BA -> Int -> Int -> Int -> Int -> Int -> Int -> Int -> Int -> Int -> (Int -> Int -> Op α) -> Op α
def f137_0g (a : TL137_0_3) (α : Type) (l : BA) (m o p b c d e g h : Int) (k1 : Int -> Int -> Op α) : Op α :=
 a α b c d e g h
 (fun i j q r => k1 i j) 0 0 0
def f137_0 (α : Type) (a : BA) (b c d e g h i j l : Int) (k1 : Int -> Int -> Op α) : Op α := f137_0g L137_0_3 α a b c d e g h i j l k1
def pa137_0 : PT (List DV) := pA [pV true [dS, (dI .i64), (dI .i64), (dI .i64), (dI .i64), (dI .i64), (dI .i64), (dI .i64), (dI .i64), (dI .i64)]]
def Fn137_0 (v : Tf137_0) (α : Type) (k : RT α) : BA -> I9 (Op α) := fun a b c d e g h i j l => v α a b c d e g h i j l (fun m o => ur137_0_0 k m o)
def cm137_0g (a : TL137_0_3) : MCode := (.seq (.region r137_2 [] (tO [1])) (.seq (.region r137_4 [] (tO [1, 4, 5])) (.seq (.seq (.region r137_7 [] (tO [4, 5, 16, 17])) (.block 0 (.loop td137_9 [⟨p137_0_5, F137_0_3 a⟩] c137_0_9))) (.seq (.region r137_28 [] (tO [2, 3])) .ret))))
def cm137_0 : MCode := cm137_0g L137_0_3
theorem gm137_0 : cm137_0.Good Pg E137_0 sh137 := ⟨trivial, ⟨trivial, ⟨⟨trivial, ⟨g137_0_9, m137_0_3, trivial⟩⟩, ⟨trivial, trivial⟩⟩⟩⟩
theorem fm137_0g (a : TL137_0_3) (α : Type) (k : RT α) : Fn137_0 (f137_0g a) α k = pa137_0.unc fun ds => fnM Pg (E137_0g ) sh137 (cm137_0g a) rs137 k ds := by kernel_rfl
theorem fm137_0 : ∀ (α : Type) (k : RT α), Fn137_0 f137_0 α k = pa137_0.unc fun ds => fnM Pg E137_0 sh137 cm137_0 rs137 k ds := fm137_0g L137_0_3
theorem is137 : FnIs Pg 137 nt137 tr137 tl137 cm137_0.erase rs137 := ⟨Tryz.f137, Tryz.func137, rfl, by kernel_rfl, by kernel_rfl, by kernel_rfl⟩
theorem io137_0 : InstOk Pg 137 nt137 ⟨pa137_0, Fn137_0 f137_0⟩ := inst_ok eo137_0 followsTry is137 ⟨⟨sh137, cm137_0, by kernel_rfl, gm137_0, fm137_0⟩⟩
abbrev nt136 : Nat := 25
def sh136 : SG := [(10, iT), (11, iT), (21, iT), (22, iT)]
def r136_2 : LA := [mK 2 0]
def r136_5 : LA := [oM 5 0, oO 6 (.len (.tmp 5)), bK 7 .lss 6 1]
def r136_7 : LA := [⟨(some 8), (.ifc 9 (.const (.string ⟨#[115, 108, 105, 99, 101, 115, 46, 77, 97, 120, 58, 32, 101, 109, 112, 116, 121, 32, 108, 105, 115, 116]⟩))), none⟩, ⟨none, .bad, none⟩]
def r136_9 : LA := [oM 9 0, oO 10 (.iaddr 1 none (.tmp 9) (kI 0)), lD 11 10, oM 3 11]
def r136_12 : LA := [mK 4 1]
def td136_14 : OT := (tO [0, 3, 4])
def r136_17 : LA := [oM 12 4, oM 13 0, oO 14 (.len (.tmp 13)), bT 15 .lss 12 14]
def r136_21 : LA := [oM 18 3, oM 19 0, oM 20 4, oO 21 (.iaddr 1 none (.tmp 19) (.tmp 20)), lD 22 21, oO 23 (.pure (oB (.call { callee := .builtin .max, args := #[(.tmp 18), (.tmp 22)], argTypes := #[3, 3] }) 3)), oM 3 23]
def r136_22 : LA := [oM 16 4, bK 17 .add 16 1, oM 4 17]
def r136_24 : LA := [oM 24 3, oM 2 24]
def tr136 : TG := [tT 0 [0], tT 1 [0, 7], tT 2 [0], tT 3 [0, 3], tT 4 [0, 3, 4], tT 5 [0, 3, 4, 15], tT 7 [0, 3, 4], tT 6 [0, 3, 4], tT 8 [2]]
def tl136 : TG := [tT 5 [0, 3, 4]]
def rs136 : List AResV := [.tmp 2]
def p136_0_0 : PT St := pS [sl 0 (aV false [(cD dL)]), sI 3, sI 4] []
def u136_0_0 {β : Type} (g : St -> β) : Rows -> Int -> Int -> β := p136_0_0.unc g
def p136_0_1 : PT St := pS [sl 0 (aV false [(cD dL)]), sI 3, sI 4, sl 15 (aV false [(cD dB)])] []
def u136_0_1 {β : Type} (g : St -> β) : Rows -> Int -> Int -> Bool -> β := p136_0_1.unc g
def pr136_0_0 : PT (List RV) := pRs [wI]
def ur136_0_0 {β : Type} (g : List RV -> β) : Int -> β := pr136_0_0.unc g
def E136_0g : EnvK := EnvK.of [] noSeq
def E136_0 : EnvK := E136_0g
theorem eo136_0 : E136_0.Ok Pg := EnvK.of_ok noSeq_ok trivial
def c136_0_14g : MCode := (.seq (.seq (.region r136_17 [] (tO [0, 3, 4, 15])) (.cond (.tmp 15) .skip (.exit 0))) (.seq (.block 1 (.region r136_21 [] (tO [0, 3, 4]))) (.region r136_22 [] (tO [0, 3, 4]))))
def c136_0_14 : MCode := c136_0_14g
theorem g136_0_14 : c136_0_14.Good Pg E136_0 sh136 := ⟨⟨trivial, ⟨trivial, trivial⟩⟩, ⟨trivial, trivial⟩⟩
def S136_0_0g (α : Type) (b : Rows) (c a : Int) (kn : Int -> Int -> Op α) (k1 : Int -> Int -> Bool -> Op α) : Op α :=
 cK (decide (a < ((List.length b : Nat) : Int)))
 (rowK b a [.int .i64]
 (fun d => kn (if d > c then d else c) (w64 (a + 1))))
 (k1 c a (decide (a < ((List.length b : Nat) : Int))))
def S136_0_0 (α : Type) (a : Rows) (b c : Int) (kn : Int -> Int -> Op α) (k1 : Int -> Int -> Bool -> Op α) : Op α := S136_0_0g α a b c kn k1
def R136_0_0 (α : Type) (a : Rows) (k1 : Int -> Int -> Bool -> Op α) : Nat -> Int -> Int -> Op α
 | 0, _, _ => none
 | n + 1, b, c => S136_0_0 α a b c (R136_0_0 α a k1 n) k1
def L136_0_0 (α : Type) (a : Rows) (k1 : Int -> Int -> Bool -> Op α) (b c : Int) : Op α := R136_0_0 α a k1 fuel b c
abbrev TL136_0_0 : Type 1 := (α : Type) -> Rows -> (Int -> Int -> Bool -> Op α) -> Int -> Int -> Op α
def F136_0_0 (v : TL136_0_0) (α : Type) (K : KT α) : Rows -> Int -> Int -> Op α := fun a b c => v α a (fun d e g => u136_0_1 (K (.exit 0)) a d e g) b c
theorem r136_0_0g (α : Type) (K : KT α) (Kn : SK α) (a : Rows) (b c : Int) : u136_0_0 (fun σ => runM Pg (E136_0g ) sh136 (c136_0_14g ) (thenK (fun σ => tidyK td136_14 σ Kn) K) σ) a b c = S136_0_0g α a b c (fun b c => u136_0_0 Kn a b c) (fun d e g => u136_0_1 (K (.exit 0)) a d e g) := by kernel_rfl
theorem r136_0_0 (α : Type) (K : KT α) (Kn : SK α) (a : Rows) (b c : Int) : u136_0_0 (fun σ => runM Pg E136_0 sh136 c136_0_14 (thenK (fun σ => tidyK td136_14 σ Kn) K) σ) a b c = S136_0_0 α a b c (fun b c => u136_0_0 Kn a b c) (fun d e g => u136_0_1 (K (.exit 0)) a d e g) := r136_0_0g α K Kn a b c
theorem t136_0_0 (α : Type) (K : KT α) : ∀ (n : Nat) (a : Rows) (b c : Int), R136_0_0 α a (fun d e g => u136_0_1 (K (.exit 0)) a d e g) n b c = u136_0_0 (loopT (runM Pg E136_0 sh136 c136_0_14) td136_14 K n) a b c := by
 intro n
 induction n with
 | zero => intros; rfl
 | succ n ih => intro a b c; exact (congrArg (fun kn => S136_0_0 α a b c kn (fun d e g => u136_0_1 (K (.exit 0)) a d e g)) (funext fun b => funext fun c => ih a b c)).trans (r136_0_0 α K (loopT (runM Pg E136_0 sh136 c136_0_14) td136_14 K n) a b c).symm
theorem m136_0_0 : ∀ (α : Type) (K : KT α), F136_0_0 L136_0_0 α K = p136_0_0.unc fun σ => loopT (runM Pg E136_0 sh136 c136_0_14) td136_14 K fuel σ := fun α K => by funext a b c; exact t136_0_0 α K fuel a b c
abbrev Tf136_0 : Type 1 := (α : Type) -> Rows -> (Int -> Op α) -> Op α
def f136_0g (b : TL136_0_0) (α : Type) (a : Rows) (k1 : Int -> Op α) : Op α :=
 cK (decide (((List.length a : Nat) : Int) < 1))
 (none)
 (rowK a 0 [.int .i64]
 (fun c => b α a
 (fun d e g => k1 d) c 1))
def f136_0 (α : Type) (a : Rows) (k1 : Int -> Op α) : Op α := f136_0g L136_0_0 α a k1
def pa136_0 : PT (List DV) := pA [pV false [dL]]
def Fn136_0 (v : Tf136_0) (α : Type) (k : RT α) : Rows -> Op α := fun a => v α a (fun b => ur136_0_0 k b)
def cm136_0g (a : TL136_0_0) : MCode := (.seq (.region r136_2 [] (tO [0])) (.seq (.seq (.region r136_5 [] (tO [0, 7])) (.cond (.tmp 7) (.region r136_7 [] (tO [0])) .skip)) (.seq (.region r136_9 [] (tO [0, 3])) (.seq (.seq (.region r136_12 [] (tO [0, 3, 4])) (.block 0 (.loop td136_14 [⟨p136_0_0, F136_0_0 a⟩] c136_0_14))) (.seq (.region r136_24 [] (tO [2])) .ret)))))
def cm136_0 : MCode := cm136_0g L136_0_0
theorem gm136_0 : cm136_0.Good Pg E136_0 sh136 := ⟨trivial, ⟨⟨trivial, ⟨trivial, trivial⟩⟩, ⟨trivial, ⟨⟨trivial, ⟨g136_0_14, m136_0_0, trivial⟩⟩, ⟨trivial, trivial⟩⟩⟩⟩⟩
theorem fm136_0g (a : TL136_0_0) (α : Type) (k : RT α) : Fn136_0 (f136_0g a) α k = pa136_0.unc fun ds => fnM Pg (E136_0g ) sh136 (cm136_0g a) rs136 k ds := by kernel_rfl
theorem fm136_0 : ∀ (α : Type) (k : RT α), Fn136_0 f136_0 α k = pa136_0.unc fun ds => fnM Pg E136_0 sh136 cm136_0 rs136 k ds := fm136_0g L136_0_0
theorem is136 : FnIs Pg 136 nt136 tr136 tl136 cm136_0.erase rs136 := ⟨Tryz.f136, Tryz.func136, rfl, by kernel_rfl, by kernel_rfl, by kernel_rfl⟩
theorem io136_0 : InstOk Pg 136 nt136 ⟨pa136_0, Fn136_0 f136_0⟩ := inst_ok eo136_0 followsTry is136 ⟨⟨sh136, cm136_0, by kernel_rfl, gm136_0, fm136_0⟩⟩
abbrev nt135 : Nat := 25
def sh135 : SG := [(10, iT), (11, iT), (21, iT), (22, iT)]
def r135_2 : LA := [mK 2 0]
def r135_5 : LA := [oM 5 0, oO 6 (.len (.tmp 5)), bK 7 .lss 6 1]
def r135_7 : LA := [⟨(some 8), (.ifc 9 (.const (.string ⟨#[115, 108, 105, 99, 101, 115, 46, 77, 105, 110, 58, 32, 101, 109, 112, 116, 121, 32, 108, 105, 115, 116]⟩))), none⟩, ⟨none, .bad, none⟩]
def r135_9 : LA := [oM 9 0, oO 10 (.iaddr 1 none (.tmp 9) (kI 0)), lD 11 10, oM 3 11]
def r135_12 : LA := [mK 4 1]
def td135_14 : OT := (tO [0, 3, 4])
def r135_17 : LA := [oM 12 4, oM 13 0, oO 14 (.len (.tmp 13)), bT 15 .lss 12 14]
def r135_21 : LA := [oM 18 3, oM 19 0, oM 20 4, oO 21 (.iaddr 1 none (.tmp 19) (.tmp 20)), lD 22 21, oO 23 (.pure (oB (.call { callee := .builtin .min, args := #[(.tmp 18), (.tmp 22)], argTypes := #[3, 3] }) 3)), oM 3 23]
def r135_22 : LA := [oM 16 4, bK 17 .add 16 1, oM 4 17]
def r135_24 : LA := [oM 24 3, oM 2 24]
def tr135 : TG := [tT 0 [0], tT 1 [0, 7], tT 2 [0], tT 3 [0, 3], tT 4 [0, 3, 4], tT 5 [0, 3, 4, 15], tT 7 [0, 3, 4], tT 6 [0, 3, 4], tT 8 [2]]
def tl135 : TG := [tT 5 [0, 3, 4]]
def rs135 : List AResV := [.tmp 2]
def p135_0_0 : PT St := pS [sl 0 (aV false [(cD dL)]), sI 3, sI 4] []
def u135_0_0 {β : Type} (g : St -> β) : Rows -> Int -> Int -> β := p135_0_0.unc g
def p135_0_1 : PT St := pS [sl 0 (aV false [(cD dL)]), sI 3, sI 4, sl 15 (aV false [(cD dB)])] []
def u135_0_1 {β : Type} (g : St -> β) : Rows -> Int -> Int -> Bool -> β := p135_0_1.unc g
def pr135_0_0 : PT (List RV) := pRs [wI]
def ur135_0_0 {β : Type} (g : List RV -> β) : Int -> β := pr135_0_0.unc g
def E135_0g : EnvK := EnvK.of [] noSeq
def E135_0 : EnvK := E135_0g
theorem eo135_0 : E135_0.Ok Pg := EnvK.of_ok noSeq_ok trivial
def c135_0_14g : MCode := (.seq (.seq (.region r135_17 [] (tO [0, 3, 4, 15])) (.cond (.tmp 15) .skip (.exit 0))) (.seq (.block 1 (.region r135_21 [] (tO [0, 3, 4]))) (.region r135_22 [] (tO [0, 3, 4]))))
def c135_0_14 : MCode := c135_0_14g
theorem g135_0_14 : c135_0_14.Good Pg E135_0 sh135 := ⟨⟨trivial, ⟨trivial, trivial⟩⟩, ⟨trivial, trivial⟩⟩
def S135_0_0g (α : Type) (b : Rows) (c a : Int) (kn : Int -> Int -> Op α) (k1 : Int -> Int -> Bool -> Op α) : Op α :=
 cK (decide (a < ((List.length b : Nat) : Int)))
 (rowK b a [.int .i64]
 (fun d => kn (if d < c then d else c) (w64 (a + 1))))
 (k1 c a (decide (a < ((List.length b : Nat) : Int))))
def S135_0_0 (α : Type) (a : Rows) (b c : Int) (kn : Int -> Int -> Op α) (k1 : Int -> Int -> Bool -> Op α) : Op α := S135_0_0g α a b c kn k1
def R135_0_0 (α : Type) (a : Rows) (k1 : Int -> Int -> Bool -> Op α) : Nat -> Int -> Int -> Op α
 | 0, _, _ => none
 | n + 1, b, c => S135_0_0 α a b c (R135_0_0 α a k1 n) k1
def L135_0_0 (α : Type) (a : Rows) (k1 : Int -> Int -> Bool -> Op α) (b c : Int) : Op α := R135_0_0 α a k1 fuel b c
abbrev TL135_0_0 : Type 1 := (α : Type) -> Rows -> (Int -> Int -> Bool -> Op α) -> Int -> Int -> Op α
def F135_0_0 (v : TL135_0_0) (α : Type) (K : KT α) : Rows -> Int -> Int -> Op α := fun a b c => v α a (fun d e g => u135_0_1 (K (.exit 0)) a d e g) b c
theorem r135_0_0g (α : Type) (K : KT α) (Kn : SK α) (a : Rows) (b c : Int) : u135_0_0 (fun σ => runM Pg (E135_0g ) sh135 (c135_0_14g ) (thenK (fun σ => tidyK td135_14 σ Kn) K) σ) a b c = S135_0_0g α a b c (fun b c => u135_0_0 Kn a b c) (fun d e g => u135_0_1 (K (.exit 0)) a d e g) := by kernel_rfl
theorem r135_0_0 (α : Type) (K : KT α) (Kn : SK α) (a : Rows) (b c : Int) : u135_0_0 (fun σ => runM Pg E135_0 sh135 c135_0_14 (thenK (fun σ => tidyK td135_14 σ Kn) K) σ) a b c = S135_0_0 α a b c (fun b c => u135_0_0 Kn a b c) (fun d e g => u135_0_1 (K (.exit 0)) a d e g) := r135_0_0g α K Kn a b c
theorem t135_0_0 (α : Type) (K : KT α) : ∀ (n : Nat) (a : Rows) (b c : Int), R135_0_0 α a (fun d e g => u135_0_1 (K (.exit 0)) a d e g) n b c = u135_0_0 (loopT (runM Pg E135_0 sh135 c135_0_14) td135_14 K n) a b c := by
 intro n
 induction n with
 | zero => intros; rfl
 | succ n ih => intro a b c; exact (congrArg (fun kn => S135_0_0 α a b c kn (fun d e g => u135_0_1 (K (.exit 0)) a d e g)) (funext fun b => funext fun c => ih a b c)).trans (r135_0_0 α K (loopT (runM Pg E135_0 sh135 c135_0_14) td135_14 K n) a b c).symm
theorem m135_0_0 : ∀ (α : Type) (K : KT α), F135_0_0 L135_0_0 α K = p135_0_0.unc fun σ => loopT (runM Pg E135_0 sh135 c135_0_14) td135_14 K fuel σ := fun α K => by funext a b c; exact t135_0_0 α K fuel a b c
abbrev Tf135_0 : Type 1 := (α : Type) -> Rows -> (Int -> Op α) -> Op α
def f135_0g (b : TL135_0_0) (α : Type) (a : Rows) (k1 : Int -> Op α) : Op α :=
 cK (decide (((List.length a : Nat) : Int) < 1))
 (none)
 (rowK a 0 [.int .i64]
 (fun c => b α a
 (fun d e g => k1 d) c 1))
def f135_0 (α : Type) (a : Rows) (k1 : Int -> Op α) : Op α := f135_0g L135_0_0 α a k1
def pa135_0 : PT (List DV) := pA [pV false [dL]]
def Fn135_0 (v : Tf135_0) (α : Type) (k : RT α) : Rows -> Op α := fun a => v α a (fun b => ur135_0_0 k b)
def cm135_0g (a : TL135_0_0) : MCode := (.seq (.region r135_2 [] (tO [0])) (.seq (.seq (.region r135_5 [] (tO [0, 7])) (.cond (.tmp 7) (.region r135_7 [] (tO [0])) .skip)) (.seq (.region r135_9 [] (tO [0, 3])) (.seq (.seq (.region r135_12 [] (tO [0, 3, 4])) (.block 0 (.loop td135_14 [⟨p135_0_0, F135_0_0 a⟩] c135_0_14))) (.seq (.region r135_24 [] (tO [2])) .ret)))))
def cm135_0 : MCode := cm135_0g L135_0_0
theorem gm135_0 : cm135_0.Good Pg E135_0 sh135 := ⟨trivial, ⟨⟨trivial, ⟨trivial, trivial⟩⟩, ⟨trivial, ⟨⟨trivial, ⟨g135_0_14, m135_0_0, trivial⟩⟩, ⟨trivial, trivial⟩⟩⟩⟩⟩
theorem fm135_0g (a : TL135_0_0) (α : Type) (k : RT α) : Fn135_0 (f135_0g a) α k = pa135_0.unc fun ds => fnM Pg (E135_0g ) sh135 (cm135_0g a) rs135 k ds := by kernel_rfl
theorem fm135_0 : ∀ (α : Type) (k : RT α), Fn135_0 f135_0 α k = pa135_0.unc fun ds => fnM Pg E135_0 sh135 cm135_0 rs135 k ds := fm135_0g L135_0_0
theorem is135 : FnIs Pg 135 nt135 tr135 tl135 cm135_0.erase rs135 := ⟨Tryz.f135, Tryz.func135, rfl, by kernel_rfl, by kernel_rfl, by kernel_rfl⟩
theorem io135_0 : InstOk Pg 135 nt135 ⟨pa135_0, Fn135_0 f135_0⟩ := inst_ok eo135_0 followsTry is135 ⟨⟨sh135, cm135_0, by kernel_rfl, gm135_0, fm135_0⟩⟩
abbrev nt133 : Nat := 24
def sh133 : SG := [(8, iT), (10, iT), (13, iT), (15, iT), (18, iS 2), (20, iT), (22, iT)]
def r133_2 : LA := [oO 2 (.box (.tmp 0)), oO 3 (.box (.tmp 1)), oO 4 (.alloc [(cI 0), (cI 0)]), oO 5 (.mv (.const (.bool false)))]
def r133_4 : LA := [fA 7 0 2, lD 8 7, fA 9 0 3, lD 10 9, oO 11 (.pure (oB (.call { callee := .builtin .max, args := #[(.tmp 8), (.tmp 10)], argTypes := #[3, 3] }) 3)), fA 12 1 2, lD 13 12, fA 14 1 3, lD 15 14, oO 16 (.pure (oB (.call { callee := .builtin .min, args := #[(.tmp 13), (.tmp 15)], argTypes := #[3, 3] }) 3)), oO 17 (.build [(cI 0), (cI 0)] [(0, 1, (.tmp 11)), (1, 1, (.tmp 16))]), oO 6 (.alloc [(cI 0), (cI 0)]), sD 2 6 17]
def r133_6 : LA := [lA 18 2 6, fA 19 0 6, lD 20 19, fA 21 1 6, lD 22 21, bT 23 .leq 20 22, sD 2 4 18, oM 5 23]
def tr133 : TG := [tT 0 [2, 3, 4], tT 1 [4, 6], tT 2 [4, 5]]
def tl133 : TG := []
def rs133 : List AResV := [.cell 4 true 2, .tmp 5]
def pr133_0_0 : PT (List RV) := pRs [pR true [rD (dI .i64), rD (dI .i64)], pR false [rD dB]]
def ur133_0_0 {β : Type} (g : List RV -> β) : Int -> Int -> Bool -> β := pr133_0_0.unc g
def E133_0g : EnvK := EnvK.of [] noSeq
def E133_0 : EnvK := E133_0g
theorem eo133_0 : E133_0.Ok Pg := EnvK.of_ok noSeq_ok trivial
abbrev Tf133_0 : Type 1 := (α : Type) -> Int -> Int -> Int -> Int -> (Int -> Int -> Bool -> Op α) -> Op α
def f133_0g (α : Type) (a b c d : Int) (k1 : Int -> Int -> Bool -> Op α) : Op α :=
 k1 (if c > a then c else a) (if d < b then d else b) (decide ((if c > a then c else a) <= (if d < b then d else b)))
def f133_0 (α : Type) (a b c d : Int) (k1 : Int -> Int -> Bool -> Op α) : Op α := f133_0g α a b c d k1
def pa133_0 : PT (List DV) := pA [pV true [(dI .i64), (dI .i64)], pV true [(dI .i64), (dI .i64)]]
def Fn133_0 (v : Tf133_0) (α : Type) (k : RT α) : I4 (Op α) := fun a b c d => v α a b c d (fun e g h => ur133_0_0 k e g h)
def cm133_0g : MCode := (.seq (.region r133_2 [] (tO [2, 3, 4])) (.seq (.region r133_4 [] (tO [4, 6])) (.seq (.region r133_6 [(2, 6), (4, 6)] (tO [4, 5])) .ret)))
def cm133_0 : MCode := cm133_0g
theorem gm133_0 : cm133_0.Good Pg E133_0 sh133 := ⟨trivial, ⟨trivial, ⟨trivial, trivial⟩⟩⟩
theorem fm133_0g (α : Type) (k : RT α) : Fn133_0 (f133_0g ) α k = pa133_0.unc fun ds => fnM Pg (E133_0g ) sh133 (cm133_0g ) rs133 k ds := by kernel_rfl
theorem fm133_0 : ∀ (α : Type) (k : RT α), Fn133_0 f133_0 α k = pa133_0.unc fun ds => fnM Pg E133_0 sh133 cm133_0 rs133 k ds := fm133_0g
theorem is133 : FnIs Pg 133 nt133 tr133 tl133 cm133_0.erase rs133 := ⟨Tryz.f133, Tryz.func133, rfl, by kernel_rfl, by kernel_rfl, by kernel_rfl⟩
theorem io133_0 : InstOk Pg 133 nt133 ⟨pa133_0, Fn133_0 f133_0⟩ := inst_ok eo133_0 followsTry is133 ⟨⟨sh133, cm133_0, by kernel_rfl, gm133_0, fm133_0⟩⟩
abbrev nt130 : Nat := 12
def sh130 : SG := [(5, iT), (9, iT)]
def r130_2 : LA := [mK 3 0]
def r130_4 : LA := [fA 4 2 1, lD 5 4, bK 6 .mul 5 1048576, oM 7 0, fA 8 0 1, lD 9 8, bT 10 .mul 7 9, bT 11 .sub 6 10, oM 3 11]
def tr130 : TG := [tT 0 [0, 1], tT 1 [3]]
def tl130 : TG := []
def rs130 : List AResV := [.tmp 3]
def pr130_0_0 : PT (List RV) := pRs [wI]
def ur130_0_0 {β : Type} (g : List RV -> β) : Int -> β := pr130_0_0.unc g
def E130_0g : EnvK := EnvK.of [] noSeq
def E130_0 : EnvK := E130_0g
theorem eo130_0 : E130_0.Ok Pg := EnvK.of_ok noSeq_ok trivial
abbrev Tf130_0 : Type 1 := (α : Type) -> Int -> Int -> Int -> Int -> (Int -> Op α) -> Op α
def f130_0g (α : Type) (a b d c : Int) (k1 : Int -> Op α) : Op α :=
 k1 (w64 ((w64 (c * 1048576)) - (w64 (a * b))))
def f130_0 (α : Type) (a b c d : Int) (k1 : Int -> Op α) : Op α := f130_0g α a b c d k1
def pa130_0 : PT (List DV) := pA [vI, pV false [(dP [(dI .i64), (dI .i64), (dI .i64)] 0)]]
def Fn130_0 (v : Tf130_0) (α : Type) (k : RT α) : I4 (Op α) := fun a b c d => v α a b c d (fun e => ur130_0_0 k e)
def cm130_0g : MCode := (.seq (.region r130_2 [] (tO [0, 1])) (.seq (.region r130_4 [] (tO [3])) .ret))
def cm130_0 : MCode := cm130_0g
theorem gm130_0 : cm130_0.Good Pg E130_0 sh130 := ⟨trivial, ⟨trivial, trivial⟩⟩
theorem fm130_0g (α : Type) (k : RT α) : Fn130_0 (f130_0g ) α k = pa130_0.unc fun ds => fnM Pg (E130_0g ) sh130 (cm130_0g ) rs130 k ds := by kernel_rfl
theorem fm130_0 : ∀ (α : Type) (k : RT α), Fn130_0 f130_0 α k = pa130_0.unc fun ds => fnM Pg E130_0 sh130 cm130_0 rs130 k ds := fm130_0g
theorem is130 : FnIs Pg 130 nt130 tr130 tl130 cm130_0.erase rs130 := ⟨Tryz.f130, Tryz.func130, rfl, by kernel_rfl, by kernel_rfl, by kernel_rfl⟩
theorem io130_0 : InstOk Pg 130 nt130 ⟨pa130_0, Fn130_0 f130_0⟩ := inst_ok eo130_0 followsTry is130 ⟨⟨sh130, cm130_0, by kernel_rfl, gm130_0, fm130_0⟩⟩
abbrev nt129 : Nat := 13
def sh129 : SG := [(5, iT), (9, iT)]
def r129_2 : LA := [mK 3 0]
def r129_4 : LA := [fA 4 0 1, lD 5 4, bK 6 .mul 5 1048576, oM 7 0, fA 8 2 1, lD 9 8, bT 10 .mul 7 9, bT 11 .sub 6 10, bK 12 .mul 11 1048576, oM 3 12]
def tr129 : TG := [tT 0 [0, 1], tT 1 [3]]
def tl129 : TG := []
def rs129 : List AResV := [.tmp 3]
def pr129_0_0 : PT (List RV) := pRs [wI]
def ur129_0_0 {β : Type} (g : List RV -> β) : Int -> β := pr129_0_0.unc g
def E129_0g : EnvK := EnvK.of [] noSeq
def E129_0 : EnvK := E129_0g
theorem eo129_0 : E129_0.Ok Pg := EnvK.of_ok noSeq_ok trivial
abbrev Tf129_0 : Type 1 := (α : Type) -> Int -> Int -> Int -> Int -> (Int -> Op α) -> Op α
def f129_0g (α : Type) (a b d c : Int) (k1 : Int -> Op α) : Op α :=
 k1 (w64 ((w64 ((w64 (b * 1048576)) - (w64 (a * c)))) * 1048576))
def f129_0 (α : Type) (a b c d : Int) (k1 : Int -> Op α) : Op α := f129_0g α a b c d k1
def pa129_0 : PT (List DV) := pA [vI, pV false [(dP [(dI .i64), (dI .i64), (dI .i64)] 0)]]
def Fn129_0 (v : Tf129_0) (α : Type) (k : RT α) : I4 (Op α) := fun a b c d => v α a b c d (fun e => ur129_0_0 k e)
def cm129_0g : MCode := (.seq (.region r129_2 [] (tO [0, 1])) (.seq (.region r129_4 [] (tO [3])) .ret))
def cm129_0 : MCode := cm129_0g
theorem gm129_0 : cm129_0.Good Pg E129_0 sh129 := ⟨trivial, ⟨trivial, trivial⟩⟩
theorem fm129_0g (α : Type) (k : RT α) : Fn129_0 (f129_0g ) α k = pa129_0.unc fun ds => fnM Pg (E129_0g ) sh129 (cm129_0g ) rs129 k ds := by kernel_rfl
theorem fm129_0 : ∀ (α : Type) (k : RT α), Fn129_0 f129_0 α k = pa129_0.unc fun ds => fnM Pg E129_0 sh129 cm129_0 rs129 k ds := fm129_0g
theorem is129 : FnIs Pg 129 nt129 tr129 tl129 cm129_0.erase rs129 := ⟨Tryz.f129, Tryz.func129, rfl, by kernel_rfl, by kernel_rfl, by kernel_rfl⟩
theorem io129_0 : InstOk Pg 129 nt129 ⟨pa129_0, Fn129_0 f129_0⟩ := inst_ok eo129_0 followsTry is129 ⟨⟨sh129, cm129_0, by kernel_rfl, gm129_0, fm129_0⟩⟩
abbrev nt134 : Nat := 20
def sh134 : SG := [(5, iT), (9, iT), (14, iT), (17, iT)]
def r134_2 : LA := [oO 1 (.box (.tmp 0)), oO 2 (.alloc [(cI 0), (cI 0)]), mK 3 0]
def r134_5 : LA := [fA 4 0 1, lD 5 4, bK 6 .gtr 5 1048576, oM 7 6, oG 8 (.faddr 1 (.tmp 1)) 7 false, oG 9 (.load false 1 (.tmp 8)) 7 false, oG 10 (.bin .lss 3 (.tmp 9) (kI (-1048576))) 7 false, oO 11 (.pick (.tmp 7) (.const (.bool true)) (.tmp 10))]
def r134_8 : LA := [oO 12 (.build [(cI 0), (cI 0)] []), sD 2 2 12, mK 3 24]
def r134_10 : LA := [fA 13 0 1, lD 14 13, oO 15 (.pure (oB (.call { callee := .builtin .max, args := #[(.tmp 14), (kI (-1048576))], argTypes := #[3, 3] }) 3)), fA 16 1 1, lD 17 16, oO 18 (.pure (oB (.call { callee := .builtin .min, args := #[(.tmp 17), (kI 1048576)], argTypes := #[3, 3] }) 3)), oO 19 (.build [(cI 0), (cI 0)] [(0, 1, (.tmp 15)), (1, 1, (.tmp 18))]), sD 2 2 19, mK 3 0]
def tr134 : TG := [tT 0 [1, 2], tT 1 [1, 2, 11], tT 2 [2, 3], tT 3 [2, 3]]
def tl134 : TG := []
def rs134 : List AResV := [.cell 2 true 2, .tmp 3]
def pr134_0_0 : PT (List RV) := pRs [pR true [rD (dI .i64), rD (dI .i64)], wI]
def ur134_0_0 {β : Type} (g : List RV -> β) : Int -> Int -> Int -> β := pr134_0_0.unc g
def E134_0g : EnvK := EnvK.of [] noSeq
def E134_0 : EnvK := E134_0g
theorem eo134_0 : E134_0.Ok Pg := EnvK.of_ok noSeq_ok trivial
abbrev Tf134_0 : Type 1 := (α : Type) -> Int -> Int -> (Int -> Int -> Int -> Op α) -> Op α
def f134_0g (α : Type) (a b : Int) (k1 : Int -> Int -> Int -> Op α) : Op α :=
 cK (decide (1048576 < a))
 (k1 0 0 24)
 (cK (decide (b < (-1048576)))
 (k1 0 0 24)
 (k1 (if (-1048576) > a then (-1048576) else a) (if 1048576 < b then 1048576 else b) 0))
def f134_0 (α : Type) (a b : Int) (k1 : Int -> Int -> Int -> Op α) : Op α := f134_0g α a b k1
def pa134_0 : PT (List DV) := pA [pV true [(dI .i64), (dI .i64)]]
def Fn134_0 (v : Tf134_0) (α : Type) (k : RT α) : Int -> Int -> Op α := fun a b => v α a b (fun c d e => ur134_0_0 k c d e)
def cm134_0g : MCode := (.seq (.region r134_2 [] (tO [1, 2])) (.seq (.seq (.region r134_5 [] (tO [1, 2, 11])) (.cond (.tmp 11) (.seq (.region r134_8 [] (tO [2, 3])) .ret) .skip)) (.seq (.region r134_10 [] (tO [2, 3])) .ret)))
def cm134_0 : MCode := cm134_0g
theorem gm134_0 : cm134_0.Good Pg E134_0 sh134 := ⟨trivial, ⟨⟨trivial, ⟨⟨trivial, trivial⟩, trivial⟩⟩, ⟨trivial, trivial⟩⟩⟩
theorem fm134_0g (α : Type) (k : RT α) : Fn134_0 (f134_0g ) α k = pa134_0.unc fun ds => fnM Pg (E134_0g ) sh134 (cm134_0g ) rs134 k ds := by kernel_rfl
theorem fm134_0 : ∀ (α : Type) (k : RT α), Fn134_0 f134_0 α k = pa134_0.unc fun ds => fnM Pg E134_0 sh134 cm134_0 rs134 k ds := fm134_0g
theorem is134 : FnIs Pg 134 nt134 tr134 tl134 cm134_0.erase rs134 := ⟨Tryz.f134, Tryz.func134, rfl, by kernel_rfl, by kernel_rfl, by kernel_rfl⟩
theorem io134_0 : InstOk Pg 134 nt134 ⟨pa134_0, Fn134_0 f134_0⟩ := inst_ok eo134_0 followsTry is134 ⟨⟨sh134, cm134_0, by kernel_rfl, gm134_0, fm134_0⟩⟩
abbrev nt220 : Nat := 14
def sh220 : SG := []
def r220_2 : LA := [oO 4 (.mv (.const (.bool false)))]
def r220_4 : LA := [oM 5 1, oO 6 (.pure (oB (.unOp .neg 3 (.tmp 5)) 3)), oM 7 0, bT 8 .leq 6 7, oM 9 8, oG 10 (.mv (.tmp 0)) 9 true, oG 11 (.mv (.tmp 1)) 9 true, oG 12 (.bin .leq 3 (.tmp 10) (.tmp 11)) 9 true, oO 13 (.pick (.tmp 9) (.tmp 12) (.const (.bool false))), oM 4 13]
def tr220 : TG := [tT 0 [0, 1], tT 1 [4]]
def tl220 : TG := []
def rs220 : List AResV := [.tmp 4]
def pr220_0_0 : PT (List RV) := pRs [pR false [rD dB]]
def ur220_0_0 {β : Type} (g : List RV -> β) : Bool -> β := pr220_0_0.unc g
def E220_0g : EnvK := EnvK.of [] noSeq
def E220_0 : EnvK := E220_0g
theorem eo220_0 : E220_0.Ok Pg := EnvK.of_ok noSeq_ok trivial
abbrev Tf220_0 : Type 1 := (α : Type) -> Int -> Int -> (Bool -> Op α) -> Op α
def f220_0g (α : Type) (a b : Int) (k1 : Bool -> Op α) : Op α :=
 cK (decide ((w64 (0 - b)) <= a))
 (k1 (decide (a <= b)))
 (k1 false)
def f220_0 (α : Type) (a b : Int) (k1 : Bool -> Op α) : Op α := f220_0g α a b k1
def pa220_0 : PT (List DV) := pA [vI, vI]
def Fn220_0 (v : Tf220_0) (α : Type) (k : RT α) : Int -> Int -> Op α := fun a b => v α a b (fun c => ur220_0_0 k c)
def cm220_0g : MCode := (.seq (.region r220_2 [] (tO [0, 1])) (.seq (.region r220_4 [] (tO [4])) .ret))
def cm220_0 : MCode := cm220_0g
theorem gm220_0 : cm220_0.Good Pg E220_0 sh220 := ⟨trivial, ⟨trivial, trivial⟩⟩
theorem fm220_0g (α : Type) (k : RT α) : Fn220_0 (f220_0g ) α k = pa220_0.unc fun ds => fnM Pg (E220_0g ) sh220 (cm220_0g ) rs220 k ds := by kernel_rfl
theorem fm220_0 : ∀ (α : Type) (k : RT α), Fn220_0 f220_0 α k = pa220_0.unc fun ds => fnM Pg E220_0 sh220 cm220_0 rs220 k ds := fm220_0g
theorem is220 : FnIs Pg 220 nt220 tr220 tl220 cm220_0.erase rs220 := ⟨Tryz.f220, Tryz.func220, rfl, by kernel_rfl, by kernel_rfl, by kernel_rfl⟩
theorem io220_0 : InstOk Pg 220 nt220 ⟨pa220_0, Fn220_0 f220_0⟩ := inst_ok eo220_0 followsTry is220 ⟨⟨sh220, cm220_0, by kernel_rfl, gm220_0, fm220_0⟩⟩
abbrev nt219 : Nat := 54
def sh219 : SG := [(12, [.int .u8]), (13, [.int .u8])]
def r219_2 : LA := [oO 2 (.mv (.const (.bool false)))]
def r219_5 : LA := [oM 6 0, oO 7 (.bytes (.tmp 6)), oO 8 (.len (.tmp 7)), mK 9 0]
def td219_7 : OT := (some ⟨[0, 7, 8, 9], true, [⟨false, 7, 0, 20007, 1⟩], []⟩)
def r219_9 : LA := [bT 10 .lss 9 8]
def r219_15 : LA := [oM 11 9, oO 12 (.iaddr 1 none (.tmp 7) (.tmp 9)), lD 13 12, oM 3 11, oM 4 13]
def r219_17 : LA := [oM 14 4, oO 15 (.bin .geq 5 (.tmp 14) (.const (.int .u8 97))), oM 16 15, oG 17 (.mv (.tmp 4)) 16 true, oG 18 (.bin .leq 5 (.tmp 17) (.const (.int .u8 122))) 16 true, oO 19 (.pick (.tmp 16) (.tmp 18) (.const (.bool false))), oM 20 19, oG 21 (.mv (.tmp 4)) 20 false, oG 22 (.bin .geq 5 (.tmp 21) (.const (.int .u8 65))) 20 false, oG 23 (.mv (.tmp 22)) 20 false, oG 24 (.mv (.tmp 4)) 23 true, oG 25 (.bin .leq 5 (.tmp 24) (.const (.int .u8 90))) 23 true, oG 26 (.pick (.tmp 23) (.tmp 25) (.const (.bool false))) 20 false, oO 27 (.pick (.tmp 20) (.const (.bool true)) (.tmp 26)), oM 5 27]
def r219_19 : LA := [oM 28 5, oO 29 (.pure (oB (.unOp .not 4 (.tmp 28)) 4)), oM 30 29, oG 31 (.mv (.tmp 3)) 30 true, oG 32 (.bin .eql 3 (.tmp 31) (kI 0)) 30 true, oG 33 (.mv (.tmp 32)) 30 true, oG 34 (.mv (.tmp 4)) 33 false, oG 35 (.bin .neq 5 (.tmp 34) (.const (.int .u8 45))) 33 false, oG 36 (.mv (.tmp 35)) 33 false, oG 37 (.mv (.tmp 4)) 36 true, oG 38 (.bin .lss 5 (.tmp 37) (.const (.int .u8 48))) 36 true, oG 39 (.mv (.tmp 38)) 36 true, oG 40 (.mv (.tmp 4)) 39 false, oG 41 (.bin .gtr 5 (.tmp 40) (.const (.int .u8 57))) 39 false, oG 42 (.pick (.tmp 39) (.const (.bool true)) (.tmp 41)) 36 true, oG 43 (.pick (.tmp 36) (.tmp 42) (.const (.bool false))) 33 false, oG 44 (.pick (.tmp 33) (.const (.bool true)) (.tmp 43)) 30 true, oO 45 (.pick (.tmp 30) (.tmp 44) (.const (.bool false)))]
def r219_22 : LA := [oO 2 (.mv (.const (.bool false)))]
def r219_23 : LA := [bK 46 .add 9 1, oM 9 46]
def r219_25 : LA := [oM 47 0, ⟨(some 48), (.bin .neq 9 (.tmp 47) (.const (.string ⟨#[]⟩))), none⟩, oM 49 48, oG 50 (.mv (.tmp 0)) 49 true, oG 51 (.pure (oB (.call { callee := .builtin .len, args := #[(.tmp 50)], argTypes := #[9] }) 3)) 49 true, oG 52 (.bin .leq 3 (.tmp 51) (kI 12)) 49 true, oO 53 (.pick (.tmp 49) (.tmp 52) (.const (.bool false))), oM 2 53]
def tr219 : TG := [tT 0 [0], tT 1 [0, 7, 8, 9], tT 2 [0, 7, 8, 9, 10], tT 3 [0, 3, 4, 7, 8, 9], tT 4 [0, 3, 4, 5, 7, 8, 9], tT 5 [0, 7, 8, 9, 45], tT 6 [2], tT 7 [0, 7, 8, 9], tT 8 [2]]
def tl219 : TG := [(2, ⟨[0, 7, 8, 9], true, [⟨false, 7, 0, 20007, 1⟩], []⟩)]
def rs219 : List AResV := [.tmp 2]
def p219_0_0 : PT St := pS [sl 0 (aV false [(cD dS)]), sI 3, sl 4 (aV false [(cD (dI .u8))]), sl 7 (aV false [(cRef 20007)]), sI 8, sI 9] [eOwn 20007 1]
def u219_0_0 {β : Type} (g : St -> β) : BA -> Int -> Int -> Int -> Int -> Rows -> β := p219_0_0.unc g
def p219_0_1 : PT St := pS [sl 0 (aV false [(cD dS)]), sI 3, sl 4 (aV false [(cD (dI .u8))]), sl 5 (aV false [(cD dB)]), sl 7 (aV false [(cRef 20007)]), sI 8, sI 9] [eOwn 20007 1]
def u219_0_1 {β : Type} (g : St -> β) : BA -> Int -> Int -> Bool -> Int -> Int -> Rows -> β := p219_0_1.unc g
def p219_0_2 : PT St := pS [sl 0 (aV false [(cD dS)]), sl 7 (aV false [(cRef 20007)]), sI 8, sI 9, sl 45 (aV false [(cD dB)])] [eOwn 20007 1]
def u219_0_2 {β : Type} (g : St -> β) : BA -> Int -> Int -> Bool -> Rows -> β := p219_0_2.unc g
def p219_0_3 : PT St := pS [sl 0 (aV false [(cD dS)]), sl 7 (aV false [(cRef 20007)]), sI 8, sI 9] [eOwn 20007 1]
def u219_0_3 {β : Type} (g : St -> β) : BA -> Int -> Int -> Rows -> β := p219_0_3.unc g
def p219_0_4 : PT St := pS [sl 2 (aV false [(cD dB)])] []
def u219_0_4 {β : Type} (g : St -> β) : Bool -> β := p219_0_4.unc g
def p219_0_5 : PT St := pS [sl 0 (aV false [(cD dS)]), sl 7 (aV false [(cRef 20007)]), sI 8, sI 9, sl 10 (aV false [(cD dB)])] [eOwn 20007 1]
def u219_0_5 {β : Type} (g : St -> β) : BA -> Int -> Int -> Bool -> Rows -> β := p219_0_5.unc g
def pr219_0_0 : PT (List RV) := pRs [pR false [rD dB]]
def ur219_0_0 {β : Type} (g : List RV -> β) : Bool -> β := pr219_0_0.unc g
def E219_0g : EnvK := EnvK.of [] noSeq
def E219_0 : EnvK := E219_0g
theorem eo219_0 : E219_0.Ok Pg := EnvK.of_ok noSeq_ok trivial
def c219_0_18g : MCode := (.region r219_19 [] (tO [0, 7, 8, 9, 45]))
def c219_0_18 : MCode := c219_0_18g
theorem g219_0_18 : c219_0_18.Good Pg E219_0 sh219 := trivial
abbrev TJ219_0_1 : Type 1 := (α : Type) -> Int -> Int -> Bool -> (Bool -> Op α) -> Op α
def J219_0_1g (α : Type) (b a : Int) (c : Bool) (k1 : Bool -> Op α) : Op α :=
 cK (!c)
 (cK (b == 0)
 (k1 true)
 (cK (a != 45)
 (cK (decide (a < 48))
 (k1 true)
 (k1 (decide (57 < a))))
 (k1 false)))
 (k1 false)
def J219_0_1 (α : Type) (a b : Int) (c : Bool) (k1 : Bool -> Op α) : Op α := J219_0_1g α a b c k1
def F219_0_1 (v : TJ219_0_1) (α : Type) (K : KT α) : BA -> Int -> Int -> Bool -> Int -> Int -> Rows -> Op α := fun a b c d e g h => v α b c d (fun i => u219_0_2 (K .normal) a e g i h)
theorem m219_0_1g (α : Type) (K : KT α) : F219_0_1 (J219_0_1g ) α K = p219_0_1.unc fun σ => runM Pg (E219_0g ) sh219 (c219_0_18g ) K σ := by kernel_rfl
theorem m219_0_1 : ∀ (α : Type) (K : KT α), F219_0_1 J219_0_1 α K = p219_0_1.unc fun σ => runM Pg E219_0 sh219 c219_0_18 K σ := m219_0_1g
def c219_0_16g : MCode := (.region r219_17 [] (tO [0, 3, 4, 5, 7, 8, 9]))
def c219_0_16 : MCode := c219_0_16g
theorem g219_0_16 : c219_0_16.Good Pg E219_0 sh219 := trivial
abbrev TJ219_0_0 : Type 1 := (α : Type) -> Int -> (Bool -> Op α) -> Op α
def J219_0_0g (α : Type) (a : Int) (k1 : Bool -> Op α) : Op α :=
 cK (decide (97 <= a))
 (cK (decide (a <= 122))
 (k1 true)
 (cK (decide (65 <= a))
 (k1 (decide (a <= 90)))
 (k1 false)))
 (cK (decide (65 <= a))
 (k1 (decide (a <= 90)))
 (k1 false))
def J219_0_0 (α : Type) (a : Int) (k1 : Bool -> Op α) : Op α := J219_0_0g α a k1
def F219_0_0 (v : TJ219_0_0) (α : Type) (K : KT α) : BA -> Int -> Int -> Int -> Int -> Rows -> Op α := fun b c a d e g => v α a (fun h => u219_0_1 (K .normal) b c a h d e g)
theorem m219_0_0g (α : Type) (K : KT α) : F219_0_0 (J219_0_0g ) α K = p219_0_0.unc fun σ => runM Pg (E219_0g ) sh219 (c219_0_16g ) K σ := by kernel_rfl
theorem m219_0_0 : ∀ (α : Type) (K : KT α), F219_0_0 J219_0_0 α K = p219_0_0.unc fun σ => runM Pg E219_0 sh219 c219_0_16 K σ := m219_0_0g
def c219_0_7g (a : TJ219_0_0) (b : TJ219_0_1) : MCode := (.seq (.region r219_9 [] (tO [0, 7, 8, 9, 10])) (.seq (.cond (.tmp 10) .skip (.exit 0)) (.seq (.block 1 (.seq (.region r219_15 [] (tO [0, 3, 4, 7, 8, 9])) (.seq (.mark [⟨p219_0_0, F219_0_0 a⟩] c219_0_16) (.seq (.mark [⟨p219_0_1, F219_0_1 b⟩] c219_0_18) (.cond (.tmp 45) (.seq (.region r219_22 [] (tO [2])) .ret) .skip))))) (.region r219_23 [] (tO [0, 7, 8, 9])))))
def c219_0_7 : MCode := c219_0_7g J219_0_0 J219_0_1
theorem g219_0_7 : c219_0_7.Good Pg E219_0 sh219 := ⟨trivial, ⟨⟨trivial, trivial⟩, ⟨⟨trivial, ⟨⟨g219_0_16, m219_0_0, trivial⟩, ⟨⟨g219_0_18, m219_0_1, trivial⟩, ⟨⟨trivial, trivial⟩, trivial⟩⟩⟩⟩, trivial⟩⟩⟩
def S219_0_2g (e : TJ219_0_0) (g : TJ219_0_1) (α : Type) (b : Int) (c : Rows) (a : Int) (kn : Int -> Op α) (k1 : Op α) (k2 : Int -> Bool -> Op α) : Op α :=
 cK (decide (a < b))
 (ixK c a 1
 (ldK c (Int.toNat a) 0 [.int .u8]
 (fun d => e α d
 (fun h => g α a d h
 (fun i => cK i
 (k1)
 (kn (w64 (a + 1))))))))
 (k2 a (decide (a < b)))
def S219_0_2 (α : Type) (a : Int) (b : Rows) (c : Int) (kn : Int -> Op α) (k1 : Op α) (k2 : Int -> Bool -> Op α) : Op α := S219_0_2g J219_0_0 J219_0_1 α a b c kn k1 k2
def R219_0_2 (α : Type) (a : Int) (b : Rows) (k1 : Op α) (k2 : Int -> Bool -> Op α) : Nat -> Int -> Op α
 | 0, _ => none
 | n + 1, c => S219_0_2 α a b c (R219_0_2 α a b k1 k2 n) k1 k2
def L219_0_2 (α : Type) (a : Int) (b : Rows) (k1 : Op α) (k2 : Int -> Bool -> Op α) (c : Int) : Op α := R219_0_2 α a b k1 k2 fuel c
abbrev TL219_0_2 : Type 1 := (α : Type) -> Int -> Rows -> (Op α) -> (Int -> Bool -> Op α) -> Int -> Op α
def F219_0_2 (v : TL219_0_2) (α : Type) (K : KT α) : BA -> Int -> Int -> Rows -> Op α := fun c a d b => v α a b (u219_0_4 (K .ret) false) (fun e g => u219_0_5 (K (.exit 0)) c a e g b) d
theorem r219_0_2g (e : TJ219_0_0) (g : TJ219_0_1) (α : Type) (K : KT α) (Kn : SK α) (d : BA) (a b : Int) (c : Rows) : u219_0_3 (fun σ => runM Pg (E219_0g ) sh219 (c219_0_7g e g) (thenK (fun σ => tidyK td219_7 σ Kn) K) σ) d a b c = S219_0_2g e g α a c b (fun b => u219_0_3 Kn d a b c) (u219_0_4 (K .ret) false) (fun h i => u219_0_5 (K (.exit 0)) d a h i c) := by kernel_rfl
theorem r219_0_2 (α : Type) (K : KT α) (Kn : SK α) (d : BA) (a b : Int) (c : Rows) : u219_0_3 (fun σ => runM Pg E219_0 sh219 c219_0_7 (thenK (fun σ => tidyK td219_7 σ Kn) K) σ) d a b c = S219_0_2 α a c b (fun b => u219_0_3 Kn d a b c) (u219_0_4 (K .ret) false) (fun e g => u219_0_5 (K (.exit 0)) d a e g c) := r219_0_2g J219_0_0 J219_0_1 α K Kn d a b c
theorem t219_0_2 (α : Type) (K : KT α) : ∀ (n : Nat) (d : BA) (a c : Int) (b : Rows), R219_0_2 α a b (u219_0_4 (K .ret) false) (fun e g => u219_0_5 (K (.exit 0)) d a e g b) n c = u219_0_3 (loopT (runM Pg E219_0 sh219 c219_0_7) td219_7 K n) d a c b := by
 intro n
 induction n with
 | zero => intros; rfl
 | succ n ih => intro d a c b; exact (congrArg (fun kn => S219_0_2 α a b c kn (u219_0_4 (K .ret) false) (fun e g => u219_0_5 (K (.exit 0)) d a e g b)) (funext fun c => ih d a c b)).trans (r219_0_2 α K (loopT (runM Pg E219_0 sh219 c219_0_7) td219_7 K n) d a c b).symm
theorem m219_0_2 : ∀ (α : Type) (K : KT α), F219_0_2 L219_0_2 α K = p219_0_3.unc fun σ => loopT (runM Pg E219_0 sh219 c219_0_7) td219_7 K fuel σ := fun α K => by funext a b c d; exact t219_0_2 α K fuel a b c d
abbrev Tf219_0 : Type 1 := (α : Type) -> BA -> (Bool -> Op α) -> Op α
def f219_0g (b : TL219_0_2) (α : Type) (a : BA) (k1 : Bool -> Op α) : Op α :=
 gK (decide (ByteArray.size a <= 9223372036854775807)) (b α ((List.length (bytesR a) : Nat) : Int) (bytesR a)
 (k1 false)
 (fun c d => cK (!(a.toList == (⟨#[]⟩ : BA).toList))
 (k1 (decide (((ByteArray.size a : Nat) : Int) <= 12)))
 (k1 false)) 0)
def f219_0 (α : Type) (a : BA) (k1 : Bool -> Op α) : Op α := f219_0g L219_0_2 α a k1
def pa219_0 : PT (List DV) := pA [pV false [dS]]
def Fn219_0 (v : Tf219_0) (α : Type) (k : RT α) : BA -> Op α := fun a => v α a (fun b => ur219_0_0 k b)
def cm219_0g (a : TL219_0_2) : MCode := (.seq (.region r219_2 [] (tO [0])) (.seq (.seq (.region r219_5 [] (tO [0, 7, 8, 9])) (.block 0 (.loop td219_7 [⟨p219_0_3, F219_0_2 a⟩] c219_0_7))) (.seq (.region r219_25 [] (tO [2])) .ret)))
def cm219_0 : MCode := cm219_0g L219_0_2
theorem gm219_0 : cm219_0.Good Pg E219_0 sh219 := ⟨trivial, ⟨⟨trivial, ⟨g219_0_7, m219_0_2, trivial⟩⟩, ⟨trivial, trivial⟩⟩⟩
theorem fm219_0g (a : TL219_0_2) (α : Type) (k : RT α) : Fn219_0 (f219_0g a) α k = pa219_0.unc fun ds => fnM Pg (E219_0g ) sh219 (cm219_0g a) rs219 k ds := by kernel_rfl
theorem fm219_0 : ∀ (α : Type) (k : RT α), Fn219_0 f219_0 α k = pa219_0.unc fun ds => fnM Pg E219_0 sh219 cm219_0 rs219 k ds := fm219_0g L219_0_2
theorem is219 : FnIs Pg 219 nt219 tr219 tl219 cm219_0.erase rs219 := ⟨Tryz.f219, Tryz.func219, rfl, by kernel_rfl, by kernel_rfl, by kernel_rfl⟩
theorem io219_0 : InstOk Pg 219 nt219 ⟨pa219_0, Fn219_0 f219_0⟩ := inst_ok eo219_0 followsTry is219 ⟨⟨sh219, cm219_0, by kernel_rfl, gm219_0, fm219_0⟩⟩
abbrev nt275 : Nat := 10
def sh275 : SG := [(4, iS 2), (6, iS 2), (8, iS 2)]
def r275_2 : LA := [oO 1 (.box (.tmp 0)), oO 2 (.alloc (zI 6))]
def r275_4 : LA := [fA 3 0 1, lA 4 2 3, fA 5 2 1, lA 6 2 5, fA 7 4 1, lA 8 2 7, oO 9 (.build (zI 6) [(0, 2, (.tmp 4)), (2, 2, (.tmp 6)), (4, 2, (.tmp 8))]), sD 6 2 9]
def tr275 : TG := [tT 0 [1, 2], tT 1 [2]]
def tl275 : TG := []
def rs275 : List AResV := [.cell 2 true 6]
def pr275_0_0 : PT (List RV) := pRs [pR true [rD (dI .i64), rD (dI .i64), rD (dI .i64), rD (dI .i64), rD (dI .i64), rD (dI .i64)]]
def ur275_0_0 {β : Type} (g : List RV -> β) : I6 β := pr275_0_0.unc g
def E275_0g : EnvK := EnvK.of [] noSeq
def E275_0 : EnvK := E275_0g
theorem eo275_0 : E275_0.Ok Pg := EnvK.of_ok noSeq_ok trivial
abbrev Tf275_0 : Type 1 := (α : Type) -> Int -> Int -> Int -> Int -> Int -> Int -> (I6 (Op α)) -> Op α
def f275_0g (α : Type) (a b c d e g : Int) (k1 : I6 (Op α)) : Op α :=
 k1 a b c d e g
def f275_0 (α : Type) (a b c d e g : Int) (k1 : I6 (Op α)) : Op α := f275_0g α a b c d e g k1
def pa275_0 : PT (List DV) := pA [pV true [(dI .i64), (dI .i64), (dI .i64), (dI .i64), (dI .i64), (dI .i64)]]
def Fn275_0 (v : Tf275_0) (α : Type) (k : RT α) : I6 (Op α) := fun a b c d e g => v α a b c d e g (fun h i j l m o => ur275_0_0 k h i j l m o)
def cm275_0g : MCode := (.seq (.region r275_2 [] (tO [1, 2])) (.seq (.region r275_4 [] (tO [2])) .ret))
def cm275_0 : MCode := cm275_0g
theorem gm275_0 : cm275_0.Good Pg E275_0 sh275 := ⟨trivial, ⟨trivial, trivial⟩⟩
theorem fm275_0g (α : Type) (k : RT α) : Fn275_0 (f275_0g ) α k = pa275_0.unc fun ds => fnM Pg (E275_0g ) sh275 (cm275_0g ) rs275 k ds := by kernel_rfl
theorem fm275_0 : ∀ (α : Type) (k : RT α), Fn275_0 f275_0 α k = pa275_0.unc fun ds => fnM Pg E275_0 sh275 cm275_0 rs275 k ds := fm275_0g
theorem is275 : FnIs Pg 275 nt275 tr275 tl275 cm275_0.erase rs275 := ⟨Tryz.f275, Tryz.func275, rfl, by kernel_rfl, by kernel_rfl, by kernel_rfl⟩
theorem io275_0 : InstOk Pg 275 nt275 ⟨pa275_0, Fn275_0 f275_0⟩ := inst_ok eo275_0 followsTry is275 ⟨⟨sh275, cm275_0, by kernel_rfl, gm275_0, fm275_0⟩⟩
abbrev nt216 : Nat := 16
def sh216 : SG := []
def r216_2 : LA := [mK 4 0]
def r216_4 : LA := [oM 6 0, oM 7 1, bT 8 .quo 6 7, oM 5 8]
def r216_7 : LA := [oM 9 0, oM 10 1, bT 11 .rem 9 10, bK 12 .lss 11 0]
def r216_9 : LA := [oM 13 5, bK 14 .sub 13 1, oM 5 14]
def r216_11 : LA := [oM 15 5, oM 4 15]
def tr216 : TG := [tT 0 [0, 1], tT 1 [0, 1, 5], tT 2 [5, 12], tT 3 [5], tT 4 [4]]
def tl216 : TG := []
def rs216 : List AResV := [.tmp 4]
def pr216_0_0 : PT (List RV) := pRs [wI]
def ur216_0_0 {β : Type} (g : List RV -> β) : Int -> β := pr216_0_0.unc g
def E216_0g : EnvK := EnvK.of [] noSeq
def E216_0 : EnvK := E216_0g
theorem eo216_0 : E216_0.Ok Pg := EnvK.of_ok noSeq_ok trivial
abbrev Tf216_0 : Type 1 := (α : Type) -> Int -> Int -> (Int -> Op α) -> Op α
def f216_0g (α : Type) (b a : Int) (k1 : Int -> Op α) : Op α :=
 gK (a != 0) (gK (a != 0) (cK (decide ((Int.tmod b a) < 0))
 (k1 (w64 ((w64 (Int.tdiv b a)) - 1)))
 (k1 (w64 (Int.tdiv b a)))))
def f216_0 (α : Type) (a b : Int) (k1 : Int -> Op α) : Op α := f216_0g α a b k1
def pa216_0 : PT (List DV) := pA [vI, vI]
def Fn216_0 (v : Tf216_0) (α : Type) (k : RT α) : Int -> Int -> Op α := fun a b => v α a b (fun c => ur216_0_0 k c)
def cm216_0g : MCode := (.seq (.region r216_2 [] (tO [0, 1])) (.seq (.region r216_4 [] (tO [0, 1, 5])) (.seq (.seq (.region r216_7 [] (tO [5, 12])) (.cond (.tmp 12) (.region r216_9 [] (tO [5])) .skip)) (.seq (.region r216_11 [] (tO [4])) .ret))))
def cm216_0 : MCode := cm216_0g
theorem gm216_0 : cm216_0.Good Pg E216_0 sh216 := ⟨trivial, ⟨trivial, ⟨⟨trivial, ⟨trivial, trivial⟩⟩, ⟨trivial, trivial⟩⟩⟩⟩
theorem fm216_0g (α : Type) (k : RT α) : Fn216_0 (f216_0g ) α k = pa216_0.unc fun ds => fnM Pg (E216_0g ) sh216 (cm216_0g ) rs216 k ds := by kernel_rfl
theorem fm216_0 : ∀ (α : Type) (k : RT α), Fn216_0 f216_0 α k = pa216_0.unc fun ds => fnM Pg E216_0 sh216 cm216_0 rs216 k ds := fm216_0g
theorem is216 : FnIs Pg 216 nt216 tr216 tl216 cm216_0.erase rs216 := ⟨Tryz.f216, Tryz.func216, rfl, by kernel_rfl, by kernel_rfl, by kernel_rfl⟩
theorem io216_0 : InstOk Pg 216 nt216 ⟨pa216_0, Fn216_0 f216_0⟩ := inst_ok eo216_0 followsTry is216 ⟨⟨sh216, cm216_0, by kernel_rfl, gm216_0, fm216_0⟩⟩
abbrev nt131 : Nat := 23
def sh131 : SG := []
def r131_2 : LA := [mK 4 0]
def r131_4 : LA := [oM 6 0, oM 7 1, bT 8 .quo 6 7, oM 5 8]
def r131_7 : LA := [oM 9 0, oM 10 1, bT 11 .rem 9 10, bK 12 .neq 11 0, oM 13 12, oG 14 (.mv (.tmp 0)) 13 true, oG 15 (.bin .lss 3 (.tmp 14) (kI 0)) 13 true, oG 16 (.mv (.tmp 1)) 13 true, oG 17 (.bin .lss 3 (.tmp 16) (kI 0)) 13 true, oG 18 (.bin .neq 4 (.tmp 15) (.tmp 17)) 13 true, oO 19 (.pick (.tmp 13) (.tmp 18) (.const (.bool false)))]
def r131_9 : LA := [oM 20 5, bK 21 .sub 20 1, oM 5 21]
def r131_11 : LA := [oM 22 5, oM 4 22]
def tr131 : TG := [tT 0 [0, 1], tT 1 [0, 1, 5], tT 2 [5, 19], tT 3 [5], tT 4 [4]]
def tl131 : TG := []
def rs131 : List AResV := [.tmp 4]
def pr131_0_0 : PT (List RV) := pRs [wI]
def ur131_0_0 {β : Type} (g : List RV -> β) : Int -> β := pr131_0_0.unc g
def E131_0g : EnvK := EnvK.of [] noSeq
def E131_0 : EnvK := E131_0g
theorem eo131_0 : E131_0.Ok Pg := EnvK.of_ok noSeq_ok trivial
abbrev Tf131_0 : Type 1 := (α : Type) -> Int -> Int -> (Int -> Op α) -> Op α
def f131_0g (α : Type) (b a : Int) (k1 : Int -> Op α) : Op α :=
 gK (a != 0) (gK (a != 0) (cK ((Int.tmod b a) != 0)
 (cK (!((decide (b < 0)) == (decide (a < 0))))
 (k1 (w64 ((w64 (Int.tdiv b a)) - 1)))
 (k1 (w64 (Int.tdiv b a))))
 (k1 (w64 (Int.tdiv b a)))))
def f131_0 (α : Type) (a b : Int) (k1 : Int -> Op α) : Op α := f131_0g α a b k1
def pa131_0 : PT (List DV) := pA [vI, vI]
def Fn131_0 (v : Tf131_0) (α : Type) (k : RT α) : Int -> Int -> Op α := fun a b => v α a b (fun c => ur131_0_0 k c)
def cm131_0g : MCode := (.seq (.region r131_2 [] (tO [0, 1])) (.seq (.region r131_4 [] (tO [0, 1, 5])) (.seq (.seq (.region r131_7 [] (tO [5, 19])) (.cond (.tmp 19) (.region r131_9 [] (tO [5])) .skip)) (.seq (.region r131_11 [] (tO [4])) .ret))))
def cm131_0 : MCode := cm131_0g
theorem gm131_0 : cm131_0.Good Pg E131_0 sh131 := ⟨trivial, ⟨trivial, ⟨⟨trivial, ⟨trivial, trivial⟩⟩, ⟨trivial, trivial⟩⟩⟩⟩
theorem fm131_0g (α : Type) (k : RT α) : Fn131_0 (f131_0g ) α k = pa131_0.unc fun ds => fnM Pg (E131_0g ) sh131 (cm131_0g ) rs131 k ds := by kernel_rfl
theorem fm131_0 : ∀ (α : Type) (k : RT α), Fn131_0 f131_0 α k = pa131_0.unc fun ds => fnM Pg E131_0 sh131 cm131_0 rs131 k ds := fm131_0g
theorem is131 : FnIs Pg 131 nt131 tr131 tl131 cm131_0.erase rs131 := ⟨Tryz.f131, Tryz.func131, rfl, by kernel_rfl, by kernel_rfl, by kernel_rfl⟩
theorem io131_0 : InstOk Pg 131 nt131 ⟨pa131_0, Fn131_0 f131_0⟩ := inst_ok eo131_0 followsTry is131 ⟨⟨sh131, cm131_0, by kernel_rfl, gm131_0, fm131_0⟩⟩
abbrev nt119 : Nat := 14
def sh119 : SG := []
def r119_2 : LA := [mK 4 0]
def r119_4 : LA := [oM 5 0, oM 6 1, bT 7 .rem 5 6, oM 0 7]
def r119_7 : LA := [oM 8 0, bK 9 .lss 8 0]
def r119_9 : LA := [oM 10 0, oM 11 1, bT 12 .add 10 11, oM 0 12]
def r119_11 : LA := [oM 13 0, oM 4 13]
def tr119 : TG := [tT 0 [0, 1], tT 1 [0, 1], tT 2 [0, 1, 9], tT 3 [0], tT 4 [4]]
def tl119 : TG := []
def rs119 : List AResV := [.tmp 4]
def pr119_0_0 : PT (List RV) := pRs [wI]
def ur119_0_0 {β : Type} (g : List RV -> β) : Int -> β := pr119_0_0.unc g
def E119_0g : EnvK := EnvK.of [] noSeq
def E119_0 : EnvK := E119_0g
theorem eo119_0 : E119_0.Ok Pg := EnvK.of_ok noSeq_ok trivial
abbrev Tf119_0 : Type 1 := (α : Type) -> Int -> Int -> (Int -> Op α) -> Op α
def f119_0g (α : Type) (b a : Int) (k1 : Int -> Op α) : Op α :=
 gK (a != 0) (cK (decide ((Int.tmod b a) < 0))
 (k1 (w64 ((Int.tmod b a) + a)))
 (k1 (Int.tmod b a)))
def f119_0 (α : Type) (a b : Int) (k1 : Int -> Op α) : Op α := f119_0g α a b k1
def pa119_0 : PT (List DV) := pA [vI, vI]
def Fn119_0 (v : Tf119_0) (α : Type) (k : RT α) : Int -> Int -> Op α := fun a b => v α a b (fun c => ur119_0_0 k c)
def cm119_0g : MCode := (.seq (.region r119_2 [] (tO [0, 1])) (.seq (.region r119_4 [] (tO [0, 1])) (.seq (.seq (.region r119_7 [] (tO [0, 1, 9])) (.cond (.tmp 9) (.region r119_9 [] (tO [0])) .skip)) (.seq (.region r119_11 [] (tO [4])) .ret))))
def cm119_0 : MCode := cm119_0g
theorem gm119_0 : cm119_0.Good Pg E119_0 sh119 := ⟨trivial, ⟨trivial, ⟨⟨trivial, ⟨trivial, trivial⟩⟩, ⟨trivial, trivial⟩⟩⟩⟩
theorem fm119_0g (α : Type) (k : RT α) : Fn119_0 (f119_0g ) α k = pa119_0.unc fun ds => fnM Pg (E119_0g ) sh119 (cm119_0g ) rs119 k ds := by kernel_rfl
theorem fm119_0 : ∀ (α : Type) (k : RT α), Fn119_0 f119_0 α k = pa119_0.unc fun ds => fnM Pg E119_0 sh119 cm119_0 rs119 k ds := fm119_0g
theorem is119 : FnIs Pg 119 nt119 tr119 tl119 cm119_0.erase rs119 := ⟨Tryz.f119, Tryz.func119, rfl, by kernel_rfl, by kernel_rfl, by kernel_rfl⟩
theorem io119_0 : InstOk Pg 119 nt119 ⟨pa119_0, Fn119_0 f119_0⟩ := inst_ok eo119_0 followsTry is119 ⟨⟨sh119, cm119_0, by kernel_rfl, gm119_0, fm119_0⟩⟩
abbrev nt117 : Nat := 28
def sh117 : SG := [(6, iT), (8, iT), (11, iT), (13, iT), (17, iT), (19, iT), (22, iT), (24, iT)]
def r117_2 : LA := [oO 2 (.box (.tmp 0)), oO 3 (.box (.tmp 1)), oO 4 (.alloc [(cI 0), (cI 0)])]
def r117_4 : LA := [fA 5 0 2, lD 6 5, fA 7 0 3, lD 8 7, bT 9 .mul 6 8, fA 10 1 2, lD 11 10, fA 12 1 3, lD 13 12, bT 14 .mul 11 13, bT 15 .sub 9 14, fA 16 0 2, lD 17 16, fA 18 1 3, lD 19 18, bT 20 .mul 17 19, fA 21 1 2, lD 22 21, fA 23 0 3, lD 24 23, bT 25 .mul 22 24, bT 26 .add 20 25, oO 27 (.build [(cI 0), (cI 0)] [(0, 1, (.tmp 15)), (1, 1, (.tmp 26))]), sD 2 4 27]
def tr117 : TG := [tT 0 [2, 3, 4], tT 1 [4]]
def tl117 : TG := []
def rs117 : List AResV := [.cell 4 true 2]
def pr117_0_0 : PT (List RV) := pRs [pR true [rD (dI .i64), rD (dI .i64)]]
def ur117_0_0 {β : Type} (g : List RV -> β) : Int -> Int -> β := pr117_0_0.unc g
def E117_0g : EnvK := EnvK.of [] noSeq
def E117_0 : EnvK := E117_0g
theorem eo117_0 : E117_0.Ok Pg := EnvK.of_ok noSeq_ok trivial
abbrev Tf117_0 : Type 1 := (α : Type) -> Int -> Int -> Int -> Int -> (Int -> Int -> Op α) -> Op α
def f117_0g (α : Type) (a b c d : Int) (k1 : Int -> Int -> Op α) : Op α :=
 k1 (w64 ((w64 (a * c)) - (w64 (b * d)))) (w64 ((w64 (a * d)) + (w64 (b * c))))
def f117_0 (α : Type) (a b c d : Int) (k1 : Int -> Int -> Op α) : Op α := f117_0g α a b c d k1
def pa117_0 : PT (List DV) := pA [pV true [(dI .i64), (dI .i64)], pV true [(dI .i64), (dI .i64)]]
def Fn117_0 (v : Tf117_0) (α : Type) (k : RT α) : I4 (Op α) := fun a b c d => v α a b c d (fun e g => ur117_0_0 k e g)
def cm117_0g : MCode := (.seq (.region r117_2 [] (tO [2, 3, 4])) (.seq (.region r117_4 [] (tO [4])) .ret))
def cm117_0 : MCode := cm117_0g
theorem gm117_0 : cm117_0.Good Pg E117_0 sh117 := ⟨trivial, ⟨trivial, trivial⟩⟩
theorem fm117_0g (α : Type) (k : RT α) : Fn117_0 (f117_0g ) α k = pa117_0.unc fun ds => fnM Pg (E117_0g ) sh117 (cm117_0g ) rs117 k ds := by kernel_rfl
theorem fm117_0 : ∀ (α : Type) (k : RT α), Fn117_0 f117_0 α k = pa117_0.unc fun ds => fnM Pg E117_0 sh117 cm117_0 rs117 k ds := fm117_0g
theorem is117 : FnIs Pg 117 nt117 tr117 tl117 cm117_0.erase rs117 := ⟨Tryz.f117, Tryz.func117, rfl, by kernel_rfl, by kernel_rfl, by kernel_rfl⟩
theorem io117_0 : InstOk Pg 117 nt117 ⟨pa117_0, Fn117_0 f117_0⟩ := inst_ok eo117_0 followsTry is117 ⟨⟨sh117, cm117_0, by kernel_rfl, gm117_0, fm117_0⟩⟩
abbrev nt118 : Nat := 9
def sh118 : SG := [(4, iT), (6, iT)]
def r118_2 : LA := [oO 1 (.box (.tmp 0)), oO 2 (.alloc [(cI 0), (cI 0)])]
def r118_4 : LA := [fA 3 0 1, lD 4 3, fA 5 1 1, lD 6 5, oO 7 (.pure (oB (.unOp .neg 3 (.tmp 6)) 3)), oO 8 (.build [(cI 0), (cI 0)] [(0, 1, (.tmp 4)), (1, 1, (.tmp 7))]), sD 2 2 8]
def tr118 : TG := [tT 0 [1, 2], tT 1 [2]]
def tl118 : TG := []
def rs118 : List AResV := [.cell 2 true 2]
def pr118_0_0 : PT (List RV) := pRs [pR true [rD (dI .i64), rD (dI .i64)]]
def ur118_0_0 {β : Type} (g : List RV -> β) : Int -> Int -> β := pr118_0_0.unc g
def E118_0g : EnvK := EnvK.of [] noSeq
def E118_0 : EnvK := E118_0g
theorem eo118_0 : E118_0.Ok Pg := EnvK.of_ok noSeq_ok trivial
abbrev Tf118_0 : Type 1 := (α : Type) -> Int -> Int -> (Int -> Int -> Op α) -> Op α
def f118_0g (α : Type) (a b : Int) (k1 : Int -> Int -> Op α) : Op α :=
 k1 a (w64 (0 - b))
def f118_0 (α : Type) (a b : Int) (k1 : Int -> Int -> Op α) : Op α := f118_0g α a b k1
def pa118_0 : PT (List DV) := pA [pV true [(dI .i64), (dI .i64)]]
def Fn118_0 (v : Tf118_0) (α : Type) (k : RT α) : Int -> Int -> Op α := fun a b => v α a b (fun c d => ur118_0_0 k c d)
def cm118_0g : MCode := (.seq (.region r118_2 [] (tO [1, 2])) (.seq (.region r118_4 [] (tO [2])) .ret))
def cm118_0 : MCode := cm118_0g
theorem gm118_0 : cm118_0.Good Pg E118_0 sh118 := ⟨trivial, ⟨trivial, trivial⟩⟩
theorem fm118_0g (α : Type) (k : RT α) : Fn118_0 (f118_0g ) α k = pa118_0.unc fun ds => fnM Pg (E118_0g ) sh118 (cm118_0g ) rs118 k ds := by kernel_rfl
theorem fm118_0 : ∀ (α : Type) (k : RT α), Fn118_0 f118_0 α k = pa118_0.unc fun ds => fnM Pg E118_0 sh118 cm118_0 rs118 k ds := fm118_0g
theorem is118 : FnIs Pg 118 nt118 tr118 tl118 cm118_0.erase rs118 := ⟨Tryz.f118, Tryz.func118, rfl, by kernel_rfl, by kernel_rfl, by kernel_rfl⟩
theorem io118_0 : InstOk Pg 118 nt118 ⟨pa118_0, Fn118_0 f118_0⟩ := inst_ok eo118_0 followsTry is118 ⟨⟨sh118, cm118_0, by kernel_rfl, gm118_0, fm118_0⟩⟩
abbrev nt116 : Nat := 10
def sh116 : SG := []
def r116_2 : LA := [oO 2 (.alloc [(cI 0), (cI 0)])]
def r116_4 : LA := [oM 3 0, oO 4 (.pure (oB (.call { callee := .builtin .real, args := #[(.tmp 3)], argTypes := #[98] }) 231)), oO 5 (.pure (oB (.convert 231 3 (.tmp 4)) 3)), oM 6 0, oO 7 (.pure (oB (.call { callee := .builtin .imag, args := #[(.tmp 6)], argTypes := #[98] }) 231)), oO 8 (.pure (oB (.convert 231 3 (.tmp 7)) 3)), oO 9 (.build [(cI 0), (cI 0)] [(0, 1, (.tmp 5)), (1, 1, (.tmp 8))]), sD 2 2 9]
def tr116 : TG := [tT 0 [0, 2], tT 1 [2]]
def tl116 : TG := []
def rs116 : List AResV := [.cell 2 true 2]
def pr116_0_0 : PT (List RV) := pRs [pR true [rD (dI .i64), rD (dI .i64)]]
def ur116_0_0 {β : Type} (g : List RV -> β) : Int -> Int -> β := pr116_0_0.unc g
def E116_0g : EnvK := EnvK.of [] noSeq
def E116_0 : EnvK := E116_0g
theorem eo116_0 : E116_0.Ok Pg := EnvK.of_ok noSeq_ok trivial
abbrev Tf116_0 : Type 1 := (α : Type) -> Nat -> Nat -> (Int -> Int -> Op α) -> Op α
def f116_0g (α : Type) (a b : Nat) (k1 : Int -> Int -> Op α) : Op α :=
 ivK (f2i .f64 a .i64)
 (fun c => ivK (f2i .f64 b .i64)
 (fun d => k1 c d))
def f116_0 (α : Type) (a b : Nat) (k1 : Int -> Int -> Op α) : Op α := f116_0g α a b k1
def pa116_0 : PT (List DV) := pA [pV false [(dX .f64)]]
def Fn116_0 (v : Tf116_0) (α : Type) (k : RT α) : Nat -> Nat -> Op α := fun a b => v α a b (fun c d => ur116_0_0 k c d)
def cm116_0g : MCode := (.seq (.region r116_2 [] (tO [0, 2])) (.seq (.region r116_4 [] (tO [2])) .ret))
def cm116_0 : MCode := cm116_0g
theorem gm116_0 : cm116_0.Good Pg E116_0 sh116 := ⟨trivial, ⟨trivial, trivial⟩⟩
theorem fm116_0g (α : Type) (k : RT α) : Fn116_0 (f116_0g ) α k = pa116_0.unc fun ds => fnM Pg (E116_0g ) sh116 (cm116_0g ) rs116 k ds := by kernel_rfl
theorem fm116_0 : ∀ (α : Type) (k : RT α), Fn116_0 f116_0 α k = pa116_0.unc fun ds => fnM Pg E116_0 sh116 cm116_0 rs116 k ds := fm116_0g
theorem is116 : FnIs Pg 116 nt116 tr116 tl116 cm116_0.erase rs116 := ⟨Tryz.f116, Tryz.func116, rfl, by kernel_rfl, by kernel_rfl, by kernel_rfl⟩
theorem io116_0 : InstOk Pg 116 nt116 ⟨pa116_0, Fn116_0 f116_0⟩ := inst_ok eo116_0 followsTry is116 ⟨⟨sh116, cm116_0, by kernel_rfl, gm116_0, fm116_0⟩⟩
abbrev nt273 : Nat := 7
def sh273 : SG := []
def r273_2 : LA := [oO 2 (.mv (.const (.float Go.FloatKind.f64 0)))]
def r273_4 : LA := [oM 3 0, oO 4 (.pure (oB (.call { callee := .value (.func 243), args := #[(.tmp 3)], argTypes := #[231] }) 370)), oO 5 (.bin .andNot 370 (.tmp 4) (.const (.int .u64 9223372036854775808))), oO 6 (.pure (oB (.call { callee := .value (.func 310), args := #[(.tmp 5)], argTypes := #[370] }) 231)), oM 2 6]
def tr273 : TG := [tT 0 [0], tT 1 [2]]
def tl273 : TG := []
def rs273 : List AResV := [.tmp 2]
def pr273_0_0 : PT (List RV) := pRs [pR false [rD (dF .f64)]]
def ur273_0_0 {β : Type} (g : List RV -> β) : Nat -> β := pr273_0_0.unc g
def E273_0g : EnvK := EnvK.of [] noSeq
def E273_0 : EnvK := E273_0g
theorem eo273_0 : E273_0.Ok Pg := EnvK.of_ok noSeq_ok trivial
abbrev Tf273_0 : Type 1 := (α : Type) -> Nat -> (Nat -> Op α) -> Op α
def f273_0g (α : Type) (a : Nat) (k1 : Nat -> Op α) : Op α :=
 k1 (Int.toNat (iAndNot .u64 ((a : Nat) : Int) 9223372036854775808))
def f273_0 (α : Type) (a : Nat) (k1 : Nat -> Op α) : Op α := f273_0g α a k1
def pa273_0 : PT (List DV) := pA [pV false [(dF .f64)]]
def Fn273_0 (v : Tf273_0) (α : Type) (k : RT α) : Nat -> Op α := fun a => v α a (fun b => ur273_0_0 k b)
def cm273_0g : MCode := (.seq (.region r273_2 [] (tO [0])) (.seq (.region r273_4 [] (tO [2])) .ret))
def cm273_0 : MCode := cm273_0g
theorem gm273_0 : cm273_0.Good Pg E273_0 sh273 := ⟨trivial, ⟨trivial, trivial⟩⟩
theorem fm273_0g (α : Type) (k : RT α) : Fn273_0 (f273_0g ) α k = pa273_0.unc fun ds => fnM Pg (E273_0g ) sh273 (cm273_0g ) rs273 k ds := by kernel_rfl
theorem fm273_0 : ∀ (α : Type) (k : RT α), Fn273_0 f273_0 α k = pa273_0.unc fun ds => fnM Pg E273_0 sh273 cm273_0 rs273 k ds := fm273_0g
theorem is273 : FnIs Pg 273 nt273 tr273 tl273 cm273_0.erase rs273 := ⟨Tryz.f273, Tryz.func273, rfl, by kernel_rfl, by kernel_rfl, by kernel_rfl⟩
theorem io273_0 : InstOk Pg 273 nt273 ⟨pa273_0, Fn273_0 f273_0⟩ := inst_ok eo273_0 followsTry is273 ⟨⟨sh273, cm273_0, by kernel_rfl, gm273_0, fm273_0⟩⟩
abbrev nt221 : Nat := 7
def sh221 : SG := []
def r221_2 : LA := [oO 2 (.mv (.const (.float Go.FloatKind.f64 0)))]
def r221_6 : LA := [oM 3 0, oO 4 (.pure (oB (.call { callee := .value (.func 277), args := #[(.tmp 3)], argTypes := #[231] }) 231)), oM 2 4]
def r221_8 : LA := [oM 5 0, oO 6 (.call 278 [.tmp 5]), oM 2 6]
def tr221 : TG := [tT 0 [0], tT 1 [2], tT 2 [2]]
def tl221 : TG := []
def rs221 : List AResV := [.tmp 2]
def pr221_0_0 : PT (List RV) := pRs [pR false [rD (dNan .f64)]]
def ur221_0_0 {β : Type} (g : List RV -> β) : β := pr221_0_0.unc g
def pr221_0_1 : PT (List RV) := pRs [pR false [rD (dF .f64)]]
def ur221_0_1 {β : Type} (g : List RV -> β) : Nat -> β := pr221_0_1.unc g
def E221_0g : EnvK := EnvK.of [] noSeq
def E221_0 : EnvK := E221_0g
theorem eo221_0 : E221_0.Ok Pg := EnvK.of_ok noSeq_ok trivial
abbrev Tf221_0 : Type 1 := (α : Type) -> Nat -> (Op α) -> (Nat -> Op α) -> Op α
def f221_0g (α : Type) (a : Nat) (k1 : Op α) (k2 : Nat -> Op α) : Op α :=
 cK (isNaNb .f64 a)
 (k1)
 (k2 (truncF a))
def f221_0 (α : Type) (a : Nat) (k1 : Op α) (k2 : Nat -> Op α) : Op α := f221_0g α a k1 k2
def pa221_0 : PT (List DV) := pA [pV false [(dF .f64)]]
def Fn221_0 (v : Tf221_0) (α : Type) (k : RT α) : Nat -> Op α := fun a => v α a (ur221_0_0 k ) (fun b => ur221_0_1 k b)
def cm221_0g : MCode := (.seq (.region r221_2 [] (tO [0])) (.seq (.cond (.const (.bool true)) (.seq (.region r221_6 [] (tO [2])) .ret) .skip) (.seq (.region r221_8 [] (tO [2])) .ret)))
def cm221_0 : MCode := cm221_0g
theorem gm221_0 : cm221_0.Good Pg E221_0 sh221 := ⟨trivial, ⟨⟨⟨trivial, trivial⟩, trivial⟩, ⟨trivial, trivial⟩⟩⟩
theorem fm221_0g (α : Type) (k : RT α) : Fn221_0 (f221_0g ) α k = pa221_0.unc fun ds => fnM Pg (E221_0g ) sh221 (cm221_0g ) rs221 k ds := by kernel_rfl
theorem fm221_0 : ∀ (α : Type) (k : RT α), Fn221_0 f221_0 α k = pa221_0.unc fun ds => fnM Pg E221_0 sh221 cm221_0 rs221 k ds := fm221_0g
theorem is221 : FnIs Pg 221 nt221 tr221 tl221 cm221_0.erase rs221 := ⟨Tryz.f221, Tryz.func221, rfl, by kernel_rfl, by kernel_rfl, by kernel_rfl⟩
theorem io221_0 : InstOk Pg 221 nt221 ⟨pa221_0, Fn221_0 f221_0⟩ := inst_ok eo221_0 followsTry is221 ⟨⟨sh221, cm221_0, by kernel_rfl, gm221_0, fm221_0⟩⟩
abbrev nt46 : Nat := 10
def sh46 : SG := []
def r46_2 : LA := [oO 4 (.mv (.const (.complex Go.FloatKind.f64 0 0)))]
def r46_4 : LA := [oM 5 0, oO 6 (.pure (oB (.convert 3 231 (.tmp 5)) 231)), oM 7 1, oO 8 (.pure (oB (.convert 3 231 (.tmp 7)) 231)), oO 9 (.pure (oB (.call { callee := .builtin .complex, args := #[(.tmp 6), (.tmp 8)], argTypes := #[231, 231] }) 98)), oM 4 9]
def tr46 : TG := [tT 0 [0, 1], tT 1 [4]]
def tl46 : TG := []
def rs46 : List AResV := [.tmp 4]
def pr46_0_0 : PT (List RV) := pRs [pR false [rD (dX .f64)]]
def ur46_0_0 {β : Type} (g : List RV -> β) : Nat -> Nat -> β := pr46_0_0.unc g
def E46_0g : EnvK := EnvK.of [] noSeq
def E46_0 : EnvK := E46_0g
theorem eo46_0 : E46_0.Ok Pg := EnvK.of_ok noSeq_ok trivial
abbrev Tf46_0 : Type 1 := (α : Type) -> Int -> Int -> (Nat -> Nat -> Op α) -> Op α
def f46_0g (α : Type) (a b : Int) (k1 : Nat -> Nat -> Op α) : Op α :=
 k1 (FloatKind.nearest .f64 a) (FloatKind.nearest .f64 b)
def f46_0 (α : Type) (a b : Int) (k1 : Nat -> Nat -> Op α) : Op α := f46_0g α a b k1
def pa46_0 : PT (List DV) := pA [vI, vI]
def Fn46_0 (v : Tf46_0) (α : Type) (k : RT α) : Int -> Int -> Op α := fun a b => v α a b (fun c d => ur46_0_0 k c d)
def cm46_0g : MCode := (.seq (.region r46_2 [] (tO [0, 1])) (.seq (.region r46_4 [] (tO [4])) .ret))
def cm46_0 : MCode := cm46_0g
theorem gm46_0 : cm46_0.Good Pg E46_0 sh46 := ⟨trivial, ⟨trivial, trivial⟩⟩
theorem fm46_0g (α : Type) (k : RT α) : Fn46_0 (f46_0g ) α k = pa46_0.unc fun ds => fnM Pg (E46_0g ) sh46 (cm46_0g ) rs46 k ds := by kernel_rfl
theorem fm46_0 : ∀ (α : Type) (k : RT α), Fn46_0 f46_0 α k = pa46_0.unc fun ds => fnM Pg E46_0 sh46 cm46_0 rs46 k ds := fm46_0g
theorem is46 : FnIs Pg 46 nt46 tr46 tl46 cm46_0.erase rs46 := ⟨Tryz.f46, Tryz.func46, rfl, by kernel_rfl, by kernel_rfl, by kernel_rfl⟩
theorem io46_0 : InstOk Pg 46 nt46 ⟨pa46_0, Fn46_0 f46_0⟩ := inst_ok eo46_0 followsTry is46 ⟨⟨sh46, cm46_0, by kernel_rfl, gm46_0, fm46_0⟩⟩
abbrev nt44 : Nat := 15
def sh44 : SG := []
def r44_2 : LA := [oO 6 (.mv (.const (.bool false)))]
def r44_4 : LA := [oM 7 1, oM 8 0, bT 9 .leq 7 8, oM 10 9, oG 11 (.mv (.tmp 0)) 10 true, oG 12 (.mv (.tmp 2)) 10 true, oG 13 (.bin .leq 3 (.tmp 11) (.tmp 12)) 10 true, oO 14 (.pick (.tmp 10) (.tmp 13) (.const (.bool false))), oM 6 14]
def tr44 : TG := [tT 0 [0, 1, 2], tT 1 [6]]
def tl44 : TG := []
def rs44 : List AResV := [.tmp 6]
def pr44_0_0 : PT (List RV) := pRs [pR false [rD dB]]
def ur44_0_0 {β : Type} (g : List RV -> β) : Bool -> β := pr44_0_0.unc g
def E44_0g : EnvK := EnvK.of [] noSeq
def E44_0 : EnvK := E44_0g
theorem eo44_0 : E44_0.Ok Pg := EnvK.of_ok noSeq_ok trivial
abbrev Tf44_0 : Type 1 := (α : Type) -> Int -> Int -> Int -> (Bool -> Op α) -> Op α
def f44_0g (α : Type) (a b c : Int) (k1 : Bool -> Op α) : Op α :=
 cK (decide (b <= a))
 (k1 (decide (a <= c)))
 (k1 false)
def f44_0 (α : Type) (a b c : Int) (k1 : Bool -> Op α) : Op α := f44_0g α a b c k1
def pa44_0 : PT (List DV) := pA [vI, vI, vI]
def Fn44_0 (v : Tf44_0) (α : Type) (k : RT α) : Int -> Int -> Int -> Op α := fun a b c => v α a b c (fun d => ur44_0_0 k d)
def cm44_0g : MCode := (.seq (.region r44_2 [] (tO [0, 1, 2])) (.seq (.region r44_4 [] (tO [6])) .ret))
def cm44_0 : MCode := cm44_0g
theorem gm44_0 : cm44_0.Good Pg E44_0 sh44 := ⟨trivial, ⟨trivial, trivial⟩⟩
theorem fm44_0g (α : Type) (k : RT α) : Fn44_0 (f44_0g ) α k = pa44_0.unc fun ds => fnM Pg (E44_0g ) sh44 (cm44_0g ) rs44 k ds := by kernel_rfl
theorem fm44_0 : ∀ (α : Type) (k : RT α), Fn44_0 f44_0 α k = pa44_0.unc fun ds => fnM Pg E44_0 sh44 cm44_0 rs44 k ds := fm44_0g
theorem is44 : FnIs Pg 44 nt44 tr44 tl44 cm44_0.erase rs44 := ⟨Tryz.f44, Tryz.func44, rfl, by kernel_rfl, by kernel_rfl, by kernel_rfl⟩
theorem io44_0 : InstOk Pg 44 nt44 ⟨pa44_0, Fn44_0 f44_0⟩ := inst_ok eo44_0 followsTry is44 ⟨⟨sh44, cm44_0, by kernel_rfl, gm44_0, fm44_0⟩⟩
abbrev nt167 : Nat := 12
def sh167 : SG := []
def r167_2 : LA := [oO 4 (.alloc [(cI 0), (cI 0)])]
def r167_4 : LA := [oM 5 0, oM 6 1, bT 7 .sub 5 6, oM 8 0, oM 9 1, bT 10 .add 8 9, oO 11 (.build [(cI 0), (cI 0)] [(0, 1, (.tmp 7)), (1, 1, (.tmp 10))]), sD 2 4 11]
def tr167 : TG := [tT 0 [0, 1, 4], tT 1 [4]]
def tl167 : TG := []
def rs167 : List AResV := [.cell 4 true 2]
def pr167_0_0 : PT (List RV) := pRs [pR true [rD (dI .i64), rD (dI .i64)]]
def ur167_0_0 {β : Type} (g : List RV -> β) : Int -> Int -> β := pr167_0_0.unc g
def E167_0g : EnvK := EnvK.of [] noSeq
def E167_0 : EnvK := E167_0g
theorem eo167_0 : E167_0.Ok Pg := EnvK.of_ok noSeq_ok trivial
abbrev Tf167_0 : Type 1 := (α : Type) -> Int -> Int -> (Int -> Int -> Op α) -> Op α
def f167_0g (α : Type) (a b : Int) (k1 : Int -> Int -> Op α) : Op α :=
 k1 (w64 (a - b)) (w64 (a + b))
def f167_0 (α : Type) (a b : Int) (k1 : Int -> Int -> Op α) : Op α := f167_0g α a b k1
def pa167_0 : PT (List DV) := pA [vI, vI]
def Fn167_0 (v : Tf167_0) (α : Type) (k : RT α) : Int -> Int -> Op α := fun a b => v α a b (fun c d => ur167_0_0 k c d)
def cm167_0g : MCode := (.seq (.region r167_2 [] (tO [0, 1, 4])) (.seq (.region r167_4 [] (tO [4])) .ret))
def cm167_0 : MCode := cm167_0g
theorem gm167_0 : cm167_0.Good Pg E167_0 sh167 := ⟨trivial, ⟨trivial, trivial⟩⟩
theorem fm167_0g (α : Type) (k : RT α) : Fn167_0 (f167_0g ) α k = pa167_0.unc fun ds => fnM Pg (E167_0g ) sh167 (cm167_0g ) rs167 k ds := by kernel_rfl
theorem fm167_0 : ∀ (α : Type) (k : RT α), Fn167_0 f167_0 α k = pa167_0.unc fun ds => fnM Pg E167_0 sh167 cm167_0 rs167 k ds := fm167_0g
theorem is167 : FnIs Pg 167 nt167 tr167 tl167 cm167_0.erase rs167 := ⟨Tryz.f167, Tryz.func167, rfl, by kernel_rfl, by kernel_rfl, by kernel_rfl⟩
theorem io167_0 : InstOk Pg 167 nt167 ⟨pa167_0, Fn167_0 f167_0⟩ := inst_ok eo167_0 followsTry is167 ⟨⟨sh167, cm167_0, by kernel_rfl, gm167_0, fm167_0⟩⟩
abbrev nt166 : Nat := 24
def sh166 : SG := [(7, [.sl]), (12, iT), (13, iT), (16, iT)]
def r166_2 : LA := [oO 1 (.box (.tmp 0)), oO 2 (.mv (.const (.slice none 0 0)))]
def r166_4 : LA := [oO 3 (.mv (.const (.slice none 0 0)))]
def r166_7 : LA := [fA 6 0 1, lD 7 6, oO 8 (.len (.tmp 7)), mK 9 0]
def td166_9 : OT := (some ⟨[1, 3, 7, 8, 9], true, [⟨false, 3, 0, 20003, 1⟩, ⟨false, 7, 0, 20007, 1⟩, ⟨true, 1, 0, 30100, 1⟩], []⟩)
def r166_11 : LA := [bT 10 .lss 9 8]
def r166_17 : LA := [oM 11 9, oO 12 (.iaddr 1 none (.tmp 7) (.tmp 9)), lD 13 12, oM 4 11, oM 5 13]
def r166_19 : LA := [oM 14 5, fA 15 2 1, lD 16 15, bT 17 .geq 14 16]
def r166_21 : LA := [oM 18 3, oM 19 4, oO 20 (.bslice 1 1 [(.v (.int .i64 0))] [(0, (.tmp 19))]), oO 21 (.append 1 8 (.tmp 18) (.tmp 20)), oM 3 21]
def r166_22 : LA := [bK 22 .add 9 1, oM 9 22]
def r166_24 : LA := [oM 23 3, oM 2 23]
def tr166 : TG := [tT 0 [1], tT 1 [1, 3], tT 2 [1, 3, 7, 8, 9], tT 3 [1, 3, 7, 8, 9, 10], tT 4 [1, 3, 4, 5, 7, 8, 9], tT 5 [1, 3, 4, 7, 8, 9, 17], tT 6 [1, 3, 7, 8, 9], tT 7 [1, 3, 7, 8, 9], (8, ⟨[2], true, [⟨false, 2, 0, 20002, 1⟩], []⟩)]
def tl166 : TG := [(3, ⟨[1, 3, 7, 8, 9], true, [⟨false, 3, 0, 20003, 1⟩, ⟨false, 7, 0, 20007, 1⟩, ⟨true, 1, 0, 30100, 1⟩], []⟩)]
def rs166 : List AResV := [.tmp 2]
def p166_0_0 : PT St := pS [sP 1, sl 3 (aV false [(cRef 20003)]), sl 7 (aV false [(cD dL)]), sI 8, sI 9] [eBox 1 [(cD dL), xI, xI], eOwn 20003 1]
def u166_0_0 {β : Type} (g : St -> β) : Rows -> Int -> Int -> Rows -> Int -> Int -> Rows -> β := p166_0_0.unc g
def p166_0_1 : PT St := pS [sP 1, sl 3 (aV false [(cRef 20003)]), sl 7 (aV false [(cD dL)]), sI 8, sI 9, sl 10 (aV false [(cD dB)])] [eBox 1 [(cD dL), xI, xI], eOwn 20003 1]
def u166_0_1 {β : Type} (g : St -> β) : Rows -> Int -> Int -> Bool -> Rows -> Int -> Int -> Rows -> β := p166_0_1.unc g
def pr166_0_0 : PT (List RV) := pRs [pR false [rO 1]]
def ur166_0_0 {β : Type} (g : List RV -> β) : Rows -> β := pr166_0_0.unc g
def E166_0g : EnvK := EnvK.of [] noSeq
def E166_0 : EnvK := E166_0g
theorem eo166_0 : E166_0.Ok Pg := EnvK.of_ok noSeq_ok trivial
def c166_0_9g : MCode := (.seq (.region r166_11 [] (tO [1, 3, 7, 8, 9, 10])) (.seq (.cond (.tmp 10) .skip (.exit 0)) (.seq (.block 1 (.seq (.region r166_17 [] (tO [1, 3, 4, 5, 7, 8, 9])) (.seq (.region r166_19 [] (tO [1, 3, 4, 7, 8, 9, 17])) (.cond (.tmp 17) (.region r166_21 [] (tO [1, 3, 7, 8, 9])) .skip)))) (.region r166_22 [] (tO [1, 3, 7, 8, 9])))))
def c166_0_9 : MCode := c166_0_9g
theorem g166_0_9 : c166_0_9.Good Pg E166_0 sh166 := ⟨trivial, ⟨⟨trivial, trivial⟩, ⟨⟨trivial, ⟨trivial, ⟨trivial, trivial⟩⟩⟩, trivial⟩⟩⟩
def S166_0_0g (α : Type) (d : Rows) (c e a : Int) (b : Rows) (kn : Int -> Rows -> Op α) (k1 : Int -> Bool -> Rows -> Op α) : Op α :=
 cK (decide (a < c))
 (rowK d a [.int .i64]
 (fun g => cK (decide (e <= g))
 (gK (apOk 1 8 b [[DC.v (.int .i64 a)]]) (kn (w64 (a + 1)) (b ++ [[DC.v (.int .i64 a)]])))
 (kn (w64 (a + 1)) b)))
 (k1 a (decide (a < c)) b)
def S166_0_0 (α : Type) (a : Rows) (b c d : Int) (e : Rows) (kn : Int -> Rows -> Op α) (k1 : Int -> Bool -> Rows -> Op α) : Op α := S166_0_0g α a b c d e kn k1
def R166_0_0 (α : Type) (a : Rows) (b c : Int) (k1 : Int -> Bool -> Rows -> Op α) : Nat -> Int -> Rows -> Op α
 | 0, _, _ => none
 | n + 1, d, e => S166_0_0 α a b c d e (R166_0_0 α a b c k1 n) k1
def L166_0_0 (α : Type) (a : Rows) (b c : Int) (k1 : Int -> Bool -> Rows -> Op α) (d : Int) (e : Rows) : Op α := R166_0_0 α a b c k1 fuel d e
abbrev TL166_0_0 : Type 1 := (α : Type) -> Rows -> Int -> Int -> (Int -> Bool -> Rows -> Op α) -> Int -> Rows -> Op α
def F166_0_0 (v : TL166_0_0) (α : Type) (K : KT α) : Rows -> Int -> Int -> Rows -> Int -> Int -> Rows -> Op α := fun a b d e g c h => v α a b c (fun i j l => u166_0_1 (K (.exit 0)) a b i j e g c l) d h
theorem r166_0_0g (α : Type) (K : KT α) (Kn : SK α) (a : Rows) (b c : Int) (g : Rows) (h d : Int) (e : Rows) : u166_0_0 (fun σ => runM Pg (E166_0g ) sh166 (c166_0_9g ) (thenK (fun σ => tidyK td166_9 σ Kn) K) σ) a b c g h d e = S166_0_0g α a b d c e (fun c e => u166_0_0 Kn a b c g h d e) (fun i j l => u166_0_1 (K (.exit 0)) a b i j g h d l) := by kernel_rfl
theorem r166_0_0 (α : Type) (K : KT α) (Kn : SK α) (a : Rows) (b c : Int) (g : Rows) (h d : Int) (e : Rows) : u166_0_0 (fun σ => runM Pg E166_0 sh166 c166_0_9 (thenK (fun σ => tidyK td166_9 σ Kn) K) σ) a b c g h d e = S166_0_0 α a b d c e (fun c e => u166_0_0 Kn a b c g h d e) (fun i j l => u166_0_1 (K (.exit 0)) a b i j g h d l) := r166_0_0g α K Kn a b c g h d e
theorem t166_0_0 (α : Type) (K : KT α) : ∀ (n : Nat) (a : Rows) (b d : Int) (g : Rows) (h c : Int) (e : Rows), R166_0_0 α a b c (fun i j l => u166_0_1 (K (.exit 0)) a b i j g h c l) n d e = u166_0_0 (loopT (runM Pg E166_0 sh166 c166_0_9) td166_9 K n) a b d g h c e := by
 intro n
 induction n with
 | zero => intros; rfl
 | succ n ih => intro a b d g h c e; exact (congrArg (fun kn => S166_0_0 α a b c d e kn (fun i j l => u166_0_1 (K (.exit 0)) a b i j g h c l)) (funext fun d => funext fun e => ih a b d g h c e)).trans (r166_0_0 α K (loopT (runM Pg E166_0 sh166 c166_0_9) td166_9 K n) a b d g h c e).symm
theorem m166_0_0 : ∀ (α : Type) (K : KT α), F166_0_0 L166_0_0 α K = p166_0_0.unc fun σ => loopT (runM Pg E166_0 sh166 c166_0_9) td166_9 K fuel σ := fun α K => by funext a b c d e g h; exact t166_0_0 α K fuel a b c d e g h
abbrev Tf166_0 : Type 1 := (α : Type) -> Rows -> Int -> Int -> (Rows -> Op α) -> Op α
def f166_0g (b : TL166_0_0) (α : Type) (a : Rows) (e c : Int) (k1 : Rows -> Op α) : Op α :=
 b α a ((List.length a : Nat) : Int) c
 (fun g h d => k1 d) 0 ([] : Rows)
def f166_0 (α : Type) (a : Rows) (b c : Int) (k1 : Rows -> Op α) : Op α := f166_0g L166_0_0 α a b c k1
def pa166_0 : PT (List DV) := pA [pV true [dL, (dI .i64), (dI .i64)]]
def Fn166_0 (v : Tf166_0) (α : Type) (k : RT α) : Rows -> Int -> Int -> Op α := fun a b c => v α a b c (fun d => ur166_0_0 k d)
def cm166_0g (a : TL166_0_0) : MCode := (.seq (.region r166_2 [] (tO [1])) (.seq (.region r166_4 [] (tO [1, 3])) (.seq (.seq (.region r166_7 [] (tO [1, 3, 7, 8, 9])) (.block 0 (.loop td166_9 [⟨p166_0_0, F166_0_0 a⟩] c166_0_9))) (.seq (.region r166_24 [] (some ⟨[2], true, [⟨false, 2, 0, 20002, 1⟩], []⟩)) .ret))))
def cm166_0 : MCode := cm166_0g L166_0_0
theorem gm166_0 : cm166_0.Good Pg E166_0 sh166 := ⟨trivial, ⟨trivial, ⟨⟨trivial, ⟨g166_0_9, m166_0_0, trivial⟩⟩, ⟨trivial, trivial⟩⟩⟩⟩
theorem fm166_0g (a : TL166_0_0) (α : Type) (k : RT α) : Fn166_0 (f166_0g a) α k = pa166_0.unc fun ds => fnM Pg (E166_0g ) sh166 (cm166_0g a) rs166 k ds := by kernel_rfl
theorem fm166_0 : ∀ (α : Type) (k : RT α), Fn166_0 f166_0 α k = pa166_0.unc fun ds => fnM Pg E166_0 sh166 cm166_0 rs166 k ds := fm166_0g L166_0_0
theorem is166 : FnIs Pg 166 nt166 tr166 tl166 cm166_0.erase rs166 := ⟨Tryz.f166, Tryz.func166, rfl, by kernel_rfl, by kernel_rfl, by kernel_rfl⟩
theorem io166_0 : InstOk Pg 166 nt166 ⟨pa166_0, Fn166_0 f166_0⟩ := inst_ok eo166_0 followsTry is166 ⟨⟨sh166, cm166_0, by kernel_rfl, gm166_0, fm166_0⟩⟩
abbrev nt215 : Nat := 15
def sh215 : SG := []
def r215_2 : LA := [oO 6 (.mv (.const (.bool false)))]
def r215_4 : LA := [oM 7 1, oM 8 0, bT 9 .leq 7 8, oM 10 9, oG 11 (.mv (.tmp 0)) 10 true, oG 12 (.mv (.tmp 2)) 10 true, oG 13 (.bin .leq 3 (.tmp 11) (.tmp 12)) 10 true, oO 14 (.pick (.tmp 10) (.tmp 13) (.const (.bool false))), oM 6 14]
def tr215 : TG := [tT 0 [0, 1, 2], tT 1 [6]]
def tl215 : TG := []
def rs215 : List AResV := [.tmp 6]
def pr215_0_0 : PT (List RV) := pRs [pR false [rD dB]]
def ur215_0_0 {β : Type} (g : List RV -> β) : Bool -> β := pr215_0_0.unc g
def E215_0g : EnvK := EnvK.of [] noSeq
def E215_0 : EnvK := E215_0g
theorem eo215_0 : E215_0.Ok Pg := EnvK.of_ok noSeq_ok trivial
abbrev Tf215_0 : Type 1 := (α : Type) -> Int -> Int -> Int -> (Bool -> Op α) -> Op α
def f215_0g (α : Type) (a b c : Int) (k1 : Bool -> Op α) : Op α :=
 cK (decide (b <= a))
 (k1 (decide (a <= c)))
 (k1 false)
def f215_0 (α : Type) (a b c : Int) (k1 : Bool -> Op α) : Op α := f215_0g α a b c k1
def pa215_0 : PT (List DV) := pA [vI, vI, vI]
def Fn215_0 (v : Tf215_0) (α : Type) (k : RT α) : Int -> Int -> Int -> Op α := fun a b c => v α a b c (fun d => ur215_0_0 k d)
def cm215_0g : MCode := (.seq (.region r215_2 [] (tO [0, 1, 2])) (.seq (.region r215_4 [] (tO [6])) .ret))
def cm215_0 : MCode := cm215_0g
theorem gm215_0 : cm215_0.Good Pg E215_0 sh215 := ⟨trivial, ⟨trivial, trivial⟩⟩
theorem fm215_0g (α : Type) (k : RT α) : Fn215_0 (f215_0g ) α k = pa215_0.unc fun ds => fnM Pg (E215_0g ) sh215 (cm215_0g ) rs215 k ds := by kernel_rfl
theorem fm215_0 : ∀ (α : Type) (k : RT α), Fn215_0 f215_0 α k = pa215_0.unc fun ds => fnM Pg E215_0 sh215 cm215_0 rs215 k ds := fm215_0g
theorem is215 : FnIs Pg 215 nt215 tr215 tl215 cm215_0.erase rs215 := ⟨Tryz.f215, Tryz.func215, rfl, by kernel_rfl, by kernel_rfl, by kernel_rfl⟩
theorem io215_0 : InstOk Pg 215 nt215 ⟨pa215_0, Fn215_0 f215_0⟩ := inst_ok eo215_0 followsTry is215 ⟨⟨sh215, cm215_0, by kernel_rfl, gm215_0, fm215_0⟩⟩
abbrev nt126 : Nat := 46
def sh126 : SG := [(5, iT), (9, iT), (14, iT), (16, iT), (21, iT), (23, iT), (29, iT), (31, iT), (34, iT), (36, iT), (40, iT), (42, iT)]
def r126_2 : LA := [oO 1 (.box (.tmp 0)), mK 2 0]
def r126_6 : LA := [fA 4 2 1, lD 5 4, bK 6 .lss 5 1, oM 7 6, oG 8 (.faddr 2 (.tmp 1)) 7 false, oG 9 (.load false 1 (.tmp 8)) 7 false, oG 10 (.bin .gtr 3 (.tmp 9) (kI 1000)) 7 false, oO 11 (.pick (.tmp 7) (.const (.bool true)) (.tmp 10)), oM 3 11]
def r126_9 : LA := [mK 2 2]
def r126_11 : LA := [fA 13 0 1, lD 14 13, fA 15 2 1, lD 16 15, oO 17 (.call 220 [(.tmp 14), (.tmp 16)]), oO 18 (.pure (oB (.unOp .not 4 (.tmp 17)) 4)), oM 19 18, oG 20 (.faddr 1 (.tmp 1)) 19 false, oG 21 (.load false 1 (.tmp 20)) 19 false, oG 22 (.faddr 2 (.tmp 1)) 19 false, oG 23 (.load false 1 (.tmp 22)) 19 false, oG 24 (.call 220 [(.tmp 21), (.tmp 23)]) 19 false, oG 25 (.pure (oB (.unOp .not 4 (.tmp 24)) 4)) 19 false, oO 26 (.pick (.tmp 19) (.const (.bool true)) (.tmp 25)), oM 27 26, oG 28 (.faddr 0 (.tmp 1)) 27 false, oG 29 (.load false 1 (.tmp 28)) 27 false, oG 30 (.faddr 0 (.tmp 1)) 27 false, oG 31 (.load false 1 (.tmp 30)) 27 false, oG 32 (.bin .mul 3 (.tmp 29) (.tmp 31)) 27 false, oG 33 (.faddr 1 (.tmp 1)) 27 false, oG 34 (.load false 1 (.tmp 33)) 27 false, oG 35 (.faddr 1 (.tmp 1)) 27 false, oG 36 (.load false 1 (.tmp 35)) 27 false, oG 37 (.bin .mul 3 (.tmp 34) (.tmp 36)) 27 false, oG 38 (.bin .add 3 (.tmp 32) (.tmp 37)) 27 false, oG 39 (.faddr 2 (.tmp 1)) 27 false, oG 40 (.load false 1 (.tmp 39)) 27 false, oG 41 (.faddr 2 (.tmp 1)) 27 false, oG 42 (.load false 1 (.tmp 41)) 27 false, oG 43 (.bin .mul 3 (.tmp 40) (.tmp 42)) 27 false, oG 44 (.bin .neq 3 (.tmp 38) (.tmp 43)) 27 false, oO 45 (.pick (.tmp 27) (.const (.bool true)) (.tmp 44)), oM 12 45]
def r126_14 : LA := [mK 2 12]
def r126_16 : LA := [mK 2 0]
def tr126 : TG := [tT 0 [1], tT 1 [1, 3], tT 2 [2], tT 3 [12], tT 4 [2], tT 5 [2]]
def tl126 : TG := []
def rs126 : List AResV := [.tmp 2]
def p126_0_0 : PT St := pS [sP 1] [eBox 1 (xs 3)]
def u126_0_0 {β : Type} (g : St -> β) : Int -> Int -> Int -> β := p126_0_0.unc g
def p126_0_1 : PT St := pS [sP 1, sl 3 (aV false [(cD dB)])] [eBox 1 (xs 3)]
def u126_0_1 {β : Type} (g : St -> β) : Bool -> Int -> Int -> Int -> β := p126_0_1.unc g
def pr126_0_0 : PT (List RV) := pRs [wI]
def ur126_0_0 {β : Type} (g : List RV -> β) : Int -> β := pr126_0_0.unc g
def E126_0g (a : Tf220_0) : EnvK := EnvK.of [⟨220, nt220, [⟨pa220_0, Fn220_0 a⟩]⟩] noSeq
def E126_0 : EnvK := E126_0g f220_0
theorem eo126_0 : E126_0.Ok Pg := EnvK.of_ok noSeq_ok ⟨⟨io220_0, trivial⟩, trivial⟩
def c126_0_5g : MCode := (.region r126_6 [] (tO [1, 3]))
def c126_0_5 : MCode := c126_0_5g
theorem g126_0_5 : c126_0_5.Good Pg E126_0 sh126 := trivial
abbrev TJ126_0_0 : Type 1 := (α : Type) -> Int -> (Bool -> Op α) -> Op α
def J126_0_0g (α : Type) (a : Int) (k1 : Bool -> Op α) : Op α :=
 cK (decide (a < 1))
 (k1 true)
 (k1 (decide (1000 < a)))
def J126_0_0 (α : Type) (a : Int) (k1 : Bool -> Op α) : Op α := J126_0_0g α a k1
def F126_0_0 (v : TJ126_0_0) (α : Type) (K : KT α) : Int -> Int -> Int -> Op α := fun b c a => v α a (fun d => u126_0_1 (K .normal) d b c a)
theorem m126_0_0g (a : Tf220_0) (α : Type) (K : KT α) : F126_0_0 (J126_0_0g ) α K = p126_0_0.unc fun σ => runM Pg (E126_0g a) sh126 (c126_0_5g ) K σ := by kernel_rfl
theorem m126_0_0 : ∀ (α : Type) (K : KT α), F126_0_0 J126_0_0 α K = p126_0_0.unc fun σ => runM Pg E126_0 sh126 c126_0_5 K σ := m126_0_0g f220_0
abbrev Tf126_0 : Type 1 := (α : Type) -> Int -> Int -> Int -> (Int -> Op α) -> Op α
def f126_0g (e : TJ126_0_0) (d : Tf220_0) (α : Type) (b c a : Int) (k1 : Int -> Op α) : Op α :=
 e α a
 (fun g => cK g
 (k1 2)
 (d α b a
 (fun h => cK (!h)
 (k1 12)
 (d α c a
 (fun i => cK (!i)
 (k1 12)
 (cK ((w64 ((w64 (b * b)) + (w64 (c * c)))) != (w64 (a * a)))
 (k1 12)
 (k1 0)))))))
def f126_0 (α : Type) (a b c : Int) (k1 : Int -> Op α) : Op α := f126_0g J126_0_0 f220_0 α a b c k1
def pa126_0 : PT (List DV) := pA [pV true [(dI .i64), (dI .i64), (dI .i64)]]
def Fn126_0 (v : Tf126_0) (α : Type) (k : RT α) : Int -> Int -> Int -> Op α := fun a b c => v α a b c (fun d => ur126_0_0 k d)
def cm126_0g (a : TJ126_0_0) : MCode := (.seq (.region r126_2 [] (tO [1])) (.seq (.block 0 (.seq (.mark [⟨p126_0_0, F126_0_0 a⟩] c126_0_5) (.cond (.tmp 3) (.seq (.region r126_9 [] (tO [2])) .ret) (.seq (.region r126_11 [] (tO [12])) (.cond (.tmp 12) (.seq (.region r126_14 [] (tO [2])) .ret) .skip))))) (.seq (.region r126_16 [] (tO [2])) .ret)))
def cm126_0 : MCode := cm126_0g J126_0_0
theorem gm126_0 : cm126_0.Good Pg E126_0 sh126 := ⟨trivial, ⟨⟨⟨g126_0_5, m126_0_0, trivial⟩, ⟨⟨trivial, trivial⟩, ⟨trivial, ⟨⟨trivial, trivial⟩, trivial⟩⟩⟩⟩, ⟨trivial, trivial⟩⟩⟩
theorem fm126_0g (a : Tf220_0) (b : TJ126_0_0) (α : Type) (k : RT α) : Fn126_0 (f126_0g b a) α k = pa126_0.unc fun ds => fnM Pg (E126_0g a) sh126 (cm126_0g b) rs126 k ds := by kernel_rfl
theorem fm126_0 : ∀ (α : Type) (k : RT α), Fn126_0 f126_0 α k = pa126_0.unc fun ds => fnM Pg E126_0 sh126 cm126_0 rs126 k ds := fm126_0g f220_0 J126_0_0
theorem is126 : FnIs Pg 126 nt126 tr126 tl126 cm126_0.erase rs126 := ⟨Tryz.f126, Tryz.func126, rfl, by kernel_rfl, by kernel_rfl, by kernel_rfl⟩
theorem io126_0 : InstOk Pg 126 nt126 ⟨pa126_0, Fn126_0 f126_0⟩ := inst_ok eo126_0 followsTry is126 ⟨⟨sh126, cm126_0, by kernel_rfl, gm126_0, fm126_0⟩⟩
abbrev nt124 : Nat := 27
def sh124 : SG := [(17, iT), (23, iT)]
def r124_2 : LA := [oO 5 (.box (.tmp 2)), mK 6 0]
def r124_6 : LA := [oM 8 0, oO 9 (.call 219 [.tmp 8]), oO 10 (.pure (oB (.unOp .not 4 (.tmp 9)) 4)), oM 7 10]
def r124_9 : LA := [mK 6 3]
def r124_11 : LA := [oM 12 1, oO 13 (.call 215 [(.tmp 12), (kI 1000), (kI 200000)]), oO 14 (.pure (oB (.unOp .not 4 (.tmp 13)) 4)), oM 15 14, oG 16 (.faddr 0 (.tmp 5)) 15 false, oG 17 (.load false 1 (.tmp 16)) 15 false, oG 18 (.call 215 [(.tmp 17), (kI 5000), (kI 80000)]) 15 false, oG 19 (.pure (oB (.unOp .not 4 (.tmp 18)) 4)) 15 false, oO 20 (.pick (.tmp 15) (.const (.bool true)) (.tmp 19)), oM 21 20, oG 22 (.faddr 1 (.tmp 5)) 21 false, oG 23 (.load false 1 (.tmp 22)) 21 false, oG 24 (.call 215 [(.tmp 23), (kI 0), (kI 9999)]) 21 false, oG 25 (.pure (oB (.unOp .not 4 (.tmp 24)) 4)) 21 false, oO 26 (.pick (.tmp 21) (.const (.bool true)) (.tmp 25)), oM 11 26]
def r124_14 : LA := [mK 6 2]
def r124_16 : LA := [mK 6 0]
def tr124 : TG := [tT 0 [0, 1, 5], tT 1 [1, 5, 7], tT 2 [6], tT 3 [11], tT 4 [6], tT 5 [6]]
def tl124 : TG := []
def rs124 : List AResV := [.tmp 6]
def pr124_0_0 : PT (List RV) := pRs [wI]
def ur124_0_0 {β : Type} (g : List RV -> β) : Int -> β := pr124_0_0.unc g
def E124_0g (a : Tf219_0) (b : Tf215_0) : EnvK := EnvK.of [⟨219, nt219, [⟨pa219_0, Fn219_0 a⟩]⟩, ⟨215, nt215, [⟨pa215_0, Fn215_0 b⟩]⟩] noSeq
def E124_0 : EnvK := E124_0g f219_0 f215_0
theorem eo124_0 : E124_0.Ok Pg := EnvK.of_ok noSeq_ok ⟨⟨io219_0, trivial⟩, ⟨io215_0, trivial⟩, trivial⟩
abbrev Tf124_0 : Type 1 := (α : Type) -> BA -> Int -> Int -> Int -> (Int -> Op α) -> Op α
def f124_0g (a : Tf215_0) (b : Tf219_0) (α : Type) (c : BA) (d e g : Int) (k1 : Int -> Op α) : Op α :=
 b α c
 (fun h => cK (!h)
 (k1 3)
 (a α d 1000 200000
 (fun i => cK (!i)
 (k1 2)
 (a α e 5000 80000
 (fun j => cK (!j)
 (k1 2)
 (a α g 0 9999
 (fun l => cK (!l)
 (k1 2)
 (k1 0))))))))
def f124_0 (α : Type) (a : BA) (b c d : Int) (k1 : Int -> Op α) : Op α := f124_0g f215_0 f219_0 α a b c d k1
def pa124_0 : PT (List DV) := pA [pV false [dS], vI, pV true [(dI .i64), (dI .i64)]]
def Fn124_0 (v : Tf124_0) (α : Type) (k : RT α) : BA -> Int -> Int -> Int -> Op α := fun a b c d => v α a b c d (fun e => ur124_0_0 k e)
def cm124_0g : MCode := (.seq (.region r124_2 [] (tO [0, 1, 5])) (.seq (.block 0 (.seq (.region r124_6 [] (tO [1, 5, 7])) (.cond (.tmp 7) (.seq (.region r124_9 [] (tO [6])) .ret) (.seq (.region r124_11 [] (tO [11])) (.cond (.tmp 11) (.seq (.region r124_14 [] (tO [6])) .ret) .skip))))) (.seq (.region r124_16 [] (tO [6])) .ret)))
def cm124_0 : MCode := cm124_0g
theorem gm124_0 : cm124_0.Good Pg E124_0 sh124 := ⟨trivial, ⟨⟨trivial, ⟨⟨trivial, trivial⟩, ⟨trivial, ⟨⟨trivial, trivial⟩, trivial⟩⟩⟩⟩, ⟨trivial, trivial⟩⟩⟩
theorem fm124_0g (a : Tf219_0) (b : Tf215_0) (α : Type) (k : RT α) : Fn124_0 (f124_0g b a) α k = pa124_0.unc fun ds => fnM Pg (E124_0g a b) sh124 (cm124_0g ) rs124 k ds := by kernel_rfl
theorem fm124_0 : ∀ (α : Type) (k : RT α), Fn124_0 f124_0 α k = pa124_0.unc fun ds => fnM Pg E124_0 sh124 cm124_0 rs124 k ds := fm124_0g f219_0 f215_0
theorem is124 : FnIs Pg 124 nt124 tr124 tl124 cm124_0.erase rs124 := ⟨Tryz.f124, Tryz.func124, rfl, by kernel_rfl, by kernel_rfl, by kernel_rfl⟩
theorem io124_0 : InstOk Pg 124 nt124 ⟨pa124_0, Fn124_0 f124_0⟩ := inst_ok eo124_0 followsTry is124 ⟨⟨sh124, cm124_0, by kernel_rfl, gm124_0, fm124_0⟩⟩
abbrev nt132 : Nat := 10
def sh132 : SG := []
def r132_2 : LA := [mK 4 0]
def r132_4 : LA := [oM 5 0, oO 6 (.pure (oB (.unOp .neg 3 (.tmp 5)) 3)), oM 7 1, oO 8 (.call 131 [(.tmp 6), (.tmp 7)]), oO 9 (.pure (oB (.unOp .neg 3 (.tmp 8)) 3)), oM 4 9]
def tr132 : TG := [tT 0 [0, 1], tT 1 [4]]
def tl132 : TG := []
def rs132 : List AResV := [.tmp 4]
def pr132_0_0 : PT (List RV) := pRs [wI]
def ur132_0_0 {β : Type} (g : List RV -> β) : Int -> β := pr132_0_0.unc g
def E132_0g (a : Tf131_0) : EnvK := EnvK.of [⟨131, nt131, [⟨pa131_0, Fn131_0 a⟩]⟩] noSeq
def E132_0 : EnvK := E132_0g f131_0
theorem eo132_0 : E132_0.Ok Pg := EnvK.of_ok noSeq_ok ⟨⟨io131_0, trivial⟩, trivial⟩
abbrev Tf132_0 : Type 1 := (α : Type) -> Int -> Int -> (Int -> Op α) -> Op α
def f132_0g (a : Tf131_0) (α : Type) (b c : Int) (k1 : Int -> Op α) : Op α :=
 a α (w64 (0 - b)) c
 (fun d => k1 (w64 (0 - d)))
def f132_0 (α : Type) (a b : Int) (k1 : Int -> Op α) : Op α := f132_0g f131_0 α a b k1
def pa132_0 : PT (List DV) := pA [vI, vI]
def Fn132_0 (v : Tf132_0) (α : Type) (k : RT α) : Int -> Int -> Op α := fun a b => v α a b (fun c => ur132_0_0 k c)
def cm132_0g : MCode := (.seq (.region r132_2 [] (tO [0, 1])) (.seq (.region r132_4 [] (tO [4])) .ret))
def cm132_0 : MCode := cm132_0g
theorem gm132_0 : cm132_0.Good Pg E132_0 sh132 := ⟨trivial, ⟨trivial, trivial⟩⟩
theorem fm132_0g (a : Tf131_0) (α : Type) (k : RT α) : Fn132_0 (f132_0g a) α k = pa132_0.unc fun ds => fnM Pg (E132_0g a) sh132 (cm132_0g ) rs132 k ds := by kernel_rfl
theorem fm132_0 : ∀ (α : Type) (k : RT α), Fn132_0 f132_0 α k = pa132_0.unc fun ds => fnM Pg E132_0 sh132 cm132_0 rs132 k ds := fm132_0g f131_0
theorem is132 : FnIs Pg 132 nt132 tr132 tl132 cm132_0.erase rs132 := ⟨Tryz.f132, Tryz.func132, rfl, by kernel_rfl, by kernel_rfl, by kernel_rfl⟩
theorem io132_0 : InstOk Pg 132 nt132 ⟨pa132_0, Fn132_0 f132_0⟩ := inst_ok eo132_0 followsTry is132 ⟨⟨sh132, cm132_0, by kernel_rfl, gm132_0, fm132_0⟩⟩
abbrev nt276 : Nat := 10
def sh276 : SG := []
def r276_2 : LA := [oO 4 (.mv (.const (.bool false)))]
def r276_4 : LA := [oM 5 0, oM 6 1, oO 7 (.pure (oB (.unOp .neg 3 (.tmp 6)) 3)), oM 8 1, oO 9 (.call 215 [(.tmp 5), (.tmp 7), (.tmp 8)]), oM 4 9]
def tr276 : TG := [tT 0 [0, 1], tT 1 [4]]
def tl276 : TG := []
def rs276 : List AResV := [.tmp 4]
def pr276_0_0 : PT (List RV) := pRs [pR false [rD dB]]
def ur276_0_0 {β : Type} (g : List RV -> β) : Bool -> β := pr276_0_0.unc g
def E276_0g (a : Tf215_0) : EnvK := EnvK.of [⟨215, nt215, [⟨pa215_0, Fn215_0 a⟩]⟩] noSeq
def E276_0 : EnvK := E276_0g f215_0
theorem eo276_0 : E276_0.Ok Pg := EnvK.of_ok noSeq_ok ⟨⟨io215_0, trivial⟩, trivial⟩
abbrev Tf276_0 : Type 1 := (α : Type) -> Int -> Int -> (Bool -> Op α) -> Op α
def f276_0g (b : Tf215_0) (α : Type) (c a : Int) (k1 : Bool -> Op α) : Op α :=
 b α c (w64 (0 - a)) a
 (fun d => k1 d)
def f276_0 (α : Type) (a b : Int) (k1 : Bool -> Op α) : Op α := f276_0g f215_0 α a b k1
def pa276_0 : PT (List DV) := pA [vI, vI]
def Fn276_0 (v : Tf276_0) (α : Type) (k : RT α) : Int -> Int -> Op α := fun a b => v α a b (fun c => ur276_0_0 k c)
def cm276_0g : MCode := (.seq (.region r276_2 [] (tO [0, 1])) (.seq (.region r276_4 [] (tO [4])) .ret))
def cm276_0 : MCode := cm276_0g
theorem gm276_0 : cm276_0.Good Pg E276_0 sh276 := ⟨trivial, ⟨trivial, trivial⟩⟩
theorem fm276_0g (a : Tf215_0) (α : Type) (k : RT α) : Fn276_0 (f276_0g a) α k = pa276_0.unc fun ds => fnM Pg (E276_0g a) sh276 (cm276_0g ) rs276 k ds := by kernel_rfl
theorem fm276_0 : ∀ (α : Type) (k : RT α), Fn276_0 f276_0 α k = pa276_0.unc fun ds => fnM Pg E276_0 sh276 cm276_0 rs276 k ds := fm276_0g f215_0
theorem is276 : FnIs Pg 276 nt276 tr276 tl276 cm276_0.erase rs276 := ⟨Tryz.f276, Tryz.func276, rfl, by kernel_rfl, by kernel_rfl, by kernel_rfl⟩
theorem io276_0 : InstOk Pg 276 nt276 ⟨pa276_0, Fn276_0 f276_0⟩ := inst_ok eo276_0 followsTry is276 ⟨⟨sh276, cm276_0, by kernel_rfl, gm276_0, fm276_0⟩⟩
abbrev nt121 : Nat := 10
def sh121 : SG := []
def r121_2 : LA := [mK 4 0]
def r121_4 : LA := [oM 5 0, oO 6 (.pure (oB (.unOp .neg 3 (.tmp 5)) 3)), oM 7 1, oO 8 (.call 216 [(.tmp 6), (.tmp 7)]), oO 9 (.pure (oB (.unOp .neg 3 (.tmp 8)) 3)), oM 4 9]
def tr121 : TG := [tT 0 [0, 1], tT 1 [4]]
def tl121 : TG := []
def rs121 : List AResV := [.tmp 4]
def pr121_0_0 : PT (List RV) := pRs [wI]
def ur121_0_0 {β : Type} (g : List RV -> β) : Int -> β := pr121_0_0.unc g
def E121_0g (a : Tf216_0) : EnvK := EnvK.of [⟨216, nt216, [⟨pa216_0, Fn216_0 a⟩]⟩] noSeq
def E121_0 : EnvK := E121_0g f216_0
theorem eo121_0 : E121_0.Ok Pg := EnvK.of_ok noSeq_ok ⟨⟨io216_0, trivial⟩, trivial⟩
abbrev Tf121_0 : Type 1 := (α : Type) -> Int -> Int -> (Int -> Op α) -> Op α
def f121_0g (a : Tf216_0) (α : Type) (b c : Int) (k1 : Int -> Op α) : Op α :=
 a α (w64 (0 - b)) c
 (fun d => k1 (w64 (0 - d)))
def f121_0 (α : Type) (a b : Int) (k1 : Int -> Op α) : Op α := f121_0g f216_0 α a b k1
def pa121_0 : PT (List DV) := pA [vI, vI]
def Fn121_0 (v : Tf121_0) (α : Type) (k : RT α) : Int -> Int -> Op α := fun a b => v α a b (fun c => ur121_0_0 k c)
def cm121_0g : MCode := (.seq (.region r121_2 [] (tO [0, 1])) (.seq (.region r121_4 [] (tO [4])) .ret))
def cm121_0 : MCode := cm121_0g
theorem gm121_0 : cm121_0.Good Pg E121_0 sh121 := ⟨trivial, ⟨trivial, trivial⟩⟩
theorem fm121_0g (a : Tf216_0) (α : Type) (k : RT α) : Fn121_0 (f121_0g a) α k = pa121_0.unc fun ds => fnM Pg (E121_0g a) sh121 (cm121_0g ) rs121 k ds := by kernel_rfl
theorem fm121_0 : ∀ (α : Type) (k : RT α), Fn121_0 f121_0 α k = pa121_0.unc fun ds => fnM Pg E121_0 sh121 cm121_0 rs121 k ds := fm121_0g f216_0
theorem is121 : FnIs Pg 121 nt121 tr121 tl121 cm121_0.erase rs121 := ⟨Tryz.f121, Tryz.func121, rfl, by kernel_rfl, by kernel_rfl, by kernel_rfl⟩
theorem io121_0 : InstOk Pg 121 nt121 ⟨pa121_0, Fn121_0 f121_0⟩ := inst_ok eo121_0 followsTry is121 ⟨⟨sh121, cm121_0, by kernel_rfl, gm121_0, fm121_0⟩⟩
abbrev nt120 : Nat := 44
def sh120 : SG := [(21, iT), (22, iT)]
def r120_2 : LA := [oO 4 (.mv (.const (.slice none 0 0))), mK 5 0]
def r120_6 : LA := [oM 10 0, oO 11 (.len (.tmp 10)), bK 12 .gtr 11 64, oM 9 12]
def r120_9 : LA := [oO 4 (.mv (.const (.slice none 0 0))), mK 5 8]
def r120_11 : LA := [oM 14 1, oO 15 (.call 215 [(.tmp 14), (kI 1), (kI 1000)]), oO 16 (.pure (oB (.unOp .not 4 (.tmp 15)) 4)), oM 13 16]
def r120_14 : LA := [oO 4 (.mv (.const (.slice none 0 0))), mK 5 2]
def r120_16 : LA := [oO 6 (.mv (.const (.slice none 0 0)))]
def r120_19 : LA := [oM 17 0, oO 18 (.len (.tmp 17)), mK 19 0]
def td120_21 : OT := (some ⟨[1, 6, 17, 18, 19], true, [⟨false, 6, 0, 20006, 1⟩, ⟨false, 17, 0, 20017, 1⟩], []⟩)
def r120_23 : LA := [bT 20 .lss 19 18]
def r120_29 : LA := [oO 21 (.iaddr 1 none (.tmp 17) (.tmp 19)), lD 22 21, oM 8 22]
def r120_32 : LA := [oM 23 8, oO 24 (.call 215 [(.tmp 23), (kI 0), (kI 65535)]), oO 25 (.pure (oB (.unOp .not 4 (.tmp 24)) 4))]
def r120_35 : LA := [oO 4 (.mv (.const (.slice none 0 0))), mK 5 2]
def r120_37 : LA := [oM 26 1, oM 27 8, oO 28 (.bin .mul 3 (kI 2) (.tmp 27)), oM 29 1, bT 30 .add 28 29, oM 31 1, oO 32 (.bin .mul 3 (kI 2) (.tmp 31)), oO 33 (.call 131 [(.tmp 30), (.tmp 32)]), bT 34 .mul 26 33, oM 8 34]
def r120_40 : LA := [oM 35 8, bK 36 .gtr 35 65535]
def r120_43 : LA := [oO 4 (.mv (.const (.slice none 0 0))), mK 5 8]
def r120_44 : LA := [oM 37 6, oM 38 8, oO 39 (.pure (oB (.convert 3 80 (.tmp 38)) 80)), oO 40 (.bslice 1 1 [(.v (.float Go.FloatKind.f32 0))] [(0, (.tmp 39))]), oO 41 (.append 1 4 (.tmp 37) (.tmp 40)), oM 6 41]
def r120_45 : LA := [bK 42 .add 19 1, oM 19 42]
def r120_47 : LA := [oM 43 6, oM 4 43, mK 5 0]
def tr120 : TG := [tT 0 [0, 1], tT 1 [0, 1, 9], (2, ⟨[4, 5], true, [⟨false, 4, 0, 20004, 1⟩], []⟩), tT 3 [0, 1, 13], (4, ⟨[4, 5], true, [⟨false, 4, 0, 20004, 1⟩], []⟩), tT 5 [0, 1, 6], tT 6 [1, 6, 17, 18, 19], tT 7 [1, 6, 17, 18, 19, 20], tT 8 [1, 6, 8, 17, 18, 19], tT 9 [1, 6, 8, 17, 18, 19, 25], (10, ⟨[4, 5], true, [⟨false, 4, 0, 20004, 1⟩], []⟩), tT 11 [1, 6, 8, 17, 18, 19], tT 12 [1, 6, 8, 17, 18, 19, 36], (13, ⟨[4, 5], true, [⟨false, 4, 0, 20004, 1⟩], []⟩), tT 14 [1, 6, 17, 18, 19], tT 15 [1, 6, 17, 18, 19], (16, ⟨[4, 5], true, [⟨false, 4, 0, 20004, 1⟩], []⟩)]
def tl120 : TG := [(7, ⟨[1, 6, 17, 18, 19], true, [⟨false, 6, 0, 20006, 1⟩, ⟨false, 17, 0, 20017, 1⟩], []⟩)]
def rs120 : List AResV := [.tmp 4, .tmp 5]
def p120_0_0 : PT St := pS [sI 1, sl 6 (aV false [(cRef 20006)]), sl 17 (aV false [(cD dL)]), sI 18, sI 19] [eOwn 20006 1]
def u120_0_0 {β : Type} (g : St -> β) : Int -> Rows -> Int -> Int -> Rows -> β := p120_0_0.unc g
def p120_0_1 : PT St := pS [sl 4 (aV false [(cRef 20004)]), sI 5] [eOwn 20004 1]
def u120_0_1 {β : Type} (g : St -> β) : Int -> Rows -> β := p120_0_1.unc g
def p120_0_2 : PT St := pS [sI 1, sl 6 (aV false [(cRef 20006)]), sl 17 (aV false [(cD dL)]), sI 18, sI 19, sl 20 (aV false [(cD dB)])] [eOwn 20006 1]
def u120_0_2 {β : Type} (g : St -> β) : Int -> Rows -> Int -> Int -> Bool -> Rows -> β := p120_0_2.unc g
def pr120_0_0 : PT (List RV) := pRs [pR false [rO 1], wI]
def ur120_0_0 {β : Type} (g : List RV -> β) : Rows -> Int -> β := pr120_0_0.unc g
def E120_0g (a : Tf215_0) (b : Tf131_0) : EnvK := EnvK.of [⟨215, nt215, [⟨pa215_0, Fn215_0 a⟩]⟩, ⟨131, nt131, [⟨pa131_0, Fn131_0 b⟩]⟩] noSeq
def E120_0 : EnvK := E120_0g f215_0 f131_0
theorem eo120_0 : E120_0.Ok Pg := EnvK.of_ok noSeq_ok ⟨⟨io215_0, trivial⟩, ⟨io131_0, trivial⟩, trivial⟩
def c120_0_21g : MCode := (.seq (.region r120_23 [] (tO [1, 6, 17, 18, 19, 20])) (.seq (.cond (.tmp 20) .skip (.exit 1)) (.seq (.block 2 (.seq (.region r120_29 [] (tO [1, 6, 8, 17, 18, 19])) (.seq (.seq (.region r120_32 [] (tO [1, 6, 8, 17, 18, 19, 25])) (.cond (.tmp 25) (.seq (.region r120_35 [] (some ⟨[4, 5], true, [⟨false, 4, 0, 20004, 1⟩], []⟩)) .ret) .skip)) (.seq (.region r120_37 [] (tO [1, 6, 8, 17, 18, 19])) (.seq (.seq (.region r120_40 [] (tO [1, 6, 8, 17, 18, 19, 36])) (.cond (.tmp 36) (.seq (.region r120_43 [] (some ⟨[4, 5], true, [⟨false, 4, 0, 20004, 1⟩], []⟩)) .ret) .skip)) (.region r120_44 [] (tO [1, 6, 17, 18, 19]))))))) (.region r120_45 [] (tO [1, 6, 17, 18, 19])))))
def c120_0_21 : MCode := c120_0_21g
theorem g120_0_21 : c120_0_21.Good Pg E120_0 sh120 := ⟨trivial, ⟨⟨trivial, trivial⟩, ⟨⟨trivial, ⟨⟨trivial, ⟨⟨trivial, trivial⟩, trivial⟩⟩, ⟨trivial, ⟨⟨trivial, ⟨⟨trivial, trivial⟩, trivial⟩⟩, trivial⟩⟩⟩⟩, trivial⟩⟩⟩
def S120_0_0g (h : Tf131_0) (i : Tf215_0) (α : Type) (a : Int) (j : Rows) (e b : Int) (c : Rows) (kn : Int -> Rows -> Op α) (k1 : Int -> Op α) (k2 : Int -> Bool -> Rows -> Op α) : Op α :=
 cK (decide (b < e))
 (rowK j b [.int .i64]
 (fun g => i α g 0 65535
 (fun l => cK (!l)
 (k1 2)
 (h α (w64 ((w64 (2 * g)) + a)) (w64 (2 * a))
 (fun d => cK (decide (65535 < (w64 (a * d))))
 (k1 8)
 (gK (apOk 1 4 c [[DC.v (.float .f32 (FloatKind.nearest .f32 (w64 (a * d))))]]) (kn (w64 (b + 1)) (c ++ [[DC.v (.float .f32 (FloatKind.nearest .f32 (w64 (a * d))))]]))))))))
 (k2 b (decide (b < e)) c)
def S120_0_0 (α : Type) (a : Int) (b : Rows) (c d : Int) (e : Rows) (kn : Int -> Rows -> Op α) (k1 : Int -> Op α) (k2 : Int -> Bool -> Rows -> Op α) : Op α := S120_0_0g f131_0 f215_0 α a b c d e kn k1 k2
def R120_0_0 (α : Type) (a : Int) (b : Rows) (c : Int) (k1 : Int -> Op α) (k2 : Int -> Bool -> Rows -> Op α) : Nat -> Int -> Rows -> Op α
 | 0, _, _ => none
 | n + 1, d, e => S120_0_0 α a b c d e (R120_0_0 α a b c k1 k2 n) k1 k2
def L120_0_0 (α : Type) (a : Int) (b : Rows) (c : Int) (k1 : Int -> Op α) (k2 : Int -> Bool -> Rows -> Op α) (d : Int) (e : Rows) : Op α := R120_0_0 α a b c k1 k2 fuel d e
abbrev TL120_0_0 : Type 1 := (α : Type) -> Int -> Rows -> Int -> (Int -> Op α) -> (Int -> Bool -> Rows -> Op α) -> Int -> Rows -> Op α
def F120_0_0 (v : TL120_0_0) (α : Type) (K : KT α) : Int -> Rows -> Int -> Int -> Rows -> Op α := fun b c d e g => v α b c d (fun a => u120_0_1 (K .ret) a ([] : Rows)) (fun a h i => u120_0_2 (K (.exit 1)) b c d a h i) e g
theorem r120_0_0g (h : Tf215_0) (i : Tf131_0) (α : Type) (K : KT α) (Kn : SK α) (a : Int) (b : Rows) (c d : Int) (e : Rows) : u120_0_0 (fun σ => runM Pg (E120_0g h i) sh120 (c120_0_21g ) (thenK (fun σ => tidyK td120_21 σ Kn) K) σ) a b c d e = S120_0_0g i h α a b c d e (fun d e => u120_0_0 Kn a b c d e) (fun g => u120_0_1 (K .ret) g ([] : Rows)) (fun g j l => u120_0_2 (K (.exit 1)) a b c g j l) := by kernel_rfl
theorem r120_0_0 (α : Type) (K : KT α) (Kn : SK α) (a : Int) (b : Rows) (c d : Int) (e : Rows) : u120_0_0 (fun σ => runM Pg E120_0 sh120 c120_0_21 (thenK (fun σ => tidyK td120_21 σ Kn) K) σ) a b c d e = S120_0_0 α a b c d e (fun d e => u120_0_0 Kn a b c d e) (fun g => u120_0_1 (K .ret) g ([] : Rows)) (fun g h i => u120_0_2 (K (.exit 1)) a b c g h i) := r120_0_0g f215_0 f131_0 α K Kn a b c d e
theorem t120_0_0 (α : Type) (K : KT α) : ∀ (n : Nat) (a : Int) (b : Rows) (c d : Int) (e : Rows), R120_0_0 α a b c (fun g => u120_0_1 (K .ret) g ([] : Rows)) (fun g h i => u120_0_2 (K (.exit 1)) a b c g h i) n d e = u120_0_0 (loopT (runM Pg E120_0 sh120 c120_0_21) td120_21 K n) a b c d e := by
 intro n
 induction n with
 | zero => intros; rfl
 | succ n ih => intro a b c d e; exact (congrArg (fun kn => S120_0_0 α a b c d e kn (fun g => u120_0_1 (K .ret) g ([] : Rows)) (fun g h i => u120_0_2 (K (.exit 1)) a b c g h i)) (funext fun d => funext fun e => ih a b c d e)).trans (r120_0_0 α K (loopT (runM Pg E120_0 sh120 c120_0_21) td120_21 K n) a b c d e).symm
theorem m120_0_0 : ∀ (α : Type) (K : KT α), F120_0_0 L120_0_0 α K = p120_0_0.unc fun σ => loopT (runM Pg E120_0 sh120 c120_0_21) td120_21 K fuel σ := fun α K => by funext a b c d e; exact t120_0_0 α K fuel a b c d e
abbrev Tf120_0 : Type 1 := (α : Type) -> Rows -> Int -> (Rows -> Int -> Op α) -> Op α
def f120_0g (c : TL120_0_0) (d : Tf215_0) (α : Type) (a : Rows) (b : Int) (k1 : Rows -> Int -> Op α) : Op α :=
 cK (decide (64 < ((List.length a : Nat) : Int)))
 (k1 ([] : Rows) 8)
 (d α b 1 1000
 (fun e => cK (!e)
 (k1 ([] : Rows) 2)
 (c α b a ((List.length a : Nat) : Int)
 (fun g => k1 ([] : Rows) g)
 (fun i j h => k1 h 0) 0 ([] : Rows))))
def f120_0 (α : Type) (a : Rows) (b : Int) (k1 : Rows -> Int -> Op α) : Op α := f120_0g L120_0_0 f215_0 α a b k1
def pa120_0 : PT (List DV) := pA [pV false [dL], vI]
def Fn120_0 (v : Tf120_0) (α : Type) (k : RT α) : Rows -> Int -> Op α := fun a b => v α a b (fun c d => ur120_0_0 k c d)
def cm120_0g (a : TL120_0_0) : MCode := (.seq (.region r120_2 [] (tO [0, 1])) (.seq (.block 0 (.seq (.region r120_6 [] (tO [0, 1, 9])) (.cond (.tmp 9) (.seq (.region r120_9 [] (some ⟨[4, 5], true, [⟨false, 4, 0, 20004, 1⟩], []⟩)) .ret) (.seq (.region r120_11 [] (tO [0, 1, 13])) (.cond (.tmp 13) (.seq (.region r120_14 [] (some ⟨[4, 5], true, [⟨false, 4, 0, 20004, 1⟩], []⟩)) .ret) .skip))))) (.seq (.region r120_16 [] (tO [0, 1, 6])) (.seq (.seq (.region r120_19 [] (tO [1, 6, 17, 18, 19])) (.block 1 (.loop td120_21 [⟨p120_0_0, F120_0_0 a⟩] c120_0_21))) (.seq (.region r120_47 [] (some ⟨[4, 5], true, [⟨false, 4, 0, 20004, 1⟩], []⟩)) .ret)))))
def cm120_0 : MCode := cm120_0g L120_0_0
theorem gm120_0 : cm120_0.Good Pg E120_0 sh120 := ⟨trivial, ⟨⟨trivial, ⟨⟨trivial, trivial⟩, ⟨trivial, ⟨⟨trivial, trivial⟩, trivial⟩⟩⟩⟩, ⟨trivial, ⟨⟨trivial, ⟨g120_0_21, m120_0_0, trivial⟩⟩, ⟨trivial, trivial⟩⟩⟩⟩⟩
theorem fm120_0g (a : Tf215_0) (c : Tf131_0) (b : TL120_0_0) (α : Type) (k : RT α) : Fn120_0 (f120_0g b a) α k = pa120_0.unc fun ds => fnM Pg (E120_0g a c) sh120 (cm120_0g b) rs120 k ds := by kernel_rfl
theorem fm120_0 : ∀ (α : Type) (k : RT α), Fn120_0 f120_0 α k = pa120_0.unc fun ds => fnM Pg E120_0 sh120 cm120_0 rs120 k ds := fm120_0g f215_0 f131_0 L120_0_0
theorem is120 : FnIs Pg 120 nt120 tr120 tl120 cm120_0.erase rs120 := ⟨Tryz.f120, Tryz.func120, rfl, by kernel_rfl, by kernel_rfl, by kernel_rfl⟩
theorem io120_0 : InstOk Pg 120 nt120 ⟨pa120_0, Fn120_0 f120_0⟩ := inst_ok eo120_0 followsTry is120 ⟨⟨sh120, cm120_0, by kernel_rfl, gm120_0, fm120_0⟩⟩
abbrev nt222 : Nat := 15
def sh222 : SG := []
def r222_2 : LA := [oO 4 (.mv (.const (.bool false)))]
def r222_5 : LA := [oM 5 1, bK 6 .eql 5 0]
def r222_7 : LA := [oM 7 0, oO 8 (.call 273 [.tmp 7]), oM 0 8]
def r222_9 : LA := [oM 9 1, bK 10 .lss 9 0]
def r222_11 : LA := [oM 11 0, oO 12 (.pure (oB (.unOp .neg 231 (.tmp 11)) 231)), oM 0 12]
def r222_13 : LA := [oM 13 0, oO 14 (.bin .gtr 231 (.tmp 13) (.const (.float Go.FloatKind.f64 9218868437227405311))), oM 4 14]
def tr222 : TG := [tT 0 [0, 1], tT 1 [0, 1, 6], tT 2 [0], tT 3 [0, 10], tT 4 [0], tT 5 [4]]
def tl222 : TG := []
def rs222 : List AResV := [.tmp 4]
def pr222_0_0 : PT (List RV) := pRs [pR false [rD dB]]
def ur222_0_0 {β : Type} (g : List RV -> β) : Bool -> β := pr222_0_0.unc g
def E222_0g (a : Tf273_0) : EnvK := EnvK.of [⟨273, nt273, [⟨pa273_0, Fn273_0 a⟩]⟩] noSeq
def E222_0 : EnvK := E222_0g f273_0
theorem eo222_0 : E222_0.Ok Pg := EnvK.of_ok noSeq_ok ⟨⟨io273_0, trivial⟩, trivial⟩
abbrev Tf222_0 : Type 1 := (α : Type) -> Nat -> Int -> (Bool -> Op α) -> Op α
def f222_0g (c : Tf273_0) (α : Type) (a : Nat) (b : Int) (k1 : Bool -> Op α) : Op α :=
 cK (b == 0)
 (c α a
 (fun d => k1 ((FloatKind.format .f64).order d 9218868437227405311 == some Ordering.gt)))
 (cK (decide (b < 0))
 (k1 ((FloatKind.format .f64).order (Op.negFloat .f64 a) 9218868437227405311 == some Ordering.gt))
 (k1 ((FloatKind.format .f64).order a 9218868437227405311 == some Ordering.gt)))
def f222_0 (α : Type) (a : Nat) (b : Int) (k1 : Bool -> Op α) : Op α := f222_0g f273_0 α a b k1
def pa222_0 : PT (List DV) := pA [pV false [(dF .f64)], vI]
def Fn222_0 (v : Tf222_0) (α : Type) (k : RT α) : Nat -> Int -> Op α := fun a b => v α a b (fun c => ur222_0_0 k c)
def cm222_0g : MCode := (.seq (.region r222_2 [] (tO [0, 1])) (.seq (.seq (.region r222_5 [] (tO [0, 1, 6])) (.cond (.tmp 6) (.region r222_7 [] (tO [0])) (.seq (.region r222_9 [] (tO [0, 10])) (.cond (.tmp 10) (.region r222_11 [] (tO [0])) .skip)))) (.seq (.region r222_13 [] (tO [4])) .ret)))
def cm222_0 : MCode := cm222_0g
theorem gm222_0 : cm222_0.Good Pg E222_0 sh222 := ⟨trivial, ⟨⟨trivial, ⟨trivial, ⟨trivial, ⟨trivial, trivial⟩⟩⟩⟩, ⟨trivial, trivial⟩⟩⟩
theorem fm222_0g (a : Tf273_0) (α : Type) (k : RT α) : Fn222_0 (f222_0g a) α k = pa222_0.unc fun ds => fnM Pg (E222_0g a) sh222 (cm222_0g ) rs222 k ds := by kernel_rfl
theorem fm222_0 : ∀ (α : Type) (k : RT α), Fn222_0 f222_0 α k = pa222_0.unc fun ds => fnM Pg E222_0 sh222 cm222_0 rs222 k ds := fm222_0g f273_0
theorem is222 : FnIs Pg 222 nt222 tr222 tl222 cm222_0.erase rs222 := ⟨Tryz.f222, Tryz.func222, rfl, by kernel_rfl, by kernel_rfl, by kernel_rfl⟩
theorem io222_0 : InstOk Pg 222 nt222 ⟨pa222_0, Fn222_0 f222_0⟩ := inst_ok eo222_0 followsTry is222 ⟨⟨sh222, cm222_0, by kernel_rfl, gm222_0, fm222_0⟩⟩
abbrev nt239 : Nat := 40
def sh239 : SG := []
def r239_2 : LA := [mK 6 0, mK 7 0]
def r239_6 : LA := [oM 9 0, oM 10 0, oO 11 (.bin .neq 80 (.tmp 9) (.tmp 10)), oM 12 11, oG 13 (.mv (.tmp 0)) 12 false, oG 14 (.mv (.tmp 0)) 12 false, oG 15 (.bin .sub 80 (.tmp 13) (.tmp 14)) 12 false, oG 16 (.bin .neq 80 (.tmp 15) (.const (.float Go.FloatKind.f32 0))) 12 false, oO 17 (.pick (.tmp 12) (.const (.bool true)) (.tmp 16)), oM 8 17]
def r239_9 : LA := [mK 6 0, mK 7 27]
def r239_11 : LA := [oM 19 0, oO 20 (.bin .gtr 80 (.tmp 19) (.const (.float Go.FloatKind.f32 1317011456))), oM 21 20, oG 22 (.mv (.tmp 0)) 21 false, oG 23 (.bin .lss 80 (.tmp 22) (.const (.float Go.FloatKind.f32 3464495104))) 21 false, oO 24 (.pick (.tmp 21) (.const (.bool true)) (.tmp 23)), oM 18 24]
def r239_14 : LA := [mK 6 0, mK 7 2]
def r239_16 : LA := [oM 26 0, oO 27 (.pure (oB (.convert 80 3 (.tmp 26)) 3)), oO 28 (.pure (oB (.convert 3 80 (.tmp 27)) 80)), oM 29 0, oO 30 (.bin .neq 80 (.tmp 28) (.tmp 29)), oM 25 30]
def r239_19 : LA := [mK 6 0, mK 7 27]
def r239_21 : LA := [oM 32 0, oO 33 (.pure (oB (.convert 80 3 (.tmp 32)) 3)), oM 34 1, oM 35 2, oO 36 (.call 215 [(.tmp 33), (.tmp 34), (.tmp 35)]), oO 37 (.pure (oB (.unOp .not 4 (.tmp 36)) 4)), oM 31 37]
def r239_24 : LA := [mK 6 0, mK 7 2]
def r239_26 : LA := [oM 38 0, oO 39 (.pure (oB (.convert 80 3 (.tmp 38)) 3)), oM 6 39, mK 7 0]
def tr239 : TG := [tT 0 [0, 1, 2], tT 1 [0, 1, 2, 8], tT 2 [6, 7], tT 3 [0, 1, 2, 18], tT 4 [6, 7], tT 5 [0, 1, 2, 25], tT 6 [6, 7], tT 7 [0, 31], tT 8 [6, 7], tT 9 [6, 7]]
def tl239 : TG := []
def rs239 : List AResV := [.tmp 6, .tmp 7]
def p239_0_0 : PT St := pS [sl 0 (aV false [(cD (dF .f32))]), sI 1, sI 2] []
def u239_0_0 {β : Type} (g : St -> β) : Nat -> Int -> Int -> β := p239_0_0.unc g
def p239_0_1 : PT St := pS [sl 0 (aV false [(cD (dF .f32))]), sI 1, sI 2, sl 8 (aV false [(cD dB)])] []
def u239_0_1 {β : Type} (g : St -> β) : Nat -> Int -> Int -> Bool -> β := p239_0_1.unc g
def p239_0_2 : PT St := pS [sl 0 (aV false [(cD (dF .f32))]), sI 1, sI 2, sl 18 (aV false [(cD dB)])] []
def u239_0_2 {β : Type} (g : St -> β) : Nat -> Int -> Int -> Bool -> β := p239_0_2.unc g
def pr239_0_0 : PT (List RV) := pRs [wI, wI]
def ur239_0_0 {β : Type} (g : List RV -> β) : Int -> Int -> β := pr239_0_0.unc g
def E239_0g (a : Tf215_0) : EnvK := EnvK.of [⟨215, nt215, [⟨pa215_0, Fn215_0 a⟩]⟩] noSeq
def E239_0 : EnvK := E239_0g f215_0
theorem eo239_0 : E239_0.Ok Pg := EnvK.of_ok noSeq_ok ⟨⟨io215_0, trivial⟩, trivial⟩
def c239_0_10g : MCode := (.region r239_11 [] (tO [0, 1, 2, 18]))
def c239_0_10 : MCode := c239_0_10g
theorem g239_0_10 : c239_0_10.Good Pg E239_0 sh239 := trivial
abbrev TJ239_0_1 : Type 1 := (α : Type) -> Nat -> (Bool -> Op α) -> Op α
def J239_0_1g (α : Type) (a : Nat) (k1 : Bool -> Op α) : Op α :=
 cK ((FloatKind.format .f32).order a 1317011456 == some Ordering.gt)
 (k1 true)
 (k1 ((FloatKind.format .f32).order a 3464495104 == some Ordering.lt))
def J239_0_1 (α : Type) (a : Nat) (k1 : Bool -> Op α) : Op α := J239_0_1g α a k1
def F239_0_1 (v : TJ239_0_1) (α : Type) (K : KT α) : Nat -> Int -> Int -> Bool -> Op α := fun a b c e => v α a (fun d => u239_0_2 (K .normal) a b c d)
theorem m239_0_1g (a : Tf215_0) (α : Type) (K : KT α) : F239_0_1 (J239_0_1g ) α K = p239_0_1.unc fun σ => runM Pg (E239_0g a) sh239 (c239_0_10g ) K σ := by kernel_rfl
theorem m239_0_1 : ∀ (α : Type) (K : KT α), F239_0_1 J239_0_1 α K = p239_0_1.unc fun σ => runM Pg E239_0 sh239 c239_0_10 K σ := m239_0_1g f215_0
def c239_0_5g : MCode := (.region r239_6 [] (tO [0, 1, 2, 8]))
def c239_0_5 : MCode := c239_0_5g
theorem g239_0_5 : c239_0_5.Good Pg E239_0 sh239 := trivial
abbrev TJ239_0_0 : Type 1 := (α : Type) -> Nat -> (Bool -> Op α) -> Op α
def J239_0_0g (α : Type) (a : Nat) (k1 : Bool -> Op α) : Op α :=
 cK ((FloatKind.format .f32).order a a != some Ordering.eq)
 (k1 true)
 (flN ((FloatKind.format .f32).sub a a)
 (fun b => k1 ((FloatKind.format .f32).order b 0 != some Ordering.eq))
 (k1 true))
def J239_0_0 (α : Type) (a : Nat) (k1 : Bool -> Op α) : Op α := J239_0_0g α a k1
def F239_0_0 (v : TJ239_0_0) (α : Type) (K : KT α) : Nat -> Int -> Int -> Op α := fun a b c => v α a (fun d => u239_0_1 (K .normal) a b c d)
theorem m239_0_0g (a : Tf215_0) (α : Type) (K : KT α) : F239_0_0 (J239_0_0g ) α K = p239_0_0.unc fun σ => runM Pg (E239_0g a) sh239 (c239_0_5g ) K σ := by kernel_rfl
theorem m239_0_0 : ∀ (α : Type) (K : KT α), F239_0_0 J239_0_0 α K = p239_0_0.unc fun σ => runM Pg E239_0 sh239 c239_0_5 K σ := m239_0_0g f215_0
abbrev Tf239_0 : Type 1 := (α : Type) -> Nat -> Int -> Int -> (Int -> Int -> Op α) -> Op α
def f239_0g (b : TJ239_0_0) (c : TJ239_0_1) (d : Tf215_0) (α : Type) (a : Nat) (e g : Int) (k1 : Int -> Int -> Op α) : Op α :=
 b α a
 (fun h => cK h
 (k1 0 27)
 (c α a
 (fun i => cK i
 (k1 0 2)
 (ivK (f2i .f32 a .i64)
 (fun j => cK ((FloatKind.format .f32).order (FloatKind.nearest .f32 j) a != some Ordering.eq)
 (k1 0 27)
 (ivK (f2i .f32 a .i64)
 (fun l => d α l e g
 (fun m => cK (!m)
 (k1 0 2)
 (ivK (f2i .f32 a .i64)
 (fun o => k1 o 0))))))))))
def f239_0 (α : Type) (a : Nat) (b c : Int) (k1 : Int -> Int -> Op α) : Op α := f239_0g J239_0_0 J239_0_1 f215_0 α a b c k1
def pa239_0 : PT (List DV) := pA [pV false [(dF .f32)], vI, vI]
def Fn239_0 (v : Tf239_0) (α : Type) (k : RT α) : Nat -> Int -> Int -> Op α := fun a b c => v α a b c (fun d e => ur239_0_0 k d e)
def cm239_0g (a : TJ239_0_0) (b : TJ239_0_1) : MCode := (.seq (.region r239_2 [] (tO [0, 1, 2])) (.seq (.block 0 (.seq (.mark [⟨p239_0_0, F239_0_0 a⟩] c239_0_5) (.cond (.tmp 8) (.seq (.region r239_9 [] (tO [6, 7])) .ret) (.seq (.mark [⟨p239_0_1, F239_0_1 b⟩] c239_0_10) (.cond (.tmp 18) (.seq (.region r239_14 [] (tO [6, 7])) .ret) (.seq (.region r239_16 [] (tO [0, 1, 2, 25])) (.cond (.tmp 25) (.seq (.region r239_19 [] (tO [6, 7])) .ret) (.seq (.region r239_21 [] (tO [0, 31])) (.cond (.tmp 31) (.seq (.region r239_24 [] (tO [6, 7])) .ret) .skip))))))))) (.seq (.region r239_26 [] (tO [6, 7])) .ret)))
def cm239_0 : MCode := cm239_0g J239_0_0 J239_0_1
theorem gm239_0 : cm239_0.Good Pg E239_0 sh239 := ⟨trivial, ⟨⟨⟨g239_0_5, m239_0_0, trivial⟩, ⟨⟨trivial, trivial⟩, ⟨⟨g239_0_10, m239_0_1, trivial⟩, ⟨⟨trivial, trivial⟩, ⟨trivial, ⟨⟨trivial, trivial⟩, ⟨trivial, ⟨⟨trivial, trivial⟩, trivial⟩⟩⟩⟩⟩⟩⟩⟩, ⟨trivial, trivial⟩⟩⟩
theorem fm239_0g (a : Tf215_0) (b : TJ239_0_0) (c : TJ239_0_1) (α : Type) (k : RT α) : Fn239_0 (f239_0g b c a) α k = pa239_0.unc fun ds => fnM Pg (E239_0g a) sh239 (cm239_0g b c) rs239 k ds := by kernel_rfl
theorem fm239_0 : ∀ (α : Type) (k : RT α), Fn239_0 f239_0 α k = pa239_0.unc fun ds => fnM Pg E239_0 sh239 cm239_0 rs239 k ds := fm239_0g f215_0 J239_0_0 J239_0_1
theorem is239 : FnIs Pg 239 nt239 tr239 tl239 cm239_0.erase rs239 := ⟨Tryz.f239, Tryz.func239, rfl, by kernel_rfl, by kernel_rfl, by kernel_rfl⟩
theorem io239_0 : InstOk Pg 239 nt239 ⟨pa239_0, Fn239_0 f239_0⟩ := inst_ok eo239_0 followsTry is239 ⟨⟨sh239, cm239_0, by kernel_rfl, gm239_0, fm239_0⟩⟩
abbrev nt128 : Nat := 27
def sh128 : SG := [(10, iT), (14, iT), (19, iT), (23, iT)]
def r128_2 : LA := [oO 2 (.box (.tmp 0)), oO 3 (.alloc [(cI 0), (cI 0)])]
def r128_4 : LA := [oO 6 (.mkfn 129 [(.tmp 1)]), oM 4 6]
def r128_6 : LA := [oO 7 (.mkfn 130 [(.tmp 1)]), oM 5 7]
def r128_8 : LA := [oM 8 4, fA 9 1 2, lD 10 9, oO 11 (.calld (.tmp 8) [(.tmp 10)]), oM 12 5, fA 13 1 2, lD 14 13, oO 15 (.calld (.tmp 12) [(.tmp 14)]), oO 16 (.call 131 [(.tmp 11), (.tmp 15)]), oM 17 4, fA 18 0 2, lD 19 18, oO 20 (.calld (.tmp 17) [(.tmp 19)]), oM 21 5, fA 22 0 2, lD 23 22, oO 24 (.calld (.tmp 21) [(.tmp 23)]), oO 25 (.call 132 [(.tmp 20), (.tmp 24)]), oO 26 (.build [(cI 0), (cI 0)] [(0, 1, (.tmp 16)), (1, 1, (.tmp 25))]), sD 2 3 26]
def tr128 : TG := [tT 0 [1, 2, 3], tT 1 [1, 2, 3, 4], tT 2 [2, 3, 4, 5], tT 3 [3]]
def tl128 : TG := []
def rs128 : List AResV := [.cell 3 true 2]
def pr128_0_0 : PT (List RV) := pRs [pR true [rD (dI .i64), rD (dI .i64)]]
def ur128_0_0 {β : Type} (g : List RV -> β) : Int -> Int -> β := pr128_0_0.unc g
def E128_0g (a : Tf129_0) (b : Tf130_0) (c : Tf131_0) (d : Tf132_0) : EnvK := EnvK.of [⟨129, nt129, [⟨pa129_0, Fn129_0 a⟩]⟩, ⟨130, nt130, [⟨pa130_0, Fn130_0 b⟩]⟩, ⟨131, nt131, [⟨pa131_0, Fn131_0 c⟩]⟩, ⟨132, nt132, [⟨pa132_0, Fn132_0 d⟩]⟩] noSeq
def E128_0 : EnvK := E128_0g f129_0 f130_0 f131_0 f132_0
theorem eo128_0 : E128_0.Ok Pg := EnvK.of_ok noSeq_ok ⟨⟨io129_0, trivial⟩, ⟨io130_0, trivial⟩, ⟨io131_0, trivial⟩, ⟨io132_0, trivial⟩, trivial⟩
abbrev Tf128_0 : Type 1 := (α : Type) -> Int -> Int -> Int -> Int -> Int -> (Int -> Int -> Op α) -> Op α
def f128_0g (d : Tf129_0) (e : Tf130_0) (i : Tf131_0) (j : Tf132_0) (α : Type) (g h a b c : Int) (k1 : Int -> Int -> Op α) : Op α :=
 d α h a b c
 (fun l => e α h a b c
 (fun m => i α l m
 (fun o => d α g a b c
 (fun p => e α g a b c
 (fun q => j α p q
 (fun r => k1 o r))))))
def f128_0 (α : Type) (a b c d e : Int) (k1 : Int -> Int -> Op α) : Op α := f128_0g f129_0 f130_0 f131_0 f132_0 α a b c d e k1
def pa128_0 : PT (List DV) := pA [pV true [(dI .i64), (dI .i64)], pV false [(dP [(dI .i64), (dI .i64), (dI .i64)] 0)]]
def Fn128_0 (v : Tf128_0) (α : Type) (k : RT α) : I5 (Op α) := fun a b c d e => v α a b c d e (fun g h => ur128_0_0 k g h)
def cm128_0g : MCode := (.seq (.region r128_2 [] (tO [1, 2, 3])) (.seq (.region r128_4 [] (tO [1, 2, 3, 4])) (.seq (.region r128_6 [] (tO [2, 3, 4, 5])) (.seq (.region r128_8 [(3, 6), (3, 11), (7, 11), (8, 11), (3, 15), (7, 15), (8, 15), (12, 15)] (tO [3])) .ret))))
def cm128_0 : MCode := cm128_0g
theorem gm128_0 : cm128_0.Good Pg E128_0 sh128 := ⟨trivial, ⟨trivial, ⟨trivial, ⟨trivial, trivial⟩⟩⟩⟩
theorem fm128_0g (a : Tf129_0) (b : Tf130_0) (c : Tf131_0) (d : Tf132_0) (α : Type) (k : RT α) : Fn128_0 (f128_0g a b c d) α k = pa128_0.unc fun ds => fnM Pg (E128_0g a b c d) sh128 (cm128_0g ) rs128 k ds := by kernel_rfl
theorem fm128_0 : ∀ (α : Type) (k : RT α), Fn128_0 f128_0 α k = pa128_0.unc fun ds => fnM Pg E128_0 sh128 cm128_0 rs128 k ds := fm128_0g f129_0 f130_0 f131_0 f132_0
theorem is128 : FnIs Pg 128 nt128 tr128 tl128 cm128_0.erase rs128 := ⟨Tryz.f128, Tryz.func128, rfl, by kernel_rfl, by kernel_rfl, by kernel_rfl⟩
theorem io128_0 : InstOk Pg 128 nt128 ⟨pa128_0, Fn128_0 f128_0⟩ := inst_ok eo128_0 followsTry is128 ⟨⟨sh128, cm128_0, by kernel_rfl, gm128_0, fm128_0⟩⟩
abbrev nt218 : Nat := 88
def sh218 : SG := [(20, iS 6), (31, iT), (35, iT), (37, iT), (42, iT), (48, iT), (68, iT), (75, iT), (82, iS 2), (84, iS 2), (86, iS 2)]
def r218_2 : LA := [oO 4 (.box (.tmp 0)), oO 5 (.box (.tmp 1)), oO 8 (.alloc (zI 6)), mK 9 0]
def r218_4 : LA := [oO 10 (.alloc (zI 6))]
def r218_7 : LA := [mK 17 0]
def td218_9 : OT := (tO [2, 3, 4, 5, 8, 10, 17])
def r218_11 : LA := [bK 18 .lss 17 3]
def r218_17 : LA := [oM 19 17, oM 11 19]
def r218_19 : LA := [mK 12 0, mK 13 0]
def r218_22 : LA := [lA 20 6 5, oO 21 (.call 275 [.tmp 20]), mK 22 0]
def td218_24 : OT := (tO [2, 3, 4, 5, 8, 10, 11, 12, 13, 17, 21, 22])
def r218_26 : LA := [bK 23 .lss 22 3]
def r218_32 : LA := [oM 24 22, oO 25 (.index true 3 2 (.tmp 21) (.tmp 22)), oO 15 (.alloc [(cI 0), (cI 0)]), oM 14 24, sD 2 15 25]
def r218_34 : LA := [oM 26 11, oO 27 (.bin .mul 3 (kI 3) (.tmp 26)), oM 28 14, bT 29 .add 27 28, oO 30 (.iaddr 1 (some 9) (.tmp 4) (.tmp 29)), lD 31 30, oM 16 31]
def r218_37 : LA := [oM 32 16, bK 33 .lss 32 0]
def r218_39 : LA := [fA 34 1 15, lD 35 34, fA 36 0 15, lD 37 36, oO 38 (.build [(cI 0), (cI 0)] [(0, 1, (.tmp 35)), (1, 1, (.tmp 37))]), sD 2 15 38]
def r218_40 : LA := [oM 39 12, oM 40 16, fA 41 0 15, lD 42 41, bT 43 .mul 40 42, bT 44 .add 39 43, oM 45 13, oM 46 16, fA 47 1 15, lD 48 47, bT 49 .mul 46 48, bT 50 .add 45 49, oM 12 44, oM 13 50]
def r218_41 : LA := [bK 51 .add 22 1, oM 22 51]
def r218_43 : LA := [oM 52 11, oM 53 12, oM 54 2, bT 55 .mul 53 54, oM 56 3, oO 57 (.call 131 [(.tmp 55), (.tmp 56)]), oM 58 13, oM 59 2, bT 60 .mul 58 59, oM 61 3, oO 62 (.call 132 [(.tmp 60), (.tmp 61)]), oO 63 (.build [(cI 0), (cI 0)] [(0, 1, (.tmp 57)), (1, 1, (.tmp 62))]), oO 64 (.iaddr 2 (some 3) (.tmp 10) (.tmp 52)), sD 2 64 63]
def r218_45 : LA := [oM 65 11, oO 66 (.iaddr 2 (some 3) (.tmp 10) (.tmp 65)), fA 67 0 66, lD 68 67, oO 69 (.call 276 [(.tmp 68), (kI 10000000)]), oO 70 (.pure (oB (.unOp .not 4 (.tmp 69)) 4)), oM 71 70, oG 72 (.mv (.tmp 11)) 71 false, oG 73 (.iaddr 2 (some 3) (.tmp 10) (.tmp 72)) 71 false, oG 74 (.faddr 1 (.tmp 73)) 71 false, oG 75 (.load false 1 (.tmp 74)) 71 false, oG 76 (.call 276 [(.tmp 75), (kI 10000000)]) 71 false, oG 77 (.pure (oB (.unOp .not 4 (.tmp 76)) 4)) 71 false, oO 78 (.pick (.tmp 71) (.const (.bool true)) (.tmp 77))]
def r218_48 : LA := [oO 79 (.build (zI 6) []), sD 6 8 79, mK 9 8]
def r218_49 : LA := [bK 80 .add 17 1, oM 17 80]
def r218_51 : LA := [oO 81 (.iaddr 2 (some 3) (.tmp 10) (kI 0)), lA 82 2 81, oO 83 (.iaddr 2 (some 3) (.tmp 10) (kI 1)), lA 84 2 83, oO 85 (.iaddr 2 (some 3) (.tmp 10) (kI 2)), lA 86 2 85, oO 87 (.build (zI 6) [(0, 2, (.tmp 82)), (2, 2, (.tmp 84)), (4, 2, (.tmp 86))]), sD 6 8 87, mK 9 0]
def tr218 : TG := [tT 0 [2, 3, 4, 5, 8], tT 1 [2, 3, 4, 5, 8, 10], tT 2 [2, 3, 4, 5, 8, 10, 17], tT 3 [2, 3, 4, 5, 8, 10, 17, 18], tT 4 [2, 3, 4, 5, 8, 10, 11, 17], tT 5 [2, 3, 4, 5, 8, 10, 11, 12, 13, 17], tT 6 [2, 3, 4, 5, 8, 10, 11, 12, 13, 17, 21, 22], tT 7 [2, 3, 4, 5, 8, 10, 11, 12, 13, 17, 21, 22, 23], tT 8 [2, 3, 4, 5, 8, 10, 11, 12, 13, 14, 15, 17, 21, 22], tT 9 [2, 3, 4, 5, 8, 10, 11, 12, 13, 15, 16, 17, 21, 22], tT 10 [2, 3, 4, 5, 8, 10, 11, 12, 13, 15, 16, 17, 21, 22, 33], tT 11 [2, 3, 4, 5, 8, 10, 11, 12, 13, 15, 16, 17, 21, 22], tT 12 [2, 3, 4, 5, 8, 10, 11, 12, 13, 17, 21, 22], tT 13 [2, 3, 4, 5, 8, 10, 11, 12, 13, 17, 21, 22], tT 14 [2, 3, 4, 5, 8, 10, 11, 17], tT 15 [2, 3, 4, 5, 8, 10, 17, 78], tT 16 [8, 9], tT 17 [2, 3, 4, 5, 8, 10, 17], tT 18 [8, 9]]
def tl218 : TG := [tT 3 [2, 3, 4, 5, 8, 10, 17], tT 7 [2, 3, 4, 5, 8, 10, 11, 12, 13, 17, 21, 22]]
def rs218 : List AResV := [.cell 8 true 6, .tmp 9]
def p218_0_0 : PT St := pS [sI 2, sI 3, sP 4, sP 5, sP 8, sP 10, sl 11 (aV false [(cD (dIc .i64 0))]), sI 12, sI 13, sP 15, sI 16, sl 17 (aV false [(cD (dIc .i64 0))]), sl 21 (aV true (xs 6)), sl 22 (aV false [(cD (dIc .i64 0))])] [eBox 4 (xs 9), eBox 5 (xs 6), eBox 8 (xs 6), eBox 10 (xs 6), eBox 15 [xI, xI]]
def u218_0_0 {β : Type} (g : St -> β) : I40 β := p218_0_0.unc g
def p218_0_1 : PT St := pS [sI 2, sI 3, sP 4, sP 5, sP 8, sP 10, sl 11 (aV false [(cD (dIc .i64 0))]), sI 12, sI 13, sP 15, sI 16, sl 17 (aV false [(cD (dIc .i64 0))]), sl 21 (aV true (xs 6)), sl 22 (aV false [(cD (dIc .i64 0))]), sl 33 (aV false [(cD dB)])] [eBox 4 (xs 9), eBox 5 (xs 6), eBox 8 (xs 6), eBox 10 (xs 6), eBox 15 [xI, xI]]
def u218_0_1 {β : Type} (g : St -> β) : Int -> Int -> Int -> Int -> Int -> Int -> Int -> Int -> Int -> Int -> Int -> Bool -> I29 β := p218_0_1.unc g
def p218_0_2 : PT St := pS [sI 2, sI 3, sP 4, sP 5, sP 8, sP 10, sl 11 (aV false [(cD (dIc .i64 0))]), sI 12, sI 13, sl 17 (aV false [(cD (dIc .i64 0))]), sl 21 (aV true (xs 6)), sl 22 (aV false [(cD (dIc .i64 0))])] [eBox 4 (xs 9), eBox 5 (xs 6), eBox 8 (xs 6), eBox 10 (xs 6)]
def u218_0_2 {β : Type} (g : St -> β) : I37 β := p218_0_2.unc g
def p218_0_3 : PT St := pS [sI 2, sI 3, sP 4, sP 5, sP 8, sP 10, sl 11 (aV false [(cD (dIc .i64 0))]), sI 12, sI 13, sl 17 (aV false [(cD (dIc .i64 0))]), sl 21 (aV true (xs 6)), sl 22 (aV false [(cD (dIc .i64 1))])] [eBox 4 (xs 9), eBox 5 (xs 6), eBox 8 (xs 6), eBox 10 (xs 6)]
def u218_0_3 {β : Type} (g : St -> β) : I37 β := p218_0_3.unc g
def p218_0_4 : PT St := pS [sI 2, sI 3, sP 4, sP 5, sP 8, sP 10, sl 11 (aV false [(cD (dIc .i64 0))]), sI 12, sI 13, sP 15, sI 16, sl 17 (aV false [(cD (dIc .i64 0))]), sl 21 (aV true (xs 6)), sl 22 (aV false [(cD (dIc .i64 1))])] [eBox 4 (xs 9), eBox 5 (xs 6), eBox 8 (xs 6), eBox 10 (xs 6), eBox 15 [xI, xI]]
def u218_0_4 {β : Type} (g : St -> β) : I40 β := p218_0_4.unc g
def p218_0_5 : PT St := pS [sI 2, sI 3, sP 4, sP 5, sP 8, sP 10, sl 11 (aV false [(cD (dIc .i64 0))]), sI 12, sI 13, sP 15, sI 16, sl 17 (aV false [(cD (dIc .i64 0))]), sl 21 (aV true (xs 6)), sl 22 (aV false [(cD (dIc .i64 1))]), sl 33 (aV false [(cD dB)])] [eBox 4 (xs 9), eBox 5 (xs 6), eBox 8 (xs 6), eBox 10 (xs 6), eBox 15 [xI, xI]]
def u218_0_5 {β : Type} (g : St -> β) : Int -> Int -> Int -> Int -> Int -> Int -> Int -> Int -> Int -> Int -> Int -> Bool -> I29 β := p218_0_5.unc g
def p218_0_6 : PT St := pS [sI 2, sI 3, sP 4, sP 5, sP 8, sP 10, sl 11 (aV false [(cD (dIc .i64 0))]), sI 12, sI 13, sl 17 (aV false [(cD (dIc .i64 0))]), sl 21 (aV true (xs 6)), sl 22 (aV false [(cD (dIc .i64 2))])] [eBox 4 (xs 9), eBox 5 (xs 6), eBox 8 (xs 6), eBox 10 (xs 6)]
def u218_0_6 {β : Type} (g : St -> β) : I37 β := p218_0_6.unc g
def p218_0_7 : PT St := pS [sI 2, sI 3, sP 4, sP 5, sP 8, sP 10, sl 11 (aV false [(cD (dIc .i64 0))]), sI 12, sI 13, sP 15, sI 16, sl 17 (aV false [(cD (dIc .i64 0))]), sl 21 (aV true (xs 6)), sl 22 (aV false [(cD (dIc .i64 2))])] [eBox 4 (xs 9), eBox 5 (xs 6), eBox 8 (xs 6), eBox 10 (xs 6), eBox 15 [xI, xI]]
def u218_0_7 {β : Type} (g : St -> β) : I40 β := p218_0_7.unc g
def p218_0_8 : PT St := pS [sI 2, sI 3, sP 4, sP 5, sP 8, sP 10, sl 11 (aV false [(cD (dIc .i64 0))]), sI 12, sI 13, sP 15, sI 16, sl 17 (aV false [(cD (dIc .i64 0))]), sl 21 (aV true (xs 6)), sl 22 (aV false [(cD (dIc .i64 2))]), sl 33 (aV false [(cD dB)])] [eBox 4 (xs 9), eBox 5 (xs 6), eBox 8 (xs 6), eBox 10 (xs 6), eBox 15 [xI, xI]]
def u218_0_8 {β : Type} (g : St -> β) : Int -> Int -> Int -> Int -> Int -> Int -> Int -> Int -> Int -> Int -> Int -> Bool -> I29 β := p218_0_8.unc g
def p218_0_9 : PT St := pS [sI 2, sI 3, sP 4, sP 5, sP 8, sP 10, sl 11 (aV false [(cD (dIc .i64 0))]), sI 12, sI 13, sl 17 (aV false [(cD (dIc .i64 0))]), sl 21 (aV true (xs 6)), sl 22 (aV false [(cD (dIc .i64 3))])] [eBox 4 (xs 9), eBox 5 (xs 6), eBox 8 (xs 6), eBox 10 (xs 6)]
def u218_0_9 {β : Type} (g : St -> β) : I37 β := p218_0_9.unc g
def p218_0_10 : PT St := pS [sI 2, sI 3, sP 4, sP 5, sP 8, sP 10, sl 11 (aV false [(cD (dIc .i64 1))]), sI 12, sI 13, sP 15, sI 16, sl 17 (aV false [(cD (dIc .i64 1))]), sl 21 (aV true (xs 6)), sl 22 (aV false [(cD (dIc .i64 0))])] [eBox 4 (xs 9), eBox 5 (xs 6), eBox 8 (xs 6), eBox 10 (xs 6), eBox 15 [xI, xI]]
def u218_0_10 {β : Type} (g : St -> β) : I40 β := p218_0_10.unc g
def p218_0_11 : PT St := pS [sI 2, sI 3, sP 4, sP 5, sP 8, sP 10, sl 11 (aV false [(cD (dIc .i64 1))]), sI 12, sI 13, sP 15, sI 16, sl 17 (aV false [(cD (dIc .i64 1))]), sl 21 (aV true (xs 6)), sl 22 (aV false [(cD (dIc .i64 0))]), sl 33 (aV false [(cD dB)])] [eBox 4 (xs 9), eBox 5 (xs 6), eBox 8 (xs 6), eBox 10 (xs 6), eBox 15 [xI, xI]]
def u218_0_11 {β : Type} (g : St -> β) : Int -> Int -> Int -> Int -> Int -> Int -> Int -> Int -> Int -> Int -> Int -> Bool -> I29 β := p218_0_11.unc g
def p218_0_12 : PT St := pS [sI 2, sI 3, sP 4, sP 5, sP 8, sP 10, sl 11 (aV false [(cD (dIc .i64 1))]), sI 12, sI 13, sl 17 (aV false [(cD (dIc .i64 1))]), sl 21 (aV true (xs 6)), sl 22 (aV false [(cD (dIc .i64 0))])] [eBox 4 (xs 9), eBox 5 (xs 6), eBox 8 (xs 6), eBox 10 (xs 6)]
def u218_0_12 {β : Type} (g : St -> β) : I37 β := p218_0_12.unc g
def p218_0_13 : PT St := pS [sI 2, sI 3, sP 4, sP 5, sP 8, sP 10, sl 11 (aV false [(cD (dIc .i64 1))]), sI 12, sI 13, sl 17 (aV false [(cD (dIc .i64 1))]), sl 21 (aV true (xs 6)), sl 22 (aV false [(cD (dIc .i64 1))])] [eBox 4 (xs 9), eBox 5 (xs 6), eBox 8 (xs 6), eBox 10 (xs 6)]
def u218_0_13 {β : Type} (g : St -> β) : I37 β := p218_0_13.unc g
def p218_0_14 : PT St := pS [sI 2, sI 3, sP 4, sP 5, sP 8, sP 10, sl 11 (aV false [(cD (dIc .i64 1))]), sI 12, sI 13, sP 15, sI 16, sl 17 (aV false [(cD (dIc .i64 1))]), sl 21 (aV true (xs 6)), sl 22 (aV false [(cD (dIc .i64 1))])] [eBox 4 (xs 9), eBox 5 (xs 6), eBox 8 (xs 6), eBox 10 (xs 6), eBox 15 [xI, xI]]
def u218_0_14 {β : Type} (g : St -> β) : I40 β := p218_0_14.unc g
def p218_0_15 : PT St := pS [sI 2, sI 3, sP 4, sP 5, sP 8, sP 10, sl 11 (aV false [(cD (dIc .i64 1))]), sI 12, sI 13, sP 15, sI 16, sl 17 (aV false [(cD (dIc .i64 1))]), sl 21 (aV true (xs 6)), sl 22 (aV false [(cD (dIc .i64 1))]), sl 33 (aV false [(cD dB)])] [eBox 4 (xs 9), eBox 5 (xs 6), eBox 8 (xs 6), eBox 10 (xs 6), eBox 15 [xI, xI]]
def u218_0_15 {β : Type} (g : St -> β) : Int -> Int -> Int -> Int -> Int -> Int -> Int -> Int -> Int -> Int -> Int -> Bool -> I29 β := p218_0_15.unc g
def p218_0_16 : PT St := pS [sI 2, sI 3, sP 4, sP 5, sP 8, sP 10, sl 11 (aV false [(cD (dIc .i64 1))]), sI 12, sI 13, sl 17 (aV false [(cD (dIc .i64 1))]), sl 21 (aV true (xs 6)), sl 22 (aV false [(cD (dIc .i64 2))])] [eBox 4 (xs 9), eBox 5 (xs 6), eBox 8 (xs 6), eBox 10 (xs 6)]
def u218_0_16 {β : Type} (g : St -> β) : I37 β := p218_0_16.unc g
def p218_0_17 : PT St := pS [sI 2, sI 3, sP 4, sP 5, sP 8, sP 10, sl 11 (aV false [(cD (dIc .i64 1))]), sI 12, sI 13, sP 15, sI 16, sl 17 (aV false [(cD (dIc .i64 1))]), sl 21 (aV true (xs 6)), sl 22 (aV false [(cD (dIc .i64 2))])] [eBox 4 (xs 9), eBox 5 (xs 6), eBox 8 (xs 6), eBox 10 (xs 6), eBox 15 [xI, xI]]
def u218_0_17 {β : Type} (g : St -> β) : I40 β := p218_0_17.unc g
def p218_0_18 : PT St := pS [sI 2, sI 3, sP 4, sP 5, sP 8, sP 10, sl 11 (aV false [(cD (dIc .i64 1))]), sI 12, sI 13, sP 15, sI 16, sl 17 (aV false [(cD (dIc .i64 1))]), sl 21 (aV true (xs 6)), sl 22 (aV false [(cD (dIc .i64 2))]), sl 33 (aV false [(cD dB)])] [eBox 4 (xs 9), eBox 5 (xs 6), eBox 8 (xs 6), eBox 10 (xs 6), eBox 15 [xI, xI]]
def u218_0_18 {β : Type} (g : St -> β) : Int -> Int -> Int -> Int -> Int -> Int -> Int -> Int -> Int -> Int -> Int -> Bool -> I29 β := p218_0_18.unc g
def p218_0_19 : PT St := pS [sI 2, sI 3, sP 4, sP 5, sP 8, sP 10, sl 11 (aV false [(cD (dIc .i64 1))]), sI 12, sI 13, sl 17 (aV false [(cD (dIc .i64 1))]), sl 21 (aV true (xs 6)), sl 22 (aV false [(cD (dIc .i64 3))])] [eBox 4 (xs 9), eBox 5 (xs 6), eBox 8 (xs 6), eBox 10 (xs 6)]
def u218_0_19 {β : Type} (g : St -> β) : I37 β := p218_0_19.unc g
def p218_0_20 : PT St := pS [sI 2, sI 3, sP 4, sP 5, sP 8, sP 10, sl 11 (aV false [(cD (dIc .i64 2))]), sI 12, sI 13, sP 15, sI 16, sl 17 (aV false [(cD (dIc .i64 2))]), sl 21 (aV true (xs 6)), sl 22 (aV false [(cD (dIc .i64 0))])] [eBox 4 (xs 9), eBox 5 (xs 6), eBox 8 (xs 6), eBox 10 (xs 6), eBox 15 [xI, xI]]
def u218_0_20 {β : Type} (g : St -> β) : I40 β := p218_0_20.unc g
def p218_0_21 : PT St := pS [sI 2, sI 3, sP 4, sP 5, sP 8, sP 10, sl 11 (aV false [(cD (dIc .i64 2))]), sI 12, sI 13, sP 15, sI 16, sl 17 (aV false [(cD (dIc .i64 2))]), sl 21 (aV true (xs 6)), sl 22 (aV false [(cD (dIc .i64 0))]), sl 33 (aV false [(cD dB)])] [eBox 4 (xs 9), eBox 5 (xs 6), eBox 8 (xs 6), eBox 10 (xs 6), eBox 15 [xI, xI]]
def u218_0_21 {β : Type} (g : St -> β) : Int -> Int -> Int -> Int -> Int -> Int -> Int -> Int -> Int -> Int -> Int -> Bool -> I29 β := p218_0_21.unc g
def p218_0_22 : PT St := pS [sI 2, sI 3, sP 4, sP 5, sP 8, sP 10, sl 11 (aV false [(cD (dIc .i64 2))]), sI 12, sI 13, sl 17 (aV false [(cD (dIc .i64 2))]), sl 21 (aV true (xs 6)), sl 22 (aV false [(cD (dIc .i64 0))])] [eBox 4 (xs 9), eBox 5 (xs 6), eBox 8 (xs 6), eBox 10 (xs 6)]
def u218_0_22 {β : Type} (g : St -> β) : I37 β := p218_0_22.unc g
def p218_0_23 : PT St := pS [sI 2, sI 3, sP 4, sP 5, sP 8, sP 10, sl 11 (aV false [(cD (dIc .i64 2))]), sI 12, sI 13, sl 17 (aV false [(cD (dIc .i64 2))]), sl 21 (aV true (xs 6)), sl 22 (aV false [(cD (dIc .i64 1))])] [eBox 4 (xs 9), eBox 5 (xs 6), eBox 8 (xs 6), eBox 10 (xs 6)]
def u218_0_23 {β : Type} (g : St -> β) : I37 β := p218_0_23.unc g
def p218_0_24 : PT St := pS [sI 2, sI 3, sP 4, sP 5, sP 8, sP 10, sl 11 (aV false [(cD (dIc .i64 2))]), sI 12, sI 13, sP 15, sI 16, sl 17 (aV false [(cD (dIc .i64 2))]), sl 21 (aV true (xs 6)), sl 22 (aV false [(cD (dIc .i64 1))])] [eBox 4 (xs 9), eBox 5 (xs 6), eBox 8 (xs 6), eBox 10 (xs 6), eBox 15 [xI, xI]]
def u218_0_24 {β : Type} (g : St -> β) : I40 β := p218_0_24.unc g
def p218_0_25 : PT St := pS [sI 2, sI 3, sP 4, sP 5, sP 8, sP 10, sl 11 (aV false [(cD (dIc .i64 2))]), sI 12, sI 13, sP 15, sI 16, sl 17 (aV false [(cD (dIc .i64 2))]), sl 21 (aV true (xs 6)), sl 22 (aV false [(cD (dIc .i64 1))]), sl 33 (aV false [(cD dB)])] [eBox 4 (xs 9), eBox 5 (xs 6), eBox 8 (xs 6), eBox 10 (xs 6), eBox 15 [xI, xI]]
def u218_0_25 {β : Type} (g : St -> β) : Int -> Int -> Int -> Int -> Int -> Int -> Int -> Int -> Int -> Int -> Int -> Bool -> I29 β := p218_0_25.unc g
def p218_0_26 : PT St := pS [sI 2, sI 3, sP 4, sP 5, sP 8, sP 10, sl 11 (aV false [(cD (dIc .i64 2))]), sI 12, sI 13, sl 17 (aV false [(cD (dIc .i64 2))]), sl 21 (aV true (xs 6)), sl 22 (aV false [(cD (dIc .i64 2))])] [eBox 4 (xs 9), eBox 5 (xs 6), eBox 8 (xs 6), eBox 10 (xs 6)]
def u218_0_26 {β : Type} (g : St -> β) : I37 β := p218_0_26.unc g
def p218_0_27 : PT St := pS [sI 2, sI 3, sP 4, sP 5, sP 8, sP 10, sl 11 (aV false [(cD (dIc .i64 2))]), sI 12, sI 13, sP 15, sI 16, sl 17 (aV false [(cD (dIc .i64 2))]), sl 21 (aV true (xs 6)), sl 22 (aV false [(cD (dIc .i64 2))])] [eBox 4 (xs 9), eBox 5 (xs 6), eBox 8 (xs 6), eBox 10 (xs 6), eBox 15 [xI, xI]]
def u218_0_27 {β : Type} (g : St -> β) : I40 β := p218_0_27.unc g
def p218_0_28 : PT St := pS [sI 2, sI 3, sP 4, sP 5, sP 8, sP 10, sl 11 (aV false [(cD (dIc .i64 2))]), sI 12, sI 13, sP 15, sI 16, sl 17 (aV false [(cD (dIc .i64 2))]), sl 21 (aV true (xs 6)), sl 22 (aV false [(cD (dIc .i64 2))]), sl 33 (aV false [(cD dB)])] [eBox 4 (xs 9), eBox 5 (xs 6), eBox 8 (xs 6), eBox 10 (xs 6), eBox 15 [xI, xI]]
def u218_0_28 {β : Type} (g : St -> β) : Int -> Int -> Int -> Int -> Int -> Int -> Int -> Int -> Int -> Int -> Int -> Bool -> I29 β := p218_0_28.unc g
def p218_0_29 : PT St := pS [sI 2, sI 3, sP 4, sP 5, sP 8, sP 10, sl 11 (aV false [(cD (dIc .i64 2))]), sI 12, sI 13, sl 17 (aV false [(cD (dIc .i64 2))]), sl 21 (aV true (xs 6)), sl 22 (aV false [(cD (dIc .i64 3))])] [eBox 4 (xs 9), eBox 5 (xs 6), eBox 8 (xs 6), eBox 10 (xs 6)]
def u218_0_29 {β : Type} (g : St -> β) : I37 β := p218_0_29.unc g
def pr218_0_0 : PT (List RV) := pRs [pR true [rD (dI .i64), rD (dI .i64), rD (dI .i64), rD (dI .i64), rD (dI .i64), rD (dI .i64)], wI]
def ur218_0_0 {β : Type} (g : List RV -> β) : I7 β := pr218_0_0.unc g
def E218_0g (a : Tf275_0) (b : Tf131_0) (c : Tf132_0) (d : Tf276_0) : EnvK := EnvK.of [⟨275, nt275, [⟨pa275_0, Fn275_0 a⟩]⟩, ⟨131, nt131, [⟨pa131_0, Fn131_0 b⟩]⟩, ⟨132, nt132, [⟨pa132_0, Fn132_0 c⟩]⟩, ⟨276, nt276, [⟨pa276_0, Fn276_0 d⟩]⟩] noSeq
def E218_0 : EnvK := E218_0g f275_0 f131_0 f132_0 f276_0
theorem eo218_0 : E218_0.Ok Pg := EnvK.of_ok noSeq_ok ⟨⟨io275_0, trivial⟩, ⟨io131_0, trivial⟩, ⟨io132_0, trivial⟩, ⟨io276_0, trivial⟩, trivial⟩
def c218_0_35g : MCode := (.seq (.region r218_37 [] (tO [2, 3, 4, 5, 8, 10, 11, 12, 13, 15, 16, 17, 21, 22, 33])) (.cond (.tmp 33) (.region r218_39 [] (tO [2, 3, 4, 5, 8, 10, 11, 12, 13, 15, 16, 17, 21, 22])) .skip))
def c218_0_35 : MCode := c218_0_35g
theorem g218_0_35 : c218_0_35.Good Pg E218_0 sh218 := ⟨trivial, ⟨trivial, trivial⟩⟩
abbrev TJ218_0_0 : Type 1 := (α : Type) -> Int -> (Op α) -> (Bool -> Op α) -> Op α
def J218_0_0g (α : Type) (a : Int) (k1 : Op α) (k2 : Bool -> Op α) : Op α :=
 cK (decide (a < 0))
 (k1)
 (k2 (decide (a < 0)))
def J218_0_0 (α : Type) (a : Int) (k1 : Op α) (k2 : Bool -> Op α) : Op α := J218_0_0g α a k1 k2
def F218_0_0 (v : TJ218_0_0) (α : Type) (K : KT α) : I40 (Op α) := fun b c d e a g h i j l m o p q r s t w z A B C D F G H I J L M N O P Q R T U V W X => v α a (u218_0_0 (K .normal) b c d e a g h i j l m o p q r s t w z A B C D F G H I J L M N O P Q R T U V X W) (fun Y => u218_0_1 (K .normal) b c d e a g h i j l m Y o p q r s t w z A B C D F G H I J L M N O P Q R T U V W X)
theorem m218_0_0g (a : Tf275_0) (b : Tf131_0) (c : Tf132_0) (d : Tf276_0) (α : Type) (K : KT α) : F218_0_0 (J218_0_0g ) α K = p218_0_0.unc fun σ => runM Pg (E218_0g a b c d) sh218 (c218_0_35g ) K σ := by kernel_rfl
theorem m218_0_0 : ∀ (α : Type) (K : KT α), F218_0_0 J218_0_0 α K = p218_0_0.unc fun σ => runM Pg E218_0 sh218 c218_0_35 K σ := m218_0_0g f275_0 f131_0 f132_0 f276_0
abbrev TJ218_0_2 : Type 1 := (α : Type) -> Int -> (Op α) -> (Bool -> Op α) -> Op α
def J218_0_2g (α : Type) (a : Int) (k1 : Op α) (k2 : Bool -> Op α) : Op α :=
 cK (decide (a < 0))
 (k1)
 (k2 (decide (a < 0)))
def J218_0_2 (α : Type) (a : Int) (k1 : Op α) (k2 : Bool -> Op α) : Op α := J218_0_2g α a k1 k2
def F218_0_2 (v : TJ218_0_2) (α : Type) (K : KT α) : I40 (Op α) := fun b c d e a g h i j l m o p q r s t w z A B C D F G H I J L M N O P Q R T U V W X => v α a (u218_0_4 (K .normal) b c d e a g h i j l m o p q r s t w z A B C D F G H I J L M N O P Q R T U V X W) (fun Y => u218_0_5 (K .normal) b c d e a g h i j l m Y o p q r s t w z A B C D F G H I J L M N O P Q R T U V W X)
theorem m218_0_2g (a : Tf275_0) (b : Tf131_0) (c : Tf132_0) (d : Tf276_0) (α : Type) (K : KT α) : F218_0_2 (J218_0_2g ) α K = p218_0_4.unc fun σ => runM Pg (E218_0g a b c d) sh218 (c218_0_35g ) K σ := by kernel_rfl
theorem m218_0_2 : ∀ (α : Type) (K : KT α), F218_0_2 J218_0_2 α K = p218_0_4.unc fun σ => runM Pg E218_0 sh218 c218_0_35 K σ := m218_0_2g f275_0 f131_0 f132_0 f276_0
abbrev TJ218_0_4 : Type 1 := (α : Type) -> Int -> (Op α) -> (Bool -> Op α) -> Op α
def J218_0_4g (α : Type) (a : Int) (k1 : Op α) (k2 : Bool -> Op α) : Op α :=
 cK (decide (a < 0))
 (k1)
 (k2 (decide (a < 0)))
def J218_0_4 (α : Type) (a : Int) (k1 : Op α) (k2 : Bool -> Op α) : Op α := J218_0_4g α a k1 k2
def F218_0_4 (v : TJ218_0_4) (α : Type) (K : KT α) : I40 (Op α) := fun b c d e a g h i j l m o p q r s t w z A B C D F G H I J L M N O P Q R T U V W X => v α a (u218_0_7 (K .normal) b c d e a g h i j l m o p q r s t w z A B C D F G H I J L M N O P Q R T U V X W) (fun Y => u218_0_8 (K .normal) b c d e a g h i j l m Y o p q r s t w z A B C D F G H I J L M N O P Q R T U V W X)
theorem m218_0_4g (a : Tf275_0) (b : Tf131_0) (c : Tf132_0) (d : Tf276_0) (α : Type) (K : KT α) : F218_0_4 (J218_0_4g ) α K = p218_0_7.unc fun σ => runM Pg (E218_0g a b c d) sh218 (c218_0_35g ) K σ := by kernel_rfl
theorem m218_0_4 : ∀ (α : Type) (K : KT α), F218_0_4 J218_0_4 α K = p218_0_7.unc fun σ => runM Pg E218_0 sh218 c218_0_35 K σ := m218_0_4g f275_0 f131_0 f132_0 f276_0
abbrev TJ218_0_6 : Type 1 := (α : Type) -> Int -> (Op α) -> (Bool -> Op α) -> Op α
def J218_0_6g (α : Type) (a : Int) (k1 : Op α) (k2 : Bool -> Op α) : Op α :=
 cK (decide (a < 0))
 (k1)
 (k2 (decide (a < 0)))
def J218_0_6 (α : Type) (a : Int) (k1 : Op α) (k2 : Bool -> Op α) : Op α := J218_0_6g α a k1 k2
def F218_0_6 (v : TJ218_0_6) (α : Type) (K : KT α) : I40 (Op α) := fun b c d e a g h i j l m o p q r s t w z A B C D F G H I J L M N O P Q R T U V W X => v α a (u218_0_10 (K .normal) b c d e a g h i j l m o p q r s t w z A B C D F G H I J L M N O P Q R T U V X W) (fun Y => u218_0_11 (K .normal) b c d e a g h i j l m Y o p q r s t w z A B C D F G H I J L M N O P Q R T U V W X)
theorem m218_0_6g (a : Tf275_0) (b : Tf131_0) (c : Tf132_0) (d : Tf276_0) (α : Type) (K : KT α) : F218_0_6 (J218_0_6g ) α K = p218_0_10.unc fun σ => runM Pg (E218_0g a b c d) sh218 (c218_0_35g ) K σ := by kernel_rfl
theorem m218_0_6 : ∀ (α : Type) (K : KT α), F218_0_6 J218_0_6 α K = p218_0_10.unc fun σ => runM Pg E218_0 sh218 c218_0_35 K σ := m218_0_6g f275_0 f131_0 f132_0 f276_0
abbrev TJ218_0_8 : Type 1 := (α : Type) -> Int -> (Op α) -> (Bool -> Op α) -> Op α
def J218_0_8g (α : Type) (a : Int) (k1 : Op α) (k2 : Bool -> Op α) : Op α :=
 cK (decide (a < 0))
 (k1)
 (k2 (decide (a < 0)))
def J218_0_8 (α : Type) (a : Int) (k1 : Op α) (k2 : Bool -> Op α) : Op α := J218_0_8g α a k1 k2
def F218_0_8 (v : TJ218_0_8) (α : Type) (K : KT α) : I40 (Op α) := fun b c d e a g h i j l m o p q r s t w z A B C D F G H I J L M N O P Q R T U V W X => v α a (u218_0_14 (K .normal) b c d e a g h i j l m o p q r s t w z A B C D F G H I J L M N O P Q R T U V X W) (fun Y => u218_0_15 (K .normal) b c d e a g h i j l m Y o p q r s t w z A B C D F G H I J L M N O P Q R T U V W X)
theorem m218_0_8g (a : Tf275_0) (b : Tf131_0) (c : Tf132_0) (d : Tf276_0) (α : Type) (K : KT α) : F218_0_8 (J218_0_8g ) α K = p218_0_14.unc fun σ => runM Pg (E218_0g a b c d) sh218 (c218_0_35g ) K σ := by kernel_rfl
theorem m218_0_8 : ∀ (α : Type) (K : KT α), F218_0_8 J218_0_8 α K = p218_0_14.unc fun σ => runM Pg E218_0 sh218 c218_0_35 K σ := m218_0_8g f275_0 f131_0 f132_0 f276_0
abbrev TJ218_0_10 : Type 1 := (α : Type) -> Int -> (Op α) -> (Bool -> Op α) -> Op α
def J218_0_10g (α : Type) (a : Int) (k1 : Op α) (k2 : Bool -> Op α) : Op α :=
 cK (decide (a < 0))
 (k1)
 (k2 (decide (a < 0)))
def J218_0_10 (α : Type) (a : Int) (k1 : Op α) (k2 : Bool -> Op α) : Op α := J218_0_10g α a k1 k2
def F218_0_10 (v : TJ218_0_10) (α : Type) (K : KT α) : I40 (Op α) := fun b c d e a g h i j l m o p q r s t w z A B C D F G H I J L M N O P Q R T U V W X => v α a (u218_0_17 (K .normal) b c d e a g h i j l m o p q r s t w z A B C D F G H I J L M N O P Q R T U V X W) (fun Y => u218_0_18 (K .normal) b c d e a g h i j l m Y o p q r s t w z A B C D F G H I J L M N O P Q R T U V W X)
theorem m218_0_10g (a : Tf275_0) (b : Tf131_0) (c : Tf132_0) (d : Tf276_0) (α : Type) (K : KT α) : F218_0_10 (J218_0_10g ) α K = p218_0_17.unc fun σ => runM Pg (E218_0g a b c d) sh218 (c218_0_35g ) K σ := by kernel_rfl
theorem m218_0_10 : ∀ (α : Type) (K : KT α), F218_0_10 J218_0_10 α K = p218_0_17.unc fun σ => runM Pg E218_0 sh218 c218_0_35 K σ := m218_0_10g f275_0 f131_0 f132_0 f276_0
abbrev TJ218_0_12 : Type 1 := (α : Type) -> Int -> (Op α) -> (Bool -> Op α) -> Op α
def J218_0_12g (α : Type) (a : Int) (k1 : Op α) (k2 : Bool -> Op α) : Op α :=
 cK (decide (a < 0))
 (k1)
 (k2 (decide (a < 0)))
def J218_0_12 (α : Type) (a : Int) (k1 : Op α) (k2 : Bool -> Op α) : Op α := J218_0_12g α a k1 k2
def F218_0_12 (v : TJ218_0_12) (α : Type) (K : KT α) : I40 (Op α) := fun b c d e a g h i j l m o p q r s t w z A B C D F G H I J L M N O P Q R T U V W X => v α a (u218_0_20 (K .normal) b c d e a g h i j l m o p q r s t w z A B C D F G H I J L M N O P Q R T U V X W) (fun Y => u218_0_21 (K .normal) b c d e a g h i j l m Y o p q r s t w z A B C D F G H I J L M N O P Q R T U V W X)
theorem m218_0_12g (a : Tf275_0) (b : Tf131_0) (c : Tf132_0) (d : Tf276_0) (α : Type) (K : KT α) : F218_0_12 (J218_0_12g ) α K = p218_0_20.unc fun σ => runM Pg (E218_0g a b c d) sh218 (c218_0_35g ) K σ := by kernel_rfl
theorem m218_0_12 : ∀ (α : Type) (K : KT α), F218_0_12 J218_0_12 α K = p218_0_20.unc fun σ => runM Pg E218_0 sh218 c218_0_35 K σ := m218_0_12g f275_0 f131_0 f132_0 f276_0
abbrev TJ218_0_14 : Type 1 := (α : Type) -> Int -> (Op α) -> (Bool -> Op α) -> Op α
def J218_0_14g (α : Type) (a : Int) (k1 : Op α) (k2 : Bool -> Op α) : Op α :=
 cK (decide (a < 0))
 (k1)
 (k2 (decide (a < 0)))
def J218_0_14 (α : Type) (a : Int) (k1 : Op α) (k2 : Bool -> Op α) : Op α := J218_0_14g α a k1 k2
def F218_0_14 (v : TJ218_0_14) (α : Type) (K : KT α) : I40 (Op α) := fun b c d e a g h i j l m o p q r s t w z A B C D F G H I J L M N O P Q R T U V W X => v α a (u218_0_24 (K .normal) b c d e a g h i j l m o p q r s t w z A B C D F G H I J L M N O P Q R T U V X W) (fun Y => u218_0_25 (K .normal) b c d e a g h i j l m Y o p q r s t w z A B C D F G H I J L M N O P Q R T U V W X)
theorem m218_0_14g (a : Tf275_0) (b : Tf131_0) (c : Tf132_0) (d : Tf276_0) (α : Type) (K : KT α) : F218_0_14 (J218_0_14g ) α K = p218_0_24.unc fun σ => runM Pg (E218_0g a b c d) sh218 (c218_0_35g ) K σ := by kernel_rfl
theorem m218_0_14 : ∀ (α : Type) (K : KT α), F218_0_14 J218_0_14 α K = p218_0_24.unc fun σ => runM Pg E218_0 sh218 c218_0_35 K σ := m218_0_14g f275_0 f131_0 f132_0 f276_0
abbrev TJ218_0_16 : Type 1 := (α : Type) -> Int -> (Op α) -> (Bool -> Op α) -> Op α
def J218_0_16g (α : Type) (a : Int) (k1 : Op α) (k2 : Bool -> Op α) : Op α :=
 cK (decide (a < 0))
 (k1)
 (k2 (decide (a < 0)))
def J218_0_16 (α : Type) (a : Int) (k1 : Op α) (k2 : Bool -> Op α) : Op α := J218_0_16g α a k1 k2
def F218_0_16 (v : TJ218_0_16) (α : Type) (K : KT α) : I40 (Op α) := fun b c d e a g h i j l m o p q r s t w z A B C D F G H I J L M N O P Q R T U V W X => v α a (u218_0_27 (K .normal) b c d e a g h i j l m o p q r s t w z A B C D F G H I J L M N O P Q R T U V X W) (fun Y => u218_0_28 (K .normal) b c d e a g h i j l m Y o p q r s t w z A B C D F G H I J L M N O P Q R T U V W X)
theorem m218_0_16g (a : Tf275_0) (b : Tf131_0) (c : Tf132_0) (d : Tf276_0) (α : Type) (K : KT α) : F218_0_16 (J218_0_16g ) α K = p218_0_27.unc fun σ => runM Pg (E218_0g a b c d) sh218 (c218_0_35g ) K σ := by kernel_rfl
theorem m218_0_16 : ∀ (α : Type) (K : KT α), F218_0_16 J218_0_16 α K = p218_0_27.unc fun σ => runM Pg E218_0 sh218 c218_0_35 K σ := m218_0_16g f275_0 f131_0 f132_0 f276_0
def c218_0_24g (a : TJ218_0_0) (b : TJ218_0_2) (c : TJ218_0_4) (d : TJ218_0_6) (e : TJ218_0_8) (g : TJ218_0_10) (h : TJ218_0_12) (i : TJ218_0_14) (j : TJ218_0_16) : MCode := (.seq (.region r218_26 [] (tO [2, 3, 4, 5, 8, 10, 11, 12, 13, 17, 21, 22, 23])) (.seq (.cond (.tmp 23) .skip (.exit 2)) (.seq (.block 3 (.seq (.region r218_32 [] (tO [2, 3, 4, 5, 8, 10, 11, 12, 13, 14, 15, 17, 21, 22])) (.seq (.region r218_34 [] (tO [2, 3, 4, 5, 8, 10, 11, 12, 13, 15, 16, 17, 21, 22])) (.seq (.mark [⟨p218_0_0, F218_0_0 a⟩, ⟨p218_0_4, F218_0_2 b⟩, ⟨p218_0_7, F218_0_4 c⟩, ⟨p218_0_10, F218_0_6 d⟩, ⟨p218_0_14, F218_0_8 e⟩, ⟨p218_0_17, F218_0_10 g⟩, ⟨p218_0_20, F218_0_12 h⟩, ⟨p218_0_24, F218_0_14 i⟩, ⟨p218_0_27, F218_0_16 j⟩] c218_0_35) (.region r218_40 [] (tO [2, 3, 4, 5, 8, 10, 11, 12, 13, 17, 21, 22])))))) (.region r218_41 [] (tO [2, 3, 4, 5, 8, 10, 11, 12, 13, 17, 21, 22])))))
def c218_0_24 : MCode := c218_0_24g J218_0_0 J218_0_2 J218_0_4 J218_0_6 J218_0_8 J218_0_10 J218_0_12 J218_0_14 J218_0_16
theorem g218_0_24 : c218_0_24.Good Pg E218_0 sh218 := ⟨trivial, ⟨⟨trivial, trivial⟩, ⟨⟨trivial, ⟨trivial, ⟨⟨g218_0_35, m218_0_0, m218_0_2, m218_0_4, m218_0_6, m218_0_8, m218_0_10, m218_0_12, m218_0_14, m218_0_16, trivial⟩, trivial⟩⟩⟩, trivial⟩⟩⟩
abbrev TJ218_0_1 : Type 1 := (α : Type) -> Int -> Int -> Int -> Int -> Int -> (Int -> Int -> Op α) -> Op α
def J218_0_1g (g : TJ218_0_0) (α : Type) (b c d e a : Int) (k1 : Int -> Int -> Op α) : Op α :=
 g α a
 (k1 (w64 (b + (w64 (a * e)))) (w64 (c + (w64 (a * d)))))
 (fun h => k1 (w64 (b + (w64 (a * d)))) (w64 (c + (w64 (a * e)))))
def J218_0_1 (α : Type) (a b c d e : Int) (k1 : Int -> Int -> Op α) : Op α := J218_0_1g J218_0_0 α a b c d e k1
def F218_0_1 (v : TJ218_0_1) (α : Type) (K : KT α) : I37 (Op α) := fun d e g h a b i j l m c o p q r s t w z A B C D F G H I J L M N O P Q R T U => v α g h a b c (fun V W => u218_0_3 (K .normal) d e V W a b i j l m c o p q r s t w z A B C D F G H I J L M N O P Q R T U)
theorem m218_0_1g (b : Tf275_0) (c : Tf131_0) (d : Tf132_0) (e : Tf276_0) (a : TJ218_0_0) (g : TJ218_0_2) (h : TJ218_0_4) (i : TJ218_0_6) (j : TJ218_0_8) (l : TJ218_0_10) (m : TJ218_0_12) (o : TJ218_0_14) (p : TJ218_0_16) (α : Type) (K : KT α) : F218_0_1 (J218_0_1g a) α K = p218_0_2.unc fun σ => runM Pg (E218_0g b c d e) sh218 (c218_0_24g a g h i j l m o p) K σ := by kernel_rfl
theorem m218_0_1 : ∀ (α : Type) (K : KT α), F218_0_1 J218_0_1 α K = p218_0_2.unc fun σ => runM Pg E218_0 sh218 c218_0_24 K σ := m218_0_1g f275_0 f131_0 f132_0 f276_0 J218_0_0 J218_0_2 J218_0_4 J218_0_6 J218_0_8 J218_0_10 J218_0_12 J218_0_14 J218_0_16
abbrev TJ218_0_3 : Type 1 := (α : Type) -> Int -> Int -> Int -> Int -> Int -> (Int -> Int -> Op α) -> Op α
def J218_0_3g (g : TJ218_0_2) (α : Type) (b c d e a : Int) (k1 : Int -> Int -> Op α) : Op α :=
 g α a
 (k1 (w64 (b + (w64 (a * e)))) (w64 (c + (w64 (a * d)))))
 (fun h => k1 (w64 (b + (w64 (a * d)))) (w64 (c + (w64 (a * e)))))
def J218_0_3 (α : Type) (a b c d e : Int) (k1 : Int -> Int -> Op α) : Op α := J218_0_3g J218_0_2 α a b c d e k1
def F218_0_3 (v : TJ218_0_3) (α : Type) (K : KT α) : I37 (Op α) := fun d e g h i j a b l m o c p q r s t w z A B C D F G H I J L M N O P Q R T U => v α g h a b c (fun V W => u218_0_6 (K .normal) d e V W i j a b l m o c p q r s t w z A B C D F G H I J L M N O P Q R T U)
theorem m218_0_3g (b : Tf275_0) (c : Tf131_0) (d : Tf132_0) (e : Tf276_0) (g : TJ218_0_0) (a : TJ218_0_2) (h : TJ218_0_4) (i : TJ218_0_6) (j : TJ218_0_8) (l : TJ218_0_10) (m : TJ218_0_12) (o : TJ218_0_14) (p : TJ218_0_16) (α : Type) (K : KT α) : F218_0_3 (J218_0_3g a) α K = p218_0_3.unc fun σ => runM Pg (E218_0g b c d e) sh218 (c218_0_24g g a h i j l m o p) K σ := by kernel_rfl
theorem m218_0_3 : ∀ (α : Type) (K : KT α), F218_0_3 J218_0_3 α K = p218_0_3.unc fun σ => runM Pg E218_0 sh218 c218_0_24 K σ := m218_0_3g f275_0 f131_0 f132_0 f276_0 J218_0_0 J218_0_2 J218_0_4 J218_0_6 J218_0_8 J218_0_10 J218_0_12 J218_0_14 J218_0_16
abbrev TJ218_0_5 : Type 1 := (α : Type) -> Int -> Int -> Int -> Int -> Int -> (Int -> Int -> Op α) -> Op α
def J218_0_5g (g : TJ218_0_4) (α : Type) (b c d e a : Int) (k1 : Int -> Int -> Op α) : Op α :=
 g α a
 (k1 (w64 (b + (w64 (a * e)))) (w64 (c + (w64 (a * d)))))
 (fun h => k1 (w64 (b + (w64 (a * d)))) (w64 (c + (w64 (a * e)))))
def J218_0_5 (α : Type) (a b c d e : Int) (k1 : Int -> Int -> Op α) : Op α := J218_0_5g J218_0_4 α a b c d e k1
def F218_0_5 (v : TJ218_0_5) (α : Type) (K : KT α) : I37 (Op α) := fun d e g h i j l m a b o p c q r s t w z A B C D F G H I J L M N O P Q R T U => v α g h a b c (fun V W => u218_0_9 (K .normal) d e V W i j l m a b o p c q r s t w z A B C D F G H I J L M N O P Q R T U)
theorem m218_0_5g (b : Tf275_0) (c : Tf131_0) (d : Tf132_0) (e : Tf276_0) (g : TJ218_0_0) (h : TJ218_0_2) (a : TJ218_0_4) (i : TJ218_0_6) (j : TJ218_0_8) (l : TJ218_0_10) (m : TJ218_0_12) (o : TJ218_0_14) (p : TJ218_0_16) (α : Type) (K : KT α) : F218_0_5 (J218_0_5g a) α K = p218_0_6.unc fun σ => runM Pg (E218_0g b c d e) sh218 (c218_0_24g g h a i j l m o p) K σ := by kernel_rfl
theorem m218_0_5 : ∀ (α : Type) (K : KT α), F218_0_5 J218_0_5 α K = p218_0_6.unc fun σ => runM Pg E218_0 sh218 c218_0_24 K σ := m218_0_5g f275_0 f131_0 f132_0 f276_0 J218_0_0 J218_0_2 J218_0_4 J218_0_6 J218_0_8 J218_0_10 J218_0_12 J218_0_14 J218_0_16
abbrev TJ218_0_7 : Type 1 := (α : Type) -> Int -> Int -> Int -> Int -> Int -> (Int -> Int -> Op α) -> Op α
def J218_0_7g (g : TJ218_0_6) (α : Type) (b c d e a : Int) (k1 : Int -> Int -> Op α) : Op α :=
 g α a
 (k1 (w64 (b + (w64 (a * e)))) (w64 (c + (w64 (a * d)))))
 (fun h => k1 (w64 (b + (w64 (a * d)))) (w64 (c + (w64 (a * e)))))
def J218_0_7 (α : Type) (a b c d e : Int) (k1 : Int -> Int -> Op α) : Op α := J218_0_7g J218_0_6 α a b c d e k1
def F218_0_7 (v : TJ218_0_7) (α : Type) (K : KT α) : I37 (Op α) := fun d e g h a b i j l m o p q c r s t w z A B C D F G H I J L M N O P Q R T U => v α g h a b c (fun V W => u218_0_13 (K .normal) d e V W a b i j l m o p q c r s t w z A B C D F G H I J L M N O P Q R T U)
theorem m218_0_7g (b : Tf275_0) (c : Tf131_0) (d : Tf132_0) (e : Tf276_0) (g : TJ218_0_0) (h : TJ218_0_2) (i : TJ218_0_4) (a : TJ218_0_6) (j : TJ218_0_8) (l : TJ218_0_10) (m : TJ218_0_12) (o : TJ218_0_14) (p : TJ218_0_16) (α : Type) (K : KT α) : F218_0_7 (J218_0_7g a) α K = p218_0_12.unc fun σ => runM Pg (E218_0g b c d e) sh218 (c218_0_24g g h i a j l m o p) K σ := by kernel_rfl
theorem m218_0_7 : ∀ (α : Type) (K : KT α), F218_0_7 J218_0_7 α K = p218_0_12.unc fun σ => runM Pg E218_0 sh218 c218_0_24 K σ := m218_0_7g f275_0 f131_0 f132_0 f276_0 J218_0_0 J218_0_2 J218_0_4 J218_0_6 J218_0_8 J218_0_10 J218_0_12 J218_0_14 J218_0_16
abbrev TJ218_0_9 : Type 1 := (α : Type) -> Int -> Int -> Int -> Int -> Int -> (Int -> Int -> Op α) -> Op α
def J218_0_9g (g : TJ218_0_8) (α : Type) (b c d e a : Int) (k1 : Int -> Int -> Op α) : Op α :=
 g α a
 (k1 (w64 (b + (w64 (a * e)))) (w64 (c + (w64 (a * d)))))
 (fun h => k1 (w64 (b + (w64 (a * d)))) (w64 (c + (w64 (a * e)))))
def J218_0_9 (α : Type) (a b c d e : Int) (k1 : Int -> Int -> Op α) : Op α := J218_0_9g J218_0_8 α a b c d e k1
def F218_0_9 (v : TJ218_0_9) (α : Type) (K : KT α) : I37 (Op α) := fun d e g h i j a b l m o p q r c s t w z A B C D F G H I J L M N O P Q R T U => v α g h a b c (fun V W => u218_0_16 (K .normal) d e V W i j a b l m o p q r c s t w z A B C D F G H I J L M N O P Q R T U)
theorem m218_0_9g (b : Tf275_0) (c : Tf131_0) (d : Tf132_0) (e : Tf276_0) (g : TJ218_0_0) (h : TJ218_0_2) (i : TJ218_0_4) (j : TJ218_0_6) (a : TJ218_0_8) (l : TJ218_0_10) (m : TJ218_0_12) (o : TJ218_0_14) (p : TJ218_0_16) (α : Type) (K : KT α) : F218_0_9 (J218_0_9g a) α K = p218_0_13.unc fun σ => runM Pg (E218_0g b c d e) sh218 (c218_0_24g g h i j a l m o p) K σ := by kernel_rfl
theorem m218_0_9 : ∀ (α : Type) (K : KT α), F218_0_9 J218_0_9 α K = p218_0_13.unc fun σ => runM Pg E218_0 sh218 c218_0_24 K σ := m218_0_9g f275_0 f131_0 f132_0 f276_0 J218_0_0 J218_0_2 J218_0_4 J218_0_6 J218_0_8 J218_0_10 J218_0_12 J218_0_14 J218_0_16
abbrev TJ218_0_11 : Type 1 := (α : Type) -> Int -> Int -> Int -> Int -> Int -> (Int -> Int -> Op α) -> Op α
def J218_0_11g (g : TJ218_0_10) (α : Type) (b c d e a : Int) (k1 : Int -> Int -> Op α) : Op α :=
 g α a
 (k1 (w64 (b + (w64 (a * e)))) (w64 (c + (w64 (a * d)))))
 (fun h => k1 (w64 (b + (w64 (a * d)))) (w64 (c + (w64 (a * e)))))
def J218_0_11 (α : Type) (a b c d e : Int) (k1 : Int -> Int -> Op α) : Op α := J218_0_11g J218_0_10 α a b c d e k1
def F218_0_11 (v : TJ218_0_11) (α : Type) (K : KT α) : I37 (Op α) := fun d e g h i j l m a b o p q r s c t w z A B C D F G H I J L M N O P Q R T U => v α g h a b c (fun V W => u218_0_19 (K .normal) d e V W i j l m a b o p q r s c t w z A B C D F G H I J L M N O P Q R T U)
theorem m218_0_11g (b : Tf275_0) (c : Tf131_0) (d : Tf132_0) (e : Tf276_0) (g : TJ218_0_0) (h : TJ218_0_2) (i : TJ218_0_4) (j : TJ218_0_6) (l : TJ218_0_8) (a : TJ218_0_10) (m : TJ218_0_12) (o : TJ218_0_14) (p : TJ218_0_16) (α : Type) (K : KT α) : F218_0_11 (J218_0_11g a) α K = p218_0_16.unc fun σ => runM Pg (E218_0g b c d e) sh218 (c218_0_24g g h i j l a m o p) K σ := by kernel_rfl
theorem m218_0_11 : ∀ (α : Type) (K : KT α), F218_0_11 J218_0_11 α K = p218_0_16.unc fun σ => runM Pg E218_0 sh218 c218_0_24 K σ := m218_0_11g f275_0 f131_0 f132_0 f276_0 J218_0_0 J218_0_2 J218_0_4 J218_0_6 J218_0_8 J218_0_10 J218_0_12 J218_0_14 J218_0_16
abbrev TJ218_0_13 : Type 1 := (α : Type) -> Int -> Int -> Int -> Int -> Int -> (Int -> Int -> Op α) -> Op α
def J218_0_13g (g : TJ218_0_12) (α : Type) (b c d e a : Int) (k1 : Int -> Int -> Op α) : Op α :=
 g α a
 (k1 (w64 (b + (w64 (a * e)))) (w64 (c + (w64 (a * d)))))
 (fun h => k1 (w64 (b + (w64 (a * d)))) (w64 (c + (w64 (a * e)))))
def J218_0_13 (α : Type) (a b c d e : Int) (k1 : Int -> Int -> Op α) : Op α := J218_0_13g J218_0_12 α a b c d e k1
def F218_0_13 (v : TJ218_0_13) (α : Type) (K : KT α) : I37 (Op α) := fun d e g h a b i j l m o p q r s t c w z A B C D F G H I J L M N O P Q R T U => v α g h a b c (fun V W => u218_0_23 (K .normal) d e V W a b i j l m o p q r s t c w z A B C D F G H I J L M N O P Q R T U)
theorem m218_0_13g (b : Tf275_0) (c : Tf131_0) (d : Tf132_0) (e : Tf276_0) (g : TJ218_0_0) (h : TJ218_0_2) (i : TJ218_0_4) (j : TJ218_0_6) (l : TJ218_0_8) (m : TJ218_0_10) (a : TJ218_0_12) (o : TJ218_0_14) (p : TJ218_0_16) (α : Type) (K : KT α) : F218_0_13 (J218_0_13g a) α K = p218_0_22.unc fun σ => runM Pg (E218_0g b c d e) sh218 (c218_0_24g g h i j l m a o p) K σ := by kernel_rfl
theorem m218_0_13 : ∀ (α : Type) (K : KT α), F218_0_13 J218_0_13 α K = p218_0_22.unc fun σ => runM Pg E218_0 sh218 c218_0_24 K σ := m218_0_13g f275_0 f131_0 f132_0 f276_0 J218_0_0 J218_0_2 J218_0_4 J218_0_6 J218_0_8 J218_0_10 J218_0_12 J218_0_14 J218_0_16
abbrev TJ218_0_15 : Type 1 := (α : Type) -> Int -> Int -> Int -> Int -> Int -> (Int -> Int -> Op α) -> Op α
def J218_0_15g (g : TJ218_0_14) (α : Type) (b c d e a : Int) (k1 : Int -> Int -> Op α) : Op α :=
 g α a
 (k1 (w64 (b + (w64 (a * e)))) (w64 (c + (w64 (a * d)))))
 (fun h => k1 (w64 (b + (w64 (a * d)))) (w64 (c + (w64 (a * e)))))
def J218_0_15 (α : Type) (a b c d e : Int) (k1 : Int -> Int -> Op α) : Op α := J218_0_15g J218_0_14 α a b c d e k1
def F218_0_15 (v : TJ218_0_15) (α : Type) (K : KT α) : I37 (Op α) := fun d e g h i j a b l m o p q r s t w c z A B C D F G H I J L M N O P Q R T U => v α g h a b c (fun V W => u218_0_26 (K .normal) d e V W i j a b l m o p q r s t w c z A B C D F G H I J L M N O P Q R T U)
theorem m218_0_15g (b : Tf275_0) (c : Tf131_0) (d : Tf132_0) (e : Tf276_0) (g : TJ218_0_0) (h : TJ218_0_2) (i : TJ218_0_4) (j : TJ218_0_6) (l : TJ218_0_8) (m : TJ218_0_10) (o : TJ218_0_12) (a : TJ218_0_14) (p : TJ218_0_16) (α : Type) (K : KT α) : F218_0_15 (J218_0_15g a) α K = p218_0_23.unc fun σ => runM Pg (E218_0g b c d e) sh218 (c218_0_24g g h i j l m o a p) K σ := by kernel_rfl
theorem m218_0_15 : ∀ (α : Type) (K : KT α), F218_0_15 J218_0_15 α K = p218_0_23.unc fun σ => runM Pg E218_0 sh218 c218_0_24 K σ := m218_0_15g f275_0 f131_0 f132_0 f276_0 J218_0_0 J218_0_2 J218_0_4 J218_0_6 J218_0_8 J218_0_10 J218_0_12 J218_0_14 J218_0_16
abbrev TJ218_0_17 : Type 1 := (α : Type) -> Int -> Int -> Int -> Int -> Int -> (Int -> Int -> Op α) -> Op α
def J218_0_17g (g : TJ218_0_16) (α : Type) (b c d e a : Int) (k1 : Int -> Int -> Op α) : Op α :=
 g α a
 (k1 (w64 (b + (w64 (a * e)))) (w64 (c + (w64 (a * d)))))
 (fun h => k1 (w64 (b + (w64 (a * d)))) (w64 (c + (w64 (a * e)))))
def J218_0_17 (α : Type) (a b c d e : Int) (k1 : Int -> Int -> Op α) : Op α := J218_0_17g J218_0_16 α a b c d e k1
def F218_0_17 (v : TJ218_0_17) (α : Type) (K : KT α) : I37 (Op α) := fun d e g h i j l m a b o p q r s t w z c A B C D F G H I J L M N O P Q R T U => v α g h a b c (fun V W => u218_0_29 (K .normal) d e V W i j l m a b o p q r s t w z c A B C D F G H I J L M N O P Q R T U)
theorem m218_0_17g (b : Tf275_0) (c : Tf131_0) (d : Tf132_0) (e : Tf276_0) (g : TJ218_0_0) (h : TJ218_0_2) (i : TJ218_0_4) (j : TJ218_0_6) (l : TJ218_0_8) (m : TJ218_0_10) (o : TJ218_0_12) (p : TJ218_0_14) (a : TJ218_0_16) (α : Type) (K : KT α) : F218_0_17 (J218_0_17g a) α K = p218_0_26.unc fun σ => runM Pg (E218_0g b c d e) sh218 (c218_0_24g g h i j l m o p a) K σ := by kernel_rfl
theorem m218_0_17 : ∀ (α : Type) (K : KT α), F218_0_17 J218_0_17 α K = p218_0_26.unc fun σ => runM Pg E218_0 sh218 c218_0_24 K σ := m218_0_17g f275_0 f131_0 f132_0 f276_0 J218_0_0 J218_0_2 J218_0_4 J218_0_6 J218_0_8 J218_0_10 J218_0_12 J218_0_14 J218_0_16
abbrev Tf218_0 : Type 1 := (α : Type) -> Int -> Int -> Int -> Int -> Int -> Int -> Int -> Int -> Int -> Int -> Int -> Int -> Int -> Int -> Int -> Int -> Int -> (I7 (Op α)) -> Op α
def f218_0g (z : TJ218_0_1) (A : TJ218_0_11) (B : TJ218_0_13) (C : TJ218_0_15) (D : TJ218_0_17) (F : TJ218_0_3) (G : TJ218_0_5) (H : TJ218_0_7) (I : TJ218_0_9) (d : Tf131_0) (e : Tf132_0) (g : Tf275_0) (a : Tf276_0) (α : Type) (J L M N O P Q R T h i j l m o b c : Int) (k1 : I7 (Op α)) : Op α :=
 g α h i j l m o
 (fun U V W X Y Z => z α 0 0 U V J
 (fun a0 a1 => F α a0 a1 W X L
 (fun a2 a3 => G α a2 a3 Y Z M
 (fun a4 a5 => d α (w64 (a4 * b)) c
 (fun p => e α (w64 (a5 * b)) c
 (fun q => a α p 10000000
 (fun a6 => cK (!a6)
 (k1 0 0 0 0 0 0 8)
 (a α q 10000000
 (fun a7 => cK (!a7)
 (k1 0 0 0 0 0 0 8)
 (g α h i j l m o
 (fun a8 a9 b0 b1 b2 b3 => H α 0 0 a8 a9 N
 (fun b4 b5 => I α b4 b5 b0 b1 O
 (fun b6 b7 => A α b6 b7 b2 b3 P
 (fun b8 b9 => d α (w64 (b8 * b)) c
 (fun r => e α (w64 (b9 * b)) c
 (fun s => a α r 10000000
 (fun c0 => cK (!c0)
 (k1 0 0 0 0 0 0 8)
 (a α s 10000000
 (fun c1 => cK (!c1)
 (k1 0 0 0 0 0 0 8)
 (g α h i j l m o
 (fun c2 c3 c4 c5 c6 c7 => B α 0 0 c2 c3 Q
 (fun c8 c9 => C α c8 c9 c4 c5 R
 (fun d0 d1 => D α d0 d1 c6 c7 T
 (fun d2 d3 => d α (w64 (d2 * b)) c
 (fun t => e α (w64 (d3 * b)) c
 (fun w => a α t 10000000
 (fun d4 => cK (!d4)
 (k1 0 0 0 0 0 0 8)
 (a α w 10000000
 (fun d5 => cK (!d5)
 (k1 0 0 0 0 0 0 8)
 (k1 p q r s t w 0))))))))))))))))))))))))))))))
def f218_0 (α : Type) (a b c d e g h i j l m o p q r s t : Int) (k1 : I7 (Op α)) : Op α := f218_0g J218_0_1 J218_0_11 J218_0_13 J218_0_15 J218_0_17 J218_0_3 J218_0_5 J218_0_7 J218_0_9 f131_0 f132_0 f275_0 f276_0 α a b c d e g h i j l m o p q r s t k1
def pa218_0 : PT (List DV) := pA [pV true [(dI .i64), (dI .i64), (dI .i64), (dI .i64), (dI .i64), (dI .i64), (dI .i64), (dI .i64), (dI .i64)], pV true [(dI .i64), (dI .i64), (dI .i64), (dI .i64), (dI .i64), (dI .i64)], vI, vI]
def Fn218_0 (v : Tf218_0) (α : Type) (k : RT α) : I17 (Op α) := fun a b c d e g h i j l m o p q r s t => v α a b c d e g h i j l m o p q r s t (fun w z A B C D F => ur218_0_0 k w z A B C D F)
def cm218_0g (a : TJ218_0_1) (b : TJ218_0_3) (c : TJ218_0_5) (d : TJ218_0_7) (e : TJ218_0_9) (g : TJ218_0_11) (h : TJ218_0_13) (i : TJ218_0_15) (j : TJ218_0_17) : MCode := (.seq (.region r218_2 [] (tO [2, 3, 4, 5, 8])) (.seq (.region r218_4 [] (tO [2, 3, 4, 5, 8, 10])) (.seq (.seq (.region r218_7 [] (tO [2, 3, 4, 5, 8, 10, 17])) (.block 0 (.loopU 4 td218_9 (.seq (.region r218_11 [] (tO [2, 3, 4, 5, 8, 10, 17, 18])) (.seq (.cond (.tmp 18) .skip (.exit 0)) (.seq (.block 1 (.seq (.region r218_17 [] (tO [2, 3, 4, 5, 8, 10, 11, 17])) (.seq (.region r218_19 [] (tO [2, 3, 4, 5, 8, 10, 11, 12, 13, 17])) (.seq (.seq (.region r218_22 [] (tO [2, 3, 4, 5, 8, 10, 11, 12, 13, 17, 21, 22])) (.block 2 (.loopU 4 td218_24 (.mark [⟨p218_0_2, F218_0_1 a⟩, ⟨p218_0_3, F218_0_3 b⟩, ⟨p218_0_6, F218_0_5 c⟩, ⟨p218_0_12, F218_0_7 d⟩, ⟨p218_0_13, F218_0_9 e⟩, ⟨p218_0_16, F218_0_11 g⟩, ⟨p218_0_22, F218_0_13 h⟩, ⟨p218_0_23, F218_0_15 i⟩, ⟨p218_0_26, F218_0_17 j⟩] c218_0_24)))) (.seq (.region r218_43 [] (tO [2, 3, 4, 5, 8, 10, 11, 17])) (.seq (.region r218_45 [] (tO [2, 3, 4, 5, 8, 10, 17, 78])) (.cond (.tmp 78) (.seq (.region r218_48 [] (tO [8, 9])) .ret) .skip))))))) (.region r218_49 [] (tO [2, 3, 4, 5, 8, 10, 17])))))))) (.seq (.region r218_51 [] (tO [8, 9])) .ret))))
def cm218_0 : MCode := cm218_0g J218_0_1 J218_0_3 J218_0_5 J218_0_7 J218_0_9 J218_0_11 J218_0_13 J218_0_15 J218_0_17
theorem gm218_0 : cm218_0.Good Pg E218_0 sh218 := ⟨trivial, ⟨trivial, ⟨⟨trivial, ⟨⟨trivial, ⟨⟨trivial, trivial⟩, ⟨⟨trivial, ⟨trivial, ⟨⟨trivial, ⟨⟨g218_0_24, m218_0_1, m218_0_3, m218_0_5, m218_0_7, m218_0_9, m218_0_11, m218_0_13, m218_0_15, m218_0_17, trivial⟩, by decide⟩⟩, ⟨trivial, ⟨trivial, ⟨⟨trivial, trivial⟩, trivial⟩⟩⟩⟩⟩⟩, trivial⟩⟩⟩, by decide⟩⟩, ⟨trivial, trivial⟩⟩⟩⟩
theorem fm218_0g (a : Tf275_0) (b : Tf131_0) (c : Tf132_0) (d : Tf276_0) (e : TJ218_0_1) (g : TJ218_0_3) (h : TJ218_0_5) (i : TJ218_0_7) (j : TJ218_0_9) (l : TJ218_0_11) (m : TJ218_0_13) (o : TJ218_0_15) (p : TJ218_0_17) (α : Type) (k : RT α) : Fn218_0 (f218_0g e l m o p g h i j b c a d) α k = pa218_0.unc fun ds => fnM Pg (E218_0g a b c d) sh218 (cm218_0g e g h i j l m o p) rs218 k ds := by kernel_rfl
theorem fm218_0 : ∀ (α : Type) (k : RT α), Fn218_0 f218_0 α k = pa218_0.unc fun ds => fnM Pg E218_0 sh218 cm218_0 rs218 k ds := fm218_0g f275_0 f131_0 f132_0 f276_0 J218_0_1 J218_0_3 J218_0_5 J218_0_7 J218_0_9 J218_0_11 J218_0_13 J218_0_15 J218_0_17
theorem is218 : FnIs Pg 218 nt218 tr218 tl218 cm218_0.erase rs218 := ⟨Tryz.f218, Tryz.func218, rfl, by kernel_rfl, by kernel_rfl, by kernel_rfl⟩
theorem io218_0 : InstOk Pg 218 nt218 ⟨pa218_0, Fn218_0 f218_0⟩ := inst_ok eo218_0 followsTry is218 ⟨⟨sh218, cm218_0, by kernel_rfl, gm218_0, fm218_0⟩⟩
end
end Go.AM.K
