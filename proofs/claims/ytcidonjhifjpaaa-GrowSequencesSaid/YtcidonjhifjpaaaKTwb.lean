/- Printed by KGen. -/
import Derived.Test.YtcidonjhifjpaaaKTwa
namespace Go.AM.K
open Go.Proofs
set_option maxRecDepth 100000
set_option linter.unusedVariables false

/-! ### F113 etalon/etalonref08.Distances -/
abbrev nt113 : Nat := 89
def sh113 : List (Nat × List Sh) := [(17, [.sl]), (33, [.int .i64]), (37, [.int .i64]), (50, [.sl]), (53, [.sl, .sl]), (59, [.sl]), (70, [.int .i64]), (71, [.int .i64]), (74, [.int .i64]), (75, [.int .i64]), (82, [.int .i64]), (83, [.int .i64]), (85, [.int .i64])]
def r113_2 : List AOper := [oO 2 (.box (.tmp 0)), oO 4 (.mv (.const (.slice none 0 0)))]
def r113_4 : List AOper := [oO 5 (.mv (.const (.int .i64 1)))]
def r113_7 : List AOper := [oO 6 (.mv (.const (.int .i64 0)))]
def td113_9 : Option Tidy := (some ⟨[1, 2, 5, 6], true, [⟨true, 2, 0, 30200, 1⟩, ⟨true, 2, 1, 30201, 4⟩], []⟩)
def r113_12 : List AOper := [oM 15 6, oO 16 (.faddr 0 (.tmp 2)), oO 17 (.load false 1 (.tmp 16)), oO 18 (.len (.tmp 17)), oO 19 (.bin .lss 3 (.tmp 15) (.tmp 18))]
def r113_16 : List AOper := [oM 22 5, oO 23 (.bin .mul 3 (.const (.int .i64 2)) (.tmp 22)), oM 5 23]
def r113_17 : List AOper := [oM 20 6, oO 21 (.bin .add 3 (.tmp 20) (.const (.int .i64 1))), oM 6 21]
def r113_19 : List AOper := [oM 24 5, oO 25 (.mkslice 1 8 [(.v (.int .i64 0))] (.tmp 24) (.tmp 24)), oM 7 25]
def r113_22 : List AOper := [oO 8 (.mv (.const (.int .i64 0)))]
def td113_24 : Option Tidy := (some ⟨[1, 2, 5, 7, 8], true, [⟨false, 7, 0, 20007, 1⟩, ⟨true, 2, 0, 30200, 1⟩, ⟨true, 2, 1, 30201, 4⟩], []⟩)
def r113_27 : List AOper := [oM 26 8, oM 27 5, oO 28 (.bin .lss 3 (.tmp 26) (.tmp 27))]
def r113_31 : List AOper := [oM 31 7, oM 32 8, oO 33 (.iaddr 1 none (.tmp 31) (.tmp 32)), ⟨none, (.store 1 (.tmp 33) (.const (.int .i64 1000))), none⟩]
def r113_32 : List AOper := [oM 29 8, oO 30 (.bin .add 3 (.tmp 29) (.const (.int .i64 1))), oM 8 30]
def r113_34 : List AOper := [oM 34 7, oM 35 1, oO 36 (.call 114 [(.tmp 35)]), oO 37 (.iaddr 1 none (.tmp 34) (.tmp 36)), ⟨none, (.store 1 (.tmp 37) (.const (.int .i64 0))), none⟩]
def r113_37 : List AOper := [oO 9 (.mv (.const (.int .i64 0)))]
def td113_39 : Option Tidy := (some ⟨[2, 5, 7, 9], true, [⟨false, 7, 0, 20007, 1⟩, ⟨true, 2, 0, 30200, 1⟩, ⟨true, 2, 1, 30201, 4⟩], []⟩)
def r113_42 : List AOper := [oM 38 9, oM 39 5, oO 40 (.bin .lss 3 (.tmp 38) (.tmp 39))]
def r113_47 : List AOper := [oO 10 (.mv (.const (.bool false)))]
def r113_50 : List AOper := [oO 11 (.mv (.const (.int .i64 0)))]
def td113_52 : Option Tidy := (some ⟨[2, 5, 7, 9, 10, 11], true, [⟨false, 7, 0, 20007, 1⟩, ⟨true, 2, 0, 30200, 1⟩, ⟨true, 2, 1, 30201, 4⟩], []⟩)
def r113_55 : List AOper := [oM 43 11, oM 44 5, oO 45 (.bin .lss 3 (.tmp 43) (.tmp 44))]
def r113_60 : List AOper := [oM 48 11, oO 49 (.faddr 0 (.tmp 2)), oO 50 (.load false 1 (.tmp 49)), oO 51 (.len (.tmp 50)), oO 52 (.call 115 [(.tmp 48), (.tmp 51)]), oM 12 52]
def r113_63 : List AOper := [oO 53 (.load true 2 (.tmp 2)), oM 54 12, oO 55 (.call 52 [(.tmp 53), (.tmp 54)]), oO 56 (.bin .geq 3 (.tmp 55) (.const (.int .i64 0)))]
def r113_66 : List AOper := [oO 13 (.mv (.const (.int .i64 0)))]
def td113_68 : Option Tidy := (some ⟨[2, 5, 7, 9, 10, 11, 12, 13], true, [⟨false, 7, 0, 20007, 1⟩, ⟨false, 12, 0, 20012, 1⟩, ⟨true, 2, 0, 30200, 1⟩, ⟨true, 2, 1, 30201, 4⟩], []⟩)
def r113_71 : List AOper := [oM 57 13, oO 58 (.faddr 0 (.tmp 2)), oO 59 (.load false 1 (.tmp 58)), oO 60 (.len (.tmp 59)), oO 61 (.bin .lss 3 (.tmp 57) (.tmp 60))]
def r113_76 : List AOper := [oM 64 12, oM 65 13, oO 66 (.call 53 [(.tmp 64), (.tmp 65)]), oO 67 (.call 114 [(.tmp 66)]), oM 14 67]
def r113_78 : List AOper := [oM 68 7, oM 69 14, oO 70 (.iaddr 1 none (.tmp 68) (.tmp 69)), oO 71 (.load false 1 (.tmp 70)), oM 72 7, oM 73 11, oO 74 (.iaddr 1 none (.tmp 72) (.tmp 73)), oO 75 (.load false 1 (.tmp 74)), oO 76 (.bin .sub 3 (.tmp 75) (.const (.int .i64 1))), oO 77 (.bin .lss 3 (.tmp 71) (.tmp 76))]
def r113_80 : List AOper := [oM 78 7, oM 79 11, oM 80 7, oM 81 14, oO 82 (.iaddr 1 none (.tmp 80) (.tmp 81)), oO 83 (.load false 1 (.tmp 82)), oO 84 (.bin .add 3 (.tmp 83) (.const (.int .i64 1))), oO 85 (.iaddr 1 none (.tmp 78) (.tmp 79)), ⟨none, (.store 1 (.tmp 85) (.tmp 84)), none⟩, oO 10 (.mv (.const (.bool true)))]
def r113_81 : List AOper := [oM 62 13, oO 63 (.bin .add 3 (.tmp 62) (.const (.int .i64 1))), oM 13 63]
def r113_82 : List AOper := [oM 46 11, oO 47 (.bin .add 3 (.tmp 46) (.const (.int .i64 1))), oM 11 47]
def r113_84 : List AOper := [oM 86 10, oO 87 (.pure (oB (.unOp .not 4 (.tmp 86)) 4))]
def r113_86 : List AOper := [oM 41 9, oO 42 (.bin .add 3 (.tmp 41) (.const (.int .i64 1))), oM 9 42]
def r113_88 : List AOper := [oM 88 7, oM 4 88]
def tr113 : List (Nat × Tidy) := [(0, ⟨[1, 2], true, [], []⟩), (1, ⟨[1, 2, 5], true, [], []⟩), (2, ⟨[1, 2, 5, 6], true, [], []⟩), (3, ⟨[1, 2, 5, 6, 19], true, [], []⟩), (5, ⟨[1, 2, 5, 6], true, [], []⟩), (4, ⟨[1, 2, 5, 6], true, [], []⟩), (6, ⟨[1, 2, 5, 7], true, [], []⟩), (7, ⟨[1, 2, 5, 7, 8], true, [], []⟩), (8, ⟨[1, 2, 5, 7, 8, 28], true, [], []⟩), (10, ⟨[1, 2, 5, 7, 8], true, [], []⟩), (9, ⟨[1, 2, 5, 7, 8], true, [], []⟩), (11, ⟨[2, 5, 7], true, [], []⟩), (12, ⟨[2, 5, 7, 9], true, [], []⟩), (13, ⟨[2, 5, 7, 9, 40], true, [], []⟩), (15, ⟨[2, 5, 7, 9, 10], true, [], []⟩), (16, ⟨[2, 5, 7, 9, 10, 11], true, [], []⟩), (17, ⟨[2, 5, 7, 9, 10, 11, 45], true, [], []⟩), (19, ⟨[2, 5, 7, 9, 10, 11, 12], true, [], []⟩), (20, ⟨[2, 5, 7, 9, 10, 11, 12, 56], true, [], []⟩), (21, ⟨[2, 5, 7, 9, 10, 11, 12, 13], true, [], []⟩), (22, ⟨[2, 5, 7, 9, 10, 11, 12, 13, 61], true, [], []⟩), (24, ⟨[2, 5, 7, 9, 10, 11, 12, 13, 14], true, [], []⟩), (25, ⟨[2, 5, 7, 9, 10, 11, 12, 13, 14, 77], true, [], []⟩), (26, ⟨[2, 5, 7, 9, 10, 11, 12, 13], true, [], []⟩), (23, ⟨[2, 5, 7, 9, 10, 11, 12, 13], true, [], []⟩), (18, ⟨[2, 5, 7, 9, 10, 11], true, [], []⟩), (27, ⟨[2, 5, 7, 9, 87], true, [], []⟩), (14, ⟨[2, 5, 7, 9], true, [], []⟩), (28, ⟨[4], true, [⟨false, 4, 0, 20004, 1⟩], []⟩)]
def tl113 : List (Nat × Tidy) := [(3, ⟨[1, 2, 5, 6], true, [⟨true, 2, 0, 30200, 1⟩, ⟨true, 2, 1, 30201, 4⟩], []⟩), (8, ⟨[1, 2, 5, 7, 8], true, [⟨false, 7, 0, 20007, 1⟩, ⟨true, 2, 0, 30200, 1⟩, ⟨true, 2, 1, 30201, 4⟩], []⟩), (13, ⟨[2, 5, 7, 9], true, [⟨false, 7, 0, 20007, 1⟩, ⟨true, 2, 0, 30200, 1⟩, ⟨true, 2, 1, 30201, 4⟩], []⟩), (17, ⟨[2, 5, 7, 9, 10, 11], true, [⟨false, 7, 0, 20007, 1⟩, ⟨true, 2, 0, 30200, 1⟩, ⟨true, 2, 1, 30201, 4⟩], []⟩), (22, ⟨[2, 5, 7, 9, 10, 11, 12, 13], true, [⟨false, 7, 0, 20007, 1⟩, ⟨false, 12, 0, 20012, 1⟩, ⟨true, 2, 0, 30200, 1⟩, ⟨true, 2, 1, 30201, 4⟩], []⟩)]
def rs113 : List AResV := [.tmp 4]
def p113_0_0 : PT St := pS [sl 1 (aV false [(cD dL)]), sl 2 (aV false [(cPtr 2 0)]), sl 5 (aV false [(cD (dI .i64))]), sl 6 (aV false [(cD (dI .i64))])] [eBox 2 [(cD dL), (cD dL)]]
def u113_0_0 {β : Type} (g : St → β) : Rows → Int → Int → Rows → Rows → β := p113_0_0.unc g

def p113_0_1 : PT St := pS [sl 1 (aV false [(cD dL)]), sl 2 (aV false [(cPtr 2 0)]), sl 5 (aV false [(cD (dI .i64))]), sl 6 (aV false [(cD (dI .i64))]), sl 19 (aV false [(cD dB)])] [eBox 2 [(cD dL), (cD dL)]]
def u113_0_1 {β : Type} (g : St → β) : Rows → Int → Int → Bool → Rows → Rows → β := p113_0_1.unc g

def p113_0_2 : PT St := pS [sl 1 (aV false [(cD dL)]), sl 2 (aV false [(cPtr 2 0)]), sl 5 (aV false [(cD (dI .i64))]), sl 7 (aV false [(cRef 20007)]), sl 8 (aV false [(cD (dI .i64))])] [eBox 2 [(cD dL), (cD dL)], eOwn 20007 1]
def u113_0_2 {β : Type} (g : St → β) : Rows → Int → Int → Rows → Rows → Rows → β := p113_0_2.unc g

def p113_0_3 : PT St := pS [sl 1 (aV false [(cD dL)]), sl 2 (aV false [(cPtr 2 0)]), sl 5 (aV false [(cD (dI .i64))]), sl 7 (aV false [(cRef 20007)]), sl 8 (aV false [(cD (dI .i64))]), sl 28 (aV false [(cD dB)])] [eBox 2 [(cD dL), (cD dL)], eOwn 20007 1]
def u113_0_3 {β : Type} (g : St → β) : Rows → Int → Int → Bool → Rows → Rows → Rows → β := p113_0_3.unc g

def p113_0_4 : PT St := pS [sl 2 (aV false [(cPtr 2 0)]), sl 5 (aV false [(cD (dI .i64))]), sl 7 (aV false [(cRef 20007)]), sl 9 (aV false [(cD (dI .i64))]), sl 10 (aV false [(cD dB)]), sl 11 (aV false [(cD (dI .i64))]), sl 12 (aV false [(cRef 20012)]), sl 13 (aV false [(cD (dI .i64))])] [eBox 2 [(cD dL), (cD dL)], eOwn 20007 1, eOwn 20012 1]
def u113_0_4 {β : Type} (g : St → β) : Int → Int → Bool → Int → Int → Rows → Rows → Rows → Rows → β := p113_0_4.unc g

def p113_0_5 : PT St := pS [sl 2 (aV false [(cPtr 2 0)]), sl 5 (aV false [(cD (dI .i64))]), sl 7 (aV false [(cRef 20007)]), sl 9 (aV false [(cD (dI .i64))]), sl 10 (aV false [(cD dB)]), sl 11 (aV false [(cD (dI .i64))]), sl 12 (aV false [(cRef 20012)]), sl 13 (aV false [(cD (dI .i64))]), sl 61 (aV false [(cD dB)])] [eBox 2 [(cD dL), (cD dL)], eOwn 20007 1, eOwn 20012 1]
def u113_0_5 {β : Type} (g : St → β) : Int → Int → Bool → Int → Int → Bool → Rows → Rows → Rows → Rows → β := p113_0_5.unc g

def p113_0_6 : PT St := pS [sl 2 (aV false [(cPtr 2 0)]), sl 5 (aV false [(cD (dI .i64))]), sl 7 (aV false [(cRef 20007)]), sl 9 (aV false [(cD (dI .i64))]), sl 10 (aV false [(cD dB)]), sl 11 (aV false [(cD (dI .i64))])] [eBox 2 [(cD dL), (cD dL)], eOwn 20007 1]
def u113_0_6 {β : Type} (g : St → β) : Int → Int → Bool → Int → Rows → Rows → Rows → β := p113_0_6.unc g

def p113_0_7 : PT St := pS [sl 2 (aV false [(cPtr 2 0)]), sl 5 (aV false [(cD (dI .i64))]), sl 7 (aV false [(cRef 20007)]), sl 9 (aV false [(cD (dI .i64))]), sl 10 (aV false [(cD dB)]), sl 11 (aV false [(cD (dI .i64))]), sl 45 (aV false [(cD dB)])] [eBox 2 [(cD dL), (cD dL)], eOwn 20007 1]
def u113_0_7 {β : Type} (g : St → β) : Int → Int → Bool → Int → Bool → Rows → Rows → Rows → β := p113_0_7.unc g

def p113_0_8 : PT St := pS [sl 2 (aV false [(cPtr 2 0)]), sl 5 (aV false [(cD (dI .i64))]), sl 7 (aV false [(cRef 20007)]), sl 9 (aV false [(cD (dI .i64))])] [eBox 2 [(cD dL), (cD dL)], eOwn 20007 1]
def u113_0_8 {β : Type} (g : St → β) : Int → Int → Rows → Rows → Rows → β := p113_0_8.unc g

def p113_0_9 : PT St := pS [sl 2 (aV false [(cPtr 2 0)]), sl 5 (aV false [(cD (dI .i64))]), sl 7 (aV false [(cRef 20007)]), sl 9 (aV false [(cD (dI .i64))]), sl 87 (aV false [(cD dB)])] [eBox 2 [(cD dL), (cD dL)], eOwn 20007 1]
def u113_0_9 {β : Type} (g : St → β) : Int → Int → Bool → Rows → Rows → Rows → β := p113_0_9.unc g

def p113_0_10 : PT St := pS [sl 2 (aV false [(cPtr 2 0)]), sl 5 (aV false [(cD (dI .i64))]), sl 7 (aV false [(cRef 20007)]), sl 9 (aV false [(cD (dI .i64))]), sl 40 (aV false [(cD dB)])] [eBox 2 [(cD dL), (cD dL)], eOwn 20007 1]
def u113_0_10 {β : Type} (g : St → β) : Int → Int → Bool → Rows → Rows → Rows → β := p113_0_10.unc g

def pr113_0_0 : PT (List RV) := pRs [pR false [rO 1]]
def ur113_0_0 {β : Type} (g : List RV → β) : Rows → β := pr113_0_0.unc g

def E113_0g (vf114_0 : Tf114_0) (vf115_0 : Tf115_0) (vf52_0 : Tf52_0) (vf53_0 : Tf53_0) : EnvK := EnvK.of [⟨114, nt114, [⟨pa114_0, Fn114_0 vf114_0⟩]⟩, ⟨115, nt115, [⟨pa115_0, Fn115_0 vf115_0⟩]⟩, ⟨52, nt52, [⟨pa52_0, Fn52_0 vf52_0⟩]⟩, ⟨53, nt53, [⟨pa53_0, Fn53_0 vf53_0⟩]⟩] noSeq
noncomputable def E113_0 : EnvK := E113_0g f114_0 f115_0 f52_0 f53_0
theorem eo113_0 : E113_0.Ok Try.prog := EnvK.of_ok noSeq_ok ⟨⟨io114_0, trivial⟩, ⟨io115_0, trivial⟩, ⟨io52_0, trivial⟩, ⟨io53_0, trivial⟩, trivial⟩

noncomputable def c113_0_68g  : MCode := (.seq (.seq (.region r113_71 [] (some ⟨[2, 5, 7, 9, 10, 11, 12, 13, 61], true, [], []⟩)) (.cond (.tmp 61) .skip (.exit 8))) (.seq (.block 9 (.seq (.region r113_76 [] (some ⟨[2, 5, 7, 9, 10, 11, 12, 13, 14], true, [], []⟩)) (.seq (.region r113_78 [] (some ⟨[2, 5, 7, 9, 10, 11, 12, 13, 14, 77], true, [], []⟩)) (.cond (.tmp 77) (.region r113_80 [] (some ⟨[2, 5, 7, 9, 10, 11, 12, 13], true, [], []⟩)) .skip)))) (.region r113_81 [] (some ⟨[2, 5, 7, 9, 10, 11, 12, 13], true, [], []⟩))))
noncomputable def c113_0_68 : MCode := c113_0_68g 
theorem g113_0_68 : c113_0_68.Good Try.prog E113_0 sh113 := ⟨⟨trivial, ⟨trivial, trivial⟩⟩, ⟨⟨trivial, ⟨trivial, ⟨trivial, trivial⟩⟩⟩, trivial⟩⟩
--CODE 68 0
def S113_0_2g (vf114_0 : Tf114_0) (vf53_0 : Tf53_0) (α : Type) (x45 : Int) (x47 : Rows) (x50 : Rows) (x44 : Bool) (x46 : Int) (x49 : Rows) (kn : Bool → Int → Rows → Option α) (k1 : Bool → Int → Bool → Rows → Option α) : Option α :=
 cK (decide (x46 < ((List.length x47 : Nat) : Int)))
 (vf53_0 α x50 x46
 (fun (x52 : Rows) => flatK [x52]
 (vf114_0 α x52
 (fun (x53 : Int) => ixK x49 x53 1
 (ldK x49 (Int.toNat x53) 0 [.int .i64]
 (fun (x54 : Int) => ixK x49 x45 1
 (ldK x49 (Int.toNat x45) 0 [.int .i64]
 (fun (x55 : Int) => cK (decide (x54 < (w64 (x55 - 1))))
 (ixK x49 x53 1
 (ldK x49 (Int.toNat x53) 0 [.int .i64]
 (fun (x56 : Int) => ixK x49 x45 1
 (stK x49 (Int.toNat x45) 0 1
 (kn true (w64 (x46 + 1)) (List.set x49 (Int.toNat x45) (splice (rowAt x49 (Int.toNat x45)) 0 [DC.v (.int .i64 (w64 (x56 + 1)))])))))))
 (kn x44 (w64 (x46 + 1)) x49)))))))))
 (k1 x44 x46 (decide (x46 < ((List.length x47 : Nat) : Int))) x49)
noncomputable def S113_0_2 (α : Type) (x45 : Int) (x47 : Rows) (x50 : Rows) (x44 : Bool) (x46 : Int) (x49 : Rows) (kn : Bool → Int → Rows → Option α) (k1 : Bool → Int → Bool → Rows → Option α) : Option α := S113_0_2g f114_0 f53_0 α x45 x47 x50 x44 x46 x49 kn k1
noncomputable def R113_0_2 (α : Type) (x45 : Int) (x47 : Rows) (x50 : Rows) (k1 : Bool → Int → Bool → Rows → Option α) : Nat → Bool → Int → Rows → Option α
 | 0, _, _, _ => none
 | n + 1, x44, x46, x49 => S113_0_2 α x45 x47 x50 x44 x46 x49 (R113_0_2 α x45 x47 x50 k1 n) k1
noncomputable def L113_0_2 (α : Type) (x45 : Int) (x47 : Rows) (x50 : Rows) (k1 : Bool → Int → Bool → Rows → Option α) (x44 : Bool) (x46 : Int) (x49 : Rows) : Option α := R113_0_2 α x45 x47 x50 k1 fuel x44 x46 x49
abbrev TL113_0_2 : Type 1 := (α : Type) → Int → Rows → Rows → (Bool → Int → Bool → Rows → Option α) → Bool → Int → Rows → Option α
def F113_0_2 (v : TL113_0_2) (α : Type) (K : Exit → St → Option α) : Int → Int → Bool → Int → Int → Rows → Rows → Rows → Rows → Option α := fun x42 x43 x44 x45 x46 x47 x48 x49 x50 => v α x45 x47 x50 (fun (y1 : Bool) (y2 : Int) (y3 : Bool) (y4 : Rows) => u113_0_5 (K (.exit 8)) x42 x43 y1 x45 y2 y3 x47 x48 y4 x50) x44 x46 x49
theorem r113_0_2g (vf114_0 : Tf114_0) (vf115_0 : Tf115_0) (vf52_0 : Tf52_0) (vf53_0 : Tf53_0)  (α : Type) (K : Exit → St → Option α) (Kn : St → Option α) (x42 : Int) (x43 : Int) (x44 : Bool) (x45 : Int) (x46 : Int) (x47 : Rows) (x48 : Rows) (x49 : Rows) (x50 : Rows) : u113_0_4 (fun σ => runM Try.prog (E113_0g vf114_0 vf115_0 vf52_0 vf53_0) sh113 (c113_0_68g ) (thenK (fun σ => tidyK td113_68 σ Kn) K) σ) x42 x43 x44 x45 x46 x47 x48 x49 x50 = S113_0_2g vf114_0 vf53_0 α x45 x47 x50 x44 x46 x49 (fun x44 x46 x49 => u113_0_4 Kn x42 x43 x44 x45 x46 x47 x48 x49 x50) (fun (y1 : Bool) (y2 : Int) (y3 : Bool) (y4 : Rows) => u113_0_5 (K (.exit 8)) x42 x43 y1 x45 y2 y3 x47 x48 y4 x50) := by kernel_rfl
theorem r113_0_2 (α : Type) (K : Exit → St → Option α) (Kn : St → Option α) (x42 : Int) (x43 : Int) (x44 : Bool) (x45 : Int) (x46 : Int) (x47 : Rows) (x48 : Rows) (x49 : Rows) (x50 : Rows) : u113_0_4 (fun σ => runM Try.prog E113_0 sh113 c113_0_68 (thenK (fun σ => tidyK td113_68 σ Kn) K) σ) x42 x43 x44 x45 x46 x47 x48 x49 x50 = S113_0_2 α x45 x47 x50 x44 x46 x49 (fun x44 x46 x49 => u113_0_4 Kn x42 x43 x44 x45 x46 x47 x48 x49 x50) (fun (y1 : Bool) (y2 : Int) (y3 : Bool) (y4 : Rows) => u113_0_5 (K (.exit 8)) x42 x43 y1 x45 y2 y3 x47 x48 y4 x50) := r113_0_2g f114_0 f115_0 f52_0 f53_0 α K Kn x42 x43 x44 x45 x46 x47 x48 x49 x50
theorem t113_0_2 (α : Type) (K : Exit → St → Option α) : ∀ (n : Nat) (x42 : Int) (x43 : Int) (x44 : Bool) (x45 : Int) (x46 : Int) (x47 : Rows) (x48 : Rows) (x49 : Rows) (x50 : Rows), R113_0_2 α x45 x47 x50 (fun (y1 : Bool) (y2 : Int) (y3 : Bool) (y4 : Rows) => u113_0_5 (K (.exit 8)) x42 x43 y1 x45 y2 y3 x47 x48 y4 x50) n x44 x46 x49 = u113_0_4 (loopT (runM Try.prog E113_0 sh113 c113_0_68) td113_68 K n) x42 x43 x44 x45 x46 x47 x48 x49 x50 := by
 intro n
 induction n with
 | zero => intros; rfl
 | succ n ih => intro x42 x43 x44 x45 x46 x47 x48 x49 x50; exact (congrArg (fun kn => S113_0_2 α x45 x47 x50 x44 x46 x49 kn (fun (y1 : Bool) (y2 : Int) (y3 : Bool) (y4 : Rows) => u113_0_5 (K (.exit 8)) x42 x43 y1 x45 y2 y3 x47 x48 y4 x50)) (funext fun x44 => funext fun x46 => funext fun x49 => ih x42 x43 x44 x45 x46 x47 x48 x49 x50)).trans (r113_0_2 α K (loopT (runM Try.prog E113_0 sh113 c113_0_68) td113_68 K n) x42 x43 x44 x45 x46 x47 x48 x49 x50).symm
theorem m113_0_2 : ∀ (α : Type) (K : Exit → St → Option α), F113_0_2 L113_0_2 α K = p113_0_4.unc fun σ => loopT (runM Try.prog E113_0 sh113 c113_0_68) td113_68 K fuel σ := fun α K => funext fun x42 => funext fun x43 => funext fun x44 => funext fun x45 => funext fun x46 => funext fun x47 => funext fun x48 => funext fun x49 => funext fun x50 => t113_0_2 α K fuel x42 x43 x44 x45 x46 x47 x48 x49 x50

noncomputable def c113_0_52g (vL113_0_2 : TL113_0_2) : MCode := (.seq (.seq (.region r113_55 [] (some ⟨[2, 5, 7, 9, 10, 11, 45], true, [], []⟩)) (.cond (.tmp 45) .skip (.exit 6))) (.seq (.block 7 (.seq (.region r113_60 [] (some ⟨[2, 5, 7, 9, 10, 11, 12], true, [], []⟩)) (.seq (.seq (.region r113_63 [] (some ⟨[2, 5, 7, 9, 10, 11, 12, 56], true, [], []⟩)) (.cond (.tmp 56) (.exit 7) .skip)) (.seq (.region r113_66 [] (some ⟨[2, 5, 7, 9, 10, 11, 12, 13], true, [], []⟩)) (.block 8 (.loop td113_68 [⟨p113_0_4, F113_0_2 vL113_0_2⟩] c113_0_68)))))) (.region r113_82 [] (some ⟨[2, 5, 7, 9, 10, 11], true, [], []⟩))))
noncomputable def c113_0_52 : MCode := c113_0_52g L113_0_2
theorem g113_0_52 : c113_0_52.Good Try.prog E113_0 sh113 := ⟨⟨trivial, ⟨trivial, trivial⟩⟩, ⟨⟨trivial, ⟨⟨trivial, ⟨trivial, trivial⟩⟩, ⟨trivial, ⟨g113_0_68, m113_0_2, trivial⟩⟩⟩⟩, trivial⟩⟩
--CODE 52 0
def S113_0_3g (vL113_0_2 : TL113_0_2) (vf115_0 : Tf115_0) (vf52_0 : Tf52_0) (α : Type) (x32 : Int) (x36 : Rows) (x37 : Rows) (x34 : Bool) (x35 : Int) (x38 : Rows) (kn : Bool → Int → Rows → Option α) (k1 : Bool → Int → Bool → Rows → Option α) : Option α :=
 cK (decide (x35 < x32))
 (vf115_0 α x35 ((List.length x36 : Nat) : Int)
 (fun (x40 : Rows) => vf52_0 α x36 x37 x40
 (fun (x41 : Int) => cK (decide (0 ≤ x41))
 (kn x34 (w64 (x35 + 1)) x38)
 (vL113_0_2 α x35 x36 x40
 (fun (x57 : Bool) (x58 : Int) (x59 : Bool) (x60 : Rows) => kn x57 (w64 (x35 + 1)) x60) x34 0 x38))))
 (k1 x34 x35 (decide (x35 < x32)) x38)
noncomputable def S113_0_3 (α : Type) (x32 : Int) (x36 : Rows) (x37 : Rows) (x34 : Bool) (x35 : Int) (x38 : Rows) (kn : Bool → Int → Rows → Option α) (k1 : Bool → Int → Bool → Rows → Option α) : Option α := S113_0_3g L113_0_2 f115_0 f52_0 α x32 x36 x37 x34 x35 x38 kn k1
noncomputable def R113_0_3 (α : Type) (x32 : Int) (x36 : Rows) (x37 : Rows) (k1 : Bool → Int → Bool → Rows → Option α) : Nat → Bool → Int → Rows → Option α
 | 0, _, _, _ => none
 | n + 1, x34, x35, x38 => S113_0_3 α x32 x36 x37 x34 x35 x38 (R113_0_3 α x32 x36 x37 k1 n) k1
noncomputable def L113_0_3 (α : Type) (x32 : Int) (x36 : Rows) (x37 : Rows) (k1 : Bool → Int → Bool → Rows → Option α) (x34 : Bool) (x35 : Int) (x38 : Rows) : Option α := R113_0_3 α x32 x36 x37 k1 fuel x34 x35 x38
abbrev TL113_0_3 : Type 1 := (α : Type) → Int → Rows → Rows → (Bool → Int → Bool → Rows → Option α) → Bool → Int → Rows → Option α
def F113_0_3 (v : TL113_0_3) (α : Type) (K : Exit → St → Option α) : Int → Int → Bool → Int → Rows → Rows → Rows → Option α := fun x32 x33 x34 x35 x36 x37 x38 => v α x32 x36 x37 (fun (y1 : Bool) (y2 : Int) (y3 : Bool) (y4 : Rows) => u113_0_7 (K (.exit 6)) x32 x33 y1 y2 y3 x36 x37 y4) x34 x35 x38
theorem r113_0_3g (vf114_0 : Tf114_0) (vf115_0 : Tf115_0) (vf52_0 : Tf52_0) (vf53_0 : Tf53_0) (vL113_0_2 : TL113_0_2) (α : Type) (K : Exit → St → Option α) (Kn : St → Option α) (x32 : Int) (x33 : Int) (x34 : Bool) (x35 : Int) (x36 : Rows) (x37 : Rows) (x38 : Rows) : u113_0_6 (fun σ => runM Try.prog (E113_0g vf114_0 vf115_0 vf52_0 vf53_0) sh113 (c113_0_52g vL113_0_2) (thenK (fun σ => tidyK td113_52 σ Kn) K) σ) x32 x33 x34 x35 x36 x37 x38 = S113_0_3g vL113_0_2 vf115_0 vf52_0 α x32 x36 x37 x34 x35 x38 (fun x34 x35 x38 => u113_0_6 Kn x32 x33 x34 x35 x36 x37 x38) (fun (y1 : Bool) (y2 : Int) (y3 : Bool) (y4 : Rows) => u113_0_7 (K (.exit 6)) x32 x33 y1 y2 y3 x36 x37 y4) := by kernel_rfl
theorem r113_0_3 (α : Type) (K : Exit → St → Option α) (Kn : St → Option α) (x32 : Int) (x33 : Int) (x34 : Bool) (x35 : Int) (x36 : Rows) (x37 : Rows) (x38 : Rows) : u113_0_6 (fun σ => runM Try.prog E113_0 sh113 c113_0_52 (thenK (fun σ => tidyK td113_52 σ Kn) K) σ) x32 x33 x34 x35 x36 x37 x38 = S113_0_3 α x32 x36 x37 x34 x35 x38 (fun x34 x35 x38 => u113_0_6 Kn x32 x33 x34 x35 x36 x37 x38) (fun (y1 : Bool) (y2 : Int) (y3 : Bool) (y4 : Rows) => u113_0_7 (K (.exit 6)) x32 x33 y1 y2 y3 x36 x37 y4) := r113_0_3g f114_0 f115_0 f52_0 f53_0 L113_0_2 α K Kn x32 x33 x34 x35 x36 x37 x38
theorem t113_0_3 (α : Type) (K : Exit → St → Option α) : ∀ (n : Nat) (x32 : Int) (x33 : Int) (x34 : Bool) (x35 : Int) (x36 : Rows) (x37 : Rows) (x38 : Rows), R113_0_3 α x32 x36 x37 (fun (y1 : Bool) (y2 : Int) (y3 : Bool) (y4 : Rows) => u113_0_7 (K (.exit 6)) x32 x33 y1 y2 y3 x36 x37 y4) n x34 x35 x38 = u113_0_6 (loopT (runM Try.prog E113_0 sh113 c113_0_52) td113_52 K n) x32 x33 x34 x35 x36 x37 x38 := by
 intro n
 induction n with
 | zero => intros; rfl
 | succ n ih => intro x32 x33 x34 x35 x36 x37 x38; exact (congrArg (fun kn => S113_0_3 α x32 x36 x37 x34 x35 x38 kn (fun (y1 : Bool) (y2 : Int) (y3 : Bool) (y4 : Rows) => u113_0_7 (K (.exit 6)) x32 x33 y1 y2 y3 x36 x37 y4)) (funext fun x34 => funext fun x35 => funext fun x38 => ih x32 x33 x34 x35 x36 x37 x38)).trans (r113_0_3 α K (loopT (runM Try.prog E113_0 sh113 c113_0_52) td113_52 K n) x32 x33 x34 x35 x36 x37 x38).symm
theorem m113_0_3 : ∀ (α : Type) (K : Exit → St → Option α), F113_0_3 L113_0_3 α K = p113_0_6.unc fun σ => loopT (runM Try.prog E113_0 sh113 c113_0_52) td113_52 K fuel σ := fun α K => funext fun x32 => funext fun x33 => funext fun x34 => funext fun x35 => funext fun x36 => funext fun x37 => funext fun x38 => t113_0_3 α K fuel x32 x33 x34 x35 x36 x37 x38

noncomputable def c113_0_39g (vL113_0_3 : TL113_0_3) : MCode := (.seq (.seq (.region r113_42 [] (some ⟨[2, 5, 7, 9, 40], true, [], []⟩)) (.cond (.tmp 40) .skip (.exit 4))) (.seq (.block 5 (.seq (.region r113_47 [] (some ⟨[2, 5, 7, 9, 10], true, [], []⟩)) (.seq (.seq (.region r113_50 [] (some ⟨[2, 5, 7, 9, 10, 11], true, [], []⟩)) (.block 6 (.loop td113_52 [⟨p113_0_6, F113_0_3 vL113_0_3⟩] c113_0_52))) (.seq (.region r113_84 [] (some ⟨[2, 5, 7, 9, 87], true, [], []⟩)) (.cond (.tmp 87) (.exit 4) .skip))))) (.region r113_86 [] (some ⟨[2, 5, 7, 9], true, [], []⟩))))
noncomputable def c113_0_39 : MCode := c113_0_39g L113_0_3
theorem g113_0_39 : c113_0_39.Good Try.prog E113_0 sh113 := ⟨⟨trivial, ⟨trivial, trivial⟩⟩, ⟨⟨trivial, ⟨⟨trivial, ⟨g113_0_52, m113_0_3, trivial⟩⟩, ⟨trivial, ⟨trivial, trivial⟩⟩⟩⟩, trivial⟩⟩
--CODE 39 0
def S113_0_4g (vL113_0_3 : TL113_0_3) (α : Type) (x26 : Int) (x28 : Rows) (x29 : Rows) (x27 : Int) (x30 : Rows) (kn : Int → Rows → Option α) (k1 : Int → Bool → Rows → Option α) (k2 : Int → Bool → Rows → Option α) : Option α :=
 cK (decide (x27 < x26))
 (vL113_0_3 α x26 x28 x29
 (fun (x62 : Bool) (x63 : Int) (x64 : Bool) (x65 : Rows) => cK (!x62)
 (k1 x27 (!x62) x65)
 (kn (w64 (x27 + 1)) x65)) false 0 x30)
 (k2 x27 (decide (x27 < x26)) x30)
noncomputable def S113_0_4 (α : Type) (x26 : Int) (x28 : Rows) (x29 : Rows) (x27 : Int) (x30 : Rows) (kn : Int → Rows → Option α) (k1 : Int → Bool → Rows → Option α) (k2 : Int → Bool → Rows → Option α) : Option α := S113_0_4g L113_0_3 α x26 x28 x29 x27 x30 kn k1 k2
noncomputable def R113_0_4 (α : Type) (x26 : Int) (x28 : Rows) (x29 : Rows) (k1 : Int → Bool → Rows → Option α) (k2 : Int → Bool → Rows → Option α) : Nat → Int → Rows → Option α
 | 0, _, _ => none
 | n + 1, x27, x30 => S113_0_4 α x26 x28 x29 x27 x30 (R113_0_4 α x26 x28 x29 k1 k2 n) k1 k2
noncomputable def L113_0_4 (α : Type) (x26 : Int) (x28 : Rows) (x29 : Rows) (k1 : Int → Bool → Rows → Option α) (k2 : Int → Bool → Rows → Option α) (x27 : Int) (x30 : Rows) : Option α := R113_0_4 α x26 x28 x29 k1 k2 fuel x27 x30
abbrev TL113_0_4 : Type 1 := (α : Type) → Int → Rows → Rows → (Int → Bool → Rows → Option α) → (Int → Bool → Rows → Option α) → Int → Rows → Option α
def F113_0_4 (v : TL113_0_4) (α : Type) (K : Exit → St → Option α) : Int → Int → Rows → Rows → Rows → Option α := fun x26 x27 x28 x29 x30 => v α x26 x28 x29 (fun (y1 : Int) (y2 : Bool) (y3 : Rows) => u113_0_9 (K (.exit 4)) x26 y1 y2 x28 x29 y3) (fun (y1 : Int) (y2 : Bool) (y3 : Rows) => u113_0_10 (K (.exit 4)) x26 y1 y2 x28 x29 y3) x27 x30
theorem r113_0_4g (vf114_0 : Tf114_0) (vf115_0 : Tf115_0) (vf52_0 : Tf52_0) (vf53_0 : Tf53_0) (vL113_0_3 : TL113_0_3) (α : Type) (K : Exit → St → Option α) (Kn : St → Option α) (x26 : Int) (x27 : Int) (x28 : Rows) (x29 : Rows) (x30 : Rows) : u113_0_8 (fun σ => runM Try.prog (E113_0g vf114_0 vf115_0 vf52_0 vf53_0) sh113 (c113_0_39g vL113_0_3) (thenK (fun σ => tidyK td113_39 σ Kn) K) σ) x26 x27 x28 x29 x30 = S113_0_4g vL113_0_3 α x26 x28 x29 x27 x30 (fun x27 x30 => u113_0_8 Kn x26 x27 x28 x29 x30) (fun (y1 : Int) (y2 : Bool) (y3 : Rows) => u113_0_9 (K (.exit 4)) x26 y1 y2 x28 x29 y3) (fun (y1 : Int) (y2 : Bool) (y3 : Rows) => u113_0_10 (K (.exit 4)) x26 y1 y2 x28 x29 y3) := by kernel_rfl
theorem r113_0_4 (α : Type) (K : Exit → St → Option α) (Kn : St → Option α) (x26 : Int) (x27 : Int) (x28 : Rows) (x29 : Rows) (x30 : Rows) : u113_0_8 (fun σ => runM Try.prog E113_0 sh113 c113_0_39 (thenK (fun σ => tidyK td113_39 σ Kn) K) σ) x26 x27 x28 x29 x30 = S113_0_4 α x26 x28 x29 x27 x30 (fun x27 x30 => u113_0_8 Kn x26 x27 x28 x29 x30) (fun (y1 : Int) (y2 : Bool) (y3 : Rows) => u113_0_9 (K (.exit 4)) x26 y1 y2 x28 x29 y3) (fun (y1 : Int) (y2 : Bool) (y3 : Rows) => u113_0_10 (K (.exit 4)) x26 y1 y2 x28 x29 y3) := r113_0_4g f114_0 f115_0 f52_0 f53_0 L113_0_3 α K Kn x26 x27 x28 x29 x30
theorem t113_0_4 (α : Type) (K : Exit → St → Option α) : ∀ (n : Nat) (x26 : Int) (x27 : Int) (x28 : Rows) (x29 : Rows) (x30 : Rows), R113_0_4 α x26 x28 x29 (fun (y1 : Int) (y2 : Bool) (y3 : Rows) => u113_0_9 (K (.exit 4)) x26 y1 y2 x28 x29 y3) (fun (y1 : Int) (y2 : Bool) (y3 : Rows) => u113_0_10 (K (.exit 4)) x26 y1 y2 x28 x29 y3) n x27 x30 = u113_0_8 (loopT (runM Try.prog E113_0 sh113 c113_0_39) td113_39 K n) x26 x27 x28 x29 x30 := by
 intro n
 induction n with
 | zero => intros; rfl
 | succ n ih => intro x26 x27 x28 x29 x30; exact (congrArg (fun kn => S113_0_4 α x26 x28 x29 x27 x30 kn (fun (y1 : Int) (y2 : Bool) (y3 : Rows) => u113_0_9 (K (.exit 4)) x26 y1 y2 x28 x29 y3) (fun (y1 : Int) (y2 : Bool) (y3 : Rows) => u113_0_10 (K (.exit 4)) x26 y1 y2 x28 x29 y3)) (funext fun x27 => funext fun x30 => ih x26 x27 x28 x29 x30)).trans (r113_0_4 α K (loopT (runM Try.prog E113_0 sh113 c113_0_39) td113_39 K n) x26 x27 x28 x29 x30).symm
theorem m113_0_4 : ∀ (α : Type) (K : Exit → St → Option α), F113_0_4 L113_0_4 α K = p113_0_8.unc fun σ => loopT (runM Try.prog E113_0 sh113 c113_0_39) td113_39 K fuel σ := fun α K => funext fun x26 => funext fun x27 => funext fun x28 => funext fun x29 => funext fun x30 => t113_0_4 α K fuel x26 x27 x28 x29 x30

noncomputable def c113_0_24g  : MCode := (.seq (.seq (.region r113_27 [] (some ⟨[1, 2, 5, 7, 8, 28], true, [], []⟩)) (.cond (.tmp 28) .skip (.exit 2))) (.seq (.block 3 (.region r113_31 [] (some ⟨[1, 2, 5, 7, 8], true, [], []⟩))) (.region r113_32 [] (some ⟨[1, 2, 5, 7, 8], true, [], []⟩))))
noncomputable def c113_0_24 : MCode := c113_0_24g 
theorem g113_0_24 : c113_0_24.Good Try.prog E113_0 sh113 := ⟨⟨trivial, ⟨trivial, trivial⟩⟩, ⟨trivial, trivial⟩⟩
--CODE 24 0
def S113_0_1g  (α : Type) (x15 : Int) (x16 : Int) (x19 : Rows) (kn : Int → Rows → Option α) (k1 : Int → Bool → Rows → Option α) : Option α :=
 cK (decide (x16 < x15))
 (ixK x19 x16 1
 (stK x19 (Int.toNat x16) 0 1
 (kn (w64 (x16 + 1)) (List.set x19 (Int.toNat x16) (splice (rowAt x19 (Int.toNat x16)) 0 [DC.v (.int .i64 1000)])))))
 (k1 x16 (decide (x16 < x15)) x19)
noncomputable def S113_0_1 (α : Type) (x15 : Int) (x16 : Int) (x19 : Rows) (kn : Int → Rows → Option α) (k1 : Int → Bool → Rows → Option α) : Option α := S113_0_1g  α x15 x16 x19 kn k1
noncomputable def R113_0_1 (α : Type) (x15 : Int) (k1 : Int → Bool → Rows → Option α) : Nat → Int → Rows → Option α
 | 0, _, _ => none
 | n + 1, x16, x19 => S113_0_1 α x15 x16 x19 (R113_0_1 α x15 k1 n) k1
noncomputable def L113_0_1 (α : Type) (x15 : Int) (k1 : Int → Bool → Rows → Option α) (x16 : Int) (x19 : Rows) : Option α := R113_0_1 α x15 k1 fuel x16 x19
abbrev TL113_0_1 : Type 1 := (α : Type) → Int → (Int → Bool → Rows → Option α) → Int → Rows → Option α
def F113_0_1 (v : TL113_0_1) (α : Type) (K : Exit → St → Option α) : Rows → Int → Int → Rows → Rows → Rows → Option α := fun x14 x15 x16 x17 x18 x19 => v α x15 (fun (y1 : Int) (y2 : Bool) (y3 : Rows) => u113_0_3 (K (.exit 2)) x14 x15 y1 y2 x17 x18 y3) x16 x19
theorem r113_0_1g (vf114_0 : Tf114_0) (vf115_0 : Tf115_0) (vf52_0 : Tf52_0) (vf53_0 : Tf53_0)  (α : Type) (K : Exit → St → Option α) (Kn : St → Option α) (x14 : Rows) (x15 : Int) (x16 : Int) (x17 : Rows) (x18 : Rows) (x19 : Rows) : u113_0_2 (fun σ => runM Try.prog (E113_0g vf114_0 vf115_0 vf52_0 vf53_0) sh113 (c113_0_24g ) (thenK (fun σ => tidyK td113_24 σ Kn) K) σ) x14 x15 x16 x17 x18 x19 = S113_0_1g  α x15 x16 x19 (fun x16 x19 => u113_0_2 Kn x14 x15 x16 x17 x18 x19) (fun (y1 : Int) (y2 : Bool) (y3 : Rows) => u113_0_3 (K (.exit 2)) x14 x15 y1 y2 x17 x18 y3) := by kernel_rfl
theorem r113_0_1 (α : Type) (K : Exit → St → Option α) (Kn : St → Option α) (x14 : Rows) (x15 : Int) (x16 : Int) (x17 : Rows) (x18 : Rows) (x19 : Rows) : u113_0_2 (fun σ => runM Try.prog E113_0 sh113 c113_0_24 (thenK (fun σ => tidyK td113_24 σ Kn) K) σ) x14 x15 x16 x17 x18 x19 = S113_0_1 α x15 x16 x19 (fun x16 x19 => u113_0_2 Kn x14 x15 x16 x17 x18 x19) (fun (y1 : Int) (y2 : Bool) (y3 : Rows) => u113_0_3 (K (.exit 2)) x14 x15 y1 y2 x17 x18 y3) := r113_0_1g f114_0 f115_0 f52_0 f53_0 α K Kn x14 x15 x16 x17 x18 x19
theorem t113_0_1 (α : Type) (K : Exit → St → Option α) : ∀ (n : Nat) (x14 : Rows) (x15 : Int) (x16 : Int) (x17 : Rows) (x18 : Rows) (x19 : Rows), R113_0_1 α x15 (fun (y1 : Int) (y2 : Bool) (y3 : Rows) => u113_0_3 (K (.exit 2)) x14 x15 y1 y2 x17 x18 y3) n x16 x19 = u113_0_2 (loopT (runM Try.prog E113_0 sh113 c113_0_24) td113_24 K n) x14 x15 x16 x17 x18 x19 := by
 intro n
 induction n with
 | zero => intros; rfl
 | succ n ih => intro x14 x15 x16 x17 x18 x19; exact (congrArg (fun kn => S113_0_1 α x15 x16 x19 kn (fun (y1 : Int) (y2 : Bool) (y3 : Rows) => u113_0_3 (K (.exit 2)) x14 x15 y1 y2 x17 x18 y3)) (funext fun x16 => funext fun x19 => ih x14 x15 x16 x17 x18 x19)).trans (r113_0_1 α K (loopT (runM Try.prog E113_0 sh113 c113_0_24) td113_24 K n) x14 x15 x16 x17 x18 x19).symm
theorem m113_0_1 : ∀ (α : Type) (K : Exit → St → Option α), F113_0_1 L113_0_1 α K = p113_0_2.unc fun σ => loopT (runM Try.prog E113_0 sh113 c113_0_24) td113_24 K fuel σ := fun α K => funext fun x14 => funext fun x15 => funext fun x16 => funext fun x17 => funext fun x18 => funext fun x19 => t113_0_1 α K fuel x14 x15 x16 x17 x18 x19

noncomputable def c113_0_9g  : MCode := (.seq (.seq (.region r113_12 [] (some ⟨[1, 2, 5, 6, 19], true, [], []⟩)) (.cond (.tmp 19) .skip (.exit 0))) (.seq (.block 1 (.region r113_16 [] (some ⟨[1, 2, 5, 6], true, [], []⟩))) (.region r113_17 [] (some ⟨[1, 2, 5, 6], true, [], []⟩))))
noncomputable def c113_0_9 : MCode := c113_0_9g 
theorem g113_0_9 : c113_0_9.Good Try.prog E113_0 sh113 := ⟨⟨trivial, ⟨trivial, trivial⟩⟩, ⟨trivial, trivial⟩⟩
--CODE 9 0
def S113_0_0g  (α : Type) (x7 : Rows) (x5 : Int) (x6 : Int) (kn : Int → Int → Option α) (k1 : Int → Int → Bool → Option α) : Option α :=
 cK (decide (x6 < ((List.length x7 : Nat) : Int)))
 (kn (w64 (2 * x5)) (w64 (x6 + 1)))
 (k1 x5 x6 (decide (x6 < ((List.length x7 : Nat) : Int))))
noncomputable def S113_0_0 (α : Type) (x7 : Rows) (x5 : Int) (x6 : Int) (kn : Int → Int → Option α) (k1 : Int → Int → Bool → Option α) : Option α := S113_0_0g  α x7 x5 x6 kn k1
noncomputable def R113_0_0 (α : Type) (x7 : Rows) (k1 : Int → Int → Bool → Option α) : Nat → Int → Int → Option α
 | 0, _, _ => none
 | n + 1, x5, x6 => S113_0_0 α x7 x5 x6 (R113_0_0 α x7 k1 n) k1
noncomputable def L113_0_0 (α : Type) (x7 : Rows) (k1 : Int → Int → Bool → Option α) (x5 : Int) (x6 : Int) : Option α := R113_0_0 α x7 k1 fuel x5 x6
abbrev TL113_0_0 : Type 1 := (α : Type) → Rows → (Int → Int → Bool → Option α) → Int → Int → Option α
def F113_0_0 (v : TL113_0_0) (α : Type) (K : Exit → St → Option α) : Rows → Int → Int → Rows → Rows → Option α := fun x4 x5 x6 x7 x8 => v α x7 (fun (y1 : Int) (y2 : Int) (y3 : Bool) => u113_0_1 (K (.exit 0)) x4 y1 y2 y3 x7 x8) x5 x6
theorem r113_0_0g (vf114_0 : Tf114_0) (vf115_0 : Tf115_0) (vf52_0 : Tf52_0) (vf53_0 : Tf53_0)  (α : Type) (K : Exit → St → Option α) (Kn : St → Option α) (x4 : Rows) (x5 : Int) (x6 : Int) (x7 : Rows) (x8 : Rows) : u113_0_0 (fun σ => runM Try.prog (E113_0g vf114_0 vf115_0 vf52_0 vf53_0) sh113 (c113_0_9g ) (thenK (fun σ => tidyK td113_9 σ Kn) K) σ) x4 x5 x6 x7 x8 = S113_0_0g  α x7 x5 x6 (fun x5 x6 => u113_0_0 Kn x4 x5 x6 x7 x8) (fun (y1 : Int) (y2 : Int) (y3 : Bool) => u113_0_1 (K (.exit 0)) x4 y1 y2 y3 x7 x8) := by kernel_rfl
theorem r113_0_0 (α : Type) (K : Exit → St → Option α) (Kn : St → Option α) (x4 : Rows) (x5 : Int) (x6 : Int) (x7 : Rows) (x8 : Rows) : u113_0_0 (fun σ => runM Try.prog E113_0 sh113 c113_0_9 (thenK (fun σ => tidyK td113_9 σ Kn) K) σ) x4 x5 x6 x7 x8 = S113_0_0 α x7 x5 x6 (fun x5 x6 => u113_0_0 Kn x4 x5 x6 x7 x8) (fun (y1 : Int) (y2 : Int) (y3 : Bool) => u113_0_1 (K (.exit 0)) x4 y1 y2 y3 x7 x8) := r113_0_0g f114_0 f115_0 f52_0 f53_0 α K Kn x4 x5 x6 x7 x8
theorem t113_0_0 (α : Type) (K : Exit → St → Option α) : ∀ (n : Nat) (x4 : Rows) (x5 : Int) (x6 : Int) (x7 : Rows) (x8 : Rows), R113_0_0 α x7 (fun (y1 : Int) (y2 : Int) (y3 : Bool) => u113_0_1 (K (.exit 0)) x4 y1 y2 y3 x7 x8) n x5 x6 = u113_0_0 (loopT (runM Try.prog E113_0 sh113 c113_0_9) td113_9 K n) x4 x5 x6 x7 x8 := by
 intro n
 induction n with
 | zero => intros; rfl
 | succ n ih => intro x4 x5 x6 x7 x8; exact (congrArg (fun kn => S113_0_0 α x7 x5 x6 kn (fun (y1 : Int) (y2 : Int) (y3 : Bool) => u113_0_1 (K (.exit 0)) x4 y1 y2 y3 x7 x8)) (funext fun x5 => funext fun x6 => ih x4 x5 x6 x7 x8)).trans (r113_0_0 α K (loopT (runM Try.prog E113_0 sh113 c113_0_9) td113_9 K n) x4 x5 x6 x7 x8).symm
theorem m113_0_0 : ∀ (α : Type) (K : Exit → St → Option α), F113_0_0 L113_0_0 α K = p113_0_0.unc fun σ => loopT (runM Try.prog E113_0 sh113 c113_0_9) td113_9 K fuel σ := fun α K => funext fun x4 => funext fun x5 => funext fun x6 => funext fun x7 => funext fun x8 => t113_0_0 α K fuel x4 x5 x6 x7 x8

/-- etalon/etalonref08.Distances -/
abbrev Tf113_0 : Type 1 := (α : Type) → Rows → Rows → Rows → (Rows → Option α) → Option α
def f113_0g (vL113_0_0 : TL113_0_0) (vL113_0_1 : TL113_0_1) (vL113_0_4 : TL113_0_4) (vf114_0 : Tf114_0) (α : Type) (x1 : Rows) (x2 : Rows) (x3 : Rows) (k1 : Rows → Option α) : Option α :=
 vL113_0_0 α x1
 (fun (x10 : Int) (x11 : Int) (x12 : Bool) => gK (decide ((0 : Int) ≤ x10 ∧ x10 ≤ x10 ∧ 8 * x10 ≤ 140737488355328 ∧ x10 ≤ 9223372036854775807)) (vL113_0_1 α x10
 (fun (x21 : Int) (x22 : Bool) (x23 : Rows) => vf114_0 α x3
 (fun (x25 : Int) => ixK x23 x25 1
 (stK x23 (Int.toNat x25) 0 1
 (vL113_0_4 α x10 x1 x2
 (fun (x67 : Int) (x68 : Bool) (x69 : Rows) => k1 x69)
 (fun (x70 : Int) (x71 : Bool) (x72 : Rows) => k1 x72) 0 (List.set x23 (Int.toNat x25) (splice (rowAt x23 (Int.toNat x25)) 0 [DC.v (.int .i64 0)])))))) 0 (List.replicate (Int.toNat x10) [DC.v (.int .i64 0)]))) 1 0
noncomputable def f113_0 (α : Type) (x1 : Rows) (x2 : Rows) (x3 : Rows) (k1 : Rows → Option α) : Option α := f113_0g L113_0_0 L113_0_1 L113_0_4 f114_0 α x1 x2 x3 k1
def pa113_0 : PT (List DV) := pA [pV true [dL, dL], pV false [dL]]
def Fn113_0 (v : Tf113_0) (α : Type) (k : List RV → Option α) : Rows → Rows → Rows → Option α := fun x1 x2 x3 => v α x1 x2 x3 (fun (y1 : Rows) => ur113_0_0 k y1)
noncomputable def cm113_0g (vL113_0_0 : TL113_0_0) (vL113_0_1 : TL113_0_1) (vL113_0_4 : TL113_0_4) : MCode := (.seq (.region r113_2 [] (some ⟨[1, 2], true, [], []⟩)) (.seq (.region r113_4 [] (some ⟨[1, 2, 5], true, [], []⟩)) (.seq (.seq (.region r113_7 [] (some ⟨[1, 2, 5, 6], true, [], []⟩)) (.block 0 (.loop td113_9 [⟨p113_0_0, F113_0_0 vL113_0_0⟩] c113_0_9))) (.seq (.region r113_19 [] (some ⟨[1, 2, 5, 7], true, [], []⟩)) (.seq (.seq (.region r113_22 [] (some ⟨[1, 2, 5, 7, 8], true, [], []⟩)) (.block 2 (.loop td113_24 [⟨p113_0_2, F113_0_1 vL113_0_1⟩] c113_0_24))) (.seq (.region r113_34 [] (some ⟨[2, 5, 7], true, [], []⟩)) (.seq (.seq (.region r113_37 [] (some ⟨[2, 5, 7, 9], true, [], []⟩)) (.block 4 (.loop td113_39 [⟨p113_0_8, F113_0_4 vL113_0_4⟩] c113_0_39))) (.seq (.region r113_88 [] (some ⟨[4], true, [⟨false, 4, 0, 20004, 1⟩], []⟩)) .ret))))))))
noncomputable def cm113_0 : MCode := cm113_0g L113_0_0 L113_0_1 L113_0_4
theorem gm113_0 : cm113_0.Good Try.prog E113_0 sh113 := ⟨trivial, ⟨trivial, ⟨⟨trivial, ⟨g113_0_9, m113_0_0, trivial⟩⟩, ⟨trivial, ⟨⟨trivial, ⟨g113_0_24, m113_0_1, trivial⟩⟩, ⟨trivial, ⟨⟨trivial, ⟨g113_0_39, m113_0_4, trivial⟩⟩, ⟨trivial, trivial⟩⟩⟩⟩⟩⟩⟩⟩
theorem fm113_0g (vf114_0 : Tf114_0) (vf115_0 : Tf115_0) (vf52_0 : Tf52_0) (vf53_0 : Tf53_0) (vL113_0_0 : TL113_0_0) (vL113_0_1 : TL113_0_1) (vL113_0_4 : TL113_0_4) (α : Type) (k : List RV → Option α) : Fn113_0 (f113_0g vL113_0_0 vL113_0_1 vL113_0_4 vf114_0) α k = pa113_0.unc fun ds => fnM Try.prog (E113_0g vf114_0 vf115_0 vf52_0 vf53_0) sh113 (cm113_0g vL113_0_0 vL113_0_1 vL113_0_4) rs113 k ds := by kernel_rfl
theorem fm113_0 : ∀ (α : Type) (k : List RV → Option α), Fn113_0 f113_0 α k = pa113_0.unc fun ds => fnM Try.prog E113_0 sh113 cm113_0 rs113 k ds := fm113_0g f114_0 f115_0 f52_0 f53_0 L113_0_0 L113_0_1 L113_0_4

theorem is113 : FnIs Try.prog 113 nt113 tr113 tl113 cm113_0.erase rs113 := ⟨Try.f113, Try.func113, rfl, by kernel_rfl, by kernel_rfl, by kernel_rfl⟩
theorem io113_0 : InstOk Try.prog 113 nt113 ⟨pa113_0, Fn113_0 f113_0⟩ := inst_ok eo113_0 followsTry is113 ⟨⟨sh113, cm113_0, by kernel_rfl, gm113_0, fm113_0⟩⟩

/-! ### F112 etalon/etalonref08.ChangeErr -/
abbrev nt112 : Nat := 33
def sh112 : List (Nat × List Sh) := [(7, [.sl, .sl]), (9, [.sl]), (14, [.sl, .sl]), (16, [.sl]), (21, [.sl, .sl]), (23, [.sl]), (27, [.sl, .sl]), (29, [.sl])]
def r112_2 : List AOper := [oO 2 (.box (.tmp 0)), oO 3 (.box (.tmp 1)), oO 4 (.mv (.const (.int .i64 0)))]
def r112_5 : List AOper := [oO 7 (.load true 2 (.tmp 2)), oO 8 (.faddr 0 (.tmp 3)), oO 9 (.load false 1 (.tmp 8)), oO 10 (.call 51 [(.tmp 7), (.tmp 9)]), oM 5 10]
def r112_7 : List AOper := [oM 11 5, oO 12 (.bin .neq 3 (.tmp 11) (.const (.int .i64 0)))]
def r112_10 : List AOper := [oM 13 5, oM 4 13]
def r112_13 : List AOper := [oO 14 (.load true 2 (.tmp 2)), oO 15 (.faddr 1 (.tmp 3)), oO 16 (.load false 1 (.tmp 15)), oO 17 (.call 51 [(.tmp 14), (.tmp 16)]), oM 6 17]
def r112_15 : List AOper := [oM 18 6, oO 19 (.bin .neq 3 (.tmp 18) (.const (.int .i64 0)))]
def r112_18 : List AOper := [oM 20 6, oM 4 20]
def r112_21 : List AOper := [oO 21 (.load true 2 (.tmp 2)), oO 22 (.faddr 0 (.tmp 3)), oO 23 (.load false 1 (.tmp 22)), oO 24 (.call 52 [(.tmp 21), (.tmp 23)]), oO 25 (.bin .geq 3 (.tmp 24) (.const (.int .i64 0))), oM 26 25, ⟨(some 27), (.load true 2 (.tmp 2)), (some (26, false))⟩, ⟨(some 28), (.faddr 1 (.tmp 3)), (some (26, false))⟩, ⟨(some 29), (.load false 1 (.tmp 28)), (some (26, false))⟩, ⟨(some 30), (.call 52 [(.tmp 27), (.tmp 29)]), (some (26, false))⟩, ⟨(some 31), (.bin .geq 3 (.tmp 30) (.const (.int .i64 0))), (some (26, false))⟩, oO 32 (.pick (.tmp 26) (.const (.bool true)) (.tmp 31))]
def r112_24 : List AOper := [oO 4 (.mv (.const (.int .i64 24)))]
def r112_26 : List AOper := [oO 4 (.mv (.const (.int .i64 0)))]
def tr112 : List (Nat × Tidy) := [(0, ⟨[2, 3], true, [], []⟩), (1, ⟨[2, 3, 5], true, [], []⟩), (2, ⟨[2, 3, 5, 12], true, [], []⟩), (3, ⟨[4], true, [], []⟩), (4, ⟨[2, 3, 6], true, [], []⟩), (5, ⟨[2, 3, 6, 19], true, [], []⟩), (6, ⟨[4], true, [], []⟩), (7, ⟨[32], true, [], []⟩), (8, ⟨[4], true, [], []⟩), (9, ⟨[4], true, [], []⟩)]
def tl112 : List (Nat × Tidy) := []
def rs112 : List AResV := [.tmp 4]
def pr112_0_0 : PT (List RV) := pRs [pR false [rD (dI .i64)]]
def ur112_0_0 {β : Type} (g : List RV → β) : Int → β := pr112_0_0.unc g

def E112_0g (vf51_0 : Tf51_0) (vf52_0 : Tf52_0) : EnvK := EnvK.of [⟨51, nt51, [⟨pa51_0, Fn51_0 vf51_0⟩]⟩, ⟨52, nt52, [⟨pa52_0, Fn52_0 vf52_0⟩]⟩] noSeq
noncomputable def E112_0 : EnvK := E112_0g f51_0 f52_0
theorem eo112_0 : E112_0.Ok Try.prog := EnvK.of_ok noSeq_ok ⟨⟨io51_0, trivial⟩, ⟨io52_0, trivial⟩, trivial⟩

/-- etalon/etalonref08.ChangeErr -/
abbrev Tf112_0 : Type 1 := (α : Type) → Rows → Rows → Rows → Rows → (Int → Option α) → Option α
def f112_0g (vf51_0 : Tf51_0) (vf52_0 : Tf52_0) (α : Type) (x1 : Rows) (x2 : Rows) (x3 : Rows) (x4 : Rows) (k1 : Int → Option α) : Option α :=
 vf51_0 α x1 x2 x3
 (fun (x5 : Int) => cK (x5 != 0)
 (k1 x5)
 (vf51_0 α x1 x2 x4
 (fun (x6 : Int) => cK (x6 != 0)
 (k1 x6)
 (vf52_0 α x1 x2 x3
 (fun (x7 : Int) => cK (decide (0 ≤ x7))
 (k1 24)
 (vf52_0 α x1 x2 x4
 (fun (x8 : Int) => cK (decide (0 ≤ x8))
 (k1 24)
 (k1 0))))))))
noncomputable def f112_0 (α : Type) (x1 : Rows) (x2 : Rows) (x3 : Rows) (x4 : Rows) (k1 : Int → Option α) : Option α := f112_0g f51_0 f52_0 α x1 x2 x3 x4 k1
def pa112_0 : PT (List DV) := pA [pV true [dL, dL], pV true [dL, dL]]
def Fn112_0 (v : Tf112_0) (α : Type) (k : List RV → Option α) : Rows → Rows → Rows → Rows → Option α := fun x1 x2 x3 x4 => v α x1 x2 x3 x4 (fun (y1 : Int) => ur112_0_0 k y1)
noncomputable def cm112_0g  : MCode := (.seq (.region r112_2 [] (some ⟨[2, 3], true, [], []⟩)) (.seq (.seq (.region r112_5 [] (some ⟨[2, 3, 5], true, [], []⟩)) (.seq (.region r112_7 [] (some ⟨[2, 3, 5, 12], true, [], []⟩)) (.cond (.tmp 12) (.seq (.region r112_10 [] (some ⟨[4], true, [], []⟩)) .ret) .skip))) (.seq (.seq (.region r112_13 [] (some ⟨[2, 3, 6], true, [], []⟩)) (.seq (.region r112_15 [] (some ⟨[2, 3, 6, 19], true, [], []⟩)) (.cond (.tmp 19) (.seq (.region r112_18 [] (some ⟨[4], true, [], []⟩)) .ret) .skip))) (.seq (.seq (.region r112_21 [] (some ⟨[32], true, [], []⟩)) (.cond (.tmp 32) (.seq (.region r112_24 [] (some ⟨[4], true, [], []⟩)) .ret) .skip)) (.seq (.region r112_26 [] (some ⟨[4], true, [], []⟩)) .ret)))))
noncomputable def cm112_0 : MCode := cm112_0g 
theorem gm112_0 : cm112_0.Good Try.prog E112_0 sh112 := ⟨trivial, ⟨⟨trivial, ⟨trivial, ⟨⟨trivial, trivial⟩, trivial⟩⟩⟩, ⟨⟨trivial, ⟨trivial, ⟨⟨trivial, trivial⟩, trivial⟩⟩⟩, ⟨⟨trivial, ⟨⟨trivial, trivial⟩, trivial⟩⟩, ⟨trivial, trivial⟩⟩⟩⟩⟩
theorem fm112_0g (vf51_0 : Tf51_0) (vf52_0 : Tf52_0)  (α : Type) (k : List RV → Option α) : Fn112_0 (f112_0g vf51_0 vf52_0) α k = pa112_0.unc fun ds => fnM Try.prog (E112_0g vf51_0 vf52_0) sh112 (cm112_0g ) rs112 k ds := by kernel_rfl
theorem fm112_0 : ∀ (α : Type) (k : List RV → Option α), Fn112_0 f112_0 α k = pa112_0.unc fun ds => fnM Try.prog E112_0 sh112 cm112_0 rs112 k ds := fm112_0g f51_0 f52_0

theorem is112 : FnIs Try.prog 112 nt112 tr112 tl112 cm112_0.erase rs112 := ⟨Try.f112, Try.func112, rfl, by kernel_rfl, by kernel_rfl, by kernel_rfl⟩
theorem io112_0 : InstOk Try.prog 112 nt112 ⟨pa112_0, Fn112_0 f112_0⟩ := inst_ok eo112_0 followsTry is112 ⟨⟨sh112, cm112_0, by kernel_rfl, gm112_0, fm112_0⟩⟩

/-! ### F50 etalon/etalonref08.CheckChamber -/
abbrev nt50 : Nat := 74
def sh50 : List (Nat × List Sh) := [(7, [.sl]), (12, [.sl]), (18, [.sl]), (20, [.str]), (21, [.str]), (26, [.sl]), (30, [.sl]), (32, [.str]), (33, [.str]), (37, [.sl]), (42, [.sl]), (48, [.sl]), (50, [.int .i64, .bool, .int .i64, .bool]), (52, [.int .i64]), (54, [.sl]), (61, [.sl]), (63, [.int .i64, .bool, .int .i64, .bool]), (65, [.int .i64]), (67, [.sl])]
def r50_2 : List AOper := [oO 1 (.box (.tmp 0)), oO 2 (.mv (.const (.int .i64 0))), oO 3 (.mv (.const (.int .i64 0)))]
def r50_5 : List AOper := [oO 6 (.faddr 0 (.tmp 1)), oO 7 (.load false 1 (.tmp 6)), oO 8 (.len (.tmp 7)), oO 9 (.bin .gtr 3 (.tmp 8) (.const (.int .i64 8)))]
def r50_8 : List AOper := [oO 2 (.mv (.const (.int .i64 0))), oO 3 (.mv (.const (.int .i64 8)))]
def r50_11 : List AOper := [oO 4 (.mv (.const (.int .i64 0)))]
def td50_13 : Option Tidy := (some ⟨[1, 4], true, [⟨true, 1, 0, 30100, 1⟩, ⟨true, 1, 1, 30101, 4⟩], []⟩)
def r50_16 : List AOper := [oM 10 4, oO 11 (.faddr 0 (.tmp 1)), oO 12 (.load false 1 (.tmp 11)), oO 13 (.len (.tmp 12)), oO 14 (.bin .lss 3 (.tmp 10) (.tmp 13))]
def r50_22 : List AOper := [oO 17 (.faddr 0 (.tmp 1)), oO 18 (.load false 1 (.tmp 17)), oM 19 4, oO 20 (.iaddr 1 none (.tmp 18) (.tmp 19)), oO 21 (.load false 1 (.tmp 20)), oO 22 (.call 107 [(.tmp 21)]), oO 23 (.pure (oB (.unOp .not 4 (.tmp 22)) 4))]
def r50_25 : List AOper := [oM 24 4, oM 2 24, oO 3 (.mv (.const (.int .i64 3)))]
def r50_27 : List AOper := [oO 25 (.faddr 0 (.tmp 1)), oO 26 (.load false 1 (.tmp 25)), oM 27 4, oO 28 (.slice 1 false (.tmp 26) none (some (.tmp 27))), oO 29 (.faddr 0 (.tmp 1)), oO 30 (.load false 1 (.tmp 29)), oM 31 4, oO 32 (.iaddr 1 none (.tmp 30) (.tmp 31)), oO 33 (.load false 1 (.tmp 32)), oO 34 (.call 108 [(.tmp 28), (.tmp 33)])]
def r50_30 : List AOper := [oM 35 4, oM 2 35, oO 3 (.mv (.const (.int .i64 5)))]
def r50_31 : List AOper := [oM 15 4, oO 16 (.bin .add 3 (.tmp 15) (.const (.int .i64 1))), oM 4 16]
def r50_34 : List AOper := [oO 36 (.faddr 1 (.tmp 1)), oO 37 (.load false 1 (.tmp 36)), oO 38 (.len (.tmp 37)), oO 39 (.bin .gtr 3 (.tmp 38) (.const (.int .i64 30)))]
def r50_37 : List AOper := [oO 2 (.mv (.const (.int .i64 0))), oO 3 (.mv (.const (.int .i64 8)))]
def r50_40 : List AOper := [oO 5 (.mv (.const (.int .i64 0)))]
def td50_42 : Option Tidy := (some ⟨[1, 5], true, [⟨true, 1, 0, 30100, 1⟩, ⟨true, 1, 1, 30101, 4⟩], []⟩)
def r50_45 : List AOper := [oM 40 5, oO 41 (.faddr 1 (.tmp 1)), oO 42 (.load false 1 (.tmp 41)), oO 43 (.len (.tmp 42)), oO 44 (.bin .lss 3 (.tmp 40) (.tmp 43))]
def r50_50 : List AOper := [oO 47 (.faddr 1 (.tmp 1)), oO 48 (.load false 1 (.tmp 47)), oM 49 5, oO 50 (.iaddr 4 none (.tmp 48) (.tmp 49)), oO 51 (.faddr 0 (.tmp 50)), oO 52 (.load false 1 (.tmp 51)), oO 53 (.faddr 0 (.tmp 1)), oO 54 (.load false 1 (.tmp 53)), oO 55 (.len (.tmp 54)), oO 56 (.bin .sub 3 (.tmp 55) (.const (.int .i64 1))), oO 57 (.call 19 [(.tmp 52), (.const (.int .i64 0)), (.tmp 56)]), oO 58 (.pure (oB (.unOp .not 4 (.tmp 57)) 4)), oM 59 58, ⟨(some 60), (.faddr 1 (.tmp 1)), (some (59, false))⟩, ⟨(some 61), (.load false 1 (.tmp 60)), (some (59, false))⟩, ⟨(some 62), (.mv (.tmp 5)), (some (59, false))⟩, ⟨(some 63), (.iaddr 4 none (.tmp 61) (.tmp 62)), (some (59, false))⟩, ⟨(some 64), (.faddr 2 (.tmp 63)), (some (59, false))⟩, ⟨(some 65), (.load false 1 (.tmp 64)), (some (59, false))⟩, ⟨(some 66), (.faddr 0 (.tmp 1)), (some (59, false))⟩, ⟨(some 67), (.load false 1 (.tmp 66)), (some (59, false))⟩, ⟨(some 68), (.len (.tmp 67)), (some (59, false))⟩, ⟨(some 69), (.bin .sub 3 (.tmp 68) (.const (.int .i64 1))), (some (59, false))⟩, ⟨(some 70), (.call 19 [(.tmp 65), (.const (.int .i64 0)), (.tmp 69)]), (some (59, false))⟩, ⟨(some 71), (.pure (oB (.unOp .not 4 (.tmp 70)) 4)), (some (59, false))⟩, oO 72 (.pick (.tmp 59) (.const (.bool true)) (.tmp 71))]
def r50_53 : List AOper := [oM 73 5, oM 2 73, oO 3 (.mv (.const (.int .i64 6)))]
def r50_54 : List AOper := [oM 45 5, oO 46 (.bin .add 3 (.tmp 45) (.const (.int .i64 1))), oM 5 46]
def r50_56 : List AOper := [oO 2 (.mv (.const (.int .i64 0))), oO 3 (.mv (.const (.int .i64 0)))]
def tr50 : List (Nat × Tidy) := [(0, ⟨[1], true, [], []⟩), (1, ⟨[1, 9], true, [], []⟩), (2, ⟨[2, 3], true, [], []⟩), (3, ⟨[1, 4], true, [], []⟩), (4, ⟨[1, 4, 14], true, [], []⟩), (6, ⟨[1, 4, 23], true, [], []⟩), (7, ⟨[2, 3], true, [], []⟩), (8, ⟨[1, 4, 34], true, [], []⟩), (9, ⟨[2, 3], true, [], []⟩), (5, ⟨[1, 4], true, [], []⟩), (10, ⟨[1, 39], true, [], []⟩), (11, ⟨[2, 3], true, [], []⟩), (12, ⟨[1, 5], true, [], []⟩), (13, ⟨[1, 5, 44], true, [], []⟩), (15, ⟨[1, 5, 72], true, [], []⟩), (16, ⟨[2, 3], true, [], []⟩), (14, ⟨[1, 5], true, [], []⟩), (17, ⟨[2, 3], true, [], []⟩)]
def tl50 : List (Nat × Tidy) := [(4, ⟨[1, 4], true, [⟨true, 1, 0, 30100, 1⟩, ⟨true, 1, 1, 30101, 4⟩], []⟩), (13, ⟨[1, 5], true, [⟨true, 1, 0, 30100, 1⟩, ⟨true, 1, 1, 30101, 4⟩], []⟩)]
def rs50 : List AResV := [.tmp 2, .tmp 3]
def p50_0_0 : PT St := pS [sl 1 (aV false [(cPtr 1 0)]), sl 4 (aV false [(cD (dI .i64))])] [eBox 1 [(cD dL), (cD dL)]]
def u50_0_0 {β : Type} (g : St → β) : Int → Rows → Rows → β := p50_0_0.unc g

def p50_0_1 : PT St := pS [sl 2 (aV false [(cD (dI .i64))]), sl 3 (aV false [(cD (dI .i64))])] []
def u50_0_1 {β : Type} (g : St → β) : Int → Int → β := p50_0_1.unc g

def p50_0_2 : PT St := pS [sl 1 (aV false [(cPtr 1 0)]), sl 4 (aV false [(cD (dI .i64))]), sl 14 (aV false [(cD dB)])] [eBox 1 [(cD dL), (cD dL)]]
def u50_0_2 {β : Type} (g : St → β) : Int → Bool → Rows → Rows → β := p50_0_2.unc g

def p50_0_3 : PT St := pS [sl 1 (aV false [(cPtr 1 0)]), sl 5 (aV false [(cD (dI .i64))])] [eBox 1 [(cD dL), (cD dL)]]
def u50_0_3 {β : Type} (g : St → β) : Int → Rows → Rows → β := p50_0_3.unc g

def p50_0_4 : PT St := pS [sl 1 (aV false [(cPtr 1 0)]), sl 5 (aV false [(cD (dI .i64))]), sl 44 (aV false [(cD dB)])] [eBox 1 [(cD dL), (cD dL)]]
def u50_0_4 {β : Type} (g : St → β) : Int → Bool → Rows → Rows → β := p50_0_4.unc g

def pr50_0_0 : PT (List RV) := pRs [pR false [rD (dI .i64)], pR false [rD (dI .i64)]]
def ur50_0_0 {β : Type} (g : List RV → β) : Int → Int → β := pr50_0_0.unc g

def E50_0g (vf107_0 : Tf107_0) (vf108_0 : Tf108_0) (vf19_0 : Tf19_0) : EnvK := EnvK.of [⟨107, nt107, [⟨pa107_0, Fn107_0 vf107_0⟩]⟩, ⟨108, nt108, [⟨pa108_0, Fn108_0 vf108_0⟩]⟩, ⟨19, nt19, [⟨pa19_0, Fn19_0 vf19_0⟩]⟩] noSeq
noncomputable def E50_0 : EnvK := E50_0g f107_0 f108_0 f19_0
theorem eo50_0 : E50_0.Ok Try.prog := EnvK.of_ok noSeq_ok ⟨⟨io107_0, trivial⟩, ⟨io108_0, trivial⟩, ⟨io19_0, trivial⟩, trivial⟩

noncomputable def c50_0_42g  : MCode := (.seq (.seq (.region r50_45 [] (some ⟨[1, 5, 44], true, [], []⟩)) (.cond (.tmp 44) .skip (.exit 2))) (.seq (.block 3 (.seq (.region r50_50 [] (some ⟨[1, 5, 72], true, [], []⟩)) (.cond (.tmp 72) (.seq (.region r50_53 [] (some ⟨[2, 3], true, [], []⟩)) .ret) .skip))) (.region r50_54 [] (some ⟨[1, 5], true, [], []⟩))))
noncomputable def c50_0_42 : MCode := c50_0_42g 
theorem g50_0_42 : c50_0_42.Good Try.prog E50_0 sh50 := ⟨⟨trivial, ⟨trivial, trivial⟩⟩, ⟨⟨trivial, ⟨⟨trivial, trivial⟩, trivial⟩⟩, trivial⟩⟩
--CODE 42 0
def S50_0_1g (vf19_0 : Tf19_0) (α : Type) (x17 : Rows) (x18 : Rows) (x16 : Int) (kn : Int → Option α) (k1 : Int → Option α) (k2 : Int → Bool → Option α) : Option α :=
 cK (decide (x16 < ((List.length x18 : Nat) : Int)))
 (rowK x18 x16 [.int .i64, .bool, .int .i64, .bool]
 (fun (x20 : Int) (x21 : Bool) (x22 : Int) (x23 : Bool) => vf19_0 α x20 0 (w64 (((List.length x17 : Nat) : Int) - 1))
 (fun (x24 : Bool) => cK (!x24)
 (k1 x16)
 (rowK x18 x16 [.int .i64, .bool, .int .i64, .bool]
 (fun (x25 : Int) (x26 : Bool) (x27 : Int) (x28 : Bool) => vf19_0 α x27 0 (w64 (((List.length x17 : Nat) : Int) - 1))
 (fun (x29 : Bool) => cK (!x29)
 (k1 x16)
 (kn (w64 (x16 + 1)))))))))
 (k2 x16 (decide (x16 < ((List.length x18 : Nat) : Int))))
noncomputable def S50_0_1 (α : Type) (x17 : Rows) (x18 : Rows) (x16 : Int) (kn : Int → Option α) (k1 : Int → Option α) (k2 : Int → Bool → Option α) : Option α := S50_0_1g f19_0 α x17 x18 x16 kn k1 k2
noncomputable def R50_0_1 (α : Type) (x17 : Rows) (x18 : Rows) (k1 : Int → Option α) (k2 : Int → Bool → Option α) : Nat → Int → Option α
 | 0, _ => none
 | n + 1, x16 => S50_0_1 α x17 x18 x16 (R50_0_1 α x17 x18 k1 k2 n) k1 k2
noncomputable def L50_0_1 (α : Type) (x17 : Rows) (x18 : Rows) (k1 : Int → Option α) (k2 : Int → Bool → Option α) (x16 : Int) : Option α := R50_0_1 α x17 x18 k1 k2 fuel x16
abbrev TL50_0_1 : Type 1 := (α : Type) → Rows → Rows → (Int → Option α) → (Int → Bool → Option α) → Int → Option α
def F50_0_1 (v : TL50_0_1) (α : Type) (K : Exit → St → Option α) : Int → Rows → Rows → Option α := fun x16 x17 x18 => v α x17 x18 (fun (y1 : Int) => u50_0_1 (K .ret) y1 6) (fun (y1 : Int) (y2 : Bool) => u50_0_4 (K (.exit 2)) y1 y2 x17 x18) x16
theorem r50_0_1g (vf107_0 : Tf107_0) (vf108_0 : Tf108_0) (vf19_0 : Tf19_0)  (α : Type) (K : Exit → St → Option α) (Kn : St → Option α) (x16 : Int) (x17 : Rows) (x18 : Rows) : u50_0_3 (fun σ => runM Try.prog (E50_0g vf107_0 vf108_0 vf19_0) sh50 (c50_0_42g ) (thenK (fun σ => tidyK td50_42 σ Kn) K) σ) x16 x17 x18 = S50_0_1g vf19_0 α x17 x18 x16 (fun x16 => u50_0_3 Kn x16 x17 x18) (fun (y1 : Int) => u50_0_1 (K .ret) y1 6) (fun (y1 : Int) (y2 : Bool) => u50_0_4 (K (.exit 2)) y1 y2 x17 x18) := by kernel_rfl
theorem r50_0_1 (α : Type) (K : Exit → St → Option α) (Kn : St → Option α) (x16 : Int) (x17 : Rows) (x18 : Rows) : u50_0_3 (fun σ => runM Try.prog E50_0 sh50 c50_0_42 (thenK (fun σ => tidyK td50_42 σ Kn) K) σ) x16 x17 x18 = S50_0_1 α x17 x18 x16 (fun x16 => u50_0_3 Kn x16 x17 x18) (fun (y1 : Int) => u50_0_1 (K .ret) y1 6) (fun (y1 : Int) (y2 : Bool) => u50_0_4 (K (.exit 2)) y1 y2 x17 x18) := r50_0_1g f107_0 f108_0 f19_0 α K Kn x16 x17 x18
theorem t50_0_1 (α : Type) (K : Exit → St → Option α) : ∀ (n : Nat) (x16 : Int) (x17 : Rows) (x18 : Rows), R50_0_1 α x17 x18 (fun (y1 : Int) => u50_0_1 (K .ret) y1 6) (fun (y1 : Int) (y2 : Bool) => u50_0_4 (K (.exit 2)) y1 y2 x17 x18) n x16 = u50_0_3 (loopT (runM Try.prog E50_0 sh50 c50_0_42) td50_42 K n) x16 x17 x18 := by
 intro n
 induction n with
 | zero => intros; rfl
 | succ n ih => intro x16 x17 x18; exact (congrArg (fun kn => S50_0_1 α x17 x18 x16 kn (fun (y1 : Int) => u50_0_1 (K .ret) y1 6) (fun (y1 : Int) (y2 : Bool) => u50_0_4 (K (.exit 2)) y1 y2 x17 x18)) (funext fun x16 => ih x16 x17 x18)).trans (r50_0_1 α K (loopT (runM Try.prog E50_0 sh50 c50_0_42) td50_42 K n) x16 x17 x18).symm
theorem m50_0_1 : ∀ (α : Type) (K : Exit → St → Option α), F50_0_1 L50_0_1 α K = p50_0_3.unc fun σ => loopT (runM Try.prog E50_0 sh50 c50_0_42) td50_42 K fuel σ := fun α K => funext fun x16 => funext fun x17 => funext fun x18 => t50_0_1 α K fuel x16 x17 x18

noncomputable def c50_0_13g  : MCode := (.seq (.seq (.region r50_16 [] (some ⟨[1, 4, 14], true, [], []⟩)) (.cond (.tmp 14) .skip (.exit 0))) (.seq (.block 1 (.seq (.seq (.region r50_22 [] (some ⟨[1, 4, 23], true, [], []⟩)) (.cond (.tmp 23) (.seq (.region r50_25 [] (some ⟨[2, 3], true, [], []⟩)) .ret) .skip)) (.seq (.region r50_27 [(3, 5), (3, 7), (3, 8)] (some ⟨[1, 4, 34], true, [], []⟩)) (.cond (.tmp 34) (.seq (.region r50_30 [] (some ⟨[2, 3], true, [], []⟩)) .ret) .skip)))) (.region r50_31 [] (some ⟨[1, 4], true, [], []⟩))))
noncomputable def c50_0_13 : MCode := c50_0_13g 
theorem g50_0_13 : c50_0_13.Good Try.prog E50_0 sh50 := ⟨⟨trivial, ⟨trivial, trivial⟩⟩, ⟨⟨⟨trivial, ⟨⟨trivial, trivial⟩, trivial⟩⟩, ⟨trivial, ⟨⟨trivial, trivial⟩, trivial⟩⟩⟩, trivial⟩⟩
--CODE 13 0
def S50_0_0g (vf107_0 : Tf107_0) (vf108_0 : Tf108_0) (α : Type) (x4 : Rows) (x3 : Int) (kn : Int → Option α) (k1 : Int → Int → Option α) (k2 : Int → Bool → Option α) : Option α :=
 cK (decide (x3 < ((List.length x4 : Nat) : Int)))
 (rowK x4 x3 [.str]
 (fun (x7 : ByteArray) => vf107_0 α x7
 (fun (x8 : Bool) => cK (!x8)
 (k1 x3 3)
 (gK (decide ((0 : Int) ≤ 0 ∧ 0 ≤ x3 ∧ x3 ≤ ((List.length x4 : Nat) : Int) ∧ allLen 1 x4 = true)) (rowK x4 x3 [.str]
 (fun (x9 : ByteArray) => vf108_0 α (List.drop 0 (List.take (Int.toNat x3) x4)) x9
 (fun (x10 : Bool) => cK x10
 (k1 x3 5)
 (kn (w64 (x3 + 1))))))))))
 (k2 x3 (decide (x3 < ((List.length x4 : Nat) : Int))))
noncomputable def S50_0_0 (α : Type) (x4 : Rows) (x3 : Int) (kn : Int → Option α) (k1 : Int → Int → Option α) (k2 : Int → Bool → Option α) : Option α := S50_0_0g f107_0 f108_0 α x4 x3 kn k1 k2
noncomputable def R50_0_0 (α : Type) (x4 : Rows) (k1 : Int → Int → Option α) (k2 : Int → Bool → Option α) : Nat → Int → Option α
 | 0, _ => none
 | n + 1, x3 => S50_0_0 α x4 x3 (R50_0_0 α x4 k1 k2 n) k1 k2
noncomputable def L50_0_0 (α : Type) (x4 : Rows) (k1 : Int → Int → Option α) (k2 : Int → Bool → Option α) (x3 : Int) : Option α := R50_0_0 α x4 k1 k2 fuel x3
abbrev TL50_0_0 : Type 1 := (α : Type) → Rows → (Int → Int → Option α) → (Int → Bool → Option α) → Int → Option α
def F50_0_0 (v : TL50_0_0) (α : Type) (K : Exit → St → Option α) : Int → Rows → Rows → Option α := fun x3 x4 x5 => v α x4 (fun (y1 : Int) (y2 : Int) => u50_0_1 (K .ret) y1 y2) (fun (y1 : Int) (y2 : Bool) => u50_0_2 (K (.exit 0)) y1 y2 x4 x5) x3
theorem r50_0_0g (vf107_0 : Tf107_0) (vf108_0 : Tf108_0) (vf19_0 : Tf19_0)  (α : Type) (K : Exit → St → Option α) (Kn : St → Option α) (x3 : Int) (x4 : Rows) (x5 : Rows) : u50_0_0 (fun σ => runM Try.prog (E50_0g vf107_0 vf108_0 vf19_0) sh50 (c50_0_13g ) (thenK (fun σ => tidyK td50_13 σ Kn) K) σ) x3 x4 x5 = S50_0_0g vf107_0 vf108_0 α x4 x3 (fun x3 => u50_0_0 Kn x3 x4 x5) (fun (y1 : Int) (y2 : Int) => u50_0_1 (K .ret) y1 y2) (fun (y1 : Int) (y2 : Bool) => u50_0_2 (K (.exit 0)) y1 y2 x4 x5) := by kernel_rfl
theorem r50_0_0 (α : Type) (K : Exit → St → Option α) (Kn : St → Option α) (x3 : Int) (x4 : Rows) (x5 : Rows) : u50_0_0 (fun σ => runM Try.prog E50_0 sh50 c50_0_13 (thenK (fun σ => tidyK td50_13 σ Kn) K) σ) x3 x4 x5 = S50_0_0 α x4 x3 (fun x3 => u50_0_0 Kn x3 x4 x5) (fun (y1 : Int) (y2 : Int) => u50_0_1 (K .ret) y1 y2) (fun (y1 : Int) (y2 : Bool) => u50_0_2 (K (.exit 0)) y1 y2 x4 x5) := r50_0_0g f107_0 f108_0 f19_0 α K Kn x3 x4 x5
theorem t50_0_0 (α : Type) (K : Exit → St → Option α) : ∀ (n : Nat) (x3 : Int) (x4 : Rows) (x5 : Rows), R50_0_0 α x4 (fun (y1 : Int) (y2 : Int) => u50_0_1 (K .ret) y1 y2) (fun (y1 : Int) (y2 : Bool) => u50_0_2 (K (.exit 0)) y1 y2 x4 x5) n x3 = u50_0_0 (loopT (runM Try.prog E50_0 sh50 c50_0_13) td50_13 K n) x3 x4 x5 := by
 intro n
 induction n with
 | zero => intros; rfl
 | succ n ih => intro x3 x4 x5; exact (congrArg (fun kn => S50_0_0 α x4 x3 kn (fun (y1 : Int) (y2 : Int) => u50_0_1 (K .ret) y1 y2) (fun (y1 : Int) (y2 : Bool) => u50_0_2 (K (.exit 0)) y1 y2 x4 x5)) (funext fun x3 => ih x3 x4 x5)).trans (r50_0_0 α K (loopT (runM Try.prog E50_0 sh50 c50_0_13) td50_13 K n) x3 x4 x5).symm
theorem m50_0_0 : ∀ (α : Type) (K : Exit → St → Option α), F50_0_0 L50_0_0 α K = p50_0_0.unc fun σ => loopT (runM Try.prog E50_0 sh50 c50_0_13) td50_13 K fuel σ := fun α K => funext fun x3 => funext fun x4 => funext fun x5 => t50_0_0 α K fuel x3 x4 x5

/-- etalon/etalonref08.CheckChamber -/
abbrev Tf50_0 : Type 1 := (α : Type) → Rows → Rows → (Int → Int → Option α) → Option α
def f50_0g (vL50_0_0 : TL50_0_0) (vL50_0_1 : TL50_0_1) (α : Type) (x1 : Rows) (x2 : Rows) (k1 : Int → Int → Option α) : Option α :=
 cK (decide (8 < ((List.length x1 : Nat) : Int)))
 (k1 0 8)
 (vL50_0_0 α x1
 (fun (x11 : Int) (x12 : Int) => k1 x11 x12)
 (fun (x13 : Int) (x14 : Bool) => cK (decide (30 < ((List.length x2 : Nat) : Int)))
 (k1 0 8)
 (vL50_0_1 α x1 x2
 (fun (x30 : Int) => k1 x30 6)
 (fun (x31 : Int) (x32 : Bool) => k1 0 0) 0)) 0)
noncomputable def f50_0 (α : Type) (x1 : Rows) (x2 : Rows) (k1 : Int → Int → Option α) : Option α := f50_0g L50_0_0 L50_0_1 α x1 x2 k1
def pa50_0 : PT (List DV) := pA [pV true [dL, dL]]
def Fn50_0 (v : Tf50_0) (α : Type) (k : List RV → Option α) : Rows → Rows → Option α := fun x1 x2 => v α x1 x2 (fun (y1 : Int) (y2 : Int) => ur50_0_0 k y1 y2)
noncomputable def cm50_0g (vL50_0_0 : TL50_0_0) (vL50_0_1 : TL50_0_1) : MCode := (.seq (.region r50_2 [] (some ⟨[1], true, [], []⟩)) (.seq (.seq (.region r50_5 [] (some ⟨[1, 9], true, [], []⟩)) (.cond (.tmp 9) (.seq (.region r50_8 [] (some ⟨[2, 3], true, [], []⟩)) .ret) .skip)) (.seq (.seq (.region r50_11 [] (some ⟨[1, 4], true, [], []⟩)) (.block 0 (.loop td50_13 [⟨p50_0_0, F50_0_0 vL50_0_0⟩] c50_0_13))) (.seq (.seq (.region r50_34 [] (some ⟨[1, 39], true, [], []⟩)) (.cond (.tmp 39) (.seq (.region r50_37 [] (some ⟨[2, 3], true, [], []⟩)) .ret) .skip)) (.seq (.seq (.region r50_40 [] (some ⟨[1, 5], true, [], []⟩)) (.block 2 (.loop td50_42 [⟨p50_0_3, F50_0_1 vL50_0_1⟩] c50_0_42))) (.seq (.region r50_56 [] (some ⟨[2, 3], true, [], []⟩)) .ret))))))
noncomputable def cm50_0 : MCode := cm50_0g L50_0_0 L50_0_1
theorem gm50_0 : cm50_0.Good Try.prog E50_0 sh50 := ⟨trivial, ⟨⟨trivial, ⟨⟨trivial, trivial⟩, trivial⟩⟩, ⟨⟨trivial, ⟨g50_0_13, m50_0_0, trivial⟩⟩, ⟨⟨trivial, ⟨⟨trivial, trivial⟩, trivial⟩⟩, ⟨⟨trivial, ⟨g50_0_42, m50_0_1, trivial⟩⟩, ⟨trivial, trivial⟩⟩⟩⟩⟩⟩
theorem fm50_0g (vf107_0 : Tf107_0) (vf108_0 : Tf108_0) (vf19_0 : Tf19_0) (vL50_0_0 : TL50_0_0) (vL50_0_1 : TL50_0_1) (α : Type) (k : List RV → Option α) : Fn50_0 (f50_0g vL50_0_0 vL50_0_1) α k = pa50_0.unc fun ds => fnM Try.prog (E50_0g vf107_0 vf108_0 vf19_0) sh50 (cm50_0g vL50_0_0 vL50_0_1) rs50 k ds := by kernel_rfl
theorem fm50_0 : ∀ (α : Type) (k : List RV → Option α), Fn50_0 f50_0 α k = pa50_0.unc fun ds => fnM Try.prog E50_0 sh50 cm50_0 rs50 k ds := fm50_0g f107_0 f108_0 f19_0 L50_0_0 L50_0_1

theorem is50 : FnIs Try.prog 50 nt50 tr50 tl50 cm50_0.erase rs50 := ⟨Try.f50, Try.func50, rfl, by kernel_rfl, by kernel_rfl, by kernel_rfl⟩
theorem io50_0 : InstOk Try.prog 50 nt50 ⟨pa50_0, Fn50_0 f50_0⟩ := inst_ok eo50_0 followsTry is50 ⟨⟨sh50, cm50_0, by kernel_rfl, gm50_0, fm50_0⟩⟩

/-! ### F141 math/bits.Mul -/
abbrev nt141 : Nat := 30
def sh141 : List (Nat × List Sh) := []
def r141_2 : List AOper := [oO 4 (.mv (.const (.int .u64 0))), oO 5 (.mv (.const (.int .u64 0)))]
def r141_6 : List AOper := [oM 11 0, oO 12 (.pure (oB (.convert 207 211 (.tmp 11)) 211)), oM 13 1, oO 14 (.pure (oB (.convert 207 211 (.tmp 13)) 211)), oO 15 (.call 142 [(.tmp 12), (.tmp 14)]), oM 10 15, oO 16 (.extract 0 (.tmp 10)), oO 17 (.extract 1 (.tmp 10)), oM 6 16, oM 7 17]
def r141_8 : List AOper := [oM 18 6, oO 19 (.pure (oB (.convert 211 207 (.tmp 18)) 207)), oM 20 7, oO 21 (.pure (oB (.convert 211 207 (.tmp 20)) 207)), oM 4 19, oM 5 21]
def r141_10 : List AOper := [oM 23 0, oM 24 1, oO 25 (.call 143 [(.tmp 23), (.tmp 24)]), oM 22 25, oO 26 (.extract 0 (.tmp 22)), oO 27 (.extract 1 (.tmp 22)), oM 8 26, oM 9 27]
def r141_12 : List AOper := [oM 28 8, oM 29 9, oM 4 28, oM 5 29]
def tr141 : List (Nat × Tidy) := [(0, ⟨[0, 1], true, [], []⟩), (1, ⟨[6, 7], true, [], []⟩), (2, ⟨[4, 5], true, [], []⟩), (3, ⟨[8, 9], true, [], []⟩), (4, ⟨[4, 5], true, [], []⟩)]
def tl141 : List (Nat × Tidy) := []
def rs141 : List AResV := [.tmp 4, .tmp 5]
def pr141_0_0 : PT (List RV) := pRs [pR false [rD (dI .u64)], pR false [rD (dI .u64)]]
def ur141_0_0 {β : Type} (g : List RV → β) : Int → Int → β := pr141_0_0.unc g

def E141_0g (vf143_0 : Tf143_0) : EnvK := EnvK.of [⟨143, nt143, [⟨pa143_0, Fn143_0 vf143_0⟩]⟩] noSeq
noncomputable def E141_0 : EnvK := E141_0g f143_0
theorem eo141_0 : E141_0.Ok Try.prog := EnvK.of_ok noSeq_ok ⟨⟨io143_0, trivial⟩, trivial⟩

/-- math/bits.Mul -/
abbrev Tf141_0 : Type 1 := (α : Type) → Int → Int → (Int → Int → Option α) → Option α
def f141_0g (vf143_0 : Tf143_0) (α : Type) (x1 : Int) (x2 : Int) (k1 : Int → Int → Option α) : Option α :=
 vf143_0 α x1 x2
 (fun (x3 : Int) (x4 : Int) => k1 x3 x4)
noncomputable def f141_0 (α : Type) (x1 : Int) (x2 : Int) (k1 : Int → Int → Option α) : Option α := f141_0g f143_0 α x1 x2 k1
def pa141_0 : PT (List DV) := pA [pV false [(dI .u64)], pV false [(dI .u64)]]
def Fn141_0 (v : Tf141_0) (α : Type) (k : List RV → Option α) : Int → Int → Option α := fun x1 x2 => v α x1 x2 (fun (y1 : Int) (y2 : Int) => ur141_0_0 k y1 y2)
noncomputable def cm141_0g  : MCode := (.seq (.region r141_2 [] (some ⟨[0, 1], true, [], []⟩)) (.seq (.cond (.const (.bool false)) (.seq (.region r141_6 [] (some ⟨[6, 7], true, [], []⟩)) (.seq (.region r141_8 [] (some ⟨[4, 5], true, [], []⟩)) .ret)) .skip) (.seq (.region r141_10 [] (some ⟨[8, 9], true, [], []⟩)) (.seq (.region r141_12 [] (some ⟨[4, 5], true, [], []⟩)) .ret))))
noncomputable def cm141_0 : MCode := cm141_0g 
theorem gm141_0 : cm141_0.Good Try.prog E141_0 sh141 := ⟨trivial, ⟨⟨⟨trivial, ⟨trivial, trivial⟩⟩, trivial⟩, ⟨trivial, ⟨trivial, trivial⟩⟩⟩⟩
theorem fm141_0g (vf143_0 : Tf143_0)  (α : Type) (k : List RV → Option α) : Fn141_0 (f141_0g vf143_0) α k = pa141_0.unc fun ds => fnM Try.prog (E141_0g vf143_0) sh141 (cm141_0g ) rs141 k ds := by kernel_rfl
theorem fm141_0 : ∀ (α : Type) (k : List RV → Option α), Fn141_0 f141_0 α k = pa141_0.unc fun ds => fnM Try.prog E141_0 sh141 cm141_0 rs141 k ds := fm141_0g f143_0

theorem is141 : FnIs Try.prog 141 nt141 tr141 tl141 cm141_0.erase rs141 := ⟨Try.f141, Try.func141, rfl, by kernel_rfl, by kernel_rfl, by kernel_rfl⟩
theorem io141_0 : InstOk Try.prog 141 nt141 ⟨pa141_0, Fn141_0 f141_0⟩ := inst_ok eo141_0 followsTry is141 ⟨⟨sh141, cm141_0, by kernel_rfl, gm141_0, fm141_0⟩⟩

/-! ### F128 (etalon/grow.chamber).broken$1 -/
abbrev nt128 : Nat := 20
def sh128 : List (Nat × List Sh) := [(4, [.int .i64]), (6, [.int .i64]), (9, [.bool]), (12, [.int .i64]), (14, [.int .i64]), (17, [.bool])]
def r128_2 : List AOper := [oO 2 (.box (.tmp 0)), oO 3 (.mv (.const (.bool false)))]
def r128_4 : List AOper := [oO 4 (.load false 1 (.tmp 1)), oO 5 (.faddr 0 (.tmp 2)), oO 6 (.load false 1 (.tmp 5)), oO 7 (.call 129 [(.tmp 4), (.tmp 6)]), oO 8 (.faddr 1 (.tmp 2)), oO 9 (.load false 1 (.tmp 8)), oO 10 (.bin .eql 4 (.tmp 7) (.tmp 9)), oM 11 10, ⟨(some 12), (.load false 1 (.tmp 1)), (some (11, true))⟩, ⟨(some 13), (.faddr 2 (.tmp 2)), (some (11, true))⟩, ⟨(some 14), (.load false 1 (.tmp 13)), (some (11, true))⟩, ⟨(some 15), (.call 129 [(.tmp 12), (.tmp 14)]), (some (11, true))⟩, ⟨(some 16), (.faddr 3 (.tmp 2)), (some (11, true))⟩, ⟨(some 17), (.load false 1 (.tmp 16)), (some (11, true))⟩, ⟨(some 18), (.bin .neq 4 (.tmp 15) (.tmp 17)), (some (11, true))⟩, oO 19 (.pick (.tmp 11) (.tmp 18) (.const (.bool false))), oM 3 19]
def tr128 : List (Nat × Tidy) := [(0, ⟨[1, 2], true, [], []⟩), (1, ⟨[3], true, [], []⟩)]
def tl128 : List (Nat × Tidy) := []
def rs128 : List AResV := [.tmp 3]
def pr128_0_0 : PT (List RV) := pRs [pR false [rD dB]]
def ur128_0_0 {β : Type} (g : List RV → β) : Bool → β := pr128_0_0.unc g

def E128_0g (vf129_0 : Tf129_0) : EnvK := EnvK.of [⟨129, nt129, [⟨pa129_0, Fn129_0 vf129_0⟩]⟩] noSeq
noncomputable def E128_0 : EnvK := E128_0g f129_0
theorem eo128_0 : E128_0.Ok Try.prog := EnvK.of_ok noSeq_ok ⟨⟨io129_0, trivial⟩, trivial⟩

/-- (etalon/grow.chamber).broken$1 -/
abbrev Tf128_0 : Type 1 := (α : Type) → Int → Bool → Int → Bool → Int → (Bool → Option α) → Option α
def f128_0g (vf129_0 : Tf129_0) (α : Type) (x1 : Int) (x2 : Bool) (x3 : Int) (x4 : Bool) (x5 : Int) (k1 : Bool → Option α) : Option α :=
 vf129_0 α x5 x1
 (fun (x6 : Bool) => cK (x6 == x2)
 (vf129_0 α x5 x3
 (fun (x7 : Bool) => k1 (!(x7 == x4))))
 (k1 false))
noncomputable def f128_0 (α : Type) (x1 : Int) (x2 : Bool) (x3 : Int) (x4 : Bool) (x5 : Int) (k1 : Bool → Option α) : Option α := f128_0g f129_0 α x1 x2 x3 x4 x5 k1
def pa128_0 : PT (List DV) := pA [pV true [(dI .i64), dB, (dI .i64), dB], pV false [(dP [(dI .i64)] 0)]]
def Fn128_0 (v : Tf128_0) (α : Type) (k : List RV → Option α) : Int → Bool → Int → Bool → Int → Option α := fun x1 x2 x3 x4 x5 => v α x1 x2 x3 x4 x5 (fun (y1 : Bool) => ur128_0_0 k y1)
noncomputable def cm128_0g  : MCode := (.seq (.region r128_2 [] (some ⟨[1, 2], true, [], []⟩)) (.seq (.region r128_4 [(3, 5), (11, 13)] (some ⟨[3], true, [], []⟩)) .ret))
noncomputable def cm128_0 : MCode := cm128_0g 
theorem gm128_0 : cm128_0.Good Try.prog E128_0 sh128 := ⟨trivial, ⟨trivial, trivial⟩⟩
theorem fm128_0g (vf129_0 : Tf129_0)  (α : Type) (k : List RV → Option α) : Fn128_0 (f128_0g vf129_0) α k = pa128_0.unc fun ds => fnM Try.prog (E128_0g vf129_0) sh128 (cm128_0g ) rs128 k ds := by kernel_rfl
theorem fm128_0 : ∀ (α : Type) (k : List RV → Option α), Fn128_0 f128_0 α k = pa128_0.unc fun ds => fnM Try.prog E128_0 sh128 cm128_0 rs128 k ds := fm128_0g f129_0

theorem is128 : FnIs Try.prog 128 nt128 tr128 tl128 cm128_0.erase rs128 := ⟨Try.f128, Try.func128, rfl, by kernel_rfl, by kernel_rfl, by kernel_rfl⟩
theorem io128_0 : InstOk Try.prog 128 nt128 ⟨pa128_0, Fn128_0 f128_0⟩ := inst_ok eo128_0 followsTry is128 ⟨⟨sh128, cm128_0, by kernel_rfl, gm128_0, fm128_0⟩⟩

/-! ### F101 slices.Contains[[]string,string] -/
abbrev nt101 : Nat := 9
def sh101 : List (Nat × List Sh) := []
def r101_2 : List AOper := [oO 4 (.mv (.const (.bool false)))]
def r101_4 : List AOper := [oM 5 0, oM 6 1, oO 7 (.call 125 [(.tmp 5), (.tmp 6)]), oO 8 (.bin .geq 3 (.tmp 7) (.const (.int .i64 0))), oM 4 8]
def tr101 : List (Nat × Tidy) := [(0, ⟨[0, 1], true, [], []⟩), (1, ⟨[4], true, [], []⟩)]
def tl101 : List (Nat × Tidy) := []
def rs101 : List AResV := [.tmp 4]
def pr101_0_0 : PT (List RV) := pRs [pR false [rD dB]]
def ur101_0_0 {β : Type} (g : List RV → β) : Bool → β := pr101_0_0.unc g

def E101_0g (vf125_0 : Tf125_0) : EnvK := EnvK.of [⟨125, nt125, [⟨pa125_0, Fn125_0 vf125_0⟩]⟩] noSeq
noncomputable def E101_0 : EnvK := E101_0g f125_0
theorem eo101_0 : E101_0.Ok Try.prog := EnvK.of_ok noSeq_ok ⟨⟨io125_0, trivial⟩, trivial⟩

/-- slices.Contains[[]string,string] -/
abbrev Tf101_0 : Type 1 := (α : Type) → Rows → ByteArray → (Bool → Option α) → Option α
def f101_0g (vf125_0 : Tf125_0) (α : Type) (x1 : Rows) (x2 : ByteArray) (k1 : Bool → Option α) : Option α :=
 vf125_0 α x1 x2
 (fun (x3 : Int) => k1 (decide (0 ≤ x3)))
noncomputable def f101_0 (α : Type) (x1 : Rows) (x2 : ByteArray) (k1 : Bool → Option α) : Option α := f101_0g f125_0 α x1 x2 k1
def pa101_0 : PT (List DV) := pA [pV false [dL], pV false [dS]]
def Fn101_0 (v : Tf101_0) (α : Type) (k : List RV → Option α) : Rows → ByteArray → Option α := fun x1 x2 => v α x1 x2 (fun (y1 : Bool) => ur101_0_0 k y1)
noncomputable def cm101_0g  : MCode := (.seq (.region r101_2 [] (some ⟨[0, 1], true, [], []⟩)) (.seq (.region r101_4 [] (some ⟨[4], true, [], []⟩)) .ret))
noncomputable def cm101_0 : MCode := cm101_0g 
theorem gm101_0 : cm101_0.Good Try.prog E101_0 sh101 := ⟨trivial, ⟨trivial, trivial⟩⟩
theorem fm101_0g (vf125_0 : Tf125_0)  (α : Type) (k : List RV → Option α) : Fn101_0 (f101_0g vf125_0) α k = pa101_0.unc fun ds => fnM Try.prog (E101_0g vf125_0) sh101 (cm101_0g ) rs101 k ds := by kernel_rfl
theorem fm101_0 : ∀ (α : Type) (k : List RV → Option α), Fn101_0 f101_0 α k = pa101_0.unc fun ds => fnM Try.prog E101_0 sh101 cm101_0 rs101 k ds := fm101_0g f125_0

theorem is101 : FnIs Try.prog 101 nt101 tr101 tl101 cm101_0.erase rs101 := ⟨Try.f101, Try.func101, rfl, by kernel_rfl, by kernel_rfl, by kernel_rfl⟩
theorem io101_0 : InstOk Try.prog 101 nt101 ⟨pa101_0, Fn101_0 f101_0⟩ := inst_ok eo101_0 followsTry is101 ⟨⟨sh101, cm101_0, by kernel_rfl, gm101_0, fm101_0⟩⟩

/-! ### F56 etalon/etalonref08.CopyChange -/
abbrev nt56 : Nat := 10
def sh56 : List (Nat × List Sh) := [(4, [.sl]), (7, [.sl])]
def r56_2 : List AOper := [oO 1 (.box (.tmp 0)), oO 2 (.alloc [.nils, .nils])]
def r56_4 : List AOper := [oO 3 (.faddr 0 (.tmp 1)), oO 4 (.load false 1 (.tmp 3)), oO 5 (.call 48 [(.tmp 4)]), oO 6 (.faddr 1 (.tmp 1)), oO 7 (.load false 1 (.tmp 6)), oO 8 (.call 48 [(.tmp 7)]), oO 9 (.build [.nils, .nils] [(0, 1, (.tmp 5)), (1, 1, (.tmp 8))]), ⟨none, (.store 2 (.tmp 2) (.tmp 9)), none⟩]
def tr56 : List (Nat × Tidy) := [(0, ⟨[1, 2], true, [⟨true, 2, 0, 30200, 1⟩, ⟨true, 2, 1, 30201, 1⟩], []⟩), (1, ⟨[2], true, [⟨true, 2, 0, 30200, 1⟩, ⟨true, 2, 1, 30201, 1⟩], []⟩)]
def tl56 : List (Nat × Tidy) := []
def rs56 : List AResV := [.cell 2 true 2]
def pr56_0_0 : PT (List RV) := pRs [pR true [rO 1, rO 1]]
def ur56_0_0 {β : Type} (g : List RV → β) : Rows → Rows → β := pr56_0_0.unc g

def E56_0g (vf48_0 : Tf48_0) : EnvK := EnvK.of [⟨48, nt48, [⟨pa48_0, Fn48_0 vf48_0⟩]⟩] noSeq
noncomputable def E56_0 : EnvK := E56_0g f48_0
theorem eo56_0 : E56_0.Ok Try.prog := EnvK.of_ok noSeq_ok ⟨⟨io48_0, trivial⟩, trivial⟩

/-- etalon/etalonref08.CopyChange -/
abbrev Tf56_0 : Type 1 := (α : Type) → Rows → Rows → (Rows → Rows → Option α) → Option α
def f56_0g (vf48_0 : Tf48_0) (α : Type) (x1 : Rows) (x2 : Rows) (k1 : Rows → Rows → Option α) : Option α :=
 vf48_0 α x1
 (fun (x3 : Rows) => vf48_0 α x2
 (fun (x4 : Rows) => k1 x3 x4))
noncomputable def f56_0 (α : Type) (x1 : Rows) (x2 : Rows) (k1 : Rows → Rows → Option α) : Option α := f56_0g f48_0 α x1 x2 k1
def pa56_0 : PT (List DV) := pA [pV true [dL, dL]]
def Fn56_0 (v : Tf56_0) (α : Type) (k : List RV → Option α) : Rows → Rows → Option α := fun x1 x2 => v α x1 x2 (fun (y1 : Rows) (y2 : Rows) => ur56_0_0 k y1 y2)
noncomputable def cm56_0g  : MCode := (.seq (.region r56_2 [] (some ⟨[1, 2], true, [⟨true, 2, 0, 30200, 1⟩, ⟨true, 2, 1, 30201, 1⟩], []⟩)) (.seq (.region r56_4 [(2, 4)] (some ⟨[2], true, [⟨true, 2, 0, 30200, 1⟩, ⟨true, 2, 1, 30201, 1⟩], []⟩)) .ret))
noncomputable def cm56_0 : MCode := cm56_0g 
theorem gm56_0 : cm56_0.Good Try.prog E56_0 sh56 := ⟨trivial, ⟨trivial, trivial⟩⟩
theorem fm56_0g (vf48_0 : Tf48_0)  (α : Type) (k : List RV → Option α) : Fn56_0 (f56_0g vf48_0) α k = pa56_0.unc fun ds => fnM Try.prog (E56_0g vf48_0) sh56 (cm56_0g ) rs56 k ds := by kernel_rfl
theorem fm56_0 : ∀ (α : Type) (k : List RV → Option α), Fn56_0 f56_0 α k = pa56_0.unc fun ds => fnM Try.prog E56_0 sh56 cm56_0 rs56 k ds := fm56_0g f48_0

theorem is56 : FnIs Try.prog 56 nt56 tr56 tl56 cm56_0.erase rs56 := ⟨Try.f56, Try.func56, rfl, by kernel_rfl, by kernel_rfl, by kernel_rfl⟩
theorem io56_0 : InstOk Try.prog 56 nt56 ⟨pa56_0, Fn56_0 f56_0⟩ := inst_ok eo56_0 followsTry is56 ⟨⟨sh56, cm56_0, by kernel_rfl, gm56_0, fm56_0⟩⟩

/-! ### F46 etalon/etalonref08.CopyChamber -/
abbrev nt46 : Nat := 11
def sh46 : List (Nat × List Sh) := [(4, [.sl]), (8, [.sl])]
def r46_2 : List AOper := [oO 1 (.box (.tmp 0)), oO 2 (.alloc [.nils, .nils])]
def r46_4 : List AOper := [oO 3 (.faddr 0 (.tmp 1)), oO 4 (.load false 1 (.tmp 3)), oO 5 (.call 102 [(.tmp 4)]), oO 6 (.bslice 4 0 [(.v (.int .i64 0)), (.v (.bool false)), (.v (.int .i64 0)), (.v (.bool false))] []), oO 7 (.faddr 1 (.tmp 1)), oO 8 (.load false 1 (.tmp 7)), oO 9 (.append 4 32 (.tmp 6) (.tmp 8)), oO 10 (.build [.nils, .nils] [(0, 1, (.tmp 5)), (1, 1, (.tmp 9))]), ⟨none, (.store 2 (.tmp 2) (.tmp 10)), none⟩]
def tr46 : List (Nat × Tidy) := [(0, ⟨[1, 2], true, [⟨true, 2, 0, 30200, 1⟩, ⟨true, 2, 1, 30201, 4⟩], []⟩), (1, ⟨[2], true, [⟨true, 2, 0, 30200, 1⟩, ⟨true, 2, 1, 30201, 4⟩], []⟩)]
def tl46 : List (Nat × Tidy) := []
def rs46 : List AResV := [.cell 2 true 2]
def pr46_0_0 : PT (List RV) := pRs [pR true [rO 1, rO 4]]
def ur46_0_0 {β : Type} (g : List RV → β) : Rows → Rows → β := pr46_0_0.unc g

def E46_0g (vf102_0 : Tf102_0) : EnvK := EnvK.of [⟨102, nt102, [⟨pa102_0, Fn102_0 vf102_0⟩]⟩] noSeq
noncomputable def E46_0 : EnvK := E46_0g f102_0
theorem eo46_0 : E46_0.Ok Try.prog := EnvK.of_ok noSeq_ok ⟨⟨io102_0, trivial⟩, trivial⟩

/-- etalon/etalonref08.CopyChamber -/
abbrev Tf46_0 : Type 1 := (α : Type) → Rows → Rows → (Rows → Rows → Option α) → Option α
def f46_0g (vf102_0 : Tf102_0) (α : Type) (x1 : Rows) (x2 : Rows) (k1 : Rows → Rows → Option α) : Option α :=
 vf102_0 α x1
 (fun (x3 : Rows) => gK (apOk 4 32 ([] : Rows) x2) (k1 x3 (([] : Rows) ++ x2)))
noncomputable def f46_0 (α : Type) (x1 : Rows) (x2 : Rows) (k1 : Rows → Rows → Option α) : Option α := f46_0g f102_0 α x1 x2 k1
def pa46_0 : PT (List DV) := pA [pV true [dL, dL]]
def Fn46_0 (v : Tf46_0) (α : Type) (k : List RV → Option α) : Rows → Rows → Option α := fun x1 x2 => v α x1 x2 (fun (y1 : Rows) (y2 : Rows) => ur46_0_0 k y1 y2)
noncomputable def cm46_0g  : MCode := (.seq (.region r46_2 [] (some ⟨[1, 2], true, [⟨true, 2, 0, 30200, 1⟩, ⟨true, 2, 1, 30201, 4⟩], []⟩)) (.seq (.region r46_4 [(1, 3), (2, 3), (2, 5), (3, 5)] (some ⟨[2], true, [⟨true, 2, 0, 30200, 1⟩, ⟨true, 2, 1, 30201, 4⟩], []⟩)) .ret))
noncomputable def cm46_0 : MCode := cm46_0g 
theorem gm46_0 : cm46_0.Good Try.prog E46_0 sh46 := ⟨trivial, ⟨trivial, trivial⟩⟩
theorem fm46_0g (vf102_0 : Tf102_0)  (α : Type) (k : List RV → Option α) : Fn46_0 (f46_0g vf102_0) α k = pa46_0.unc fun ds => fnM Try.prog (E46_0g vf102_0) sh46 (cm46_0g ) rs46 k ds := by kernel_rfl
theorem fm46_0 : ∀ (α : Type) (k : List RV → Option α), Fn46_0 f46_0 α k = pa46_0.unc fun ds => fnM Try.prog E46_0 sh46 cm46_0 rs46 k ds := fm46_0g f102_0

theorem is46 : FnIs Try.prog 46 nt46 tr46 tl46 cm46_0.erase rs46 := ⟨Try.f46, Try.func46, rfl, by kernel_rfl, by kernel_rfl, by kernel_rfl⟩
theorem io46_0 : InstOk Try.prog 46 nt46 ⟨pa46_0, Fn46_0 f46_0⟩ := inst_ok eo46_0 followsTry is46 ⟨⟨sh46, cm46_0, by kernel_rfl, gm46_0, fm46_0⟩⟩

/-! ### F58 etalon/etalonref08.Sequence -/
abbrev nt58 : Nat := 53
def sh58 : List (Nat × List Sh) := [(12, [.sl, .sl]), (14, [.sl]), (17, [.sl]), (21, [.int .i64]), (22, [.int .i64]), (29, [.sl]), (40, [.int .i64]), (41, [.int .i64])]
def r58_2 : List AOper := [oO 2 (.box (.tmp 0)), oO 3 (.box (.tmp 1)), oO 4 (.mv (.const (.slice none 0 0))), oO 5 (.mv (.const (.bool false)))]
def r58_4 : List AOper := [oO 12 (.load true 2 (.tmp 2)), oO 13 (.faddr 1 (.tmp 3)), oO 14 (.load false 1 (.tmp 13)), oO 15 (.call 113 [(.tmp 12), (.tmp 14)]), oM 6 15]
def r58_6 : List AOper := [oO 16 (.faddr 0 (.tmp 3)), oO 17 (.load false 1 (.tmp 16)), oM 7 17]
def r58_8 : List AOper := [oM 18 6, oM 19 7, oO 20 (.call 114 [(.tmp 19)]), oO 21 (.iaddr 1 none (.tmp 18) (.tmp 20)), oO 22 (.load false 1 (.tmp 21)), oM 8 22]
def r58_11 : List AOper := [oM 23 8, oO 24 (.bin .eql 3 (.tmp 23) (.const (.int .i64 1000)))]
def r58_14 : List AOper := [oO 4 (.mv (.const (.slice none 0 0))), oO 5 (.mv (.const (.bool false)))]
def r58_16 : List AOper := [oO 9 (.mv (.const (.slice none 0 0)))]
def td58_19 : Option Tidy := (some ⟨[2, 6, 7, 8, 9], true, [⟨false, 6, 0, 20006, 1⟩, ⟨false, 9, 0, 20009, 1⟩, ⟨true, 2, 0, 30200, 1⟩, ⟨true, 2, 1, 30201, 4⟩, ⟨true, 3, 0, 30300, 1⟩, ⟨true, 3, 1, 30301, 1⟩], [7]⟩)
def r58_22 : List AOper := [oM 25 8, oO 26 (.bin .gtr 3 (.tmp 25) (.const (.int .i64 0)))]
def r58_27 : List AOper := [oO 10 (.mv (.const (.int .i64 0)))]
def td58_29 : Option Tidy := (some ⟨[2, 6, 7, 8, 9, 10], true, [⟨false, 6, 0, 20006, 1⟩, ⟨false, 9, 0, 20009, 1⟩, ⟨true, 2, 0, 30200, 1⟩, ⟨true, 2, 1, 30201, 4⟩, ⟨true, 3, 0, 30300, 1⟩, ⟨true, 3, 1, 30301, 1⟩], [7]⟩)
def r58_32 : List AOper := [oM 27 10, oO 28 (.faddr 0 (.tmp 2)), oO 29 (.load false 1 (.tmp 28)), oO 30 (.len (.tmp 29)), oO 31 (.bin .lss 3 (.tmp 27) (.tmp 30))]
def r58_37 : List AOper := [oM 34 7, oM 35 10, oO 36 (.call 53 [(.tmp 34), (.tmp 35)]), oM 11 36]
def r58_39 : List AOper := [oM 37 6, oM 38 11, oO 39 (.call 114 [(.tmp 38)]), oO 40 (.iaddr 1 none (.tmp 37) (.tmp 39)), oO 41 (.load false 1 (.tmp 40)), oM 42 8, oO 43 (.bin .sub 3 (.tmp 42) (.const (.int .i64 1))), oO 44 (.bin .eql 3 (.tmp 41) (.tmp 43))]
def r58_42 : List AOper := [oM 45 9, oM 46 10, oO 47 (.bslice 1 1 [(.v (.int .i64 0))] [(0, (.tmp 46))]), oO 48 (.append 1 8 (.tmp 45) (.tmp 47)), oM 49 11, oM 9 48, oM 7 49]
def r58_43 : List AOper := [oM 32 10, oO 33 (.bin .add 3 (.tmp 32) (.const (.int .i64 1))), oM 10 33]
def r58_44 : List AOper := [oM 50 8, oO 51 (.bin .sub 3 (.tmp 50) (.const (.int .i64 1))), oM 8 51]
def r58_46 : List AOper := [oM 52 9, oM 4 52, oO 5 (.mv (.const (.bool true)))]
def tr58 : List (Nat × Tidy) := [(0, ⟨[2, 3], true, [], []⟩), (1, ⟨[2, 3, 6], true, [], []⟩), (2, ⟨[2, 6, 7], true, [], [7]⟩), (3, ⟨[2, 6, 7, 8], true, [], [7]⟩), (4, ⟨[2, 6, 7, 8, 24], true, [], [7]⟩), (5, ⟨[4, 5], true, [⟨false, 4, 0, 20004, 1⟩], []⟩), (6, ⟨[2, 6, 7, 8, 9], true, [], [7]⟩), (7, ⟨[2, 6, 7, 8, 9, 26], true, [], [7]⟩), (8, ⟨[2, 6, 7, 8, 9, 10], true, [], [7]⟩), (9, ⟨[2, 6, 7, 8, 9, 10, 31], true, [], [7]⟩), (11, ⟨[2, 6, 7, 8, 9, 10, 11], true, [], [7]⟩), (12, ⟨[2, 6, 7, 8, 9, 10, 11, 44], true, [], [7]⟩), (13, ⟨[2, 6, 7, 8, 9], true, [], [7]⟩), (10, ⟨[2, 6, 7, 8, 9, 10], true, [], [7]⟩), (14, ⟨[2, 6, 7, 8, 9], true, [], [7]⟩), (15, ⟨[4, 5], true, [⟨false, 4, 0, 20004, 1⟩], []⟩)]
def tl58 : List (Nat × Tidy) := [(7, ⟨[2, 6, 7, 8, 9], true, [⟨false, 6, 0, 20006, 1⟩, ⟨false, 9, 0, 20009, 1⟩, ⟨true, 2, 0, 30200, 1⟩, ⟨true, 2, 1, 30201, 4⟩, ⟨true, 3, 0, 30300, 1⟩, ⟨true, 3, 1, 30301, 1⟩], [7]⟩), (9, ⟨[2, 6, 7, 8, 9, 10], true, [⟨false, 6, 0, 20006, 1⟩, ⟨false, 9, 0, 20009, 1⟩, ⟨true, 2, 0, 30200, 1⟩, ⟨true, 2, 1, 30201, 4⟩, ⟨true, 3, 0, 30300, 1⟩, ⟨true, 3, 1, 30301, 1⟩], [7]⟩)]
def rs58 : List AResV := [.tmp 4, .tmp 5]
def p58_0_0 : PT St := pS [sl 2 (aV false [(cPtr 2 0)]), sl 6 (aV false [(cRef 20006)]), sl 7 (aV false [(cD dL)]), sl 8 (aV false [(cD (dI .i64))]), sl 9 (aV false [(cRef 20009)]), sl 10 (aV false [(cD (dI .i64))])] [eBox 2 [(cD dL), (cD dL)], eOwn 20006 1, eOwn 20009 1]
def u58_0_0 {β : Type} (g : St → β) : Rows → Int → Int → Rows → Rows → Rows → Rows → β := p58_0_0.unc g

def p58_0_1 : PT St := pS [sl 2 (aV false [(cPtr 2 0)]), sl 6 (aV false [(cRef 20006)]), sl 7 (aV false [(cD dL)]), sl 8 (aV false [(cD (dI .i64))]), sl 9 (aV false [(cRef 48)])] [eBox 2 [(cD dL), (cD dL)], eOwn 20006 1, eOwn 48 1]
def u58_0_1 {β : Type} (g : St → β) : Rows → Int → Rows → Rows → Rows → Rows → β := p58_0_1.unc g

def p58_0_2 : PT St := pS [sl 2 (aV false [(cPtr 2 0)]), sl 6 (aV false [(cRef 20006)]), sl 7 (aV false [(cD dL)]), sl 8 (aV false [(cD (dI .i64))]), sl 9 (aV false [(cRef 20009)]), sl 10 (aV false [(cD (dI .i64))]), sl 31 (aV false [(cD dB)])] [eBox 2 [(cD dL), (cD dL)], eOwn 20006 1, eOwn 20009 1]
def u58_0_2 {β : Type} (g : St → β) : Rows → Int → Int → Bool → Rows → Rows → Rows → Rows → β := p58_0_2.unc g

def p58_0_3 : PT St := pS [sl 2 (aV false [(cPtr 2 0)]), sl 6 (aV false [(cRef 20006)]), sl 7 (aV false [(cD dL)]), sl 8 (aV false [(cD (dI .i64))]), sl 9 (aV false [(cRef 20009)])] [eBox 2 [(cD dL), (cD dL)], eOwn 20006 1, eOwn 20009 1]
def u58_0_3 {β : Type} (g : St → β) : Rows → Int → Rows → Rows → Rows → Rows → β := p58_0_3.unc g

def p58_0_4 : PT St := pS [sl 2 (aV false [(cPtr 2 0)]), sl 6 (aV false [(cRef 20006)]), sl 7 (aV false [(cD dL)]), sl 8 (aV false [(cD (dI .i64))]), sl 9 (aV false [(cRef 20009)]), sl 26 (aV false [(cD dB)])] [eBox 2 [(cD dL), (cD dL)], eOwn 20006 1, eOwn 20009 1]
def u58_0_4 {β : Type} (g : St → β) : Rows → Int → Bool → Rows → Rows → Rows → Rows → β := p58_0_4.unc g

def pr58_0_0 : PT (List RV) := pRs [pR false [rO 1], pR false [rD dB]]
def ur58_0_0 {β : Type} (g : List RV → β) : Rows → Bool → β := pr58_0_0.unc g

def E58_0g (vf113_0 : Tf113_0) (vf114_0 : Tf114_0) (vf53_0 : Tf53_0) : EnvK := EnvK.of [⟨113, nt113, [⟨pa113_0, Fn113_0 vf113_0⟩]⟩, ⟨114, nt114, [⟨pa114_0, Fn114_0 vf114_0⟩]⟩, ⟨53, nt53, [⟨pa53_0, Fn53_0 vf53_0⟩]⟩] noSeq
noncomputable def E58_0 : EnvK := E58_0g f113_0 f114_0 f53_0
theorem eo58_0 : E58_0.Ok Try.prog := EnvK.of_ok noSeq_ok ⟨⟨io113_0, trivial⟩, ⟨io114_0, trivial⟩, ⟨io53_0, trivial⟩, trivial⟩

noncomputable def c58_0_29g  : MCode := (.seq (.seq (.region r58_32 [] (some ⟨[2, 6, 7, 8, 9, 10, 31], true, [], [7]⟩)) (.cond (.tmp 31) .skip (.exit 2))) (.seq (.block 3 (.seq (.region r58_37 [] (some ⟨[2, 6, 7, 8, 9, 10, 11], true, [], [7]⟩)) (.seq (.region r58_39 [] (some ⟨[2, 6, 7, 8, 9, 10, 11, 44], true, [], [7]⟩)) (.cond (.tmp 44) (.seq (.region r58_42 [] (some ⟨[2, 6, 7, 8, 9], true, [], [7]⟩)) (.exit 2)) .skip)))) (.region r58_43 [] (some ⟨[2, 6, 7, 8, 9, 10], true, [], [7]⟩))))
noncomputable def c58_0_29 : MCode := c58_0_29g 
theorem g58_0_29 : c58_0_29.Good Try.prog E58_0 sh58 := ⟨⟨trivial, ⟨trivial, trivial⟩⟩, ⟨⟨trivial, ⟨trivial, ⟨⟨trivial, trivial⟩, trivial⟩⟩⟩, trivial⟩⟩
--CODE 29 0
def S58_0_0g (vf114_0 : Tf114_0) (vf53_0 : Tf53_0) (α : Type) (x15 : Rows) (x16 : Int) (x18 : Rows) (x20 : Rows) (x21 : Rows) (x17 : Int) (kn : Int → Option α) (k1 : Rows → Rows → Option α) (k2 : Int → Bool → Option α) : Option α :=
 cK (decide (x17 < ((List.length x18 : Nat) : Int)))
 (vf53_0 α x15 x17
 (fun (x23 : Rows) => vf114_0 α x23
 (fun (x24 : Int) => ixK x20 x24 1
 (ldK x20 (Int.toNat x24) 0 [.int .i64]
 (fun (x25 : Int) => cK (x25 == (w64 (x16 - 1)))
 (gK (apOk 1 8 x21 [[DC.v (.int .i64 x17)]]) (k1 x23 (x21 ++ [[DC.v (.int .i64 x17)]])))
 (kn (w64 (x17 + 1))))))))
 (k2 x17 (decide (x17 < ((List.length x18 : Nat) : Int))))
noncomputable def S58_0_0 (α : Type) (x15 : Rows) (x16 : Int) (x18 : Rows) (x20 : Rows) (x21 : Rows) (x17 : Int) (kn : Int → Option α) (k1 : Rows → Rows → Option α) (k2 : Int → Bool → Option α) : Option α := S58_0_0g f114_0 f53_0 α x15 x16 x18 x20 x21 x17 kn k1 k2
noncomputable def R58_0_0 (α : Type) (x15 : Rows) (x16 : Int) (x18 : Rows) (x20 : Rows) (x21 : Rows) (k1 : Rows → Rows → Option α) (k2 : Int → Bool → Option α) : Nat → Int → Option α
 | 0, _ => none
 | n + 1, x17 => S58_0_0 α x15 x16 x18 x20 x21 x17 (R58_0_0 α x15 x16 x18 x20 x21 k1 k2 n) k1 k2
noncomputable def L58_0_0 (α : Type) (x15 : Rows) (x16 : Int) (x18 : Rows) (x20 : Rows) (x21 : Rows) (k1 : Rows → Rows → Option α) (k2 : Int → Bool → Option α) (x17 : Int) : Option α := R58_0_0 α x15 x16 x18 x20 x21 k1 k2 fuel x17
abbrev TL58_0_0 : Type 1 := (α : Type) → Rows → Int → Rows → Rows → Rows → (Rows → Rows → Option α) → (Int → Bool → Option α) → Int → Option α
def F58_0_0 (v : TL58_0_0) (α : Type) (K : Exit → St → Option α) : Rows → Int → Int → Rows → Rows → Rows → Rows → Option α := fun x15 x16 x17 x18 x19 x20 x21 => v α x15 x16 x18 x20 x21 (fun (y1 : Rows) (y2 : Rows) => u58_0_1 (K (.exit 2)) y1 x16 x18 x19 x20 y2) (fun (y1 : Int) (y2 : Bool) => u58_0_2 (K (.exit 2)) x15 x16 y1 y2 x18 x19 x20 x21) x17
theorem r58_0_0g (vf113_0 : Tf113_0) (vf114_0 : Tf114_0) (vf53_0 : Tf53_0)  (α : Type) (K : Exit → St → Option α) (Kn : St → Option α) (x15 : Rows) (x16 : Int) (x17 : Int) (x18 : Rows) (x19 : Rows) (x20 : Rows) (x21 : Rows) : u58_0_0 (fun σ => runM Try.prog (E58_0g vf113_0 vf114_0 vf53_0) sh58 (c58_0_29g ) (thenK (fun σ => tidyK td58_29 σ Kn) K) σ) x15 x16 x17 x18 x19 x20 x21 = S58_0_0g vf114_0 vf53_0 α x15 x16 x18 x20 x21 x17 (fun x17 => u58_0_0 Kn x15 x16 x17 x18 x19 x20 x21) (fun (y1 : Rows) (y2 : Rows) => u58_0_1 (K (.exit 2)) y1 x16 x18 x19 x20 y2) (fun (y1 : Int) (y2 : Bool) => u58_0_2 (K (.exit 2)) x15 x16 y1 y2 x18 x19 x20 x21) := by kernel_rfl
theorem r58_0_0 (α : Type) (K : Exit → St → Option α) (Kn : St → Option α) (x15 : Rows) (x16 : Int) (x17 : Int) (x18 : Rows) (x19 : Rows) (x20 : Rows) (x21 : Rows) : u58_0_0 (fun σ => runM Try.prog E58_0 sh58 c58_0_29 (thenK (fun σ => tidyK td58_29 σ Kn) K) σ) x15 x16 x17 x18 x19 x20 x21 = S58_0_0 α x15 x16 x18 x20 x21 x17 (fun x17 => u58_0_0 Kn x15 x16 x17 x18 x19 x20 x21) (fun (y1 : Rows) (y2 : Rows) => u58_0_1 (K (.exit 2)) y1 x16 x18 x19 x20 y2) (fun (y1 : Int) (y2 : Bool) => u58_0_2 (K (.exit 2)) x15 x16 y1 y2 x18 x19 x20 x21) := r58_0_0g f113_0 f114_0 f53_0 α K Kn x15 x16 x17 x18 x19 x20 x21
theorem t58_0_0 (α : Type) (K : Exit → St → Option α) : ∀ (n : Nat) (x15 : Rows) (x16 : Int) (x17 : Int) (x18 : Rows) (x19 : Rows) (x20 : Rows) (x21 : Rows), R58_0_0 α x15 x16 x18 x20 x21 (fun (y1 : Rows) (y2 : Rows) => u58_0_1 (K (.exit 2)) y1 x16 x18 x19 x20 y2) (fun (y1 : Int) (y2 : Bool) => u58_0_2 (K (.exit 2)) x15 x16 y1 y2 x18 x19 x20 x21) n x17 = u58_0_0 (loopT (runM Try.prog E58_0 sh58 c58_0_29) td58_29 K n) x15 x16 x17 x18 x19 x20 x21 := by
 intro n
 induction n with
 | zero => intros; rfl
 | succ n ih => intro x15 x16 x17 x18 x19 x20 x21; exact (congrArg (fun kn => S58_0_0 α x15 x16 x18 x20 x21 x17 kn (fun (y1 : Rows) (y2 : Rows) => u58_0_1 (K (.exit 2)) y1 x16 x18 x19 x20 y2) (fun (y1 : Int) (y2 : Bool) => u58_0_2 (K (.exit 2)) x15 x16 y1 y2 x18 x19 x20 x21)) (funext fun x17 => ih x15 x16 x17 x18 x19 x20 x21)).trans (r58_0_0 α K (loopT (runM Try.prog E58_0 sh58 c58_0_29) td58_29 K n) x15 x16 x17 x18 x19 x20 x21).symm
theorem m58_0_0 : ∀ (α : Type) (K : Exit → St → Option α), F58_0_0 L58_0_0 α K = p58_0_0.unc fun σ => loopT (runM Try.prog E58_0 sh58 c58_0_29) td58_29 K fuel σ := fun α K => funext fun x15 => funext fun x16 => funext fun x17 => funext fun x18 => funext fun x19 => funext fun x20 => funext fun x21 => t58_0_0 α K fuel x15 x16 x17 x18 x19 x20 x21

noncomputable def c58_0_19g (vL58_0_0 : TL58_0_0) : MCode := (.seq (.seq (.region r58_22 [] (some ⟨[2, 6, 7, 8, 9, 26], true, [], [7]⟩)) (.cond (.tmp 26) .skip (.exit 0))) (.block 1 (.seq (.seq (.region r58_27 [] (some ⟨[2, 6, 7, 8, 9, 10], true, [], [7]⟩)) (.block 2 (.loop td58_29 [⟨p58_0_0, F58_0_0 vL58_0_0⟩] c58_0_29))) (.region r58_44 [] (some ⟨[2, 6, 7, 8, 9], true, [], [7]⟩)))))
noncomputable def c58_0_19 : MCode := c58_0_19g L58_0_0
theorem g58_0_19 : c58_0_19.Good Try.prog E58_0 sh58 := ⟨⟨trivial, ⟨trivial, trivial⟩⟩, ⟨⟨trivial, ⟨g58_0_29, m58_0_0, trivial⟩⟩, trivial⟩⟩
--CODE 19 0
def S58_0_1g (vL58_0_0 : TL58_0_0) (α : Type) (x10 : Rows) (x12 : Rows) (x8 : Rows) (x9 : Int) (x13 : Rows) (kn : Rows → Int → Rows → Option α) (k1 : Rows → Int → Bool → Rows → Option α) : Option α :=
 cK (decide (0 < x9))
 (vL58_0_0 α x8 x9 x10 x12 x13
 (fun (x26 : Rows) (x27 : Rows) => kn x26 (w64 (x9 - 1)) x27)
 (fun (x28 : Int) (x29 : Bool) => kn x8 (w64 (x9 - 1)) x13) 0)
 (k1 x8 x9 (decide (0 < x9)) x13)
noncomputable def S58_0_1 (α : Type) (x10 : Rows) (x12 : Rows) (x8 : Rows) (x9 : Int) (x13 : Rows) (kn : Rows → Int → Rows → Option α) (k1 : Rows → Int → Bool → Rows → Option α) : Option α := S58_0_1g L58_0_0 α x10 x12 x8 x9 x13 kn k1
noncomputable def R58_0_1 (α : Type) (x10 : Rows) (x12 : Rows) (k1 : Rows → Int → Bool → Rows → Option α) : Nat → Rows → Int → Rows → Option α
 | 0, _, _, _ => none
 | n + 1, x8, x9, x13 => S58_0_1 α x10 x12 x8 x9 x13 (R58_0_1 α x10 x12 k1 n) k1
noncomputable def L58_0_1 (α : Type) (x10 : Rows) (x12 : Rows) (k1 : Rows → Int → Bool → Rows → Option α) (x8 : Rows) (x9 : Int) (x13 : Rows) : Option α := R58_0_1 α x10 x12 k1 fuel x8 x9 x13
abbrev TL58_0_1 : Type 1 := (α : Type) → Rows → Rows → (Rows → Int → Bool → Rows → Option α) → Rows → Int → Rows → Option α
def F58_0_1 (v : TL58_0_1) (α : Type) (K : Exit → St → Option α) : Rows → Int → Rows → Rows → Rows → Rows → Option α := fun x8 x9 x10 x11 x12 x13 => v α x10 x12 (fun (y1 : Rows) (y2 : Int) (y3 : Bool) (y4 : Rows) => u58_0_4 (K (.exit 0)) y1 y2 y3 x10 x11 x12 y4) x8 x9 x13
theorem r58_0_1g (vf113_0 : Tf113_0) (vf114_0 : Tf114_0) (vf53_0 : Tf53_0) (vL58_0_0 : TL58_0_0) (α : Type) (K : Exit → St → Option α) (Kn : St → Option α) (x8 : Rows) (x9 : Int) (x10 : Rows) (x11 : Rows) (x12 : Rows) (x13 : Rows) : u58_0_3 (fun σ => runM Try.prog (E58_0g vf113_0 vf114_0 vf53_0) sh58 (c58_0_19g vL58_0_0) (thenK (fun σ => tidyK td58_19 σ Kn) K) σ) x8 x9 x10 x11 x12 x13 = S58_0_1g vL58_0_0 α x10 x12 x8 x9 x13 (fun x8 x9 x13 => u58_0_3 Kn x8 x9 x10 x11 x12 x13) (fun (y1 : Rows) (y2 : Int) (y3 : Bool) (y4 : Rows) => u58_0_4 (K (.exit 0)) y1 y2 y3 x10 x11 x12 y4) := by kernel_rfl
theorem r58_0_1 (α : Type) (K : Exit → St → Option α) (Kn : St → Option α) (x8 : Rows) (x9 : Int) (x10 : Rows) (x11 : Rows) (x12 : Rows) (x13 : Rows) : u58_0_3 (fun σ => runM Try.prog E58_0 sh58 c58_0_19 (thenK (fun σ => tidyK td58_19 σ Kn) K) σ) x8 x9 x10 x11 x12 x13 = S58_0_1 α x10 x12 x8 x9 x13 (fun x8 x9 x13 => u58_0_3 Kn x8 x9 x10 x11 x12 x13) (fun (y1 : Rows) (y2 : Int) (y3 : Bool) (y4 : Rows) => u58_0_4 (K (.exit 0)) y1 y2 y3 x10 x11 x12 y4) := r58_0_1g f113_0 f114_0 f53_0 L58_0_0 α K Kn x8 x9 x10 x11 x12 x13
theorem t58_0_1 (α : Type) (K : Exit → St → Option α) : ∀ (n : Nat) (x8 : Rows) (x9 : Int) (x10 : Rows) (x11 : Rows) (x12 : Rows) (x13 : Rows), R58_0_1 α x10 x12 (fun (y1 : Rows) (y2 : Int) (y3 : Bool) (y4 : Rows) => u58_0_4 (K (.exit 0)) y1 y2 y3 x10 x11 x12 y4) n x8 x9 x13 = u58_0_3 (loopT (runM Try.prog E58_0 sh58 c58_0_19) td58_19 K n) x8 x9 x10 x11 x12 x13 := by
 intro n
 induction n with
 | zero => intros; rfl
 | succ n ih => intro x8 x9 x10 x11 x12 x13; exact (congrArg (fun kn => S58_0_1 α x10 x12 x8 x9 x13 kn (fun (y1 : Rows) (y2 : Int) (y3 : Bool) (y4 : Rows) => u58_0_4 (K (.exit 0)) y1 y2 y3 x10 x11 x12 y4)) (funext fun x8 => funext fun x9 => funext fun x13 => ih x8 x9 x10 x11 x12 x13)).trans (r58_0_1 α K (loopT (runM Try.prog E58_0 sh58 c58_0_19) td58_19 K n) x8 x9 x10 x11 x12 x13).symm
theorem m58_0_1 : ∀ (α : Type) (K : Exit → St → Option α), F58_0_1 L58_0_1 α K = p58_0_3.unc fun σ => loopT (runM Try.prog E58_0 sh58 c58_0_19) td58_19 K fuel σ := fun α K => funext fun x8 => funext fun x9 => funext fun x10 => funext fun x11 => funext fun x12 => funext fun x13 => t58_0_1 α K fuel x8 x9 x10 x11 x12 x13

/-- etalon/etalonref08.Sequence -/
abbrev Tf58_0 : Type 1 := (α : Type) → Rows → Rows → Rows → Rows → (Rows → Bool → Option α) → Option α
def f58_0g (vL58_0_1 : TL58_0_1) (vf113_0 : Tf113_0) (vf114_0 : Tf114_0) (α : Type) (x1 : Rows) (x2 : Rows) (x3 : Rows) (x4 : Rows) (k1 : Rows → Bool → Option α) : Option α :=
 vf113_0 α x1 x2 x4
 (fun (x5 : Rows) => vf114_0 α x3
 (fun (x6 : Int) => ixK x5 x6 1
 (ldK x5 (Int.toNat x6) 0 [.int .i64]
 (fun (x7 : Int) => cK (x7 == 1000)
 (k1 ([] : Rows) false)
 (vL58_0_1 α x1 x5
 (fun (x31 : Rows) (x32 : Int) (x33 : Bool) (x34 : Rows) => k1 x34 true) x3 x7 ([] : Rows))))))
noncomputable def f58_0 (α : Type) (x1 : Rows) (x2 : Rows) (x3 : Rows) (x4 : Rows) (k1 : Rows → Bool → Option α) : Option α := f58_0g L58_0_1 f113_0 f114_0 α x1 x2 x3 x4 k1
def pa58_0 : PT (List DV) := pA [pV true [dL, dL], pV true [dL, dL]]
def Fn58_0 (v : Tf58_0) (α : Type) (k : List RV → Option α) : Rows → Rows → Rows → Rows → Option α := fun x1 x2 x3 x4 => v α x1 x2 x3 x4 (fun (y1 : Rows) (y2 : Bool) => ur58_0_0 k y1 y2)
noncomputable def cm58_0g (vL58_0_1 : TL58_0_1) : MCode := (.seq (.region r58_2 [] (some ⟨[2, 3], true, [], []⟩)) (.seq (.region r58_4 [] (some ⟨[2, 3, 6], true, [], []⟩)) (.seq (.region r58_6 [] (some ⟨[2, 6, 7], true, [], [7]⟩)) (.seq (.region r58_8 [] (some ⟨[2, 6, 7, 8], true, [], [7]⟩)) (.seq (.seq (.region r58_11 [] (some ⟨[2, 6, 7, 8, 24], true, [], [7]⟩)) (.cond (.tmp 24) (.seq (.region r58_14 [] (some ⟨[4, 5], true, [⟨false, 4, 0, 20004, 1⟩], []⟩)) .ret) .skip)) (.seq (.region r58_16 [] (some ⟨[2, 6, 7, 8, 9], true, [], [7]⟩)) (.seq (.block 0 (.loop td58_19 [⟨p58_0_3, F58_0_1 vL58_0_1⟩] c58_0_19)) (.seq (.region r58_46 [] (some ⟨[4, 5], true, [⟨false, 4, 0, 20004, 1⟩], []⟩)) .ret))))))))
noncomputable def cm58_0 : MCode := cm58_0g L58_0_1
theorem gm58_0 : cm58_0.Good Try.prog E58_0 sh58 := ⟨trivial, ⟨trivial, ⟨trivial, ⟨trivial, ⟨⟨trivial, ⟨⟨trivial, trivial⟩, trivial⟩⟩, ⟨trivial, ⟨⟨g58_0_19, m58_0_1, trivial⟩, ⟨trivial, trivial⟩⟩⟩⟩⟩⟩⟩⟩
theorem fm58_0g (vf113_0 : Tf113_0) (vf114_0 : Tf114_0) (vf53_0 : Tf53_0) (vL58_0_1 : TL58_0_1) (α : Type) (k : List RV → Option α) : Fn58_0 (f58_0g vL58_0_1 vf113_0 vf114_0) α k = pa58_0.unc fun ds => fnM Try.prog (E58_0g vf113_0 vf114_0 vf53_0) sh58 (cm58_0g vL58_0_1) rs58 k ds := by kernel_rfl
theorem fm58_0 : ∀ (α : Type) (k : List RV → Option α), Fn58_0 f58_0 α k = pa58_0.unc fun ds => fnM Try.prog E58_0 sh58 cm58_0 rs58 k ds := fm58_0g f113_0 f114_0 f53_0 L58_0_1

theorem is58 : FnIs Try.prog 58 nt58 tr58 tl58 cm58_0.erase rs58 := ⟨Try.f58, Try.func58, rfl, by kernel_rfl, by kernel_rfl, by kernel_rfl⟩
theorem io58_0 : InstOk Try.prog 58 nt58 ⟨pa58_0, Fn58_0 f58_0⟩ := inst_ok eo58_0 followsTry is58 ⟨⟨sh58, cm58_0, by kernel_rfl, gm58_0, fm58_0⟩⟩

/-! ### F57 etalon/etalonlaw08.changeErr -/
abbrev nt57 : Nat := 18
def sh57 : List (Nat × List Sh) := [(8, [.sl, .sl]), (15, [.sl, .sl]), (16, [.sl, .sl])]
def r57_2 : List AOper := [oO 2 (.box (.tmp 0)), oO 3 (.box (.tmp 1)), oO 4 (.mv (.const (.int .i64 0)))]
def r57_5 : List AOper := [oO 8 (.load true 2 (.tmp 2)), oO 9 (.call 50 [(.tmp 8)]), oM 7 9, oO 10 (.extract 0 (.tmp 7)), oO 11 (.extract 1 (.tmp 7)), oM 5 10, oM 6 11]
def r57_7 : List AOper := [oM 12 6, oO 13 (.bin .neq 3 (.tmp 12) (.const (.int .i64 0)))]
def r57_10 : List AOper := [oM 14 6, oM 4 14]
def r57_12 : List AOper := [oO 15 (.load true 2 (.tmp 2)), oO 16 (.load true 2 (.tmp 3)), oO 17 (.call 112 [(.tmp 15), (.tmp 16)]), oM 4 17]
def tr57 : List (Nat × Tidy) := [(0, ⟨[2, 3], true, [], []⟩), (1, ⟨[2, 3, 6], true, [], []⟩), (2, ⟨[2, 3, 6, 13], true, [], []⟩), (3, ⟨[4], true, [], []⟩), (4, ⟨[4], true, [], []⟩)]
def tl57 : List (Nat × Tidy) := []
def rs57 : List AResV := [.tmp 4]
def pr57_0_0 : PT (List RV) := pRs [pR false [rD (dI .i64)]]
def ur57_0_0 {β : Type} (g : List RV → β) : Int → β := pr57_0_0.unc g

def E57_0g (vf50_0 : Tf50_0) (vf112_0 : Tf112_0) : EnvK := EnvK.of [⟨50, nt50, [⟨pa50_0, Fn50_0 vf50_0⟩]⟩, ⟨112, nt112, [⟨pa112_0, Fn112_0 vf112_0⟩]⟩] noSeq
noncomputable def E57_0 : EnvK := E57_0g f50_0 f112_0
theorem eo57_0 : E57_0.Ok Try.prog := EnvK.of_ok noSeq_ok ⟨⟨io50_0, trivial⟩, ⟨io112_0, trivial⟩, trivial⟩

/-- etalon/etalonlaw08.changeErr -/
abbrev Tf57_0 : Type 1 := (α : Type) → Rows → Rows → Rows → Rows → (Int → Option α) → Option α
def f57_0g (vf112_0 : Tf112_0) (vf50_0 : Tf50_0) (α : Type) (x1 : Rows) (x2 : Rows) (x3 : Rows) (x4 : Rows) (k1 : Int → Option α) : Option α :=
 vf50_0 α x1 x2
 (fun (x5 : Int) (x6 : Int) => cK (x6 != 0)
 (k1 x6)
 (vf112_0 α x1 x2 x3 x4
 (fun (x7 : Int) => k1 x7)))
noncomputable def f57_0 (α : Type) (x1 : Rows) (x2 : Rows) (x3 : Rows) (x4 : Rows) (k1 : Int → Option α) : Option α := f57_0g f112_0 f50_0 α x1 x2 x3 x4 k1
def pa57_0 : PT (List DV) := pA [pV true [dL, dL], pV true [dL, dL]]
def Fn57_0 (v : Tf57_0) (α : Type) (k : List RV → Option α) : Rows → Rows → Rows → Rows → Option α := fun x1 x2 x3 x4 => v α x1 x2 x3 x4 (fun (y1 : Int) => ur57_0_0 k y1)
noncomputable def cm57_0g  : MCode := (.seq (.region r57_2 [] (some ⟨[2, 3], true, [], []⟩)) (.seq (.seq (.region r57_5 [] (some ⟨[2, 3, 6], true, [], []⟩)) (.seq (.region r57_7 [] (some ⟨[2, 3, 6, 13], true, [], []⟩)) (.cond (.tmp 13) (.seq (.region r57_10 [] (some ⟨[4], true, [], []⟩)) .ret) .skip))) (.seq (.region r57_12 [] (some ⟨[4], true, [], []⟩)) .ret)))
noncomputable def cm57_0 : MCode := cm57_0g 
theorem gm57_0 : cm57_0.Good Try.prog E57_0 sh57 := ⟨trivial, ⟨⟨trivial, ⟨trivial, ⟨⟨trivial, trivial⟩, trivial⟩⟩⟩, ⟨trivial, trivial⟩⟩⟩
theorem fm57_0g (vf50_0 : Tf50_0) (vf112_0 : Tf112_0)  (α : Type) (k : List RV → Option α) : Fn57_0 (f57_0g vf112_0 vf50_0) α k = pa57_0.unc fun ds => fnM Try.prog (E57_0g vf50_0 vf112_0) sh57 (cm57_0g ) rs57 k ds := by kernel_rfl
theorem fm57_0 : ∀ (α : Type) (k : List RV → Option α), Fn57_0 f57_0 α k = pa57_0.unc fun ds => fnM Try.prog E57_0 sh57 cm57_0 rs57 k ds := fm57_0g f50_0 f112_0

theorem is57 : FnIs Try.prog 57 nt57 tr57 tl57 cm57_0.erase rs57 := ⟨Try.f57, Try.func57, rfl, by kernel_rfl, by kernel_rfl, by kernel_rfl⟩
theorem io57_0 : InstOk Try.prog 57 nt57 ⟨pa57_0, Fn57_0 f57_0⟩ := inst_ok eo57_0 followsTry is57 ⟨⟨sh57, cm57_0, by kernel_rfl, gm57_0, fm57_0⟩⟩

/-! ### F130 slices.Repeat[[]int,int] -/
abbrev nt130 : Nat := 48
def sh130 : List (Nat × List Sh) := []
def r130_2 : List AOper := [oO 4 (.mv (.const (.slice none 0 0)))]
def r130_5 : List AOper := [oM 9 1, oO 10 (.bin .lss 3 (.tmp 9) (.const (.int .i64 0)))]
def r130_7 : List AOper := [⟨(some 11), .bad, none⟩, ⟨none, .bad, none⟩]
def r130_9 : List AOper := [oM 13 0, oO 14 (.len (.tmp 13)), oO 15 (.pure (oB (.convert 3 207 (.tmp 14)) 207)), oM 16 1, oO 17 (.pure (oB (.convert 3 207 (.tmp 16)) 207)), oO 18 (.call 141 [(.tmp 15), (.tmp 17)]), oM 12 18, oO 19 (.extract 0 (.tmp 12)), oO 20 (.extract 1 (.tmp 12)), oM 5 19, oM 6 20]
def r130_12 : List AOper := [oM 21 5, oO 22 (.bin .gtr 207 (.tmp 21) (.const (.int .u64 0))), oM 23 22, ⟨(some 24), (.mv (.tmp 6)), (some (23, false))⟩, ⟨(some 25), (.bin .gtr 207 (.tmp 24) (.const (.int .u64 9223372036854775807))), (some (23, false))⟩, oO 26 (.pick (.tmp 23) (.const (.bool true)) (.tmp 25))]
def r130_14 : List AOper := [⟨(some 27), .bad, none⟩, ⟨none, .bad, none⟩]
def r130_16 : List AOper := [oM 28 6, oO 29 (.pure (oB (.convert 207 3 (.tmp 28)) 3)), oO 30 (.mkslice 1 8 [(.v (.int .i64 0))] (.tmp 29) (.tmp 29)), oM 7 30]
def r130_18 : List AOper := [oM 31 7, oM 32 0, oO 33 (.copy 1 (.tmp 31) (.tmp 32)), oM 8 33]
def td130_21 : Option Tidy := (some ⟨[7, 8], true, [⟨false, 7, 0, 20007, 1⟩], []⟩)
def r130_24 : List AOper := [oM 34 8, oM 35 7, oO 36 (.len (.tmp 35)), oO 37 (.bin .lss 3 (.tmp 34) (.tmp 36))]
def r130_27 : List AOper := [oM 38 8, oM 39 7, oM 40 8, oO 41 (.view 1 (.tmp 39) (some (.tmp 40)) none), oM 42 7, oM 43 8, oO 44 (.view 1 (.tmp 42) none (some (.tmp 43))), oO 45 (.copy 1 (.tmp 41) (.tmp 44)), oO 46 (.bin .add 3 (.tmp 38) (.tmp 45)), oM 8 46]
def r130_29 : List AOper := [oM 47 7, oM 4 47]
def tr130 : List (Nat × Tidy) := [(0, ⟨[0, 1], true, [], []⟩), (1, ⟨[0, 1, 10], true, [], []⟩), (2, ⟨[0, 1], true, [], []⟩), (3, ⟨[0, 5, 6], true, [], []⟩), (4, ⟨[0, 6, 26], true, [], []⟩), (5, ⟨[0, 6], true, [], []⟩), (6, ⟨[0, 7], true, [], []⟩), (7, ⟨[7, 8], true, [], []⟩), (8, ⟨[7, 8, 37], true, [], []⟩), (9, ⟨[7, 8], true, [], []⟩), (10, ⟨[4], true, [⟨false, 4, 0, 20004, 1⟩], []⟩), (1100041, ⟨[], false, [], []⟩), (1100044, ⟨[], false, [], []⟩)]
def tl130 : List (Nat × Tidy) := [(8, ⟨[7, 8], true, [⟨false, 7, 0, 20007, 1⟩], []⟩)]
def rs130 : List AResV := [.tmp 4]
def p130_0_0 : PT St := pS [sl 7 (aV false [(cRef 20007)]), sl 8 (aV false [(cD (dI .i64))])] [eOwn 20007 1]
def u130_0_0 {β : Type} (g : St → β) : Int → Rows → β := p130_0_0.unc g

def p130_0_1 : PT St := pS [sl 7 (aV false [(cRef 20007)]), sl 8 (aV false [(cD (dI .i64))]), sl 37 (aV false [(cD dB)])] [eOwn 20007 1]
def u130_0_1 {β : Type} (g : St → β) : Int → Bool → Rows → β := p130_0_1.unc g

def pr130_0_0 : PT (List RV) := pRs [pR false [rO 1]]
def ur130_0_0 {β : Type} (g : List RV → β) : Rows → β := pr130_0_0.unc g

def E130_0g (vf141_0 : Tf141_0) : EnvK := EnvK.of [⟨141, nt141, [⟨pa141_0, Fn141_0 vf141_0⟩]⟩] noSeq
noncomputable def E130_0 : EnvK := E130_0g f141_0
theorem eo130_0 : E130_0.Ok Try.prog := EnvK.of_ok noSeq_ok ⟨⟨io141_0, trivial⟩, trivial⟩

noncomputable def c130_0_21g  : MCode := (.seq (.seq (.region r130_24 [] (some ⟨[7, 8, 37], true, [], []⟩)) (.cond (.tmp 37) .skip (.exit 0))) (.block 1 (.region r130_27 [] (some ⟨[7, 8], true, [], []⟩))))
noncomputable def c130_0_21 : MCode := c130_0_21g 
theorem g130_0_21 : c130_0_21.Good Try.prog E130_0 sh130 := ⟨⟨trivial, ⟨trivial, trivial⟩⟩, trivial⟩
--CODE 21 0
def S130_0_0g  (α : Type)  (x5 : Int) (x6 : Rows) (kn : Int → Rows → Option α) (k1 : Int → Bool → Rows → Option α) : Option α :=
 cK (decide (x5 < ((List.length x6 : Nat) : Int)))
 (gK (decide ((0 : Int) ≤ x5 ∧ x5 ≤ ((List.length x6 : Nat) : Int) ∧ ((List.length x6 : Nat) : Int) ≤ ((List.length x6 : Nat) : Int))) (cK (decide (x5 < ((List.length x6 : Nat) : Int)))
 (gK (decide ((0 : Int) ≤ 0 ∧ 0 ≤ x5 ∧ x5 ≤ ((List.length x6 : Nat) : Int))) (cK (decide (0 < x5))
 (gK (decide (allLen 1 (List.drop 0 (List.take (Int.toNat x5) x6)) = true ∧ (Int.toNat x5) < (Int.toNat ((List.length x6 : Nat) : Int)) ∧ (Int.toNat ((List.length x6 : Nat) : Int)) ≤ List.length x6)) (kn (w64 (x5 + ((min (List.length (List.drop 0 (List.take (Int.toNat x5) x6))) ((Int.toNat ((List.length x6 : Nat) : Int)) - (Int.toNat x5)) : Nat) : Int))) (splice x6 (Int.toNat x5) (List.take ((Int.toNat ((List.length x6 : Nat) : Int)) - (Int.toNat x5)) (List.drop 0 (List.take (Int.toNat x5) x6))))))
 (gK (decide (allLen 1 ([] : Rows) = true ∧ (Int.toNat x5) < (Int.toNat ((List.length x6 : Nat) : Int)) ∧ (Int.toNat ((List.length x6 : Nat) : Int)) ≤ List.length x6)) (kn (w64 (x5 + ((min (List.length ([] : Rows)) ((Int.toNat ((List.length x6 : Nat) : Int)) - (Int.toNat x5)) : Nat) : Int))) (splice x6 (Int.toNat x5) (List.take ((Int.toNat ((List.length x6 : Nat) : Int)) - (Int.toNat x5)) ([] : Rows)))))))
 (gK (decide ((0 : Int) ≤ 0 ∧ 0 ≤ x5 ∧ x5 ≤ ((List.length x6 : Nat) : Int))) (cK (decide (0 < x5))
 (none)
 (none)))))
 (k1 x5 (decide (x5 < ((List.length x6 : Nat) : Int))) x6)
noncomputable def S130_0_0 (α : Type)  (x5 : Int) (x6 : Rows) (kn : Int → Rows → Option α) (k1 : Int → Bool → Rows → Option α) : Option α := S130_0_0g  α  x5 x6 kn k1
noncomputable def R130_0_0 (α : Type)  (k1 : Int → Bool → Rows → Option α) : Nat → Int → Rows → Option α
 | 0, _, _ => none
 | n + 1, x5, x6 => S130_0_0 α  x5 x6 (R130_0_0 α  k1 n) k1
noncomputable def L130_0_0 (α : Type)  (k1 : Int → Bool → Rows → Option α) (x5 : Int) (x6 : Rows) : Option α := R130_0_0 α  k1 fuel x5 x6
abbrev TL130_0_0 : Type 1 := (α : Type) → (Int → Bool → Rows → Option α) → Int → Rows → Option α
def F130_0_0 (v : TL130_0_0) (α : Type) (K : Exit → St → Option α) : Int → Rows → Option α := fun x5 x6 => v α  (fun (y1 : Int) (y2 : Bool) (y3 : Rows) => u130_0_1 (K (.exit 0)) y1 y2 y3) x5 x6
theorem r130_0_0g (vf141_0 : Tf141_0)  (α : Type) (K : Exit → St → Option α) (Kn : St → Option α) (x5 : Int) (x6 : Rows) : u130_0_0 (fun σ => runM Try.prog (E130_0g vf141_0) sh130 (c130_0_21g ) (thenK (fun σ => tidyK td130_21 σ Kn) K) σ) x5 x6 = S130_0_0g  α  x5 x6 (fun x5 x6 => u130_0_0 Kn x5 x6) (fun (y1 : Int) (y2 : Bool) (y3 : Rows) => u130_0_1 (K (.exit 0)) y1 y2 y3) := by kernel_rfl
theorem r130_0_0 (α : Type) (K : Exit → St → Option α) (Kn : St → Option α) (x5 : Int) (x6 : Rows) : u130_0_0 (fun σ => runM Try.prog E130_0 sh130 c130_0_21 (thenK (fun σ => tidyK td130_21 σ Kn) K) σ) x5 x6 = S130_0_0 α  x5 x6 (fun x5 x6 => u130_0_0 Kn x5 x6) (fun (y1 : Int) (y2 : Bool) (y3 : Rows) => u130_0_1 (K (.exit 0)) y1 y2 y3) := r130_0_0g f141_0 α K Kn x5 x6
theorem t130_0_0 (α : Type) (K : Exit → St → Option α) : ∀ (n : Nat) (x5 : Int) (x6 : Rows), R130_0_0 α  (fun (y1 : Int) (y2 : Bool) (y3 : Rows) => u130_0_1 (K (.exit 0)) y1 y2 y3) n x5 x6 = u130_0_0 (loopT (runM Try.prog E130_0 sh130 c130_0_21) td130_21 K n) x5 x6 := by
 intro n
 induction n with
 | zero => intros; rfl
 | succ n ih => intro x5 x6; exact (congrArg (fun kn => S130_0_0 α  x5 x6 kn (fun (y1 : Int) (y2 : Bool) (y3 : Rows) => u130_0_1 (K (.exit 0)) y1 y2 y3)) (funext fun x5 => funext fun x6 => ih x5 x6)).trans (r130_0_0 α K (loopT (runM Try.prog E130_0 sh130 c130_0_21) td130_21 K n) x5 x6).symm
theorem m130_0_0 : ∀ (α : Type) (K : Exit → St → Option α), F130_0_0 L130_0_0 α K = p130_0_0.unc fun σ => loopT (runM Try.prog E130_0 sh130 c130_0_21) td130_21 K fuel σ := fun α K => funext fun x5 => funext fun x6 => t130_0_0 α K fuel x5 x6

/-- slices.Repeat[[]int,int] -/
abbrev Tf130_0 : Type 1 := (α : Type) → Rows → Int → (Rows → Option α) → Option α
def f130_0g (vL130_0_0 : TL130_0_0) (vf141_0 : Tf141_0) (α : Type) (x1 : Rows) (x2 : Int) (k1 : Rows → Option α) : Option α :=
 cK (decide (x2 < 0))
 (none)
 (vf141_0 α (IntKind.wrap .u64 (((List.length x1 : Nat) : Int))) (IntKind.wrap .u64 (x2))
 (fun (x3 : Int) (x4 : Int) => cK (decide (0 < x3))
 (none)
 (cK (decide (9223372036854775807 < x4))
 (none)
 (gK (decide ((0 : Int) ≤ (w64 (x4)) ∧ (w64 (x4)) ≤ (w64 (x4)) ∧ 8 * (w64 (x4)) ≤ 140737488355328 ∧ (w64 (x4)) ≤ 9223372036854775807)) (gK (decide (allLen 1 x1 = true ∧ 0 < (List.length (List.replicate (Int.toNat (w64 (x4))) [DC.v (.int .i64 0)])) ∧ (List.length (List.replicate (Int.toNat (w64 (x4))) [DC.v (.int .i64 0)])) ≤ List.length (List.replicate (Int.toNat (w64 (x4))) [DC.v (.int .i64 0)]))) (vL130_0_0 α
 (fun (x8 : Int) (x9 : Bool) (x10 : Rows) => k1 x10) ((min (List.length x1) ((List.length (List.replicate (Int.toNat (w64 (x4))) [DC.v (.int .i64 0)])) - 0) : Nat) : Int) (splice (List.replicate (Int.toNat (w64 (x4))) [DC.v (.int .i64 0)]) 0 (List.take ((List.length (List.replicate (Int.toNat (w64 (x4))) [DC.v (.int .i64 0)])) - 0) x1))))))))
noncomputable def f130_0 (α : Type) (x1 : Rows) (x2 : Int) (k1 : Rows → Option α) : Option α := f130_0g L130_0_0 f141_0 α x1 x2 k1
def pa130_0 : PT (List DV) := pA [pV false [dL], pV false [(dI .i64)]]
def Fn130_0 (v : Tf130_0) (α : Type) (k : List RV → Option α) : Rows → Int → Option α := fun x1 x2 => v α x1 x2 (fun (y1 : Rows) => ur130_0_0 k y1)
noncomputable def cm130_0g (vL130_0_0 : TL130_0_0) : MCode := (.seq (.region r130_2 [] (some ⟨[0, 1], true, [], []⟩)) (.seq (.seq (.region r130_5 [] (some ⟨[0, 1, 10], true, [], []⟩)) (.cond (.tmp 10) (.region r130_7 [] (some ⟨[0, 1], true, [], []⟩)) .skip)) (.seq (.region r130_9 [] (some ⟨[0, 5, 6], true, [], []⟩)) (.seq (.seq (.region r130_12 [] (some ⟨[0, 6, 26], true, [], []⟩)) (.cond (.tmp 26) (.region r130_14 [] (some ⟨[0, 6], true, [], []⟩)) .skip)) (.seq (.region r130_16 [] (some ⟨[0, 7], true, [], []⟩)) (.seq (.region r130_18 [] (some ⟨[7, 8], true, [], []⟩)) (.seq (.block 0 (.loop td130_21 [⟨p130_0_0, F130_0_0 vL130_0_0⟩] c130_0_21)) (.seq (.region r130_29 [] (some ⟨[4], true, [⟨false, 4, 0, 20004, 1⟩], []⟩)) .ret))))))))
noncomputable def cm130_0 : MCode := cm130_0g L130_0_0
theorem gm130_0 : cm130_0.Good Try.prog E130_0 sh130 := ⟨trivial, ⟨⟨trivial, ⟨trivial, trivial⟩⟩, ⟨trivial, ⟨⟨trivial, ⟨trivial, trivial⟩⟩, ⟨trivial, ⟨trivial, ⟨⟨g130_0_21, m130_0_0, trivial⟩, ⟨trivial, trivial⟩⟩⟩⟩⟩⟩⟩⟩
theorem fm130_0g (vf141_0 : Tf141_0) (vL130_0_0 : TL130_0_0) (α : Type) (k : List RV → Option α) : Fn130_0 (f130_0g vL130_0_0 vf141_0) α k = pa130_0.unc fun ds => fnM Try.prog (E130_0g vf141_0) sh130 (cm130_0g vL130_0_0) rs130 k ds := by kernel_rfl
theorem fm130_0 : ∀ (α : Type) (k : List RV → Option α), Fn130_0 f130_0 α k = pa130_0.unc fun ds => fnM Try.prog E130_0 sh130 cm130_0 rs130 k ds := fm130_0g f141_0 L130_0_0

theorem is130 : FnIs Try.prog 130 nt130 tr130 tl130 cm130_0.erase rs130 := ⟨Try.f130, Try.func130, rfl, by kernel_rfl, by kernel_rfl, by kernel_rfl⟩
theorem io130_0 : InstOk Try.prog 130 nt130 ⟨pa130_0, Fn130_0 f130_0⟩ := inst_ok eo130_0 followsTry is130 ⟨⟨sh130, cm130_0, by kernel_rfl, gm130_0, fm130_0⟩⟩

/-! ### F127 slices.IndexFunc[[]etalon/api.GrowRule,etalon/api.GrowRule] -/
abbrev nt127 : Nat := 19
def sh127 : List (Nat × List Sh) := [(14, [.int .i64, .bool, .int .i64, .bool]), (15, [.int .i64, .bool, .int .i64, .bool])]
def r127_2 : List AOper := [oO 4 (.mv (.const (.int .i64 0)))]
def r127_5 : List AOper := [oM 6 0, oO 7 (.len (.tmp 6)), oO 8 (.mv (.const (.int .i64 0)))]
def td127_7 : Option Tidy := (some ⟨[0, 1, 7, 8], true, [], []⟩)
def r127_9 : List AOper := [oO 9 (.bin .lss 3 (.tmp 8) (.tmp 7))]
def r127_15 : List AOper := [oM 10 8, oM 5 10]
def r127_17 : List AOper := [oM 11 1, oM 12 0, oM 13 5, oO 14 (.iaddr 4 none (.tmp 12) (.tmp 13)), oO 15 (.load true 4 (.tmp 14)), oO 16 (.calld (.tmp 11) [(.tmp 15)])]
def r127_20 : List AOper := [oM 17 5, oM 4 17]
def r127_21 : List AOper := [oO 18 (.bin .add 3 (.tmp 8) (.const (.int .i64 1))), oM 8 18]
def r127_23 : List AOper := [oO 4 (.mv (.const (.int .i64 (-1))))]
def tr127 : List (Nat × Tidy) := [(0, ⟨[0, 1], true, [], []⟩), (1, ⟨[0, 1, 7, 8], true, [], []⟩), (2, ⟨[0, 1, 7, 8, 9], true, [], []⟩), (3, ⟨[0, 1, 5, 7, 8], true, [], []⟩), (4, ⟨[0, 1, 5, 7, 8, 16], true, [], []⟩), (5, ⟨[4], true, [], []⟩), (6, ⟨[0, 1, 7, 8], true, [], []⟩), (7, ⟨[4], true, [], []⟩)]
def tl127 : List (Nat × Tidy) := [(2, ⟨[0, 1, 7, 8], true, [], []⟩)]
def rs127 : List AResV := [.tmp 4]
def p127_0_0 : PT St := pS [sl 0 (aV false [(cD dL)]), sl 1 (aV false [(cD (dFn 128 [(dP [(dI .i64)] 0)]))]), sl 7 (aV false [(cD (dI .i64))]), sl 8 (aV false [(cD (dI .i64))])] []
def u127_0_0 {β : Type} (g : St → β) : Rows → Int → Int → Int → β := p127_0_0.unc g

def p127_0_1 : PT St := pS [sl 4 (aV false [(cD (dI .i64))])] []
def u127_0_1 {β : Type} (g : St → β) : Int → β := p127_0_1.unc g

def p127_0_2 : PT St := pS [sl 0 (aV false [(cD dL)]), sl 1 (aV false [(cD (dFn 128 [(dP [(dI .i64)] 0)]))]), sl 7 (aV false [(cD (dI .i64))]), sl 8 (aV false [(cD (dI .i64))]), sl 9 (aV false [(cD dB)])] []
def u127_0_2 {β : Type} (g : St → β) : Rows → Int → Int → Int → Bool → β := p127_0_2.unc g

def pr127_0_0 : PT (List RV) := pRs [pR false [rD (dI .i64)]]
def ur127_0_0 {β : Type} (g : List RV → β) : Int → β := pr127_0_0.unc g

def E127_0g (vf128_0 : Tf128_0) : EnvK := EnvK.of [⟨128, nt128, [⟨pa128_0, Fn128_0 vf128_0⟩]⟩] noSeq
noncomputable def E127_0 : EnvK := E127_0g f128_0
theorem eo127_0 : E127_0.Ok Try.prog := EnvK.of_ok noSeq_ok ⟨⟨io128_0, trivial⟩, trivial⟩

noncomputable def c127_0_7g  : MCode := (.seq (.region r127_9 [] (some ⟨[0, 1, 7, 8, 9], true, [], []⟩)) (.seq (.cond (.tmp 9) .skip (.exit 0)) (.seq (.block 1 (.seq (.region r127_15 [] (some ⟨[0, 1, 5, 7, 8], true, [], []⟩)) (.seq (.region r127_17 [] (some ⟨[0, 1, 5, 7, 8, 16], true, [], []⟩)) (.cond (.tmp 16) (.seq (.region r127_20 [] (some ⟨[4], true, [], []⟩)) .ret) .skip)))) (.region r127_21 [] (some ⟨[0, 1, 7, 8], true, [], []⟩)))))
noncomputable def c127_0_7 : MCode := c127_0_7g 
theorem g127_0_7 : c127_0_7.Good Try.prog E127_0 sh127 := ⟨trivial, ⟨⟨trivial, trivial⟩, ⟨⟨trivial, ⟨trivial, ⟨⟨trivial, trivial⟩, trivial⟩⟩⟩, trivial⟩⟩⟩
--CODE 7 0
def S127_0_0g (vf128_0 : Tf128_0) (α : Type) (x3 : Rows) (x4 : Int) (x5 : Int) (x6 : Int) (kn : Int → Option α) (k1 : Int → Option α) (k2 : Int → Bool → Option α) : Option α :=
 cK (decide (x6 < x5))
 (rowK x3 x6 [.int .i64, .bool, .int .i64, .bool]
 (fun (x8 : Int) (x9 : Bool) (x10 : Int) (x11 : Bool) => vf128_0 α x8 x9 x10 x11 x4
 (fun (x12 : Bool) => cK x12
 (k1 x6)
 (kn (w64 (x6 + 1))))))
 (k2 x6 (decide (x6 < x5)))
noncomputable def S127_0_0 (α : Type) (x3 : Rows) (x4 : Int) (x5 : Int) (x6 : Int) (kn : Int → Option α) (k1 : Int → Option α) (k2 : Int → Bool → Option α) : Option α := S127_0_0g f128_0 α x3 x4 x5 x6 kn k1 k2
noncomputable def R127_0_0 (α : Type) (x3 : Rows) (x4 : Int) (x5 : Int) (k1 : Int → Option α) (k2 : Int → Bool → Option α) : Nat → Int → Option α
 | 0, _ => none
 | n + 1, x6 => S127_0_0 α x3 x4 x5 x6 (R127_0_0 α x3 x4 x5 k1 k2 n) k1 k2
noncomputable def L127_0_0 (α : Type) (x3 : Rows) (x4 : Int) (x5 : Int) (k1 : Int → Option α) (k2 : Int → Bool → Option α) (x6 : Int) : Option α := R127_0_0 α x3 x4 x5 k1 k2 fuel x6
abbrev TL127_0_0 : Type 1 := (α : Type) → Rows → Int → Int → (Int → Option α) → (Int → Bool → Option α) → Int → Option α
def F127_0_0 (v : TL127_0_0) (α : Type) (K : Exit → St → Option α) : Rows → Int → Int → Int → Option α := fun x3 x4 x5 x6 => v α x3 x4 x5 (fun (y1 : Int) => u127_0_1 (K .ret) y1) (fun (y1 : Int) (y2 : Bool) => u127_0_2 (K (.exit 0)) x3 x4 x5 y1 y2) x6
theorem r127_0_0g (vf128_0 : Tf128_0)  (α : Type) (K : Exit → St → Option α) (Kn : St → Option α) (x3 : Rows) (x4 : Int) (x5 : Int) (x6 : Int) : u127_0_0 (fun σ => runM Try.prog (E127_0g vf128_0) sh127 (c127_0_7g ) (thenK (fun σ => tidyK td127_7 σ Kn) K) σ) x3 x4 x5 x6 = S127_0_0g vf128_0 α x3 x4 x5 x6 (fun x6 => u127_0_0 Kn x3 x4 x5 x6) (fun (y1 : Int) => u127_0_1 (K .ret) y1) (fun (y1 : Int) (y2 : Bool) => u127_0_2 (K (.exit 0)) x3 x4 x5 y1 y2) := by kernel_rfl
theorem r127_0_0 (α : Type) (K : Exit → St → Option α) (Kn : St → Option α) (x3 : Rows) (x4 : Int) (x5 : Int) (x6 : Int) : u127_0_0 (fun σ => runM Try.prog E127_0 sh127 c127_0_7 (thenK (fun σ => tidyK td127_7 σ Kn) K) σ) x3 x4 x5 x6 = S127_0_0 α x3 x4 x5 x6 (fun x6 => u127_0_0 Kn x3 x4 x5 x6) (fun (y1 : Int) => u127_0_1 (K .ret) y1) (fun (y1 : Int) (y2 : Bool) => u127_0_2 (K (.exit 0)) x3 x4 x5 y1 y2) := r127_0_0g f128_0 α K Kn x3 x4 x5 x6
theorem t127_0_0 (α : Type) (K : Exit → St → Option α) : ∀ (n : Nat) (x3 : Rows) (x4 : Int) (x5 : Int) (x6 : Int), R127_0_0 α x3 x4 x5 (fun (y1 : Int) => u127_0_1 (K .ret) y1) (fun (y1 : Int) (y2 : Bool) => u127_0_2 (K (.exit 0)) x3 x4 x5 y1 y2) n x6 = u127_0_0 (loopT (runM Try.prog E127_0 sh127 c127_0_7) td127_7 K n) x3 x4 x5 x6 := by
 intro n
 induction n with
 | zero => intros; rfl
 | succ n ih => intro x3 x4 x5 x6; exact (congrArg (fun kn => S127_0_0 α x3 x4 x5 x6 kn (fun (y1 : Int) => u127_0_1 (K .ret) y1) (fun (y1 : Int) (y2 : Bool) => u127_0_2 (K (.exit 0)) x3 x4 x5 y1 y2)) (funext fun x6 => ih x3 x4 x5 x6)).trans (r127_0_0 α K (loopT (runM Try.prog E127_0 sh127 c127_0_7) td127_7 K n) x3 x4 x5 x6).symm
theorem m127_0_0 : ∀ (α : Type) (K : Exit → St → Option α), F127_0_0 L127_0_0 α K = p127_0_0.unc fun σ => loopT (runM Try.prog E127_0 sh127 c127_0_7) td127_7 K fuel σ := fun α K => funext fun x3 => funext fun x4 => funext fun x5 => funext fun x6 => t127_0_0 α K fuel x3 x4 x5 x6

/-- slices.IndexFunc[[]etalon/api.GrowRule,etalon/api.GrowRule] -/
abbrev Tf127_0 : Type 1 := (α : Type) → Rows → Int → (Int → Option α) → Option α
def f127_0g (vL127_0_0 : TL127_0_0) (α : Type) (x1 : Rows) (x2 : Int) (k1 : Int → Option α) : Option α :=
 vL127_0_0 α x1 x2 ((List.length x1 : Nat) : Int)
 (fun (x13 : Int) => k1 x13)
 (fun (x14 : Int) (x15 : Bool) => k1 (-1)) 0
noncomputable def f127_0 (α : Type) (x1 : Rows) (x2 : Int) (k1 : Int → Option α) : Option α := f127_0g L127_0_0 α x1 x2 k1
def pa127_0 : PT (List DV) := pA [pV false [dL], pV false [(dFn 128 [(dP [(dI .i64)] 0)])]]
def Fn127_0 (v : Tf127_0) (α : Type) (k : List RV → Option α) : Rows → Int → Option α := fun x1 x2 => v α x1 x2 (fun (y1 : Int) => ur127_0_0 k y1)
noncomputable def cm127_0g (vL127_0_0 : TL127_0_0) : MCode := (.seq (.region r127_2 [] (some ⟨[0, 1], true, [], []⟩)) (.seq (.seq (.region r127_5 [] (some ⟨[0, 1, 7, 8], true, [], []⟩)) (.block 0 (.loop td127_7 [⟨p127_0_0, F127_0_0 vL127_0_0⟩] c127_0_7))) (.seq (.region r127_23 [] (some ⟨[4], true, [], []⟩)) .ret)))
noncomputable def cm127_0 : MCode := cm127_0g L127_0_0
theorem gm127_0 : cm127_0.Good Try.prog E127_0 sh127 := ⟨trivial, ⟨⟨trivial, ⟨g127_0_7, m127_0_0, trivial⟩⟩, ⟨trivial, trivial⟩⟩⟩
theorem fm127_0g (vf128_0 : Tf128_0) (vL127_0_0 : TL127_0_0) (α : Type) (k : List RV → Option α) : Fn127_0 (f127_0g vL127_0_0) α k = pa127_0.unc fun ds => fnM Try.prog (E127_0g vf128_0) sh127 (cm127_0g vL127_0_0) rs127 k ds := by kernel_rfl
theorem fm127_0 : ∀ (α : Type) (k : List RV → Option α), Fn127_0 f127_0 α k = pa127_0.unc fun ds => fnM Try.prog E127_0 sh127 cm127_0 rs127 k ds := fm127_0g f128_0 L127_0_0

theorem is127 : FnIs Try.prog 127 nt127 tr127 tl127 cm127_0.erase rs127 := ⟨Try.f127, Try.func127, rfl, by kernel_rfl, by kernel_rfl, by kernel_rfl⟩
theorem io127_0 : InstOk Try.prog 127 nt127 ⟨pa127_0, Fn127_0 f127_0⟩ := inst_ok eo127_0 followsTry is127 ⟨⟨sh127, cm127_0, by kernel_rfl, gm127_0, fm127_0⟩⟩

/-! ### F45 etalon/grow.CheckChamber -/
abbrev nt45 : Nat := 66
def sh45 : List (Nat × List Sh) := [(9, [.sl]), (13, [.sl]), (18, [.str]), (19, [.str]), (27, [.sl]), (35, [.sl]), (39, [.sl]), (44, [.int .i64, .bool, .int .i64, .bool]), (45, [.int .i64, .bool, .int .i64, .bool]), (47, [.int .i64]), (49, [.sl]), (56, [.int .i64]), (58, [.sl])]
def r45_2 : List AOper := [oO 1 (.box (.tmp 0)), oO 2 (.mv (.const (.int .i64 0))), oO 3 (.mv (.const (.int .i64 0)))]
def r45_5 : List AOper := [oO 8 (.faddr 0 (.tmp 1)), oO 9 (.load false 1 (.tmp 8)), oO 10 (.len (.tmp 9)), oO 11 (.bin .gtr 3 (.tmp 10) (.const (.int .i64 8)))]
def r45_8 : List AOper := [oO 2 (.mv (.const (.int .i64 0))), oO 3 (.mv (.const (.int .i64 8)))]
def r45_11 : List AOper := [oO 12 (.faddr 0 (.tmp 1)), oO 13 (.load false 1 (.tmp 12)), oO 14 (.len (.tmp 13)), oO 15 (.mv (.const (.int .i64 0)))]
def td45_13 : Option Tidy := (some ⟨[1, 13, 14, 15], true, [⟨false, 13, 0, 20013, 1⟩, ⟨true, 1, 0, 30100, 1⟩, ⟨true, 1, 1, 30101, 4⟩], []⟩)
def r45_15 : List AOper := [oO 16 (.bin .lss 3 (.tmp 15) (.tmp 14))]
def r45_21 : List AOper := [oM 17 15, oO 18 (.iaddr 1 none (.tmp 13) (.tmp 15)), oO 19 (.load false 1 (.tmp 18)), oM 4 17, oM 5 19]
def r45_24 : List AOper := [oM 21 5, oO 22 (.call 100 [(.tmp 21)]), oO 23 (.pure (oB (.unOp .not 4 (.tmp 22)) 4)), oM 20 23]
def r45_27 : List AOper := [oM 24 4, oM 2 24, oO 3 (.mv (.const (.int .i64 3)))]
def r45_29 : List AOper := [oO 26 (.faddr 0 (.tmp 1)), oO 27 (.load false 1 (.tmp 26)), oM 28 4, oO 29 (.slice 1 false (.tmp 27) none (some (.tmp 28))), oM 30 5, oO 31 (.call 101 [(.tmp 29), (.tmp 30)]), oM 25 31]
def r45_32 : List AOper := [oM 32 4, oM 2 32, oO 3 (.mv (.const (.int .i64 5)))]
def r45_33 : List AOper := [oO 33 (.bin .add 3 (.tmp 15) (.const (.int .i64 1))), oM 15 33]
def r45_36 : List AOper := [oO 34 (.faddr 1 (.tmp 1)), oO 35 (.load false 1 (.tmp 34)), oO 36 (.len (.tmp 35)), oO 37 (.bin .gtr 3 (.tmp 36) (.const (.int .i64 30)))]
def r45_39 : List AOper := [oO 2 (.mv (.const (.int .i64 0))), oO 3 (.mv (.const (.int .i64 8)))]
def r45_42 : List AOper := [oO 38 (.faddr 1 (.tmp 1)), oO 39 (.load false 1 (.tmp 38)), oO 40 (.len (.tmp 39)), oO 41 (.mv (.const (.int .i64 0)))]
def td45_44 : Option Tidy := (some ⟨[1, 39, 40, 41], true, [⟨false, 39, 0, 20039, 4⟩, ⟨true, 1, 0, 30100, 1⟩, ⟨true, 1, 1, 30101, 4⟩], []⟩)
def r45_46 : List AOper := [oO 42 (.bin .lss 3 (.tmp 41) (.tmp 40))]
def r45_52 : List AOper := [oM 43 41, oO 44 (.iaddr 4 none (.tmp 39) (.tmp 41)), oO 45 (.load true 4 (.tmp 44)), oO 7 (.alloc [(.d (.v (.int .i64 0))), (.d (.v (.bool false))), (.d (.v (.int .i64 0))), (.d (.v (.bool false)))]), oM 6 43, ⟨none, (.store 4 (.tmp 7) (.tmp 45)), none⟩]
def r45_54 : List AOper := [oO 46 (.faddr 0 (.tmp 7)), oO 47 (.load false 1 (.tmp 46)), oO 48 (.faddr 0 (.tmp 1)), oO 49 (.load false 1 (.tmp 48)), oO 50 (.len (.tmp 49)), oO 51 (.bin .sub 3 (.tmp 50) (.const (.int .i64 1))), oO 52 (.call 78 [(.tmp 47), (.const (.int .i64 0)), (.tmp 51)]), oO 53 (.pure (oB (.unOp .not 4 (.tmp 52)) 4)), oM 54 53, ⟨(some 55), (.faddr 2 (.tmp 7)), (some (54, false))⟩, ⟨(some 56), (.load false 1 (.tmp 55)), (some (54, false))⟩, ⟨(some 57), (.faddr 0 (.tmp 1)), (some (54, false))⟩, ⟨(some 58), (.load false 1 (.tmp 57)), (some (54, false))⟩, ⟨(some 59), (.len (.tmp 58)), (some (54, false))⟩, ⟨(some 60), (.bin .sub 3 (.tmp 59) (.const (.int .i64 1))), (some (54, false))⟩, ⟨(some 61), (.call 78 [(.tmp 56), (.const (.int .i64 0)), (.tmp 60)]), (some (54, false))⟩, ⟨(some 62), (.pure (oB (.unOp .not 4 (.tmp 61)) 4)), (some (54, false))⟩, oO 63 (.pick (.tmp 54) (.const (.bool true)) (.tmp 62))]
def r45_57 : List AOper := [oM 64 6, oM 2 64, oO 3 (.mv (.const (.int .i64 6)))]
def r45_58 : List AOper := [oO 65 (.bin .add 3 (.tmp 41) (.const (.int .i64 1))), oM 41 65]
def r45_60 : List AOper := [oO 2 (.mv (.const (.int .i64 0))), oO 3 (.mv (.const (.int .i64 0)))]
def tr45 : List (Nat × Tidy) := [(0, ⟨[1], true, [], []⟩), (1, ⟨[1, 11], true, [], []⟩), (2, ⟨[2, 3], true, [], []⟩), (3, ⟨[1, 13, 14, 15], true, [], []⟩), (4, ⟨[1, 13, 14, 15, 16], true, [], []⟩), (5, ⟨[1, 4, 5, 13, 14, 15], true, [], []⟩), (6, ⟨[1, 4, 5, 13, 14, 15, 20], true, [], []⟩), (7, ⟨[2, 3], true, [], []⟩), (8, ⟨[1, 4, 13, 14, 15, 25], true, [], []⟩), (9, ⟨[2, 3], true, [], []⟩), (10, ⟨[1, 13, 14, 15], true, [], []⟩), (11, ⟨[1, 37], true, [], []⟩), (12, ⟨[2, 3], true, [], []⟩), (13, ⟨[1, 39, 40, 41], true, [], []⟩), (14, ⟨[1, 39, 40, 41, 42], true, [], []⟩), (15, ⟨[1, 6, 7, 39, 40, 41], true, [], []⟩), (16, ⟨[1, 6, 39, 40, 41, 63], true, [], []⟩), (17, ⟨[2, 3], true, [], []⟩), (18, ⟨[1, 39, 40, 41], true, [], []⟩), (19, ⟨[2, 3], true, [], []⟩)]
def tl45 : List (Nat × Tidy) := [(4, ⟨[1, 13, 14, 15], true, [⟨false, 13, 0, 20013, 1⟩, ⟨true, 1, 0, 30100, 1⟩, ⟨true, 1, 1, 30101, 4⟩], []⟩), (14, ⟨[1, 39, 40, 41], true, [⟨false, 39, 0, 20039, 4⟩, ⟨true, 1, 0, 30100, 1⟩, ⟨true, 1, 1, 30101, 4⟩], []⟩)]
def rs45 : List AResV := [.tmp 2, .tmp 3]
def p45_0_0 : PT St := pS [sl 1 (aV false [(cPtr 1 0)]), sl 13 (aV false [(cD dL)]), sl 14 (aV false [(cD (dI .i64))]), sl 15 (aV false [(cD (dI .i64))])] [eBox 1 [(cD dL), (cD dL)]]
def u45_0_0 {β : Type} (g : St → β) : Rows → Int → Int → Rows → Rows → β := p45_0_0.unc g

def p45_0_1 : PT St := pS [sl 2 (aV false [(cD (dI .i64))]), sl 3 (aV false [(cD (dI .i64))])] []
def u45_0_1 {β : Type} (g : St → β) : Int → Int → β := p45_0_1.unc g

def p45_0_2 : PT St := pS [sl 1 (aV false [(cPtr 1 0)]), sl 13 (aV false [(cD dL)]), sl 14 (aV false [(cD (dI .i64))]), sl 15 (aV false [(cD (dI .i64))]), sl 16 (aV false [(cD dB)])] [eBox 1 [(cD dL), (cD dL)]]
def u45_0_2 {β : Type} (g : St → β) : Rows → Int → Int → Bool → Rows → Rows → β := p45_0_2.unc g

def p45_0_3 : PT St := pS [sl 1 (aV false [(cPtr 1 0)]), sl 39 (aV false [(cD dL)]), sl 40 (aV false [(cD (dI .i64))]), sl 41 (aV false [(cD (dI .i64))])] [eBox 1 [(cD dL), (cD dL)]]
def u45_0_3 {β : Type} (g : St → β) : Rows → Int → Int → Rows → Rows → β := p45_0_3.unc g

def p45_0_4 : PT St := pS [sl 1 (aV false [(cPtr 1 0)]), sl 39 (aV false [(cD dL)]), sl 40 (aV false [(cD (dI .i64))]), sl 41 (aV false [(cD (dI .i64))]), sl 42 (aV false [(cD dB)])] [eBox 1 [(cD dL), (cD dL)]]
def u45_0_4 {β : Type} (g : St → β) : Rows → Int → Int → Bool → Rows → Rows → β := p45_0_4.unc g

def pr45_0_0 : PT (List RV) := pRs [pR false [rD (dI .i64)], pR false [rD (dI .i64)]]
def ur45_0_0 {β : Type} (g : List RV → β) : Int → Int → β := pr45_0_0.unc g

def E45_0g (vf100_0 : Tf100_0) (vf101_0 : Tf101_0) (vf78_0 : Tf78_0) : EnvK := EnvK.of [⟨100, nt100, [⟨pa100_0, Fn100_0 vf100_0⟩]⟩, ⟨101, nt101, [⟨pa101_0, Fn101_0 vf101_0⟩]⟩, ⟨78, nt78, [⟨pa78_0, Fn78_0 vf78_0⟩]⟩] noSeq
noncomputable def E45_0 : EnvK := E45_0g f100_0 f101_0 f78_0
theorem eo45_0 : E45_0.Ok Try.prog := EnvK.of_ok noSeq_ok ⟨⟨io100_0, trivial⟩, ⟨io101_0, trivial⟩, ⟨io78_0, trivial⟩, trivial⟩

noncomputable def c45_0_44g  : MCode := (.seq (.region r45_46 [] (some ⟨[1, 39, 40, 41, 42], true, [], []⟩)) (.seq (.cond (.tmp 42) .skip (.exit 3)) (.seq (.block 4 (.seq (.region r45_52 [] (some ⟨[1, 6, 7, 39, 40, 41], true, [], []⟩)) (.seq (.region r45_54 [] (some ⟨[1, 6, 39, 40, 41, 63], true, [], []⟩)) (.cond (.tmp 63) (.seq (.region r45_57 [] (some ⟨[2, 3], true, [], []⟩)) .ret) .skip)))) (.region r45_58 [] (some ⟨[1, 39, 40, 41], true, [], []⟩)))))
noncomputable def c45_0_44 : MCode := c45_0_44g 
theorem g45_0_44 : c45_0_44.Good Try.prog E45_0 sh45 := ⟨trivial, ⟨⟨trivial, trivial⟩, ⟨⟨trivial, ⟨trivial, ⟨⟨trivial, trivial⟩, trivial⟩⟩⟩, trivial⟩⟩⟩
--CODE 44 0
def S45_0_1g (vf78_0 : Tf78_0) (α : Type) (x17 : Rows) (x18 : Int) (x20 : Rows) (x19 : Int) (kn : Int → Option α) (k1 : Int → Option α) (k2 : Int → Bool → Option α) : Option α :=
 cK (decide (x19 < x18))
 (rowK x17 x19 [.int .i64, .bool, .int .i64, .bool]
 (fun (x23 : Int) (x24 : Bool) (x25 : Int) (x26 : Bool) => vf78_0 α x23 0 (w64 (((List.length x20 : Nat) : Int) - 1))
 (fun (x27 : Bool) => cK (!x27)
 (k1 x19)
 (vf78_0 α x25 0 (w64 (((List.length x20 : Nat) : Int) - 1))
 (fun (x28 : Bool) => cK (!x28)
 (k1 x19)
 (kn (w64 (x19 + 1))))))))
 (k2 x19 (decide (x19 < x18)))
noncomputable def S45_0_1 (α : Type) (x17 : Rows) (x18 : Int) (x20 : Rows) (x19 : Int) (kn : Int → Option α) (k1 : Int → Option α) (k2 : Int → Bool → Option α) : Option α := S45_0_1g f78_0 α x17 x18 x20 x19 kn k1 k2
noncomputable def R45_0_1 (α : Type) (x17 : Rows) (x18 : Int) (x20 : Rows) (k1 : Int → Option α) (k2 : Int → Bool → Option α) : Nat → Int → Option α
 | 0, _ => none
 | n + 1, x19 => S45_0_1 α x17 x18 x20 x19 (R45_0_1 α x17 x18 x20 k1 k2 n) k1 k2
noncomputable def L45_0_1 (α : Type) (x17 : Rows) (x18 : Int) (x20 : Rows) (k1 : Int → Option α) (k2 : Int → Bool → Option α) (x19 : Int) : Option α := R45_0_1 α x17 x18 x20 k1 k2 fuel x19
abbrev TL45_0_1 : Type 1 := (α : Type) → Rows → Int → Rows → (Int → Option α) → (Int → Bool → Option α) → Int → Option α
def F45_0_1 (v : TL45_0_1) (α : Type) (K : Exit → St → Option α) : Rows → Int → Int → Rows → Rows → Option α := fun x17 x18 x19 x20 x21 => v α x17 x18 x20 (fun (y1 : Int) => u45_0_1 (K .ret) y1 6) (fun (y1 : Int) (y2 : Bool) => u45_0_4 (K (.exit 3)) x17 x18 y1 y2 x20 x21) x19
theorem r45_0_1g (vf100_0 : Tf100_0) (vf101_0 : Tf101_0) (vf78_0 : Tf78_0)  (α : Type) (K : Exit → St → Option α) (Kn : St → Option α) (x17 : Rows) (x18 : Int) (x19 : Int) (x20 : Rows) (x21 : Rows) : u45_0_3 (fun σ => runM Try.prog (E45_0g vf100_0 vf101_0 vf78_0) sh45 (c45_0_44g ) (thenK (fun σ => tidyK td45_44 σ Kn) K) σ) x17 x18 x19 x20 x21 = S45_0_1g vf78_0 α x17 x18 x20 x19 (fun x19 => u45_0_3 Kn x17 x18 x19 x20 x21) (fun (y1 : Int) => u45_0_1 (K .ret) y1 6) (fun (y1 : Int) (y2 : Bool) => u45_0_4 (K (.exit 3)) x17 x18 y1 y2 x20 x21) := by kernel_rfl
theorem r45_0_1 (α : Type) (K : Exit → St → Option α) (Kn : St → Option α) (x17 : Rows) (x18 : Int) (x19 : Int) (x20 : Rows) (x21 : Rows) : u45_0_3 (fun σ => runM Try.prog E45_0 sh45 c45_0_44 (thenK (fun σ => tidyK td45_44 σ Kn) K) σ) x17 x18 x19 x20 x21 = S45_0_1 α x17 x18 x20 x19 (fun x19 => u45_0_3 Kn x17 x18 x19 x20 x21) (fun (y1 : Int) => u45_0_1 (K .ret) y1 6) (fun (y1 : Int) (y2 : Bool) => u45_0_4 (K (.exit 3)) x17 x18 y1 y2 x20 x21) := r45_0_1g f100_0 f101_0 f78_0 α K Kn x17 x18 x19 x20 x21
theorem t45_0_1 (α : Type) (K : Exit → St → Option α) : ∀ (n : Nat) (x17 : Rows) (x18 : Int) (x19 : Int) (x20 : Rows) (x21 : Rows), R45_0_1 α x17 x18 x20 (fun (y1 : Int) => u45_0_1 (K .ret) y1 6) (fun (y1 : Int) (y2 : Bool) => u45_0_4 (K (.exit 3)) x17 x18 y1 y2 x20 x21) n x19 = u45_0_3 (loopT (runM Try.prog E45_0 sh45 c45_0_44) td45_44 K n) x17 x18 x19 x20 x21 := by
 intro n
 induction n with
 | zero => intros; rfl
 | succ n ih => intro x17 x18 x19 x20 x21; exact (congrArg (fun kn => S45_0_1 α x17 x18 x20 x19 kn (fun (y1 : Int) => u45_0_1 (K .ret) y1 6) (fun (y1 : Int) (y2 : Bool) => u45_0_4 (K (.exit 3)) x17 x18 y1 y2 x20 x21)) (funext fun x19 => ih x17 x18 x19 x20 x21)).trans (r45_0_1 α K (loopT (runM Try.prog E45_0 sh45 c45_0_44) td45_44 K n) x17 x18 x19 x20 x21).symm
theorem m45_0_1 : ∀ (α : Type) (K : Exit → St → Option α), F45_0_1 L45_0_1 α K = p45_0_3.unc fun σ => loopT (runM Try.prog E45_0 sh45 c45_0_44) td45_44 K fuel σ := fun α K => funext fun x17 => funext fun x18 => funext fun x19 => funext fun x20 => funext fun x21 => t45_0_1 α K fuel x17 x18 x19 x20 x21

noncomputable def c45_0_13g  : MCode := (.seq (.region r45_15 [] (some ⟨[1, 13, 14, 15, 16], true, [], []⟩)) (.seq (.cond (.tmp 16) .skip (.exit 0)) (.seq (.block 1 (.seq (.region r45_21 [] (some ⟨[1, 4, 5, 13, 14, 15], true, [], []⟩)) (.block 2 (.seq (.region r45_24 [] (some ⟨[1, 4, 5, 13, 14, 15, 20], true, [], []⟩)) (.cond (.tmp 20) (.seq (.region r45_27 [] (some ⟨[2, 3], true, [], []⟩)) .ret) (.seq (.region r45_29 [] (some ⟨[1, 4, 13, 14, 15, 25], true, [], []⟩)) (.cond (.tmp 25) (.seq (.region r45_32 [] (some ⟨[2, 3], true, [], []⟩)) .ret) .skip))))))) (.region r45_33 [] (some ⟨[1, 13, 14, 15], true, [], []⟩)))))
noncomputable def c45_0_13 : MCode := c45_0_13g 
theorem g45_0_13 : c45_0_13.Good Try.prog E45_0 sh45 := ⟨trivial, ⟨⟨trivial, trivial⟩, ⟨⟨trivial, ⟨trivial, ⟨⟨trivial, trivial⟩, ⟨trivial, ⟨⟨trivial, trivial⟩, trivial⟩⟩⟩⟩⟩, trivial⟩⟩⟩
--CODE 13 0
def S45_0_0g (vf100_0 : Tf100_0) (vf101_0 : Tf101_0) (α : Type) (x3 : Rows) (x4 : Int) (x6 : Rows) (x5 : Int) (kn : Int → Option α) (k1 : Int → Int → Option α) (k2 : Int → Bool → Option α) : Option α :=
 cK (decide (x5 < x4))
 (rowK x3 x5 [.str]
 (fun (x9 : ByteArray) => vf100_0 α x9
 (fun (x10 : Bool) => cK (!x10)
 (k1 x5 3)
 (gK (decide ((0 : Int) ≤ 0 ∧ 0 ≤ x5 ∧ x5 ≤ ((List.length x6 : Nat) : Int) ∧ allLen 1 x6 = true)) (vf101_0 α (List.drop 0 (List.take (Int.toNat x5) x6)) x9
 (fun (x11 : Bool) => cK x11
 (k1 x5 5)
 (kn (w64 (x5 + 1)))))))))
 (k2 x5 (decide (x5 < x4)))
noncomputable def S45_0_0 (α : Type) (x3 : Rows) (x4 : Int) (x6 : Rows) (x5 : Int) (kn : Int → Option α) (k1 : Int → Int → Option α) (k2 : Int → Bool → Option α) : Option α := S45_0_0g f100_0 f101_0 α x3 x4 x6 x5 kn k1 k2
noncomputable def R45_0_0 (α : Type) (x3 : Rows) (x4 : Int) (x6 : Rows) (k1 : Int → Int → Option α) (k2 : Int → Bool → Option α) : Nat → Int → Option α
 | 0, _ => none
 | n + 1, x5 => S45_0_0 α x3 x4 x6 x5 (R45_0_0 α x3 x4 x6 k1 k2 n) k1 k2
noncomputable def L45_0_0 (α : Type) (x3 : Rows) (x4 : Int) (x6 : Rows) (k1 : Int → Int → Option α) (k2 : Int → Bool → Option α) (x5 : Int) : Option α := R45_0_0 α x3 x4 x6 k1 k2 fuel x5
abbrev TL45_0_0 : Type 1 := (α : Type) → Rows → Int → Rows → (Int → Int → Option α) → (Int → Bool → Option α) → Int → Option α
def F45_0_0 (v : TL45_0_0) (α : Type) (K : Exit → St → Option α) : Rows → Int → Int → Rows → Rows → Option α := fun x3 x4 x5 x6 x7 => v α x3 x4 x6 (fun (y1 : Int) (y2 : Int) => u45_0_1 (K .ret) y1 y2) (fun (y1 : Int) (y2 : Bool) => u45_0_2 (K (.exit 0)) x3 x4 y1 y2 x6 x7) x5
theorem r45_0_0g (vf100_0 : Tf100_0) (vf101_0 : Tf101_0) (vf78_0 : Tf78_0)  (α : Type) (K : Exit → St → Option α) (Kn : St → Option α) (x3 : Rows) (x4 : Int) (x5 : Int) (x6 : Rows) (x7 : Rows) : u45_0_0 (fun σ => runM Try.prog (E45_0g vf100_0 vf101_0 vf78_0) sh45 (c45_0_13g ) (thenK (fun σ => tidyK td45_13 σ Kn) K) σ) x3 x4 x5 x6 x7 = S45_0_0g vf100_0 vf101_0 α x3 x4 x6 x5 (fun x5 => u45_0_0 Kn x3 x4 x5 x6 x7) (fun (y1 : Int) (y2 : Int) => u45_0_1 (K .ret) y1 y2) (fun (y1 : Int) (y2 : Bool) => u45_0_2 (K (.exit 0)) x3 x4 y1 y2 x6 x7) := by kernel_rfl
theorem r45_0_0 (α : Type) (K : Exit → St → Option α) (Kn : St → Option α) (x3 : Rows) (x4 : Int) (x5 : Int) (x6 : Rows) (x7 : Rows) : u45_0_0 (fun σ => runM Try.prog E45_0 sh45 c45_0_13 (thenK (fun σ => tidyK td45_13 σ Kn) K) σ) x3 x4 x5 x6 x7 = S45_0_0 α x3 x4 x6 x5 (fun x5 => u45_0_0 Kn x3 x4 x5 x6 x7) (fun (y1 : Int) (y2 : Int) => u45_0_1 (K .ret) y1 y2) (fun (y1 : Int) (y2 : Bool) => u45_0_2 (K (.exit 0)) x3 x4 y1 y2 x6 x7) := r45_0_0g f100_0 f101_0 f78_0 α K Kn x3 x4 x5 x6 x7
theorem t45_0_0 (α : Type) (K : Exit → St → Option α) : ∀ (n : Nat) (x3 : Rows) (x4 : Int) (x5 : Int) (x6 : Rows) (x7 : Rows), R45_0_0 α x3 x4 x6 (fun (y1 : Int) (y2 : Int) => u45_0_1 (K .ret) y1 y2) (fun (y1 : Int) (y2 : Bool) => u45_0_2 (K (.exit 0)) x3 x4 y1 y2 x6 x7) n x5 = u45_0_0 (loopT (runM Try.prog E45_0 sh45 c45_0_13) td45_13 K n) x3 x4 x5 x6 x7 := by
 intro n
 induction n with
 | zero => intros; rfl
 | succ n ih => intro x3 x4 x5 x6 x7; exact (congrArg (fun kn => S45_0_0 α x3 x4 x6 x5 kn (fun (y1 : Int) (y2 : Int) => u45_0_1 (K .ret) y1 y2) (fun (y1 : Int) (y2 : Bool) => u45_0_2 (K (.exit 0)) x3 x4 y1 y2 x6 x7)) (funext fun x5 => ih x3 x4 x5 x6 x7)).trans (r45_0_0 α K (loopT (runM Try.prog E45_0 sh45 c45_0_13) td45_13 K n) x3 x4 x5 x6 x7).symm
theorem m45_0_0 : ∀ (α : Type) (K : Exit → St → Option α), F45_0_0 L45_0_0 α K = p45_0_0.unc fun σ => loopT (runM Try.prog E45_0 sh45 c45_0_13) td45_13 K fuel σ := fun α K => funext fun x3 => funext fun x4 => funext fun x5 => funext fun x6 => funext fun x7 => t45_0_0 α K fuel x3 x4 x5 x6 x7

/-- etalon/grow.CheckChamber -/
abbrev Tf45_0 : Type 1 := (α : Type) → Rows → Rows → (Int → Int → Option α) → Option α
def f45_0g (vL45_0_0 : TL45_0_0) (vL45_0_1 : TL45_0_1) (α : Type) (x1 : Rows) (x2 : Rows) (k1 : Int → Int → Option α) : Option α :=
 cK (decide (8 < ((List.length x1 : Nat) : Int)))
 (k1 0 8)
 (vL45_0_0 α x1 ((List.length x1 : Nat) : Int) x1
 (fun (x12 : Int) (x13 : Int) => k1 x12 x13)
 (fun (x14 : Int) (x15 : Bool) => cK (decide (30 < ((List.length x2 : Nat) : Int)))
 (k1 0 8)
 (vL45_0_1 α x2 ((List.length x2 : Nat) : Int) x1
 (fun (x29 : Int) => k1 x29 6)
 (fun (x30 : Int) (x31 : Bool) => k1 0 0) 0)) 0)
noncomputable def f45_0 (α : Type) (x1 : Rows) (x2 : Rows) (k1 : Int → Int → Option α) : Option α := f45_0g L45_0_0 L45_0_1 α x1 x2 k1
def pa45_0 : PT (List DV) := pA [pV true [dL, dL]]
def Fn45_0 (v : Tf45_0) (α : Type) (k : List RV → Option α) : Rows → Rows → Option α := fun x1 x2 => v α x1 x2 (fun (y1 : Int) (y2 : Int) => ur45_0_0 k y1 y2)
noncomputable def cm45_0g (vL45_0_0 : TL45_0_0) (vL45_0_1 : TL45_0_1) : MCode := (.seq (.region r45_2 [] (some ⟨[1], true, [], []⟩)) (.seq (.seq (.region r45_5 [] (some ⟨[1, 11], true, [], []⟩)) (.cond (.tmp 11) (.seq (.region r45_8 [] (some ⟨[2, 3], true, [], []⟩)) .ret) .skip)) (.seq (.seq (.region r45_11 [] (some ⟨[1, 13, 14, 15], true, [], []⟩)) (.block 0 (.loop td45_13 [⟨p45_0_0, F45_0_0 vL45_0_0⟩] c45_0_13))) (.seq (.seq (.region r45_36 [] (some ⟨[1, 37], true, [], []⟩)) (.cond (.tmp 37) (.seq (.region r45_39 [] (some ⟨[2, 3], true, [], []⟩)) .ret) .skip)) (.seq (.seq (.region r45_42 [] (some ⟨[1, 39, 40, 41], true, [], []⟩)) (.block 3 (.loop td45_44 [⟨p45_0_3, F45_0_1 vL45_0_1⟩] c45_0_44))) (.seq (.region r45_60 [] (some ⟨[2, 3], true, [], []⟩)) .ret))))))
noncomputable def cm45_0 : MCode := cm45_0g L45_0_0 L45_0_1
theorem gm45_0 : cm45_0.Good Try.prog E45_0 sh45 := ⟨trivial, ⟨⟨trivial, ⟨⟨trivial, trivial⟩, trivial⟩⟩, ⟨⟨trivial, ⟨g45_0_13, m45_0_0, trivial⟩⟩, ⟨⟨trivial, ⟨⟨trivial, trivial⟩, trivial⟩⟩, ⟨⟨trivial, ⟨g45_0_44, m45_0_1, trivial⟩⟩, ⟨trivial, trivial⟩⟩⟩⟩⟩⟩
theorem fm45_0g (vf100_0 : Tf100_0) (vf101_0 : Tf101_0) (vf78_0 : Tf78_0) (vL45_0_0 : TL45_0_0) (vL45_0_1 : TL45_0_1) (α : Type) (k : List RV → Option α) : Fn45_0 (f45_0g vL45_0_0 vL45_0_1) α k = pa45_0.unc fun ds => fnM Try.prog (E45_0g vf100_0 vf101_0 vf78_0) sh45 (cm45_0g vL45_0_0 vL45_0_1) rs45 k ds := by kernel_rfl
theorem fm45_0 : ∀ (α : Type) (k : List RV → Option α), Fn45_0 f45_0 α k = pa45_0.unc fun ds => fnM Try.prog E45_0 sh45 cm45_0 rs45 k ds := fm45_0g f100_0 f101_0 f78_0 L45_0_0 L45_0_1

theorem is45 : FnIs Try.prog 45 nt45 tr45 tl45 cm45_0.erase rs45 := ⟨Try.f45, Try.func45, rfl, by kernel_rfl, by kernel_rfl, by kernel_rfl⟩
theorem io45_0 : InstOk Try.prog 45 nt45 ⟨pa45_0, Fn45_0 f45_0⟩ := inst_ok eo45_0 followsTry is45 ⟨⟨sh45, cm45_0, by kernel_rfl, gm45_0, fm45_0⟩⟩

/-! ### F104 (etalon/grow.chamber).broken -/
abbrev nt104 : Nat := 10
def sh104 : List (Nat × List Sh) := [(7, [.sl])]
def r104_2 : List AOper := [oO 2 (.box (.tmp 0)), oO 3 (.box (.tmp 1)), oO 4 (.mv (.const (.int .i64 0)))]
def r104_4 : List AOper := [oO 5 (.faddr 0 (.tmp 2)), oO 6 (.faddr 1 (.tmp 5)), oO 7 (.load false 1 (.tmp 6)), oO 8 (.mkfn 128 [(.tmp 3)]), oO 9 (.call 127 [(.tmp 7), (.tmp 8)]), oM 4 9]
def tr104 : List (Nat × Tidy) := [(0, ⟨[2, 3], true, [], []⟩), (1, ⟨[4], true, [], []⟩)]
def tl104 : List (Nat × Tidy) := []
def rs104 : List AResV := [.tmp 4]
def pr104_0_0 : PT (List RV) := pRs [pR false [rD (dI .i64)]]
def ur104_0_0 {β : Type} (g : List RV → β) : Int → β := pr104_0_0.unc g

def E104_0g (vf127_0 : Tf127_0) : EnvK := EnvK.of [⟨127, nt127, [⟨pa127_0, Fn127_0 vf127_0⟩]⟩] noSeq
noncomputable def E104_0 : EnvK := E104_0g f127_0
theorem eo104_0 : E104_0.Ok Try.prog := EnvK.of_ok noSeq_ok ⟨⟨io127_0, trivial⟩, trivial⟩

/-- (etalon/grow.chamber).broken -/
abbrev Tf104_0 : Type 1 := (α : Type) → Rows → Rows → Int → (Int → Option α) → Option α
def f104_0g (vf127_0 : Tf127_0) (α : Type) (x1 : Rows) (x2 : Rows) (x3 : Int) (k1 : Int → Option α) : Option α :=
 vf127_0 α x2 x3
 (fun (x4 : Int) => k1 x4)
noncomputable def f104_0 (α : Type) (x1 : Rows) (x2 : Rows) (x3 : Int) (k1 : Int → Option α) : Option α := f104_0g f127_0 α x1 x2 x3 k1
def pa104_0 : PT (List DV) := pA [pV true [dL, dL], pV false [(dI .i64)]]
def Fn104_0 (v : Tf104_0) (α : Type) (k : List RV → Option α) : Rows → Rows → Int → Option α := fun x1 x2 x3 => v α x1 x2 x3 (fun (y1 : Int) => ur104_0_0 k y1)
noncomputable def cm104_0g  : MCode := (.seq (.region r104_2 [] (some ⟨[2, 3], true, [], []⟩)) (.seq (.region r104_4 [] (some ⟨[4], true, [], []⟩)) .ret))
noncomputable def cm104_0 : MCode := cm104_0g 
theorem gm104_0 : cm104_0.Good Try.prog E104_0 sh104 := ⟨trivial, ⟨trivial, trivial⟩⟩
theorem fm104_0g (vf127_0 : Tf127_0)  (α : Type) (k : List RV → Option α) : Fn104_0 (f104_0g vf127_0) α k = pa104_0.unc fun ds => fnM Try.prog (E104_0g vf127_0) sh104 (cm104_0g ) rs104 k ds := by kernel_rfl
theorem fm104_0 : ∀ (α : Type) (k : List RV → Option α), Fn104_0 f104_0 α k = pa104_0.unc fun ds => fnM Try.prog E104_0 sh104 cm104_0 rs104 k ds := fm104_0g f127_0

theorem is104 : FnIs Try.prog 104 nt104 tr104 tl104 cm104_0.erase rs104 := ⟨Try.f104, Try.func104, rfl, by kernel_rfl, by kernel_rfl, by kernel_rfl⟩
theorem io104_0 : InstOk Try.prog 104 nt104 ⟨pa104_0, Fn104_0 f104_0⟩ := inst_ok eo104_0 followsTry is104 ⟨⟨sh104, cm104_0, by kernel_rfl, gm104_0, fm104_0⟩⟩

/-! ### F103 etalon/grow.open -/
abbrev nt103 : Nat := 43
def sh103 : List (Nat × List Sh) := [(13, [.sl, .sl]), (25, [.sl]), (26, [.sl]), (30, [.sl]), (40, [.sl, .sl])]
def r103_2 : List AOper := [oO 2 (.box (.tmp 0)), oO 4 (.alloc [.nils, .nils]), oO 5 (.mv (.const (.slice none 0 0))), oO 6 (.mv (.const (.int .i64 0)))]
def r103_5 : List AOper := [oO 13 (.load true 2 (.tmp 2)), oO 14 (.call 45 [(.tmp 13)]), oM 12 14, oO 15 (.extract 0 (.tmp 12)), oO 16 (.extract 1 (.tmp 12)), oM 7 15, oM 8 16]
def r103_7 : List AOper := [oM 17 8, oO 18 (.bin .neq 32 (.tmp 17) (.const (.int .i64 0)))]
def r103_10 : List AOper := [oO 19 (.build [.nils, .nils] []), oM 20 8, ⟨none, (.store 2 (.tmp 4) (.tmp 19)), none⟩, oO 5 (.mv (.const (.slice none 0 0))), oM 6 20]
def r103_12 : List AOper := [oO 9 (.mv (.const (.slice none 0 0)))]
def r103_15 : List AOper := [oM 21 1, oO 22 (.len (.tmp 21)), oO 23 (.mv (.const (.int .i64 0)))]
def td103_17 : Option Tidy := (some ⟨[2, 4, 9, 21, 22, 23], true, [⟨false, 9, 0, 20009, 1⟩, ⟨false, 21, 0, 20021, 1⟩, ⟨true, 2, 0, 30200, 1⟩, ⟨true, 2, 1, 30201, 4⟩, ⟨true, 4, 0, 30400, 1⟩, ⟨true, 4, 1, 30401, 4⟩], []⟩)
def r103_19 : List AOper := [oO 24 (.bin .lss 3 (.tmp 23) (.tmp 22))]
def r103_25 : List AOper := [oO 25 (.iaddr 1 none (.tmp 21) (.tmp 23)), oO 26 (.load false 1 (.tmp 25)), oM 11 26]
def r103_28 : List AOper := [oM 27 11, oO 28 (.len (.tmp 27)), oO 29 (.faddr 0 (.tmp 2)), oO 30 (.load false 1 (.tmp 29)), oO 31 (.len (.tmp 30)), oO 32 (.bin .neq 3 (.tmp 28) (.tmp 31))]
def r103_31 : List AOper := [oO 33 (.build [.nils, .nils] []), ⟨none, (.store 2 (.tmp 4) (.tmp 33)), none⟩, oO 5 (.mv (.const (.slice none 0 0))), oO 6 (.mv (.const (.int .i64 12)))]
def r103_32 : List AOper := [oM 34 9, oM 35 11, oO 36 (.call 126 [(.tmp 35)]), oO 37 (.bslice 1 1 [(.v (.int .i64 0))] [(0, (.tmp 36))]), oO 38 (.append 1 8 (.tmp 34) (.tmp 37)), oM 9 38]
def r103_33 : List AOper := [oO 39 (.bin .add 3 (.tmp 23) (.const (.int .i64 1))), oM 23 39]
def r103_35 : List AOper := [oO 40 (.load true 2 (.tmp 2)), oO 41 (.build [.nils, .nils] [(0, 2, (.tmp 40))]), oM 42 9, ⟨none, (.store 2 (.tmp 4) (.tmp 41)), none⟩, oM 5 42, oO 6 (.mv (.const (.int .i64 0)))]
def tr103 : List (Nat × Tidy) := [(0, ⟨[1, 2, 4], true, [⟨true, 4, 0, 30400, 1⟩, ⟨true, 4, 1, 30401, 4⟩], []⟩), (1, ⟨[1, 2, 4, 8], true, [⟨true, 4, 0, 30400, 1⟩, ⟨true, 4, 1, 30401, 4⟩], []⟩), (2, ⟨[1, 2, 4, 8, 18], true, [⟨true, 4, 0, 30400, 1⟩, ⟨true, 4, 1, 30401, 4⟩], []⟩), (3, ⟨[4, 5, 6], true, [⟨false, 5, 0, 20005, 1⟩, ⟨true, 4, 0, 30400, 1⟩, ⟨true, 4, 1, 30401, 4⟩], []⟩), (4, ⟨[1, 2, 4, 9], true, [⟨true, 4, 0, 30400, 1⟩, ⟨true, 4, 1, 30401, 4⟩], []⟩), (5, ⟨[2, 4, 9, 21, 22, 23], true, [⟨true, 4, 0, 30400, 1⟩, ⟨true, 4, 1, 30401, 4⟩], []⟩), (6, ⟨[2, 4, 9, 21, 22, 23, 24], true, [⟨true, 4, 0, 30400, 1⟩, ⟨true, 4, 1, 30401, 4⟩], []⟩), (7, ⟨[2, 4, 9, 11, 21, 22, 23], true, [⟨true, 4, 0, 30400, 1⟩, ⟨true, 4, 1, 30401, 4⟩], []⟩), (8, ⟨[2, 4, 9, 11, 21, 22, 23, 32], true, [⟨true, 4, 0, 30400, 1⟩, ⟨true, 4, 1, 30401, 4⟩], []⟩), (9, ⟨[4, 5, 6], true, [⟨false, 5, 0, 20005, 1⟩, ⟨true, 4, 0, 30400, 1⟩, ⟨true, 4, 1, 30401, 4⟩], []⟩), (10, ⟨[2, 4, 9, 21, 22, 23], true, [⟨true, 4, 0, 30400, 1⟩, ⟨true, 4, 1, 30401, 4⟩], []⟩), (11, ⟨[2, 4, 9, 21, 22, 23], true, [⟨true, 4, 0, 30400, 1⟩, ⟨true, 4, 1, 30401, 4⟩], []⟩), (12, ⟨[4, 5, 6], true, [⟨false, 5, 0, 20005, 1⟩, ⟨true, 4, 0, 30400, 1⟩, ⟨true, 4, 1, 30401, 4⟩], []⟩)]
def tl103 : List (Nat × Tidy) := [(6, ⟨[2, 4, 9, 21, 22, 23], true, [⟨false, 9, 0, 20009, 1⟩, ⟨false, 21, 0, 20021, 1⟩, ⟨true, 2, 0, 30200, 1⟩, ⟨true, 2, 1, 30201, 4⟩, ⟨true, 4, 0, 30400, 1⟩, ⟨true, 4, 1, 30401, 4⟩], []⟩)]
def rs103 : List AResV := [.cell 4 true 2, .tmp 5, .tmp 6]
def p103_0_0 : PT St := pS [sl 2 (aV false [(cPtr 2 0)]), sl 4 (aV false [(cPtr 4 0)]), sl 9 (aV false [(cRef 20009)]), sl 21 (aV false [(cD dL)]), sl 22 (aV false [(cD (dI .i64))]), sl 23 (aV false [(cD (dI .i64))])] [eBox 2 [(cD dL), (cD dL)], eBox 4 [(cRef 30400), (cRef 30401)], eOwn 30400 1, eOwn 30401 4, eOwn 20009 1]
def u103_0_0 {β : Type} (g : St → β) : Rows → Int → Int → Rows → Rows → Rows → Rows → Rows → β := p103_0_0.unc g

def p103_0_1 : PT St := pS [sl 4 (aV false [(cPtr 4 0)]), sl 5 (aV false [(cRef 20005)]), sl 6 (aV false [(cD (dI .i64))])] [eBox 4 [(cRef 30400), (cRef 30401)], eOwn 30400 1, eOwn 30401 4, eOwn 20005 1]
def u103_0_1 {β : Type} (g : St → β) : Int → Rows → Rows → Rows → β := p103_0_1.unc g

def p103_0_2 : PT St := pS [sl 2 (aV false [(cPtr 2 0)]), sl 4 (aV false [(cPtr 4 0)]), sl 9 (aV false [(cRef 20009)]), sl 21 (aV false [(cD dL)]), sl 22 (aV false [(cD (dI .i64))]), sl 23 (aV false [(cD (dI .i64))]), sl 24 (aV false [(cD dB)])] [eBox 2 [(cD dL), (cD dL)], eBox 4 [(cRef 30400), (cRef 30401)], eOwn 30400 1, eOwn 30401 4, eOwn 20009 1]
def u103_0_2 {β : Type} (g : St → β) : Rows → Int → Int → Bool → Rows → Rows → Rows → Rows → Rows → β := p103_0_2.unc g

def pr103_0_0 : PT (List RV) := pRs [pR true [rO 1, rO 4], pR false [rO 1], pR false [rD (dI .i64)]]
def ur103_0_0 {β : Type} (g : List RV → β) : Rows → Rows → Rows → Int → β := pr103_0_0.unc g

def pr103_0_1 : PT (List RV) := pRs [pR true [rD dL, rD dL], pR false [rO 1], pR false [rD (dI .i64)]]
def ur103_0_1 {β : Type} (g : List RV → β) : Rows → Rows → Rows → Int → β := pr103_0_1.unc g

def E103_0g (vf45_0 : Tf45_0) (vf126_0 : Tf126_0) : EnvK := EnvK.of [⟨45, nt45, [⟨pa45_0, Fn45_0 vf45_0⟩]⟩, ⟨126, nt126, [⟨pa126_0, Fn126_0 vf126_0⟩]⟩] noSeq
noncomputable def E103_0 : EnvK := E103_0g f45_0 f126_0
theorem eo103_0 : E103_0.Ok Try.prog := EnvK.of_ok noSeq_ok ⟨⟨io45_0, trivial⟩, ⟨io126_0, trivial⟩, trivial⟩

noncomputable def c103_0_17g  : MCode := (.seq (.region r103_19 [] (some ⟨[2, 4, 9, 21, 22, 23, 24], true, [⟨true, 4, 0, 30400, 1⟩, ⟨true, 4, 1, 30401, 4⟩], []⟩)) (.seq (.cond (.tmp 24) .skip (.exit 0)) (.seq (.block 1 (.seq (.region r103_25 [] (some ⟨[2, 4, 9, 11, 21, 22, 23], true, [⟨true, 4, 0, 30400, 1⟩, ⟨true, 4, 1, 30401, 4⟩], []⟩)) (.seq (.seq (.region r103_28 [] (some ⟨[2, 4, 9, 11, 21, 22, 23, 32], true, [⟨true, 4, 0, 30400, 1⟩, ⟨true, 4, 1, 30401, 4⟩], []⟩)) (.cond (.tmp 32) (.seq (.region r103_31 [] (some ⟨[4, 5, 6], true, [⟨false, 5, 0, 20005, 1⟩, ⟨true, 4, 0, 30400, 1⟩, ⟨true, 4, 1, 30401, 4⟩], []⟩)) .ret) .skip)) (.region r103_32 [] (some ⟨[2, 4, 9, 21, 22, 23], true, [⟨true, 4, 0, 30400, 1⟩, ⟨true, 4, 1, 30401, 4⟩], []⟩))))) (.region r103_33 [] (some ⟨[2, 4, 9, 21, 22, 23], true, [⟨true, 4, 0, 30400, 1⟩, ⟨true, 4, 1, 30401, 4⟩], []⟩)))))
noncomputable def c103_0_17 : MCode := c103_0_17g 
theorem g103_0_17 : c103_0_17.Good Try.prog E103_0 sh103 := ⟨trivial, ⟨⟨trivial, trivial⟩, ⟨⟨trivial, ⟨⟨trivial, ⟨⟨trivial, trivial⟩, trivial⟩⟩, trivial⟩⟩, trivial⟩⟩⟩
--CODE 17 0
def S103_0_0g (vf126_0 : Tf126_0) (α : Type) (x6 : Rows) (x7 : Int) (x9 : Rows) (x8 : Int) (x13 : Rows) (kn : Int → Rows → Option α) (k1 : Option α) (k2 : Int → Bool → Rows → Option α) : Option α :=
 cK (decide (x8 < x7))
 (rowK x6 x8 [.sl]
 (fun (x15 : Rows) => cK (((List.length x15 : Nat) : Int) != ((List.length x9 : Nat) : Int))
 (k1)
 (vf126_0 α x15
 (fun (x16 : Int) => gK (apOk 1 8 x13 [[DC.v (.int .i64 x16)]]) (kn (w64 (x8 + 1)) (x13 ++ [[DC.v (.int .i64 x16)]]))))))
 (k2 x8 (decide (x8 < x7)) x13)
noncomputable def S103_0_0 (α : Type) (x6 : Rows) (x7 : Int) (x9 : Rows) (x8 : Int) (x13 : Rows) (kn : Int → Rows → Option α) (k1 : Option α) (k2 : Int → Bool → Rows → Option α) : Option α := S103_0_0g f126_0 α x6 x7 x9 x8 x13 kn k1 k2
noncomputable def R103_0_0 (α : Type) (x6 : Rows) (x7 : Int) (x9 : Rows) (k1 : Option α) (k2 : Int → Bool → Rows → Option α) : Nat → Int → Rows → Option α
 | 0, _, _ => none
 | n + 1, x8, x13 => S103_0_0 α x6 x7 x9 x8 x13 (R103_0_0 α x6 x7 x9 k1 k2 n) k1 k2
noncomputable def L103_0_0 (α : Type) (x6 : Rows) (x7 : Int) (x9 : Rows) (k1 : Option α) (k2 : Int → Bool → Rows → Option α) (x8 : Int) (x13 : Rows) : Option α := R103_0_0 α x6 x7 x9 k1 k2 fuel x8 x13
abbrev TL103_0_0 : Type 1 := (α : Type) → Rows → Int → Rows → (Option α) → (Int → Bool → Rows → Option α) → Int → Rows → Option α
def F103_0_0 (v : TL103_0_0) (α : Type) (K : Exit → St → Option α) : Rows → Int → Int → Rows → Rows → Rows → Rows → Rows → Option α := fun x6 x7 x8 x9 x10 x11 x12 x13 => v α x6 x7 x9 (u103_0_1 (K .ret) 12 ([] : Rows) ([] : Rows) ([] : Rows)) (fun (y1 : Int) (y2 : Bool) (y3 : Rows) => u103_0_2 (K (.exit 0)) x6 x7 y1 y2 x9 x10 x11 x12 y3) x8 x13
theorem r103_0_0g (vf45_0 : Tf45_0) (vf126_0 : Tf126_0)  (α : Type) (K : Exit → St → Option α) (Kn : St → Option α) (x6 : Rows) (x7 : Int) (x8 : Int) (x9 : Rows) (x10 : Rows) (x11 : Rows) (x12 : Rows) (x13 : Rows) : u103_0_0 (fun σ => runM Try.prog (E103_0g vf45_0 vf126_0) sh103 (c103_0_17g ) (thenK (fun σ => tidyK td103_17 σ Kn) K) σ) x6 x7 x8 x9 x10 x11 x12 x13 = S103_0_0g vf126_0 α x6 x7 x9 x8 x13 (fun x8 x13 => u103_0_0 Kn x6 x7 x8 x9 x10 x11 x12 x13) (u103_0_1 (K .ret) 12 ([] : Rows) ([] : Rows) ([] : Rows)) (fun (y1 : Int) (y2 : Bool) (y3 : Rows) => u103_0_2 (K (.exit 0)) x6 x7 y1 y2 x9 x10 x11 x12 y3) := by kernel_rfl
theorem r103_0_0 (α : Type) (K : Exit → St → Option α) (Kn : St → Option α) (x6 : Rows) (x7 : Int) (x8 : Int) (x9 : Rows) (x10 : Rows) (x11 : Rows) (x12 : Rows) (x13 : Rows) : u103_0_0 (fun σ => runM Try.prog E103_0 sh103 c103_0_17 (thenK (fun σ => tidyK td103_17 σ Kn) K) σ) x6 x7 x8 x9 x10 x11 x12 x13 = S103_0_0 α x6 x7 x9 x8 x13 (fun x8 x13 => u103_0_0 Kn x6 x7 x8 x9 x10 x11 x12 x13) (u103_0_1 (K .ret) 12 ([] : Rows) ([] : Rows) ([] : Rows)) (fun (y1 : Int) (y2 : Bool) (y3 : Rows) => u103_0_2 (K (.exit 0)) x6 x7 y1 y2 x9 x10 x11 x12 y3) := r103_0_0g f45_0 f126_0 α K Kn x6 x7 x8 x9 x10 x11 x12 x13
theorem t103_0_0 (α : Type) (K : Exit → St → Option α) : ∀ (n : Nat) (x6 : Rows) (x7 : Int) (x8 : Int) (x9 : Rows) (x10 : Rows) (x11 : Rows) (x12 : Rows) (x13 : Rows), R103_0_0 α x6 x7 x9 (u103_0_1 (K .ret) 12 ([] : Rows) ([] : Rows) ([] : Rows)) (fun (y1 : Int) (y2 : Bool) (y3 : Rows) => u103_0_2 (K (.exit 0)) x6 x7 y1 y2 x9 x10 x11 x12 y3) n x8 x13 = u103_0_0 (loopT (runM Try.prog E103_0 sh103 c103_0_17) td103_17 K n) x6 x7 x8 x9 x10 x11 x12 x13 := by
 intro n
 induction n with
 | zero => intros; rfl
 | succ n ih => intro x6 x7 x8 x9 x10 x11 x12 x13; exact (congrArg (fun kn => S103_0_0 α x6 x7 x9 x8 x13 kn (u103_0_1 (K .ret) 12 ([] : Rows) ([] : Rows) ([] : Rows)) (fun (y1 : Int) (y2 : Bool) (y3 : Rows) => u103_0_2 (K (.exit 0)) x6 x7 y1 y2 x9 x10 x11 x12 y3)) (funext fun x8 => funext fun x13 => ih x6 x7 x8 x9 x10 x11 x12 x13)).trans (r103_0_0 α K (loopT (runM Try.prog E103_0 sh103 c103_0_17) td103_17 K n) x6 x7 x8 x9 x10 x11 x12 x13).symm
theorem m103_0_0 : ∀ (α : Type) (K : Exit → St → Option α), F103_0_0 L103_0_0 α K = p103_0_0.unc fun σ => loopT (runM Try.prog E103_0 sh103 c103_0_17) td103_17 K fuel σ := fun α K => funext fun x6 => funext fun x7 => funext fun x8 => funext fun x9 => funext fun x10 => funext fun x11 => funext fun x12 => funext fun x13 => t103_0_0 α K fuel x6 x7 x8 x9 x10 x11 x12 x13

/-- etalon/grow.open -/
abbrev Tf103_0 : Type 1 := (α : Type) → Rows → Rows → Rows → (Int → Option α) → (Rows → Rows → Rows → Option α) → Option α
def f103_0g (vL103_0_0 : TL103_0_0) (vf45_0 : Tf45_0) (α : Type) (x1 : Rows) (x2 : Rows) (x3 : Rows) (k1 : Int → Option α) (k2 : Rows → Rows → Rows → Option α) : Option α :=
 vf45_0 α x1 x2
 (fun (x4 : Int) (x5 : Int) => cK (x5 != 0)
 (k1 x5)
 (vL103_0_0 α x3 ((List.length x3 : Nat) : Int) x1
 (k1 12)
 (fun (x17 : Int) (x18 : Bool) (x19 : Rows) => k2 x1 x2 x19) 0 ([] : Rows)))
noncomputable def f103_0 (α : Type) (x1 : Rows) (x2 : Rows) (x3 : Rows) (k1 : Int → Option α) (k2 : Rows → Rows → Rows → Option α) : Option α := f103_0g L103_0_0 f45_0 α x1 x2 x3 k1 k2
def pa103_0 : PT (List DV) := pA [pV true [dL, dL], pV false [dL]]
def Fn103_0 (v : Tf103_0) (α : Type) (k : List RV → Option α) : Rows → Rows → Rows → Option α := fun x1 x2 x3 => v α x1 x2 x3 (fun (y1 : Int) => ur103_0_0 k ([] : Rows) ([] : Rows) ([] : Rows) y1) (fun (y1 : Rows) (y2 : Rows) (y3 : Rows) => ur103_0_1 k y1 y2 y3 0)
noncomputable def cm103_0g (vL103_0_0 : TL103_0_0) : MCode := (.seq (.region r103_2 [] (some ⟨[1, 2, 4], true, [⟨true, 4, 0, 30400, 1⟩, ⟨true, 4, 1, 30401, 4⟩], []⟩)) (.seq (.seq (.region r103_5 [] (some ⟨[1, 2, 4, 8], true, [⟨true, 4, 0, 30400, 1⟩, ⟨true, 4, 1, 30401, 4⟩], []⟩)) (.seq (.region r103_7 [] (some ⟨[1, 2, 4, 8, 18], true, [⟨true, 4, 0, 30400, 1⟩, ⟨true, 4, 1, 30401, 4⟩], []⟩)) (.cond (.tmp 18) (.seq (.region r103_10 [] (some ⟨[4, 5, 6], true, [⟨false, 5, 0, 20005, 1⟩, ⟨true, 4, 0, 30400, 1⟩, ⟨true, 4, 1, 30401, 4⟩], []⟩)) .ret) .skip))) (.seq (.region r103_12 [] (some ⟨[1, 2, 4, 9], true, [⟨true, 4, 0, 30400, 1⟩, ⟨true, 4, 1, 30401, 4⟩], []⟩)) (.seq (.seq (.region r103_15 [] (some ⟨[2, 4, 9, 21, 22, 23], true, [⟨true, 4, 0, 30400, 1⟩, ⟨true, 4, 1, 30401, 4⟩], []⟩)) (.block 0 (.loop td103_17 [⟨p103_0_0, F103_0_0 vL103_0_0⟩] c103_0_17))) (.seq (.region r103_35 [] (some ⟨[4, 5, 6], true, [⟨false, 5, 0, 20005, 1⟩, ⟨true, 4, 0, 30400, 1⟩, ⟨true, 4, 1, 30401, 4⟩], []⟩)) .ret)))))
noncomputable def cm103_0 : MCode := cm103_0g L103_0_0
theorem gm103_0 : cm103_0.Good Try.prog E103_0 sh103 := ⟨trivial, ⟨⟨trivial, ⟨trivial, ⟨⟨trivial, trivial⟩, trivial⟩⟩⟩, ⟨trivial, ⟨⟨trivial, ⟨g103_0_17, m103_0_0, trivial⟩⟩, ⟨trivial, trivial⟩⟩⟩⟩⟩
theorem fm103_0g (vf45_0 : Tf45_0) (vf126_0 : Tf126_0) (vL103_0_0 : TL103_0_0) (α : Type) (k : List RV → Option α) : Fn103_0 (f103_0g vL103_0_0 vf45_0) α k = pa103_0.unc fun ds => fnM Try.prog (E103_0g vf45_0 vf126_0) sh103 (cm103_0g vL103_0_0) rs103 k ds := by kernel_rfl
theorem fm103_0 : ∀ (α : Type) (k : List RV → Option α), Fn103_0 f103_0 α k = pa103_0.unc fun ds => fnM Try.prog E103_0 sh103 cm103_0 rs103 k ds := fm103_0g f45_0 f126_0 L103_0_0

theorem is103 : FnIs Try.prog 103 nt103 tr103 tl103 cm103_0.erase rs103 := ⟨Try.f103, Try.func103, rfl, by kernel_rfl, by kernel_rfl, by kernel_rfl⟩
theorem io103_0 : InstOk Try.prog 103 nt103 ⟨pa103_0, Fn103_0 f103_0⟩ := inst_ok eo103_0 followsTry is103 ⟨⟨sh103, cm103_0, by kernel_rfl, gm103_0, fm103_0⟩⟩

/-! ### F116 (etalon/grow.chamber).safe -/
abbrev nt116 : Nat := 9
def sh116 : List (Nat × List Sh) := [(5, [.sl, .sl])]
def r116_2 : List AOper := [oO 2 (.box (.tmp 0)), oO 4 (.mv (.const (.bool false)))]
def r116_4 : List AOper := [oO 5 (.load true 2 (.tmp 2)), oM 6 1, oO 7 (.call 104 [(.tmp 5), (.tmp 6)]), oO 8 (.bin .lss 3 (.tmp 7) (.const (.int .i64 0))), oM 4 8]
def tr116 : List (Nat × Tidy) := [(0, ⟨[1, 2], true, [], []⟩), (1, ⟨[4], true, [], []⟩)]
def tl116 : List (Nat × Tidy) := []
def rs116 : List AResV := [.tmp 4]
def pr116_0_0 : PT (List RV) := pRs [pR false [rD dB]]
def ur116_0_0 {β : Type} (g : List RV → β) : Bool → β := pr116_0_0.unc g

def E116_0g (vf104_0 : Tf104_0) : EnvK := EnvK.of [⟨104, nt104, [⟨pa104_0, Fn104_0 vf104_0⟩]⟩] noSeq
noncomputable def E116_0 : EnvK := E116_0g f104_0
theorem eo116_0 : E116_0.Ok Try.prog := EnvK.of_ok noSeq_ok ⟨⟨io104_0, trivial⟩, trivial⟩

/-- (etalon/grow.chamber).safe -/
abbrev Tf116_0 : Type 1 := (α : Type) → Rows → Rows → Int → (Bool → Option α) → Option α
def f116_0g (vf104_0 : Tf104_0) (α : Type) (x1 : Rows) (x2 : Rows) (x3 : Int) (k1 : Bool → Option α) : Option α :=
 vf104_0 α x1 x2 x3
 (fun (x4 : Int) => k1 (decide (x4 < 0)))
noncomputable def f116_0 (α : Type) (x1 : Rows) (x2 : Rows) (x3 : Int) (k1 : Bool → Option α) : Option α := f116_0g f104_0 α x1 x2 x3 k1
def pa116_0 : PT (List DV) := pA [pV true [dL, dL], pV false [(dI .i64)]]
def Fn116_0 (v : Tf116_0) (α : Type) (k : List RV → Option α) : Rows → Rows → Int → Option α := fun x1 x2 x3 => v α x1 x2 x3 (fun (y1 : Bool) => ur116_0_0 k y1)
noncomputable def cm116_0g  : MCode := (.seq (.region r116_2 [] (some ⟨[1, 2], true, [], []⟩)) (.seq (.region r116_4 [] (some ⟨[4], true, [], []⟩)) .ret))
noncomputable def cm116_0 : MCode := cm116_0g 
theorem gm116_0 : cm116_0.Good Try.prog E116_0 sh116 := ⟨trivial, ⟨trivial, trivial⟩⟩
theorem fm116_0g (vf104_0 : Tf104_0)  (α : Type) (k : List RV → Option α) : Fn116_0 (f116_0g vf104_0) α k = pa116_0.unc fun ds => fnM Try.prog (E116_0g vf104_0) sh116 (cm116_0g ) rs116 k ds := by kernel_rfl
theorem fm116_0 : ∀ (α : Type) (k : List RV → Option α), Fn116_0 f116_0 α k = pa116_0.unc fun ds => fnM Try.prog E116_0 sh116 cm116_0 rs116 k ds := fm116_0g f104_0

theorem is116 : FnIs Try.prog 116 nt116 tr116 tl116 cm116_0.erase rs116 := ⟨Try.f116, Try.func116, rfl, by kernel_rfl, by kernel_rfl, by kernel_rfl⟩
theorem io116_0 : InstOk Try.prog 116 nt116 ⟨pa116_0, Fn116_0 f116_0⟩ := inst_ok eo116_0 followsTry is116 ⟨⟨sh116, cm116_0, by kernel_rfl, gm116_0, fm116_0⟩⟩

/-! ### F131: an iterator -/
abbrev Tq131 : Type := Rows → Rows → Int → Option (List (List Value))
def pq131 : PT (List DC) := PT.ofL [(dP [dL, dL] 0), (dP [(dI .i64)] 0)]
noncomputable def E131q : EnvK := EnvK.of [⟨105, nt105, [⟨pa105_0, Fn105_0 f105_0⟩]⟩, ⟨116, nt116, [⟨pa116_0, Fn116_0 f116_0⟩]⟩] noSeq
theorem eo131q : E131q.Ok Try.prog := EnvK.of_ok noSeq_ok ⟨⟨io105_0, trivial⟩, ⟨io116_0, trivial⟩, trivial⟩
noncomputable def q131 (a b : Rows) (s : Int) : Option (List (List Value)) := nextSq E131q.env 131 [.cref [.sl a, .sl b] 0, .cref [.v (.int .i64 s)] 0]
theorem sqok131 : SeqOk Try.prog ⟨131, pq131, q131⟩ := fun caps xs h => by
 have e : q131 = pq131.unc fun caps => nextSq E131q.env 131 caps := rfl
 simp only at h
 rw [e] at h
 rcases pq131.law caps with hl | hr
 · rw [hl] at h; exact next_ok _ eo131q.ok 131 caps xs (by simpa using h)
 · rw [hr] at h; cases h

/-! ### F109 etalon/grow.openChange -/
abbrev nt109 : Nat := 47
def sh109 : List (Nat × List Sh) := [(11, [.sl, .sl]), (13, [.sl]), (15, [.sl]), (25, [.sl, .sl]), (27, [.int .i64]), (28, [.int .i64]), (30, [.int .i64]), (31, [.int .i64]), (33, [.sl, .sl]), (35, [.int .i64]), (39, [.sl, .sl]), (41, [.int .i64]), (46, [.sl, .sl, .int .i64, .int .i64])]
def r109_2 : List AOper := [oO 2 (.box (.tmp 0)), oO 3 (.box (.tmp 1)), oO 4 (.alloc [.nils, .nils, (.d (.v (.int .i64 0))), (.d (.v (.int .i64 0)))]), oO 5 (.mv (.const (.int .i64 0)))]
def r109_4 : List AOper := [oO 11 (.load true 2 (.tmp 2)), oO 12 (.faddr 0 (.tmp 3)), oO 13 (.load false 1 (.tmp 12)), oO 14 (.faddr 1 (.tmp 3)), oO 15 (.load false 1 (.tmp 14)), oO 16 (.bslice 1 2 [(.sl [])] [(0, (.tmp 13)), (1, (.tmp 15))]), oO 17 (.call 103 [(.tmp 11), (.tmp 16)]), oM 10 17, oO 18 (.extract 0 (.tmp 10)), oO 19 (.extract 1 (.tmp 10)), oO 20 (.extract 2 (.tmp 10)), oO 6 (.alloc [.nils, .nils]), ⟨none, (.store 2 (.tmp 6) (.tmp 18)), none⟩, oM 7 19, oM 8 20]
def r109_7 : List AOper := [oM 21 8, oO 22 (.bin .neq 32 (.tmp 21) (.const (.int .i64 0)))]
def r109_10 : List AOper := [oO 23 (.build [.nils, .nils, (.d (.v (.int .i64 0))), (.d (.v (.int .i64 0)))] []), oM 24 8, ⟨none, (.store 4 (.tmp 4) (.tmp 23)), none⟩, oM 5 24]
def r109_12 : List AOper := [oO 25 (.load true 2 (.tmp 6)), oM 26 7, oO 27 (.iaddr 1 none (.tmp 26) (.const (.int .i64 0))), oO 28 (.load false 1 (.tmp 27)), oM 29 7, oO 30 (.iaddr 1 none (.tmp 29) (.const (.int .i64 1))), oO 31 (.load false 1 (.tmp 30)), oO 32 (.build [.nils, .nils, (.d (.v (.int .i64 0))), (.d (.v (.int .i64 0)))] [(0, 2, (.tmp 25)), (2, 1, (.tmp 28)), (3, 1, (.tmp 31))]), oO 9 (.alloc [.nils, .nils, (.d (.v (.int .i64 0))), (.d (.v (.int .i64 0)))]), ⟨none, (.store 4 (.tmp 9) (.tmp 32)), none⟩]
def r109_15 : List AOper := [oO 33 (.load true 2 (.tmp 6)), oO 34 (.faddr 2 (.tmp 9)), oO 35 (.load false 1 (.tmp 34)), oO 36 (.call 116 [(.tmp 33), (.tmp 35)]), oO 37 (.pure (oB (.unOp .not 4 (.tmp 36)) 4)), oM 38 37, ⟨(some 39), (.load true 2 (.tmp 6)), (some (38, false))⟩, ⟨(some 40), (.faddr 3 (.tmp 9)), (some (38, false))⟩, ⟨(some 41), (.load false 1 (.tmp 40)), (some (38, false))⟩, ⟨(some 42), (.call 116 [(.tmp 39), (.tmp 41)]), (some (38, false))⟩, ⟨(some 43), (.pure (oB (.unOp .not 4 (.tmp 42)) 4)), (some (38, false))⟩, oO 44 (.pick (.tmp 38) (.const (.bool true)) (.tmp 43))]
def r109_18 : List AOper := [oO 45 (.build [.nils, .nils, (.d (.v (.int .i64 0))), (.d (.v (.int .i64 0)))] []), ⟨none, (.store 4 (.tmp 4) (.tmp 45)), none⟩, oO 5 (.mv (.const (.int .i64 24)))]
def r109_20 : List AOper := [oO 46 (.load true 4 (.tmp 9)), ⟨none, (.store 4 (.tmp 4) (.tmp 46)), none⟩, oO 5 (.mv (.const (.int .i64 0)))]
def tr109 : List (Nat × Tidy) := [(0, ⟨[2, 3, 4], true, [⟨true, 4, 0, 30400, 1⟩, ⟨true, 4, 1, 30401, 4⟩], []⟩), (1, ⟨[4, 6, 7, 8], true, [⟨true, 4, 0, 30400, 1⟩, ⟨true, 4, 1, 30401, 4⟩], []⟩), (2, ⟨[4, 6, 7, 8, 22], true, [⟨true, 4, 0, 30400, 1⟩, ⟨true, 4, 1, 30401, 4⟩], []⟩), (3, ⟨[4, 5], true, [⟨true, 4, 0, 30400, 1⟩, ⟨true, 4, 1, 30401, 4⟩], []⟩), (4, ⟨[4, 6, 9], true, [⟨true, 4, 0, 30400, 1⟩, ⟨true, 4, 1, 30401, 4⟩], []⟩), (5, ⟨[4, 9, 44], true, [⟨true, 4, 0, 30400, 1⟩, ⟨true, 4, 1, 30401, 4⟩], []⟩), (6, ⟨[4, 5], true, [⟨true, 4, 0, 30400, 1⟩, ⟨true, 4, 1, 30401, 4⟩], []⟩), (7, ⟨[4, 5], true, [⟨true, 4, 0, 30400, 1⟩, ⟨true, 4, 1, 30401, 4⟩], []⟩)]
def tl109 : List (Nat × Tidy) := []
def rs109 : List AResV := [.cell 4 true 4, .tmp 5]
def p109_0_0 : PT St := pS [sl 2 (aV false [(cPtr 2 0)]), sl 3 (aV false [(cPtr 3 0)]), sl 4 (aV false [(cPtr 4 0)])] [eBox 2 [(cD dL), (cD dL)], eBox 3 [(cD dL), (cD dL)], eBox 4 [(cRef 30400), (cRef 30401), (cD (dI .i64)), (cD (dI .i64))], eOwn 30400 1, eOwn 30401 4]
def u109_0_0 {β : Type} (g : St → β) : Rows → Rows → Rows → Rows → Int → Int → Rows → Rows → β := p109_0_0.unc g

def p109_0_1 : PT St := pS [sl 4 (aV false [(cPtr 4 0)]), sl 6 (aV false [(cPtr 6 0)]), sl 7 (aV false [(cRef 640017)]), sl 8 (aV false [(cD (dI .i64))])] [eBox 4 [(cRef 30400), (cRef 30401), (cD (dI .i64)), (cD (dI .i64))], eOwn 30400 1, eOwn 30401 4, eBox 6 [(cRef 17), (cRef 10017)], eOwn 17 1, eOwn 10017 4, eOwn 640017 1]
def u109_0_1 {β : Type} (g : St → β) : Int → Int → Int → Rows → Rows → Rows → Rows → Rows → β := p109_0_1.unc g

def p109_0_2 : PT St := pS [sl 4 (aV false [(cPtr 4 0)]), sl 6 (aV false [(cPtr 6 0)]), sl 7 (aV false [(cRef 640017)]), sl 8 (aV false [(cD (dI .i64))])] [eBox 4 [(cRef 30400), (cRef 30401), (cD (dI .i64)), (cD (dI .i64))], eOwn 30400 1, eOwn 30401 4, eBox 6 [(cD dL), (cD dL)], eOwn 640017 1]
def u109_0_2 {β : Type} (g : St → β) : Int → Int → Int → Rows → Rows → Rows → Rows → Rows → β := p109_0_2.unc g

def pr109_0_0 : PT (List RV) := pRs [pR true [rO 1, rO 4, rD (dI .i64), rD (dI .i64)], pR false [rD (dI .i64)]]
def ur109_0_0 {β : Type} (g : List RV → β) : Rows → Rows → Int → Int → Int → β := pr109_0_0.unc g

def pr109_0_1 : PT (List RV) := pRs [pR true [rD dL, rD dL, rD (dI .i64), rD (dI .i64)], pR false [rD (dI .i64)]]
def ur109_0_1 {β : Type} (g : List RV → β) : Rows → Rows → Int → Int → Int → β := pr109_0_1.unc g

def E109_0g (vf103_0 : Tf103_0) (vf116_0 : Tf116_0) : EnvK := EnvK.of [⟨103, nt103, [⟨pa103_0, Fn103_0 vf103_0⟩]⟩, ⟨116, nt116, [⟨pa116_0, Fn116_0 vf116_0⟩]⟩] noSeq
noncomputable def E109_0 : EnvK := E109_0g f103_0 f116_0
theorem eo109_0 : E109_0.Ok Try.prog := EnvK.of_ok noSeq_ok ⟨⟨io103_0, trivial⟩, ⟨io116_0, trivial⟩, trivial⟩

noncomputable def c109_0_3g  : MCode := (.region r109_4 [] (some ⟨[4, 6, 7, 8], true, [⟨true, 4, 0, 30400, 1⟩, ⟨true, 4, 1, 30401, 4⟩], []⟩))
noncomputable def c109_0_3 : MCode := c109_0_3g 
theorem g109_0_3 : c109_0_3.Good Try.prog E109_0 sh109 := trivial
--CODE 3 0
abbrev TJ109_0_0 : Type 1 := (α : Type) → Rows → Rows → Rows → Rows → (Int → Option α) → (Rows → Rows → Rows → Option α) → Option α
def J109_0_0g (vf103_0 : Tf103_0) (α : Type) (x5 : Rows) (x6 : Rows) (x7 : Rows) (x8 : Rows) (k1 : Int → Option α) (k2 : Rows → Rows → Rows → Option α) : Option α :=
 vf103_0 α x5 x6 [[DC.sl x7], [DC.sl x8]]
 (fun (x14 : Int) => flatK [([] : Rows), ([] : Rows), ([] : Rows)]
 (k1 x14))
 (fun (x15 : Rows) (x16 : Rows) (x17 : Rows) => k2 x15 x16 x17)
noncomputable def J109_0_0 (α : Type) (x5 : Rows) (x6 : Rows) (x7 : Rows) (x8 : Rows) (k1 : Int → Option α) (k2 : Rows → Rows → Rows → Option α) : Option α := J109_0_0g f103_0 α x5 x6 x7 x8 k1 k2
def F109_0_0 (v : TJ109_0_0) (α : Type) (K : Exit → St → Option α) : Rows → Rows → Rows → Rows → Int → Int → Rows → Rows → Option α := fun x5 x6 x7 x8 x9 x10 x11 x12 => v α x5 x6 x7 x8 (fun (y1 : Int) => u109_0_1 (K .normal) y1 x9 x10 x11 x12 ([] : Rows) ([] : Rows) ([] : Rows)) (fun (y1 : Rows) (y2 : Rows) (y3 : Rows) => u109_0_2 (K .normal) 0 x9 x10 x11 x12 y1 y2 y3) 
theorem m109_0_0g (vf103_0 : Tf103_0) (vf116_0 : Tf116_0)  (α : Type) (K : Exit → St → Option α) : F109_0_0 (J109_0_0g vf103_0) α K = p109_0_0.unc fun σ => runM Try.prog (E109_0g vf103_0 vf116_0) sh109 (c109_0_3g ) K σ := by kernel_rfl
theorem m109_0_0 : ∀ (α : Type) (K : Exit → St → Option α), F109_0_0 J109_0_0 α K = p109_0_0.unc fun σ => runM Try.prog E109_0 sh109 c109_0_3 K σ := m109_0_0g f103_0 f116_0

/-- etalon/grow.openChange -/
abbrev Tf109_0 : Type 1 := (α : Type) → Rows → Rows → Rows → Rows → (Int → Option α) → (Rows → Rows → Int → Int → Option α) → Option α
def f109_0g (vJ109_0_0 : TJ109_0_0) (vf116_0 : Tf116_0) (α : Type) (x1 : Rows) (x2 : Rows) (x3 : Rows) (x4 : Rows) (k1 : Int → Option α) (k2 : Rows → Rows → Int → Int → Option α) : Option α :=
 vJ109_0_0 α x1 x2 x3 x4
 (fun (x18 : Int) => cK (x18 != 0)
 (k1 x18)
 (none))
 (fun (x19 : Rows) (x20 : Rows) (x21 : Rows) => ixK x21 0 1
 (ldK x21 0 0 [.int .i64]
 (fun (x23 : Int) => ixK x21 1 1
 (ldK x21 1 0 [.int .i64]
 (fun (x24 : Int) => vf116_0 α x19 x20 x23
 (fun (x25 : Bool) => cK (!x25)
 (k1 24)
 (vf116_0 α x19 x20 x24
 (fun (x26 : Bool) => cK (!x26)
 (k1 24)
 (k2 x19 x20 x23 x24)))))))))
noncomputable def f109_0 (α : Type) (x1 : Rows) (x2 : Rows) (x3 : Rows) (x4 : Rows) (k1 : Int → Option α) (k2 : Rows → Rows → Int → Int → Option α) : Option α := f109_0g J109_0_0 f116_0 α x1 x2 x3 x4 k1 k2
def pa109_0 : PT (List DV) := pA [pV true [dL, dL], pV true [dL, dL]]
def Fn109_0 (v : Tf109_0) (α : Type) (k : List RV → Option α) : Rows → Rows → Rows → Rows → Option α := fun x1 x2 x3 x4 => v α x1 x2 x3 x4 (fun (y1 : Int) => ur109_0_0 k ([] : Rows) ([] : Rows) 0 0 y1) (fun (y1 : Rows) (y2 : Rows) (y3 : Int) (y4 : Int) => ur109_0_1 k y1 y2 y3 y4 0)
noncomputable def cm109_0g (vJ109_0_0 : TJ109_0_0) : MCode := (.seq (.region r109_2 [] (some ⟨[2, 3, 4], true, [⟨true, 4, 0, 30400, 1⟩, ⟨true, 4, 1, 30401, 4⟩], []⟩)) (.seq (.mark [⟨p109_0_0, F109_0_0 vJ109_0_0⟩] c109_0_3) (.seq (.seq (.region r109_7 [] (some ⟨[4, 6, 7, 8, 22], true, [⟨true, 4, 0, 30400, 1⟩, ⟨true, 4, 1, 30401, 4⟩], []⟩)) (.cond (.tmp 22) (.seq (.region r109_10 [] (some ⟨[4, 5], true, [⟨true, 4, 0, 30400, 1⟩, ⟨true, 4, 1, 30401, 4⟩], []⟩)) .ret) .skip)) (.seq (.region r109_12 [(0, 8), (2, 8), (3, 8), (5, 8), (6, 8)] (some ⟨[4, 6, 9], true, [⟨true, 4, 0, 30400, 1⟩, ⟨true, 4, 1, 30401, 4⟩], []⟩)) (.seq (.seq (.region r109_15 [] (some ⟨[4, 9, 44], true, [⟨true, 4, 0, 30400, 1⟩, ⟨true, 4, 1, 30401, 4⟩], []⟩)) (.cond (.tmp 44) (.seq (.region r109_18 [] (some ⟨[4, 5], true, [⟨true, 4, 0, 30400, 1⟩, ⟨true, 4, 1, 30401, 4⟩], []⟩)) .ret) .skip)) (.seq (.region r109_20 [] (some ⟨[4, 5], true, [⟨true, 4, 0, 30400, 1⟩, ⟨true, 4, 1, 30401, 4⟩], []⟩)) .ret))))))
noncomputable def cm109_0 : MCode := cm109_0g J109_0_0
theorem gm109_0 : cm109_0.Good Try.prog E109_0 sh109 := ⟨trivial, ⟨⟨g109_0_3, m109_0_0, trivial⟩, ⟨⟨trivial, ⟨⟨trivial, trivial⟩, trivial⟩⟩, ⟨trivial, ⟨⟨trivial, ⟨⟨trivial, trivial⟩, trivial⟩⟩, ⟨trivial, trivial⟩⟩⟩⟩⟩⟩
theorem fm109_0g (vf103_0 : Tf103_0) (vf116_0 : Tf116_0) (vJ109_0_0 : TJ109_0_0) (α : Type) (k : List RV → Option α) : Fn109_0 (f109_0g vJ109_0_0 vf116_0) α k = pa109_0.unc fun ds => fnM Try.prog (E109_0g vf103_0 vf116_0) sh109 (cm109_0g vJ109_0_0) rs109 k ds := by kernel_rfl
theorem fm109_0 : ∀ (α : Type) (k : List RV → Option α), Fn109_0 f109_0 α k = pa109_0.unc fun ds => fnM Try.prog E109_0 sh109 cm109_0 rs109 k ds := fm109_0g f103_0 f116_0 J109_0_0

theorem is109 : FnIs Try.prog 109 nt109 tr109 tl109 cm109_0.erase rs109 := ⟨Try.f109, Try.func109, rfl, by kernel_rfl, by kernel_rfl, by kernel_rfl⟩
theorem io109_0 : InstOk Try.prog 109 nt109 ⟨pa109_0, Fn109_0 f109_0⟩ := inst_ok eo109_0 followsTry is109 ⟨⟨sh109, cm109_0, by kernel_rfl, gm109_0, fm109_0⟩⟩


end Go.AM.K
