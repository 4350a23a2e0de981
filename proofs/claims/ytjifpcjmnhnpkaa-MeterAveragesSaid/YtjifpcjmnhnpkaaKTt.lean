/- Printed by KGen. -/
import Derived.Test.YtjifpcjmnhnpkaaKTr
import Derived.Test.YtjifpcjmnhnpkaaAcX
namespace Go.AM.K
open Go.Proofs
set_option maxRecDepth 100000
set_option linter.unusedVariables false

/-! ### F9 etalon/etalonlaw06.MeterAverages -/
abbrev nt9 : Nat := 107
def sh9 : List (Nat × List Sh) := [(34, [.str, .int .i64, .int .i64, .int .i64, .int .i64, .int .i64, .int .i64, .int .i64, .int .i64, .int .i64]), (36, [.str]), (62, [.str, .int .i64, .int .i64, .int .i64, .int .i64, .int .i64, .int .i64, .int .i64, .int .i64, .int .i64]), (63, [.str, .int .i64, .int .i64, .int .i64, .int .i64, .int .i64, .int .i64, .int .i64, .int .i64, .int .i64]), (77, [.int .i64, .int .i64]), (80, [.str, .int .i64, .int .i64, .int .i64, .int .i64, .int .i64, .int .i64, .int .i64, .int .i64, .int .i64]), (82, [.int .i64, .int .i64]), (87, [.int .i64, .int .i64]), (90, [.str, .int .i64, .int .i64, .int .i64, .int .i64, .int .i64, .int .i64, .int .i64, .int .i64, .int .i64]), (92, [.int .i64, .int .i64]), (98, [.int .i64, .int .i64]), (101, [.str, .int .i64, .int .i64, .int .i64, .int .i64, .int .i64, .int .i64, .int .i64, .int .i64, .int .i64]), (103, [.int .i64, .int .i64])]
def r9_2 : List AOper := [oO 2 (.mv (.const (.bool false)))]
def r9_5 : List AOper := [oO 11 (.call 15 []), oO 12 (.pure (oB (.unOp .not 4 (.tmp 11)) 4))]
def r9_8 : List AOper := [oO 2 (.mv (.const (.bool false)))]
def r9_11 : List AOper := [oM 13 0, oO 14 (.len (.tmp 13)), oO 15 (.bin .gtr 3 (.tmp 14) (.const (.int .i64 6))), oM 16 15, ⟨(some 17), (.mv (.tmp 0)), (some (16, true))⟩, ⟨(some 18), (.len (.tmp 17)), (some (16, true))⟩, ⟨(some 19), (.bin .leq 3 (.tmp 18) (.const (.int .i64 20))), (some (16, true))⟩, oO 20 (.pick (.tmp 16) (.tmp 19) (.const (.bool false))), oM 21 20, ⟨(some 22), (.mv (.tmp 0)), (some (21, false))⟩, ⟨(some 23), (.len (.tmp 22)), (some (21, false))⟩, ⟨(some 24), (.bin .gtr 3 (.tmp 23) (.const (.int .i64 22))), (some (21, false))⟩, oO 25 (.pick (.tmp 21) (.const (.bool true)) (.tmp 24))]
def r9_14 : List AOper := [oO 2 (.mv (.const (.bool true)))]
def r9_17 : List AOper := [oO 3 (.mv (.const (.int .i64 0)))]
def td9_19 : Option Tidy := (some ⟨[0, 3], true, [], []⟩)
def r9_22 : List AOper := [oM 26 3, oM 27 0, oO 28 (.len (.tmp 27)), oO 29 (.bin .lss 3 (.tmp 26) (.tmp 28))]
def r9_27 : List AOper := [oM 32 0, oM 33 3, oO 34 (.iaddr 10 none (.tmp 32) (.tmp 33)), oO 35 (.faddr 0 (.tmp 34)), oO 36 (.load false 1 (.tmp 35)), oO 37 (.pure (oB (.call { callee := .builtin .len, args := #[(.tmp 36)], argTypes := #[9] }) 3)), oO 38 (.bin .gtr 3 (.tmp 37) (.const (.int .i64 30)))]
def r9_30 : List AOper := [oO 2 (.mv (.const (.bool true)))]
def r9_31 : List AOper := [oM 30 3, oO 31 (.bin .add 3 (.tmp 30) (.const (.int .i64 1))), oM 3 31]
def r9_33 : List AOper := [⟨(some 40), (.bslice 10 0 [(.v (.string ⟨#[]⟩)), (.v (.int .i64 0)), (.v (.int .i64 0)), (.v (.int .i64 0)), (.v (.int .i64 0)), (.v (.int .i64 0)), (.v (.int .i64 0)), (.v (.int .i64 0)), (.v (.int .i64 0)), (.v (.int .i64 0))] []), none⟩, oM 41 0, oO 42 (.append 10 88 (.tmp 40) (.tmp 41)), oO 43 (.call 43 [(.tmp 42)]), oM 39 43, oO 44 (.extract 0 (.tmp 39)), oO 45 (.extract 1 (.tmp 39)), oO 46 (.extract 2 (.tmp 39)), ⟨(some 4), (.alloc [(.d (.v (.string ⟨#[]⟩))), (.d (.v (.int .i64 0))), (.d (.v (.int .i64 0))), (.d (.v (.int .i64 0))), (.d (.v (.int .i64 0))), (.d (.v (.int .i64 0))), (.d (.v (.int .i64 0))), (.d (.v (.int .i64 0))), (.d (.v (.int .i64 0))), (.d (.v (.int .i64 0)))]), none⟩, ⟨none, (.store 10 (.tmp 4) (.tmp 44)), none⟩, oM 5 45, oM 6 46]
def r9_35 : List AOper := [oM 48 0, oO 49 (.call 44 [(.tmp 48)]), oM 47 49, oO 50 (.extract 0 (.tmp 47)), oO 51 (.extract 1 (.tmp 47)), oO 52 (.extract 2 (.tmp 47)), ⟨(some 7), (.alloc [(.d (.v (.string ⟨#[]⟩))), (.d (.v (.int .i64 0))), (.d (.v (.int .i64 0))), (.d (.v (.int .i64 0))), (.d (.v (.int .i64 0))), (.d (.v (.int .i64 0))), (.d (.v (.int .i64 0))), (.d (.v (.int .i64 0))), (.d (.v (.int .i64 0))), (.d (.v (.int .i64 0)))]), none⟩, ⟨none, (.store 10 (.tmp 7) (.tmp 50)), none⟩, oM 8 51, oM 9 52]
def r9_38 : List AOper := [oM 53 6, oM 54 9, oO 55 (.bin .neq 3 (.tmp 53) (.tmp 54)), oM 56 55, ⟨(some 57), (.mv (.tmp 5)), (some (56, false))⟩, ⟨(some 58), (.mv (.tmp 8)), (some (56, false))⟩, ⟨(some 59), (.bin .neq 3 (.tmp 57) (.tmp 58)), (some (56, false))⟩, oO 60 (.pick (.tmp 56) (.const (.bool true)) (.tmp 59)), oM 61 60, ⟨(some 62), (.load true 10 (.tmp 4)), (some (61, false))⟩, ⟨(some 63), (.load true 10 (.tmp 7)), (some (61, false))⟩, ⟨(some 64), (.bin .neq 59 (.tmp 62) (.tmp 63)), (some (61, false))⟩, oO 65 (.pick (.tmp 61) (.const (.bool true)) (.tmp 64))]
def r9_41 : List AOper := [oO 2 (.mv (.const (.bool false)))]
def r9_44 : List AOper := [oO 10 (.mv (.const (.int .i64 0)))]
def td9_46 : Option Tidy := (some ⟨[0, 4, 9, 10], true, [], []⟩)
def r9_49 : List AOper := [oM 66 10, oM 67 0, oO 68 (.len (.tmp 67)), oO 69 (.bin .lss 3 (.tmp 66) (.tmp 68)), oM 70 69, ⟨(some 71), (.mv (.tmp 9)), (some (70, true))⟩, ⟨(some 72), (.bin .eql 3 (.tmp 71) (.const (.int .i64 0))), (some (70, true))⟩, oO 73 (.pick (.tmp 70) (.tmp 72) (.const (.bool false)))]
def r9_54 : List AOper := [oO 76 (.faddr 4 (.tmp 4)), oO 77 (.load true 2 (.tmp 76)), oM 78 0, oM 79 10, oO 80 (.iaddr 10 none (.tmp 78) (.tmp 79)), oO 81 (.faddr 4 (.tmp 80)), oO 82 (.load true 2 (.tmp 81)), oO 83 (.call 45 [(.tmp 77), (.tmp 82)]), oO 84 (.pure (oB (.unOp .not 4 (.tmp 83)) 4)), oM 85 84, ⟨(some 86), (.faddr 6 (.tmp 4)), (some (85, false))⟩, ⟨(some 87), (.load true 2 (.tmp 86)), (some (85, false))⟩, ⟨(some 88), (.mv (.tmp 0)), (some (85, false))⟩, ⟨(some 89), (.mv (.tmp 10)), (some (85, false))⟩, ⟨(some 90), (.iaddr 10 none (.tmp 88) (.tmp 89)), (some (85, false))⟩, ⟨(some 91), (.faddr 6 (.tmp 90)), (some (85, false))⟩, ⟨(some 92), (.load true 2 (.tmp 91)), (some (85, false))⟩, ⟨(some 93), (.call 45 [(.tmp 87), (.tmp 92)]), (some (85, false))⟩, ⟨(some 94), (.pure (oB (.unOp .not 4 (.tmp 93)) 4)), (some (85, false))⟩, oO 95 (.pick (.tmp 85) (.const (.bool true)) (.tmp 94)), oM 96 95, ⟨(some 97), (.faddr 8 (.tmp 4)), (some (96, false))⟩, ⟨(some 98), (.load true 2 (.tmp 97)), (some (96, false))⟩, ⟨(some 99), (.mv (.tmp 0)), (some (96, false))⟩, ⟨(some 100), (.mv (.tmp 10)), (some (96, false))⟩, ⟨(some 101), (.iaddr 10 none (.tmp 99) (.tmp 100)), (some (96, false))⟩, ⟨(some 102), (.faddr 8 (.tmp 101)), (some (96, false))⟩, ⟨(some 103), (.load true 2 (.tmp 102)), (some (96, false))⟩, ⟨(some 104), (.call 45 [(.tmp 98), (.tmp 103)]), (some (96, false))⟩, ⟨(some 105), (.pure (oB (.unOp .not 4 (.tmp 104)) 4)), (some (96, false))⟩, oO 106 (.pick (.tmp 96) (.const (.bool true)) (.tmp 105))]
def r9_57 : List AOper := [oO 2 (.mv (.const (.bool false)))]
def r9_58 : List AOper := [oM 74 10, oO 75 (.bin .add 3 (.tmp 74) (.const (.int .i64 1))), oM 10 75]
def r9_60 : List AOper := [oO 2 (.mv (.const (.bool true)))]
def tr9 : List (Nat × Tidy) := [(0, ⟨[0], true, [], []⟩), (1, ⟨[0, 12], true, [], []⟩), (2, ⟨[2], true, [], []⟩), (3, ⟨[0, 25], true, [], []⟩), (4, ⟨[2], true, [], []⟩), (5, ⟨[0, 3], true, [], []⟩), (6, ⟨[0, 3, 29], true, [], []⟩), (8, ⟨[0, 3, 38], true, [], []⟩), (9, ⟨[2], true, [], []⟩), (7, ⟨[0, 3], true, [], []⟩), (10, ⟨[0, 4, 5, 6], true, [], []⟩), (11, ⟨[0, 4, 5, 6, 7, 8, 9], true, [], []⟩), (12, ⟨[0, 4, 9, 65], true, [], []⟩), (13, ⟨[2], true, [], []⟩), (14, ⟨[0, 4, 9, 10], true, [], []⟩), (15, ⟨[0, 4, 9, 10, 73], true, [], []⟩), (17, ⟨[0, 4, 9, 10, 106], true, [], []⟩), (18, ⟨[2], true, [], []⟩), (16, ⟨[0, 4, 9, 10], true, [], []⟩), (19, ⟨[2], true, [], []⟩)]
def tl9 : List (Nat × Tidy) := [(6, ⟨[0, 3], true, [], []⟩), (15, ⟨[0, 4, 9, 10], true, [], []⟩)]
def rs9 : List AResV := [.tmp 2]
def p9_0_0 : PT St := pS [sl 0 (aV false [(cD dL)]), sl 12 (aV false [(cD dB)])] []
def u9_0_0 {β : Type} (g : St → β) : Rows → Bool → β := p9_0_0.unc g

def p9_0_1 : PT St := pS [sl 2 (aV false [(cD dB)])] []
def u9_0_1 {β : Type} (g : St → β) : Bool → β := p9_0_1.unc g

def p9_0_2 : PT St := pS [sl 0 (aV false [(cD dL)]), sl 25 (aV false [(cD dB)])] []
def u9_0_2 {β : Type} (g : St → β) : Rows → Bool → β := p9_0_2.unc g

def p9_0_3 : PT St := pS [sl 0 (aV false [(cD dL)]), sl 3 (aV false [(cD (dI .i64))])] []
def u9_0_3 {β : Type} (g : St → β) : Rows → Int → β := p9_0_3.unc g

def p9_0_4 : PT St := pS [sl 0 (aV false [(cD dL)]), sl 3 (aV false [(cD (dI .i64))]), sl 29 (aV false [(cD dB)])] []
def u9_0_4 {β : Type} (g : St → β) : Rows → Int → Bool → β := p9_0_4.unc g

def p9_0_5 : PT St := pS [sl 0 (aV false [(cD dL)]), sl 4 (aV false [(cPtr 4 0)]), sl 9 (aV false [(cD (dI .i64))]), sl 10 (aV false [(cD (dI .i64))])] [eBox 4 [(cD dS), (cD (dI .i64)), (cD (dI .i64)), (cD (dI .i64)), (cD (dI .i64)), (cD (dI .i64)), (cD (dI .i64)), (cD (dI .i64)), (cD (dI .i64)), (cD (dI .i64))]]
def u9_0_5 {β : Type} (g : St → β) : Rows → Int → Int → ByteArray → Int → Int → Int → Int → Int → Int → Int → Int → Int → β := p9_0_5.unc g

def p9_0_6 : PT St := pS [sl 0 (aV false [(cD dL)]), sl 4 (aV false [(cPtr 4 0)]), sl 9 (aV false [(cD (dI .i64))]), sl 10 (aV false [(cD (dI .i64))]), sl 73 (aV false [(cD dB)])] [eBox 4 [(cD dS), (cD (dI .i64)), (cD (dI .i64)), (cD (dI .i64)), (cD (dI .i64)), (cD (dI .i64)), (cD (dI .i64)), (cD (dI .i64)), (cD (dI .i64)), (cD (dI .i64))]]
def u9_0_6 {β : Type} (g : St → β) : Rows → Int → Int → Bool → ByteArray → Int → Int → Int → Int → Int → Int → Int → Int → Int → β := p9_0_6.unc g

def pr9_0_0 : PT (List RV) := pRs [pR false [rD dB]]
def ur9_0_0 {β : Type} (g : List RV → β) : Bool → β := pr9_0_0.unc g

def E9_0g (vf15_0 : Tf15_0) (vf43_0 : Tf43_0) (vf44_0 : Tf44_0) (vf45_0 : Tf45_0) : EnvK := EnvK.of [⟨15, nt15, [⟨pa15_0, Fn15_0 vf15_0⟩]⟩, ⟨43, nt43, [⟨pa43_0, Fn43_0 vf43_0⟩]⟩, ⟨44, nt44, [⟨pa44_0, Fn44_0 vf44_0⟩]⟩, ⟨45, nt45, [⟨pa45_0, Fn45_0 vf45_0⟩]⟩] noSeq
noncomputable def E9_0 : EnvK := E9_0g f15_0 f43_0 f44_0 f45_0
theorem eo9_0 : E9_0.Ok Try.prog := EnvK.of_ok noSeq_ok ⟨⟨io15_0, trivial⟩, ⟨io43_0, trivial⟩, ⟨io44_0, trivial⟩, ⟨io45_0, trivial⟩, trivial⟩

noncomputable def c9_0_46g  : MCode := (.seq (.seq (.region r9_49 [] (some ⟨[0, 4, 9, 10, 73], true, [], []⟩)) (.cond (.tmp 73) .skip (.exit 2))) (.seq (.block 3 (.seq (.region r9_54 [] (some ⟨[0, 4, 9, 10, 106], true, [], []⟩)) (.cond (.tmp 106) (.seq (.region r9_57 [] (some ⟨[2], true, [], []⟩)) .ret) .skip))) (.region r9_58 [] (some ⟨[0, 4, 9, 10], true, [], []⟩))))
noncomputable def c9_0_46 : MCode := c9_0_46g 
theorem g9_0_46 : c9_0_46.Good Try.prog E9_0 sh9 := ⟨⟨trivial, ⟨trivial, trivial⟩⟩, ⟨⟨trivial, ⟨⟨trivial, trivial⟩, trivial⟩⟩, trivial⟩⟩
--CODE 46 0
def S9_0_2g (vf45_0 : Tf45_0) (α : Type) (x47 : Rows) (x48 : Int) (x54 : Int) (x55 : Int) (x56 : Int) (x57 : Int) (x58 : Int) (x59 : Int) (x49 : Int) (kn : Int → Option α) (k1 : Option α) (k2 : Int → Bool → Option α) : Option α :=
 cK (decide (x49 < ((List.length x47 : Nat) : Int)))
 (cK (x48 == 0)
 (rowK x47 x49 [.str, .int .i64, .int .i64, .int .i64, .int .i64, .int .i64, .int .i64, .int .i64, .int .i64, .int .i64]
 (fun (x61 : ByteArray) (x62 : Int) (x63 : Int) (x64 : Int) (x65 : Int) (x66 : Int) (x67 : Int) (x68 : Int) (x69 : Int) (x70 : Int) => vf45_0 α x54 x55 x65 x66
 (fun (x71 : Bool) => cK (!x71)
 (k1)
 (rowK x47 x49 [.str, .int .i64, .int .i64, .int .i64, .int .i64, .int .i64, .int .i64, .int .i64, .int .i64, .int .i64]
 (fun (x72 : ByteArray) (x73 : Int) (x74 : Int) (x75 : Int) (x76 : Int) (x77 : Int) (x78 : Int) (x79 : Int) (x80 : Int) (x81 : Int) => vf45_0 α x56 x57 x78 x79
 (fun (x82 : Bool) => cK (!x82)
 (k1)
 (rowK x47 x49 [.str, .int .i64, .int .i64, .int .i64, .int .i64, .int .i64, .int .i64, .int .i64, .int .i64, .int .i64]
 (fun (x83 : ByteArray) (x84 : Int) (x85 : Int) (x86 : Int) (x87 : Int) (x88 : Int) (x89 : Int) (x90 : Int) (x91 : Int) (x92 : Int) => vf45_0 α x58 x59 x91 x92
 (fun (x93 : Bool) => cK (!x93)
 (k1)
 (kn (w64 (x49 + 1))))))))))))
 (k2 x49 (x48 == 0)))
 (k2 x49 false)
noncomputable def S9_0_2 (α : Type) (x47 : Rows) (x48 : Int) (x54 : Int) (x55 : Int) (x56 : Int) (x57 : Int) (x58 : Int) (x59 : Int) (x49 : Int) (kn : Int → Option α) (k1 : Option α) (k2 : Int → Bool → Option α) : Option α := S9_0_2g f45_0 α x47 x48 x54 x55 x56 x57 x58 x59 x49 kn k1 k2
noncomputable def R9_0_2 (α : Type) (x47 : Rows) (x48 : Int) (x54 : Int) (x55 : Int) (x56 : Int) (x57 : Int) (x58 : Int) (x59 : Int) (k1 : Option α) (k2 : Int → Bool → Option α) : Nat → Int → Option α
 | 0, _ => none
 | n + 1, x49 => S9_0_2 α x47 x48 x54 x55 x56 x57 x58 x59 x49 (R9_0_2 α x47 x48 x54 x55 x56 x57 x58 x59 k1 k2 n) k1 k2
noncomputable def L9_0_2 (α : Type) (x47 : Rows) (x48 : Int) (x54 : Int) (x55 : Int) (x56 : Int) (x57 : Int) (x58 : Int) (x59 : Int) (k1 : Option α) (k2 : Int → Bool → Option α) (x49 : Int) : Option α := R9_0_2 α x47 x48 x54 x55 x56 x57 x58 x59 k1 k2 fuel x49
abbrev TL9_0_2 : Type 1 := (α : Type) → Rows → Int → Int → Int → Int → Int → Int → Int → (Option α) → (Int → Bool → Option α) → Int → Option α
def F9_0_2 (v : TL9_0_2) (α : Type) (K : Exit → St → Option α) : Rows → Int → Int → ByteArray → Int → Int → Int → Int → Int → Int → Int → Int → Int → Option α := fun x47 x48 x49 x50 x51 x52 x53 x54 x55 x56 x57 x58 x59 => v α x47 x48 x54 x55 x56 x57 x58 x59 (u9_0_1 (K .ret) false) (fun (y1 : Int) (y2 : Bool) => u9_0_6 (K (.exit 2)) x47 x48 y1 y2 x50 x51 x52 x53 x54 x55 x56 x57 x58 x59) x49
theorem r9_0_2g (vf15_0 : Tf15_0) (vf43_0 : Tf43_0) (vf44_0 : Tf44_0) (vf45_0 : Tf45_0)  (α : Type) (K : Exit → St → Option α) (Kn : St → Option α) (x47 : Rows) (x48 : Int) (x49 : Int) (x50 : ByteArray) (x51 : Int) (x52 : Int) (x53 : Int) (x54 : Int) (x55 : Int) (x56 : Int) (x57 : Int) (x58 : Int) (x59 : Int) : u9_0_5 (fun σ => runM Try.prog (E9_0g vf15_0 vf43_0 vf44_0 vf45_0) sh9 (c9_0_46g ) (thenK (fun σ => tidyK td9_46 σ Kn) K) σ) x47 x48 x49 x50 x51 x52 x53 x54 x55 x56 x57 x58 x59 = S9_0_2g vf45_0 α x47 x48 x54 x55 x56 x57 x58 x59 x49 (fun x49 => u9_0_5 Kn x47 x48 x49 x50 x51 x52 x53 x54 x55 x56 x57 x58 x59) (u9_0_1 (K .ret) false) (fun (y1 : Int) (y2 : Bool) => u9_0_6 (K (.exit 2)) x47 x48 y1 y2 x50 x51 x52 x53 x54 x55 x56 x57 x58 x59) := by kernel_rfl
theorem r9_0_2 (α : Type) (K : Exit → St → Option α) (Kn : St → Option α) (x47 : Rows) (x48 : Int) (x49 : Int) (x50 : ByteArray) (x51 : Int) (x52 : Int) (x53 : Int) (x54 : Int) (x55 : Int) (x56 : Int) (x57 : Int) (x58 : Int) (x59 : Int) : u9_0_5 (fun σ => runM Try.prog E9_0 sh9 c9_0_46 (thenK (fun σ => tidyK td9_46 σ Kn) K) σ) x47 x48 x49 x50 x51 x52 x53 x54 x55 x56 x57 x58 x59 = S9_0_2 α x47 x48 x54 x55 x56 x57 x58 x59 x49 (fun x49 => u9_0_5 Kn x47 x48 x49 x50 x51 x52 x53 x54 x55 x56 x57 x58 x59) (u9_0_1 (K .ret) false) (fun (y1 : Int) (y2 : Bool) => u9_0_6 (K (.exit 2)) x47 x48 y1 y2 x50 x51 x52 x53 x54 x55 x56 x57 x58 x59) := r9_0_2g f15_0 f43_0 f44_0 f45_0 α K Kn x47 x48 x49 x50 x51 x52 x53 x54 x55 x56 x57 x58 x59
theorem t9_0_2 (α : Type) (K : Exit → St → Option α) : ∀ (n : Nat) (x47 : Rows) (x48 : Int) (x49 : Int) (x50 : ByteArray) (x51 : Int) (x52 : Int) (x53 : Int) (x54 : Int) (x55 : Int) (x56 : Int) (x57 : Int) (x58 : Int) (x59 : Int), R9_0_2 α x47 x48 x54 x55 x56 x57 x58 x59 (u9_0_1 (K .ret) false) (fun (y1 : Int) (y2 : Bool) => u9_0_6 (K (.exit 2)) x47 x48 y1 y2 x50 x51 x52 x53 x54 x55 x56 x57 x58 x59) n x49 = u9_0_5 (loopT (runM Try.prog E9_0 sh9 c9_0_46) td9_46 K n) x47 x48 x49 x50 x51 x52 x53 x54 x55 x56 x57 x58 x59 := by
 intro n
 induction n with
 | zero => intros; rfl
 | succ n ih => intro x47 x48 x49 x50 x51 x52 x53 x54 x55 x56 x57 x58 x59; exact (congrArg (fun kn => S9_0_2 α x47 x48 x54 x55 x56 x57 x58 x59 x49 kn (u9_0_1 (K .ret) false) (fun (y1 : Int) (y2 : Bool) => u9_0_6 (K (.exit 2)) x47 x48 y1 y2 x50 x51 x52 x53 x54 x55 x56 x57 x58 x59)) (funext fun x49 => ih x47 x48 x49 x50 x51 x52 x53 x54 x55 x56 x57 x58 x59)).trans (r9_0_2 α K (loopT (runM Try.prog E9_0 sh9 c9_0_46) td9_46 K n) x47 x48 x49 x50 x51 x52 x53 x54 x55 x56 x57 x58 x59).symm
theorem m9_0_2 : ∀ (α : Type) (K : Exit → St → Option α), F9_0_2 L9_0_2 α K = p9_0_5.unc fun σ => loopT (runM Try.prog E9_0 sh9 c9_0_46) td9_46 K fuel σ := fun α K => funext fun x47 => funext fun x48 => funext fun x49 => funext fun x50 => funext fun x51 => funext fun x52 => funext fun x53 => funext fun x54 => funext fun x55 => funext fun x56 => funext fun x57 => funext fun x58 => funext fun x59 => t9_0_2 α K fuel x47 x48 x49 x50 x51 x52 x53 x54 x55 x56 x57 x58 x59

noncomputable def c9_0_19g  : MCode := (.seq (.seq (.region r9_22 [] (some ⟨[0, 3, 29], true, [], []⟩)) (.cond (.tmp 29) .skip (.exit 0))) (.seq (.block 1 (.seq (.region r9_27 [] (some ⟨[0, 3, 38], true, [], []⟩)) (.cond (.tmp 38) (.seq (.region r9_30 [] (some ⟨[2], true, [], []⟩)) .ret) .skip))) (.region r9_31 [] (some ⟨[0, 3], true, [], []⟩))))
noncomputable def c9_0_19 : MCode := c9_0_19g 
theorem g9_0_19 : c9_0_19.Good Try.prog E9_0 sh9 := ⟨⟨trivial, ⟨trivial, trivial⟩⟩, ⟨⟨trivial, ⟨⟨trivial, trivial⟩, trivial⟩⟩, trivial⟩⟩
--CODE 19 0
def S9_0_1g  (α : Type) (x7 : Rows) (x8 : Int) (kn : Int → Option α) (k1 : Option α) (k2 : Int → Bool → Option α) : Option α :=
 cK (decide (x8 < ((List.length x7 : Nat) : Int)))
 (rowK x7 x8 [.str, .int .i64, .int .i64, .int .i64, .int .i64, .int .i64, .int .i64, .int .i64, .int .i64, .int .i64]
 (fun (x10 : ByteArray) (x11 : Int) (x12 : Int) (x13 : Int) (x14 : Int) (x15 : Int) (x16 : Int) (x17 : Int) (x18 : Int) (x19 : Int) => cK (decide (30 < ((ByteArray.size x10 : Nat) : Int)))
 (k1)
 (kn (w64 (x8 + 1)))))
 (k2 x8 (decide (x8 < ((List.length x7 : Nat) : Int))))
noncomputable def S9_0_1 (α : Type) (x7 : Rows) (x8 : Int) (kn : Int → Option α) (k1 : Option α) (k2 : Int → Bool → Option α) : Option α := S9_0_1g  α x7 x8 kn k1 k2
noncomputable def R9_0_1 (α : Type) (x7 : Rows) (k1 : Option α) (k2 : Int → Bool → Option α) : Nat → Int → Option α
 | 0, _ => none
 | n + 1, x8 => S9_0_1 α x7 x8 (R9_0_1 α x7 k1 k2 n) k1 k2
noncomputable def L9_0_1 (α : Type) (x7 : Rows) (k1 : Option α) (k2 : Int → Bool → Option α) (x8 : Int) : Option α := R9_0_1 α x7 k1 k2 fuel x8
abbrev TL9_0_1 : Type 1 := (α : Type) → Rows → (Option α) → (Int → Bool → Option α) → Int → Option α
def F9_0_1 (v : TL9_0_1) (α : Type) (K : Exit → St → Option α) : Rows → Int → Option α := fun x7 x8 => v α x7 (u9_0_1 (K .ret) true) (fun (y1 : Int) (y2 : Bool) => u9_0_4 (K (.exit 0)) x7 y1 y2) x8
theorem r9_0_1g (vf15_0 : Tf15_0) (vf43_0 : Tf43_0) (vf44_0 : Tf44_0) (vf45_0 : Tf45_0)  (α : Type) (K : Exit → St → Option α) (Kn : St → Option α) (x7 : Rows) (x8 : Int) : u9_0_3 (fun σ => runM Try.prog (E9_0g vf15_0 vf43_0 vf44_0 vf45_0) sh9 (c9_0_19g ) (thenK (fun σ => tidyK td9_19 σ Kn) K) σ) x7 x8 = S9_0_1g  α x7 x8 (fun x8 => u9_0_3 Kn x7 x8) (u9_0_1 (K .ret) true) (fun (y1 : Int) (y2 : Bool) => u9_0_4 (K (.exit 0)) x7 y1 y2) := by kernel_rfl
theorem r9_0_1 (α : Type) (K : Exit → St → Option α) (Kn : St → Option α) (x7 : Rows) (x8 : Int) : u9_0_3 (fun σ => runM Try.prog E9_0 sh9 c9_0_19 (thenK (fun σ => tidyK td9_19 σ Kn) K) σ) x7 x8 = S9_0_1 α x7 x8 (fun x8 => u9_0_3 Kn x7 x8) (u9_0_1 (K .ret) true) (fun (y1 : Int) (y2 : Bool) => u9_0_4 (K (.exit 0)) x7 y1 y2) := r9_0_1g f15_0 f43_0 f44_0 f45_0 α K Kn x7 x8
theorem t9_0_1 (α : Type) (K : Exit → St → Option α) : ∀ (n : Nat) (x7 : Rows) (x8 : Int), R9_0_1 α x7 (u9_0_1 (K .ret) true) (fun (y1 : Int) (y2 : Bool) => u9_0_4 (K (.exit 0)) x7 y1 y2) n x8 = u9_0_3 (loopT (runM Try.prog E9_0 sh9 c9_0_19) td9_19 K n) x7 x8 := by
 intro n
 induction n with
 | zero => intros; rfl
 | succ n ih => intro x7 x8; exact (congrArg (fun kn => S9_0_1 α x7 x8 kn (u9_0_1 (K .ret) true) (fun (y1 : Int) (y2 : Bool) => u9_0_4 (K (.exit 0)) x7 y1 y2)) (funext fun x8 => ih x7 x8)).trans (r9_0_1 α K (loopT (runM Try.prog E9_0 sh9 c9_0_19) td9_19 K n) x7 x8).symm
theorem m9_0_1 : ∀ (α : Type) (K : Exit → St → Option α), F9_0_1 L9_0_1 α K = p9_0_3.unc fun σ => loopT (runM Try.prog E9_0 sh9 c9_0_19) td9_19 K fuel σ := fun α K => funext fun x7 => funext fun x8 => t9_0_1 α K fuel x7 x8

noncomputable def c9_0_9g  : MCode := (.seq (.region r9_11 [] (some ⟨[0, 25], true, [], []⟩)) (.cond (.tmp 25) (.seq (.region r9_14 [] (some ⟨[2], true, [], []⟩)) .ret) .skip))
noncomputable def c9_0_9 : MCode := c9_0_9g 
theorem g9_0_9 : c9_0_9.Good Try.prog E9_0 sh9 := ⟨trivial, ⟨⟨trivial, trivial⟩, trivial⟩⟩
--CODE 9 0
abbrev TJ9_0_0 : Type 1 := (α : Type) → Rows → (Option α) → (Bool → Option α) → Option α
def J9_0_0g  (α : Type) (x2 : Rows) (k1 : Option α) (k2 : Bool → Option α) : Option α :=
 cK (decide (6 < ((List.length x2 : Nat) : Int)))
 (cK (decide (((List.length x2 : Nat) : Int) ≤ 20))
 (k1)
 (cK (decide (22 < ((List.length x2 : Nat) : Int)))
 (k1)
 (k2 (decide (22 < ((List.length x2 : Nat) : Int))))))
 (cK (decide (22 < ((List.length x2 : Nat) : Int)))
 (k1)
 (k2 (decide (22 < ((List.length x2 : Nat) : Int)))))
noncomputable def J9_0_0 (α : Type) (x2 : Rows) (k1 : Option α) (k2 : Bool → Option α) : Option α := J9_0_0g  α x2 k1 k2
def F9_0_0 (v : TJ9_0_0) (α : Type) (K : Exit → St → Option α) : Rows → Bool → Option α := fun x2 x3 => v α x2 (u9_0_1 (K .ret) true) (fun (y1 : Bool) => u9_0_2 (K .normal) x2 y1) 
theorem m9_0_0g (vf15_0 : Tf15_0) (vf43_0 : Tf43_0) (vf44_0 : Tf44_0) (vf45_0 : Tf45_0)  (α : Type) (K : Exit → St → Option α) : F9_0_0 (J9_0_0g ) α K = p9_0_0.unc fun σ => runM Try.prog (E9_0g vf15_0 vf43_0 vf44_0 vf45_0) sh9 (c9_0_9g ) K σ := by kernel_rfl
theorem m9_0_0 : ∀ (α : Type) (K : Exit → St → Option α), F9_0_0 J9_0_0 α K = p9_0_0.unc fun σ => runM Try.prog E9_0 sh9 c9_0_9 K σ := m9_0_0g f15_0 f43_0 f44_0 f45_0

/-- etalon/etalonlaw06.MeterAverages -/
abbrev Tf9_0 : Type 1 := (α : Type) → Rows → (Bool → Option α) → Option α
def f9_0g (vJ9_0_0 : TJ9_0_0) (vL9_0_1 : TL9_0_1) (vL9_0_2 : TL9_0_2) (vf15_0 : Tf15_0) (vf43_0 : Tf43_0) (vf44_0 : Tf44_0) (α : Type) (x1 : Rows) (k1 : Bool → Option α) : Option α :=
 vf15_0 α 
 (vJ9_0_0 α x1
 (k1 true)
 (fun (x5 : Bool) => vL9_0_1 α x1
 (k1 true)
 (fun (x20 : Int) (x21 : Bool) => gK (apOk 10 88 ([] : Rows) x1) (vf43_0 α (([] : Rows) ++ x1)
 (fun (x23 : ByteArray) (x24 : Int) (x25 : Int) (x26 : Int) (x27 : Int) (x28 : Int) (x29 : Int) (x30 : Int) (x31 : Int) (x32 : Int) (x33 : Int) (x34 : Int) => vf44_0 α x1
 (fun (x35 : ByteArray) (x36 : Int) (x37 : Int) (x38 : Int) (x39 : Int) (x40 : Int) (x41 : Int) (x42 : Int) (x43 : Int) (x44 : Int) (x45 : Int) (x46 : Int) => cK (x34 != x46)
 (k1 false)
 (cK (x33 != x45)
 (k1 false)
 (cK (!((x23 == x35) && ((x24 == x36) && (((x25 == x37) && ((x26 == x38) && true)) && (((x27 == x39) && ((x28 == x40) && true)) && (((x29 == x41) && ((x30 == x42) && true)) && (((x31 == x43) && ((x32 == x44) && true)) && true)))))))
 (k1 false)
 (vL9_0_2 α x1 x46 x27 x28 x29 x30 x31 x32
 (k1 false)
 (fun (x94 : Int) (x95 : Bool) => k1 true) 0))))))) 0))
noncomputable def f9_0 (α : Type) (x1 : Rows) (k1 : Bool → Option α) : Option α := f9_0g J9_0_0 L9_0_1 L9_0_2 f15_0 f43_0 f44_0 α x1 k1
def pa9_0 : PT (List DV) := pA [pV false [dL]]
def Fn9_0 (v : Tf9_0) (α : Type) (k : List RV → Option α) : Rows → Option α := fun x1 => v α x1 (fun (y1 : Bool) => ur9_0_0 k y1)
noncomputable def cm9_0g (vJ9_0_0 : TJ9_0_0) (vL9_0_1 : TL9_0_1) (vL9_0_2 : TL9_0_2) : MCode := (.seq (.region r9_2 [] (some ⟨[0], true, [], []⟩)) (.seq (.seq (.region r9_5 [] (some ⟨[0, 12], true, [], []⟩)) (.cond (.tmp 12) (.seq (.region r9_8 [] (some ⟨[2], true, [], []⟩)) .ret) .skip)) (.seq (.mark [⟨p9_0_0, F9_0_0 vJ9_0_0⟩] c9_0_9) (.seq (.seq (.region r9_17 [] (some ⟨[0, 3], true, [], []⟩)) (.block 0 (.loop td9_19 [⟨p9_0_3, F9_0_1 vL9_0_1⟩] c9_0_19))) (.seq (.region r9_33 [] (some ⟨[0, 4, 5, 6], true, [], []⟩)) (.seq (.region r9_35 [] (some ⟨[0, 4, 5, 6, 7, 8, 9], true, [], []⟩)) (.seq (.seq (.region r9_38 [] (some ⟨[0, 4, 9, 65], true, [], []⟩)) (.cond (.tmp 65) (.seq (.region r9_41 [] (some ⟨[2], true, [], []⟩)) .ret) .skip)) (.seq (.seq (.region r9_44 [] (some ⟨[0, 4, 9, 10], true, [], []⟩)) (.block 2 (.loop td9_46 [⟨p9_0_5, F9_0_2 vL9_0_2⟩] c9_0_46))) (.seq (.region r9_60 [] (some ⟨[2], true, [], []⟩)) .ret)))))))))
noncomputable def cm9_0 : MCode := cm9_0g J9_0_0 L9_0_1 L9_0_2
theorem gm9_0 : cm9_0.Good Try.prog E9_0 sh9 := ⟨trivial, ⟨⟨trivial, ⟨⟨trivial, trivial⟩, trivial⟩⟩, ⟨⟨g9_0_9, m9_0_0, trivial⟩, ⟨⟨trivial, ⟨g9_0_19, m9_0_1, trivial⟩⟩, ⟨trivial, ⟨trivial, ⟨⟨trivial, ⟨⟨trivial, trivial⟩, trivial⟩⟩, ⟨⟨trivial, ⟨g9_0_46, m9_0_2, trivial⟩⟩, ⟨trivial, trivial⟩⟩⟩⟩⟩⟩⟩⟩⟩
theorem fm9_0g (vf15_0 : Tf15_0) (vf43_0 : Tf43_0) (vf44_0 : Tf44_0) (vf45_0 : Tf45_0) (vJ9_0_0 : TJ9_0_0) (vL9_0_1 : TL9_0_1) (vL9_0_2 : TL9_0_2) (α : Type) (k : List RV → Option α) : Fn9_0 (f9_0g vJ9_0_0 vL9_0_1 vL9_0_2 vf15_0 vf43_0 vf44_0) α k = pa9_0.unc fun ds => fnM Try.prog (E9_0g vf15_0 vf43_0 vf44_0 vf45_0) sh9 (cm9_0g vJ9_0_0 vL9_0_1 vL9_0_2) rs9 k ds := by kernel_rfl
theorem fm9_0 : ∀ (α : Type) (k : List RV → Option α), Fn9_0 f9_0 α k = pa9_0.unc fun ds => fnM Try.prog E9_0 sh9 cm9_0 rs9 k ds := fm9_0g f15_0 f43_0 f44_0 f45_0 J9_0_0 L9_0_1 L9_0_2

theorem is9 : FnIs Try.prog 9 nt9 tr9 tl9 cm9_0.erase rs9 := ⟨Try.f9, Try.func9, rfl, by kernel_rfl, by kernel_rfl, by kernel_rfl⟩
theorem io9_0 : InstOk Try.prog 9 nt9 ⟨pa9_0, Fn9_0 f9_0⟩ := inst_ok eo9_0 followsTry is9 ⟨⟨sh9, cm9_0, by kernel_rfl, gm9_0, fm9_0⟩⟩


end Go.AM.K
