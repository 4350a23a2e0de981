/- Printed by KGen. -/
import Derived.Test.YtmhghbkdcdpicaaKTr
import Derived.Test.YtmhghbkdcdpicaaSAcX
namespace Go.AM.K
open Go.Proofs
set_option maxRecDepth 100000
set_option linter.unusedVariables false
abbrev nt4 : Nat := 89
def sh4 : List (Nat × List Sh) := [(20, [.int .i64, .int .i64, .int .i64, .int .i64, .int .i64, .int .i64, .int .i64, .int .i64, .int .i64, .int .i64]), (21, [.int .i64, .int .i64, .int .i64, .int .i64, .int .i64, .int .i64]), (27, [.int .i64, .int .i64, .int .i64, .int .i64, .int .i64, .int .i64]), (31, [.int .i64, .int .i64, .int .i64, .int .i64, .int .i64, .int .i64, .int .i64, .int .i64, .int .i64, .int .i64]), (32, [.int .i64, .int .i64, .int .i64, .int .i64, .int .i64, .int .i64]), (39, [.int .i64, .int .i64, .int .i64, .int .i64, .int .i64, .int .i64]), (40, [.int .i64, .int .i64, .int .i64, .int .i64, .int .i64, .int .i64]), (57, [.int .i64, .int .i64, .int .i64, .int .i64, .int .i64, .int .i64, .int .i64, .int .i64, .int .i64, .int .i64]), (58, [.int .i64, .int .i64, .int .i64, .int .i64, .int .i64, .int .i64, .int .i64, .int .i64, .int .i64, .int .i64]), (63, [.int .i64, .int .i64, .int .i64, .int .i64, .int .i64, .int .i64, .int .i64, .int .i64, .int .i64, .int .i64]), (64, [.int .i64, .int .i64, .int .i64, .int .i64, .int .i64, .int .i64]), (69, [.int .i64, .int .i64, .int .i64, .int .i64, .int .i64, .int .i64, .int .i64, .int .i64, .int .i64, .int .i64]), (70, [.int .i64, .int .i64, .int .i64, .int .i64, .int .i64, .int .i64]), (85, [.int .i64, .int .i64, .int .i64, .int .i64, .int .i64, .int .i64]), (86, [.int .i64, .int .i64, .int .i64, .int .i64, .int .i64, .int .i64])]
def r4_2 : List AOper := [oO 3 (.box (.tmp 0)), oO 4 (.box (.tmp 1)), oO 5 (.box (.tmp 2)), oO 6 (.mv (.const (.bool false)))]
def r4_5 : List AOper := [oO 17 (.call 5 []), oO 18 (.pure (oB (.unOp .not 4 (.tmp 17)) 4))]
def r4_8 : List AOper := [oO 6 (.mv (.const (.bool false)))]
def r4_10 : List AOper := [oO 20 (.load true 10 (.tmp 4)), oO 21 (.load true 6 (.tmp 5)), oO 22 (.call 6 [(.tmp 20), (.tmp 21)]), oM 19 22, oO 23 (.extract 0 (.tmp 19)), oO 24 (.extract 1 (.tmp 19)), oO 7 (.alloc [(cI 0), (cI 0), (cI 0), (cI 0), (cI 0), (cI 0)]), oD (.store 6 (.tmp 7) (.tmp 23)), oM 8 24]
def r4_13 : List AOper := [oM 25 8, oO 26 (.bin .neq 30 (.tmp 25) (kI 0))]
def r4_16 : List AOper := [oO 27 (.load true 6 (.tmp 7)), oO 28 (.build [(cI 0), (cI 0), (cI 0), (cI 0), (cI 0), (cI 0)] []), oO 29 (.bin .eql 28 (.tmp 27) (.tmp 28)), oM 6 29]
def r4_18 : List AOper := [oO 31 (.load true 10 (.tmp 4)), oO 32 (.load true 6 (.tmp 7)), oO 33 (.call 7 [(.tmp 31), (.tmp 32)]), oM 30 33, oO 34 (.extract 0 (.tmp 30)), oO 35 (.extract 1 (.tmp 30)), oO 9 (.alloc [(cI 0), (cI 0), (cI 0), (cI 0), (cI 0), (cI 0)]), oD (.store 6 (.tmp 9) (.tmp 34)), oM 10 35]
def r4_21 : List AOper := [oM 36 10, oO 37 (.bin .eql 30 (.tmp 36) (kI 0)), oM 38 37, oG 39 (.load true 6 (.tmp 5)) 38 true, oG 40 (.load true 6 (.tmp 9)) 38 true, oG 41 (.call 12 [(.tmp 39), (.tmp 40)]) 38 true, oG 42 (.pure (oB (.unOp .not 4 (.tmp 41)) 4)) 38 true, oO 43 (.pick (.tmp 38) (.tmp 42) (.const (.bool false))), oM 44 43, oG 45 (.mv (.tmp 10)) 44 false, oG 46 (.bin .neq 30 (.tmp 45) (kI 0)) 44 false, oG 47 (.mv (.tmp 46)) 44 false, oG 48 (.mv (.tmp 10)) 47 true, oG 49 (.bin .neq 30 (.tmp 48) (kI 28)) 47 true, oG 50 (.pick (.tmp 47) (.tmp 49) (.const (.bool false))) 44 false, oG 51 (.mv (.tmp 50)) 44 false, oG 52 (.mv (.tmp 10)) 51 true, oG 53 (.bin .neq 30 (.tmp 52) (kI 8)) 51 true, oG 54 (.pick (.tmp 51) (.tmp 53) (.const (.bool false))) 44 false, oO 55 (.pick (.tmp 44) (.const (.bool true)) (.tmp 54))]
def r4_24 : List AOper := [oO 6 (.mv (.const (.bool false)))]
def r4_26 : List AOper := [oO 57 (.load true 10 (.tmp 3)), oO 58 (.load true 10 (.tmp 4)), oO 59 (.call 13 [(.tmp 57), (.tmp 58)]), oM 56 59, oO 60 (.extract 0 (.tmp 56)), oO 61 (.extract 1 (.tmp 56)), oO 11 (.alloc [(cI 0), (cI 0), (cI 0), (cI 0), (cI 0), (cI 0), (cI 0), (cI 0), (cI 0), (cI 0)]), oD (.store 10 (.tmp 11) (.tmp 60)), oM 12 61]
def r4_28 : List AOper := [oO 63 (.load true 10 (.tmp 11)), oO 64 (.load true 6 (.tmp 5)), oO 65 (.call 6 [(.tmp 63), (.tmp 64)]), oM 62 65, oO 66 (.extract 0 (.tmp 62)), oO 67 (.extract 1 (.tmp 62)), oO 13 (.alloc [(cI 0), (cI 0), (cI 0), (cI 0), (cI 0), (cI 0)]), oD (.store 6 (.tmp 13) (.tmp 66)), oM 14 67]
def r4_30 : List AOper := [oO 69 (.load true 10 (.tmp 3)), oO 70 (.load true 6 (.tmp 7)), oO 71 (.call 6 [(.tmp 69), (.tmp 70)]), oM 68 71, oO 72 (.extract 0 (.tmp 68)), oO 73 (.extract 1 (.tmp 68)), oO 15 (.alloc [(cI 0), (cI 0), (cI 0), (cI 0), (cI 0), (cI 0)]), oD (.store 6 (.tmp 15) (.tmp 72)), oM 16 73]
def r4_32 : List AOper := [oM 74 12, oO 75 (.bin .neq 30 (.tmp 74) (kI 0)), oM 76 75, oG 77 (.mv (.tmp 14)) 76 false, oG 78 (.bin .neq 30 (.tmp 77) (kI 0)) 76 false, oO 79 (.pick (.tmp 76) (.const (.bool true)) (.tmp 78)), oM 80 79, oG 81 (.mv (.tmp 16)) 80 false, oG 82 (.bin .neq 30 (.tmp 81) (kI 0)) 80 false, oO 83 (.pick (.tmp 80) (.const (.bool true)) (.tmp 82)), oM 84 83, oG 85 (.load true 6 (.tmp 13)) 84 false, oG 86 (.load true 6 (.tmp 15)) 84 false, oG 87 (.call 12 [(.tmp 85), (.tmp 86)]) 84 false, oO 88 (.pick (.tmp 84) (.const (.bool true)) (.tmp 87)), oM 6 88]
def tr4 : List (Nat × Tidy) := [tT 0 [3, 4, 5], tT 1 [3, 4, 5, 18], tT 2 [6], tT 3 [3, 4, 5, 7, 8], tT 4 [3, 4, 5, 7, 26], tT 5 [6], tT 6 [3, 4, 5, 7, 9, 10], tT 7 [3, 4, 5, 7, 55], tT 8 [6], tT 9 [3, 5, 7, 11, 12], tT 10 [3, 7, 12, 13, 14], tT 11 [12, 13, 14, 15, 16], tT 12 [6]]
def tl4 : List (Nat × Tidy) := []
def rs4 : List AResV := [.tmp 6]
def p4_0_0 : PT St := pS [sl 3 (aV false [(cPtr 3 0)]), sl 4 (aV false [(cPtr 4 0)]), sl 5 (aV false [(cPtr 5 0)]), sl 7 (aV false [(cPtr 7 0)]), sl 9 (aV false [(cPtr 9 0)]), sl 10 (aV false [(cD (dI .i64))])] [eBox 3 [(cD (dI .i64)), (cD (dI .i64)), (cD (dI .i64)), (cD (dI .i64)), (cD (dI .i64)), (cD (dI .i64)), (cD (dI .i64)), (cD (dI .i64)), (cD (dI .i64)), (cD (dI .i64))], eBox 4 [(cD (dI .i64)), (cD (dI .i64)), (cD (dI .i64)), (cD (dI .i64)), (cD (dI .i64)), (cD (dI .i64)), (cD (dI .i64)), (cD (dI .i64)), (cD (dI .i64)), (cD (dI .i64))], eBox 5 [(cD (dI .i64)), (cD (dI .i64)), (cD (dI .i64)), (cD (dI .i64)), (cD (dI .i64)), (cD (dI .i64))], eBox 7 [(cD (dI .i64)), (cD (dI .i64)), (cD (dI .i64)), (cD (dI .i64)), (cD (dI .i64)), (cD (dI .i64))], eBox 9 [(cD (dI .i64)), (cD (dI .i64)), (cD (dI .i64)), (cD (dI .i64)), (cD (dI .i64)), (cD (dI .i64))]]
def u4_0_0 {β : Type} (g : St → β) : Int → Int → Int → Int → Int → Int → Int → Int → Int → Int → Int → Int → Int → Int → Int → Int → Int → Int → Int → Int → Int → Int → Int → Int → Int → Int → Int → Int → Int → Int → Int → Int → Int → Int → Int → Int → Int → Int → Int → β := p4_0_0.unc g
def p4_0_1 : PT St := pS [sl 3 (aV false [(cPtr 3 0)]), sl 4 (aV false [(cPtr 4 0)]), sl 5 (aV false [(cPtr 5 0)]), sl 7 (aV false [(cPtr 7 0)]), sl 55 (aV false [(cD dB)])] [eBox 3 [(cD (dI .i64)), (cD (dI .i64)), (cD (dI .i64)), (cD (dI .i64)), (cD (dI .i64)), (cD (dI .i64)), (cD (dI .i64)), (cD (dI .i64)), (cD (dI .i64)), (cD (dI .i64))], eBox 4 [(cD (dI .i64)), (cD (dI .i64)), (cD (dI .i64)), (cD (dI .i64)), (cD (dI .i64)), (cD (dI .i64)), (cD (dI .i64)), (cD (dI .i64)), (cD (dI .i64)), (cD (dI .i64))], eBox 5 [(cD (dI .i64)), (cD (dI .i64)), (cD (dI .i64)), (cD (dI .i64)), (cD (dI .i64)), (cD (dI .i64))], eBox 7 [(cD (dI .i64)), (cD (dI .i64)), (cD (dI .i64)), (cD (dI .i64)), (cD (dI .i64)), (cD (dI .i64))]]
def u4_0_1 {β : Type} (g : St → β) : Bool → Int → Int → Int → Int → Int → Int → Int → Int → Int → Int → Int → Int → Int → Int → Int → Int → Int → Int → Int → Int → Int → Int → Int → Int → Int → Int → Int → Int → Int → Int → Int → Int → β := p4_0_1.unc g
def pr4_0_0 : PT (List RV) := pRs [pR false [rD dB]]
def ur4_0_0 {β : Type} (g : List RV → β) : Bool → β := pr4_0_0.unc g
def E4_0g (vf5_0 : Tf5_0) (vf6_0 : Tf6_0) (vf7_0 : Tf7_0) (vf12_0 : Tf12_0) (vf13_0 : Tf13_0) : EnvK := EnvK.of [⟨5, nt5, [⟨pa5_0, Fn5_0 vf5_0⟩]⟩, ⟨6, nt6, [⟨pa6_0, Fn6_0 vf6_0⟩]⟩, ⟨7, nt7, [⟨pa7_0, Fn7_0 vf7_0⟩]⟩, ⟨12, nt12, [⟨pa12_0, Fn12_0 vf12_0⟩]⟩, ⟨13, nt13, [⟨pa13_0, Fn13_0 vf13_0⟩]⟩] noSeq
noncomputable def E4_0 : EnvK := E4_0g f5_0 f6_0 f7_0 f12_0 f13_0
theorem eo4_0 : E4_0.Ok Try.prog := EnvK.of_ok noSeq_ok ⟨⟨io5_0, trivial⟩, ⟨io6_0, trivial⟩, ⟨io7_0, trivial⟩, ⟨io12_0, trivial⟩, ⟨io13_0, trivial⟩, trivial⟩
noncomputable def c4_0_20g  : MCode := (.region r4_21 [] (tO [3, 4, 5, 7, 55]))
noncomputable def c4_0_20 : MCode := c4_0_20g 
theorem g4_0_20 : c4_0_20.Good Try.prog E4_0 sh4 := trivial
--CODE 20 0
abbrev TJ4_0_0 : Type 1 := (α : Type) → Int → Int → Int → Int → Int → Int → Int → Int → Int → Int → Int → Int → Int → (Bool → Option α) → Option α
def J4_0_0g (vf12_0 : Tf12_0) (α : Type) (x41 x62 x63 x64 x65 x66 x67 x74 x75 x76 x77 x78 x79 : Int) (k1 : Bool → Option α) : Option α :=
 cK (x41 == 0)
 (vf12_0 α x62 x63 x64 x65 x66 x67 x74 x75 x76 x77 x78 x79
 (fun x81 => cK (!x81)
 (k1 true)
 (cK (x41 != 0)
 (cK (x41 != 28)
 (k1 (x41 != 8))
 (k1 false))
 (k1 false))))
 (cK (x41 != 0)
 (cK (x41 != 28)
 (k1 (x41 != 8))
 (k1 false))
 (k1 false))
noncomputable def J4_0_0 (α : Type) (x41 x62 x63 x64 x65 x66 x67 x74 x75 x76 x77 x78 x79 : Int) (k1 : Bool → Option α) : Option α := J4_0_0g f12_0 α x41 x62 x63 x64 x65 x66 x67 x74 x75 x76 x77 x78 x79 k1
def F4_0_0 (v : TJ4_0_0) (α : Type) (K : Exit → St → Option α) : Int → Int → Int → Int → Int → Int → Int → Int → Int → Int → Int → Int → Int → Int → Int → Int → Int → Int → Int → Int → Int → Int → Int → Int → Int → Int → Int → Int → Int → Int → Int → Int → Int → Int → Int → Int → Int → Int → Int → Option α := fun x41 x42 x43 x44 x45 x46 x47 x48 x49 x50 x51 x52 x53 x54 x55 x56 x57 x58 x59 x60 x61 x62 x63 x64 x65 x66 x67 x68 x69 x70 x71 x72 x73 x74 x75 x76 x77 x78 x79 => v α x41 x62 x63 x64 x65 x66 x67 x74 x75 x76 x77 x78 x79 (fun (y1 : Bool) => u4_0_1 (K .normal) y1 x42 x43 x44 x45 x46 x47 x48 x49 x50 x51 x52 x53 x54 x55 x56 x57 x58 x59 x60 x61 x62 x63 x64 x65 x66 x67 x68 x69 x70 x71 x72 x73) 
theorem m4_0_0g (vf5_0 : Tf5_0) (vf6_0 : Tf6_0) (vf7_0 : Tf7_0) (vf12_0 : Tf12_0) (vf13_0 : Tf13_0)  (α : Type) (K : Exit → St → Option α) : F4_0_0 (J4_0_0g vf12_0) α K = p4_0_0.unc fun σ => runM Try.prog (E4_0g vf5_0 vf6_0 vf7_0 vf12_0 vf13_0) sh4 (c4_0_20g ) K σ := by kernel_rfl
theorem m4_0_0 : ∀ (α : Type) (K : Exit → St → Option α), F4_0_0 J4_0_0 α K = p4_0_0.unc fun σ => runM Try.prog E4_0 sh4 c4_0_20 K σ := m4_0_0g f5_0 f6_0 f7_0 f12_0 f13_0
abbrev Tf4_0 : Type 1 := (α : Type) → Int → Int → Int → Int → Int → Int → Int → Int → Int → Int → Int → Int → Int → Int → Int → Int → Int → Int → Int → Int → Int → Int → Int → Int → Int → Int → (Bool → Option α) → Option α
def f4_0g (vJ4_0_0 : TJ4_0_0) (vf12_0 : Tf12_0) (vf13_0 : Tf13_0) (vf5_0 : Tf5_0) (vf6_0 : Tf6_0) (vf7_0 : Tf7_0) (α : Type) (x1 x2 x3 x4 x5 x6 x7 x8 x9 x10 x11 x12 x13 x14 x15 x16 x17 x18 x19 x20 x21 x22 x23 x24 x25 x26 : Int) (k1 : Bool → Option α) : Option α :=
 vf5_0 α 
 (vf6_0 α x11 x12 x13 x14 x15 x16 x17 x18 x19 x20 x21 x22 x23 x24 x25 x26
 (fun x27 x28 x29 x30 x31 x32 x33 => cK (x33 != 0)
 (k1 (((x27 == 0) && ((x28 == 0) && true)) && (((x29 == 0) && ((x30 == 0) && true)) && (((x31 == 0) && ((x32 == 0) && true)) && true))))
 (vf7_0 α x11 x12 x13 x14 x15 x16 x17 x18 x19 x20 x27 x28 x29 x30 x31 x32
 (fun x34 x35 x36 x37 x38 x39 x40 => vJ4_0_0 α x40 x21 x22 x23 x24 x25 x26 x34 x35 x36 x37 x38 x39
 (fun x82 => cK x82
 (k1 false)
 (vf13_0 α x1 x2 x3 x4 x5 x6 x7 x8 x9 x10 x11 x12 x13 x14 x15 x16 x17 x18 x19 x20
 (fun x84 x85 x86 x87 x88 x89 x90 x91 x92 x93 x94 => vf6_0 α x84 x85 x86 x87 x88 x89 x90 x91 x92 x93 x21 x22 x23 x24 x25 x26
 (fun x95 x96 x97 x98 x99 x100 x101 => vf6_0 α x1 x2 x3 x4 x5 x6 x7 x8 x9 x10 x27 x28 x29 x30 x31 x32
 (fun x102 x103 x104 x105 x106 x107 x108 => cK (x94 != 0)
 (k1 true)
 (cK (x101 != 0)
 (k1 true)
 (cK (x108 != 0)
 (k1 true)
 (vf12_0 α x95 x96 x97 x98 x99 x100 x102 x103 x104 x105 x106 x107
 (fun x109 => k1 x109)))))))))))))
noncomputable def f4_0 (α : Type) (x1 x2 x3 x4 x5 x6 x7 x8 x9 x10 x11 x12 x13 x14 x15 x16 x17 x18 x19 x20 x21 x22 x23 x24 x25 x26 : Int) (k1 : Bool → Option α) : Option α := f4_0g J4_0_0 f12_0 f13_0 f5_0 f6_0 f7_0 α x1 x2 x3 x4 x5 x6 x7 x8 x9 x10 x11 x12 x13 x14 x15 x16 x17 x18 x19 x20 x21 x22 x23 x24 x25 x26 k1
def pa4_0 : PT (List DV) := pA [pV true [(dI .i64), (dI .i64), (dI .i64), (dI .i64), (dI .i64), (dI .i64), (dI .i64), (dI .i64), (dI .i64), (dI .i64)], pV true [(dI .i64), (dI .i64), (dI .i64), (dI .i64), (dI .i64), (dI .i64), (dI .i64), (dI .i64), (dI .i64), (dI .i64)], pV true [(dI .i64), (dI .i64), (dI .i64), (dI .i64), (dI .i64), (dI .i64)]]
def Fn4_0 (v : Tf4_0) (α : Type) (k : List RV → Option α) : Int → Int → Int → Int → Int → Int → Int → Int → Int → Int → Int → Int → Int → Int → Int → Int → Int → Int → Int → Int → Int → Int → Int → Int → Int → Int → Option α := fun x1 x2 x3 x4 x5 x6 x7 x8 x9 x10 x11 x12 x13 x14 x15 x16 x17 x18 x19 x20 x21 x22 x23 x24 x25 x26 => v α x1 x2 x3 x4 x5 x6 x7 x8 x9 x10 x11 x12 x13 x14 x15 x16 x17 x18 x19 x20 x21 x22 x23 x24 x25 x26 (fun (y1 : Bool) => ur4_0_0 k y1)
noncomputable def cm4_0g (vJ4_0_0 : TJ4_0_0) : MCode := (.seq (.region r4_2 [] (tO [3, 4, 5])) (.seq (.seq (.region r4_5 [] (tO [3, 4, 5, 18])) (.cond (.tmp 18) (.seq (.region r4_8 [] (tO [6])) .ret) .skip)) (.seq (.region r4_10 [] (tO [3, 4, 5, 7, 8])) (.seq (.seq (.region r4_13 [] (tO [3, 4, 5, 7, 26])) (.cond (.tmp 26) (.seq (.region r4_16 [] (tO [6])) .ret) .skip)) (.seq (.region r4_18 [] (tO [3, 4, 5, 7, 9, 10])) (.seq (.seq (.mark [⟨p4_0_0, F4_0_0 vJ4_0_0⟩] c4_0_20) (.cond (.tmp 55) (.seq (.region r4_24 [] (tO [6])) .ret) .skip)) (.seq (.region r4_26 [] (tO [3, 5, 7, 11, 12])) (.seq (.region r4_28 [] (tO [3, 7, 12, 13, 14])) (.seq (.region r4_30 [] (tO [12, 13, 14, 15, 16])) (.seq (.region r4_32 [] (tO [6])) .ret))))))))))
noncomputable def cm4_0 : MCode := cm4_0g J4_0_0
theorem gm4_0 : cm4_0.Good Try.prog E4_0 sh4 := ⟨trivial, ⟨⟨trivial, ⟨⟨trivial, trivial⟩, trivial⟩⟩, ⟨trivial, ⟨⟨trivial, ⟨⟨trivial, trivial⟩, trivial⟩⟩, ⟨trivial, ⟨⟨⟨g4_0_20, m4_0_0, trivial⟩, ⟨⟨trivial, trivial⟩, trivial⟩⟩, ⟨trivial, ⟨trivial, ⟨trivial, ⟨trivial, trivial⟩⟩⟩⟩⟩⟩⟩⟩⟩⟩
theorem fm4_0g (vf5_0 : Tf5_0) (vf6_0 : Tf6_0) (vf7_0 : Tf7_0) (vf12_0 : Tf12_0) (vf13_0 : Tf13_0) (vJ4_0_0 : TJ4_0_0) (α : Type) (k : List RV → Option α) : Fn4_0 (f4_0g vJ4_0_0 vf12_0 vf13_0 vf5_0 vf6_0 vf7_0) α k = pa4_0.unc fun ds => fnM Try.prog (E4_0g vf5_0 vf6_0 vf7_0 vf12_0 vf13_0) sh4 (cm4_0g vJ4_0_0) rs4 k ds := by kernel_rfl
theorem fm4_0 : ∀ (α : Type) (k : List RV → Option α), Fn4_0 f4_0 α k = pa4_0.unc fun ds => fnM Try.prog E4_0 sh4 cm4_0 rs4 k ds := fm4_0g f5_0 f6_0 f7_0 f12_0 f13_0 J4_0_0
theorem is4 : FnIs Try.prog 4 nt4 tr4 tl4 cm4_0.erase rs4 := ⟨Try.f4, Try.func4, rfl, by kernel_rfl, by kernel_rfl, by kernel_rfl⟩
theorem io4_0 : InstOk Try.prog 4 nt4 ⟨pa4_0, Fn4_0 f4_0⟩ := inst_ok eo4_0 followsTry is4 ⟨⟨sh4, cm4_0, by kernel_rfl, gm4_0, fm4_0⟩⟩
end Go.AM.K
