/- Printed by KGen. -/
import Derived.Test.YtmhghbkdcdpicaaKTr
import Derived.Test.YtmhghbkdcdpicaaSAcX
namespace Go.AM.K
open Go.Proofs
set_option maxRecDepth 100000
set_option linter.unusedVariables false
abbrev nt3 : Nat := 83
def sh3 : List (Nat × List Sh) := [(16, [.int .i64, .int .i64, .int .i64, .int .i64, .int .i64, .int .i64, .int .i64, .int .i64, .int .i64, .int .i64]), (17, [.int .i64, .int .i64, .int .i64, .int .i64, .int .i64, .int .i64]), (22, [.int .i64, .int .i64, .int .i64, .int .i64, .int .i64, .int .i64, .int .i64, .int .i64, .int .i64, .int .i64]), (23, [.int .i64, .int .i64, .int .i64, .int .i64, .int .i64, .int .i64]), (27, [.int .i64, .int .i64, .int .i64, .int .i64, .int .i64, .int .i64, .int .i64, .int .i64, .int .i64, .int .i64]), (31, [.int .i64, .int .i64, .int .i64, .int .i64, .int .i64, .int .i64]), (44, [.int .i64, .int .i64, .int .i64, .int .i64, .int .i64, .int .i64]), (49, [.int .i64, .int .i64, .int .i64, .int .i64, .int .i64, .int .i64]), (54, [.int .i64, .int .i64, .int .i64, .int .i64, .int .i64, .int .i64, .int .i64, .int .i64, .int .i64, .int .i64]), (55, [.int .i64, .int .i64, .int .i64, .int .i64, .int .i64, .int .i64]), (60, [.int .i64, .int .i64, .int .i64, .int .i64, .int .i64, .int .i64, .int .i64, .int .i64, .int .i64, .int .i64]), (61, [.int .i64, .int .i64, .int .i64, .int .i64, .int .i64, .int .i64]), (69, [.int .i64, .int .i64, .int .i64, .int .i64, .int .i64, .int .i64]), (70, [.int .i64, .int .i64, .int .i64, .int .i64, .int .i64, .int .i64]), (79, [.int .i64, .int .i64, .int .i64, .int .i64, .int .i64, .int .i64]), (80, [.int .i64, .int .i64, .int .i64, .int .i64, .int .i64, .int .i64])]
def r3_2 : List AOper := [oO 2 (.box (.tmp 0)), oO 3 (.box (.tmp 1)), oO 4 (.mv (.const (.bool false)))]
def r3_5 : List AOper := [oO 13 (.call 5 []), oO 14 (.pure (oB (.unOp .not 4 (.tmp 13)) 4))]
def r3_8 : List AOper := [oO 4 (.mv (.const (.bool false)))]
def r3_10 : List AOper := [oO 16 (.load true 10 (.tmp 2)), oO 17 (.load true 6 (.tmp 3)), oO 18 (.call 6 [(.tmp 16), (.tmp 17)]), oM 15 18, oO 19 (.extract 0 (.tmp 15)), oO 20 (.extract 1 (.tmp 15)), oO 5 (.alloc [(cI 0), (cI 0), (cI 0), (cI 0), (cI 0), (cI 0)]), oD (.store 6 (.tmp 5) (.tmp 19)), oM 6 20]
def r3_12 : List AOper := [oO 22 (.load true 10 (.tmp 2)), oO 23 (.load true 6 (.tmp 3)), oO 24 (.call 7 [(.tmp 22), (.tmp 23)]), oM 21 24, oO 25 (.extract 0 (.tmp 21)), oO 26 (.extract 1 (.tmp 21)), oO 7 (.alloc [(cI 0), (cI 0), (cI 0), (cI 0), (cI 0), (cI 0)]), oD (.store 6 (.tmp 7) (.tmp 25)), oM 8 26]
def r3_14 : List AOper := [oO 27 (.load true 10 (.tmp 2)), oO 28 (.call 8 [(.tmp 27)]), oM 9 28]
def r3_17 : List AOper := [oM 29 9, oO 30 (.bin .eql 3 (.tmp 29) (kI 0))]
def r3_19 : List AOper := [oO 31 (.load true 6 (.tmp 3)), oO 32 (.call 9 [(.tmp 31)]), oM 9 32]
def r3_22 : List AOper := [oM 33 9, oO 34 (.bin .neq 3 (.tmp 33) (kI 0))]
def r3_25 : List AOper := [oM 35 6, oM 36 9, oO 37 (.bin .eql 3 (.tmp 35) (.tmp 36)), oM 38 37, oG 39 (.mv (.tmp 8)) 38 true, oG 40 (.mv (.tmp 9)) 38 true, oG 41 (.bin .eql 3 (.tmp 39) (.tmp 40)) 38 true, oO 42 (.pick (.tmp 38) (.tmp 41) (.const (.bool false))), oM 43 42, oG 44 (.load true 6 (.tmp 5)) 43 true, oG 45 (.build [(cI 0), (cI 0), (cI 0), (cI 0), (cI 0), (cI 0)] []) 43 true, oG 46 (.bin .eql 28 (.tmp 44) (.tmp 45)) 43 true, oO 47 (.pick (.tmp 43) (.tmp 46) (.const (.bool false))), oM 48 47, oG 49 (.load true 6 (.tmp 7)) 48 true, oG 50 (.build [(cI 0), (cI 0), (cI 0), (cI 0), (cI 0), (cI 0)] []) 48 true, oG 51 (.bin .eql 28 (.tmp 49) (.tmp 50)) 48 true, oO 52 (.pick (.tmp 48) (.tmp 51) (.const (.bool false))), oM 4 52]
def r3_27 : List AOper := [oO 54 (.load true 10 (.tmp 2)), oO 55 (.load true 6 (.tmp 3)), oO 56 (.call 10 [(.tmp 54), (.tmp 55)]), oM 53 56, oO 57 (.extract 0 (.tmp 53)), oO 58 (.extract 1 (.tmp 53)), oO 10 (.alloc [(cI 0), (cI 0), (cI 0), (cI 0), (cI 0), (cI 0)]), oD (.store 6 (.tmp 10) (.tmp 57)), oM 9 58]
def r3_29 : List AOper := [oO 60 (.load true 10 (.tmp 2)), oO 61 (.load true 6 (.tmp 3)), oO 62 (.call 11 [(.tmp 60), (.tmp 61)]), oM 59 62, oO 63 (.extract 0 (.tmp 59)), oO 64 (.extract 1 (.tmp 59)), oO 11 (.alloc [(cI 0), (cI 0), (cI 0), (cI 0), (cI 0), (cI 0)]), oD (.store 6 (.tmp 11) (.tmp 63)), oM 12 64]
def r3_31 : List AOper := [oM 65 6, oM 66 9, oO 67 (.bin .eql 3 (.tmp 65) (.tmp 66)), oM 68 67, oG 69 (.load true 6 (.tmp 5)) 68 true, oG 70 (.load true 6 (.tmp 10)) 68 true, oG 71 (.bin .eql 28 (.tmp 69) (.tmp 70)) 68 true, oO 72 (.pick (.tmp 68) (.tmp 71) (.const (.bool false))), oM 73 72, oG 74 (.mv (.tmp 8)) 73 true, oG 75 (.mv (.tmp 12)) 73 true, oG 76 (.bin .eql 3 (.tmp 74) (.tmp 75)) 73 true, oO 77 (.pick (.tmp 73) (.tmp 76) (.const (.bool false))), oM 78 77, oG 79 (.load true 6 (.tmp 7)) 78 true, oG 80 (.load true 6 (.tmp 11)) 78 true, oG 81 (.bin .eql 28 (.tmp 79) (.tmp 80)) 78 true, oO 82 (.pick (.tmp 78) (.tmp 81) (.const (.bool false))), oM 4 82]
def tr3 : List (Nat × Tidy) := [tT 0 [2, 3], tT 1 [2, 3, 14], tT 2 [4], tT 3 [2, 3, 5, 6], tT 4 [2, 3, 5, 6, 7, 8], tT 5 [2, 3, 5, 6, 7, 8, 9], tT 6 [2, 3, 5, 6, 7, 8, 9, 30], tT 7 [2, 3, 5, 6, 7, 8, 9], tT 8 [2, 3, 5, 6, 7, 8, 9, 34], tT 9 [4], tT 10 [2, 3, 5, 6, 7, 8, 9, 10], tT 11 [5, 6, 7, 8, 9, 10, 11, 12], tT 12 [4]]
def tl3 : List (Nat × Tidy) := []
def rs3 : List AResV := [.tmp 4]
def p3_0_0 : PT St := pS [sl 2 (aV false [(cPtr 2 0)]), sl 3 (aV false [(cPtr 3 0)]), sl 5 (aV false [(cPtr 5 0)]), sl 6 (aV false [(cD (dI .i64))]), sl 7 (aV false [(cPtr 7 0)]), sl 8 (aV false [(cD (dI .i64))]), sl 9 (aV false [(cD (dI .i64))])] [eBox 2 [(cD (dI .i64)), (cD (dI .i64)), (cD (dI .i64)), (cD (dI .i64)), (cD (dI .i64)), (cD (dI .i64)), (cD (dI .i64)), (cD (dI .i64)), (cD (dI .i64)), (cD (dI .i64))], eBox 3 [(cD (dI .i64)), (cD (dI .i64)), (cD (dI .i64)), (cD (dI .i64)), (cD (dI .i64)), (cD (dI .i64))], eBox 5 [(cD (dI .i64)), (cD (dI .i64)), (cD (dI .i64)), (cD (dI .i64)), (cD (dI .i64)), (cD (dI .i64))], eBox 7 [(cD (dI .i64)), (cD (dI .i64)), (cD (dI .i64)), (cD (dI .i64)), (cD (dI .i64)), (cD (dI .i64))]]
def u3_0_0 {β : Type} (g : St → β) : Int → Int → Int → Int → Int → Int → Int → Int → Int → Int → Int → Int → Int → Int → Int → Int → Int → Int → Int → Int → Int → Int → Int → Int → Int → Int → Int → Int → Int → Int → Int → β := p3_0_0.unc g
def p3_0_1 : PT St := pS [sl 2 (aV false [(cPtr 2 0)]), sl 3 (aV false [(cPtr 3 0)]), sl 5 (aV false [(cPtr 5 0)]), sl 6 (aV false [(cD (dI .i64))]), sl 7 (aV false [(cPtr 7 0)]), sl 8 (aV false [(cD (dI .i64))]), sl 9 (aV false [(cD (dI .i64))]), sl 30 (aV false [(cD dB)])] [eBox 2 [(cD (dI .i64)), (cD (dI .i64)), (cD (dI .i64)), (cD (dI .i64)), (cD (dI .i64)), (cD (dI .i64)), (cD (dI .i64)), (cD (dI .i64)), (cD (dI .i64)), (cD (dI .i64))], eBox 3 [(cD (dI .i64)), (cD (dI .i64)), (cD (dI .i64)), (cD (dI .i64)), (cD (dI .i64)), (cD (dI .i64))], eBox 5 [(cD (dI .i64)), (cD (dI .i64)), (cD (dI .i64)), (cD (dI .i64)), (cD (dI .i64)), (cD (dI .i64))], eBox 7 [(cD (dI .i64)), (cD (dI .i64)), (cD (dI .i64)), (cD (dI .i64)), (cD (dI .i64)), (cD (dI .i64))]]
def u3_0_1 {β : Type} (g : St → β) : Int → Int → Int → Bool → Int → Int → Int → Int → Int → Int → Int → Int → Int → Int → Int → Int → Int → Int → Int → Int → Int → Int → Int → Int → Int → Int → Int → Int → Int → Int → Int → Int → β := p3_0_1.unc g
def pr3_0_0 : PT (List RV) := pRs [pR false [rD dB]]
def ur3_0_0 {β : Type} (g : List RV → β) : Bool → β := pr3_0_0.unc g
def E3_0g (vf5_0 : Tf5_0) (vf6_0 : Tf6_0) (vf7_0 : Tf7_0) (vf8_0 : Tf8_0) (vf9_0 : Tf9_0) (vf10_0 : Tf10_0) (vf11_0 : Tf11_0) : EnvK := EnvK.of [⟨5, nt5, [⟨pa5_0, Fn5_0 vf5_0⟩]⟩, ⟨6, nt6, [⟨pa6_0, Fn6_0 vf6_0⟩]⟩, ⟨7, nt7, [⟨pa7_0, Fn7_0 vf7_0⟩]⟩, ⟨8, nt8, [⟨pa8_0, Fn8_0 vf8_0⟩]⟩, ⟨9, nt9, [⟨pa9_0, Fn9_0 vf9_0⟩]⟩, ⟨10, nt10, [⟨pa10_0, Fn10_0 vf10_0⟩]⟩, ⟨11, nt11, [⟨pa11_0, Fn11_0 vf11_0⟩]⟩] noSeq
noncomputable def E3_0 : EnvK := E3_0g f5_0 f6_0 f7_0 f8_0 f9_0 f10_0 f11_0
theorem eo3_0 : E3_0.Ok Try.prog := EnvK.of_ok noSeq_ok ⟨⟨io5_0, trivial⟩, ⟨io6_0, trivial⟩, ⟨io7_0, trivial⟩, ⟨io8_0, trivial⟩, ⟨io9_0, trivial⟩, ⟨io10_0, trivial⟩, ⟨io11_0, trivial⟩, trivial⟩
noncomputable def c3_0_15g  : MCode := (.seq (.region r3_17 [] (tO [2, 3, 5, 6, 7, 8, 9, 30])) (.cond (.tmp 30) (.region r3_19 [] (tO [2, 3, 5, 6, 7, 8, 9])) .skip))
noncomputable def c3_0_15 : MCode := c3_0_15g 
theorem g3_0_15 : c3_0_15.Good Try.prog E3_0 sh3 := ⟨trivial, ⟨trivial, trivial⟩⟩
--CODE 15 0
abbrev TJ3_0_0 : Type 1 := (α : Type) → Int → Int → Int → Int → Int → Int → Int → (Int → Option α) → (Bool → Option α) → Option α
def J3_0_0g (vf9_0 : Tf9_0) (α : Type) (x34 x45 x46 x47 x48 x49 x50 : Int) (k1 : Int → Option α) (k2 : Bool → Option α) : Option α :=
 cK (x34 == 0)
 (vf9_0 α x45 x46 x47 x48 x49 x50
 (fun x64 => k1 x64))
 (k2 (x34 == 0))
noncomputable def J3_0_0 (α : Type) (x34 x45 x46 x47 x48 x49 x50 : Int) (k1 : Int → Option α) (k2 : Bool → Option α) : Option α := J3_0_0g f9_0 α x34 x45 x46 x47 x48 x49 x50 k1 k2
def F3_0_0 (v : TJ3_0_0) (α : Type) (K : Exit → St → Option α) : Int → Int → Int → Int → Int → Int → Int → Int → Int → Int → Int → Int → Int → Int → Int → Int → Int → Int → Int → Int → Int → Int → Int → Int → Int → Int → Int → Int → Int → Int → Int → Option α := fun x32 x33 x34 x35 x36 x37 x38 x39 x40 x41 x42 x43 x44 x45 x46 x47 x48 x49 x50 x51 x52 x53 x54 x55 x56 x57 x58 x59 x60 x61 x62 => v α x34 x45 x46 x47 x48 x49 x50 (fun (y1 : Int) => u3_0_0 (K .normal) x32 x33 y1 x35 x36 x37 x38 x39 x40 x41 x42 x43 x44 x45 x46 x47 x48 x49 x50 x51 x52 x53 x54 x55 x56 x57 x58 x59 x60 x61 x62) (fun (y1 : Bool) => u3_0_1 (K .normal) x32 x33 x34 y1 x35 x36 x37 x38 x39 x40 x41 x42 x43 x44 x45 x46 x47 x48 x49 x50 x51 x52 x53 x54 x55 x56 x57 x58 x59 x60 x61 x62) 
theorem m3_0_0g (vf5_0 : Tf5_0) (vf6_0 : Tf6_0) (vf7_0 : Tf7_0) (vf8_0 : Tf8_0) (vf9_0 : Tf9_0) (vf10_0 : Tf10_0) (vf11_0 : Tf11_0)  (α : Type) (K : Exit → St → Option α) : F3_0_0 (J3_0_0g vf9_0) α K = p3_0_0.unc fun σ => runM Try.prog (E3_0g vf5_0 vf6_0 vf7_0 vf8_0 vf9_0 vf10_0 vf11_0) sh3 (c3_0_15g ) K σ := by kernel_rfl
theorem m3_0_0 : ∀ (α : Type) (K : Exit → St → Option α), F3_0_0 J3_0_0 α K = p3_0_0.unc fun σ => runM Try.prog E3_0 sh3 c3_0_15 K σ := m3_0_0g f5_0 f6_0 f7_0 f8_0 f9_0 f10_0 f11_0
abbrev Tf3_0 : Type 1 := (α : Type) → Int → Int → Int → Int → Int → Int → Int → Int → Int → Int → Int → Int → Int → Int → Int → Int → (Bool → Option α) → Option α
def f3_0g (vJ3_0_0 : TJ3_0_0) (vf10_0 : Tf10_0) (vf11_0 : Tf11_0) (vf5_0 : Tf5_0) (vf6_0 : Tf6_0) (vf7_0 : Tf7_0) (vf8_0 : Tf8_0) (α : Type) (x1 x2 x3 x4 x5 x6 x7 x8 x9 x10 x11 x12 x13 x14 x15 x16 : Int) (k1 : Bool → Option α) : Option α :=
 vf5_0 α 
 (vf6_0 α x1 x2 x3 x4 x5 x6 x7 x8 x9 x10 x11 x12 x13 x14 x15 x16
 (fun x17 x18 x19 x20 x21 x22 x23 => vf7_0 α x1 x2 x3 x4 x5 x6 x7 x8 x9 x10 x11 x12 x13 x14 x15 x16
 (fun x24 x25 x26 x27 x28 x29 x30 => vf8_0 α x1 x2 x3 x4 x5 x6 x7 x8 x9 x10
 (fun x31 => vJ3_0_0 α x31 x11 x12 x13 x14 x15 x16
 (fun x65 => cK (x65 != 0)
 (cK (x23 == x65)
 (cK (x30 == x65)
 (cK (((x17 == 0) && ((x18 == 0) && true)) && (((x19 == 0) && ((x20 == 0) && true)) && (((x21 == 0) && ((x22 == 0) && true)) && true)))
 (k1 (((x24 == 0) && ((x25 == 0) && true)) && (((x26 == 0) && ((x27 == 0) && true)) && (((x28 == 0) && ((x29 == 0) && true)) && true))))
 (k1 false))
 (k1 false))
 (k1 false))
 (vf10_0 α x1 x2 x3 x4 x5 x6 x7 x8 x9 x10 x11 x12 x13 x14 x15 x16
 (fun x68 x69 x70 x71 x72 x73 x74 => vf11_0 α x1 x2 x3 x4 x5 x6 x7 x8 x9 x10 x11 x12 x13 x14 x15 x16
 (fun x75 x76 x77 x78 x79 x80 x81 => cK (x23 == x74)
 (cK (((x17 == x68) && ((x18 == x69) && true)) && (((x19 == x70) && ((x20 == x71) && true)) && (((x21 == x72) && ((x22 == x73) && true)) && true)))
 (cK (x30 == x81)
 (k1 (((x24 == x75) && ((x25 == x76) && true)) && (((x26 == x77) && ((x27 == x78) && true)) && (((x28 == x79) && ((x29 == x80) && true)) && true))))
 (k1 false))
 (k1 false))
 (k1 false)))))
 (fun x66 => cK (x31 != 0)
 (cK (x23 == x31)
 (cK (x30 == x31)
 (cK (((x17 == 0) && ((x18 == 0) && true)) && (((x19 == 0) && ((x20 == 0) && true)) && (((x21 == 0) && ((x22 == 0) && true)) && true)))
 (k1 (((x24 == 0) && ((x25 == 0) && true)) && (((x26 == 0) && ((x27 == 0) && true)) && (((x28 == 0) && ((x29 == 0) && true)) && true))))
 (k1 false))
 (k1 false))
 (k1 false))
 (vf10_0 α x1 x2 x3 x4 x5 x6 x7 x8 x9 x10 x11 x12 x13 x14 x15 x16
 (fun x82 x83 x84 x85 x86 x87 x88 => vf11_0 α x1 x2 x3 x4 x5 x6 x7 x8 x9 x10 x11 x12 x13 x14 x15 x16
 (fun x89 x90 x91 x92 x93 x94 x95 => cK (x23 == x88)
 (cK (((x17 == x82) && ((x18 == x83) && true)) && (((x19 == x84) && ((x20 == x85) && true)) && (((x21 == x86) && ((x22 == x87) && true)) && true)))
 (cK (x30 == x95)
 (k1 (((x24 == x89) && ((x25 == x90) && true)) && (((x26 == x91) && ((x27 == x92) && true)) && (((x28 == x93) && ((x29 == x94) && true)) && true))))
 (k1 false))
 (k1 false))
 (k1 false)))))))))
noncomputable def f3_0 (α : Type) (x1 x2 x3 x4 x5 x6 x7 x8 x9 x10 x11 x12 x13 x14 x15 x16 : Int) (k1 : Bool → Option α) : Option α := f3_0g J3_0_0 f10_0 f11_0 f5_0 f6_0 f7_0 f8_0 α x1 x2 x3 x4 x5 x6 x7 x8 x9 x10 x11 x12 x13 x14 x15 x16 k1
def pa3_0 : PT (List DV) := pA [pV true [(dI .i64), (dI .i64), (dI .i64), (dI .i64), (dI .i64), (dI .i64), (dI .i64), (dI .i64), (dI .i64), (dI .i64)], pV true [(dI .i64), (dI .i64), (dI .i64), (dI .i64), (dI .i64), (dI .i64)]]
def Fn3_0 (v : Tf3_0) (α : Type) (k : List RV → Option α) : Int → Int → Int → Int → Int → Int → Int → Int → Int → Int → Int → Int → Int → Int → Int → Int → Option α := fun x1 x2 x3 x4 x5 x6 x7 x8 x9 x10 x11 x12 x13 x14 x15 x16 => v α x1 x2 x3 x4 x5 x6 x7 x8 x9 x10 x11 x12 x13 x14 x15 x16 (fun (y1 : Bool) => ur3_0_0 k y1)
noncomputable def cm3_0g (vJ3_0_0 : TJ3_0_0) : MCode := (.seq (.region r3_2 [] (tO [2, 3])) (.seq (.seq (.region r3_5 [] (tO [2, 3, 14])) (.cond (.tmp 14) (.seq (.region r3_8 [] (tO [4])) .ret) .skip)) (.seq (.region r3_10 [] (tO [2, 3, 5, 6])) (.seq (.region r3_12 [] (tO [2, 3, 5, 6, 7, 8])) (.seq (.region r3_14 [] (tO [2, 3, 5, 6, 7, 8, 9])) (.seq (.mark [⟨p3_0_0, F3_0_0 vJ3_0_0⟩] c3_0_15) (.seq (.seq (.region r3_22 [] (tO [2, 3, 5, 6, 7, 8, 9, 34])) (.cond (.tmp 34) (.seq (.region r3_25 [] (tO [4])) .ret) .skip)) (.seq (.region r3_27 [] (tO [2, 3, 5, 6, 7, 8, 9, 10])) (.seq (.region r3_29 [] (tO [5, 6, 7, 8, 9, 10, 11, 12])) (.seq (.region r3_31 [] (tO [4])) .ret))))))))))
noncomputable def cm3_0 : MCode := cm3_0g J3_0_0
theorem gm3_0 : cm3_0.Good Try.prog E3_0 sh3 := ⟨trivial, ⟨⟨trivial, ⟨⟨trivial, trivial⟩, trivial⟩⟩, ⟨trivial, ⟨trivial, ⟨trivial, ⟨⟨g3_0_15, m3_0_0, trivial⟩, ⟨⟨trivial, ⟨⟨trivial, trivial⟩, trivial⟩⟩, ⟨trivial, ⟨trivial, ⟨trivial, trivial⟩⟩⟩⟩⟩⟩⟩⟩⟩⟩
theorem fm3_0g (vf5_0 : Tf5_0) (vf6_0 : Tf6_0) (vf7_0 : Tf7_0) (vf8_0 : Tf8_0) (vf9_0 : Tf9_0) (vf10_0 : Tf10_0) (vf11_0 : Tf11_0) (vJ3_0_0 : TJ3_0_0) (α : Type) (k : List RV → Option α) : Fn3_0 (f3_0g vJ3_0_0 vf10_0 vf11_0 vf5_0 vf6_0 vf7_0 vf8_0) α k = pa3_0.unc fun ds => fnM Try.prog (E3_0g vf5_0 vf6_0 vf7_0 vf8_0 vf9_0 vf10_0 vf11_0) sh3 (cm3_0g vJ3_0_0) rs3 k ds := by kernel_rfl
theorem fm3_0 : ∀ (α : Type) (k : List RV → Option α), Fn3_0 f3_0 α k = pa3_0.unc fun ds => fnM Try.prog E3_0 sh3 cm3_0 rs3 k ds := fm3_0g f5_0 f6_0 f7_0 f8_0 f9_0 f10_0 f11_0 J3_0_0
theorem is3 : FnIs Try.prog 3 nt3 tr3 tl3 cm3_0.erase rs3 := ⟨Try.f3, Try.func3, rfl, by kernel_rfl, by kernel_rfl, by kernel_rfl⟩
theorem io3_0 : InstOk Try.prog 3 nt3 ⟨pa3_0, Fn3_0 f3_0⟩ := inst_ok eo3_0 followsTry is3 ⟨⟨sh3, cm3_0, by kernel_rfl, gm3_0, fm3_0⟩⟩
end Go.AM.K
