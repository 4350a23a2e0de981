/- Printed by KGen. -/
import Derived.Test.YtjifpcjmnhnpkaaKTr
import Derived.Test.YtjifpcjmnhnpkaaAcX
namespace Go.AM.K
open Go.Proofs
set_option maxRecDepth 100000
set_option linter.unusedVariables false
abbrev nt7 : Nat := 92
def sh7 : List (Nat × List Sh) := [(15, [.sl]), (19, [.sl, .int .i64, .int .i64]), (25, [.sl, .int .i64, .int .i64]), (31, [.sl, .int .i64, .int .i64]), (37, [.sl, .int .i64, .int .i64]), (65, [.int .i64, .int .i64, .int .i64, .int .i64, .int .i64, .int .i64]), (70, [.sl, .int .i64, .int .i64]), (78, [.sl, .int .i64, .int .i64]), (88, [.int .i64, .int .i64, .int .i64, .int .i64, .int .i64, .int .i64]), (89, [.int .i64, .int .i64, .int .i64, .int .i64, .int .i64, .int .i64])]
def r7_2 : List AOper := [oO 1 (.box (.tmp 0)), oO 2 (.mv (.const (.bool false)))]
def r7_5 : List AOper := [oO 12 (.call 15 []), oO 13 (.pure (oB (.unOp .not 4 (.tmp 12)) 4))]
def r7_8 : List AOper := [oO 2 (.mv (.const (.bool false)))]
def r7_11 : List AOper := [oO 14 (.faddr 0 (.tmp 1)), oO 15 (.load false 1 (.tmp 14)), oO 16 (.len (.tmp 15)), oO 17 (.bin .gtr 3 (.tmp 16) (kI 70))]
def r7_14 : List AOper := [oO 2 (.mv (.const (.bool true)))]
def r7_16 : List AOper := [oO 19 (.load true 3 (.tmp 1)), oO 20 (.call 17 [(.tmp 19)]), oO 21 (.call 33 [(.tmp 20)]), oM 18 21, oO 22 (.extract 0 (.tmp 18)), oO 23 (.extract 1 (.tmp 18)), oM 3 22, oM 4 23]
def r7_18 : List AOper := [oO 25 (.load true 3 (.tmp 1)), oO 26 (.call 17 [(.tmp 25)]), oO 27 (.call 34 [(.tmp 26)]), oM 24 27, oO 28 (.extract 0 (.tmp 24)), oO 29 (.extract 1 (.tmp 24)), oM 5 28, oM 6 29]
def r7_20 : List AOper := [oO 31 (.load true 3 (.tmp 1)), oO 32 (.call 17 [(.tmp 31)]), oO 33 (.call 21 [(.tmp 32)]), oM 30 33, oO 34 (.extract 0 (.tmp 30)), oO 35 (.extract 1 (.tmp 30)), oO 7 (.alloc [(cI 0), (cI 0), (cI 0), (cI 0), (cI 0), (cI 0)]), oD (.store 6 (.tmp 7) (.tmp 34)), oM 8 35]
def r7_22 : List AOper := [oO 37 (.load true 3 (.tmp 1)), oO 38 (.call 18 [(.tmp 37)]), oM 36 38, oO 39 (.extract 0 (.tmp 36)), oO 40 (.extract 1 (.tmp 36)), oM 9 39, oM 10 40]
def r7_25 : List AOper := [oM 41 4, oM 42 10, oO 43 (.bin .neq 3 (.tmp 41) (.tmp 42)), oM 44 43, oG 45 (.mv (.tmp 3)) 44 false, oG 46 (.mv (.tmp 9)) 44 false, oG 47 (.bin .neq 3 (.tmp 45) (.tmp 46)) 44 false, oO 48 (.pick (.tmp 44) (.const (.bool true)) (.tmp 47))]
def r7_28 : List AOper := [oO 2 (.mv (.const (.bool false)))]
def r7_31 : List AOper := [oM 49 10, oO 50 (.bin .neq 3 (.tmp 49) (kI 0))]
def r7_34 : List AOper := [oM 51 6, oM 52 10, oO 53 (.bin .eql 3 (.tmp 51) (.tmp 52)), oM 54 53, oG 55 (.mv (.tmp 8)) 54 true, oG 56 (.mv (.tmp 10)) 54 true, oG 57 (.bin .eql 3 (.tmp 55) (.tmp 56)) 54 true, oO 58 (.pick (.tmp 54) (.tmp 57) (.const (.bool false))), oM 59 58, oG 60 (.mv (.tmp 5)) 59 true, oG 61 (.len (.tmp 60)) 59 true, oG 62 (.bin .eql 3 (.tmp 61) (kI 0)) 59 true, oO 63 (.pick (.tmp 59) (.tmp 62) (.const (.bool false))), oM 64 63, oG 65 (.load true 6 (.tmp 7)) 64 true, oG 66 (.build [(cI 0), (cI 0), (cI 0), (cI 0), (cI 0), (cI 0)] []) 64 true, oG 67 (.bin .eql 40 (.tmp 65) (.tmp 66)) 64 true, oO 68 (.pick (.tmp 64) (.tmp 67) (.const (.bool false))), oM 2 68]
def r7_36 : List AOper := [oO 70 (.load true 3 (.tmp 1)), oO 71 (.call 35 [(.tmp 70)]), oM 69 71, oO 72 (.extract 0 (.tmp 69)), oO 73 (.extract 1 (.tmp 69)), oO 11 (.alloc [(cI 0), (cI 0), (cI 0), (cI 0), (cI 0), (cI 0)]), oD (.store 6 (.tmp 11) (.tmp 72)), oM 10 73]
def r7_38 : List AOper := [oM 74 6, oO 75 (.bin .eql 28 (.tmp 74) (kI 0)), oM 76 75, oG 77 (.mv (.tmp 5)) 76 true, oG 78 (.load true 3 (.tmp 1)) 76 true, oG 79 (.call 37 [(.tmp 78)]) 76 true, oG 80 (.call 36 [(.tmp 77), (.tmp 79)]) 76 true, oO 81 (.pick (.tmp 76) (.tmp 80) (.const (.bool false))), oM 82 81, oG 83 (.mv (.tmp 8)) 82 true, oG 84 (.mv (.tmp 10)) 82 true, oG 85 (.bin .eql 3 (.tmp 83) (.tmp 84)) 82 true, oO 86 (.pick (.tmp 82) (.tmp 85) (.const (.bool false))), oM 87 86, oG 88 (.load true 6 (.tmp 7)) 87 true, oG 89 (.load true 6 (.tmp 11)) 87 true, oG 90 (.bin .eql 40 (.tmp 88) (.tmp 89)) 87 true, oO 91 (.pick (.tmp 87) (.tmp 90) (.const (.bool false))), oM 2 91]
def tr7 : List (Nat × Tidy) := [tT 0 [1], tT 1 [1, 13], tT 2 [2], tT 3 [1, 17], tT 4 [2], tT 5 [1, 3, 4], tT 6 [1, 3, 4, 5, 6], tT 7 [1, 3, 4, 5, 6, 7, 8], tT 8 [1, 3, 4, 5, 6, 7, 8, 9, 10], tT 9 [1, 5, 6, 7, 8, 10, 48], tT 10 [2], tT 11 [1, 5, 6, 7, 8, 10, 50], tT 12 [2], tT 13 [1, 5, 6, 7, 8, 10, 11], tT 14 [2]]
def tl7 : List (Nat × Tidy) := []
def rs7 : List AResV := [.tmp 2]
def pr7_0_0 : PT (List RV) := pRs [pR false [rD dB]]
def ur7_0_0 {β : Type} (g : List RV → β) : Bool → β := pr7_0_0.unc g
def E7_0g (vf15_0 : Tf15_0) (vf17_0 : Tf17_0) (vf33_0 : Tf33_0) (vf34_0 : Tf34_0) (vf21_0 : Tf21_0) (vf18_0 : Tf18_0) (vf35_0 : Tf35_0) (vf37_0 : Tf37_0) (vf36_0 : Tf36_0) : EnvK := EnvK.of [⟨15, nt15, [⟨pa15_0, Fn15_0 vf15_0⟩]⟩, ⟨17, nt17, [⟨pa17_0, Fn17_0 vf17_0⟩]⟩, ⟨33, nt33, [⟨pa33_0, Fn33_0 vf33_0⟩]⟩, ⟨34, nt34, [⟨pa34_0, Fn34_0 vf34_0⟩]⟩, ⟨21, nt21, [⟨pa21_0, Fn21_0 vf21_0⟩]⟩, ⟨18, nt18, [⟨pa18_0, Fn18_0 vf18_0⟩]⟩, ⟨35, nt35, [⟨pa35_0, Fn35_0 vf35_0⟩]⟩, ⟨37, nt37, [⟨pa37_0, Fn37_0 vf37_0⟩]⟩, ⟨36, nt36, [⟨pa36_0, Fn36_0 vf36_0⟩]⟩] noSeq
noncomputable def E7_0 : EnvK := E7_0g f15_0 f17_0 f33_0 f34_0 f21_0 f18_0 f35_0 f37_0 f36_0
theorem eo7_0 : E7_0.Ok Try.prog := EnvK.of_ok noSeq_ok ⟨⟨io15_0, trivial⟩, ⟨io17_0, trivial⟩, ⟨io33_0, trivial⟩, ⟨io34_0, trivial⟩, ⟨io21_0, trivial⟩, ⟨io18_0, trivial⟩, ⟨io35_0, trivial⟩, ⟨io37_0, trivial⟩, ⟨io36_0, trivial⟩, trivial⟩
abbrev Tf7_0 : Type 1 := (α : Type) → Rows → Int → Int → (Bool → Option α) → Option α
def f7_0g (vf15_0 : Tf15_0) (vf17_0 : Tf17_0) (vf18_0 : Tf18_0) (vf21_0 : Tf21_0) (vf33_0 : Tf33_0) (vf34_0 : Tf34_0) (vf35_0 : Tf35_0) (vf36_0 : Tf36_0) (vf37_0 : Tf37_0) (α : Type) (x1 : Rows) (x2 x3 : Int) (k1 : Bool → Option α) : Option α :=
 vf15_0 α 
 (cK (decide (70 < ((List.length x1 : Nat) : Int)))
 (k1 true)
 (vf17_0 α x1 x2 x3
 (fun x4 x5 x6 => vf33_0 α x4 x5 x6
 (fun x7 x8 => vf17_0 α x1 x2 x3
 (fun x9 x10 x11 => vf34_0 α x9 x10 x11
 (fun x12 x13 => flatK [x12]
 (vf17_0 α x1 x2 x3
 (fun x14 x15 x16 => vf21_0 α x14 x15 x16
 (fun x17 x18 x19 x20 x21 x22 x23 => vf18_0 α x1 x2 x3
 (fun x24 x25 => cK (x8 != x25)
 (k1 false)
 (cK (x7 != x24)
 (k1 false)
 (cK (x25 != 0)
 (cK (x13 == x25)
 (cK (x23 == x25)
 (cK (((List.length x12 : Nat) : Int) == 0)
 (k1 (((x17 == 0) && ((x18 == 0) && true)) && (((x19 == 0) && ((x20 == 0) && true)) && (((x21 == 0) && ((x22 == 0) && true)) && true))))
 (k1 false))
 (k1 false))
 (k1 false))
 (vf35_0 α x1 x2 x3
 (fun x26 x27 x28 x29 x30 x31 x32 => cK (x13 == 0)
 (vf37_0 α x1 x2 x3
 (fun x33 => vf36_0 α x12 x33
 (fun x34 => cK x34
 (cK (x23 == x32)
 (k1 (((x17 == x26) && ((x18 == x27) && true)) && (((x19 == x28) && ((x20 == x29) && true)) && (((x21 == x30) && ((x22 == x31) && true)) && true))))
 (k1 false))
 (k1 false))))
 (k1 false)))))))))))))))
noncomputable def f7_0 (α : Type) (x1 : Rows) (x2 x3 : Int) (k1 : Bool → Option α) : Option α := f7_0g f15_0 f17_0 f18_0 f21_0 f33_0 f34_0 f35_0 f36_0 f37_0 α x1 x2 x3 k1
def pa7_0 : PT (List DV) := pA [pV true [dL, (dI .i64), (dI .i64)]]
def Fn7_0 (v : Tf7_0) (α : Type) (k : List RV → Option α) : Rows → Int → Int → Option α := fun x1 x2 x3 => v α x1 x2 x3 (fun (y1 : Bool) => ur7_0_0 k y1)
noncomputable def cm7_0g  : MCode := (.seq (.region r7_2 [] (tO [1])) (.seq (.seq (.region r7_5 [] (tO [1, 13])) (.cond (.tmp 13) (.seq (.region r7_8 [] (tO [2])) .ret) .skip)) (.seq (.seq (.region r7_11 [] (tO [1, 17])) (.cond (.tmp 17) (.seq (.region r7_14 [] (tO [2])) .ret) .skip)) (.seq (.region r7_16 [] (tO [1, 3, 4])) (.seq (.region r7_18 [] (tO [1, 3, 4, 5, 6])) (.seq (.region r7_20 [] (tO [1, 3, 4, 5, 6, 7, 8])) (.seq (.region r7_22 [] (tO [1, 3, 4, 5, 6, 7, 8, 9, 10])) (.seq (.seq (.region r7_25 [] (tO [1, 5, 6, 7, 8, 10, 48])) (.cond (.tmp 48) (.seq (.region r7_28 [] (tO [2])) .ret) .skip)) (.seq (.seq (.region r7_31 [] (tO [1, 5, 6, 7, 8, 10, 50])) (.cond (.tmp 50) (.seq (.region r7_34 [] (tO [2])) .ret) .skip)) (.seq (.region r7_36 [] (tO [1, 5, 6, 7, 8, 10, 11])) (.seq (.region r7_38 [] (tO [2])) .ret)))))))))))
noncomputable def cm7_0 : MCode := cm7_0g 
theorem gm7_0 : cm7_0.Good Try.prog E7_0 sh7 := ⟨trivial, ⟨⟨trivial, ⟨⟨trivial, trivial⟩, trivial⟩⟩, ⟨⟨trivial, ⟨⟨trivial, trivial⟩, trivial⟩⟩, ⟨trivial, ⟨trivial, ⟨trivial, ⟨trivial, ⟨⟨trivial, ⟨⟨trivial, trivial⟩, trivial⟩⟩, ⟨⟨trivial, ⟨⟨trivial, trivial⟩, trivial⟩⟩, ⟨trivial, ⟨trivial, trivial⟩⟩⟩⟩⟩⟩⟩⟩⟩⟩⟩
theorem fm7_0g (vf15_0 : Tf15_0) (vf17_0 : Tf17_0) (vf33_0 : Tf33_0) (vf34_0 : Tf34_0) (vf21_0 : Tf21_0) (vf18_0 : Tf18_0) (vf35_0 : Tf35_0) (vf37_0 : Tf37_0) (vf36_0 : Tf36_0)  (α : Type) (k : List RV → Option α) : Fn7_0 (f7_0g vf15_0 vf17_0 vf18_0 vf21_0 vf33_0 vf34_0 vf35_0 vf36_0 vf37_0) α k = pa7_0.unc fun ds => fnM Try.prog (E7_0g vf15_0 vf17_0 vf33_0 vf34_0 vf21_0 vf18_0 vf35_0 vf37_0 vf36_0) sh7 (cm7_0g ) rs7 k ds := by kernel_rfl
theorem fm7_0 : ∀ (α : Type) (k : List RV → Option α), Fn7_0 f7_0 α k = pa7_0.unc fun ds => fnM Try.prog E7_0 sh7 cm7_0 rs7 k ds := fm7_0g f15_0 f17_0 f33_0 f34_0 f21_0 f18_0 f35_0 f37_0 f36_0
theorem is7 : FnIs Try.prog 7 nt7 tr7 tl7 cm7_0.erase rs7 := ⟨Try.f7, Try.func7, rfl, by kernel_rfl, by kernel_rfl, by kernel_rfl⟩
theorem io7_0 : InstOk Try.prog 7 nt7 ⟨pa7_0, Fn7_0 f7_0⟩ := inst_ok eo7_0 followsTry is7 ⟨⟨sh7, cm7_0, by kernel_rfl, gm7_0, fm7_0⟩⟩
end Go.AM.K
