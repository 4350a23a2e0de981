/- Printed by KGen. -/
import Derived.Test.YtjifpcjmnhnpkaaKTr
import Derived.Test.YtjifpcjmnhnpkaaAcX
namespace Go.AM.K
open Go.Proofs
set_option maxRecDepth 100000
set_option linter.unusedVariables false
abbrev nt3 : Nat := 91
def sh3 : List (Nat × List Sh) := [(18, [.sl]), (22, [.sl, .int .i64, .int .i64]), (28, [.sl, .int .i64, .int .i64]), (38, [.cpx .f64, .cpx .f64, .cpx .f64, .cpx .f64]), (42, [.sl, .int .i64, .int .i64]), (52, [.sl, .int .i64, .int .i64]), (57, [.sl, .int .i64, .int .i64]), (63, [.cpx .f64]), (69, [.cpx .f64]), (76, [.int .i64, .int .i64, .int .i64, .int .i64, .int .i64, .int .i64])]
def r3_2 : List AOper := [oO 1 (.box (.tmp 0)), oO 2 (.mv (.const (.bool false)))]
def r3_5 : List AOper := [oO 15 (.call 15 []), oO 16 (.pure (oB (.unOp .not 4 (.tmp 15)) 4))]
def r3_8 : List AOper := [oO 2 (.mv (.const (.bool false)))]
def r3_11 : List AOper := [oO 17 (.faddr 0 (.tmp 1)), oO 18 (.load false 1 (.tmp 17)), oO 19 (.len (.tmp 18)), oO 20 (.bin .gtr 3 (.tmp 19) (kI 70))]
def r3_14 : List AOper := [oO 2 (.mv (.const (.bool true)))]
def r3_16 : List AOper := [oO 22 (.load true 3 (.tmp 1)), oO 23 (.call 17 [(.tmp 22)]), oO 24 (.call 16 [(.tmp 23)]), oM 21 24, oO 25 (.extract 0 (.tmp 21)), oO 26 (.extract 1 (.tmp 21)), oO 3 (.alloc [(.d (.v (.complex Go.FloatKind.f64 0 0))), (.d (.v (.complex Go.FloatKind.f64 0 0))), (.d (.v (.complex Go.FloatKind.f64 0 0))), (.d (.v (.complex Go.FloatKind.f64 0 0)))]), oD (.store 4 (.tmp 3) (.tmp 25)), oM 4 26]
def r3_19 : List AOper := [oO 28 (.load true 3 (.tmp 1)), oO 29 (.call 18 [(.tmp 28)]), oM 27 29, oO 30 (.extract 0 (.tmp 27)), oO 31 (.extract 1 (.tmp 27)), oM 5 30, oM 6 31]
def r3_21 : List AOper := [oM 32 6, oO 33 (.bin .neq 3 (.tmp 32) (kI 0))]
def r3_24 : List AOper := [oM 34 4, oM 35 6, oO 36 (.bin .eql 3 (.tmp 34) (.tmp 35)), oM 37 36, oG 38 (.load true 4 (.tmp 3)) 37 true, oG 39 (.build [(.d (.v (.complex Go.FloatKind.f64 0 0))), (.d (.v (.complex Go.FloatKind.f64 0 0))), (.d (.v (.complex Go.FloatKind.f64 0 0))), (.d (.v (.complex Go.FloatKind.f64 0 0)))] []) 37 true, oG 40 (.bin .eql 27 (.tmp 38) (.tmp 39)) 37 true, oO 41 (.pick (.tmp 37) (.tmp 40) (.const (.bool false))), oM 2 41]
def r3_26 : List AOper := [oO 42 (.load true 3 (.tmp 1)), oO 43 (.call 19 [(.tmp 42)]), oO 7 (.alloc [(.d (.v (.complex Go.FloatKind.f64 0 0))), (.d (.v (.complex Go.FloatKind.f64 0 0))), (.d (.v (.complex Go.FloatKind.f64 0 0))), (.d (.v (.complex Go.FloatKind.f64 0 0)))]), oD (.store 4 (.tmp 7) (.tmp 43))]
def r3_29 : List AOper := [oM 44 4, oO 45 (.bin .neq 28 (.tmp 44) (kI 0)), oM 46 45, oG 47 (.aslice 1 4 (.tmp 3)) 46 false, oG 48 (.aslice 1 4 (.tmp 7)) 46 false, oG 49 (.call 20 [(.tmp 47), (.tmp 48)]) 46 false, oG 50 (.pure (oB (.unOp .not 4 (.tmp 49)) 4)) 46 false, oO 51 (.pick (.tmp 46) (.const (.bool true)) (.tmp 50))]
def r3_32 : List AOper := [oO 2 (.mv (.const (.bool false)))]
def r3_34 : List AOper := [oO 52 (.load true 3 (.tmp 1)), oO 53 (.call 17 [(.tmp 52)]), oO 8 (.alloc [.nils, (cI 0), (cI 0)]), oD (.store 3 (.tmp 8) (.tmp 53))]
def r3_36 : List AOper := [oO 54 (.faddr 1 (.tmp 8)), oD (.store 1 (.tmp 54) (kI 0)), oO 55 (.faddr 2 (.tmp 8)), oD (.store 1 (.tmp 55) (kI 65536))]
def r3_38 : List AOper := [oO 57 (.load true 3 (.tmp 8)), oO 58 (.call 21 [(.tmp 57)]), oM 56 58, oO 59 (.extract 0 (.tmp 56)), oO 60 (.extract 1 (.tmp 56)), oO 9 (.alloc [(cI 0), (cI 0), (cI 0), (cI 0), (cI 0), (cI 0)]), oD (.store 6 (.tmp 9) (.tmp 59)), oM 10 60]
def r3_40 : List AOper := [oO 62 (.iaddr 1 (some 4) (.tmp 3) (kI 0)), oO 63 (.load false 1 (.tmp 62)), oO 64 (.call 22 [(.tmp 63)]), oM 61 64, oO 65 (.extract 0 (.tmp 61)), oO 66 (.extract 1 (.tmp 61)), oM 11 65, oM 12 66]
def r3_42 : List AOper := [oO 68 (.iaddr 1 (some 4) (.tmp 3) (kI 1)), oO 69 (.load false 1 (.tmp 68)), oO 70 (.call 22 [(.tmp 69)]), oM 67 70, oO 71 (.extract 0 (.tmp 67)), oO 72 (.extract 1 (.tmp 67)), oM 13 71, oM 14 72]
def r3_44 : List AOper := [oM 73 10, oO 74 (.bin .eql 28 (.tmp 73) (kI 0)), oM 75 74, oG 76 (.load true 6 (.tmp 9)) 75 true, oG 77 (.mv (.tmp 11)) 75 true, oG 78 (.mv (.tmp 11)) 75 true, oG 79 (.build [(cI 0), (cI 0)] [(0, 1, (.tmp 77)), (1, 1, (.tmp 78))]) 75 true, oG 80 (.mv (.tmp 13)) 75 true, oG 81 (.mv (.tmp 13)) 75 true, oG 82 (.build [(cI 0), (cI 0)] [(0, 1, (.tmp 80)), (1, 1, (.tmp 81))]) 75 true, oG 83 (.mv (.tmp 14)) 75 true, oG 84 (.pure (oB (.unOp .neg 3 (.tmp 83)) 3)) 75 true, oG 85 (.mv (.tmp 14)) 75 true, oG 86 (.pure (oB (.unOp .neg 3 (.tmp 85)) 3)) 75 true, oG 87 (.build [(cI 0), (cI 0)] [(0, 1, (.tmp 84)), (1, 1, (.tmp 86))]) 75 true, oG 88 (.build [(cI 0), (cI 0), (cI 0), (cI 0), (cI 0), (cI 0)] [(0, 2, (.tmp 79)), (2, 2, (.tmp 82)), (4, 2, (.tmp 87))]) 75 true, oG 89 (.bin .eql 40 (.tmp 76) (.tmp 88)) 75 true, oO 90 (.pick (.tmp 75) (.tmp 89) (.const (.bool false))), oM 2 90]
def tr3 : List (Nat × Tidy) := [tT 0 [1], tT 1 [1, 16], tT 2 [2], tT 3 [1, 20], tT 4 [2], (5, ⟨[1, 3, 4], true, [], [3]⟩), tT 6 [1, 3, 4, 6], tT 7 [1, 3, 4, 6, 33], tT 8 [2], (9, ⟨[1, 3, 4, 7], true, [], [7]⟩), tT 10 [1, 3, 51], tT 11 [2], tT 12 [3, 8], tT 13 [3, 8], tT 14 [3, 9, 10], tT 15 [3, 9, 10, 11], tT 16 [9, 10, 11, 13, 14], tT 17 [2]]
def tl3 : List (Nat × Tidy) := []
def rs3 : List AResV := [.tmp 2]
def pr3_0_0 : PT (List RV) := pRs [pR false [rD dB]]
def ur3_0_0 {β : Type} (g : List RV → β) : Bool → β := pr3_0_0.unc g
def E3_0g (vf15_0 : Tf15_0) (vf17_0 : Tf17_0) (vf16_0 : Tf16_0) (vf18_0 : Tf18_0) (vf19_0 : Tf19_0) (vf20_0 : Tf20_0) (vf21_0 : Tf21_0) (vf22_0 : Tf22_0) : EnvK := EnvK.of [⟨15, nt15, [⟨pa15_0, Fn15_0 vf15_0⟩]⟩, ⟨17, nt17, [⟨pa17_0, Fn17_0 vf17_0⟩]⟩, ⟨16, nt16, [⟨pa16_0, Fn16_0 vf16_0⟩]⟩, ⟨18, nt18, [⟨pa18_0, Fn18_0 vf18_0⟩]⟩, ⟨19, nt19, [⟨pa19_0, Fn19_0 vf19_0⟩]⟩, ⟨20, nt20, [⟨pa20_0, Fn20_0 vf20_0⟩]⟩, ⟨21, nt21, [⟨pa21_0, Fn21_0 vf21_0⟩]⟩, ⟨22, nt22, [⟨pa22_0, Fn22_0 vf22_0⟩]⟩] noSeq
noncomputable def E3_0 : EnvK := E3_0g f15_0 f17_0 f16_0 f18_0 f19_0 f20_0 f21_0 f22_0
theorem eo3_0 : E3_0.Ok Try.prog := EnvK.of_ok noSeq_ok ⟨⟨io15_0, trivial⟩, ⟨io17_0, trivial⟩, ⟨io16_0, trivial⟩, ⟨io18_0, trivial⟩, ⟨io19_0, trivial⟩, ⟨io20_0, trivial⟩, ⟨io21_0, trivial⟩, ⟨io22_0, trivial⟩, trivial⟩
abbrev Tf3_0 : Type 1 := (α : Type) → Rows → Int → Int → (Bool → Option α) → Option α
def f3_0g (vf15_0 : Tf15_0) (vf16_0 : Tf16_0) (vf17_0 : Tf17_0) (vf18_0 : Tf18_0) (vf19_0 : Tf19_0) (vf20_0 : Tf20_0) (vf21_0 : Tf21_0) (vf22_0 : Tf22_0) (α : Type) (x1 : Rows) (x2 x3 : Int) (k1 : Bool → Option α) : Option α :=
 vf15_0 α 
 (cK (decide (70 < ((List.length x1 : Nat) : Int)))
 (k1 true)
 (vf17_0 α x1 x2 x3
 (fun x4 x5 x6 => vf16_0 α x4 x5 x6
 (fun x7 x8 x9 x10 x11 x12 x13 x14 x15 => vf18_0 α x1 x2 x3
 (fun x16 x17 => cK (x17 != 0)
 (cK (x15 == x17)
 (k1 ((Op.floatEq .f64 x7 0 && Op.floatEq .f64 x8 0) && ((Op.floatEq .f64 x9 0 && Op.floatEq .f64 x10 0) && ((Op.floatEq .f64 x11 0 && Op.floatEq .f64 x12 0) && ((Op.floatEq .f64 x13 0 && Op.floatEq .f64 x14 0) && true)))))
 (k1 false))
 (vf19_0 α x1 x2 x3
 (fun x18 x19 x20 x21 x22 x23 x24 x25 => cK (x15 != 0)
 (k1 false)
 (vf20_0 α [[DC.v (.complex .f64 x7 x8)], [DC.v (.complex .f64 x9 x10)], [DC.v (.complex .f64 x11 x12)], [DC.v (.complex .f64 x13 x14)]] [[DC.v (.complex .f64 x18 x19)], [DC.v (.complex .f64 x20 x21)], [DC.v (.complex .f64 x22 x23)], [DC.v (.complex .f64 x24 x25)]]
 (fun x26 => cK (!x26)
 (k1 false)
 (vf17_0 α x1 x2 x3
 (fun x27 x28 x29 => vf21_0 α x27 0 65536
 (fun x30 x31 x32 x33 x34 x35 x36 => vf22_0 α x7 x8
 (fun x37 x38 => vf22_0 α x9 x10
 (fun x39 x40 => cK (x36 == 0)
 (k1 (((x30 == x37) && ((x31 == x37) && true)) && (((x32 == x39) && ((x33 == x39) && true)) && (((x34 == (w64 (0 - x40))) && ((x35 == (w64 (0 - x40))) && true)) && true))))
 (k1 false)))))))))))))))
noncomputable def f3_0 (α : Type) (x1 : Rows) (x2 x3 : Int) (k1 : Bool → Option α) : Option α := f3_0g f15_0 f16_0 f17_0 f18_0 f19_0 f20_0 f21_0 f22_0 α x1 x2 x3 k1
def pa3_0 : PT (List DV) := pA [pV true [dL, (dI .i64), (dI .i64)]]
def Fn3_0 (v : Tf3_0) (α : Type) (k : List RV → Option α) : Rows → Int → Int → Option α := fun x1 x2 x3 => v α x1 x2 x3 (fun (y1 : Bool) => ur3_0_0 k y1)
noncomputable def cm3_0g  : MCode := (.seq (.region r3_2 [] (tO [1])) (.seq (.seq (.region r3_5 [] (tO [1, 16])) (.cond (.tmp 16) (.seq (.region r3_8 [] (tO [2])) .ret) .skip)) (.seq (.seq (.region r3_11 [] (tO [1, 20])) (.cond (.tmp 20) (.seq (.region r3_14 [] (tO [2])) .ret) .skip)) (.seq (.region r3_16 [] (some ⟨[1, 3, 4], true, [], [3]⟩)) (.seq (.seq (.region r3_19 [] (tO [1, 3, 4, 6])) (.seq (.region r3_21 [] (tO [1, 3, 4, 6, 33])) (.cond (.tmp 33) (.seq (.region r3_24 [] (tO [2])) .ret) .skip))) (.seq (.region r3_26 [] (some ⟨[1, 3, 4, 7], true, [], [7]⟩)) (.seq (.seq (.region r3_29 [] (tO [1, 3, 51])) (.cond (.tmp 51) (.seq (.region r3_32 [] (tO [2])) .ret) .skip)) (.seq (.region r3_34 [] (tO [3, 8])) (.seq (.region r3_36 [] (tO [3, 8])) (.seq (.region r3_38 [] (tO [3, 9, 10])) (.seq (.region r3_40 [] (tO [3, 9, 10, 11])) (.seq (.region r3_42 [] (tO [9, 10, 11, 13, 14])) (.seq (.region r3_44 [] (tO [2])) .ret)))))))))))))
noncomputable def cm3_0 : MCode := cm3_0g 
theorem gm3_0 : cm3_0.Good Try.prog E3_0 sh3 := ⟨trivial, ⟨⟨trivial, ⟨⟨trivial, trivial⟩, trivial⟩⟩, ⟨⟨trivial, ⟨⟨trivial, trivial⟩, trivial⟩⟩, ⟨trivial, ⟨⟨trivial, ⟨trivial, ⟨⟨trivial, trivial⟩, trivial⟩⟩⟩, ⟨trivial, ⟨⟨trivial, ⟨⟨trivial, trivial⟩, trivial⟩⟩, ⟨trivial, ⟨trivial, ⟨trivial, ⟨trivial, ⟨trivial, ⟨trivial, trivial⟩⟩⟩⟩⟩⟩⟩⟩⟩⟩⟩⟩⟩
theorem fm3_0g (vf15_0 : Tf15_0) (vf17_0 : Tf17_0) (vf16_0 : Tf16_0) (vf18_0 : Tf18_0) (vf19_0 : Tf19_0) (vf20_0 : Tf20_0) (vf21_0 : Tf21_0) (vf22_0 : Tf22_0)  (α : Type) (k : List RV → Option α) : Fn3_0 (f3_0g vf15_0 vf16_0 vf17_0 vf18_0 vf19_0 vf20_0 vf21_0 vf22_0) α k = pa3_0.unc fun ds => fnM Try.prog (E3_0g vf15_0 vf17_0 vf16_0 vf18_0 vf19_0 vf20_0 vf21_0 vf22_0) sh3 (cm3_0g ) rs3 k ds := by kernel_rfl
theorem fm3_0 : ∀ (α : Type) (k : List RV → Option α), Fn3_0 f3_0 α k = pa3_0.unc fun ds => fnM Try.prog E3_0 sh3 cm3_0 rs3 k ds := fm3_0g f15_0 f17_0 f16_0 f18_0 f19_0 f20_0 f21_0 f22_0
theorem is3 : FnIs Try.prog 3 nt3 tr3 tl3 cm3_0.erase rs3 := ⟨Try.f3, Try.func3, rfl, by kernel_rfl, by kernel_rfl, by kernel_rfl⟩
theorem io3_0 : InstOk Try.prog 3 nt3 ⟨pa3_0, Fn3_0 f3_0⟩ := inst_ok eo3_0 followsTry is3 ⟨⟨sh3, cm3_0, by kernel_rfl, gm3_0, fm3_0⟩⟩
end Go.AM.K
