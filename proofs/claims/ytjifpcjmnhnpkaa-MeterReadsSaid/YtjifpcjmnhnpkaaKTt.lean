/- Printed by KGen. -/
import Derived.Test.YtjifpcjmnhnpkaaKTr
import Derived.Test.YtjifpcjmnhnpkaaAcX
namespace Go.AM.K
open Go.Proofs
set_option maxRecDepth 100000
set_option linter.unusedVariables false
abbrev nt5 : Nat := 34
def sh5 : List (Nat × List Sh) := [(10, [.str, .int .i64, .int .i64, .int .i64, .int .i64, .int .i64, .int .i64, .int .i64, .int .i64, .int .i64, .int .i64, .int .i64, .int .i64, .int .i64, .int .i64, .int .i64, .int .i64, .int .i64, .int .i64]), (15, [.str, .int .i64, .int .i64, .int .i64, .int .i64, .int .i64, .int .i64, .int .i64, .int .i64, .int .i64, .int .i64, .int .i64, .int .i64, .int .i64, .int .i64, .int .i64, .int .i64, .int .i64, .int .i64]), (23, [.str, .int .i64, .int .i64, .int .i64, .int .i64, .int .i64, .int .i64, .int .i64, .int .i64, .int .i64]), (24, [.str, .int .i64, .int .i64, .int .i64, .int .i64, .int .i64, .int .i64, .int .i64, .int .i64, .int .i64]), (30, [.str, .int .i64, .int .i64, .int .i64, .int .i64, .int .i64, .int .i64, .int .i64, .int .i64, .int .i64])]
def r5_2 : List AOper := [oO 1 (.box (.tmp 0)), oO 2 (.mv (.const (.bool false)))]
def r5_5 : List AOper := [oO 7 (.call 15 []), oO 8 (.pure (oB (.unOp .not 4 (.tmp 7)) 4))]
def r5_8 : List AOper := [oO 2 (.mv (.const (.bool false)))]
def r5_10 : List AOper := [oO 10 (.load true 19 (.tmp 1)), oO 11 (.call 26 [(.tmp 10)]), oM 9 11, oO 12 (.extract 0 (.tmp 9)), oO 13 (.extract 1 (.tmp 9)), ⟨(some 3), (.alloc [(.d (.v (.string ⟨#[]⟩))), (cI 0), (cI 0), (cI 0), (cI 0), (cI 0), (cI 0), (cI 0), (cI 0), (cI 0)]), none⟩, oD (.store 10 (.tmp 3) (.tmp 12)), oM 4 13]
def r5_12 : List AOper := [oO 15 (.load true 19 (.tmp 1)), oO 16 (.call 27 [(.tmp 15)]), oM 14 16, oO 17 (.extract 0 (.tmp 14)), oO 18 (.extract 1 (.tmp 14)), ⟨(some 5), (.alloc [(.d (.v (.string ⟨#[]⟩))), (cI 0), (cI 0), (cI 0), (cI 0), (cI 0), (cI 0), (cI 0), (cI 0), (cI 0)]), none⟩, oD (.store 10 (.tmp 5) (.tmp 17)), oM 6 18]
def r5_15 : List AOper := [oM 19 4, oM 20 6, oO 21 (.bin .neq 3 (.tmp 19) (.tmp 20)), oM 22 21, oG 23 (.load true 10 (.tmp 3)) 22 false, oG 24 (.load true 10 (.tmp 5)) 22 false, oG 25 (.bin .neq 59 (.tmp 23) (.tmp 24)) 22 false, oO 26 (.pick (.tmp 22) (.const (.bool true)) (.tmp 25))]
def r5_18 : List AOper := [oO 2 (.mv (.const (.bool false)))]
def r5_20 : List AOper := [oM 27 6, oO 28 (.bin .neq 3 (.tmp 27) (kI 0)), oM 29 28, oG 30 (.load true 10 (.tmp 3)) 29 false, oG 31 (.call 28 [(.tmp 30)]) 29 false, oG 32 (.bin .eql 28 (.tmp 31) (kI 0)) 29 false, oO 33 (.pick (.tmp 29) (.const (.bool true)) (.tmp 32)), oM 2 33]
def tr5 : List (Nat × Tidy) := [tT 0 [1], tT 1 [1, 8], tT 2 [2], tT 3 [1, 3, 4], tT 4 [3, 4, 5, 6], tT 5 [3, 6, 26], tT 6 [2], tT 7 [2]]
def tl5 : List (Nat × Tidy) := []
def rs5 : List AResV := [.tmp 2]
def pr5_0_0 : PT (List RV) := pRs [pR false [rD dB]]
def ur5_0_0 {β : Type} (g : List RV → β) : Bool → β := pr5_0_0.unc g
def E5_0g (vf15_0 : Tf15_0) (vf26_0 : Tf26_0) (vf27_0 : Tf27_0) (vf28_0 : Tf28_0) : EnvK := EnvK.of [⟨15, nt15, [⟨pa15_0, Fn15_0 vf15_0⟩]⟩, ⟨26, nt26, [⟨pa26_0, Fn26_0 vf26_0⟩]⟩, ⟨27, nt27, [⟨pa27_0, Fn27_0 vf27_0⟩]⟩, ⟨28, nt28, [⟨pa28_0, Fn28_0 vf28_0⟩]⟩] noSeq
noncomputable def E5_0 : EnvK := E5_0g f15_0 f26_0 f27_0 f28_0
theorem eo5_0 : E5_0.Ok Try.prog := EnvK.of_ok noSeq_ok ⟨⟨io15_0, trivial⟩, ⟨io26_0, trivial⟩, ⟨io27_0, trivial⟩, ⟨io28_0, trivial⟩, trivial⟩
abbrev Tf5_0 : Type 1 := (α : Type) → ByteArray → Int → Int → Int → Int → Int → Int → Int → Int → Int → Int → Int → Int → Int → Int → Int → Int → Int → Int → (Bool → Option α) → Option α
def f5_0g (vf15_0 : Tf15_0) (vf26_0 : Tf26_0) (vf27_0 : Tf27_0) (vf28_0 : Tf28_0) (α : Type) (x1 : ByteArray) (x2 x3 x4 x5 x6 x7 x8 x9 x10 x11 x12 x13 x14 x15 x16 x17 x18 x19 : Int) (k1 : Bool → Option α) : Option α :=
 vf15_0 α 
 (vf26_0 α x1 x2 x3 x4 x5 x6 x7 x8 x9 x10 x11 x12 x13 x14 x15 x16 x17 x18 x19
 (fun x20 x21 x22 x23 x24 x25 x26 x27 x28 x29 x30 => vf27_0 α x1 x2 x3 x4 x5 x6 x7 x8 x9 x10 x11 x12 x13 x14 x15 x16 x17 x18 x19
 (fun x31 x32 x33 x34 x35 x36 x37 x38 x39 x40 x41 => cK (x30 != x41)
 (k1 false)
 (cK (!((x20 == x31) && ((x21 == x32) && (((x22 == x33) && ((x23 == x34) && true)) && (((x24 == x35) && ((x25 == x36) && true)) && (((x26 == x37) && ((x27 == x38) && true)) && (((x28 == x39) && ((x29 == x40) && true)) && true)))))))
 (k1 false)
 (cK (x41 != 0)
 (k1 true)
 (vf28_0 α x20 x21 x22 x23 x24 x25 x26 x27 x28 x29
 (fun x42 => k1 (x42 == 0))))))))
noncomputable def f5_0 (α : Type) (x1 : ByteArray) (x2 x3 x4 x5 x6 x7 x8 x9 x10 x11 x12 x13 x14 x15 x16 x17 x18 x19 : Int) (k1 : Bool → Option α) : Option α := f5_0g f15_0 f26_0 f27_0 f28_0 α x1 x2 x3 x4 x5 x6 x7 x8 x9 x10 x11 x12 x13 x14 x15 x16 x17 x18 x19 k1
def pa5_0 : PT (List DV) := pA [pV true [dS, (dI .i64), (dI .i64), (dI .i64), (dI .i64), (dI .i64), (dI .i64), (dI .i64), (dI .i64), (dI .i64), (dI .i64), (dI .i64), (dI .i64), (dI .i64), (dI .i64), (dI .i64), (dI .i64), (dI .i64), (dI .i64)]]
def Fn5_0 (v : Tf5_0) (α : Type) (k : List RV → Option α) : ByteArray → Int → Int → Int → Int → Int → Int → Int → Int → Int → Int → Int → Int → Int → Int → Int → Int → Int → Int → Option α := fun x1 x2 x3 x4 x5 x6 x7 x8 x9 x10 x11 x12 x13 x14 x15 x16 x17 x18 x19 => v α x1 x2 x3 x4 x5 x6 x7 x8 x9 x10 x11 x12 x13 x14 x15 x16 x17 x18 x19 (fun (y1 : Bool) => ur5_0_0 k y1)
noncomputable def cm5_0g  : MCode := (.seq (.region r5_2 [] (tO [1])) (.seq (.seq (.region r5_5 [] (tO [1, 8])) (.cond (.tmp 8) (.seq (.region r5_8 [] (tO [2])) .ret) .skip)) (.seq (.region r5_10 [] (tO [1, 3, 4])) (.seq (.region r5_12 [] (tO [3, 4, 5, 6])) (.seq (.seq (.region r5_15 [] (tO [3, 6, 26])) (.cond (.tmp 26) (.seq (.region r5_18 [] (tO [2])) .ret) .skip)) (.seq (.region r5_20 [] (tO [2])) .ret))))))
noncomputable def cm5_0 : MCode := cm5_0g 
theorem gm5_0 : cm5_0.Good Try.prog E5_0 sh5 := ⟨trivial, ⟨⟨trivial, ⟨⟨trivial, trivial⟩, trivial⟩⟩, ⟨trivial, ⟨trivial, ⟨⟨trivial, ⟨⟨trivial, trivial⟩, trivial⟩⟩, ⟨trivial, trivial⟩⟩⟩⟩⟩⟩
theorem fm5_0g (vf15_0 : Tf15_0) (vf26_0 : Tf26_0) (vf27_0 : Tf27_0) (vf28_0 : Tf28_0)  (α : Type) (k : List RV → Option α) : Fn5_0 (f5_0g vf15_0 vf26_0 vf27_0 vf28_0) α k = pa5_0.unc fun ds => fnM Try.prog (E5_0g vf15_0 vf26_0 vf27_0 vf28_0) sh5 (cm5_0g ) rs5 k ds := by kernel_rfl
theorem fm5_0 : ∀ (α : Type) (k : List RV → Option α), Fn5_0 f5_0 α k = pa5_0.unc fun ds => fnM Try.prog E5_0 sh5 cm5_0 rs5 k ds := fm5_0g f15_0 f26_0 f27_0 f28_0
theorem is5 : FnIs Try.prog 5 nt5 tr5 tl5 cm5_0.erase rs5 := ⟨Try.f5, Try.func5, rfl, by kernel_rfl, by kernel_rfl, by kernel_rfl⟩
theorem io5_0 : InstOk Try.prog 5 nt5 ⟨pa5_0, Fn5_0 f5_0⟩ := inst_ok eo5_0 followsTry is5 ⟨⟨sh5, cm5_0, by kernel_rfl, gm5_0, fm5_0⟩⟩
end Go.AM.K
