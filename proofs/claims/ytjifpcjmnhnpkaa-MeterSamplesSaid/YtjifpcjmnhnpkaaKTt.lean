/- Printed by KGen. -/
import Derived.Test.YtjifpcjmnhnpkaaKTr
import Derived.Test.YtjifpcjmnhnpkaaAcX
namespace Go.AM.K
open Go.Proofs
set_option maxRecDepth 100000
set_option linter.unusedVariables false
abbrev nt12 : Nat := 44
def sh12 : List (Nat × List Sh) := [(20, [.flt .f64]), (23, [.flt .f64]), (27, [.cpx .f64, .cpx .f64, .cpx .f64, .cpx .f64]), (32, [.cpx .f64, .cpx .f64, .cpx .f64, .cpx .f64]), (40, [.int .i64, .int .i64, .int .i64, .int .i64]), (41, [.int .i64, .int .i64, .int .i64, .int .i64])]
def r12_2 : List AOper := [oO 2 (.box (.tmp 0)), oO 3 (.box (.tmp 1)), oO 4 (.mv (.const (.bool false)))]
def r12_5 : List AOper := [oO 11 (.call 15 []), oO 12 (.pure (oB (.unOp .not 4 (.tmp 11)) 4))]
def r12_8 : List AOper := [oO 4 (.mv (.const (.bool false)))]
def r12_10 : List AOper := [oO 5 (.alloc [(.d (.v (.complex Go.FloatKind.f64 0 0))), (.d (.v (.complex Go.FloatKind.f64 0 0))), (.d (.v (.complex Go.FloatKind.f64 0 0))), (.d (.v (.complex Go.FloatKind.f64 0 0)))])]
def r12_13 : List AOper := [oO 6 (.mv (kI 0))]
def td12_15 : Option Tidy := (tO [2, 3, 5, 6])
def r12_18 : List AOper := [oM 13 6, oO 14 (.bin .lss 3 (.tmp 13) (kI 4))]
def r12_22 : List AOper := [oM 17 6, oM 18 6, oO 19 (.iaddr 1 (some 4) (.tmp 2) (.tmp 18)), oO 20 (.load false 1 (.tmp 19)), oM 21 6, oO 22 (.iaddr 1 (some 4) (.tmp 3) (.tmp 21)), oO 23 (.load false 1 (.tmp 22)), oO 24 (.pure (oB (.call { callee := .builtin .complex, args := #[(.tmp 20), (.tmp 23)], argTypes := #[112, 112] }) 26)), oO 25 (.iaddr 1 (some 4) (.tmp 5) (.tmp 17)), oD (.store 1 (.tmp 25) (.tmp 24))]
def r12_23 : List AOper := [oM 15 6, oO 16 (.bin .add 3 (.tmp 15) (kI 1)), oM 6 16]
def r12_25 : List AOper := [oO 27 (.load true 4 (.tmp 5)), oO 28 (.call 53 [(.tmp 27)]), oM 26 28, oO 29 (.extract 0 (.tmp 26)), oO 30 (.extract 1 (.tmp 26)), oO 7 (.alloc [(cI 0), (cI 0), (cI 0), (cI 0)]), oD (.store 4 (.tmp 7) (.tmp 29)), oM 8 30]
def r12_27 : List AOper := [oO 32 (.load true 4 (.tmp 5)), oO 33 (.call 54 [(.tmp 32)]), oM 31 33, oO 34 (.extract 0 (.tmp 31)), oO 35 (.extract 1 (.tmp 31)), oO 9 (.alloc [(cI 0), (cI 0), (cI 0), (cI 0)]), oD (.store 4 (.tmp 9) (.tmp 34)), oM 10 35]
def r12_29 : List AOper := [oM 36 8, oM 37 10, oO 38 (.bin .eql 3 (.tmp 36) (.tmp 37)), oM 39 38, oG 40 (.load true 4 (.tmp 7)) 39 true, oG 41 (.load true 4 (.tmp 9)) 39 true, oG 42 (.bin .eql 72 (.tmp 40) (.tmp 41)) 39 true, oO 43 (.pick (.tmp 39) (.tmp 42) (.const (.bool false))), oM 4 43]
def tr12 : List (Nat × Tidy) := [tT 0 [2, 3], tT 1 [2, 3, 12], tT 2 [4], tT 3 [2, 3, 5], tT 4 [2, 3, 5, 6], tT 5 [2, 3, 5, 6, 14], tT 7 [2, 3, 5, 6], tT 6 [2, 3, 5, 6], tT 8 [5, 7, 8], tT 9 [7, 8, 9, 10], tT 10 [4]]
def tl12 : List (Nat × Tidy) := [tT 5 [2, 3, 5, 6]]
def rs12 : List AResV := [.tmp 4]
def pr12_0_0 : PT (List RV) := pRs [pR false [rD dB]]
def ur12_0_0 {β : Type} (g : List RV → β) : Bool → β := pr12_0_0.unc g
def E12_0g (vf15_0 : Tf15_0) (vf53_0 : Tf53_0) (vf54_0 : Tf54_0) : EnvK := EnvK.of [⟨15, nt15, [⟨pa15_0, Fn15_0 vf15_0⟩]⟩, ⟨53, nt53, [⟨pa53_0, Fn53_0 vf53_0⟩]⟩, ⟨54, nt54, [⟨pa54_0, Fn54_0 vf54_0⟩]⟩] noSeq
noncomputable def E12_0 : EnvK := E12_0g f15_0 f53_0 f54_0
theorem eo12_0 : E12_0.Ok Try.prog := EnvK.of_ok noSeq_ok ⟨⟨io15_0, trivial⟩, ⟨io53_0, trivial⟩, ⟨io54_0, trivial⟩, trivial⟩
abbrev Tf12_0 : Type 1 := (α : Type) → Nat → Nat → Nat → Nat → Nat → Nat → Nat → Nat → (Bool → Option α) → Option α
def f12_0g (vf15_0 : Tf15_0) (vf53_0 : Tf53_0) (vf54_0 : Tf54_0) (α : Type) (x1 x2 x3 x4 x5 x6 x7 x8 : Nat) (k1 : Bool → Option α) : Option α :=
 vf15_0 α 
 (vf53_0 α x1 x5 x2 x6 x3 x7 x4 x8
 (fun x9 x10 x11 x12 x13 => vf54_0 α x1 x5 x2 x6 x3 x7 x4 x8
 (fun x14 x15 x16 x17 x18 => cK (x13 == x18)
 (k1 ((x9 == x14) && ((x10 == x15) && ((x11 == x16) && ((x12 == x17) && true)))))
 (k1 false))))
noncomputable def f12_0 (α : Type) (x1 x2 x3 x4 x5 x6 x7 x8 : Nat) (k1 : Bool → Option α) : Option α := f12_0g f15_0 f53_0 f54_0 α x1 x2 x3 x4 x5 x6 x7 x8 k1
def pa12_0 : PT (List DV) := pA [pV true [(dF .f64), (dF .f64), (dF .f64), (dF .f64)], pV true [(dF .f64), (dF .f64), (dF .f64), (dF .f64)]]
def Fn12_0 (v : Tf12_0) (α : Type) (k : List RV → Option α) : Nat → Nat → Nat → Nat → Nat → Nat → Nat → Nat → Option α := fun x1 x2 x3 x4 x5 x6 x7 x8 => v α x1 x2 x3 x4 x5 x6 x7 x8 (fun (y1 : Bool) => ur12_0_0 k y1)
noncomputable def cm12_0g  : MCode := (.seq (.region r12_2 [] (tO [2, 3])) (.seq (.seq (.region r12_5 [] (tO [2, 3, 12])) (.cond (.tmp 12) (.seq (.region r12_8 [] (tO [4])) .ret) .skip)) (.seq (.region r12_10 [] (tO [2, 3, 5])) (.seq (.seq (.region r12_13 [] (tO [2, 3, 5, 6])) (.block 0 (.loopU 5 td12_15 (.seq (.seq (.region r12_18 [] (tO [2, 3, 5, 6, 14])) (.cond (.tmp 14) .skip (.exit 0))) (.seq (.block 1 (.region r12_22 [] (tO [2, 3, 5, 6]))) (.region r12_23 [] (tO [2, 3, 5, 6]))))))) (.seq (.region r12_25 [] (tO [5, 7, 8])) (.seq (.region r12_27 [] (tO [7, 8, 9, 10])) (.seq (.region r12_29 [] (tO [4])) .ret)))))))
noncomputable def cm12_0 : MCode := cm12_0g 
theorem gm12_0 : cm12_0.Good Try.prog E12_0 sh12 := ⟨trivial, ⟨⟨trivial, ⟨⟨trivial, trivial⟩, trivial⟩⟩, ⟨trivial, ⟨⟨trivial, ⟨⟨⟨trivial, ⟨trivial, trivial⟩⟩, ⟨trivial, trivial⟩⟩, by decide⟩⟩, ⟨trivial, ⟨trivial, ⟨trivial, trivial⟩⟩⟩⟩⟩⟩⟩
theorem fm12_0g (vf15_0 : Tf15_0) (vf53_0 : Tf53_0) (vf54_0 : Tf54_0)  (α : Type) (k : List RV → Option α) : Fn12_0 (f12_0g vf15_0 vf53_0 vf54_0) α k = pa12_0.unc fun ds => fnM Try.prog (E12_0g vf15_0 vf53_0 vf54_0) sh12 (cm12_0g ) rs12 k ds := by kernel_rfl
theorem fm12_0 : ∀ (α : Type) (k : List RV → Option α), Fn12_0 f12_0 α k = pa12_0.unc fun ds => fnM Try.prog E12_0 sh12 cm12_0 rs12 k ds := fm12_0g f15_0 f53_0 f54_0
theorem is12 : FnIs Try.prog 12 nt12 tr12 tl12 cm12_0.erase rs12 := ⟨Try.f12, Try.func12, rfl, by kernel_rfl, by kernel_rfl, by kernel_rfl⟩
theorem io12_0 : InstOk Try.prog 12 nt12 ⟨pa12_0, Fn12_0 f12_0⟩ := inst_ok eo12_0 followsTry is12 ⟨⟨sh12, cm12_0, by kernel_rfl, gm12_0, fm12_0⟩⟩
end Go.AM.K
