/- Printed by KGen. -/
import Derived.Test.YtjifpcjmnhnpkaaKTr
import Derived.Test.YtjifpcjmnhnpkaaAcX
namespace Go.AM.K
open Go.Proofs
set_option maxRecDepth 100000
set_option linter.unusedVariables false
abbrev nt8 : Nat := 152
def sh8 : List (Nat × List Sh) := [(74, [.int .i64]), (75, [.int .i64]), (80, [.int .i64]), (81, [.int .i64]), (86, [.int .i64]), (87, [.int .i64]), (92, [.int .i64]), (93, [.int .i64]), (98, [.int .i64]), (99, [.int .i64]), (104, [.int .i64]), (105, [.int .i64]), (111, [.int .i64]), (112, [.int .i64]), (117, [.int .i64]), (118, [.int .i64]), (126, [.int .i64]), (129, [.int .i64]), (136, [.int .i64]), (139, [.int .i64]), (146, [.int .i64]), (149, [.int .i64])]
def r8_2 : List AOper := [oO 4 (.mv (.const (.bool false)))]
def r8_5 : List AOper := [oO 15 (.call 15 []), oO 16 (.pure (oB (.unOp .not 4 (.tmp 15)) 4))]
def r8_8 : List AOper := [oO 4 (.mv (.const (.bool false)))]
def r8_11 : List AOper := [oM 17 0, oO 18 (.len (.tmp 17)), oO 19 (.bin .gtr 3 (.tmp 18) (kI 70))]
def r8_14 : List AOper := [oO 4 (.mv (.const (.bool true)))]
def r8_16 : List AOper := [oM 21 0, oO 22 (.call 39 [(.tmp 21)]), oM 23 1, oO 24 (.call 38 [(.tmp 22), (.tmp 23)]), oM 20 24, oO 25 (.extract 0 (.tmp 20)), oO 26 (.extract 1 (.tmp 20)), oM 5 25, oM 6 26]
def r8_18 : List AOper := [oM 28 0, oM 29 1, oO 30 (.call 40 [(.tmp 28), (.tmp 29)]), oM 27 30, oO 31 (.extract 0 (.tmp 27)), oO 32 (.extract 1 (.tmp 27)), oM 7 31, oM 8 32]
def r8_21 : List AOper := [oM 33 6, oM 34 8, oO 35 (.bin .neq 3 (.tmp 33) (.tmp 34)), oM 36 35, oG 37 (.mv (.tmp 5)) 36 false, oG 38 (.mv (.tmp 7)) 36 false, oG 39 (.call 41 [(.tmp 37), (.tmp 38)]) 36 false, oG 40 (.pure (oB (.unOp .not 4 (.tmp 39)) 4)) 36 false, oO 41 (.pick (.tmp 36) (.const (.bool true)) (.tmp 40))]
def r8_24 : List AOper := [oO 4 (.mv (.const (.bool false)))]
def r8_27 : List AOper := [oM 42 8, oO 43 (.bin .neq 3 (.tmp 42) (kI 0)), oM 44 43, oG 45 (.mv (.tmp 0)) 44 false, oG 46 (.len (.tmp 45)) 44 false, oG 47 (.bin .eql 3 (.tmp 46) (kI 0)) 44 false, oO 48 (.pick (.tmp 44) (.const (.bool true)) (.tmp 47)), oM 49 48, oG 50 (.mv (.tmp 0)) 49 false, oG 51 (.len (.tmp 50)) 49 false, oG 52 (.bin .rem 3 (.tmp 51) (kI 4)) 49 false, oG 53 (.bin .neq 3 (.tmp 52) (kI 0)) 49 false, oO 54 (.pick (.tmp 49) (.const (.bool true)) (.tmp 53))]
def r8_30 : List AOper := [oO 4 (.mv (.const (.bool true)))]
def r8_32 : List AOper := [oO 56 (.bslice 1 0 [(.v (.float Go.FloatKind.f32 0))] []), oM 57 5, oO 58 (.append 1 4 (.tmp 56) (.tmp 57)), oM 59 1, oO 60 (.call 42 [(.tmp 59), (kI 2)]), oO 61 (.build [.nils, (cI 0), (cI 0)] [(0, 1, (.tmp 58)), (1, 1, (.tmp 60)), (2, 1, (kI 65536))]), oO 62 (.call 21 [(.tmp 61)]), oM 55 62, oO 63 (.extract 0 (.tmp 55)), oO 64 (.extract 1 (.tmp 55)), oO 9 (.alloc [(cI 0), (cI 0), (cI 0), (cI 0), (cI 0), (cI 0)]), oD (.store 6 (.tmp 9) (.tmp 63)), oM 10 64]
def r8_34 : List AOper := [oO 11 (.mv (kI 0)), oO 12 (.mv (kI 0)), oO 13 (.mv (kI 0))]
def r8_37 : List AOper := [oO 14 (.mv (kI 0))]
def td8_39 : Option Tidy := (tO [0, 9, 10, 11, 12, 13, 14])
def r8_42 : List AOper := [oM 65 14, oM 66 0, oO 67 (.len (.tmp 66)), oO 68 (.bin .lss 3 (.tmp 65) (.tmp 67))]
def r8_46 : List AOper := [oM 71 11, oM 72 0, oM 73 14, oO 74 (.iaddr 1 none (.tmp 72) (.tmp 73)), oO 75 (.load false 1 (.tmp 74)), oO 76 (.bin .add 3 (.tmp 71) (.tmp 75)), oM 77 0, oM 78 14, oO 79 (.bin .add 3 (.tmp 78) (kI 1)), oO 80 (.iaddr 1 none (.tmp 77) (.tmp 79)), oO 81 (.load false 1 (.tmp 80)), oO 82 (.bin .add 3 (.tmp 76) (.tmp 81)), oM 83 0, oM 84 14, oO 85 (.bin .add 3 (.tmp 84) (kI 2)), oO 86 (.iaddr 1 none (.tmp 83) (.tmp 85)), oO 87 (.load false 1 (.tmp 86)), oO 88 (.bin .add 3 (.tmp 82) (.tmp 87)), oM 89 0, oM 90 14, oO 91 (.bin .add 3 (.tmp 90) (kI 3)), oO 92 (.iaddr 1 none (.tmp 89) (.tmp 91)), oO 93 (.load false 1 (.tmp 92)), oO 94 (.bin .add 3 (.tmp 88) (.tmp 93)), oM 95 12, oM 96 0, oM 97 14, oO 98 (.iaddr 1 none (.tmp 96) (.tmp 97)), oO 99 (.load false 1 (.tmp 98)), oO 100 (.bin .add 3 (.tmp 95) (.tmp 99)), oM 101 0, oM 102 14, oO 103 (.bin .add 3 (.tmp 102) (kI 2)), oO 104 (.iaddr 1 none (.tmp 101) (.tmp 103)), oO 105 (.load false 1 (.tmp 104)), oO 106 (.bin .sub 3 (.tmp 100) (.tmp 105)), oM 107 13, oM 108 0, oM 109 14, oO 110 (.bin .add 3 (.tmp 109) (kI 1)), oO 111 (.iaddr 1 none (.tmp 108) (.tmp 110)), oO 112 (.load false 1 (.tmp 111)), oO 113 (.bin .add 3 (.tmp 107) (.tmp 112)), oM 114 0, oM 115 14, oO 116 (.bin .add 3 (.tmp 115) (kI 3)), oO 117 (.iaddr 1 none (.tmp 114) (.tmp 116)), oO 118 (.load false 1 (.tmp 117)), oO 119 (.bin .sub 3 (.tmp 113) (.tmp 118)), oM 11 94, oM 12 106, oM 13 119]
def r8_47 : List AOper := [oM 69 14, oO 70 (.bin .add 3 (.tmp 69) (kI 4)), oM 14 70]
def r8_49 : List AOper := [oM 120 10, oO 121 (.bin .eql 28 (.tmp 120) (kI 0)), oM 122 121, oG 123 (.mv (.tmp 11)) 122 true, oG 124 (.faddr 0 (.tmp 9)) 122 true, oG 125 (.faddr 0 (.tmp 124)) 122 true, oG 126 (.load false 1 (.tmp 125)) 122 true, oG 127 (.faddr 0 (.tmp 9)) 122 true, oG 128 (.faddr 1 (.tmp 127)) 122 true, oG 129 (.load false 1 (.tmp 128)) 122 true, oG 130 (.call 29 [(.tmp 123), (.tmp 126), (.tmp 129)]) 122 true, oO 131 (.pick (.tmp 122) (.tmp 130) (.const (.bool false))), oM 132 131, oG 133 (.mv (.tmp 12)) 132 true, oG 134 (.faddr 2 (.tmp 9)) 132 true, oG 135 (.faddr 0 (.tmp 134)) 132 true, oG 136 (.load false 1 (.tmp 135)) 132 true, oG 137 (.faddr 2 (.tmp 9)) 132 true, oG 138 (.faddr 1 (.tmp 137)) 132 true, oG 139 (.load false 1 (.tmp 138)) 132 true, oG 140 (.call 29 [(.tmp 133), (.tmp 136), (.tmp 139)]) 132 true, oO 141 (.pick (.tmp 132) (.tmp 140) (.const (.bool false))), oM 142 141, oG 143 (.mv (.tmp 13)) 142 true, oG 144 (.faddr 4 (.tmp 9)) 142 true, oG 145 (.faddr 0 (.tmp 144)) 142 true, oG 146 (.load false 1 (.tmp 145)) 142 true, oG 147 (.faddr 4 (.tmp 9)) 142 true, oG 148 (.faddr 1 (.tmp 147)) 142 true, oG 149 (.load false 1 (.tmp 148)) 142 true, oG 150 (.call 29 [(.tmp 143), (.tmp 146), (.tmp 149)]) 142 true, oO 151 (.pick (.tmp 142) (.tmp 150) (.const (.bool false))), oM 4 151]
def tr8 : List (Nat × Tidy) := [tT 0 [0, 1], tT 1 [0, 1, 16], tT 2 [4], tT 3 [0, 1, 19], tT 4 [4], tT 5 [0, 1, 5, 6], tT 6 [0, 1, 5, 6, 7, 8], tT 7 [0, 1, 5, 8, 41], tT 8 [4], tT 9 [0, 1, 5, 54], tT 10 [4], tT 11 [0, 9, 10], tT 12 [0, 9, 10, 11, 12, 13], tT 13 [0, 9, 10, 11, 12, 13, 14], tT 14 [0, 9, 10, 11, 12, 13, 14, 68], tT 16 [0, 9, 10, 11, 12, 13, 14], tT 15 [0, 9, 10, 11, 12, 13, 14], tT 17 [4]]
def tl8 : List (Nat × Tidy) := [tT 14 [0, 9, 10, 11, 12, 13, 14]]
def rs8 : List AResV := [.tmp 4]
def p8_0_0 : PT St := pS [sl 0 (aV false [(cD dL)]), sl 9 (aV false [(cPtr 9 0)]), sl 10 (aV false [(cD (dI .i64))]), sl 11 (aV false [(cD (dI .i64))]), sl 12 (aV false [(cD (dI .i64))]), sl 13 (aV false [(cD (dI .i64))]), sl 14 (aV false [(cD (dI .i64))])] [eBox 9 [(cD (dI .i64)), (cD (dI .i64)), (cD (dI .i64)), (cD (dI .i64)), (cD (dI .i64)), (cD (dI .i64))]]
def u8_0_0 {β : Type} (g : St → β) : Rows → Int → Int → Int → Int → Int → Int → Int → Int → Int → Int → Int → β := p8_0_0.unc g
def p8_0_1 : PT St := pS [sl 0 (aV false [(cD dL)]), sl 9 (aV false [(cPtr 9 0)]), sl 10 (aV false [(cD (dI .i64))]), sl 11 (aV false [(cD (dI .i64))]), sl 12 (aV false [(cD (dI .i64))]), sl 13 (aV false [(cD (dI .i64))]), sl 14 (aV false [(cD (dI .i64))]), sl 68 (aV false [(cD dB)])] [eBox 9 [(cD (dI .i64)), (cD (dI .i64)), (cD (dI .i64)), (cD (dI .i64)), (cD (dI .i64)), (cD (dI .i64))]]
def u8_0_1 {β : Type} (g : St → β) : Rows → Int → Int → Int → Int → Int → Bool → Int → Int → Int → Int → Int → Int → β := p8_0_1.unc g
def pr8_0_0 : PT (List RV) := pRs [pR false [rD dB]]
def ur8_0_0 {β : Type} (g : List RV → β) : Bool → β := pr8_0_0.unc g
def E8_0g (vf15_0 : Tf15_0) (vf39_0 : Tf39_0) (vf38_0 : Tf38_0) (vf40_0 : Tf40_0) (vf41_0 : Tf41_0) (vf42_0 : Tf42_0) (vf21_0 : Tf21_0) (vf29_0 : Tf29_0) : EnvK := EnvK.of [⟨15, nt15, [⟨pa15_0, Fn15_0 vf15_0⟩]⟩, ⟨39, nt39, [⟨pa39_0, Fn39_0 vf39_0⟩]⟩, ⟨38, nt38, [⟨pa38_0, Fn38_0 vf38_0⟩]⟩, ⟨40, nt40, [⟨pa40_0, Fn40_0 vf40_0⟩]⟩, ⟨41, nt41, [⟨pa41_0, Fn41_0 vf41_0⟩]⟩, ⟨42, nt42, [⟨pa42_0, Fn42_0 vf42_0⟩]⟩, ⟨21, nt21, [⟨pa21_0, Fn21_0 vf21_0⟩]⟩, ⟨29, nt29, [⟨pa29_0, Fn29_0 vf29_0⟩]⟩] noSeq
noncomputable def E8_0 : EnvK := E8_0g f15_0 f39_0 f38_0 f40_0 f41_0 f42_0 f21_0 f29_0
theorem eo8_0 : E8_0.Ok Try.prog := EnvK.of_ok noSeq_ok ⟨⟨io15_0, trivial⟩, ⟨io39_0, trivial⟩, ⟨io38_0, trivial⟩, ⟨io40_0, trivial⟩, ⟨io41_0, trivial⟩, ⟨io42_0, trivial⟩, ⟨io21_0, trivial⟩, ⟨io29_0, trivial⟩, trivial⟩
noncomputable def c8_0_39g  : MCode := (.seq (.seq (.region r8_42 [] (tO [0, 9, 10, 11, 12, 13, 14, 68])) (.cond (.tmp 68) .skip (.exit 0))) (.seq (.block 1 (.region r8_46 [] (tO [0, 9, 10, 11, 12, 13, 14]))) (.region r8_47 [] (tO [0, 9, 10, 11, 12, 13, 14]))))
noncomputable def c8_0_39 : MCode := c8_0_39g 
theorem g8_0_39 : c8_0_39.Good Try.prog E8_0 sh8 := ⟨⟨trivial, ⟨trivial, trivial⟩⟩, ⟨trivial, trivial⟩⟩
--CODE 39 0
def S8_0_0g  (α : Type) (x17 : Rows) (x19 x20 x21 x22 : Int) (kn : Int → Int → Int → Int → Option α) (k1 : Int → Int → Int → Int → Bool → Option α) : Option α :=
 cK (decide (x22 < ((List.length x17 : Nat) : Int)))
 (rowK x17 x22 [.int .i64]
 (fun x30 => rowK x17 (w64 (x22 + 1)) [.int .i64]
 (fun x31 => rowK x17 (w64 (x22 + 2)) [.int .i64]
 (fun x32 => rowK x17 (w64 (x22 + 3)) [.int .i64]
 (fun x33 => rowK x17 x22 [.int .i64]
 (fun x34 => rowK x17 (w64 (x22 + 2)) [.int .i64]
 (fun x35 => rowK x17 (w64 (x22 + 1)) [.int .i64]
 (fun x36 => rowK x17 (w64 (x22 + 3)) [.int .i64]
 (fun x37 => kn (w64 ((w64 ((w64 ((w64 (x19 + x30)) + x31)) + x32)) + x33)) (w64 ((w64 (x20 + x34)) - x35)) (w64 ((w64 (x21 + x36)) - x37)) (w64 (x22 + 4)))))))))))
 (k1 x19 x20 x21 x22 (decide (x22 < ((List.length x17 : Nat) : Int))))
noncomputable def S8_0_0 (α : Type) (x17 : Rows) (x19 x20 x21 x22 : Int) (kn : Int → Int → Int → Int → Option α) (k1 : Int → Int → Int → Int → Bool → Option α) : Option α := S8_0_0g  α x17 x19 x20 x21 x22 kn k1
noncomputable def R8_0_0 (α : Type) (x17 : Rows) (k1 : Int → Int → Int → Int → Bool → Option α) : Nat → Int → Int → Int → Int → Option α
 | 0, _, _, _, _ => none
 | n + 1, x19, x20, x21, x22 => S8_0_0 α x17 x19 x20 x21 x22 (R8_0_0 α x17 k1 n) k1
noncomputable def L8_0_0 (α : Type) (x17 : Rows) (k1 : Int → Int → Int → Int → Bool → Option α) (x19 x20 x21 x22 : Int) : Option α := R8_0_0 α x17 k1 fuel x19 x20 x21 x22
abbrev TL8_0_0 : Type 1 := (α : Type) → Rows → (Int → Int → Int → Int → Bool → Option α) → Int → Int → Int → Int → Option α
def F8_0_0 (v : TL8_0_0) (α : Type) (K : Exit → St → Option α) : Rows → Int → Int → Int → Int → Int → Int → Int → Int → Int → Int → Int → Option α := fun x17 x18 x19 x20 x21 x22 x23 x24 x25 x26 x27 x28 => v α x17 (fun (y1 : Int) (y2 : Int) (y3 : Int) (y4 : Int) (y5 : Bool) => u8_0_1 (K (.exit 0)) x17 x18 y1 y2 y3 y4 y5 x23 x24 x25 x26 x27 x28) x19 x20 x21 x22
theorem r8_0_0g (vf15_0 : Tf15_0) (vf39_0 : Tf39_0) (vf38_0 : Tf38_0) (vf40_0 : Tf40_0) (vf41_0 : Tf41_0) (vf42_0 : Tf42_0) (vf21_0 : Tf21_0) (vf29_0 : Tf29_0)  (α : Type) (K : Exit → St → Option α) (Kn : St → Option α) (x17 : Rows) (x18 x19 x20 x21 x22 x23 x24 x25 x26 x27 x28 : Int) : u8_0_0 (fun σ => runM Try.prog (E8_0g vf15_0 vf39_0 vf38_0 vf40_0 vf41_0 vf42_0 vf21_0 vf29_0) sh8 (c8_0_39g ) (thenK (fun σ => tidyK td8_39 σ Kn) K) σ) x17 x18 x19 x20 x21 x22 x23 x24 x25 x26 x27 x28 = S8_0_0g  α x17 x19 x20 x21 x22 (fun x19 x20 x21 x22 => u8_0_0 Kn x17 x18 x19 x20 x21 x22 x23 x24 x25 x26 x27 x28) (fun (y1 : Int) (y2 : Int) (y3 : Int) (y4 : Int) (y5 : Bool) => u8_0_1 (K (.exit 0)) x17 x18 y1 y2 y3 y4 y5 x23 x24 x25 x26 x27 x28) := by kernel_rfl
theorem r8_0_0 (α : Type) (K : Exit → St → Option α) (Kn : St → Option α) (x17 : Rows) (x18 x19 x20 x21 x22 x23 x24 x25 x26 x27 x28 : Int) : u8_0_0 (fun σ => runM Try.prog E8_0 sh8 c8_0_39 (thenK (fun σ => tidyK td8_39 σ Kn) K) σ) x17 x18 x19 x20 x21 x22 x23 x24 x25 x26 x27 x28 = S8_0_0 α x17 x19 x20 x21 x22 (fun x19 x20 x21 x22 => u8_0_0 Kn x17 x18 x19 x20 x21 x22 x23 x24 x25 x26 x27 x28) (fun (y1 : Int) (y2 : Int) (y3 : Int) (y4 : Int) (y5 : Bool) => u8_0_1 (K (.exit 0)) x17 x18 y1 y2 y3 y4 y5 x23 x24 x25 x26 x27 x28) := r8_0_0g f15_0 f39_0 f38_0 f40_0 f41_0 f42_0 f21_0 f29_0 α K Kn x17 x18 x19 x20 x21 x22 x23 x24 x25 x26 x27 x28
theorem t8_0_0 (α : Type) (K : Exit → St → Option α) : ∀ (n : Nat) (x17 : Rows) (x18 x19 x20 x21 x22 x23 x24 x25 x26 x27 x28 : Int), R8_0_0 α x17 (fun (y1 : Int) (y2 : Int) (y3 : Int) (y4 : Int) (y5 : Bool) => u8_0_1 (K (.exit 0)) x17 x18 y1 y2 y3 y4 y5 x23 x24 x25 x26 x27 x28) n x19 x20 x21 x22 = u8_0_0 (loopT (runM Try.prog E8_0 sh8 c8_0_39) td8_39 K n) x17 x18 x19 x20 x21 x22 x23 x24 x25 x26 x27 x28 := by
 intro n
 induction n with
 | zero => intros; rfl
 | succ n ih => intro x17 x18 x19 x20 x21 x22 x23 x24 x25 x26 x27 x28; exact (congrArg (fun kn => S8_0_0 α x17 x19 x20 x21 x22 kn (fun (y1 : Int) (y2 : Int) (y3 : Int) (y4 : Int) (y5 : Bool) => u8_0_1 (K (.exit 0)) x17 x18 y1 y2 y3 y4 y5 x23 x24 x25 x26 x27 x28)) (funext fun x19 => funext fun x20 => funext fun x21 => funext fun x22 => ih x17 x18 x19 x20 x21 x22 x23 x24 x25 x26 x27 x28)).trans (r8_0_0 α K (loopT (runM Try.prog E8_0 sh8 c8_0_39) td8_39 K n) x17 x18 x19 x20 x21 x22 x23 x24 x25 x26 x27 x28).symm
theorem m8_0_0 : ∀ (α : Type) (K : Exit → St → Option α), F8_0_0 L8_0_0 α K = p8_0_0.unc fun σ => loopT (runM Try.prog E8_0 sh8 c8_0_39) td8_39 K fuel σ := fun α K => funext fun x17 => funext fun x18 => funext fun x19 => funext fun x20 => funext fun x21 => funext fun x22 => funext fun x23 => funext fun x24 => funext fun x25 => funext fun x26 => funext fun x27 => funext fun x28 => t8_0_0 α K fuel x17 x18 x19 x20 x21 x22 x23 x24 x25 x26 x27 x28
abbrev Tf8_0 : Type 1 := (α : Type) → Rows → Int → (Bool → Option α) → Option α
def f8_0g (vL8_0_0 : TL8_0_0) (vf15_0 : Tf15_0) (vf21_0 : Tf21_0) (vf29_0 : Tf29_0) (vf38_0 : Tf38_0) (vf39_0 : Tf39_0) (vf40_0 : Tf40_0) (vf41_0 : Tf41_0) (vf42_0 : Tf42_0) (α : Type) (x1 : Rows) (x2 : Int) (k1 : Bool → Option α) : Option α :=
 vf15_0 α 
 (cK (decide (70 < ((List.length x1 : Nat) : Int)))
 (k1 true)
 (vf39_0 α x1
 (fun x3 => vf38_0 α x3 x2
 (fun x4 x5 => flatK [x4]
 (vf40_0 α x1 x2
 (fun x6 x7 => cK (x5 != x7)
 (k1 false)
 (vf41_0 α x4 x6
 (fun x8 => cK (!x8)
 (k1 false)
 (cK (x7 != 0)
 (k1 true)
 (cK (((List.length x1 : Nat) : Int) == 0)
 (k1 true)
 (cK ((Int.tmod ((List.length x1 : Nat) : Int) 4) != 0)
 (k1 true)
 (gK (apOk 1 4 ([] : Rows) x4) (vf42_0 α x2 2
 (fun x9 => vf21_0 α (([] : Rows) ++ x4) x9 65536
 (fun x10 x11 x12 x13 x14 x15 x16 => vL8_0_0 α x1
 (fun x38 x39 x40 x41 x42 => cK (x16 == 0)
 (vf29_0 α x38 x10 x11
 (fun x44 => cK x44
 (vf29_0 α x39 x12 x13
 (fun x45 => cK x45
 (vf29_0 α x40 x14 x15
 (fun x46 => k1 x46))
 (k1 false)))
 (k1 false)))
 (k1 false)) 0 0 0 0)))))))))))))))
noncomputable def f8_0 (α : Type) (x1 : Rows) (x2 : Int) (k1 : Bool → Option α) : Option α := f8_0g L8_0_0 f15_0 f21_0 f29_0 f38_0 f39_0 f40_0 f41_0 f42_0 α x1 x2 k1
def pa8_0 : PT (List DV) := pA [pV false [dL], pV false [(dI .i64)]]
def Fn8_0 (v : Tf8_0) (α : Type) (k : List RV → Option α) : Rows → Int → Option α := fun x1 x2 => v α x1 x2 (fun (y1 : Bool) => ur8_0_0 k y1)
noncomputable def cm8_0g (vL8_0_0 : TL8_0_0) : MCode := (.seq (.region r8_2 [] (tO [0, 1])) (.seq (.seq (.region r8_5 [] (tO [0, 1, 16])) (.cond (.tmp 16) (.seq (.region r8_8 [] (tO [4])) .ret) .skip)) (.seq (.seq (.region r8_11 [] (tO [0, 1, 19])) (.cond (.tmp 19) (.seq (.region r8_14 [] (tO [4])) .ret) .skip)) (.seq (.region r8_16 [] (tO [0, 1, 5, 6])) (.seq (.region r8_18 [] (tO [0, 1, 5, 6, 7, 8])) (.seq (.seq (.region r8_21 [] (tO [0, 1, 5, 8, 41])) (.cond (.tmp 41) (.seq (.region r8_24 [] (tO [4])) .ret) .skip)) (.seq (.seq (.region r8_27 [] (tO [0, 1, 5, 54])) (.cond (.tmp 54) (.seq (.region r8_30 [] (tO [4])) .ret) .skip)) (.seq (.region r8_32 [] (tO [0, 9, 10])) (.seq (.region r8_34 [] (tO [0, 9, 10, 11, 12, 13])) (.seq (.seq (.region r8_37 [] (tO [0, 9, 10, 11, 12, 13, 14])) (.block 0 (.loop td8_39 [⟨p8_0_0, F8_0_0 vL8_0_0⟩] c8_0_39))) (.seq (.region r8_49 [] (tO [4])) .ret)))))))))))
noncomputable def cm8_0 : MCode := cm8_0g L8_0_0
theorem gm8_0 : cm8_0.Good Try.prog E8_0 sh8 := ⟨trivial, ⟨⟨trivial, ⟨⟨trivial, trivial⟩, trivial⟩⟩, ⟨⟨trivial, ⟨⟨trivial, trivial⟩, trivial⟩⟩, ⟨trivial, ⟨trivial, ⟨⟨trivial, ⟨⟨trivial, trivial⟩, trivial⟩⟩, ⟨⟨trivial, ⟨⟨trivial, trivial⟩, trivial⟩⟩, ⟨trivial, ⟨trivial, ⟨⟨trivial, ⟨g8_0_39, m8_0_0, trivial⟩⟩, ⟨trivial, trivial⟩⟩⟩⟩⟩⟩⟩⟩⟩⟩⟩
theorem fm8_0g (vf15_0 : Tf15_0) (vf39_0 : Tf39_0) (vf38_0 : Tf38_0) (vf40_0 : Tf40_0) (vf41_0 : Tf41_0) (vf42_0 : Tf42_0) (vf21_0 : Tf21_0) (vf29_0 : Tf29_0) (vL8_0_0 : TL8_0_0) (α : Type) (k : List RV → Option α) : Fn8_0 (f8_0g vL8_0_0 vf15_0 vf21_0 vf29_0 vf38_0 vf39_0 vf40_0 vf41_0 vf42_0) α k = pa8_0.unc fun ds => fnM Try.prog (E8_0g vf15_0 vf39_0 vf38_0 vf40_0 vf41_0 vf42_0 vf21_0 vf29_0) sh8 (cm8_0g vL8_0_0) rs8 k ds := by kernel_rfl
theorem fm8_0 : ∀ (α : Type) (k : List RV → Option α), Fn8_0 f8_0 α k = pa8_0.unc fun ds => fnM Try.prog E8_0 sh8 cm8_0 rs8 k ds := fm8_0g f15_0 f39_0 f38_0 f40_0 f41_0 f42_0 f21_0 f29_0 L8_0_0
theorem is8 : FnIs Try.prog 8 nt8 tr8 tl8 cm8_0.erase rs8 := ⟨Try.f8, Try.func8, rfl, by kernel_rfl, by kernel_rfl, by kernel_rfl⟩
theorem io8_0 : InstOk Try.prog 8 nt8 ⟨pa8_0, Fn8_0 f8_0⟩ := inst_ok eo8_0 followsTry is8 ⟨⟨sh8, cm8_0, by kernel_rfl, gm8_0, fm8_0⟩⟩
end Go.AM.K
