/- Printed by KGen. -/
import Derived.Test.YtjifpcjmnhnpkaaKTr
import Derived.Test.YtjifpcjmnhnpkaaAcX
namespace Go.AM.K
open Go.Proofs
set_option maxRecDepth 100000
set_option linter.unusedVariables false
abbrev nt11 : Nat := 78
def sh11 : List (Nat × List Sh) := [(33, [.sl]), (37, [.int .u16, .int .u16, .int .u16, .int .u16]), (39, [.int .u16]), (47, [.int .i64]), (51, [.int .u16, .int .u16, .int .u16, .int .u16]), (53, [.int .u16]), (58, [.sl, .int .i64, .int .i64]), (63, [.cpx .f64, .cpx .f64, .cpx .f64, .cpx .f64]), (74, [.int .i64, .int .i64, .int .i64, .int .i64]), (75, [.int .i64, .int .i64, .int .i64, .int .i64])]
def r11_2 : List AOper := [oO 2 (.mv (.const (.bool false)))]
def r11_5 : List AOper := [oO 11 (.call 15 []), oO 12 (.pure (oB (.unOp .not 4 (.tmp 11)) 4))]
def r11_8 : List AOper := [oO 2 (.mv (.const (.bool false)))]
def r11_11 : List AOper := [oM 13 0, oO 14 (.len (.tmp 13)), oO 15 (.bin .eql 3 (.tmp 14) (kI 0)), oM 16 15, oG 17 (.mv (.tmp 0)) 16 false, oG 18 (.len (.tmp 17)) 16 false, oG 19 (.bin .gtr 3 (.tmp 18) (kI 12)) 16 false, oO 20 (.pick (.tmp 16) (.const (.bool true)) (.tmp 19))]
def r11_14 : List AOper := [oO 2 (.mv (.const (.bool true)))]
def r11_16 : List AOper := [oO 21 (.build [.nils, (cI 0), (cI 0)] [(2, 1, (kI 65536))]), oO 3 (.alloc [.nils, (cI 0), (cI 0)]), oD (.store 3 (.tmp 3) (.tmp 21))]
def r11_18 : List AOper := [oO 4 (.alloc [(cI 0), (cI 0), (cI 0), (cI 0)])]
def r11_21 : List AOper := [oO 5 (.mv (kI 0))]
def td11_23 : Option Tidy := (some ⟨[0, 3, 4, 5], true, [⟨true, 3, 0, 30300, 1⟩], []⟩)
def r11_26 : List AOper := [oM 22 5, oM 23 0, oO 24 (.len (.tmp 23)), oO 25 (.bin .lss 3 (.tmp 22) (.tmp 24))]
def r11_31 : List AOper := [oO 6 (.mv (kI 0))]
def td11_33 : Option Tidy := (some ⟨[0, 3, 4, 5, 6], true, [⟨true, 3, 0, 30300, 1⟩], []⟩)
def r11_36 : List AOper := [oM 28 6, oO 29 (.bin .lss 3 (.tmp 28) (kI 4))]
def r11_41 : List AOper := [oO 32 (.faddr 0 (.tmp 3)), oO 33 (.load false 1 (.tmp 32)), oM 34 0, oM 35 5, oM 36 6, oO 37 (.iaddr 4 none (.tmp 34) (.tmp 35)), oO 38 (.iaddr 1 (some 4) (.tmp 37) (.tmp 36)), oO 39 (.load false 1 (.tmp 38)), oO 40 (.pure (oB (.convert 107 74 (.tmp 39)) 74)), oO 41 (.bslice 1 1 [(.v (.float Go.FloatKind.f32 0))] [(0, (.tmp 40))]), oO 42 (.append 1 4 (.tmp 33) (.tmp 41)), oO 43 (.faddr 0 (.tmp 3)), oD (.store 1 (.tmp 43) (.tmp 42))]
def r11_42 : List AOper := [oM 44 6, oM 45 6, oO 46 (.iaddr 1 (some 4) (.tmp 4) (.tmp 45)), oO 47 (.load false 1 (.tmp 46)), oM 48 0, oM 49 5, oM 50 6, oO 51 (.iaddr 4 none (.tmp 48) (.tmp 49)), oO 52 (.iaddr 1 (some 4) (.tmp 51) (.tmp 50)), oO 53 (.load false 1 (.tmp 52)), oO 54 (.pure (oB (.convert 107 3 (.tmp 53)) 3)), oO 55 (.bin .add 3 (.tmp 47) (.tmp 54)), oO 56 (.iaddr 1 (some 4) (.tmp 4) (.tmp 44)), oD (.store 1 (.tmp 56) (.tmp 55))]
def r11_43 : List AOper := [oM 30 6, oO 31 (.bin .add 3 (.tmp 30) (kI 1)), oM 6 31]
def r11_44 : List AOper := [oM 26 5, oO 27 (.bin .add 3 (.tmp 26) (kI 1)), oM 5 27]
def r11_46 : List AOper := [oO 58 (.load true 3 (.tmp 3)), oO 59 (.call 16 [(.tmp 58)]), oM 57 59, oO 60 (.extract 0 (.tmp 57)), oO 61 (.extract 1 (.tmp 57)), oO 7 (.alloc [(.d (.v (.complex Go.FloatKind.f64 0 0))), (.d (.v (.complex Go.FloatKind.f64 0 0))), (.d (.v (.complex Go.FloatKind.f64 0 0))), (.d (.v (.complex Go.FloatKind.f64 0 0)))]), oD (.store 4 (.tmp 7) (.tmp 60)), oM 8 61]
def r11_48 : List AOper := [oO 63 (.load true 4 (.tmp 7)), oO 64 (.call 53 [(.tmp 63)]), oM 62 64, oO 65 (.extract 0 (.tmp 62)), oO 66 (.extract 1 (.tmp 62)), oO 9 (.alloc [(cI 0), (cI 0), (cI 0), (cI 0)]), oD (.store 4 (.tmp 9) (.tmp 65)), oM 10 66]
def r11_50 : List AOper := [oM 67 8, oO 68 (.bin .eql 28 (.tmp 67) (kI 0)), oM 69 68, oG 70 (.mv (.tmp 10)) 69 true, oG 71 (.bin .eql 28 (.tmp 70) (kI 0)) 69 true, oO 72 (.pick (.tmp 69) (.tmp 71) (.const (.bool false))), oM 73 72, oG 74 (.load true 4 (.tmp 9)) 73 true, oG 75 (.load true 4 (.tmp 4)) 73 true, oG 76 (.bin .eql 72 (.tmp 74) (.tmp 75)) 73 true, oO 77 (.pick (.tmp 73) (.tmp 76) (.const (.bool false))), oM 2 77]
def tr11 : List (Nat × Tidy) := [tT 0 [0], tT 1 [0, 12], tT 2 [2], tT 3 [0, 20], tT 4 [2], tT 5 [0, 3], tT 6 [0, 3, 4], tT 7 [0, 3, 4, 5], tT 8 [0, 3, 4, 5, 25], tT 10 [0, 3, 4, 5, 6], tT 11 [0, 3, 4, 5, 6, 29], tT 13 [0, 3, 4, 5, 6], tT 14 [0, 3, 4, 5, 6], tT 12 [0, 3, 4, 5, 6], tT 9 [0, 3, 4, 5], tT 15 [4, 7, 8], tT 16 [4, 8, 9, 10], tT 17 [2]]
def tl11 : List (Nat × Tidy) := [(8, ⟨[0, 3, 4, 5], true, [⟨true, 3, 0, 30300, 1⟩], []⟩), (11, ⟨[0, 3, 4, 5, 6], true, [⟨true, 3, 0, 30300, 1⟩], []⟩)]
def rs11 : List AResV := [.tmp 2]
def p11_0_0 : PT St := pS [sl 0 (aV false [(cD dL)]), sl 3 (aV false [(cPtr 3 0)]), sl 4 (aV false [(cPtr 4 0)]), sl 5 (aV false [(cD (dI .i64))])] [eBox 3 [(cRef 30300), (cD (dI .i64)), (cD (dI .i64))], eOwn 30300 1, eBox 4 [(cD (dI .i64)), (cD (dI .i64)), (cD (dI .i64)), (cD (dI .i64))]]
def u11_0_0 {β : Type} (g : St → β) : Rows → Int → Int → Int → Rows → Int → Int → Int → Int → β := p11_0_0.unc g
def p11_0_1 : PT St := pS [sl 0 (aV false [(cD dL)]), sl 3 (aV false [(cPtr 3 0)]), sl 4 (aV false [(cPtr 4 0)]), sl 5 (aV false [(cD (dI .i64))]), sl 25 (aV false [(cD dB)])] [eBox 3 [(cRef 30300), (cD (dI .i64)), (cD (dI .i64))], eOwn 30300 1, eBox 4 [(cD (dI .i64)), (cD (dI .i64)), (cD (dI .i64)), (cD (dI .i64))]]
def u11_0_1 {β : Type} (g : St → β) : Rows → Int → Bool → Int → Int → Rows → Int → Int → Int → Int → β := p11_0_1.unc g
def pr11_0_0 : PT (List RV) := pRs [pR false [rD dB]]
def ur11_0_0 {β : Type} (g : List RV → β) : Bool → β := pr11_0_0.unc g
def E11_0g (vf15_0 : Tf15_0) (vf16_0 : Tf16_0) (vf53_0 : Tf53_0) : EnvK := EnvK.of [⟨15, nt15, [⟨pa15_0, Fn15_0 vf15_0⟩]⟩, ⟨16, nt16, [⟨pa16_0, Fn16_0 vf16_0⟩]⟩, ⟨53, nt53, [⟨pa53_0, Fn53_0 vf53_0⟩]⟩] noSeq
noncomputable def E11_0 : EnvK := E11_0g f15_0 f16_0 f53_0
theorem eo11_0 : E11_0.Ok Try.prog := EnvK.of_ok noSeq_ok ⟨⟨io15_0, trivial⟩, ⟨io16_0, trivial⟩, ⟨io53_0, trivial⟩, trivial⟩
noncomputable def c11_0_23g  : MCode := (.seq (.seq (.region r11_26 [] (tO [0, 3, 4, 5, 25])) (.cond (.tmp 25) .skip (.exit 0))) (.seq (.block 1 (.seq (.region r11_31 [] (tO [0, 3, 4, 5, 6])) (.block 2 (.loopU 5 td11_33 (.seq (.seq (.region r11_36 [] (tO [0, 3, 4, 5, 6, 29])) (.cond (.tmp 29) .skip (.exit 2))) (.seq (.block 3 (.seq (.region r11_41 [(1, 9)] (tO [0, 3, 4, 5, 6])) (.region r11_42 [] (tO [0, 3, 4, 5, 6])))) (.region r11_43 [] (tO [0, 3, 4, 5, 6])))))))) (.region r11_44 [] (tO [0, 3, 4, 5]))))
noncomputable def c11_0_23 : MCode := c11_0_23g 
theorem g11_0_23 : c11_0_23.Good Try.prog E11_0 sh11 := ⟨⟨trivial, ⟨trivial, trivial⟩⟩, ⟨⟨trivial, ⟨⟨⟨trivial, ⟨trivial, trivial⟩⟩, ⟨⟨trivial, trivial⟩, trivial⟩⟩, by decide⟩⟩, trivial⟩⟩
--CODE 23 0
def S11_0_0g  (α : Type) (x2 : Rows) (x3 : Int) (x6 : Rows) (x7 x8 x9 x10 : Int) (kn : Int → Rows → Int → Int → Int → Int → Option α) (k1 : Int → Bool → Rows → Int → Int → Int → Int → Option α) : Option α :=
 cK (decide (x3 < ((List.length x2 : Nat) : Int)))
 (rowK x2 x3 [.int .u16, .int .u16, .int .u16, .int .u16]
 (fun x12 x13 x14 x15 => gK (apOk 1 4 x6 [[DC.v (.float .f32 (FloatKind.nearest .f32 x12))]]) (rowK x2 x3 [.int .u16, .int .u16, .int .u16, .int .u16]
 (fun x16 x17 x18 x19 => rowK x2 x3 [.int .u16, .int .u16, .int .u16, .int .u16]
 (fun x20 x21 x22 x23 => gK (apOk 1 4 (x6 ++ [[DC.v (.float .f32 (FloatKind.nearest .f32 x12))]]) [[DC.v (.float .f32 (FloatKind.nearest .f32 x21))]]) (rowK x2 x3 [.int .u16, .int .u16, .int .u16, .int .u16]
 (fun x24 x25 x26 x27 => rowK x2 x3 [.int .u16, .int .u16, .int .u16, .int .u16]
 (fun x28 x29 x30 x31 => gK (apOk 1 4 ((x6 ++ [[DC.v (.float .f32 (FloatKind.nearest .f32 x12))]]) ++ [[DC.v (.float .f32 (FloatKind.nearest .f32 x21))]]) [[DC.v (.float .f32 (FloatKind.nearest .f32 x30))]]) (rowK x2 x3 [.int .u16, .int .u16, .int .u16, .int .u16]
 (fun x32 x33 x34 x35 => rowK x2 x3 [.int .u16, .int .u16, .int .u16, .int .u16]
 (fun x36 x37 x38 x39 => gK (apOk 1 4 (((x6 ++ [[DC.v (.float .f32 (FloatKind.nearest .f32 x12))]]) ++ [[DC.v (.float .f32 (FloatKind.nearest .f32 x21))]]) ++ [[DC.v (.float .f32 (FloatKind.nearest .f32 x30))]]) [[DC.v (.float .f32 (FloatKind.nearest .f32 x39))]]) (rowK x2 x3 [.int .u16, .int .u16, .int .u16, .int .u16]
 (fun x40 x41 x42 x43 => kn (w64 (x3 + 1)) ((((x6 ++ [[DC.v (.float .f32 (FloatKind.nearest .f32 x12))]]) ++ [[DC.v (.float .f32 (FloatKind.nearest .f32 x21))]]) ++ [[DC.v (.float .f32 (FloatKind.nearest .f32 x30))]]) ++ [[DC.v (.float .f32 (FloatKind.nearest .f32 x39))]]) (w64 (x7 + (w64 (x16)))) (w64 (x8 + (w64 (x25)))) (w64 (x9 + (w64 (x34)))) (w64 (x10 + (w64 (x43)))))))))))))))))
 (k1 x3 (decide (x3 < ((List.length x2 : Nat) : Int))) x6 x7 x8 x9 x10)
noncomputable def S11_0_0 (α : Type) (x2 : Rows) (x3 : Int) (x6 : Rows) (x7 x8 x9 x10 : Int) (kn : Int → Rows → Int → Int → Int → Int → Option α) (k1 : Int → Bool → Rows → Int → Int → Int → Int → Option α) : Option α := S11_0_0g  α x2 x3 x6 x7 x8 x9 x10 kn k1
noncomputable def R11_0_0 (α : Type) (x2 : Rows) (k1 : Int → Bool → Rows → Int → Int → Int → Int → Option α) : Nat → Int → Rows → Int → Int → Int → Int → Option α
 | 0, _, _, _, _, _, _ => none
 | n + 1, x3, x6, x7, x8, x9, x10 => S11_0_0 α x2 x3 x6 x7 x8 x9 x10 (R11_0_0 α x2 k1 n) k1
noncomputable def L11_0_0 (α : Type) (x2 : Rows) (k1 : Int → Bool → Rows → Int → Int → Int → Int → Option α) (x3 : Int) (x6 : Rows) (x7 x8 x9 x10 : Int) : Option α := R11_0_0 α x2 k1 fuel x3 x6 x7 x8 x9 x10
abbrev TL11_0_0 : Type 1 := (α : Type) → Rows → (Int → Bool → Rows → Int → Int → Int → Int → Option α) → Int → Rows → Int → Int → Int → Int → Option α
def F11_0_0 (v : TL11_0_0) (α : Type) (K : Exit → St → Option α) : Rows → Int → Int → Int → Rows → Int → Int → Int → Int → Option α := fun x2 x3 x4 x5 x6 x7 x8 x9 x10 => v α x2 (fun (y1 : Int) (y2 : Bool) (y3 : Rows) (y4 : Int) (y5 : Int) (y6 : Int) (y7 : Int) => u11_0_1 (K (.exit 0)) x2 y1 y2 x4 x5 y3 y4 y5 y6 y7) x3 x6 x7 x8 x9 x10
theorem r11_0_0g (vf15_0 : Tf15_0) (vf16_0 : Tf16_0) (vf53_0 : Tf53_0)  (α : Type) (K : Exit → St → Option α) (Kn : St → Option α) (x2 : Rows) (x3 x4 x5 : Int) (x6 : Rows) (x7 x8 x9 x10 : Int) : u11_0_0 (fun σ => runM Try.prog (E11_0g vf15_0 vf16_0 vf53_0) sh11 (c11_0_23g ) (thenK (fun σ => tidyK td11_23 σ Kn) K) σ) x2 x3 x4 x5 x6 x7 x8 x9 x10 = S11_0_0g  α x2 x3 x6 x7 x8 x9 x10 (fun x3 x6 x7 x8 x9 x10 => u11_0_0 Kn x2 x3 x4 x5 x6 x7 x8 x9 x10) (fun (y1 : Int) (y2 : Bool) (y3 : Rows) (y4 : Int) (y5 : Int) (y6 : Int) (y7 : Int) => u11_0_1 (K (.exit 0)) x2 y1 y2 x4 x5 y3 y4 y5 y6 y7) := by kernel_rfl
theorem r11_0_0 (α : Type) (K : Exit → St → Option α) (Kn : St → Option α) (x2 : Rows) (x3 x4 x5 : Int) (x6 : Rows) (x7 x8 x9 x10 : Int) : u11_0_0 (fun σ => runM Try.prog E11_0 sh11 c11_0_23 (thenK (fun σ => tidyK td11_23 σ Kn) K) σ) x2 x3 x4 x5 x6 x7 x8 x9 x10 = S11_0_0 α x2 x3 x6 x7 x8 x9 x10 (fun x3 x6 x7 x8 x9 x10 => u11_0_0 Kn x2 x3 x4 x5 x6 x7 x8 x9 x10) (fun (y1 : Int) (y2 : Bool) (y3 : Rows) (y4 : Int) (y5 : Int) (y6 : Int) (y7 : Int) => u11_0_1 (K (.exit 0)) x2 y1 y2 x4 x5 y3 y4 y5 y6 y7) := r11_0_0g f15_0 f16_0 f53_0 α K Kn x2 x3 x4 x5 x6 x7 x8 x9 x10
theorem t11_0_0 (α : Type) (K : Exit → St → Option α) : ∀ (n : Nat) (x2 : Rows) (x3 x4 x5 : Int) (x6 : Rows) (x7 x8 x9 x10 : Int), R11_0_0 α x2 (fun (y1 : Int) (y2 : Bool) (y3 : Rows) (y4 : Int) (y5 : Int) (y6 : Int) (y7 : Int) => u11_0_1 (K (.exit 0)) x2 y1 y2 x4 x5 y3 y4 y5 y6 y7) n x3 x6 x7 x8 x9 x10 = u11_0_0 (loopT (runM Try.prog E11_0 sh11 c11_0_23) td11_23 K n) x2 x3 x4 x5 x6 x7 x8 x9 x10 := by
 intro n
 induction n with
 | zero => intros; rfl
 | succ n ih => intro x2 x3 x4 x5 x6 x7 x8 x9 x10; exact (congrArg (fun kn => S11_0_0 α x2 x3 x6 x7 x8 x9 x10 kn (fun (y1 : Int) (y2 : Bool) (y3 : Rows) (y4 : Int) (y5 : Int) (y6 : Int) (y7 : Int) => u11_0_1 (K (.exit 0)) x2 y1 y2 x4 x5 y3 y4 y5 y6 y7)) (funext fun x3 => funext fun x6 => funext fun x7 => funext fun x8 => funext fun x9 => funext fun x10 => ih x2 x3 x4 x5 x6 x7 x8 x9 x10)).trans (r11_0_0 α K (loopT (runM Try.prog E11_0 sh11 c11_0_23) td11_23 K n) x2 x3 x4 x5 x6 x7 x8 x9 x10).symm
theorem m11_0_0 : ∀ (α : Type) (K : Exit → St → Option α), F11_0_0 L11_0_0 α K = p11_0_0.unc fun σ => loopT (runM Try.prog E11_0 sh11 c11_0_23) td11_23 K fuel σ := fun α K => funext fun x2 => funext fun x3 => funext fun x4 => funext fun x5 => funext fun x6 => funext fun x7 => funext fun x8 => funext fun x9 => funext fun x10 => t11_0_0 α K fuel x2 x3 x4 x5 x6 x7 x8 x9 x10
abbrev Tf11_0 : Type 1 := (α : Type) → Rows → (Bool → Option α) → Option α
def f11_0g (vL11_0_0 : TL11_0_0) (vf15_0 : Tf15_0) (vf16_0 : Tf16_0) (vf53_0 : Tf53_0) (α : Type) (x1 : Rows) (k1 : Bool → Option α) : Option α :=
 vf15_0 α 
 (cK (((List.length x1 : Nat) : Int) == 0)
 (k1 true)
 (cK (decide (12 < ((List.length x1 : Nat) : Int)))
 (k1 true)
 (vL11_0_0 α x1
 (fun x44 x45 x46 x47 x48 x49 x50 => vf16_0 α x46 0 65536
 (fun x52 x53 x54 x55 x56 x57 x58 x59 x60 => vf53_0 α x52 x53 x54 x55 x56 x57 x58 x59
 (fun x61 x62 x63 x64 x65 => cK (x60 == 0)
 (cK (x65 == 0)
 (k1 ((x61 == x47) && ((x62 == x48) && ((x63 == x49) && ((x64 == x50) && true)))))
 (k1 false))
 (k1 false)))) 0 ([] : Rows) 0 0 0 0)))
noncomputable def f11_0 (α : Type) (x1 : Rows) (k1 : Bool → Option α) : Option α := f11_0g L11_0_0 f15_0 f16_0 f53_0 α x1 k1
def pa11_0 : PT (List DV) := pA [pV false [dL]]
def Fn11_0 (v : Tf11_0) (α : Type) (k : List RV → Option α) : Rows → Option α := fun x1 => v α x1 (fun (y1 : Bool) => ur11_0_0 k y1)
noncomputable def cm11_0g (vL11_0_0 : TL11_0_0) : MCode := (.seq (.region r11_2 [] (tO [0])) (.seq (.seq (.region r11_5 [] (tO [0, 12])) (.cond (.tmp 12) (.seq (.region r11_8 [] (tO [2])) .ret) .skip)) (.seq (.seq (.region r11_11 [] (tO [0, 20])) (.cond (.tmp 20) (.seq (.region r11_14 [] (tO [2])) .ret) .skip)) (.seq (.region r11_16 [] (tO [0, 3])) (.seq (.region r11_18 [] (tO [0, 3, 4])) (.seq (.seq (.region r11_21 [] (tO [0, 3, 4, 5])) (.block 0 (.loop td11_23 [⟨p11_0_0, F11_0_0 vL11_0_0⟩] c11_0_23))) (.seq (.region r11_46 [] (tO [4, 7, 8])) (.seq (.region r11_48 [] (tO [4, 8, 9, 10])) (.seq (.region r11_50 [] (tO [2])) .ret)))))))))
noncomputable def cm11_0 : MCode := cm11_0g L11_0_0
theorem gm11_0 : cm11_0.Good Try.prog E11_0 sh11 := ⟨trivial, ⟨⟨trivial, ⟨⟨trivial, trivial⟩, trivial⟩⟩, ⟨⟨trivial, ⟨⟨trivial, trivial⟩, trivial⟩⟩, ⟨trivial, ⟨trivial, ⟨⟨trivial, ⟨g11_0_23, m11_0_0, trivial⟩⟩, ⟨trivial, ⟨trivial, ⟨trivial, trivial⟩⟩⟩⟩⟩⟩⟩⟩⟩
theorem fm11_0g (vf15_0 : Tf15_0) (vf16_0 : Tf16_0) (vf53_0 : Tf53_0) (vL11_0_0 : TL11_0_0) (α : Type) (k : List RV → Option α) : Fn11_0 (f11_0g vL11_0_0 vf15_0 vf16_0 vf53_0) α k = pa11_0.unc fun ds => fnM Try.prog (E11_0g vf15_0 vf16_0 vf53_0) sh11 (cm11_0g vL11_0_0) rs11 k ds := by kernel_rfl
theorem fm11_0 : ∀ (α : Type) (k : List RV → Option α), Fn11_0 f11_0 α k = pa11_0.unc fun ds => fnM Try.prog E11_0 sh11 cm11_0 rs11 k ds := fm11_0g f15_0 f16_0 f53_0 L11_0_0
theorem is11 : FnIs Try.prog 11 nt11 tr11 tl11 cm11_0.erase rs11 := ⟨Try.f11, Try.func11, rfl, by kernel_rfl, by kernel_rfl, by kernel_rfl⟩
theorem io11_0 : InstOk Try.prog 11 nt11 ⟨pa11_0, Fn11_0 f11_0⟩ := inst_ok eo11_0 followsTry is11 ⟨⟨sh11, cm11_0, by kernel_rfl, gm11_0, fm11_0⟩⟩
end Go.AM.K
