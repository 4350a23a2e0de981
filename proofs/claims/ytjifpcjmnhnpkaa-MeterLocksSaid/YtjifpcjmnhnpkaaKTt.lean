/- Printed by KGen. -/
import Derived.Test.YtjifpcjmnhnpkaaKTr
import Derived.Test.YtjifpcjmnhnpkaaAcX
namespace Go.AM.K
open Go.Proofs
set_option maxRecDepth 100000
set_option linter.unusedVariables false
abbrev nt13 : Nat := 88
def sh13 : List (Nat × List Sh) := [(36, [.flt .f32]), (37, [.flt .f32]), (40, [.flt .f32]), (41, [.flt .f32])]
def r13_2 : List AOper := [oO 6 (.mv (.const (.bool false)))]
def r13_5 : List AOper := [oO 15 (.call 15 []), oO 16 (.pure (oB (.unOp .not 4 (.tmp 15)) 4))]
def r13_8 : List AOper := [oO 6 (.mv (.const (.bool false)))]
def r13_11 : List AOper := [oM 17 0, oO 18 (.len (.tmp 17)), oO 19 (.bin .gtr 3 (.tmp 18) (kI 70)), oM 20 19, oG 21 (.mv (.tmp 1)) 20 false, oG 22 (.len (.tmp 21)) 20 false, oG 23 (.mv (.tmp 0)) 20 false, oG 24 (.len (.tmp 23)) 20 false, oG 25 (.bin .lss 3 (.tmp 22) (.tmp 24)) 20 false, oO 26 (.pick (.tmp 20) (.const (.bool true)) (.tmp 25))]
def r13_14 : List AOper := [oO 6 (.mv (.const (.bool true)))]
def r13_16 : List AOper := [oO 7 (.mv (.const (.slice none 0 0)))]
def r13_19 : List AOper := [oO 8 (.mv (kI 0))]
def td13_21 : Option Tidy := (some ⟨[0, 1, 2, 7, 8], true, [⟨false, 7, 0, 20007, 1⟩], []⟩)
def r13_24 : List AOper := [oM 27 8, oM 28 0, oO 29 (.len (.tmp 28)), oO 30 (.bin .lss 3 (.tmp 27) (.tmp 29))]
def r13_28 : List AOper := [oM 33 7, oM 34 0, oM 35 8, oO 36 (.iaddr 1 none (.tmp 34) (.tmp 35)), oO 37 (.load false 1 (.tmp 36)), oM 38 1, oM 39 8, oO 40 (.iaddr 1 none (.tmp 38) (.tmp 39)), oO 41 (.load false 1 (.tmp 40)), oO 42 (.pure (oB (.call { callee := .builtin .complex, args := #[(.tmp 37), (.tmp 41)], argTypes := #[74, 74] }) 118)), oO 43 (.bslice 1 1 [(.v (.complex Go.FloatKind.f32 0 0))] [(0, (.tmp 42))]), oO 44 (.append 1 8 (.tmp 33) (.tmp 43)), oM 7 44]
def r13_29 : List AOper := [oM 31 8, oO 32 (.bin .add 3 (.tmp 31) (kI 1)), oM 8 32]
def r13_31 : List AOper := [oO 46 (.bslice 1 0 [(.v (.complex Go.FloatKind.f32 0 0))] []), oM 47 7, oO 48 (.append 1 8 (.tmp 46) (.tmp 47)), oM 49 2, oO 50 (.call 55 [(.tmp 48), (.tmp 49)]), oM 45 50, oO 51 (.extract 0 (.tmp 45)), oO 52 (.extract 1 (.tmp 45)), oM 9 51, oM 10 52]
def r13_33 : List AOper := [oM 54 7, oM 55 2, oO 56 (.call 56 [(.tmp 54), (.tmp 55)]), oM 53 56, oO 57 (.extract 0 (.tmp 53)), oO 58 (.extract 1 (.tmp 53)), oM 11 57, oM 12 58]
def r13_36 : List AOper := [oM 59 10, oM 60 12, oO 61 (.bin .neq 3 (.tmp 59) (.tmp 60)), oM 62 61, oG 63 (.mv (.tmp 9)) 62 false, oG 64 (.mv (.tmp 11)) 62 false, oG 65 (.call 57 [(.tmp 63), (.tmp 64)]) 62 false, oG 66 (.pure (oB (.unOp .not 4 (.tmp 65)) 4)) 62 false, oO 67 (.pick (.tmp 62) (.const (.bool true)) (.tmp 66))]
def r13_39 : List AOper := [oO 6 (.mv (.const (.bool false)))]
def r13_42 : List AOper := [oM 68 12, oO 69 (.bin .neq 3 (.tmp 68) (kI 0)), oM 70 69, oG 71 (.mv (.tmp 2)) 70 false, oG 72 (.bin .gtr 3 (.tmp 71) (kI 996)) 70 false, oO 73 (.pick (.tmp 70) (.const (.bool true)) (.tmp 72))]
def r13_45 : List AOper := [oO 6 (.mv (.const (.bool true)))]
def r13_47 : List AOper := [oM 75 7, oM 76 2, oO 77 (.bin .add 3 (.tmp 76) (kI 4)), oO 78 (.call 55 [(.tmp 75), (.tmp 77)]), oM 74 78, oO 79 (.extract 0 (.tmp 74)), oO 80 (.extract 1 (.tmp 74)), oM 13 79, oM 14 80]
def r13_49 : List AOper := [oM 81 14, oO 82 (.bin .eql 28 (.tmp 81) (kI 0)), oM 83 82, oG 84 (.mv (.tmp 13)) 83 true, oG 85 (.mv (.tmp 9)) 83 true, oG 86 (.call 57 [(.tmp 84), (.tmp 85)]) 83 true, oO 87 (.pick (.tmp 83) (.tmp 86) (.const (.bool false))), oM 6 87]
def tr13 : List (Nat × Tidy) := [tT 0 [0, 1, 2], tT 1 [0, 1, 2, 16], tT 2 [6], tT 3 [0, 1, 2, 26], tT 4 [6], tT 5 [0, 1, 2, 7], tT 6 [0, 1, 2, 7, 8], tT 7 [0, 1, 2, 7, 8, 30], tT 9 [0, 1, 2, 7, 8], tT 8 [0, 1, 2, 7, 8], tT 10 [2, 7, 9, 10], tT 11 [2, 7, 9, 10, 11, 12], tT 12 [2, 7, 9, 12, 67], tT 13 [6], tT 14 [2, 7, 9, 73], tT 15 [6], tT 16 [9, 13, 14], tT 17 [6]]
def tl13 : List (Nat × Tidy) := [(7, ⟨[0, 1, 2, 7, 8], true, [⟨false, 7, 0, 20007, 1⟩], []⟩)]
def rs13 : List AResV := [.tmp 6]
def p13_0_0 : PT St := pS [sl 0 (aV false [(cD dL)]), sl 1 (aV false [(cD dL)]), sl 2 (aV false [(cD (dI .i64))]), sl 7 (aV false [(cRef 20007)]), sl 8 (aV false [(cD (dI .i64))])] [eOwn 20007 1]
def u13_0_0 {β : Type} (g : St → β) : Rows → Rows → Int → Int → Rows → β := p13_0_0.unc g
def p13_0_1 : PT St := pS [sl 0 (aV false [(cD dL)]), sl 1 (aV false [(cD dL)]), sl 2 (aV false [(cD (dI .i64))]), sl 7 (aV false [(cRef 20007)]), sl 8 (aV false [(cD (dI .i64))]), sl 30 (aV false [(cD dB)])] [eOwn 20007 1]
def u13_0_1 {β : Type} (g : St → β) : Rows → Rows → Int → Int → Bool → Rows → β := p13_0_1.unc g
def pr13_0_0 : PT (List RV) := pRs [pR false [rD dB]]
def ur13_0_0 {β : Type} (g : List RV → β) : Bool → β := pr13_0_0.unc g
def E13_0g (vf15_0 : Tf15_0) (vf55_0 : Tf55_0) (vf56_0 : Tf56_0) (vf57_0 : Tf57_0) : EnvK := EnvK.of [⟨15, nt15, [⟨pa15_0, Fn15_0 vf15_0⟩]⟩, ⟨55, nt55, [⟨pa55_0, Fn55_0 vf55_0⟩]⟩, ⟨56, nt56, [⟨pa56_0, Fn56_0 vf56_0⟩]⟩, ⟨57, nt57, [⟨pa57_0, Fn57_0 vf57_0⟩]⟩] noSeq
noncomputable def E13_0 : EnvK := E13_0g f15_0 f55_0 f56_0 f57_0
theorem eo13_0 : E13_0.Ok Try.prog := EnvK.of_ok noSeq_ok ⟨⟨io15_0, trivial⟩, ⟨io55_0, trivial⟩, ⟨io56_0, trivial⟩, ⟨io57_0, trivial⟩, trivial⟩
noncomputable def c13_0_21g  : MCode := (.seq (.seq (.region r13_24 [] (tO [0, 1, 2, 7, 8, 30])) (.cond (.tmp 30) .skip (.exit 0))) (.seq (.block 1 (.region r13_28 [] (tO [0, 1, 2, 7, 8]))) (.region r13_29 [] (tO [0, 1, 2, 7, 8]))))
noncomputable def c13_0_21 : MCode := c13_0_21g 
theorem g13_0_21 : c13_0_21.Good Try.prog E13_0 sh13 := ⟨⟨trivial, ⟨trivial, trivial⟩⟩, ⟨trivial, trivial⟩⟩
--CODE 21 0
def S13_0_0g  (α : Type) (x4 x5 : Rows) (x7 : Int) (x8 : Rows) (kn : Int → Rows → Option α) (k1 : Int → Bool → Rows → Option α) : Option α :=
 cK (decide (x7 < ((List.length x4 : Nat) : Int)))
 (rowK x4 x7 [.flt .f32]
 (fun x10 => rowK x5 x7 [.flt .f32]
 (fun x11 => gK (apOk 1 8 x8 [[DC.v (.complex .f32 x10 x11)]]) (kn (w64 (x7 + 1)) (x8 ++ [[DC.v (.complex .f32 x10 x11)]])))))
 (k1 x7 (decide (x7 < ((List.length x4 : Nat) : Int))) x8)
noncomputable def S13_0_0 (α : Type) (x4 x5 : Rows) (x7 : Int) (x8 : Rows) (kn : Int → Rows → Option α) (k1 : Int → Bool → Rows → Option α) : Option α := S13_0_0g  α x4 x5 x7 x8 kn k1
noncomputable def R13_0_0 (α : Type) (x4 x5 : Rows) (k1 : Int → Bool → Rows → Option α) : Nat → Int → Rows → Option α
 | 0, _, _ => none
 | n + 1, x7, x8 => S13_0_0 α x4 x5 x7 x8 (R13_0_0 α x4 x5 k1 n) k1
noncomputable def L13_0_0 (α : Type) (x4 x5 : Rows) (k1 : Int → Bool → Rows → Option α) (x7 : Int) (x8 : Rows) : Option α := R13_0_0 α x4 x5 k1 fuel x7 x8
abbrev TL13_0_0 : Type 1 := (α : Type) → Rows → Rows → (Int → Bool → Rows → Option α) → Int → Rows → Option α
def F13_0_0 (v : TL13_0_0) (α : Type) (K : Exit → St → Option α) : Rows → Rows → Int → Int → Rows → Option α := fun x4 x5 x6 x7 x8 => v α x4 x5 (fun (y1 : Int) (y2 : Bool) (y3 : Rows) => u13_0_1 (K (.exit 0)) x4 x5 x6 y1 y2 y3) x7 x8
theorem r13_0_0g (vf15_0 : Tf15_0) (vf55_0 : Tf55_0) (vf56_0 : Tf56_0) (vf57_0 : Tf57_0)  (α : Type) (K : Exit → St → Option α) (Kn : St → Option α) (x4 x5 : Rows) (x6 x7 : Int) (x8 : Rows) : u13_0_0 (fun σ => runM Try.prog (E13_0g vf15_0 vf55_0 vf56_0 vf57_0) sh13 (c13_0_21g ) (thenK (fun σ => tidyK td13_21 σ Kn) K) σ) x4 x5 x6 x7 x8 = S13_0_0g  α x4 x5 x7 x8 (fun x7 x8 => u13_0_0 Kn x4 x5 x6 x7 x8) (fun (y1 : Int) (y2 : Bool) (y3 : Rows) => u13_0_1 (K (.exit 0)) x4 x5 x6 y1 y2 y3) := by kernel_rfl
theorem r13_0_0 (α : Type) (K : Exit → St → Option α) (Kn : St → Option α) (x4 x5 : Rows) (x6 x7 : Int) (x8 : Rows) : u13_0_0 (fun σ => runM Try.prog E13_0 sh13 c13_0_21 (thenK (fun σ => tidyK td13_21 σ Kn) K) σ) x4 x5 x6 x7 x8 = S13_0_0 α x4 x5 x7 x8 (fun x7 x8 => u13_0_0 Kn x4 x5 x6 x7 x8) (fun (y1 : Int) (y2 : Bool) (y3 : Rows) => u13_0_1 (K (.exit 0)) x4 x5 x6 y1 y2 y3) := r13_0_0g f15_0 f55_0 f56_0 f57_0 α K Kn x4 x5 x6 x7 x8
theorem t13_0_0 (α : Type) (K : Exit → St → Option α) : ∀ (n : Nat) (x4 x5 : Rows) (x6 x7 : Int) (x8 : Rows), R13_0_0 α x4 x5 (fun (y1 : Int) (y2 : Bool) (y3 : Rows) => u13_0_1 (K (.exit 0)) x4 x5 x6 y1 y2 y3) n x7 x8 = u13_0_0 (loopT (runM Try.prog E13_0 sh13 c13_0_21) td13_21 K n) x4 x5 x6 x7 x8 := by
 intro n
 induction n with
 | zero => intros; rfl
 | succ n ih => intro x4 x5 x6 x7 x8; exact (congrArg (fun kn => S13_0_0 α x4 x5 x7 x8 kn (fun (y1 : Int) (y2 : Bool) (y3 : Rows) => u13_0_1 (K (.exit 0)) x4 x5 x6 y1 y2 y3)) (funext fun x7 => funext fun x8 => ih x4 x5 x6 x7 x8)).trans (r13_0_0 α K (loopT (runM Try.prog E13_0 sh13 c13_0_21) td13_21 K n) x4 x5 x6 x7 x8).symm
theorem m13_0_0 : ∀ (α : Type) (K : Exit → St → Option α), F13_0_0 L13_0_0 α K = p13_0_0.unc fun σ => loopT (runM Try.prog E13_0 sh13 c13_0_21) td13_21 K fuel σ := fun α K => funext fun x4 => funext fun x5 => funext fun x6 => funext fun x7 => funext fun x8 => t13_0_0 α K fuel x4 x5 x6 x7 x8
abbrev Tf13_0 : Type 1 := (α : Type) → Rows → Rows → Int → (Bool → Option α) → Option α
def f13_0g (vL13_0_0 : TL13_0_0) (vf15_0 : Tf15_0) (vf55_0 : Tf55_0) (vf56_0 : Tf56_0) (vf57_0 : Tf57_0) (α : Type) (x1 x2 : Rows) (x3 : Int) (k1 : Bool → Option α) : Option α :=
 vf15_0 α 
 (cK (decide (70 < ((List.length x1 : Nat) : Int)))
 (k1 true)
 (cK (decide (((List.length x2 : Nat) : Int) < ((List.length x1 : Nat) : Int)))
 (k1 true)
 (vL13_0_0 α x1 x2
 (fun x12 x13 x14 => gK (apOk 1 8 ([] : Rows) x14) (vf55_0 α (([] : Rows) ++ x14) x3
 (fun x16 x17 x18 => vf56_0 α x14 x3
 (fun x19 x20 x21 => cK (x18 != x21)
 (k1 false)
 (vf57_0 α x16 x17 x19 x20
 (fun x22 => cK (!x22)
 (k1 false)
 (cK (x21 != 0)
 (k1 true)
 (cK (decide (996 < x3))
 (k1 true)
 (vf55_0 α x14 (w64 (x3 + 4))
 (fun x23 x24 x25 => cK (x25 == 0)
 (vf57_0 α x23 x24 x16 x17
 (fun x26 => k1 x26))
 (k1 false))))))))))) 0 ([] : Rows))))
noncomputable def f13_0 (α : Type) (x1 x2 : Rows) (x3 : Int) (k1 : Bool → Option α) : Option α := f13_0g L13_0_0 f15_0 f55_0 f56_0 f57_0 α x1 x2 x3 k1
def pa13_0 : PT (List DV) := pA [pV false [dL], pV false [dL], pV false [(dI .i64)]]
def Fn13_0 (v : Tf13_0) (α : Type) (k : List RV → Option α) : Rows → Rows → Int → Option α := fun x1 x2 x3 => v α x1 x2 x3 (fun (y1 : Bool) => ur13_0_0 k y1)
noncomputable def cm13_0g (vL13_0_0 : TL13_0_0) : MCode := (.seq (.region r13_2 [] (tO [0, 1, 2])) (.seq (.seq (.region r13_5 [] (tO [0, 1, 2, 16])) (.cond (.tmp 16) (.seq (.region r13_8 [] (tO [6])) .ret) .skip)) (.seq (.seq (.region r13_11 [] (tO [0, 1, 2, 26])) (.cond (.tmp 26) (.seq (.region r13_14 [] (tO [6])) .ret) .skip)) (.seq (.region r13_16 [] (tO [0, 1, 2, 7])) (.seq (.seq (.region r13_19 [] (tO [0, 1, 2, 7, 8])) (.block 0 (.loop td13_21 [⟨p13_0_0, F13_0_0 vL13_0_0⟩] c13_0_21))) (.seq (.region r13_31 [] (tO [2, 7, 9, 10])) (.seq (.region r13_33 [] (tO [2, 7, 9, 10, 11, 12])) (.seq (.seq (.region r13_36 [] (tO [2, 7, 9, 12, 67])) (.cond (.tmp 67) (.seq (.region r13_39 [] (tO [6])) .ret) .skip)) (.seq (.seq (.region r13_42 [] (tO [2, 7, 9, 73])) (.cond (.tmp 73) (.seq (.region r13_45 [] (tO [6])) .ret) .skip)) (.seq (.region r13_47 [] (tO [9, 13, 14])) (.seq (.region r13_49 [] (tO [6])) .ret)))))))))))
noncomputable def cm13_0 : MCode := cm13_0g L13_0_0
theorem gm13_0 : cm13_0.Good Try.prog E13_0 sh13 := ⟨trivial, ⟨⟨trivial, ⟨⟨trivial, trivial⟩, trivial⟩⟩, ⟨⟨trivial, ⟨⟨trivial, trivial⟩, trivial⟩⟩, ⟨trivial, ⟨⟨trivial, ⟨g13_0_21, m13_0_0, trivial⟩⟩, ⟨trivial, ⟨trivial, ⟨⟨trivial, ⟨⟨trivial, trivial⟩, trivial⟩⟩, ⟨⟨trivial, ⟨⟨trivial, trivial⟩, trivial⟩⟩, ⟨trivial, ⟨trivial, trivial⟩⟩⟩⟩⟩⟩⟩⟩⟩⟩⟩
theorem fm13_0g (vf15_0 : Tf15_0) (vf55_0 : Tf55_0) (vf56_0 : Tf56_0) (vf57_0 : Tf57_0) (vL13_0_0 : TL13_0_0) (α : Type) (k : List RV → Option α) : Fn13_0 (f13_0g vL13_0_0 vf15_0 vf55_0 vf56_0 vf57_0) α k = pa13_0.unc fun ds => fnM Try.prog (E13_0g vf15_0 vf55_0 vf56_0 vf57_0) sh13 (cm13_0g vL13_0_0) rs13 k ds := by kernel_rfl
theorem fm13_0 : ∀ (α : Type) (k : List RV → Option α), Fn13_0 f13_0 α k = pa13_0.unc fun ds => fnM Try.prog E13_0 sh13 cm13_0 rs13 k ds := fm13_0g f15_0 f55_0 f56_0 f57_0 L13_0_0
theorem is13 : FnIs Try.prog 13 nt13 tr13 tl13 cm13_0.erase rs13 := ⟨Try.f13, Try.func13, rfl, by kernel_rfl, by kernel_rfl, by kernel_rfl⟩
theorem io13_0 : InstOk Try.prog 13 nt13 ⟨pa13_0, Fn13_0 f13_0⟩ := inst_ok eo13_0 followsTry is13 ⟨⟨sh13, cm13_0, by kernel_rfl, gm13_0, fm13_0⟩⟩
end Go.AM.K
