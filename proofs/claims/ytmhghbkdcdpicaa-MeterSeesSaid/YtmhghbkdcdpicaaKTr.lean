/- Printed by KGen. -/
import Derived.Test.YtmhghbkdcdpicaaKTs
namespace Go.AM.K
open Go.Proofs
set_option maxRecDepth 100000
set_option linter.unusedVariables false
abbrev nt8 : Nat := 18
def sh8 : List (Nat × List Sh) := [(5, [.int .i64]), (15, [.int .i64])]
def r8_2 : List AOper := [oO 1 (.box (.tmp 0)), oO 2 (.mv (kI 0))]
def r8_5 : List AOper := [oO 4 (.faddr 9 (.tmp 1)), oO 5 (.load false 1 (.tmp 4)), oO 6 (.call 24 [(.tmp 5), (kI 1), (kI 1000)]), oO 7 (.pure (oB (.unOp .not 4 (.tmp 6)) 4))]
def r8_8 : List AOper := [oO 2 (.mv (kI 2))]
def r8_11 : List AOper := [oO 3 (.mv (kI 0))]
def td8_13 : Option Tidy := (tO [1, 3])
def r8_16 : List AOper := [oM 8 3, oO 9 (.bin .lss 3 (.tmp 8) (kI 9))]
def r8_21 : List AOper := [oM 12 3, oO 13 (.faddr 0 (.tmp 1)), oO 14 (.iaddr 1 (some 9) (.tmp 13) (.tmp 12)), oO 15 (.load false 1 (.tmp 14)), oO 16 (.call 25 [(.tmp 15)]), oO 17 (.pure (oB (.unOp .not 4 (.tmp 16)) 4))]
def r8_24 : List AOper := [oO 2 (.mv (kI 2))]
def r8_25 : List AOper := [oM 10 3, oO 11 (.bin .add 3 (.tmp 10) (kI 1)), oM 3 11]
def r8_27 : List AOper := [oO 2 (.mv (kI 0))]
def tr8 : List (Nat × Tidy) := [tT 0 [1], tT 1 [1, 7], tT 2 [2], tT 3 [1, 3], tT 4 [1, 3, 9], tT 6 [1, 3, 17], tT 7 [2], tT 5 [1, 3], tT 8 [2]]
def tl8 : List (Nat × Tidy) := [tT 4 [1, 3]]
def rs8 : List AResV := [.tmp 2]
def p8_0_0 : PT St := pS [sl 1 (aV false [(cPtr 1 0)]), sl 3 (aV false [(cD (dI .i64))]), sl 9 (aV false [(cD dB)])] [eBox 1 [(cD (dI .i64)), (cD (dI .i64)), (cD (dI .i64)), (cD (dI .i64)), (cD (dI .i64)), (cD (dI .i64)), (cD (dI .i64)), (cD (dI .i64)), (cD (dI .i64)), (cD (dI .i64))]]
def u8_0_0 {β : Type} (g : St → β) : Int → Bool → Int → Int → Int → Int → Int → Int → Int → Int → Int → Int → β := p8_0_0.unc g
def p8_0_1 : PT St := pS [sl 1 (aV false [(cPtr 1 0)]), sl 3 (aV false [(cD (dI .i64))]), sl 17 (aV false [(cD dB)])] [eBox 1 [(cD (dI .i64)), (cD (dI .i64)), (cD (dI .i64)), (cD (dI .i64)), (cD (dI .i64)), (cD (dI .i64)), (cD (dI .i64)), (cD (dI .i64)), (cD (dI .i64)), (cD (dI .i64))]]
def u8_0_1 {β : Type} (g : St → β) : Int → Bool → Int → Int → Int → Int → Int → Int → Int → Int → Int → Int → β := p8_0_1.unc g
def p8_0_2 : PT St := pS [sl 1 (aV false [(cPtr 1 0)]), sl 3 (aV false [(cD (dI .i64))])] [eBox 1 [(cD (dI .i64)), (cD (dI .i64)), (cD (dI .i64)), (cD (dI .i64)), (cD (dI .i64)), (cD (dI .i64)), (cD (dI .i64)), (cD (dI .i64)), (cD (dI .i64)), (cD (dI .i64))]]
def u8_0_2 {β : Type} (g : St → β) : Int → Int → Int → Int → Int → Int → Int → Int → Int → Int → Int → β := p8_0_2.unc g
def p8_0_3 : PT St := pS [sl 2 (aV false [(cD (dI .i64))])] []
def u8_0_3 {β : Type} (g : St → β) : Int → β := p8_0_3.unc g
def pr8_0_0 : PT (List RV) := pRs [pR false [rD (dI .i64)]]
def ur8_0_0 {β : Type} (g : List RV → β) : Int → β := pr8_0_0.unc g
def E8_0g (vf24_0 : Tf24_0) (vf25_0 : Tf25_0) : EnvK := EnvK.of [⟨24, nt24, [⟨pa24_0, Fn24_0 vf24_0⟩]⟩, ⟨25, nt25, [⟨pa25_0, Fn25_0 vf25_0⟩]⟩] noSeq
noncomputable def E8_0 : EnvK := E8_0g f24_0 f25_0
theorem eo8_0 : E8_0.Ok Try.prog := EnvK.of_ok noSeq_ok ⟨⟨io24_0, trivial⟩, ⟨io25_0, trivial⟩, trivial⟩
noncomputable def c8_0_20g  : MCode := (.region r8_21 [] (tO [1, 3, 17]))
noncomputable def c8_0_20 : MCode := c8_0_20g 
theorem g8_0_20 : c8_0_20.Good Try.prog E8_0 sh8 := trivial
--CODE 20 0
abbrev TJ8_0_0 : Type 1 := (α : Type) → Int → Int → Int → Int → Int → Int → Int → Int → Int → Int → (Bool → Option α) → Option α
def J8_0_0g (vf25_0 : Tf25_0) (α : Type) (x24 x26 x27 x28 x29 x30 x31 x32 x33 x34 : Int) (k1 : Bool → Option α) : Option α :=
 cK (x24 == 8)
 (vf25_0 α x34
 (fun x37 => k1 (!x37)))
 (cK (x24 == 7)
 (vf25_0 α x33
 (fun x38 => k1 (!x38)))
 (cK (x24 == 6)
 (vf25_0 α x32
 (fun x39 => k1 (!x39)))
 (cK (x24 == 5)
 (vf25_0 α x31
 (fun x40 => k1 (!x40)))
 (cK (x24 == 4)
 (vf25_0 α x30
 (fun x41 => k1 (!x41)))
 (cK (x24 == 3)
 (vf25_0 α x29
 (fun x42 => k1 (!x42)))
 (cK (x24 == 2)
 (vf25_0 α x28
 (fun x43 => k1 (!x43)))
 (cK (x24 == 1)
 (vf25_0 α x27
 (fun x44 => k1 (!x44)))
 (cK (x24 == 0)
 (vf25_0 α x26
 (fun x45 => k1 (!x45)))
 (none)))))))))
noncomputable def J8_0_0 (α : Type) (x24 x26 x27 x28 x29 x30 x31 x32 x33 x34 : Int) (k1 : Bool → Option α) : Option α := J8_0_0g f25_0 α x24 x26 x27 x28 x29 x30 x31 x32 x33 x34 k1
def F8_0_0 (v : TJ8_0_0) (α : Type) (K : Exit → St → Option α) : Int → Bool → Int → Int → Int → Int → Int → Int → Int → Int → Int → Int → Option α := fun x24 x25 x26 x27 x28 x29 x30 x31 x32 x33 x34 x35 => v α x24 x26 x27 x28 x29 x30 x31 x32 x33 x34 (fun (y1 : Bool) => u8_0_1 (K .normal) x24 y1 x26 x27 x28 x29 x30 x31 x32 x33 x34 x35) 
theorem m8_0_0g (vf24_0 : Tf24_0) (vf25_0 : Tf25_0)  (α : Type) (K : Exit → St → Option α) : F8_0_0 (J8_0_0g vf25_0) α K = p8_0_0.unc fun σ => runM Try.prog (E8_0g vf24_0 vf25_0) sh8 (c8_0_20g ) K σ := by kernel_rfl
theorem m8_0_0 : ∀ (α : Type) (K : Exit → St → Option α), F8_0_0 J8_0_0 α K = p8_0_0.unc fun σ => runM Try.prog E8_0 sh8 c8_0_20 K σ := m8_0_0g f24_0 f25_0
noncomputable def c8_0_13g (vJ8_0_0 : TJ8_0_0) : MCode := (.seq (.seq (.region r8_16 [] (tO [1, 3, 9])) (.cond (.tmp 9) .skip (.exit 0))) (.seq (.block 1 (.seq (.mark [⟨p8_0_0, F8_0_0 vJ8_0_0⟩] c8_0_20) (.cond (.tmp 17) (.seq (.region r8_24 [] (tO [2])) .ret) .skip))) (.region r8_25 [] (tO [1, 3]))))
noncomputable def c8_0_13 : MCode := c8_0_13g J8_0_0
theorem g8_0_13 : c8_0_13.Good Try.prog E8_0 sh8 := ⟨⟨trivial, ⟨trivial, trivial⟩⟩, ⟨⟨⟨g8_0_20, m8_0_0, trivial⟩, ⟨⟨trivial, trivial⟩, trivial⟩⟩, trivial⟩⟩
--CODE 13 0
def S8_0_1g (vJ8_0_0 : TJ8_0_0) (α : Type) (x13 x14 x15 x16 x17 x18 x19 x20 x21 x12 : Int) (kn : Int → Option α) (k1 : Option α) (k2 : Int → Bool → Option α) : Option α :=
 cK (decide (x12 < 9))
 (vJ8_0_0 α x12 x13 x14 x15 x16 x17 x18 x19 x20 x21
 (fun x46 => cK x46
 (k1)
 (kn (w64 (x12 + 1)))))
 (k2 x12 (decide (x12 < 9)))
noncomputable def S8_0_1 (α : Type) (x13 x14 x15 x16 x17 x18 x19 x20 x21 x12 : Int) (kn : Int → Option α) (k1 : Option α) (k2 : Int → Bool → Option α) : Option α := S8_0_1g J8_0_0 α x13 x14 x15 x16 x17 x18 x19 x20 x21 x12 kn k1 k2
noncomputable def R8_0_1 (α : Type) (x13 x14 x15 x16 x17 x18 x19 x20 x21 : Int) (k1 : Option α) (k2 : Int → Bool → Option α) : Nat → Int → Option α
 | 0, _ => none
 | n + 1, x12 => S8_0_1 α x13 x14 x15 x16 x17 x18 x19 x20 x21 x12 (R8_0_1 α x13 x14 x15 x16 x17 x18 x19 x20 x21 k1 k2 n) k1 k2
noncomputable def L8_0_1 (α : Type) (x13 x14 x15 x16 x17 x18 x19 x20 x21 : Int) (k1 : Option α) (k2 : Int → Bool → Option α) (x12 : Int) : Option α := R8_0_1 α x13 x14 x15 x16 x17 x18 x19 x20 x21 k1 k2 fuel x12
abbrev TL8_0_1 : Type 1 := (α : Type) → Int → Int → Int → Int → Int → Int → Int → Int → Int → (Option α) → (Int → Bool → Option α) → Int → Option α
def F8_0_1 (v : TL8_0_1) (α : Type) (K : Exit → St → Option α) : Int → Int → Int → Int → Int → Int → Int → Int → Int → Int → Int → Option α := fun x12 x13 x14 x15 x16 x17 x18 x19 x20 x21 x22 => v α x13 x14 x15 x16 x17 x18 x19 x20 x21 (u8_0_3 (K .ret) 2) (fun (y1 : Int) (y2 : Bool) => u8_0_0 (K (.exit 0)) y1 y2 x13 x14 x15 x16 x17 x18 x19 x20 x21 x22) x12
theorem r8_0_1g (vf24_0 : Tf24_0) (vf25_0 : Tf25_0) (vJ8_0_0 : TJ8_0_0) (α : Type) (K : Exit → St → Option α) (Kn : St → Option α) (x12 x13 x14 x15 x16 x17 x18 x19 x20 x21 x22 : Int) : u8_0_2 (fun σ => runM Try.prog (E8_0g vf24_0 vf25_0) sh8 (c8_0_13g vJ8_0_0) (thenK (fun σ => tidyK td8_13 σ Kn) K) σ) x12 x13 x14 x15 x16 x17 x18 x19 x20 x21 x22 = S8_0_1g vJ8_0_0 α x13 x14 x15 x16 x17 x18 x19 x20 x21 x12 (fun x12 => u8_0_2 Kn x12 x13 x14 x15 x16 x17 x18 x19 x20 x21 x22) (u8_0_3 (K .ret) 2) (fun (y1 : Int) (y2 : Bool) => u8_0_0 (K (.exit 0)) y1 y2 x13 x14 x15 x16 x17 x18 x19 x20 x21 x22) := by kernel_rfl
theorem r8_0_1 (α : Type) (K : Exit → St → Option α) (Kn : St → Option α) (x12 x13 x14 x15 x16 x17 x18 x19 x20 x21 x22 : Int) : u8_0_2 (fun σ => runM Try.prog E8_0 sh8 c8_0_13 (thenK (fun σ => tidyK td8_13 σ Kn) K) σ) x12 x13 x14 x15 x16 x17 x18 x19 x20 x21 x22 = S8_0_1 α x13 x14 x15 x16 x17 x18 x19 x20 x21 x12 (fun x12 => u8_0_2 Kn x12 x13 x14 x15 x16 x17 x18 x19 x20 x21 x22) (u8_0_3 (K .ret) 2) (fun (y1 : Int) (y2 : Bool) => u8_0_0 (K (.exit 0)) y1 y2 x13 x14 x15 x16 x17 x18 x19 x20 x21 x22) := r8_0_1g f24_0 f25_0 J8_0_0 α K Kn x12 x13 x14 x15 x16 x17 x18 x19 x20 x21 x22
theorem t8_0_1 (α : Type) (K : Exit → St → Option α) : ∀ (n : Nat) (x12 x13 x14 x15 x16 x17 x18 x19 x20 x21 x22 : Int), R8_0_1 α x13 x14 x15 x16 x17 x18 x19 x20 x21 (u8_0_3 (K .ret) 2) (fun (y1 : Int) (y2 : Bool) => u8_0_0 (K (.exit 0)) y1 y2 x13 x14 x15 x16 x17 x18 x19 x20 x21 x22) n x12 = u8_0_2 (loopT (runM Try.prog E8_0 sh8 c8_0_13) td8_13 K n) x12 x13 x14 x15 x16 x17 x18 x19 x20 x21 x22 := by
 intro n
 induction n with
 | zero => intros; rfl
 | succ n ih => intro x12 x13 x14 x15 x16 x17 x18 x19 x20 x21 x22; exact (congrArg (fun kn => S8_0_1 α x13 x14 x15 x16 x17 x18 x19 x20 x21 x12 kn (u8_0_3 (K .ret) 2) (fun (y1 : Int) (y2 : Bool) => u8_0_0 (K (.exit 0)) y1 y2 x13 x14 x15 x16 x17 x18 x19 x20 x21 x22)) (funext fun x12 => ih x12 x13 x14 x15 x16 x17 x18 x19 x20 x21 x22)).trans (r8_0_1 α K (loopT (runM Try.prog E8_0 sh8 c8_0_13) td8_13 K n) x12 x13 x14 x15 x16 x17 x18 x19 x20 x21 x22).symm
theorem m8_0_1 : ∀ (α : Type) (K : Exit → St → Option α), F8_0_1 L8_0_1 α K = p8_0_2.unc fun σ => loopT (runM Try.prog E8_0 sh8 c8_0_13) td8_13 K fuel σ := fun α K => funext fun x12 => funext fun x13 => funext fun x14 => funext fun x15 => funext fun x16 => funext fun x17 => funext fun x18 => funext fun x19 => funext fun x20 => funext fun x21 => funext fun x22 => t8_0_1 α K fuel x12 x13 x14 x15 x16 x17 x18 x19 x20 x21 x22
abbrev Tf8_0 : Type 1 := (α : Type) → Int → Int → Int → Int → Int → Int → Int → Int → Int → Int → (Int → Option α) → Option α
def f8_0g (vL8_0_1 : TL8_0_1) (vf24_0 : Tf24_0) (α : Type) (x1 x2 x3 x4 x5 x6 x7 x8 x9 x10 : Int) (k1 : Int → Option α) : Option α :=
 vf24_0 α x10 1 1000
 (fun x11 => cK (!x11)
 (k1 2)
 (vL8_0_1 α x1 x2 x3 x4 x5 x6 x7 x8 x9
 (k1 2)
 (fun x48 x49 => k1 0) 0))
noncomputable def f8_0 (α : Type) (x1 x2 x3 x4 x5 x6 x7 x8 x9 x10 : Int) (k1 : Int → Option α) : Option α := f8_0g L8_0_1 f24_0 α x1 x2 x3 x4 x5 x6 x7 x8 x9 x10 k1
def pa8_0 : PT (List DV) := pA [pV true [(dI .i64), (dI .i64), (dI .i64), (dI .i64), (dI .i64), (dI .i64), (dI .i64), (dI .i64), (dI .i64), (dI .i64)]]
def Fn8_0 (v : Tf8_0) (α : Type) (k : List RV → Option α) : Int → Int → Int → Int → Int → Int → Int → Int → Int → Int → Option α := fun x1 x2 x3 x4 x5 x6 x7 x8 x9 x10 => v α x1 x2 x3 x4 x5 x6 x7 x8 x9 x10 (fun (y1 : Int) => ur8_0_0 k y1)
noncomputable def cm8_0g (vL8_0_1 : TL8_0_1) : MCode := (.seq (.region r8_2 [] (tO [1])) (.seq (.seq (.region r8_5 [] (tO [1, 7])) (.cond (.tmp 7) (.seq (.region r8_8 [] (tO [2])) .ret) .skip)) (.seq (.seq (.region r8_11 [] (tO [1, 3])) (.block 0 (.loop td8_13 [⟨p8_0_2, F8_0_1 vL8_0_1⟩] c8_0_13))) (.seq (.region r8_27 [] (tO [2])) .ret))))
noncomputable def cm8_0 : MCode := cm8_0g L8_0_1
theorem gm8_0 : cm8_0.Good Try.prog E8_0 sh8 := ⟨trivial, ⟨⟨trivial, ⟨⟨trivial, trivial⟩, trivial⟩⟩, ⟨⟨trivial, ⟨g8_0_13, m8_0_1, trivial⟩⟩, ⟨trivial, trivial⟩⟩⟩⟩
theorem fm8_0g (vf24_0 : Tf24_0) (vf25_0 : Tf25_0) (vL8_0_1 : TL8_0_1) (α : Type) (k : List RV → Option α) : Fn8_0 (f8_0g vL8_0_1 vf24_0) α k = pa8_0.unc fun ds => fnM Try.prog (E8_0g vf24_0 vf25_0) sh8 (cm8_0g vL8_0_1) rs8 k ds := by kernel_rfl
theorem fm8_0 : ∀ (α : Type) (k : List RV → Option α), Fn8_0 f8_0 α k = pa8_0.unc fun ds => fnM Try.prog E8_0 sh8 cm8_0 rs8 k ds := fm8_0g f24_0 f25_0 L8_0_1
theorem is8 : FnIs Try.prog 8 nt8 tr8 tl8 cm8_0.erase rs8 := ⟨Try.f8, Try.func8, rfl, by kernel_rfl, by kernel_rfl, by kernel_rfl⟩
theorem io8_0 : InstOk Try.prog 8 nt8 ⟨pa8_0, Fn8_0 f8_0⟩ := inst_ok eo8_0 followsTry is8 ⟨⟨sh8, cm8_0, by kernel_rfl, gm8_0, fm8_0⟩⟩
abbrev nt73 : Nat := 24
def sh73 : List (Nat × List Sh) := [(7, [.int .i64]), (13, [.int .i64]), (20, [.int .i64]), (22, [.int .i64])]
def r73_2 : List AOper := [oO 2 (.box (.tmp 0)), oO 4 (.mv (kI 0))]
def r73_6 : List AOper := [oO 6 (.faddr 0 (.tmp 2)), oO 7 (.load false 1 (.tmp 6)), oM 8 1, oO 9 (.call 58 [(.tmp 7), (.tmp 8)]), oO 10 (.pure (oB (.unOp .not 4 (.tmp 9)) 4)), oM 11 10, oG 12 (.faddr 1 (.tmp 2)) 11 false, oG 13 (.load false 1 (.tmp 12)) 11 false, oG 14 (.mv (.tmp 1)) 11 false, oG 15 (.call 58 [(.tmp 13), (.tmp 14)]) 11 false, oG 16 (.pure (oB (.unOp .not 4 (.tmp 15)) 4)) 11 false, oO 17 (.pick (.tmp 11) (.const (.bool true)) (.tmp 16)), oM 5 17]
def r73_9 : List AOper := [oO 4 (.mv (kI 2))]
def r73_11 : List AOper := [oO 19 (.faddr 0 (.tmp 2)), oO 20 (.load false 1 (.tmp 19)), oO 21 (.faddr 1 (.tmp 2)), oO 22 (.load false 1 (.tmp 21)), oO 23 (.bin .gtr 3 (.tmp 20) (.tmp 22)), oM 18 23]
def r73_14 : List AOper := [oO 4 (.mv (kI 10))]
def r73_16 : List AOper := [oO 4 (.mv (kI 0))]
def tr73 : List (Nat × Tidy) := [tT 0 [1, 2], tT 1 [2, 5], tT 2 [4], tT 3 [18], tT 4 [4], tT 5 [4]]
def tl73 : List (Nat × Tidy) := []
def rs73 : List AResV := [.tmp 4]
def p73_0_0 : PT St := pS [sl 1 (aV false [(cD (dI .i64))]), sl 2 (aV false [(cPtr 2 0)])] [eBox 2 [(cD (dI .i64)), (cD (dI .i64))]]
def u73_0_0 {β : Type} (g : St → β) : Int → Int → Int → β := p73_0_0.unc g
def p73_0_1 : PT St := pS [sl 2 (aV false [(cPtr 2 0)]), sl 5 (aV false [(cD dB)])] [eBox 2 [(cD (dI .i64)), (cD (dI .i64))]]
def u73_0_1 {β : Type} (g : St → β) : Bool → Int → Int → β := p73_0_1.unc g
def pr73_0_0 : PT (List RV) := pRs [pR false [rD (dI .i64)]]
def ur73_0_0 {β : Type} (g : List RV → β) : Int → β := pr73_0_0.unc g
def E73_0g (vf58_0 : Tf58_0) : EnvK := EnvK.of [⟨58, nt58, [⟨pa58_0, Fn58_0 vf58_0⟩]⟩] noSeq
noncomputable def E73_0 : EnvK := E73_0g f58_0
theorem eo73_0 : E73_0.Ok Try.prog := EnvK.of_ok noSeq_ok ⟨⟨io58_0, trivial⟩, trivial⟩
noncomputable def c73_0_5g  : MCode := (.region r73_6 [] (tO [2, 5]))
noncomputable def c73_0_5 : MCode := c73_0_5g 
theorem g73_0_5 : c73_0_5.Good Try.prog E73_0 sh73 := trivial
--CODE 5 0
abbrev TJ73_0_0 : Type 1 := (α : Type) → Int → Int → Int → (Bool → Option α) → Option α
def J73_0_0g (vf58_0 : Tf58_0) (α : Type) (x4 x5 x6 : Int) (k1 : Bool → Option α) : Option α :=
 vf58_0 α x5 x4
 (fun x8 => cK (!x8)
 (k1 true)
 (vf58_0 α x6 x4
 (fun x9 => k1 (!x9))))
noncomputable def J73_0_0 (α : Type) (x4 x5 x6 : Int) (k1 : Bool → Option α) : Option α := J73_0_0g f58_0 α x4 x5 x6 k1
def F73_0_0 (v : TJ73_0_0) (α : Type) (K : Exit → St → Option α) : Int → Int → Int → Option α := fun x4 x5 x6 => v α x4 x5 x6 (fun (y1 : Bool) => u73_0_1 (K .normal) y1 x5 x6) 
theorem m73_0_0g (vf58_0 : Tf58_0)  (α : Type) (K : Exit → St → Option α) : F73_0_0 (J73_0_0g vf58_0) α K = p73_0_0.unc fun σ => runM Try.prog (E73_0g vf58_0) sh73 (c73_0_5g ) K σ := by kernel_rfl
theorem m73_0_0 : ∀ (α : Type) (K : Exit → St → Option α), F73_0_0 J73_0_0 α K = p73_0_0.unc fun σ => runM Try.prog E73_0 sh73 c73_0_5 K σ := m73_0_0g f58_0
abbrev Tf73_0 : Type 1 := (α : Type) → Int → Int → Int → (Int → Option α) → Option α
def f73_0g (vJ73_0_0 : TJ73_0_0) (α : Type) (x1 x2 x3 : Int) (k1 : Int → Option α) : Option α :=
 vJ73_0_0 α x3 x1 x2
 (fun x10 => cK x10
 (k1 2)
 (cK (decide (x2 < x1))
 (k1 10)
 (k1 0)))
noncomputable def f73_0 (α : Type) (x1 x2 x3 : Int) (k1 : Int → Option α) : Option α := f73_0g J73_0_0 α x1 x2 x3 k1
def pa73_0 : PT (List DV) := pA [pV true [(dI .i64), (dI .i64)], pV false [(dI .i64)]]
def Fn73_0 (v : Tf73_0) (α : Type) (k : List RV → Option α) : Int → Int → Int → Option α := fun x1 x2 x3 => v α x1 x2 x3 (fun (y1 : Int) => ur73_0_0 k y1)
noncomputable def cm73_0g (vJ73_0_0 : TJ73_0_0) : MCode := (.seq (.region r73_2 [] (tO [1, 2])) (.seq (.block 0 (.seq (.mark [⟨p73_0_0, F73_0_0 vJ73_0_0⟩] c73_0_5) (.cond (.tmp 5) (.seq (.region r73_9 [] (tO [4])) .ret) (.seq (.region r73_11 [] (tO [18])) (.cond (.tmp 18) (.seq (.region r73_14 [] (tO [4])) .ret) .skip))))) (.seq (.region r73_16 [] (tO [4])) .ret)))
noncomputable def cm73_0 : MCode := cm73_0g J73_0_0
theorem gm73_0 : cm73_0.Good Try.prog E73_0 sh73 := ⟨trivial, ⟨⟨⟨g73_0_5, m73_0_0, trivial⟩, ⟨⟨trivial, trivial⟩, ⟨trivial, ⟨⟨trivial, trivial⟩, trivial⟩⟩⟩⟩, ⟨trivial, trivial⟩⟩⟩
theorem fm73_0g (vf58_0 : Tf58_0) (vJ73_0_0 : TJ73_0_0) (α : Type) (k : List RV → Option α) : Fn73_0 (f73_0g vJ73_0_0) α k = pa73_0.unc fun ds => fnM Try.prog (E73_0g vf58_0) sh73 (cm73_0g vJ73_0_0) rs73 k ds := by kernel_rfl
theorem fm73_0 : ∀ (α : Type) (k : List RV → Option α), Fn73_0 f73_0 α k = pa73_0.unc fun ds => fnM Try.prog E73_0 sh73 cm73_0 rs73 k ds := fm73_0g f58_0 J73_0_0
theorem is73 : FnIs Try.prog 73 nt73 tr73 tl73 cm73_0.erase rs73 := ⟨Try.f73, Try.func73, rfl, by kernel_rfl, by kernel_rfl, by kernel_rfl⟩
theorem io73_0 : InstOk Try.prog 73 nt73 ⟨pa73_0, Fn73_0 f73_0⟩ := inst_ok eo73_0 followsTry is73 ⟨⟨sh73, cm73_0, by kernel_rfl, gm73_0, fm73_0⟩⟩
abbrev nt11 : Nat := 78
def sh11 : List (Nat × List Sh) := [(12, [.int .i64]), (14, [.int .i64, .int .i64, .int .i64, .int .i64, .int .i64, .int .i64, .int .i64, .int .i64, .int .i64]), (19, [.int .i64]), (21, [.int .i64, .int .i64, .int .i64, .int .i64, .int .i64, .int .i64, .int .i64, .int .i64, .int .i64]), (27, [.int .i64]), (29, [.int .i64, .int .i64, .int .i64, .int .i64, .int .i64, .int .i64, .int .i64, .int .i64, .int .i64]), (49, [.int .i64, .int .i64, .int .i64, .int .i64, .int .i64, .int .i64, .int .i64, .int .i64, .int .i64]), (54, [.int .i64]), (68, [.int .i64]), (71, [.int .i64, .int .i64, .int .i64, .int .i64, .int .i64, .int .i64, .int .i64, .int .i64, .int .i64]), (74, [.int .i64, .int .i64, .int .i64, .int .i64, .int .i64, .int .i64])]
def r11_2 : List AOper := [oO 2 (.box (.tmp 0)), oO 3 (.box (.tmp 1)), oO 4 (.alloc [(cI 0), (cI 0), (cI 0), (cI 0), (cI 0), (cI 0)]), oO 5 (.mv (kI 0))]
def r11_4 : List AOper := [oO 10 (.faddr 0 (.tmp 2)), oO 11 (.iaddr 1 (some 9) (.tmp 10) (kI 0)), oO 12 (.load false 1 (.tmp 11)), oO 13 (.faddr 0 (.tmp 2)), oO 14 (.load true 9 (.tmp 13)), oO 15 (.call 29 [(.tmp 14), (kI 0), (kI 0)]), oO 16 (.bin .mul 3 (.tmp 12) (.tmp 15)), oO 17 (.faddr 0 (.tmp 2)), oO 18 (.iaddr 1 (some 9) (.tmp 17) (kI 1)), oO 19 (.load false 1 (.tmp 18)), oO 20 (.faddr 0 (.tmp 2)), oO 21 (.load true 9 (.tmp 20)), oO 22 (.call 29 [(.tmp 21), (kI 0), (kI 1)]), oO 23 (.bin .mul 3 (.tmp 19) (.tmp 22)), oO 24 (.bin .add 3 (.tmp 16) (.tmp 23)), oO 25 (.faddr 0 (.tmp 2)), oO 26 (.iaddr 1 (some 9) (.tmp 25) (kI 2)), oO 27 (.load false 1 (.tmp 26)), oO 28 (.faddr 0 (.tmp 2)), oO 29 (.load true 9 (.tmp 28)), oO 30 (.call 29 [(.tmp 29), (kI 0), (kI 2)]), oO 31 (.bin .mul 3 (.tmp 27) (.tmp 30)), oO 32 (.bin .add 3 (.tmp 24) (.tmp 31)), oM 6 32]
def r11_7 : List AOper := [oM 33 6, oO 34 (.bin .eql 3 (.tmp 33) (kI 0))]
def r11_10 : List AOper := [oO 35 (.build [(cI 0), (cI 0), (cI 0), (cI 0), (cI 0), (cI 0)] []), oD (.store 6 (.tmp 4) (.tmp 35)), oO 5 (.mv (kI 28))]
def r11_12 : List AOper := [oO 7 (.alloc [(cI 0), (cI 0), (cI 0), (cI 0), (cI 0), (cI 0), (cI 0), (cI 0), (cI 0)])]
def r11_15 : List AOper := [oO 8 (.mv (kI 0))]
def td11_17 : Option Tidy := (tO [2, 3, 4, 6, 7, 8])
def r11_20 : List AOper := [oM 36 8, oO 37 (.bin .lss 3 (.tmp 36) (kI 3))]
def r11_25 : List AOper := [oO 9 (.mv (kI 0))]
def td11_27 : Option Tidy := (tO [2, 3, 4, 6, 7, 8, 9])
def r11_30 : List AOper := [oM 40 9, oO 41 (.bin .lss 3 (.tmp 40) (kI 3))]
def r11_35 : List AOper := [oM 44 8, oO 45 (.bin .mul 3 (kI 3) (.tmp 44)), oM 46 9, oO 47 (.bin .add 3 (.tmp 45) (.tmp 46)), oO 48 (.faddr 0 (.tmp 2)), oO 49 (.load true 9 (.tmp 48)), oM 50 9, oM 51 8, oO 52 (.call 29 [(.tmp 49), (.tmp 50), (.tmp 51)]), oO 53 (.faddr 9 (.tmp 2)), oO 54 (.load false 1 (.tmp 53)), oO 55 (.bin .mul 3 (.tmp 52) (.tmp 54)), oO 56 (.iaddr 1 (some 9) (.tmp 7) (.tmp 47)), oD (.store 1 (.tmp 56) (.tmp 55))]
def r11_37 : List AOper := [oM 57 6, oO 58 (.bin .lss 3 (.tmp 57) (kI 0))]
def r11_39 : List AOper := [oM 59 8, oO 60 (.bin .mul 3 (kI 3) (.tmp 59)), oM 61 9, oO 62 (.bin .add 3 (.tmp 60) (.tmp 61)), oM 63 8, oO 64 (.bin .mul 3 (kI 3) (.tmp 63)), oM 65 9, oO 66 (.bin .add 3 (.tmp 64) (.tmp 65)), oO 67 (.iaddr 1 (some 9) (.tmp 7) (.tmp 66)), oO 68 (.load false 1 (.tmp 67)), oO 69 (.pure (oB (.unOp .neg 3 (.tmp 68)) 3)), oO 70 (.iaddr 1 (some 9) (.tmp 7) (.tmp 62)), oD (.store 1 (.tmp 70) (.tmp 69))]
def r11_40 : List AOper := [oM 42 9, oO 43 (.bin .add 3 (.tmp 42) (kI 1)), oM 9 43]
def r11_41 : List AOper := [oM 38 8, oO 39 (.bin .add 3 (.tmp 38) (kI 1)), oM 8 39]
def r11_43 : List AOper := [oO 71 (.load true 9 (.tmp 7)), oM 72 6, oO 73 (.call 30 [(.tmp 72)]), oO 74 (.load true 6 (.tmp 3)), oO 75 (.call 28 [(.tmp 71), (.tmp 73), (.tmp 74)]), oO 76 (.extract 0 (.tmp 75)), oO 77 (.extract 1 (.tmp 75)), oD (.store 6 (.tmp 4) (.tmp 76)), oM 5 77]
def tr11 : List (Nat × Tidy) := [tT 0 [2, 3, 4], tT 1 [2, 3, 4, 6], tT 2 [2, 3, 4, 6, 34], tT 3 [4, 5], tT 4 [2, 3, 4, 6, 7], tT 5 [2, 3, 4, 6, 7, 8], tT 6 [2, 3, 4, 6, 7, 8, 37], tT 8 [2, 3, 4, 6, 7, 8, 9], tT 9 [2, 3, 4, 6, 7, 8, 9, 41], tT 11 [2, 3, 4, 6, 7, 8, 9], tT 12 [2, 3, 4, 6, 7, 8, 9, 58], tT 13 [2, 3, 4, 6, 7, 8, 9], tT 10 [2, 3, 4, 6, 7, 8, 9], tT 7 [2, 3, 4, 6, 7, 8], tT 14 [4, 5]]
def tl11 : List (Nat × Tidy) := [tT 6 [2, 3, 4, 6, 7, 8], tT 9 [2, 3, 4, 6, 7, 8, 9]]
def rs11 : List AResV := [.cell 4 true 6, .tmp 5]
def p11_0_0 : PT St := pS [sl 2 (aV false [(cPtr 2 0)]), sl 3 (aV false [(cPtr 3 0)]), sl 4 (aV false [(cPtr 4 0)]), sl 6 (aV false [(cD (dI .i64))]), sl 7 (aV false [(cPtr 7 0)]), sl 8 (aV false [(cD (dIc .i64 0))]), sl 9 (aV false [(cD (dIc .i64 0))])] [eBox 2 [(cD (dI .i64)), (cD (dI .i64)), (cD (dI .i64)), (cD (dI .i64)), (cD (dI .i64)), (cD (dI .i64)), (cD (dI .i64)), (cD (dI .i64)), (cD (dI .i64)), (cD (dI .i64))], eBox 3 [(cD (dI .i64)), (cD (dI .i64)), (cD (dI .i64)), (cD (dI .i64)), (cD (dI .i64)), (cD (dI .i64))], eBox 4 [(cD (dI .i64)), (cD (dI .i64)), (cD (dI .i64)), (cD (dI .i64)), (cD (dI .i64)), (cD (dI .i64))], eBox 7 [(cD (dI .i64)), (cD (dI .i64)), (cD (dI .i64)), (cD (dI .i64)), (cD (dI .i64)), (cD (dI .i64)), (cD (dI .i64)), (cD (dI .i64)), (cD (dI .i64))]]
def u11_0_0 {β : Type} (g : St → β) : Int → Int → Int → Int → Int → Int → Int → Int → Int → Int → Int → Int → Int → Int → Int → Int → Int → Int → Int → Int → Int → Int → Int → Int → Int → Int → Int → Int → Int → Int → Int → Int → β := p11_0_0.unc g
def p11_0_1 : PT St := pS [sl 2 (aV false [(cPtr 2 0)]), sl 3 (aV false [(cPtr 3 0)]), sl 4 (aV false [(cPtr 4 0)]), sl 6 (aV false [(cD (dI .i64))]), sl 7 (aV false [(cPtr 7 0)]), sl 8 (aV false [(cD (dIc .i64 0))]), sl 9 (aV false [(cD (dIc .i64 1))])] [eBox 2 [(cD (dI .i64)), (cD (dI .i64)), (cD (dI .i64)), (cD (dI .i64)), (cD (dI .i64)), (cD (dI .i64)), (cD (dI .i64)), (cD (dI .i64)), (cD (dI .i64)), (cD (dI .i64))], eBox 3 [(cD (dI .i64)), (cD (dI .i64)), (cD (dI .i64)), (cD (dI .i64)), (cD (dI .i64)), (cD (dI .i64))], eBox 4 [(cD (dI .i64)), (cD (dI .i64)), (cD (dI .i64)), (cD (dI .i64)), (cD (dI .i64)), (cD (dI .i64))], eBox 7 [(cD (dI .i64)), (cD (dI .i64)), (cD (dI .i64)), (cD (dI .i64)), (cD (dI .i64)), (cD (dI .i64)), (cD (dI .i64)), (cD (dI .i64)), (cD (dI .i64))]]
def u11_0_1 {β : Type} (g : St → β) : Int → Int → Int → Int → Int → Int → Int → Int → Int → Int → Int → Int → Int → Int → Int → Int → Int → Int → Int → Int → Int → Int → Int → Int → Int → Int → Int → Int → Int → Int → Int → Int → β := p11_0_1.unc g
def p11_0_2 : PT St := pS [sl 2 (aV false [(cPtr 2 0)]), sl 3 (aV false [(cPtr 3 0)]), sl 4 (aV false [(cPtr 4 0)]), sl 6 (aV false [(cD (dI .i64))]), sl 7 (aV false [(cPtr 7 0)]), sl 8 (aV false [(cD (dIc .i64 0))]), sl 9 (aV false [(cD (dIc .i64 2))])] [eBox 2 [(cD (dI .i64)), (cD (dI .i64)), (cD (dI .i64)), (cD (dI .i64)), (cD (dI .i64)), (cD (dI .i64)), (cD (dI .i64)), (cD (dI .i64)), (cD (dI .i64)), (cD (dI .i64))], eBox 3 [(cD (dI .i64)), (cD (dI .i64)), (cD (dI .i64)), (cD (dI .i64)), (cD (dI .i64)), (cD (dI .i64))], eBox 4 [(cD (dI .i64)), (cD (dI .i64)), (cD (dI .i64)), (cD (dI .i64)), (cD (dI .i64)), (cD (dI .i64))], eBox 7 [(cD (dI .i64)), (cD (dI .i64)), (cD (dI .i64)), (cD (dI .i64)), (cD (dI .i64)), (cD (dI .i64)), (cD (dI .i64)), (cD (dI .i64)), (cD (dI .i64))]]
def u11_0_2 {β : Type} (g : St → β) : Int → Int → Int → Int → Int → Int → Int → Int → Int → Int → Int → Int → Int → Int → Int → Int → Int → Int → Int → Int → Int → Int → Int → Int → Int → Int → Int → Int → Int → Int → Int → Int → β := p11_0_2.unc g
def p11_0_3 : PT St := pS [sl 2 (aV false [(cPtr 2 0)]), sl 3 (aV false [(cPtr 3 0)]), sl 4 (aV false [(cPtr 4 0)]), sl 6 (aV false [(cD (dI .i64))]), sl 7 (aV false [(cPtr 7 0)]), sl 8 (aV false [(cD (dIc .i64 0))]), sl 9 (aV false [(cD (dIc .i64 3))])] [eBox 2 [(cD (dI .i64)), (cD (dI .i64)), (cD (dI .i64)), (cD (dI .i64)), (cD (dI .i64)), (cD (dI .i64)), (cD (dI .i64)), (cD (dI .i64)), (cD (dI .i64)), (cD (dI .i64))], eBox 3 [(cD (dI .i64)), (cD (dI .i64)), (cD (dI .i64)), (cD (dI .i64)), (cD (dI .i64)), (cD (dI .i64))], eBox 4 [(cD (dI .i64)), (cD (dI .i64)), (cD (dI .i64)), (cD (dI .i64)), (cD (dI .i64)), (cD (dI .i64))], eBox 7 [(cD (dI .i64)), (cD (dI .i64)), (cD (dI .i64)), (cD (dI .i64)), (cD (dI .i64)), (cD (dI .i64)), (cD (dI .i64)), (cD (dI .i64)), (cD (dI .i64))]]
def u11_0_3 {β : Type} (g : St → β) : Int → Int → Int → Int → Int → Int → Int → Int → Int → Int → Int → Int → Int → Int → Int → Int → Int → Int → Int → Int → Int → Int → Int → Int → Int → Int → Int → Int → Int → Int → Int → Int → β := p11_0_3.unc g
def p11_0_4 : PT St := pS [sl 2 (aV false [(cPtr 2 0)]), sl 3 (aV false [(cPtr 3 0)]), sl 4 (aV false [(cPtr 4 0)]), sl 6 (aV false [(cD (dI .i64))]), sl 7 (aV false [(cPtr 7 0)]), sl 8 (aV false [(cD (dIc .i64 1))]), sl 9 (aV false [(cD (dIc .i64 0))])] [eBox 2 [(cD (dI .i64)), (cD (dI .i64)), (cD (dI .i64)), (cD (dI .i64)), (cD (dI .i64)), (cD (dI .i64)), (cD (dI .i64)), (cD (dI .i64)), (cD (dI .i64)), (cD (dI .i64))], eBox 3 [(cD (dI .i64)), (cD (dI .i64)), (cD (dI .i64)), (cD (dI .i64)), (cD (dI .i64)), (cD (dI .i64))], eBox 4 [(cD (dI .i64)), (cD (dI .i64)), (cD (dI .i64)), (cD (dI .i64)), (cD (dI .i64)), (cD (dI .i64))], eBox 7 [(cD (dI .i64)), (cD (dI .i64)), (cD (dI .i64)), (cD (dI .i64)), (cD (dI .i64)), (cD (dI .i64)), (cD (dI .i64)), (cD (dI .i64)), (cD (dI .i64))]]
def u11_0_4 {β : Type} (g : St → β) : Int → Int → Int → Int → Int → Int → Int → Int → Int → Int → Int → Int → Int → Int → Int → Int → Int → Int → Int → Int → Int → Int → Int → Int → Int → Int → Int → Int → Int → Int → Int → Int → β := p11_0_4.unc g
def p11_0_5 : PT St := pS [sl 2 (aV false [(cPtr 2 0)]), sl 3 (aV false [(cPtr 3 0)]), sl 4 (aV false [(cPtr 4 0)]), sl 6 (aV false [(cD (dI .i64))]), sl 7 (aV false [(cPtr 7 0)]), sl 8 (aV false [(cD (dIc .i64 1))]), sl 9 (aV false [(cD (dIc .i64 1))])] [eBox 2 [(cD (dI .i64)), (cD (dI .i64)), (cD (dI .i64)), (cD (dI .i64)), (cD (dI .i64)), (cD (dI .i64)), (cD (dI .i64)), (cD (dI .i64)), (cD (dI .i64)), (cD (dI .i64))], eBox 3 [(cD (dI .i64)), (cD (dI .i64)), (cD (dI .i64)), (cD (dI .i64)), (cD (dI .i64)), (cD (dI .i64))], eBox 4 [(cD (dI .i64)), (cD (dI .i64)), (cD (dI .i64)), (cD (dI .i64)), (cD (dI .i64)), (cD (dI .i64))], eBox 7 [(cD (dI .i64)), (cD (dI .i64)), (cD (dI .i64)), (cD (dI .i64)), (cD (dI .i64)), (cD (dI .i64)), (cD (dI .i64)), (cD (dI .i64)), (cD (dI .i64))]]
def u11_0_5 {β : Type} (g : St → β) : Int → Int → Int → Int → Int → Int → Int → Int → Int → Int → Int → Int → Int → Int → Int → Int → Int → Int → Int → Int → Int → Int → Int → Int → Int → Int → Int → Int → Int → Int → Int → Int → β := p11_0_5.unc g
def p11_0_6 : PT St := pS [sl 2 (aV false [(cPtr 2 0)]), sl 3 (aV false [(cPtr 3 0)]), sl 4 (aV false [(cPtr 4 0)]), sl 6 (aV false [(cD (dI .i64))]), sl 7 (aV false [(cPtr 7 0)]), sl 8 (aV false [(cD (dIc .i64 1))]), sl 9 (aV false [(cD (dIc .i64 2))])] [eBox 2 [(cD (dI .i64)), (cD (dI .i64)), (cD (dI .i64)), (cD (dI .i64)), (cD (dI .i64)), (cD (dI .i64)), (cD (dI .i64)), (cD (dI .i64)), (cD (dI .i64)), (cD (dI .i64))], eBox 3 [(cD (dI .i64)), (cD (dI .i64)), (cD (dI .i64)), (cD (dI .i64)), (cD (dI .i64)), (cD (dI .i64))], eBox 4 [(cD (dI .i64)), (cD (dI .i64)), (cD (dI .i64)), (cD (dI .i64)), (cD (dI .i64)), (cD (dI .i64))], eBox 7 [(cD (dI .i64)), (cD (dI .i64)), (cD (dI .i64)), (cD (dI .i64)), (cD (dI .i64)), (cD (dI .i64)), (cD (dI .i64)), (cD (dI .i64)), (cD (dI .i64))]]
def u11_0_6 {β : Type} (g : St → β) : Int → Int → Int → Int → Int → Int → Int → Int → Int → Int → Int → Int → Int → Int → Int → Int → Int → Int → Int → Int → Int → Int → Int → Int → Int → Int → Int → Int → Int → Int → Int → Int → β := p11_0_6.unc g
def p11_0_7 : PT St := pS [sl 2 (aV false [(cPtr 2 0)]), sl 3 (aV false [(cPtr 3 0)]), sl 4 (aV false [(cPtr 4 0)]), sl 6 (aV false [(cD (dI .i64))]), sl 7 (aV false [(cPtr 7 0)]), sl 8 (aV false [(cD (dIc .i64 1))]), sl 9 (aV false [(cD (dIc .i64 3))])] [eBox 2 [(cD (dI .i64)), (cD (dI .i64)), (cD (dI .i64)), (cD (dI .i64)), (cD (dI .i64)), (cD (dI .i64)), (cD (dI .i64)), (cD (dI .i64)), (cD (dI .i64)), (cD (dI .i64))], eBox 3 [(cD (dI .i64)), (cD (dI .i64)), (cD (dI .i64)), (cD (dI .i64)), (cD (dI .i64)), (cD (dI .i64))], eBox 4 [(cD (dI .i64)), (cD (dI .i64)), (cD (dI .i64)), (cD (dI .i64)), (cD (dI .i64)), (cD (dI .i64))], eBox 7 [(cD (dI .i64)), (cD (dI .i64)), (cD (dI .i64)), (cD (dI .i64)), (cD (dI .i64)), (cD (dI .i64)), (cD (dI .i64)), (cD (dI .i64)), (cD (dI .i64))]]
def u11_0_7 {β : Type} (g : St → β) : Int → Int → Int → Int → Int → Int → Int → Int → Int → Int → Int → Int → Int → Int → Int → Int → Int → Int → Int → Int → Int → Int → Int → Int → Int → Int → Int → Int → Int → Int → Int → Int → β := p11_0_7.unc g
def p11_0_8 : PT St := pS [sl 2 (aV false [(cPtr 2 0)]), sl 3 (aV false [(cPtr 3 0)]), sl 4 (aV false [(cPtr 4 0)]), sl 6 (aV false [(cD (dI .i64))]), sl 7 (aV false [(cPtr 7 0)]), sl 8 (aV false [(cD (dIc .i64 2))]), sl 9 (aV false [(cD (dIc .i64 0))])] [eBox 2 [(cD (dI .i64)), (cD (dI .i64)), (cD (dI .i64)), (cD (dI .i64)), (cD (dI .i64)), (cD (dI .i64)), (cD (dI .i64)), (cD (dI .i64)), (cD (dI .i64)), (cD (dI .i64))], eBox 3 [(cD (dI .i64)), (cD (dI .i64)), (cD (dI .i64)), (cD (dI .i64)), (cD (dI .i64)), (cD (dI .i64))], eBox 4 [(cD (dI .i64)), (cD (dI .i64)), (cD (dI .i64)), (cD (dI .i64)), (cD (dI .i64)), (cD (dI .i64))], eBox 7 [(cD (dI .i64)), (cD (dI .i64)), (cD (dI .i64)), (cD (dI .i64)), (cD (dI .i64)), (cD (dI .i64)), (cD (dI .i64)), (cD (dI .i64)), (cD (dI .i64))]]
def u11_0_8 {β : Type} (g : St → β) : Int → Int → Int → Int → Int → Int → Int → Int → Int → Int → Int → Int → Int → Int → Int → Int → Int → Int → Int → Int → Int → Int → Int → Int → Int → Int → Int → Int → Int → Int → Int → Int → β := p11_0_8.unc g
def p11_0_9 : PT St := pS [sl 2 (aV false [(cPtr 2 0)]), sl 3 (aV false [(cPtr 3 0)]), sl 4 (aV false [(cPtr 4 0)]), sl 6 (aV false [(cD (dI .i64))]), sl 7 (aV false [(cPtr 7 0)]), sl 8 (aV false [(cD (dIc .i64 2))]), sl 9 (aV false [(cD (dIc .i64 1))])] [eBox 2 [(cD (dI .i64)), (cD (dI .i64)), (cD (dI .i64)), (cD (dI .i64)), (cD (dI .i64)), (cD (dI .i64)), (cD (dI .i64)), (cD (dI .i64)), (cD (dI .i64)), (cD (dI .i64))], eBox 3 [(cD (dI .i64)), (cD (dI .i64)), (cD (dI .i64)), (cD (dI .i64)), (cD (dI .i64)), (cD (dI .i64))], eBox 4 [(cD (dI .i64)), (cD (dI .i64)), (cD (dI .i64)), (cD (dI .i64)), (cD (dI .i64)), (cD (dI .i64))], eBox 7 [(cD (dI .i64)), (cD (dI .i64)), (cD (dI .i64)), (cD (dI .i64)), (cD (dI .i64)), (cD (dI .i64)), (cD (dI .i64)), (cD (dI .i64)), (cD (dI .i64))]]
def u11_0_9 {β : Type} (g : St → β) : Int → Int → Int → Int → Int → Int → Int → Int → Int → Int → Int → Int → Int → Int → Int → Int → Int → Int → Int → Int → Int → Int → Int → Int → Int → Int → Int → Int → Int → Int → Int → Int → β := p11_0_9.unc g
def p11_0_10 : PT St := pS [sl 2 (aV false [(cPtr 2 0)]), sl 3 (aV false [(cPtr 3 0)]), sl 4 (aV false [(cPtr 4 0)]), sl 6 (aV false [(cD (dI .i64))]), sl 7 (aV false [(cPtr 7 0)]), sl 8 (aV false [(cD (dIc .i64 2))]), sl 9 (aV false [(cD (dIc .i64 2))])] [eBox 2 [(cD (dI .i64)), (cD (dI .i64)), (cD (dI .i64)), (cD (dI .i64)), (cD (dI .i64)), (cD (dI .i64)), (cD (dI .i64)), (cD (dI .i64)), (cD (dI .i64)), (cD (dI .i64))], eBox 3 [(cD (dI .i64)), (cD (dI .i64)), (cD (dI .i64)), (cD (dI .i64)), (cD (dI .i64)), (cD (dI .i64))], eBox 4 [(cD (dI .i64)), (cD (dI .i64)), (cD (dI .i64)), (cD (dI .i64)), (cD (dI .i64)), (cD (dI .i64))], eBox 7 [(cD (dI .i64)), (cD (dI .i64)), (cD (dI .i64)), (cD (dI .i64)), (cD (dI .i64)), (cD (dI .i64)), (cD (dI .i64)), (cD (dI .i64)), (cD (dI .i64))]]
def u11_0_10 {β : Type} (g : St → β) : Int → Int → Int → Int → Int → Int → Int → Int → Int → Int → Int → Int → Int → Int → Int → Int → Int → Int → Int → Int → Int → Int → Int → Int → Int → Int → Int → Int → Int → Int → Int → Int → β := p11_0_10.unc g
def p11_0_11 : PT St := pS [sl 2 (aV false [(cPtr 2 0)]), sl 3 (aV false [(cPtr 3 0)]), sl 4 (aV false [(cPtr 4 0)]), sl 6 (aV false [(cD (dI .i64))]), sl 7 (aV false [(cPtr 7 0)]), sl 8 (aV false [(cD (dIc .i64 2))]), sl 9 (aV false [(cD (dIc .i64 3))])] [eBox 2 [(cD (dI .i64)), (cD (dI .i64)), (cD (dI .i64)), (cD (dI .i64)), (cD (dI .i64)), (cD (dI .i64)), (cD (dI .i64)), (cD (dI .i64)), (cD (dI .i64)), (cD (dI .i64))], eBox 3 [(cD (dI .i64)), (cD (dI .i64)), (cD (dI .i64)), (cD (dI .i64)), (cD (dI .i64)), (cD (dI .i64))], eBox 4 [(cD (dI .i64)), (cD (dI .i64)), (cD (dI .i64)), (cD (dI .i64)), (cD (dI .i64)), (cD (dI .i64))], eBox 7 [(cD (dI .i64)), (cD (dI .i64)), (cD (dI .i64)), (cD (dI .i64)), (cD (dI .i64)), (cD (dI .i64)), (cD (dI .i64)), (cD (dI .i64)), (cD (dI .i64))]]
def u11_0_11 {β : Type} (g : St → β) : Int → Int → Int → Int → Int → Int → Int → Int → Int → Int → Int → Int → Int → Int → Int → Int → Int → Int → Int → Int → Int → Int → Int → Int → Int → Int → Int → Int → Int → Int → Int → Int → β := p11_0_11.unc g
def pr11_0_0 : PT (List RV) := pRs [pR true [rD (dI .i64), rD (dI .i64), rD (dI .i64), rD (dI .i64), rD (dI .i64), rD (dI .i64)], pR false [rD (dI .i64)]]
def ur11_0_0 {β : Type} (g : List RV → β) : Int → Int → Int → Int → Int → Int → Int → β := pr11_0_0.unc g
def E11_0g (vf29_0 : Tf29_0) (vf29_1 : Tf29_1) (vf29_2 : Tf29_2) (vf29_3 : Tf29_3) (vf29_4 : Tf29_4) (vf29_5 : Tf29_5) (vf29_6 : Tf29_6) (vf29_7 : Tf29_7) (vf29_8 : Tf29_8) (vf30_0 : Tf30_0) (vf28_0 : Tf28_0) : EnvK := EnvK.of [⟨29, nt29, [⟨pa29_0, Fn29_0 vf29_0⟩, ⟨pa29_1, Fn29_1 vf29_1⟩, ⟨pa29_2, Fn29_2 vf29_2⟩, ⟨pa29_3, Fn29_3 vf29_3⟩, ⟨pa29_4, Fn29_4 vf29_4⟩, ⟨pa29_5, Fn29_5 vf29_5⟩, ⟨pa29_6, Fn29_6 vf29_6⟩, ⟨pa29_7, Fn29_7 vf29_7⟩, ⟨pa29_8, Fn29_8 vf29_8⟩]⟩, ⟨30, nt30, [⟨pa30_0, Fn30_0 vf30_0⟩]⟩, ⟨28, nt28, [⟨pa28_0, Fn28_0 vf28_0⟩]⟩] noSeq
noncomputable def E11_0 : EnvK := E11_0g f29_0 f29_1 f29_2 f29_3 f29_4 f29_5 f29_6 f29_7 f29_8 f30_0 f28_0
theorem eo11_0 : E11_0.Ok Try.prog := EnvK.of_ok noSeq_ok ⟨⟨io29_0, io29_1, io29_2, io29_3, io29_4, io29_5, io29_6, io29_7, io29_8, trivial⟩, ⟨io30_0, trivial⟩, ⟨io28_0, trivial⟩, trivial⟩
noncomputable def c11_0_27g  : MCode := (.seq (.seq (.region r11_30 [] (tO [2, 3, 4, 6, 7, 8, 9, 41])) (.cond (.tmp 41) .skip (.exit 2))) (.seq (.block 3 (.seq (.region r11_35 [(8, 10)] (tO [2, 3, 4, 6, 7, 8, 9])) (.seq (.region r11_37 [] (tO [2, 3, 4, 6, 7, 8, 9, 58])) (.cond (.tmp 58) (.region r11_39 [] (tO [2, 3, 4, 6, 7, 8, 9])) .skip)))) (.region r11_40 [] (tO [2, 3, 4, 6, 7, 8, 9]))))
noncomputable def c11_0_27 : MCode := c11_0_27g 
theorem g11_0_27 : c11_0_27.Good Try.prog E11_0 sh11 := ⟨⟨trivial, ⟨trivial, trivial⟩⟩, ⟨⟨trivial, ⟨trivial, ⟨trivial, trivial⟩⟩⟩, trivial⟩⟩
--CODE 27 0
abbrev TJ11_0_0 : Type 1 := (α : Type) → Int → Int → Int → Int → Int → Int → Int → Int → Int → Int → Int → (Int → Option α) → Option α
def J11_0_0g (vf29_0 : Tf29_0) (α : Type) (x20 x21 x22 x23 x24 x25 x26 x27 x28 x29 x30 : Int) (k1 : Int → Option α) : Option α :=
 vf29_0 α x21 x22 x23 x24 x25 x26 x27 x28 x29
 (fun x53 => cK (decide (x20 < 0))
 (k1 (w64 (0 - (w64 (x53 * x30)))))
 (k1 (w64 (x53 * x30))))
noncomputable def J11_0_0 (α : Type) (x20 x21 x22 x23 x24 x25 x26 x27 x28 x29 x30 : Int) (k1 : Int → Option α) : Option α := J11_0_0g f29_0 α x20 x21 x22 x23 x24 x25 x26 x27 x28 x29 x30 k1
def F11_0_0 (v : TJ11_0_0) (α : Type) (K : Exit → St → Option α) : Int → Int → Int → Int → Int → Int → Int → Int → Int → Int → Int → Int → Int → Int → Int → Int → Int → Int → Int → Int → Int → Int → Int → Int → Int → Int → Int → Int → Int → Int → Int → Int → Option α := fun x20 x21 x22 x23 x24 x25 x26 x27 x28 x29 x30 x31 x32 x33 x34 x35 x36 x37 x38 x39 x40 x41 x42 x43 x44 x45 x46 x47 x48 x49 x50 x51 => v α x20 x21 x22 x23 x24 x25 x26 x27 x28 x29 x30 (fun (y1 : Int) => u11_0_1 (K .normal) x20 x21 x22 x23 x24 x25 x26 x27 x28 x29 x30 x31 x32 x33 x34 x35 x36 x37 x38 x39 x40 x41 x42 y1 x44 x45 x46 x47 x48 x49 x50 x51) 
theorem m11_0_0g (vf29_0 : Tf29_0) (vf29_1 : Tf29_1) (vf29_2 : Tf29_2) (vf29_3 : Tf29_3) (vf29_4 : Tf29_4) (vf29_5 : Tf29_5) (vf29_6 : Tf29_6) (vf29_7 : Tf29_7) (vf29_8 : Tf29_8) (vf30_0 : Tf30_0) (vf28_0 : Tf28_0)  (α : Type) (K : Exit → St → Option α) : F11_0_0 (J11_0_0g vf29_0) α K = p11_0_0.unc fun σ => runM Try.prog (E11_0g vf29_0 vf29_1 vf29_2 vf29_3 vf29_4 vf29_5 vf29_6 vf29_7 vf29_8 vf30_0 vf28_0) sh11 (c11_0_27g ) K σ := by kernel_rfl
theorem m11_0_0 : ∀ (α : Type) (K : Exit → St → Option α), F11_0_0 J11_0_0 α K = p11_0_0.unc fun σ => runM Try.prog E11_0 sh11 c11_0_27 K σ := m11_0_0g f29_0 f29_1 f29_2 f29_3 f29_4 f29_5 f29_6 f29_7 f29_8 f30_0 f28_0
--CODE 27 0
abbrev TJ11_0_1 : Type 1 := (α : Type) → Int → Int → Int → Int → Int → Int → Int → Int → Int → Int → Int → (Int → Option α) → Option α
def J11_0_1g (vf29_3 : Tf29_3) (α : Type) (x56 x57 x58 x59 x60 x61 x62 x63 x64 x65 x66 : Int) (k1 : Int → Option α) : Option α :=
 vf29_3 α x57 x58 x59 x60 x61 x62 x63 x64 x65
 (fun x89 => cK (decide (x56 < 0))
 (k1 (w64 (0 - (w64 (x89 * x66)))))
 (k1 (w64 (x89 * x66))))
noncomputable def J11_0_1 (α : Type) (x56 x57 x58 x59 x60 x61 x62 x63 x64 x65 x66 : Int) (k1 : Int → Option α) : Option α := J11_0_1g f29_3 α x56 x57 x58 x59 x60 x61 x62 x63 x64 x65 x66 k1
def F11_0_1 (v : TJ11_0_1) (α : Type) (K : Exit → St → Option α) : Int → Int → Int → Int → Int → Int → Int → Int → Int → Int → Int → Int → Int → Int → Int → Int → Int → Int → Int → Int → Int → Int → Int → Int → Int → Int → Int → Int → Int → Int → Int → Int → Option α := fun x56 x57 x58 x59 x60 x61 x62 x63 x64 x65 x66 x67 x68 x69 x70 x71 x72 x73 x74 x75 x76 x77 x78 x79 x80 x81 x82 x83 x84 x85 x86 x87 => v α x56 x57 x58 x59 x60 x61 x62 x63 x64 x65 x66 (fun (y1 : Int) => u11_0_2 (K .normal) x56 x57 x58 x59 x60 x61 x62 x63 x64 x65 x66 x67 x68 x69 x70 x71 x72 x73 x74 x75 x76 x77 x78 x79 y1 x81 x82 x83 x84 x85 x86 x87) 
theorem m11_0_1g (vf29_0 : Tf29_0) (vf29_1 : Tf29_1) (vf29_2 : Tf29_2) (vf29_3 : Tf29_3) (vf29_4 : Tf29_4) (vf29_5 : Tf29_5) (vf29_6 : Tf29_6) (vf29_7 : Tf29_7) (vf29_8 : Tf29_8) (vf30_0 : Tf30_0) (vf28_0 : Tf28_0)  (α : Type) (K : Exit → St → Option α) : F11_0_1 (J11_0_1g vf29_3) α K = p11_0_1.unc fun σ => runM Try.prog (E11_0g vf29_0 vf29_1 vf29_2 vf29_3 vf29_4 vf29_5 vf29_6 vf29_7 vf29_8 vf30_0 vf28_0) sh11 (c11_0_27g ) K σ := by kernel_rfl
theorem m11_0_1 : ∀ (α : Type) (K : Exit → St → Option α), F11_0_1 J11_0_1 α K = p11_0_1.unc fun σ => runM Try.prog E11_0 sh11 c11_0_27 K σ := m11_0_1g f29_0 f29_1 f29_2 f29_3 f29_4 f29_5 f29_6 f29_7 f29_8 f30_0 f28_0
--CODE 27 0
abbrev TJ11_0_2 : Type 1 := (α : Type) → Int → Int → Int → Int → Int → Int → Int → Int → Int → Int → Int → (Int → Option α) → Option α
def J11_0_2g (vf29_4 : Tf29_4) (α : Type) (x92 x93 x94 x95 x96 x97 x98 x99 x100 x101 x102 : Int) (k1 : Int → Option α) : Option α :=
 vf29_4 α x93 x94 x95 x96 x97 x98 x99 x100 x101
 (fun x125 => cK (decide (x92 < 0))
 (k1 (w64 (0 - (w64 (x125 * x102)))))
 (k1 (w64 (x125 * x102))))
noncomputable def J11_0_2 (α : Type) (x92 x93 x94 x95 x96 x97 x98 x99 x100 x101 x102 : Int) (k1 : Int → Option α) : Option α := J11_0_2g f29_4 α x92 x93 x94 x95 x96 x97 x98 x99 x100 x101 x102 k1
def F11_0_2 (v : TJ11_0_2) (α : Type) (K : Exit → St → Option α) : Int → Int → Int → Int → Int → Int → Int → Int → Int → Int → Int → Int → Int → Int → Int → Int → Int → Int → Int → Int → Int → Int → Int → Int → Int → Int → Int → Int → Int → Int → Int → Int → Option α := fun x92 x93 x94 x95 x96 x97 x98 x99 x100 x101 x102 x103 x104 x105 x106 x107 x108 x109 x110 x111 x112 x113 x114 x115 x116 x117 x118 x119 x120 x121 x122 x123 => v α x92 x93 x94 x95 x96 x97 x98 x99 x100 x101 x102 (fun (y1 : Int) => u11_0_3 (K .normal) x92 x93 x94 x95 x96 x97 x98 x99 x100 x101 x102 x103 x104 x105 x106 x107 x108 x109 x110 x111 x112 x113 x114 x115 x116 y1 x118 x119 x120 x121 x122 x123) 
theorem m11_0_2g (vf29_0 : Tf29_0) (vf29_1 : Tf29_1) (vf29_2 : Tf29_2) (vf29_3 : Tf29_3) (vf29_4 : Tf29_4) (vf29_5 : Tf29_5) (vf29_6 : Tf29_6) (vf29_7 : Tf29_7) (vf29_8 : Tf29_8) (vf30_0 : Tf30_0) (vf28_0 : Tf28_0)  (α : Type) (K : Exit → St → Option α) : F11_0_2 (J11_0_2g vf29_4) α K = p11_0_2.unc fun σ => runM Try.prog (E11_0g vf29_0 vf29_1 vf29_2 vf29_3 vf29_4 vf29_5 vf29_6 vf29_7 vf29_8 vf30_0 vf28_0) sh11 (c11_0_27g ) K σ := by kernel_rfl
theorem m11_0_2 : ∀ (α : Type) (K : Exit → St → Option α), F11_0_2 J11_0_2 α K = p11_0_2.unc fun σ => runM Try.prog E11_0 sh11 c11_0_27 K σ := m11_0_2g f29_0 f29_1 f29_2 f29_3 f29_4 f29_5 f29_6 f29_7 f29_8 f30_0 f28_0
--CODE 27 0
abbrev TJ11_0_3 : Type 1 := (α : Type) → Int → Int → Int → Int → Int → Int → Int → Int → Int → Int → Int → (Int → Option α) → Option α
def J11_0_3g (vf29_1 : Tf29_1) (α : Type) (x128 x129 x130 x131 x132 x133 x134 x135 x136 x137 x138 : Int) (k1 : Int → Option α) : Option α :=
 vf29_1 α x129 x130 x131 x132 x133 x134 x135 x136 x137
 (fun x161 => cK (decide (x128 < 0))
 (k1 (w64 (0 - (w64 (x161 * x138)))))
 (k1 (w64 (x161 * x138))))
noncomputable def J11_0_3 (α : Type) (x128 x129 x130 x131 x132 x133 x134 x135 x136 x137 x138 : Int) (k1 : Int → Option α) : Option α := J11_0_3g f29_1 α x128 x129 x130 x131 x132 x133 x134 x135 x136 x137 x138 k1
def F11_0_3 (v : TJ11_0_3) (α : Type) (K : Exit → St → Option α) : Int → Int → Int → Int → Int → Int → Int → Int → Int → Int → Int → Int → Int → Int → Int → Int → Int → Int → Int → Int → Int → Int → Int → Int → Int → Int → Int → Int → Int → Int → Int → Int → Option α := fun x128 x129 x130 x131 x132 x133 x134 x135 x136 x137 x138 x139 x140 x141 x142 x143 x144 x145 x146 x147 x148 x149 x150 x151 x152 x153 x154 x155 x156 x157 x158 x159 => v α x128 x129 x130 x131 x132 x133 x134 x135 x136 x137 x138 (fun (y1 : Int) => u11_0_5 (K .normal) x128 x129 x130 x131 x132 x133 x134 x135 x136 x137 x138 x139 x140 x141 x142 x143 x144 x145 x146 x147 x148 x149 x150 x151 x152 x153 y1 x155 x156 x157 x158 x159) 
theorem m11_0_3g (vf29_0 : Tf29_0) (vf29_1 : Tf29_1) (vf29_2 : Tf29_2) (vf29_3 : Tf29_3) (vf29_4 : Tf29_4) (vf29_5 : Tf29_5) (vf29_6 : Tf29_6) (vf29_7 : Tf29_7) (vf29_8 : Tf29_8) (vf30_0 : Tf30_0) (vf28_0 : Tf28_0)  (α : Type) (K : Exit → St → Option α) : F11_0_3 (J11_0_3g vf29_1) α K = p11_0_4.unc fun σ => runM Try.prog (E11_0g vf29_0 vf29_1 vf29_2 vf29_3 vf29_4 vf29_5 vf29_6 vf29_7 vf29_8 vf30_0 vf28_0) sh11 (c11_0_27g ) K σ := by kernel_rfl
theorem m11_0_3 : ∀ (α : Type) (K : Exit → St → Option α), F11_0_3 J11_0_3 α K = p11_0_4.unc fun σ => runM Try.prog E11_0 sh11 c11_0_27 K σ := m11_0_3g f29_0 f29_1 f29_2 f29_3 f29_4 f29_5 f29_6 f29_7 f29_8 f30_0 f28_0
--CODE 27 0
abbrev TJ11_0_4 : Type 1 := (α : Type) → Int → Int → Int → Int → Int → Int → Int → Int → Int → Int → Int → (Int → Option α) → Option α
def J11_0_4g (vf29_5 : Tf29_5) (α : Type) (x164 x165 x166 x167 x168 x169 x170 x171 x172 x173 x174 : Int) (k1 : Int → Option α) : Option α :=
 vf29_5 α x165 x166 x167 x168 x169 x170 x171 x172 x173
 (fun x197 => cK (decide (x164 < 0))
 (k1 (w64 (0 - (w64 (x197 * x174)))))
 (k1 (w64 (x197 * x174))))
noncomputable def J11_0_4 (α : Type) (x164 x165 x166 x167 x168 x169 x170 x171 x172 x173 x174 : Int) (k1 : Int → Option α) : Option α := J11_0_4g f29_5 α x164 x165 x166 x167 x168 x169 x170 x171 x172 x173 x174 k1
def F11_0_4 (v : TJ11_0_4) (α : Type) (K : Exit → St → Option α) : Int → Int → Int → Int → Int → Int → Int → Int → Int → Int → Int → Int → Int → Int → Int → Int → Int → Int → Int → Int → Int → Int → Int → Int → Int → Int → Int → Int → Int → Int → Int → Int → Option α := fun x164 x165 x166 x167 x168 x169 x170 x171 x172 x173 x174 x175 x176 x177 x178 x179 x180 x181 x182 x183 x184 x185 x186 x187 x188 x189 x190 x191 x192 x193 x194 x195 => v α x164 x165 x166 x167 x168 x169 x170 x171 x172 x173 x174 (fun (y1 : Int) => u11_0_6 (K .normal) x164 x165 x166 x167 x168 x169 x170 x171 x172 x173 x174 x175 x176 x177 x178 x179 x180 x181 x182 x183 x184 x185 x186 x187 x188 x189 x190 y1 x192 x193 x194 x195) 
theorem m11_0_4g (vf29_0 : Tf29_0) (vf29_1 : Tf29_1) (vf29_2 : Tf29_2) (vf29_3 : Tf29_3) (vf29_4 : Tf29_4) (vf29_5 : Tf29_5) (vf29_6 : Tf29_6) (vf29_7 : Tf29_7) (vf29_8 : Tf29_8) (vf30_0 : Tf30_0) (vf28_0 : Tf28_0)  (α : Type) (K : Exit → St → Option α) : F11_0_4 (J11_0_4g vf29_5) α K = p11_0_5.unc fun σ => runM Try.prog (E11_0g vf29_0 vf29_1 vf29_2 vf29_3 vf29_4 vf29_5 vf29_6 vf29_7 vf29_8 vf30_0 vf28_0) sh11 (c11_0_27g ) K σ := by kernel_rfl
theorem m11_0_4 : ∀ (α : Type) (K : Exit → St → Option α), F11_0_4 J11_0_4 α K = p11_0_5.unc fun σ => runM Try.prog E11_0 sh11 c11_0_27 K σ := m11_0_4g f29_0 f29_1 f29_2 f29_3 f29_4 f29_5 f29_6 f29_7 f29_8 f30_0 f28_0
--CODE 27 0
abbrev TJ11_0_5 : Type 1 := (α : Type) → Int → Int → Int → Int → Int → Int → Int → Int → Int → Int → Int → (Int → Option α) → Option α
def J11_0_5g (vf29_6 : Tf29_6) (α : Type) (x200 x201 x202 x203 x204 x205 x206 x207 x208 x209 x210 : Int) (k1 : Int → Option α) : Option α :=
 vf29_6 α x201 x202 x203 x204 x205 x206 x207 x208 x209
 (fun x233 => cK (decide (x200 < 0))
 (k1 (w64 (0 - (w64 (x233 * x210)))))
 (k1 (w64 (x233 * x210))))
noncomputable def J11_0_5 (α : Type) (x200 x201 x202 x203 x204 x205 x206 x207 x208 x209 x210 : Int) (k1 : Int → Option α) : Option α := J11_0_5g f29_6 α x200 x201 x202 x203 x204 x205 x206 x207 x208 x209 x210 k1
def F11_0_5 (v : TJ11_0_5) (α : Type) (K : Exit → St → Option α) : Int → Int → Int → Int → Int → Int → Int → Int → Int → Int → Int → Int → Int → Int → Int → Int → Int → Int → Int → Int → Int → Int → Int → Int → Int → Int → Int → Int → Int → Int → Int → Int → Option α := fun x200 x201 x202 x203 x204 x205 x206 x207 x208 x209 x210 x211 x212 x213 x214 x215 x216 x217 x218 x219 x220 x221 x222 x223 x224 x225 x226 x227 x228 x229 x230 x231 => v α x200 x201 x202 x203 x204 x205 x206 x207 x208 x209 x210 (fun (y1 : Int) => u11_0_7 (K .normal) x200 x201 x202 x203 x204 x205 x206 x207 x208 x209 x210 x211 x212 x213 x214 x215 x216 x217 x218 x219 x220 x221 x222 x223 x224 x225 x226 x227 y1 x229 x230 x231) 
theorem m11_0_5g (vf29_0 : Tf29_0) (vf29_1 : Tf29_1) (vf29_2 : Tf29_2) (vf29_3 : Tf29_3) (vf29_4 : Tf29_4) (vf29_5 : Tf29_5) (vf29_6 : Tf29_6) (vf29_7 : Tf29_7) (vf29_8 : Tf29_8) (vf30_0 : Tf30_0) (vf28_0 : Tf28_0)  (α : Type) (K : Exit → St → Option α) : F11_0_5 (J11_0_5g vf29_6) α K = p11_0_6.unc fun σ => runM Try.prog (E11_0g vf29_0 vf29_1 vf29_2 vf29_3 vf29_4 vf29_5 vf29_6 vf29_7 vf29_8 vf30_0 vf28_0) sh11 (c11_0_27g ) K σ := by kernel_rfl
theorem m11_0_5 : ∀ (α : Type) (K : Exit → St → Option α), F11_0_5 J11_0_5 α K = p11_0_6.unc fun σ => runM Try.prog E11_0 sh11 c11_0_27 K σ := m11_0_5g f29_0 f29_1 f29_2 f29_3 f29_4 f29_5 f29_6 f29_7 f29_8 f30_0 f28_0
--CODE 27 0
abbrev TJ11_0_6 : Type 1 := (α : Type) → Int → Int → Int → Int → Int → Int → Int → Int → Int → Int → Int → (Int → Option α) → Option α
def J11_0_6g (vf29_2 : Tf29_2) (α : Type) (x236 x237 x238 x239 x240 x241 x242 x243 x244 x245 x246 : Int) (k1 : Int → Option α) : Option α :=
 vf29_2 α x237 x238 x239 x240 x241 x242 x243 x244 x245
 (fun x269 => cK (decide (x236 < 0))
 (k1 (w64 (0 - (w64 (x269 * x246)))))
 (k1 (w64 (x269 * x246))))
noncomputable def J11_0_6 (α : Type) (x236 x237 x238 x239 x240 x241 x242 x243 x244 x245 x246 : Int) (k1 : Int → Option α) : Option α := J11_0_6g f29_2 α x236 x237 x238 x239 x240 x241 x242 x243 x244 x245 x246 k1
def F11_0_6 (v : TJ11_0_6) (α : Type) (K : Exit → St → Option α) : Int → Int → Int → Int → Int → Int → Int → Int → Int → Int → Int → Int → Int → Int → Int → Int → Int → Int → Int → Int → Int → Int → Int → Int → Int → Int → Int → Int → Int → Int → Int → Int → Option α := fun x236 x237 x238 x239 x240 x241 x242 x243 x244 x245 x246 x247 x248 x249 x250 x251 x252 x253 x254 x255 x256 x257 x258 x259 x260 x261 x262 x263 x264 x265 x266 x267 => v α x236 x237 x238 x239 x240 x241 x242 x243 x244 x245 x246 (fun (y1 : Int) => u11_0_9 (K .normal) x236 x237 x238 x239 x240 x241 x242 x243 x244 x245 x246 x247 x248 x249 x250 x251 x252 x253 x254 x255 x256 x257 x258 x259 x260 x261 x262 x263 x264 y1 x266 x267) 
theorem m11_0_6g (vf29_0 : Tf29_0) (vf29_1 : Tf29_1) (vf29_2 : Tf29_2) (vf29_3 : Tf29_3) (vf29_4 : Tf29_4) (vf29_5 : Tf29_5) (vf29_6 : Tf29_6) (vf29_7 : Tf29_7) (vf29_8 : Tf29_8) (vf30_0 : Tf30_0) (vf28_0 : Tf28_0)  (α : Type) (K : Exit → St → Option α) : F11_0_6 (J11_0_6g vf29_2) α K = p11_0_8.unc fun σ => runM Try.prog (E11_0g vf29_0 vf29_1 vf29_2 vf29_3 vf29_4 vf29_5 vf29_6 vf29_7 vf29_8 vf30_0 vf28_0) sh11 (c11_0_27g ) K σ := by kernel_rfl
theorem m11_0_6 : ∀ (α : Type) (K : Exit → St → Option α), F11_0_6 J11_0_6 α K = p11_0_8.unc fun σ => runM Try.prog E11_0 sh11 c11_0_27 K σ := m11_0_6g f29_0 f29_1 f29_2 f29_3 f29_4 f29_5 f29_6 f29_7 f29_8 f30_0 f28_0
--CODE 27 0
abbrev TJ11_0_7 : Type 1 := (α : Type) → Int → Int → Int → Int → Int → Int → Int → Int → Int → Int → Int → (Int → Option α) → Option α
def J11_0_7g (vf29_7 : Tf29_7) (α : Type) (x272 x273 x274 x275 x276 x277 x278 x279 x280 x281 x282 : Int) (k1 : Int → Option α) : Option α :=
 vf29_7 α x273 x274 x275 x276 x277 x278 x279 x280 x281
 (fun x305 => cK (decide (x272 < 0))
 (k1 (w64 (0 - (w64 (x305 * x282)))))
 (k1 (w64 (x305 * x282))))
noncomputable def J11_0_7 (α : Type) (x272 x273 x274 x275 x276 x277 x278 x279 x280 x281 x282 : Int) (k1 : Int → Option α) : Option α := J11_0_7g f29_7 α x272 x273 x274 x275 x276 x277 x278 x279 x280 x281 x282 k1
def F11_0_7 (v : TJ11_0_7) (α : Type) (K : Exit → St → Option α) : Int → Int → Int → Int → Int → Int → Int → Int → Int → Int → Int → Int → Int → Int → Int → Int → Int → Int → Int → Int → Int → Int → Int → Int → Int → Int → Int → Int → Int → Int → Int → Int → Option α := fun x272 x273 x274 x275 x276 x277 x278 x279 x280 x281 x282 x283 x284 x285 x286 x287 x288 x289 x290 x291 x292 x293 x294 x295 x296 x297 x298 x299 x300 x301 x302 x303 => v α x272 x273 x274 x275 x276 x277 x278 x279 x280 x281 x282 (fun (y1 : Int) => u11_0_10 (K .normal) x272 x273 x274 x275 x276 x277 x278 x279 x280 x281 x282 x283 x284 x285 x286 x287 x288 x289 x290 x291 x292 x293 x294 x295 x296 x297 x298 x299 x300 x301 y1 x303) 
theorem m11_0_7g (vf29_0 : Tf29_0) (vf29_1 : Tf29_1) (vf29_2 : Tf29_2) (vf29_3 : Tf29_3) (vf29_4 : Tf29_4) (vf29_5 : Tf29_5) (vf29_6 : Tf29_6) (vf29_7 : Tf29_7) (vf29_8 : Tf29_8) (vf30_0 : Tf30_0) (vf28_0 : Tf28_0)  (α : Type) (K : Exit → St → Option α) : F11_0_7 (J11_0_7g vf29_7) α K = p11_0_9.unc fun σ => runM Try.prog (E11_0g vf29_0 vf29_1 vf29_2 vf29_3 vf29_4 vf29_5 vf29_6 vf29_7 vf29_8 vf30_0 vf28_0) sh11 (c11_0_27g ) K σ := by kernel_rfl
theorem m11_0_7 : ∀ (α : Type) (K : Exit → St → Option α), F11_0_7 J11_0_7 α K = p11_0_9.unc fun σ => runM Try.prog E11_0 sh11 c11_0_27 K σ := m11_0_7g f29_0 f29_1 f29_2 f29_3 f29_4 f29_5 f29_6 f29_7 f29_8 f30_0 f28_0
--CODE 27 0
abbrev TJ11_0_8 : Type 1 := (α : Type) → Int → Int → Int → Int → Int → Int → Int → Int → Int → Int → Int → (Int → Option α) → Option α
def J11_0_8g (vf29_8 : Tf29_8) (α : Type) (x308 x309 x310 x311 x312 x313 x314 x315 x316 x317 x318 : Int) (k1 : Int → Option α) : Option α :=
 vf29_8 α x309 x310 x311 x312 x313 x314 x315 x316 x317
 (fun x341 => cK (decide (x308 < 0))
 (k1 (w64 (0 - (w64 (x341 * x318)))))
 (k1 (w64 (x341 * x318))))
noncomputable def J11_0_8 (α : Type) (x308 x309 x310 x311 x312 x313 x314 x315 x316 x317 x318 : Int) (k1 : Int → Option α) : Option α := J11_0_8g f29_8 α x308 x309 x310 x311 x312 x313 x314 x315 x316 x317 x318 k1
def F11_0_8 (v : TJ11_0_8) (α : Type) (K : Exit → St → Option α) : Int → Int → Int → Int → Int → Int → Int → Int → Int → Int → Int → Int → Int → Int → Int → Int → Int → Int → Int → Int → Int → Int → Int → Int → Int → Int → Int → Int → Int → Int → Int → Int → Option α := fun x308 x309 x310 x311 x312 x313 x314 x315 x316 x317 x318 x319 x320 x321 x322 x323 x324 x325 x326 x327 x328 x329 x330 x331 x332 x333 x334 x335 x336 x337 x338 x339 => v α x308 x309 x310 x311 x312 x313 x314 x315 x316 x317 x318 (fun (y1 : Int) => u11_0_11 (K .normal) x308 x309 x310 x311 x312 x313 x314 x315 x316 x317 x318 x319 x320 x321 x322 x323 x324 x325 x326 x327 x328 x329 x330 x331 x332 x333 x334 x335 x336 x337 x338 y1) 
theorem m11_0_8g (vf29_0 : Tf29_0) (vf29_1 : Tf29_1) (vf29_2 : Tf29_2) (vf29_3 : Tf29_3) (vf29_4 : Tf29_4) (vf29_5 : Tf29_5) (vf29_6 : Tf29_6) (vf29_7 : Tf29_7) (vf29_8 : Tf29_8) (vf30_0 : Tf30_0) (vf28_0 : Tf28_0)  (α : Type) (K : Exit → St → Option α) : F11_0_8 (J11_0_8g vf29_8) α K = p11_0_10.unc fun σ => runM Try.prog (E11_0g vf29_0 vf29_1 vf29_2 vf29_3 vf29_4 vf29_5 vf29_6 vf29_7 vf29_8 vf30_0 vf28_0) sh11 (c11_0_27g ) K σ := by kernel_rfl
theorem m11_0_8 : ∀ (α : Type) (K : Exit → St → Option α), F11_0_8 J11_0_8 α K = p11_0_10.unc fun σ => runM Try.prog E11_0 sh11 c11_0_27 K σ := m11_0_8g f29_0 f29_1 f29_2 f29_3 f29_4 f29_5 f29_6 f29_7 f29_8 f30_0 f28_0
abbrev Tf11_0 : Type 1 := (α : Type) → Int → Int → Int → Int → Int → Int → Int → Int → Int → Int → Int → Int → Int → Int → Int → Int → (Int → Int → Int → Int → Int → Int → Int → Option α) → Option α
def f11_0g (vJ11_0_0 : TJ11_0_0) (vJ11_0_1 : TJ11_0_1) (vJ11_0_2 : TJ11_0_2) (vJ11_0_3 : TJ11_0_3) (vJ11_0_4 : TJ11_0_4) (vJ11_0_5 : TJ11_0_5) (vJ11_0_6 : TJ11_0_6) (vJ11_0_7 : TJ11_0_7) (vJ11_0_8 : TJ11_0_8) (vf28_0 : Tf28_0) (vf29_0 : Tf29_0) (vf29_1 : Tf29_1) (vf29_2 : Tf29_2) (vf30_0 : Tf30_0) (α : Type) (x1 x2 x3 x4 x5 x6 x7 x8 x9 x10 x11 x12 x13 x14 x15 x16 : Int) (k1 : Int → Int → Int → Int → Int → Int → Int → Option α) : Option α :=
 vf29_0 α x1 x2 x3 x4 x5 x6 x7 x8 x9
 (fun x17 => vf29_1 α x1 x2 x3 x4 x5 x6 x7 x8 x9
 (fun x18 => vf29_2 α x1 x2 x3 x4 x5 x6 x7 x8 x9
 (fun x19 => cK ((w64 ((w64 ((w64 (x1 * x17)) + (w64 (x2 * x18)))) + (w64 (x3 * x19)))) == 0)
 (k1 0 0 0 0 0 0 28)
 (vJ11_0_0 α (w64 ((w64 ((w64 (x1 * x17)) + (w64 (x2 * x18)))) + (w64 (x3 * x19)))) x1 x2 x3 x4 x5 x6 x7 x8 x9 x10
 (fun x54 => vJ11_0_1 α (w64 ((w64 ((w64 (x1 * x17)) + (w64 (x2 * x18)))) + (w64 (x3 * x19)))) x1 x2 x3 x4 x5 x6 x7 x8 x9 x10
 (fun x90 => vJ11_0_2 α (w64 ((w64 ((w64 (x1 * x17)) + (w64 (x2 * x18)))) + (w64 (x3 * x19)))) x1 x2 x3 x4 x5 x6 x7 x8 x9 x10
 (fun x126 => vJ11_0_3 α (w64 ((w64 ((w64 (x1 * x17)) + (w64 (x2 * x18)))) + (w64 (x3 * x19)))) x1 x2 x3 x4 x5 x6 x7 x8 x9 x10
 (fun x162 => vJ11_0_4 α (w64 ((w64 ((w64 (x1 * x17)) + (w64 (x2 * x18)))) + (w64 (x3 * x19)))) x1 x2 x3 x4 x5 x6 x7 x8 x9 x10
 (fun x198 => vJ11_0_5 α (w64 ((w64 ((w64 (x1 * x17)) + (w64 (x2 * x18)))) + (w64 (x3 * x19)))) x1 x2 x3 x4 x5 x6 x7 x8 x9 x10
 (fun x234 => vJ11_0_6 α (w64 ((w64 ((w64 (x1 * x17)) + (w64 (x2 * x18)))) + (w64 (x3 * x19)))) x1 x2 x3 x4 x5 x6 x7 x8 x9 x10
 (fun x270 => vJ11_0_7 α (w64 ((w64 ((w64 (x1 * x17)) + (w64 (x2 * x18)))) + (w64 (x3 * x19)))) x1 x2 x3 x4 x5 x6 x7 x8 x9 x10
 (fun x306 => vJ11_0_8 α (w64 ((w64 ((w64 (x1 * x17)) + (w64 (x2 * x18)))) + (w64 (x3 * x19)))) x1 x2 x3 x4 x5 x6 x7 x8 x9 x10
 (fun x342 => vf30_0 α (w64 ((w64 ((w64 (x1 * x17)) + (w64 (x2 * x18)))) + (w64 (x3 * x19))))
 (fun x344 => vf28_0 α x54 x90 x126 x162 x198 x234 x270 x306 x342 x344 x11 x12 x13 x14 x15 x16
 (fun x345 x346 x347 x348 x349 x350 x351 => k1 x345 x346 x347 x348 x349 x350 x351)))))))))))))))
noncomputable def f11_0 (α : Type) (x1 x2 x3 x4 x5 x6 x7 x8 x9 x10 x11 x12 x13 x14 x15 x16 : Int) (k1 : Int → Int → Int → Int → Int → Int → Int → Option α) : Option α := f11_0g J11_0_0 J11_0_1 J11_0_2 J11_0_3 J11_0_4 J11_0_5 J11_0_6 J11_0_7 J11_0_8 f28_0 f29_0 f29_1 f29_2 f30_0 α x1 x2 x3 x4 x5 x6 x7 x8 x9 x10 x11 x12 x13 x14 x15 x16 k1
def pa11_0 : PT (List DV) := pA [pV true [(dI .i64), (dI .i64), (dI .i64), (dI .i64), (dI .i64), (dI .i64), (dI .i64), (dI .i64), (dI .i64), (dI .i64)], pV true [(dI .i64), (dI .i64), (dI .i64), (dI .i64), (dI .i64), (dI .i64)]]
def Fn11_0 (v : Tf11_0) (α : Type) (k : List RV → Option α) : Int → Int → Int → Int → Int → Int → Int → Int → Int → Int → Int → Int → Int → Int → Int → Int → Option α := fun x1 x2 x3 x4 x5 x6 x7 x8 x9 x10 x11 x12 x13 x14 x15 x16 => v α x1 x2 x3 x4 x5 x6 x7 x8 x9 x10 x11 x12 x13 x14 x15 x16 (fun (y1 : Int) (y2 : Int) (y3 : Int) (y4 : Int) (y5 : Int) (y6 : Int) (y7 : Int) => ur11_0_0 k y1 y2 y3 y4 y5 y6 y7)
noncomputable def cm11_0g (vJ11_0_0 : TJ11_0_0) (vJ11_0_1 : TJ11_0_1) (vJ11_0_2 : TJ11_0_2) (vJ11_0_3 : TJ11_0_3) (vJ11_0_4 : TJ11_0_4) (vJ11_0_5 : TJ11_0_5) (vJ11_0_6 : TJ11_0_6) (vJ11_0_7 : TJ11_0_7) (vJ11_0_8 : TJ11_0_8) : MCode := (.seq (.region r11_2 [] (tO [2, 3, 4])) (.seq (.region r11_4 [(2, 5), (5, 9), (5, 11), (2, 12), (9, 12), (5, 17), (12, 17), (5, 19), (12, 19), (2, 20), (9, 20), (17, 20)] (tO [2, 3, 4, 6])) (.seq (.seq (.region r11_7 [] (tO [2, 3, 4, 6, 34])) (.cond (.tmp 34) (.seq (.region r11_10 [] (tO [4, 5])) .ret) .skip)) (.seq (.region r11_12 [] (tO [2, 3, 4, 6, 7])) (.seq (.seq (.region r11_15 [] (tO [2, 3, 4, 6, 7, 8])) (.block 0 (.loopU 4 td11_17 (.seq (.seq (.region r11_20 [] (tO [2, 3, 4, 6, 7, 8, 37])) (.cond (.tmp 37) .skip (.exit 0))) (.seq (.block 1 (.seq (.region r11_25 [] (tO [2, 3, 4, 6, 7, 8, 9])) (.block 2 (.loopU 4 td11_27 (.mark [⟨p11_0_0, F11_0_0 vJ11_0_0⟩, ⟨p11_0_1, F11_0_1 vJ11_0_1⟩, ⟨p11_0_2, F11_0_2 vJ11_0_2⟩, ⟨p11_0_4, F11_0_3 vJ11_0_3⟩, ⟨p11_0_5, F11_0_4 vJ11_0_4⟩, ⟨p11_0_6, F11_0_5 vJ11_0_5⟩, ⟨p11_0_8, F11_0_6 vJ11_0_6⟩, ⟨p11_0_9, F11_0_7 vJ11_0_7⟩, ⟨p11_0_10, F11_0_8 vJ11_0_8⟩] c11_0_27))))) (.region r11_41 [] (tO [2, 3, 4, 6, 7, 8]))))))) (.seq (.region r11_43 [(0, 2), (2, 3)] (tO [4, 5])) .ret))))))
noncomputable def cm11_0 : MCode := cm11_0g J11_0_0 J11_0_1 J11_0_2 J11_0_3 J11_0_4 J11_0_5 J11_0_6 J11_0_7 J11_0_8
theorem gm11_0 : cm11_0.Good Try.prog E11_0 sh11 := ⟨trivial, ⟨trivial, ⟨⟨trivial, ⟨⟨trivial, trivial⟩, trivial⟩⟩, ⟨trivial, ⟨⟨trivial, ⟨⟨⟨trivial, ⟨trivial, trivial⟩⟩, ⟨⟨trivial, ⟨⟨g11_0_27, m11_0_0, m11_0_1, m11_0_2, m11_0_3, m11_0_4, m11_0_5, m11_0_6, m11_0_7, m11_0_8, trivial⟩, by decide⟩⟩, trivial⟩⟩, by decide⟩⟩, ⟨trivial, trivial⟩⟩⟩⟩⟩⟩
theorem fm11_0g (vf29_0 : Tf29_0) (vf29_1 : Tf29_1) (vf29_2 : Tf29_2) (vf29_3 : Tf29_3) (vf29_4 : Tf29_4) (vf29_5 : Tf29_5) (vf29_6 : Tf29_6) (vf29_7 : Tf29_7) (vf29_8 : Tf29_8) (vf30_0 : Tf30_0) (vf28_0 : Tf28_0) (vJ11_0_0 : TJ11_0_0) (vJ11_0_1 : TJ11_0_1) (vJ11_0_2 : TJ11_0_2) (vJ11_0_3 : TJ11_0_3) (vJ11_0_4 : TJ11_0_4) (vJ11_0_5 : TJ11_0_5) (vJ11_0_6 : TJ11_0_6) (vJ11_0_7 : TJ11_0_7) (vJ11_0_8 : TJ11_0_8) (α : Type) (k : List RV → Option α) : Fn11_0 (f11_0g vJ11_0_0 vJ11_0_1 vJ11_0_2 vJ11_0_3 vJ11_0_4 vJ11_0_5 vJ11_0_6 vJ11_0_7 vJ11_0_8 vf28_0 vf29_0 vf29_1 vf29_2 vf30_0) α k = pa11_0.unc fun ds => fnM Try.prog (E11_0g vf29_0 vf29_1 vf29_2 vf29_3 vf29_4 vf29_5 vf29_6 vf29_7 vf29_8 vf30_0 vf28_0) sh11 (cm11_0g vJ11_0_0 vJ11_0_1 vJ11_0_2 vJ11_0_3 vJ11_0_4 vJ11_0_5 vJ11_0_6 vJ11_0_7 vJ11_0_8) rs11 k ds := by kernel_rfl
theorem fm11_0 : ∀ (α : Type) (k : List RV → Option α), Fn11_0 f11_0 α k = pa11_0.unc fun ds => fnM Try.prog E11_0 sh11 cm11_0 rs11 k ds := fm11_0g f29_0 f29_1 f29_2 f29_3 f29_4 f29_5 f29_6 f29_7 f29_8 f30_0 f28_0 J11_0_0 J11_0_1 J11_0_2 J11_0_3 J11_0_4 J11_0_5 J11_0_6 J11_0_7 J11_0_8
theorem is11 : FnIs Try.prog 11 nt11 tr11 tl11 cm11_0.erase rs11 := ⟨Try.f11, Try.func11, rfl, by kernel_rfl, by kernel_rfl, by kernel_rfl⟩
theorem io11_0 : InstOk Try.prog 11 nt11 ⟨pa11_0, Fn11_0 f11_0⟩ := inst_ok eo11_0 followsTry is11 ⟨⟨sh11, cm11_0, by kernel_rfl, gm11_0, fm11_0⟩⟩
abbrev nt10 : Nat := 14
def sh10 : List (Nat × List Sh) := [(7, [.int .i64, .int .i64, .int .i64, .int .i64, .int .i64, .int .i64, .int .i64, .int .i64, .int .i64]), (9, [.int .i64]), (10, [.int .i64, .int .i64, .int .i64, .int .i64, .int .i64, .int .i64])]
def r10_2 : List AOper := [oO 2 (.box (.tmp 0)), oO 3 (.box (.tmp 1)), oO 4 (.alloc [(cI 0), (cI 0), (cI 0), (cI 0), (cI 0), (cI 0)]), oO 5 (.mv (kI 0))]
def r10_4 : List AOper := [oO 6 (.faddr 0 (.tmp 2)), oO 7 (.load true 9 (.tmp 6)), oO 8 (.faddr 9 (.tmp 2)), oO 9 (.load false 1 (.tmp 8)), oO 10 (.load true 6 (.tmp 3)), oO 11 (.call 28 [(.tmp 7), (.tmp 9), (.tmp 10)]), oO 12 (.extract 0 (.tmp 11)), oO 13 (.extract 1 (.tmp 11)), oD (.store 6 (.tmp 4) (.tmp 12)), oM 5 13]
def tr10 : List (Nat × Tidy) := [tT 0 [2, 3, 4], tT 1 [4, 5]]
def tl10 : List (Nat × Tidy) := []
def rs10 : List AResV := [.cell 4 true 6, .tmp 5]
def pr10_0_0 : PT (List RV) := pRs [pR true [rD (dI .i64), rD (dI .i64), rD (dI .i64), rD (dI .i64), rD (dI .i64), rD (dI .i64)], pR false [rD (dI .i64)]]
def ur10_0_0 {β : Type} (g : List RV → β) : Int → Int → Int → Int → Int → Int → Int → β := pr10_0_0.unc g
def E10_0g (vf28_0 : Tf28_0) : EnvK := EnvK.of [⟨28, nt28, [⟨pa28_0, Fn28_0 vf28_0⟩]⟩] noSeq
noncomputable def E10_0 : EnvK := E10_0g f28_0
theorem eo10_0 : E10_0.Ok Try.prog := EnvK.of_ok noSeq_ok ⟨⟨io28_0, trivial⟩, trivial⟩
abbrev Tf10_0 : Type 1 := (α : Type) → Int → Int → Int → Int → Int → Int → Int → Int → Int → Int → Int → Int → Int → Int → Int → Int → (Int → Int → Int → Int → Int → Int → Int → Option α) → Option α
def f10_0g (vf28_0 : Tf28_0) (α : Type) (x1 x2 x3 x4 x5 x6 x7 x8 x9 x10 x11 x12 x13 x14 x15 x16 : Int) (k1 : Int → Int → Int → Int → Int → Int → Int → Option α) : Option α :=
 vf28_0 α x1 x2 x3 x4 x5 x6 x7 x8 x9 x10 x11 x12 x13 x14 x15 x16
 (fun x17 x18 x19 x20 x21 x22 x23 => k1 x17 x18 x19 x20 x21 x22 x23)
noncomputable def f10_0 (α : Type) (x1 x2 x3 x4 x5 x6 x7 x8 x9 x10 x11 x12 x13 x14 x15 x16 : Int) (k1 : Int → Int → Int → Int → Int → Int → Int → Option α) : Option α := f10_0g f28_0 α x1 x2 x3 x4 x5 x6 x7 x8 x9 x10 x11 x12 x13 x14 x15 x16 k1
def pa10_0 : PT (List DV) := pA [pV true [(dI .i64), (dI .i64), (dI .i64), (dI .i64), (dI .i64), (dI .i64), (dI .i64), (dI .i64), (dI .i64), (dI .i64)], pV true [(dI .i64), (dI .i64), (dI .i64), (dI .i64), (dI .i64), (dI .i64)]]
def Fn10_0 (v : Tf10_0) (α : Type) (k : List RV → Option α) : Int → Int → Int → Int → Int → Int → Int → Int → Int → Int → Int → Int → Int → Int → Int → Int → Option α := fun x1 x2 x3 x4 x5 x6 x7 x8 x9 x10 x11 x12 x13 x14 x15 x16 => v α x1 x2 x3 x4 x5 x6 x7 x8 x9 x10 x11 x12 x13 x14 x15 x16 (fun (y1 : Int) (y2 : Int) (y3 : Int) (y4 : Int) (y5 : Int) (y6 : Int) (y7 : Int) => ur10_0_0 k y1 y2 y3 y4 y5 y6 y7)
noncomputable def cm10_0g  : MCode := (.seq (.region r10_2 [] (tO [2, 3, 4])) (.seq (.region r10_4 [] (tO [4, 5])) .ret))
noncomputable def cm10_0 : MCode := cm10_0g 
theorem gm10_0 : cm10_0.Good Try.prog E10_0 sh10 := ⟨trivial, ⟨trivial, trivial⟩⟩
theorem fm10_0g (vf28_0 : Tf28_0)  (α : Type) (k : List RV → Option α) : Fn10_0 (f10_0g vf28_0) α k = pa10_0.unc fun ds => fnM Try.prog (E10_0g vf28_0) sh10 (cm10_0g ) rs10 k ds := by kernel_rfl
theorem fm10_0 : ∀ (α : Type) (k : List RV → Option α), Fn10_0 f10_0 α k = pa10_0.unc fun ds => fnM Try.prog E10_0 sh10 cm10_0 rs10 k ds := fm10_0g f28_0
theorem is10 : FnIs Try.prog 10 nt10 tr10 tl10 cm10_0.erase rs10 := ⟨Try.f10, Try.func10, rfl, by kernel_rfl, by kernel_rfl, by kernel_rfl⟩
theorem io10_0 : InstOk Try.prog 10 nt10 ⟨pa10_0, Fn10_0 f10_0⟩ := inst_ok eo10_0 followsTry is10 ⟨⟨sh10, cm10_0, by kernel_rfl, gm10_0, fm10_0⟩⟩
abbrev nt34 : Nat := 6
def sh34 : List (Nat × List Sh) := []
def r34_2 : List AOper := [oO 2 (.mv (.const (.bool false)))]
def r34_4 : List AOper := [oM 3 0, oO 4 (.call 35 [(.tmp 3)]), oO 5 (.pure (oB (.unOp .not 4 (.tmp 4)) 4)), oM 2 5]
def tr34 : List (Nat × Tidy) := [tT 0 [0], tT 1 [2]]
def tl34 : List (Nat × Tidy) := []
def rs34 : List AResV := [.tmp 2]
def pr34_0_0 : PT (List RV) := pRs [pR false [rD dB]]
def ur34_0_0 {β : Type} (g : List RV → β) : Bool → β := pr34_0_0.unc g
def E34_0g (vf35_0 : Tf35_0) : EnvK := EnvK.of [⟨35, nt35, [⟨pa35_0, Fn35_0 vf35_0⟩]⟩] noSeq
noncomputable def E34_0 : EnvK := E34_0g f35_0
theorem eo34_0 : E34_0.Ok Try.prog := EnvK.of_ok noSeq_ok ⟨⟨io35_0, trivial⟩, trivial⟩
abbrev Tf34_0 : Type 1 := (α : Type) → Int → (Bool → Option α) → Option α
def f34_0g (vf35_0 : Tf35_0) (α : Type) (x1 : Int) (k1 : Bool → Option α) : Option α :=
 vf35_0 α x1
 (fun x2 => k1 (!x2))
noncomputable def f34_0 (α : Type) (x1 : Int) (k1 : Bool → Option α) : Option α := f34_0g f35_0 α x1 k1
def pa34_0 : PT (List DV) := pA [pV false [(dI .i64)]]
def Fn34_0 (v : Tf34_0) (α : Type) (k : List RV → Option α) : Int → Option α := fun x1 => v α x1 (fun (y1 : Bool) => ur34_0_0 k y1)
noncomputable def cm34_0g  : MCode := (.seq (.region r34_2 [] (tO [0])) (.seq (.region r34_4 [] (tO [2])) .ret))
noncomputable def cm34_0 : MCode := cm34_0g 
theorem gm34_0 : cm34_0.Good Try.prog E34_0 sh34 := ⟨trivial, ⟨trivial, trivial⟩⟩
theorem fm34_0g (vf35_0 : Tf35_0)  (α : Type) (k : List RV → Option α) : Fn34_0 (f34_0g vf35_0) α k = pa34_0.unc fun ds => fnM Try.prog (E34_0g vf35_0) sh34 (cm34_0g ) rs34 k ds := by kernel_rfl
theorem fm34_0 : ∀ (α : Type) (k : List RV → Option α), Fn34_0 f34_0 α k = pa34_0.unc fun ds => fnM Try.prog E34_0 sh34 cm34_0 rs34 k ds := fm34_0g f35_0
theorem is34 : FnIs Try.prog 34 nt34 tr34 tl34 cm34_0.erase rs34 := ⟨Try.f34, Try.func34, rfl, by kernel_rfl, by kernel_rfl, by kernel_rfl⟩
theorem io34_0 : InstOk Try.prog 34 nt34 ⟨pa34_0, Fn34_0 f34_0⟩ := inst_ok eo34_0 followsTry is34 ⟨⟨sh34, cm34_0, by kernel_rfl, gm34_0, fm34_0⟩⟩
abbrev nt63 : Nat := 6
def sh63 : List (Nat × List Sh) := []
def r63_2 : List AOper := [oO 2 (.mv (.const (.bool false)))]
def r63_4 : List AOper := [oM 3 0, oO 4 (.call 35 [(.tmp 3)]), oO 5 (.pure (oB (.unOp .not 4 (.tmp 4)) 4)), oM 2 5]
def tr63 : List (Nat × Tidy) := [tT 0 [0], tT 1 [2]]
def tl63 : List (Nat × Tidy) := []
def rs63 : List AResV := [.tmp 2]
def pr63_0_0 : PT (List RV) := pRs [pR false [rD dB]]
def ur63_0_0 {β : Type} (g : List RV → β) : Bool → β := pr63_0_0.unc g
def E63_0g (vf35_0 : Tf35_0) : EnvK := EnvK.of [⟨35, nt35, [⟨pa35_0, Fn35_0 vf35_0⟩]⟩] noSeq
noncomputable def E63_0 : EnvK := E63_0g f35_0
theorem eo63_0 : E63_0.Ok Try.prog := EnvK.of_ok noSeq_ok ⟨⟨io35_0, trivial⟩, trivial⟩
abbrev Tf63_0 : Type 1 := (α : Type) → Int → (Bool → Option α) → Option α
def f63_0g (vf35_0 : Tf35_0) (α : Type) (x1 : Int) (k1 : Bool → Option α) : Option α :=
 vf35_0 α x1
 (fun x2 => k1 (!x2))
noncomputable def f63_0 (α : Type) (x1 : Int) (k1 : Bool → Option α) : Option α := f63_0g f35_0 α x1 k1
def pa63_0 : PT (List DV) := pA [pV false [(dI .i64)]]
def Fn63_0 (v : Tf63_0) (α : Type) (k : List RV → Option α) : Int → Option α := fun x1 => v α x1 (fun (y1 : Bool) => ur63_0_0 k y1)
noncomputable def cm63_0g  : MCode := (.seq (.region r63_2 [] (tO [0])) (.seq (.region r63_4 [] (tO [2])) .ret))
noncomputable def cm63_0 : MCode := cm63_0g 
theorem gm63_0 : cm63_0.Good Try.prog E63_0 sh63 := ⟨trivial, ⟨trivial, trivial⟩⟩
theorem fm63_0g (vf35_0 : Tf35_0)  (α : Type) (k : List RV → Option α) : Fn63_0 (f63_0g vf35_0) α k = pa63_0.unc fun ds => fnM Try.prog (E63_0g vf35_0) sh63 (cm63_0g ) rs63 k ds := by kernel_rfl
theorem fm63_0 : ∀ (α : Type) (k : List RV → Option α), Fn63_0 f63_0 α k = pa63_0.unc fun ds => fnM Try.prog E63_0 sh63 cm63_0 rs63 k ds := fm63_0g f35_0
theorem is63 : FnIs Try.prog 63 nt63 tr63 tl63 cm63_0.erase rs63 := ⟨Try.f63, Try.func63, rfl, by kernel_rfl, by kernel_rfl, by kernel_rfl⟩
theorem io63_0 : InstOk Try.prog 63 nt63 ⟨pa63_0, Fn63_0 f63_0⟩ := inst_ok eo63_0 followsTry is63 ⟨⟨sh63, cm63_0, by kernel_rfl, gm63_0, fm63_0⟩⟩
abbrev nt68 : Nat := 21
def sh68 : List (Nat × List Sh) := [(12, [.int .i64, .int .i64]), (13, [.int .i64, .int .i64]), (14, [.int .i64, .int .i64])]
def r68_2 : List AOper := [oO 4 (.mv (kI 0))]
def r68_5 : List AOper := [oM 8 1, oO 9 (.len (.tmp 8)), oO 10 (.mv (kI 0))]
def td68_7 : Option Tidy := (some ⟨[0, 8, 9, 10], true, [⟨false, 8, 0, 20008, 2⟩], []⟩)
def r68_9 : List AOper := [oO 11 (.bin .lss 3 (.tmp 10) (.tmp 9))]
def r68_15 : List AOper := [oO 12 (.iaddr 2 none (.tmp 8) (.tmp 10)), oO 13 (.load true 2 (.tmp 12)), oO 6 (.alloc [(cI 0), (cI 0)]), oD (.store 2 (.tmp 6) (.tmp 13))]
def r68_17 : List AOper := [oO 14 (.load true 2 (.tmp 6)), oM 15 0, oO 16 (.call 73 [(.tmp 14), (.tmp 15)]), oM 7 16]
def r68_19 : List AOper := [oM 17 7, oO 18 (.bin .neq 30 (.tmp 17) (kI 0))]
def r68_22 : List AOper := [oM 19 7, oM 4 19]
def r68_23 : List AOper := [oO 20 (.bin .add 3 (.tmp 10) (kI 1)), oM 10 20]
def r68_25 : List AOper := [oO 4 (.mv (kI 0))]
def tr68 : List (Nat × Tidy) := [tT 0 [0, 1], tT 1 [0, 8, 9, 10], tT 2 [0, 8, 9, 10, 11], tT 3 [0, 6, 8, 9, 10], tT 4 [0, 7, 8, 9, 10], tT 5 [0, 7, 8, 9, 10, 18], tT 6 [4], tT 7 [0, 8, 9, 10], tT 8 [4]]
def tl68 : List (Nat × Tidy) := [(2, ⟨[0, 8, 9, 10], true, [⟨false, 8, 0, 20008, 2⟩], []⟩)]
def rs68 : List AResV := [.tmp 4]
def p68_0_0 : PT St := pS [sl 0 (aV false [(cD (dI .i64))]), sl 8 (aV false [(cD dL)]), sl 9 (aV false [(cD (dI .i64))]), sl 10 (aV false [(cD (dI .i64))])] []
def u68_0_0 {β : Type} (g : St → β) : Int → Rows → Int → Int → β := p68_0_0.unc g
def p68_0_1 : PT St := pS [sl 4 (aV false [(cD (dI .i64))])] []
def u68_0_1 {β : Type} (g : St → β) : Int → β := p68_0_1.unc g
def p68_0_2 : PT St := pS [sl 0 (aV false [(cD (dI .i64))]), sl 8 (aV false [(cD dL)]), sl 9 (aV false [(cD (dI .i64))]), sl 10 (aV false [(cD (dI .i64))]), sl 11 (aV false [(cD dB)])] []
def u68_0_2 {β : Type} (g : St → β) : Int → Rows → Int → Int → Bool → β := p68_0_2.unc g
def pr68_0_0 : PT (List RV) := pRs [pR false [rD (dI .i64)]]
def ur68_0_0 {β : Type} (g : List RV → β) : Int → β := pr68_0_0.unc g
def E68_0g (vf73_0 : Tf73_0) : EnvK := EnvK.of [⟨73, nt73, [⟨pa73_0, Fn73_0 vf73_0⟩]⟩] noSeq
noncomputable def E68_0 : EnvK := E68_0g f73_0
theorem eo68_0 : E68_0.Ok Try.prog := EnvK.of_ok noSeq_ok ⟨⟨io73_0, trivial⟩, trivial⟩
noncomputable def c68_0_7g  : MCode := (.seq (.region r68_9 [] (tO [0, 8, 9, 10, 11])) (.seq (.cond (.tmp 11) .skip (.exit 0)) (.seq (.block 1 (.seq (.region r68_15 [] (tO [0, 6, 8, 9, 10])) (.seq (.region r68_17 [] (tO [0, 7, 8, 9, 10])) (.seq (.region r68_19 [] (tO [0, 7, 8, 9, 10, 18])) (.cond (.tmp 18) (.seq (.region r68_22 [] (tO [4])) .ret) .skip))))) (.region r68_23 [] (tO [0, 8, 9, 10])))))
noncomputable def c68_0_7 : MCode := c68_0_7g 
theorem g68_0_7 : c68_0_7.Good Try.prog E68_0 sh68 := ⟨trivial, ⟨⟨trivial, trivial⟩, ⟨⟨trivial, ⟨trivial, ⟨trivial, ⟨⟨trivial, trivial⟩, trivial⟩⟩⟩⟩, trivial⟩⟩⟩
--CODE 7 0
def S68_0_0g (vf73_0 : Tf73_0) (α : Type) (x3 : Int) (x4 : Rows) (x5 x6 : Int) (kn : Int → Option α) (k1 : Int → Option α) (k2 : Int → Bool → Option α) : Option α :=
 cK (decide (x6 < x5))
 (rowK x4 x6 [.int .i64, .int .i64]
 (fun x8 x9 => vf73_0 α x8 x9 x3
 (fun x10 => cK (x10 != 0)
 (k1 x10)
 (kn (w64 (x6 + 1))))))
 (k2 x6 (decide (x6 < x5)))
noncomputable def S68_0_0 (α : Type) (x3 : Int) (x4 : Rows) (x5 x6 : Int) (kn : Int → Option α) (k1 : Int → Option α) (k2 : Int → Bool → Option α) : Option α := S68_0_0g f73_0 α x3 x4 x5 x6 kn k1 k2
noncomputable def R68_0_0 (α : Type) (x3 : Int) (x4 : Rows) (x5 : Int) (k1 : Int → Option α) (k2 : Int → Bool → Option α) : Nat → Int → Option α
 | 0, _ => none
 | n + 1, x6 => S68_0_0 α x3 x4 x5 x6 (R68_0_0 α x3 x4 x5 k1 k2 n) k1 k2
noncomputable def L68_0_0 (α : Type) (x3 : Int) (x4 : Rows) (x5 : Int) (k1 : Int → Option α) (k2 : Int → Bool → Option α) (x6 : Int) : Option α := R68_0_0 α x3 x4 x5 k1 k2 fuel x6
abbrev TL68_0_0 : Type 1 := (α : Type) → Int → Rows → Int → (Int → Option α) → (Int → Bool → Option α) → Int → Option α
def F68_0_0 (v : TL68_0_0) (α : Type) (K : Exit → St → Option α) : Int → Rows → Int → Int → Option α := fun x3 x4 x5 x6 => v α x3 x4 x5 (fun (y1 : Int) => u68_0_1 (K .ret) y1) (fun (y1 : Int) (y2 : Bool) => u68_0_2 (K (.exit 0)) x3 x4 x5 y1 y2) x6
theorem r68_0_0g (vf73_0 : Tf73_0)  (α : Type) (K : Exit → St → Option α) (Kn : St → Option α) (x3 : Int) (x4 : Rows) (x5 x6 : Int) : u68_0_0 (fun σ => runM Try.prog (E68_0g vf73_0) sh68 (c68_0_7g ) (thenK (fun σ => tidyK td68_7 σ Kn) K) σ) x3 x4 x5 x6 = S68_0_0g vf73_0 α x3 x4 x5 x6 (fun x6 => u68_0_0 Kn x3 x4 x5 x6) (fun (y1 : Int) => u68_0_1 (K .ret) y1) (fun (y1 : Int) (y2 : Bool) => u68_0_2 (K (.exit 0)) x3 x4 x5 y1 y2) := by kernel_rfl
theorem r68_0_0 (α : Type) (K : Exit → St → Option α) (Kn : St → Option α) (x3 : Int) (x4 : Rows) (x5 x6 : Int) : u68_0_0 (fun σ => runM Try.prog E68_0 sh68 c68_0_7 (thenK (fun σ => tidyK td68_7 σ Kn) K) σ) x3 x4 x5 x6 = S68_0_0 α x3 x4 x5 x6 (fun x6 => u68_0_0 Kn x3 x4 x5 x6) (fun (y1 : Int) => u68_0_1 (K .ret) y1) (fun (y1 : Int) (y2 : Bool) => u68_0_2 (K (.exit 0)) x3 x4 x5 y1 y2) := r68_0_0g f73_0 α K Kn x3 x4 x5 x6
theorem t68_0_0 (α : Type) (K : Exit → St → Option α) : ∀ (n : Nat) (x3 : Int) (x4 : Rows) (x5 x6 : Int), R68_0_0 α x3 x4 x5 (fun (y1 : Int) => u68_0_1 (K .ret) y1) (fun (y1 : Int) (y2 : Bool) => u68_0_2 (K (.exit 0)) x3 x4 x5 y1 y2) n x6 = u68_0_0 (loopT (runM Try.prog E68_0 sh68 c68_0_7) td68_7 K n) x3 x4 x5 x6 := by
 intro n
 induction n with
 | zero => intros; rfl
 | succ n ih => intro x3 x4 x5 x6; exact (congrArg (fun kn => S68_0_0 α x3 x4 x5 x6 kn (fun (y1 : Int) => u68_0_1 (K .ret) y1) (fun (y1 : Int) (y2 : Bool) => u68_0_2 (K (.exit 0)) x3 x4 x5 y1 y2)) (funext fun x6 => ih x3 x4 x5 x6)).trans (r68_0_0 α K (loopT (runM Try.prog E68_0 sh68 c68_0_7) td68_7 K n) x3 x4 x5 x6).symm
theorem m68_0_0 : ∀ (α : Type) (K : Exit → St → Option α), F68_0_0 L68_0_0 α K = p68_0_0.unc fun σ => loopT (runM Try.prog E68_0 sh68 c68_0_7) td68_7 K fuel σ := fun α K => funext fun x3 => funext fun x4 => funext fun x5 => funext fun x6 => t68_0_0 α K fuel x3 x4 x5 x6
abbrev Tf68_0 : Type 1 := (α : Type) → Int → Rows → (Int → Option α) → Option α
def f68_0g (vL68_0_0 : TL68_0_0) (α : Type) (x1 : Int) (x2 : Rows) (k1 : Int → Option α) : Option α :=
 vL68_0_0 α x1 x2 ((List.length x2 : Nat) : Int)
 (fun x11 => k1 x11)
 (fun x12 x13 => k1 0) 0
noncomputable def f68_0 (α : Type) (x1 : Int) (x2 : Rows) (k1 : Int → Option α) : Option α := f68_0g L68_0_0 α x1 x2 k1
def pa68_0 : PT (List DV) := pA [pV false [(dI .i64)], pV false [dL]]
def Fn68_0 (v : Tf68_0) (α : Type) (k : List RV → Option α) : Int → Rows → Option α := fun x1 x2 => v α x1 x2 (fun (y1 : Int) => ur68_0_0 k y1)
noncomputable def cm68_0g (vL68_0_0 : TL68_0_0) : MCode := (.seq (.region r68_2 [] (tO [0, 1])) (.seq (.seq (.region r68_5 [] (tO [0, 8, 9, 10])) (.block 0 (.loop td68_7 [⟨p68_0_0, F68_0_0 vL68_0_0⟩] c68_0_7))) (.seq (.region r68_25 [] (tO [4])) .ret)))
noncomputable def cm68_0 : MCode := cm68_0g L68_0_0
theorem gm68_0 : cm68_0.Good Try.prog E68_0 sh68 := ⟨trivial, ⟨⟨trivial, ⟨g68_0_7, m68_0_0, trivial⟩⟩, ⟨trivial, trivial⟩⟩⟩
theorem fm68_0g (vf73_0 : Tf73_0) (vL68_0_0 : TL68_0_0) (α : Type) (k : List RV → Option α) : Fn68_0 (f68_0g vL68_0_0) α k = pa68_0.unc fun ds => fnM Try.prog (E68_0g vf73_0) sh68 (cm68_0g vL68_0_0) rs68 k ds := by kernel_rfl
theorem fm68_0 : ∀ (α : Type) (k : List RV → Option α), Fn68_0 f68_0 α k = pa68_0.unc fun ds => fnM Try.prog E68_0 sh68 cm68_0 rs68 k ds := fm68_0g f73_0 L68_0_0
theorem is68 : FnIs Try.prog 68 nt68 tr68 tl68 cm68_0.erase rs68 := ⟨Try.f68, Try.func68, rfl, by kernel_rfl, by kernel_rfl, by kernel_rfl⟩
theorem io68_0 : InstOk Try.prog 68 nt68 ⟨pa68_0, Fn68_0 f68_0⟩ := inst_ok eo68_0 followsTry is68 ⟨⟨sh68, cm68_0, by kernel_rfl, gm68_0, fm68_0⟩⟩
abbrev nt64 : Nat := 19
def sh64 : List (Nat × List Sh) := [(14, [.int .i64]), (15, [.int .i64])]
def r64_2 : List AOper := [oO 4 (.mv (kI 0))]
def r64_5 : List AOper := [oM 6 0, oO 7 (.len (.tmp 6)), oO 8 (.mv (kI 0))]
def td64_7 : Option Tidy := (tO [0, 1, 7, 8])
def r64_9 : List AOper := [oO 9 (.bin .lss 3 (.tmp 8) (.tmp 7))]
def r64_15 : List AOper := [oM 10 8, oM 5 10]
def r64_17 : List AOper := [oM 11 1, oM 12 0, oM 13 5, oO 14 (.iaddr 1 none (.tmp 12) (.tmp 13)), oO 15 (.load false 1 (.tmp 14)), oO 16 (.calld (.tmp 11) [(.tmp 15)])]
def r64_20 : List AOper := [oM 17 5, oM 4 17]
def r64_21 : List AOper := [oO 18 (.bin .add 3 (.tmp 8) (kI 1)), oM 8 18]
def r64_23 : List AOper := [oO 4 (.mv (kI (-1)))]
def tr64 : List (Nat × Tidy) := [tT 0 [0, 1], tT 1 [0, 1, 7, 8], tT 2 [0, 1, 7, 8, 9], tT 3 [0, 1, 5, 7, 8], tT 4 [0, 1, 5, 7, 8, 16], tT 5 [4], tT 6 [0, 1, 7, 8], tT 7 [4]]
def tl64 : List (Nat × Tidy) := [tT 2 [0, 1, 7, 8]]
def rs64 : List AResV := [.tmp 4]
def p64_0_0 : PT St := pS [sl 0 (aV false [(cD dL)]), sl 1 (aV false [(cD (dFn 63 []))]), sl 7 (aV false [(cD (dI .i64))]), sl 8 (aV false [(cD (dI .i64))])] []
def u64_0_0 {β : Type} (g : St → β) : Rows → Int → Int → β := p64_0_0.unc g
def p64_0_1 : PT St := pS [sl 4 (aV false [(cD (dI .i64))])] []
def u64_0_1 {β : Type} (g : St → β) : Int → β := p64_0_1.unc g
def p64_0_2 : PT St := pS [sl 0 (aV false [(cD dL)]), sl 1 (aV false [(cD (dFn 63 []))]), sl 7 (aV false [(cD (dI .i64))]), sl 8 (aV false [(cD (dI .i64))]), sl 9 (aV false [(cD dB)])] []
def u64_0_2 {β : Type} (g : St → β) : Rows → Int → Int → Bool → β := p64_0_2.unc g
def pr64_0_0 : PT (List RV) := pRs [pR false [rD (dI .i64)]]
def ur64_0_0 {β : Type} (g : List RV → β) : Int → β := pr64_0_0.unc g
def E64_0g (vf63_0 : Tf63_0) : EnvK := EnvK.of [⟨63, nt63, [⟨pa63_0, Fn63_0 vf63_0⟩]⟩] noSeq
noncomputable def E64_0 : EnvK := E64_0g f63_0
theorem eo64_0 : E64_0.Ok Try.prog := EnvK.of_ok noSeq_ok ⟨⟨io63_0, trivial⟩, trivial⟩
noncomputable def c64_0_7g  : MCode := (.seq (.region r64_9 [] (tO [0, 1, 7, 8, 9])) (.seq (.cond (.tmp 9) .skip (.exit 0)) (.seq (.block 1 (.seq (.region r64_15 [] (tO [0, 1, 5, 7, 8])) (.seq (.region r64_17 [] (tO [0, 1, 5, 7, 8, 16])) (.cond (.tmp 16) (.seq (.region r64_20 [] (tO [4])) .ret) .skip)))) (.region r64_21 [] (tO [0, 1, 7, 8])))))
noncomputable def c64_0_7 : MCode := c64_0_7g 
theorem g64_0_7 : c64_0_7.Good Try.prog E64_0 sh64 := ⟨trivial, ⟨⟨trivial, trivial⟩, ⟨⟨trivial, ⟨trivial, ⟨⟨trivial, trivial⟩, trivial⟩⟩⟩, trivial⟩⟩⟩
--CODE 7 0
def S64_0_0g (vf63_0 : Tf63_0) (α : Type) (x2 : Rows) (x3 x4 : Int) (kn : Int → Option α) (k1 : Int → Option α) (k2 : Int → Bool → Option α) : Option α :=
 cK (decide (x4 < x3))
 (rowK x2 x4 [.int .i64]
 (fun x6 => vf63_0 α x6
 (fun x7 => cK x7
 (k1 x4)
 (kn (w64 (x4 + 1))))))
 (k2 x4 (decide (x4 < x3)))
noncomputable def S64_0_0 (α : Type) (x2 : Rows) (x3 x4 : Int) (kn : Int → Option α) (k1 : Int → Option α) (k2 : Int → Bool → Option α) : Option α := S64_0_0g f63_0 α x2 x3 x4 kn k1 k2
noncomputable def R64_0_0 (α : Type) (x2 : Rows) (x3 : Int) (k1 : Int → Option α) (k2 : Int → Bool → Option α) : Nat → Int → Option α
 | 0, _ => none
 | n + 1, x4 => S64_0_0 α x2 x3 x4 (R64_0_0 α x2 x3 k1 k2 n) k1 k2
noncomputable def L64_0_0 (α : Type) (x2 : Rows) (x3 : Int) (k1 : Int → Option α) (k2 : Int → Bool → Option α) (x4 : Int) : Option α := R64_0_0 α x2 x3 k1 k2 fuel x4
abbrev TL64_0_0 : Type 1 := (α : Type) → Rows → Int → (Int → Option α) → (Int → Bool → Option α) → Int → Option α
def F64_0_0 (v : TL64_0_0) (α : Type) (K : Exit → St → Option α) : Rows → Int → Int → Option α := fun x2 x3 x4 => v α x2 x3 (fun (y1 : Int) => u64_0_1 (K .ret) y1) (fun (y1 : Int) (y2 : Bool) => u64_0_2 (K (.exit 0)) x2 x3 y1 y2) x4
theorem r64_0_0g (vf63_0 : Tf63_0)  (α : Type) (K : Exit → St → Option α) (Kn : St → Option α) (x2 : Rows) (x3 x4 : Int) : u64_0_0 (fun σ => runM Try.prog (E64_0g vf63_0) sh64 (c64_0_7g ) (thenK (fun σ => tidyK td64_7 σ Kn) K) σ) x2 x3 x4 = S64_0_0g vf63_0 α x2 x3 x4 (fun x4 => u64_0_0 Kn x2 x3 x4) (fun (y1 : Int) => u64_0_1 (K .ret) y1) (fun (y1 : Int) (y2 : Bool) => u64_0_2 (K (.exit 0)) x2 x3 y1 y2) := by kernel_rfl
theorem r64_0_0 (α : Type) (K : Exit → St → Option α) (Kn : St → Option α) (x2 : Rows) (x3 x4 : Int) : u64_0_0 (fun σ => runM Try.prog E64_0 sh64 c64_0_7 (thenK (fun σ => tidyK td64_7 σ Kn) K) σ) x2 x3 x4 = S64_0_0 α x2 x3 x4 (fun x4 => u64_0_0 Kn x2 x3 x4) (fun (y1 : Int) => u64_0_1 (K .ret) y1) (fun (y1 : Int) (y2 : Bool) => u64_0_2 (K (.exit 0)) x2 x3 y1 y2) := r64_0_0g f63_0 α K Kn x2 x3 x4
theorem t64_0_0 (α : Type) (K : Exit → St → Option α) : ∀ (n : Nat) (x2 : Rows) (x3 x4 : Int), R64_0_0 α x2 x3 (fun (y1 : Int) => u64_0_1 (K .ret) y1) (fun (y1 : Int) (y2 : Bool) => u64_0_2 (K (.exit 0)) x2 x3 y1 y2) n x4 = u64_0_0 (loopT (runM Try.prog E64_0 sh64 c64_0_7) td64_7 K n) x2 x3 x4 := by
 intro n
 induction n with
 | zero => intros; rfl
 | succ n ih => intro x2 x3 x4; exact (congrArg (fun kn => S64_0_0 α x2 x3 x4 kn (fun (y1 : Int) => u64_0_1 (K .ret) y1) (fun (y1 : Int) (y2 : Bool) => u64_0_2 (K (.exit 0)) x2 x3 y1 y2)) (funext fun x4 => ih x2 x3 x4)).trans (r64_0_0 α K (loopT (runM Try.prog E64_0 sh64 c64_0_7) td64_7 K n) x2 x3 x4).symm
theorem m64_0_0 : ∀ (α : Type) (K : Exit → St → Option α), F64_0_0 L64_0_0 α K = p64_0_0.unc fun σ => loopT (runM Try.prog E64_0 sh64 c64_0_7) td64_7 K fuel σ := fun α K => funext fun x2 => funext fun x3 => funext fun x4 => t64_0_0 α K fuel x2 x3 x4
abbrev Tf64_0 : Type 1 := (α : Type) → Rows → (Int → Option α) → Option α
def f64_0g (vL64_0_0 : TL64_0_0) (α : Type) (x1 : Rows) (k1 : Int → Option α) : Option α :=
 vL64_0_0 α x1 ((List.length x1 : Nat) : Int)
 (fun x8 => k1 x8)
 (fun x9 x10 => k1 (-1)) 0
noncomputable def f64_0 (α : Type) (x1 : Rows) (k1 : Int → Option α) : Option α := f64_0g L64_0_0 α x1 k1
def pa64_0 : PT (List DV) := pA [pV false [dL], pV false [(dFn 63 [])]]
def Fn64_0 (v : Tf64_0) (α : Type) (k : List RV → Option α) : Rows → Option α := fun x1 => v α x1 (fun (y1 : Int) => ur64_0_0 k y1)
noncomputable def cm64_0g (vL64_0_0 : TL64_0_0) : MCode := (.seq (.region r64_2 [] (tO [0, 1])) (.seq (.seq (.region r64_5 [] (tO [0, 1, 7, 8])) (.block 0 (.loop td64_7 [⟨p64_0_0, F64_0_0 vL64_0_0⟩] c64_0_7))) (.seq (.region r64_23 [] (tO [4])) .ret)))
noncomputable def cm64_0 : MCode := cm64_0g L64_0_0
theorem gm64_0 : cm64_0.Good Try.prog E64_0 sh64 := ⟨trivial, ⟨⟨trivial, ⟨g64_0_7, m64_0_0, trivial⟩⟩, ⟨trivial, trivial⟩⟩⟩
theorem fm64_0g (vf63_0 : Tf63_0) (vL64_0_0 : TL64_0_0) (α : Type) (k : List RV → Option α) : Fn64_0 (f64_0g vL64_0_0) α k = pa64_0.unc fun ds => fnM Try.prog (E64_0g vf63_0) sh64 (cm64_0g vL64_0_0) rs64 k ds := by kernel_rfl
theorem fm64_0 : ∀ (α : Type) (k : List RV → Option α), Fn64_0 f64_0 α k = pa64_0.unc fun ds => fnM Try.prog E64_0 sh64 cm64_0 rs64 k ds := fm64_0g f63_0 L64_0_0
theorem is64 : FnIs Try.prog 64 nt64 tr64 tl64 cm64_0.erase rs64 := ⟨Try.f64, Try.func64, rfl, by kernel_rfl, by kernel_rfl, by kernel_rfl⟩
theorem io64_0 : InstOk Try.prog 64 nt64 ⟨pa64_0, Fn64_0 f64_0⟩ := inst_ok eo64_0 followsTry is64 ⟨⟨sh64, cm64_0, by kernel_rfl, gm64_0, fm64_0⟩⟩
def p64_1_0 : PT St := pS [sl 0 (aV false [(cD dL)]), sl 1 (aV false [(cD (dFn 34 []))]), sl 7 (aV false [(cD (dI .i64))]), sl 8 (aV false [(cD (dI .i64))])] []
def u64_1_0 {β : Type} (g : St → β) : Rows → Int → Int → β := p64_1_0.unc g
def p64_1_1 : PT St := pS [sl 4 (aV false [(cD (dI .i64))])] []
def u64_1_1 {β : Type} (g : St → β) : Int → β := p64_1_1.unc g
def p64_1_2 : PT St := pS [sl 0 (aV false [(cD dL)]), sl 1 (aV false [(cD (dFn 34 []))]), sl 7 (aV false [(cD (dI .i64))]), sl 8 (aV false [(cD (dI .i64))]), sl 9 (aV false [(cD dB)])] []
def u64_1_2 {β : Type} (g : St → β) : Rows → Int → Int → Bool → β := p64_1_2.unc g
def pr64_1_0 : PT (List RV) := pRs [pR false [rD (dI .i64)]]
def ur64_1_0 {β : Type} (g : List RV → β) : Int → β := pr64_1_0.unc g
def E64_1g (vf34_0 : Tf34_0) : EnvK := EnvK.of [⟨34, nt34, [⟨pa34_0, Fn34_0 vf34_0⟩]⟩] noSeq
noncomputable def E64_1 : EnvK := E64_1g f34_0
theorem eo64_1 : E64_1.Ok Try.prog := EnvK.of_ok noSeq_ok ⟨⟨io34_0, trivial⟩, trivial⟩
noncomputable def c64_1_7g  : MCode := (.seq (.region r64_9 [] (tO [0, 1, 7, 8, 9])) (.seq (.cond (.tmp 9) .skip (.exit 0)) (.seq (.block 1 (.seq (.region r64_15 [] (tO [0, 1, 5, 7, 8])) (.seq (.region r64_17 [] (tO [0, 1, 5, 7, 8, 16])) (.cond (.tmp 16) (.seq (.region r64_20 [] (tO [4])) .ret) .skip)))) (.region r64_21 [] (tO [0, 1, 7, 8])))))
noncomputable def c64_1_7 : MCode := c64_1_7g 
theorem g64_1_7 : c64_1_7.Good Try.prog E64_1 sh64 := ⟨trivial, ⟨⟨trivial, trivial⟩, ⟨⟨trivial, ⟨trivial, ⟨⟨trivial, trivial⟩, trivial⟩⟩⟩, trivial⟩⟩⟩
--CODE 7 0
def S64_1_0g (vf34_0 : Tf34_0) (α : Type) (x2 : Rows) (x3 x4 : Int) (kn : Int → Option α) (k1 : Int → Option α) (k2 : Int → Bool → Option α) : Option α :=
 cK (decide (x4 < x3))
 (rowK x2 x4 [.int .i64]
 (fun x6 => vf34_0 α x6
 (fun x7 => cK x7
 (k1 x4)
 (kn (w64 (x4 + 1))))))
 (k2 x4 (decide (x4 < x3)))
noncomputable def S64_1_0 (α : Type) (x2 : Rows) (x3 x4 : Int) (kn : Int → Option α) (k1 : Int → Option α) (k2 : Int → Bool → Option α) : Option α := S64_1_0g f34_0 α x2 x3 x4 kn k1 k2
noncomputable def R64_1_0 (α : Type) (x2 : Rows) (x3 : Int) (k1 : Int → Option α) (k2 : Int → Bool → Option α) : Nat → Int → Option α
 | 0, _ => none
 | n + 1, x4 => S64_1_0 α x2 x3 x4 (R64_1_0 α x2 x3 k1 k2 n) k1 k2
noncomputable def L64_1_0 (α : Type) (x2 : Rows) (x3 : Int) (k1 : Int → Option α) (k2 : Int → Bool → Option α) (x4 : Int) : Option α := R64_1_0 α x2 x3 k1 k2 fuel x4
abbrev TL64_1_0 : Type 1 := (α : Type) → Rows → Int → (Int → Option α) → (Int → Bool → Option α) → Int → Option α
def F64_1_0 (v : TL64_1_0) (α : Type) (K : Exit → St → Option α) : Rows → Int → Int → Option α := fun x2 x3 x4 => v α x2 x3 (fun (y1 : Int) => u64_1_1 (K .ret) y1) (fun (y1 : Int) (y2 : Bool) => u64_1_2 (K (.exit 0)) x2 x3 y1 y2) x4
theorem r64_1_0g (vf34_0 : Tf34_0)  (α : Type) (K : Exit → St → Option α) (Kn : St → Option α) (x2 : Rows) (x3 x4 : Int) : u64_1_0 (fun σ => runM Try.prog (E64_1g vf34_0) sh64 (c64_1_7g ) (thenK (fun σ => tidyK td64_7 σ Kn) K) σ) x2 x3 x4 = S64_1_0g vf34_0 α x2 x3 x4 (fun x4 => u64_1_0 Kn x2 x3 x4) (fun (y1 : Int) => u64_1_1 (K .ret) y1) (fun (y1 : Int) (y2 : Bool) => u64_1_2 (K (.exit 0)) x2 x3 y1 y2) := by kernel_rfl
theorem r64_1_0 (α : Type) (K : Exit → St → Option α) (Kn : St → Option α) (x2 : Rows) (x3 x4 : Int) : u64_1_0 (fun σ => runM Try.prog E64_1 sh64 c64_1_7 (thenK (fun σ => tidyK td64_7 σ Kn) K) σ) x2 x3 x4 = S64_1_0 α x2 x3 x4 (fun x4 => u64_1_0 Kn x2 x3 x4) (fun (y1 : Int) => u64_1_1 (K .ret) y1) (fun (y1 : Int) (y2 : Bool) => u64_1_2 (K (.exit 0)) x2 x3 y1 y2) := r64_1_0g f34_0 α K Kn x2 x3 x4
theorem t64_1_0 (α : Type) (K : Exit → St → Option α) : ∀ (n : Nat) (x2 : Rows) (x3 x4 : Int), R64_1_0 α x2 x3 (fun (y1 : Int) => u64_1_1 (K .ret) y1) (fun (y1 : Int) (y2 : Bool) => u64_1_2 (K (.exit 0)) x2 x3 y1 y2) n x4 = u64_1_0 (loopT (runM Try.prog E64_1 sh64 c64_1_7) td64_7 K n) x2 x3 x4 := by
 intro n
 induction n with
 | zero => intros; rfl
 | succ n ih => intro x2 x3 x4; exact (congrArg (fun kn => S64_1_0 α x2 x3 x4 kn (fun (y1 : Int) => u64_1_1 (K .ret) y1) (fun (y1 : Int) (y2 : Bool) => u64_1_2 (K (.exit 0)) x2 x3 y1 y2)) (funext fun x4 => ih x2 x3 x4)).trans (r64_1_0 α K (loopT (runM Try.prog E64_1 sh64 c64_1_7) td64_7 K n) x2 x3 x4).symm
theorem m64_1_0 : ∀ (α : Type) (K : Exit → St → Option α), F64_1_0 L64_1_0 α K = p64_1_0.unc fun σ => loopT (runM Try.prog E64_1 sh64 c64_1_7) td64_7 K fuel σ := fun α K => funext fun x2 => funext fun x3 => funext fun x4 => t64_1_0 α K fuel x2 x3 x4
abbrev Tf64_1 : Type 1 := (α : Type) → Rows → (Int → Option α) → Option α
def f64_1g (vL64_1_0 : TL64_1_0) (α : Type) (x1 : Rows) (k1 : Int → Option α) : Option α :=
 vL64_1_0 α x1 ((List.length x1 : Nat) : Int)
 (fun x8 => k1 x8)
 (fun x9 x10 => k1 (-1)) 0
noncomputable def f64_1 (α : Type) (x1 : Rows) (k1 : Int → Option α) : Option α := f64_1g L64_1_0 α x1 k1
def pa64_1 : PT (List DV) := pA [pV false [dL], pV false [(dFn 34 [])]]
def Fn64_1 (v : Tf64_1) (α : Type) (k : List RV → Option α) : Rows → Option α := fun x1 => v α x1 (fun (y1 : Int) => ur64_1_0 k y1)
noncomputable def cm64_1g (vL64_1_0 : TL64_1_0) : MCode := (.seq (.region r64_2 [] (tO [0, 1])) (.seq (.seq (.region r64_5 [] (tO [0, 1, 7, 8])) (.block 0 (.loop td64_7 [⟨p64_1_0, F64_1_0 vL64_1_0⟩] c64_1_7))) (.seq (.region r64_23 [] (tO [4])) .ret)))
noncomputable def cm64_1 : MCode := cm64_1g L64_1_0
theorem gm64_1 : cm64_1.Good Try.prog E64_1 sh64 := ⟨trivial, ⟨⟨trivial, ⟨g64_1_7, m64_1_0, trivial⟩⟩, ⟨trivial, trivial⟩⟩⟩
theorem fm64_1g (vf34_0 : Tf34_0) (vL64_1_0 : TL64_1_0) (α : Type) (k : List RV → Option α) : Fn64_1 (f64_1g vL64_1_0) α k = pa64_1.unc fun ds => fnM Try.prog (E64_1g vf34_0) sh64 (cm64_1g vL64_1_0) rs64 k ds := by kernel_rfl
theorem fm64_1 : ∀ (α : Type) (k : List RV → Option α), Fn64_1 f64_1 α k = pa64_1.unc fun ds => fnM Try.prog E64_1 sh64 cm64_1 rs64 k ds := fm64_1g f34_0 L64_1_0
theorem io64_1 : InstOk Try.prog 64 nt64 ⟨pa64_1, Fn64_1 f64_1⟩ := inst_ok eo64_1 followsTry is64 ⟨⟨sh64, cm64_1, by kernel_rfl, gm64_1, fm64_1⟩⟩
abbrev nt42 : Nat := 11
def sh42 : List (Nat × List Sh) := [(4, [.int .i64, .int .i64]), (6, [.int .i64, .int .i64]), (8, [.int .i64, .int .i64])]
def r42_2 : List AOper := [oO 1 (.box (.tmp 0)), oO 2 (.mv (kI 0))]
def r42_4 : List AOper := [oO 3 (.faddr 0 (.tmp 1)), oO 4 (.load true 2 (.tmp 3)), oO 5 (.faddr 2 (.tmp 1)), oO 6 (.load true 2 (.tmp 5)), oO 7 (.faddr 4 (.tmp 1)), oO 8 (.load true 2 (.tmp 7)), oO 9 (.bslice 2 3 [(.v (.int .i64 0)), (.v (.int .i64 0))] [(0, (.tmp 4)), (1, (.tmp 6)), (2, (.tmp 8))]), oO 10 (.call 68 [(kI 10000000), (.tmp 9)]), oM 2 10]
def tr42 : List (Nat × Tidy) := [tT 0 [1], tT 1 [2]]
def tl42 : List (Nat × Tidy) := []
def rs42 : List AResV := [.tmp 2]
def pr42_0_0 : PT (List RV) := pRs [pR false [rD (dI .i64)]]
def ur42_0_0 {β : Type} (g : List RV → β) : Int → β := pr42_0_0.unc g
def E42_0g (vf68_0 : Tf68_0) : EnvK := EnvK.of [⟨68, nt68, [⟨pa68_0, Fn68_0 vf68_0⟩]⟩] noSeq
noncomputable def E42_0 : EnvK := E42_0g f68_0
theorem eo42_0 : E42_0.Ok Try.prog := EnvK.of_ok noSeq_ok ⟨⟨io68_0, trivial⟩, trivial⟩
abbrev Tf42_0 : Type 1 := (α : Type) → Int → Int → Int → Int → Int → Int → (Int → Option α) → Option α
def f42_0g (vf68_0 : Tf68_0) (α : Type) (x1 x2 x3 x4 x5 x6 : Int) (k1 : Int → Option α) : Option α :=
 vf68_0 α 10000000 [[DC.v (.int .i64 x1), DC.v (.int .i64 x2)], [DC.v (.int .i64 x3), DC.v (.int .i64 x4)], [DC.v (.int .i64 x5), DC.v (.int .i64 x6)]]
 (fun x7 => k1 x7)
noncomputable def f42_0 (α : Type) (x1 x2 x3 x4 x5 x6 : Int) (k1 : Int → Option α) : Option α := f42_0g f68_0 α x1 x2 x3 x4 x5 x6 k1
def pa42_0 : PT (List DV) := pA [pV true [(dI .i64), (dI .i64), (dI .i64), (dI .i64), (dI .i64), (dI .i64)]]
def Fn42_0 (v : Tf42_0) (α : Type) (k : List RV → Option α) : Int → Int → Int → Int → Int → Int → Option α := fun x1 x2 x3 x4 x5 x6 => v α x1 x2 x3 x4 x5 x6 (fun (y1 : Int) => ur42_0_0 k y1)
noncomputable def cm42_0g  : MCode := (.seq (.region r42_2 [] (tO [1])) (.seq (.region r42_4 [] (tO [2])) .ret))
noncomputable def cm42_0 : MCode := cm42_0g 
theorem gm42_0 : cm42_0.Good Try.prog E42_0 sh42 := ⟨trivial, ⟨trivial, trivial⟩⟩
theorem fm42_0g (vf68_0 : Tf68_0)  (α : Type) (k : List RV → Option α) : Fn42_0 (f42_0g vf68_0) α k = pa42_0.unc fun ds => fnM Try.prog (E42_0g vf68_0) sh42 (cm42_0g ) rs42 k ds := by kernel_rfl
theorem fm42_0 : ∀ (α : Type) (k : List RV → Option α), Fn42_0 f42_0 α k = pa42_0.unc fun ds => fnM Try.prog E42_0 sh42 cm42_0 rs42 k ds := fm42_0g f68_0
theorem is42 : FnIs Try.prog 42 nt42 tr42 tl42 cm42_0.erase rs42 := ⟨Try.f42, Try.func42, rfl, by kernel_rfl, by kernel_rfl, by kernel_rfl⟩
theorem io42_0 : InstOk Try.prog 42 nt42 ⟨pa42_0, Fn42_0 f42_0⟩ := inst_ok eo42_0 followsTry is42 ⟨⟨sh42, cm42_0, by kernel_rfl, gm42_0, fm42_0⟩⟩
abbrev nt54 : Nat := 22
def sh54 : List (Nat × List Sh) := [(5, [.str]), (7, [.int .i64]), (9, [.int .i64, .int .i64]), (15, [.int .i64, .int .i64]), (17, [.int .i64, .int .i64]), (19, [.int .i64, .int .i64])]
def r54_2 : List AOper := [oO 1 (.box (.tmp 0)), oO 2 (.mv (kI 0))]
def r54_5 : List AOper := [oO 4 (.faddr 0 (.tmp 1)), oO 5 (.load false 1 (.tmp 4)), oO 6 (.faddr 1 (.tmp 1)), oO 7 (.load false 1 (.tmp 6)), oO 8 (.faddr 2 (.tmp 1)), oO 9 (.load true 2 (.tmp 8)), oO 10 (.call 41 [(.tmp 5), (.tmp 7), (.tmp 9)]), oM 3 10]
def r54_7 : List AOper := [oM 11 3, oO 12 (.bin .neq 30 (.tmp 11) (kI 0))]
def r54_10 : List AOper := [oM 13 3, oM 2 13]
def r54_12 : List AOper := [oO 14 (.faddr 4 (.tmp 1)), oO 15 (.load true 2 (.tmp 14)), oO 16 (.faddr 6 (.tmp 1)), oO 17 (.load true 2 (.tmp 16)), oO 18 (.faddr 8 (.tmp 1)), oO 19 (.load true 2 (.tmp 18)), oO 20 (.bslice 2 3 [(.v (.int .i64 0)), (.v (.int .i64 0))] [(0, (.tmp 15)), (1, (.tmp 17)), (2, (.tmp 19))]), oO 21 (.call 68 [(kI 1048576), (.tmp 20)]), oM 2 21]
def tr54 : List (Nat × Tidy) := [tT 0 [1], tT 1 [1, 3], tT 2 [1, 3, 12], tT 3 [2], tT 4 [2]]
def tl54 : List (Nat × Tidy) := []
def rs54 : List AResV := [.tmp 2]
def pr54_0_0 : PT (List RV) := pRs [pR false [rD (dI .i64)]]
def ur54_0_0 {β : Type} (g : List RV → β) : Int → β := pr54_0_0.unc g
def E54_0g (vf41_0 : Tf41_0) (vf68_0 : Tf68_0) : EnvK := EnvK.of [⟨41, nt41, [⟨pa41_0, Fn41_0 vf41_0⟩]⟩, ⟨68, nt68, [⟨pa68_0, Fn68_0 vf68_0⟩]⟩] noSeq
noncomputable def E54_0 : EnvK := E54_0g f41_0 f68_0
theorem eo54_0 : E54_0.Ok Try.prog := EnvK.of_ok noSeq_ok ⟨⟨io41_0, trivial⟩, ⟨io68_0, trivial⟩, trivial⟩
abbrev Tf54_0 : Type 1 := (α : Type) → ByteArray → Int → Int → Int → Int → Int → Int → Int → Int → Int → (Int → Option α) → Option α
def f54_0g (vf41_0 : Tf41_0) (vf68_0 : Tf68_0) (α : Type) (x1 : ByteArray) (x2 x3 x4 x5 x6 x7 x8 x9 x10 : Int) (k1 : Int → Option α) : Option α :=
 vf41_0 α x1 x2 x3 x4
 (fun x11 => cK (x11 != 0)
 (k1 x11)
 (vf68_0 α 1048576 [[DC.v (.int .i64 x5), DC.v (.int .i64 x6)], [DC.v (.int .i64 x7), DC.v (.int .i64 x8)], [DC.v (.int .i64 x9), DC.v (.int .i64 x10)]]
 (fun x12 => k1 x12)))
noncomputable def f54_0 (α : Type) (x1 : ByteArray) (x2 x3 x4 x5 x6 x7 x8 x9 x10 : Int) (k1 : Int → Option α) : Option α := f54_0g f41_0 f68_0 α x1 x2 x3 x4 x5 x6 x7 x8 x9 x10 k1
def pa54_0 : PT (List DV) := pA [pV true [dS, (dI .i64), (dI .i64), (dI .i64), (dI .i64), (dI .i64), (dI .i64), (dI .i64), (dI .i64), (dI .i64)]]
def Fn54_0 (v : Tf54_0) (α : Type) (k : List RV → Option α) : ByteArray → Int → Int → Int → Int → Int → Int → Int → Int → Int → Option α := fun x1 x2 x3 x4 x5 x6 x7 x8 x9 x10 => v α x1 x2 x3 x4 x5 x6 x7 x8 x9 x10 (fun (y1 : Int) => ur54_0_0 k y1)
noncomputable def cm54_0g  : MCode := (.seq (.region r54_2 [] (tO [1])) (.seq (.seq (.region r54_5 [] (tO [1, 3])) (.seq (.region r54_7 [] (tO [1, 3, 12])) (.cond (.tmp 12) (.seq (.region r54_10 [] (tO [2])) .ret) .skip))) (.seq (.region r54_12 [] (tO [2])) .ret)))
noncomputable def cm54_0 : MCode := cm54_0g 
theorem gm54_0 : cm54_0.Good Try.prog E54_0 sh54 := ⟨trivial, ⟨⟨trivial, ⟨trivial, ⟨⟨trivial, trivial⟩, trivial⟩⟩⟩, ⟨trivial, trivial⟩⟩⟩
theorem fm54_0g (vf41_0 : Tf41_0) (vf68_0 : Tf68_0)  (α : Type) (k : List RV → Option α) : Fn54_0 (f54_0g vf41_0 vf68_0) α k = pa54_0.unc fun ds => fnM Try.prog (E54_0g vf41_0 vf68_0) sh54 (cm54_0g ) rs54 k ds := by kernel_rfl
theorem fm54_0 : ∀ (α : Type) (k : List RV → Option α), Fn54_0 f54_0 α k = pa54_0.unc fun ds => fnM Try.prog E54_0 sh54 cm54_0 rs54 k ds := fm54_0g f41_0 f68_0
theorem is54 : FnIs Try.prog 54 nt54 tr54 tl54 cm54_0.erase rs54 := ⟨Try.f54, Try.func54, rfl, by kernel_rfl, by kernel_rfl, by kernel_rfl⟩
theorem io54_0 : InstOk Try.prog 54 nt54 ⟨pa54_0, Fn54_0 f54_0⟩ := inst_ok eo54_0 followsTry is54 ⟨⟨sh54, cm54_0, by kernel_rfl, gm54_0, fm54_0⟩⟩
abbrev nt33 : Nat := 9
def sh33 : List (Nat × List Sh) := []
def r33_2 : List AOper := [oO 4 (.mv (.const (.bool false)))]
def r33_4 : List AOper := [oM 5 0, oM 6 1, oO 7 (.call 64 [(.tmp 5), (.tmp 6)]), oO 8 (.bin .geq 3 (.tmp 7) (kI 0)), oM 4 8]
def tr33 : List (Nat × Tidy) := [tT 0 [0, 1], tT 1 [4]]
def tl33 : List (Nat × Tidy) := []
def rs33 : List AResV := [.tmp 4]
def pr33_0_0 : PT (List RV) := pRs [pR false [rD dB]]
def ur33_0_0 {β : Type} (g : List RV → β) : Bool → β := pr33_0_0.unc g
def E33_0g (vf64_0 : Tf64_0) : EnvK := EnvK.of [⟨64, nt64, [⟨pa64_0, Fn64_0 vf64_0⟩]⟩] noSeq
noncomputable def E33_0 : EnvK := E33_0g f64_0
theorem eo33_0 : E33_0.Ok Try.prog := EnvK.of_ok noSeq_ok ⟨⟨io64_0, trivial⟩, trivial⟩
abbrev Tf33_0 : Type 1 := (α : Type) → Rows → (Bool → Option α) → Option α
def f33_0g (vf64_0 : Tf64_0) (α : Type) (x1 : Rows) (k1 : Bool → Option α) : Option α :=
 vf64_0 α x1
 (fun x2 => k1 (decide (0 ≤ x2)))
noncomputable def f33_0 (α : Type) (x1 : Rows) (k1 : Bool → Option α) : Option α := f33_0g f64_0 α x1 k1
def pa33_0 : PT (List DV) := pA [pV false [dL], pV false [(dFn 63 [])]]
def Fn33_0 (v : Tf33_0) (α : Type) (k : List RV → Option α) : Rows → Option α := fun x1 => v α x1 (fun (y1 : Bool) => ur33_0_0 k y1)
noncomputable def cm33_0g  : MCode := (.seq (.region r33_2 [] (tO [0, 1])) (.seq (.region r33_4 [] (tO [4])) .ret))
noncomputable def cm33_0 : MCode := cm33_0g 
theorem gm33_0 : cm33_0.Good Try.prog E33_0 sh33 := ⟨trivial, ⟨trivial, trivial⟩⟩
theorem fm33_0g (vf64_0 : Tf64_0)  (α : Type) (k : List RV → Option α) : Fn33_0 (f33_0g vf64_0) α k = pa33_0.unc fun ds => fnM Try.prog (E33_0g vf64_0) sh33 (cm33_0g ) rs33 k ds := by kernel_rfl
theorem fm33_0 : ∀ (α : Type) (k : List RV → Option α), Fn33_0 f33_0 α k = pa33_0.unc fun ds => fnM Try.prog E33_0 sh33 cm33_0 rs33 k ds := fm33_0g f64_0
theorem is33 : FnIs Try.prog 33 nt33 tr33 tl33 cm33_0.erase rs33 := ⟨Try.f33, Try.func33, rfl, by kernel_rfl, by kernel_rfl, by kernel_rfl⟩
theorem io33_0 : InstOk Try.prog 33 nt33 ⟨pa33_0, Fn33_0 f33_0⟩ := inst_ok eo33_0 followsTry is33 ⟨⟨sh33, cm33_0, by kernel_rfl, gm33_0, fm33_0⟩⟩
def pr33_1_0 : PT (List RV) := pRs [pR false [rD dB]]
def ur33_1_0 {β : Type} (g : List RV → β) : Bool → β := pr33_1_0.unc g
def E33_1g (vf64_1 : Tf64_1) : EnvK := EnvK.of [⟨64, nt64, [⟨pa64_1, Fn64_1 vf64_1⟩]⟩] noSeq
noncomputable def E33_1 : EnvK := E33_1g f64_1
theorem eo33_1 : E33_1.Ok Try.prog := EnvK.of_ok noSeq_ok ⟨⟨io64_1, trivial⟩, trivial⟩
abbrev Tf33_1 : Type 1 := (α : Type) → Rows → (Bool → Option α) → Option α
def f33_1g (vf64_1 : Tf64_1) (α : Type) (x1 : Rows) (k1 : Bool → Option α) : Option α :=
 vf64_1 α x1
 (fun x2 => k1 (decide (0 ≤ x2)))
noncomputable def f33_1 (α : Type) (x1 : Rows) (k1 : Bool → Option α) : Option α := f33_1g f64_1 α x1 k1
def pa33_1 : PT (List DV) := pA [pV false [dL], pV false [(dFn 34 [])]]
def Fn33_1 (v : Tf33_1) (α : Type) (k : List RV → Option α) : Rows → Option α := fun x1 => v α x1 (fun (y1 : Bool) => ur33_1_0 k y1)
noncomputable def cm33_1g  : MCode := (.seq (.region r33_2 [] (tO [0, 1])) (.seq (.region r33_4 [] (tO [4])) .ret))
noncomputable def cm33_1 : MCode := cm33_1g 
theorem gm33_1 : cm33_1.Good Try.prog E33_1 sh33 := ⟨trivial, ⟨trivial, trivial⟩⟩
theorem fm33_1g (vf64_1 : Tf64_1)  (α : Type) (k : List RV → Option α) : Fn33_1 (f33_1g vf64_1) α k = pa33_1.unc fun ds => fnM Try.prog (E33_1g vf64_1) sh33 (cm33_1g ) rs33 k ds := by kernel_rfl
theorem fm33_1 : ∀ (α : Type) (k : List RV → Option α), Fn33_1 f33_1 α k = pa33_1.unc fun ds => fnM Try.prog E33_1 sh33 cm33_1 rs33 k ds := fm33_1g f64_1
theorem io33_1 : InstOk Try.prog 33 nt33 ⟨pa33_1, Fn33_1 f33_1⟩ := inst_ok eo33_1 followsTry is33 ⟨⟨sh33, cm33_1, by kernel_rfl, gm33_1, fm33_1⟩⟩
abbrev nt31 : Nat := 12
def sh31 : List (Nat × List Sh) := [(4, [.int .i64])]
def r31_2 : List AOper := [oO 1 (.box (.tmp 0)), oO 2 (.mv (kI 0))]
def r31_5 : List AOper := [oO 3 (.faddr 9 (.tmp 1)), oO 4 (.load false 1 (.tmp 3)), oO 5 (.call 62 [(.tmp 4), (kI 1), (kI 1000)]), oO 6 (.pure (oB (.unOp .not 4 (.tmp 5)) 4)), oM 7 6, oG 8 (.faddr 0 (.tmp 1)) 7 false, oG 9 (.aslice 1 9 (.tmp 8)) 7 false, oG 10 (.call 33 [(.tmp 9), (.func 63)]) 7 false, oO 11 (.pick (.tmp 7) (.const (.bool true)) (.tmp 10))]
def r31_8 : List AOper := [oO 2 (.mv (kI 2))]
def r31_10 : List AOper := [oO 2 (.mv (kI 0))]
def tr31 : List (Nat × Tidy) := [(0, ⟨[1], true, [], [1]⟩), tT 1 [11], tT 2 [2], tT 3 [2]]
def tl31 : List (Nat × Tidy) := []
def rs31 : List AResV := [.tmp 2]
def pr31_0_0 : PT (List RV) := pRs [pR false [rD (dI .i64)]]
def ur31_0_0 {β : Type} (g : List RV → β) : Int → β := pr31_0_0.unc g
def E31_0g (vf62_0 : Tf62_0) (vf33_0 : Tf33_0) : EnvK := EnvK.of [⟨62, nt62, [⟨pa62_0, Fn62_0 vf62_0⟩]⟩, ⟨33, nt33, [⟨pa33_0, Fn33_0 vf33_0⟩]⟩] noSeq
noncomputable def E31_0 : EnvK := E31_0g f62_0 f33_0
theorem eo31_0 : E31_0.Ok Try.prog := EnvK.of_ok noSeq_ok ⟨⟨io62_0, trivial⟩, ⟨io33_0, trivial⟩, trivial⟩
abbrev Tf31_0 : Type 1 := (α : Type) → Int → Int → Int → Int → Int → Int → Int → Int → Int → Int → (Int → Option α) → Option α
def f31_0g (vf33_0 : Tf33_0) (vf62_0 : Tf62_0) (α : Type) (x1 x2 x3 x4 x5 x6 x7 x8 x9 x10 : Int) (k1 : Int → Option α) : Option α :=
 vf62_0 α x10 1 1000
 (fun x11 => cK (!x11)
 (k1 2)
 (vf33_0 α [[DC.v (.int .i64 x1)], [DC.v (.int .i64 x2)], [DC.v (.int .i64 x3)], [DC.v (.int .i64 x4)], [DC.v (.int .i64 x5)], [DC.v (.int .i64 x6)], [DC.v (.int .i64 x7)], [DC.v (.int .i64 x8)], [DC.v (.int .i64 x9)]]
 (fun x12 => cK x12
 (k1 2)
 (k1 0))))
noncomputable def f31_0 (α : Type) (x1 x2 x3 x4 x5 x6 x7 x8 x9 x10 : Int) (k1 : Int → Option α) : Option α := f31_0g f33_0 f62_0 α x1 x2 x3 x4 x5 x6 x7 x8 x9 x10 k1
def pa31_0 : PT (List DV) := pA [pV true [(dI .i64), (dI .i64), (dI .i64), (dI .i64), (dI .i64), (dI .i64), (dI .i64), (dI .i64), (dI .i64), (dI .i64)]]
def Fn31_0 (v : Tf31_0) (α : Type) (k : List RV → Option α) : Int → Int → Int → Int → Int → Int → Int → Int → Int → Int → Option α := fun x1 x2 x3 x4 x5 x6 x7 x8 x9 x10 => v α x1 x2 x3 x4 x5 x6 x7 x8 x9 x10 (fun (y1 : Int) => ur31_0_0 k y1)
noncomputable def cm31_0g  : MCode := (.seq (.region r31_2 [] (some ⟨[1], true, [], [1]⟩)) (.seq (.seq (.region r31_5 [] (tO [11])) (.cond (.tmp 11) (.seq (.region r31_8 [] (tO [2])) .ret) .skip)) (.seq (.region r31_10 [] (tO [2])) .ret)))
noncomputable def cm31_0 : MCode := cm31_0g 
theorem gm31_0 : cm31_0.Good Try.prog E31_0 sh31 := ⟨trivial, ⟨⟨trivial, ⟨⟨trivial, trivial⟩, trivial⟩⟩, ⟨trivial, trivial⟩⟩⟩
theorem fm31_0g (vf62_0 : Tf62_0) (vf33_0 : Tf33_0)  (α : Type) (k : List RV → Option α) : Fn31_0 (f31_0g vf33_0 vf62_0) α k = pa31_0.unc fun ds => fnM Try.prog (E31_0g vf62_0 vf33_0) sh31 (cm31_0g ) rs31 k ds := by kernel_rfl
theorem fm31_0 : ∀ (α : Type) (k : List RV → Option α), Fn31_0 f31_0 α k = pa31_0.unc fun ds => fnM Try.prog E31_0 sh31 cm31_0 rs31 k ds := fm31_0g f62_0 f33_0
theorem is31 : FnIs Try.prog 31 nt31 tr31 tl31 cm31_0.erase rs31 := ⟨Try.f31, Try.func31, rfl, by kernel_rfl, by kernel_rfl, by kernel_rfl⟩
theorem io31_0 : InstOk Try.prog 31 nt31 ⟨pa31_0, Fn31_0 f31_0⟩ := inst_ok eo31_0 followsTry is31 ⟨⟨sh31, cm31_0, by kernel_rfl, gm31_0, fm31_0⟩⟩
abbrev nt20 : Nat := 39
def sh20 : List (Nat × List Sh) := [(9, [.str, .int .i64, .int .i64, .int .i64, .int .i64, .int .i64, .int .i64, .int .i64, .int .i64, .int .i64]), (19, [.int .i64]), (22, [.int .i64]), (27, [.int .i64]), (30, [.int .i64]), (33, [.bool]), (38, [.int .i64, .int .i64])]
def r20_2 : List AOper := [oO 1 (.box (.tmp 0)), oO 2 (.alloc [(cI 0), (cI 0)]), oO 3 (.mv (kI 0))]
def r20_5 : List AOper := [oO 9 (.load true 10 (.tmp 1)), oO 10 (.call 54 [(.tmp 9)]), oM 4 10]
def r20_7 : List AOper := [oM 11 4, oO 12 (.bin .neq 30 (.tmp 11) (kI 0))]
def r20_10 : List AOper := [oO 13 (.build [(cI 0), (cI 0)] []), oM 14 4, oD (.store 2 (.tmp 2) (.tmp 13)), oM 3 14]
def r20_12 : List AOper := [oO 15 (.build [(cI 0), (cI 0)] [(0, 1, (kI 0)), (1, 1, (kI 1024))]), oO 5 (.alloc [(cI 0), (cI 0)]), oD (.store 2 (.tmp 5) (.tmp 15))]
def r20_14 : List AOper := [oO 6 (.alloc [(.d (.v (.bool false)))]), oD (.store 1 (.tmp 6) (.const (.bool false)))]
def td20_17 : Option Tidy := (tO [1, 2, 3, 5, 6])
def r20_19 : List AOper := [oM 7 16]
def r20_20 : List AOper := [oO 8 (.alloc [(cI 0), (cI 0)]), oD (.store 2 (.tmp 8) (.tmp 17))]
def r20_24 : List AOper := [oO 18 (.faddr 0 (.tmp 8)), oO 19 (.load false 1 (.tmp 18)), oO 20 (.faddr 4 (.tmp 1)), oO 21 (.faddr 1 (.tmp 20)), oO 22 (.load false 1 (.tmp 21)), oO 23 (.bin .geq 3 (.tmp 19) (.tmp 22))]
def r20_26 : List AOper := [oM 24 7, oO 25 (.faddr 0 (.tmp 5)), oD (.store 1 (.tmp 25) (.tmp 24))]
def r20_28 : List AOper := [oO 26 (.faddr 1 (.tmp 8)), oO 27 (.load false 1 (.tmp 26)), oO 28 (.faddr 4 (.tmp 1)), oO 29 (.faddr 0 (.tmp 28)), oO 30 (.load false 1 (.tmp 29)), oO 31 (.bin .leq 3 (.tmp 27) (.tmp 30)), oM 32 31, oG 33 (.load false 1 (.tmp 6)) 32 true, oG 34 (.pure (oB (.unOp .not 4 (.tmp 33)) 4)) 32 true, oO 35 (.pick (.tmp 32) (.tmp 34) (.const (.bool false)))]
def r20_30 : List AOper := [oM 36 7, oO 37 (.faddr 1 (.tmp 5)), oD (.store 1 (.tmp 37) (.tmp 36)), oD (.store 1 (.tmp 6) (.const (.bool true)))]
def r20_32 : List AOper := [oO 38 (.load true 2 (.tmp 5)), oD (.store 2 (.tmp 2) (.tmp 38)), oO 3 (.mv (kI 0))]
def tr20 : List (Nat × Tidy) := [tT 0 [1, 2, 3], tT 1 [1, 2, 3, 4], tT 2 [1, 2, 3, 4, 12], tT 3 [2, 3], tT 4 [1, 2, 3, 5], tT 5 [1, 2, 3, 5, 6], tT 6 [1, 2, 3, 5, 6, 7, 17], tT 7 [1, 2, 3, 5, 6, 7, 8], tT 8 [1, 2, 3, 5, 6, 7, 8, 23], tT 9 [1, 2, 3, 5, 6, 7, 8], tT 10 [1, 2, 3, 5, 6, 7, 35], tT 11 [1, 2, 3, 5, 6], tT 12 [2, 3]]
def tl20 : List (Nat × Tidy) := [tT 8 [1, 2, 3, 5, 6]]
def rs20 : List AResV := [.cell 2 true 2, .tmp 3]
def p20_0_0 : PT St := pS [sl 1 (aV false [(cPtr 1 0)]), sl 2 (aV false [(cPtr 2 0)]), sl 3 (aV false [(cD (dI .i64))]), sl 5 (aV false [(cPtr 5 0)]), sl 6 (aV false [(cPtr 6 0)])] [eBox 1 [(cD dS), (cD (dI .i64)), (cD (dI .i64)), (cD (dI .i64)), (cD (dI .i64)), (cD (dI .i64)), (cD (dI .i64)), (cD (dI .i64)), (cD (dI .i64)), (cD (dI .i64))], eBox 2 [(cD (dI .i64)), (cD (dI .i64))], eBox 5 [(cD (dI .i64)), (cD (dI .i64))], eBox 6 [(cD dB)]]
def u20_0_0 {β : Type} (g : St → β) : Int → ByteArray → Int → Int → Int → Int → Int → Int → Int → Int → Int → Int → Int → Int → Int → Bool → β := p20_0_0.unc g
def pr20_0_0 : PT (List RV) := pRs [pR true [rD (dI .i64), rD (dI .i64)], pR false [rD (dI .i64)]]
def ur20_0_0 {β : Type} (g : List RV → β) : Int → Int → Int → β := pr20_0_0.unc g
def E20_0g (vf54_0 : Tf54_0) (vq55 : Tq55) : EnvK := EnvK.of [⟨54, nt54, [⟨pa54_0, Fn54_0 vf54_0⟩]⟩] (seqE [⟨55, pq55, vq55⟩])
noncomputable def E20_0 : EnvK := E20_0g f54_0 q55
theorem eo20_0 : E20_0.Ok Try.prog := EnvK.of_ok (seqE_ok (l := [⟨55, pq55, q55⟩]) ⟨sqok55, trivial⟩) ⟨⟨io54_0, trivial⟩, trivial⟩
noncomputable def ca20_0_17 : MCode := (.seq (.region r20_19 [] (tO [1, 2, 3, 5, 6, 7, 17])) (.region r20_20 [] (tO [1, 2, 3, 5, 6, 7, 8])))
theorem ga20_0_17 : ca20_0_17.Good Try.prog E20_0 sh20 := ⟨trivial, trivial⟩
noncomputable def c20_0_17g  : MCode := (.block 1 (.seq (.seq (.region r20_24 [] (tO [1, 2, 3, 5, 6, 7, 8, 23])) (.cond (.tmp 23) (.region r20_26 [] (tO [1, 2, 3, 5, 6, 7, 8])) .skip)) (.seq (.region r20_28 [] (tO [1, 2, 3, 5, 6, 7, 35])) (.cond (.tmp 35) (.region r20_30 [] (tO [1, 2, 3, 5, 6])) .skip))))
noncomputable def c20_0_17 : MCode := c20_0_17g 
theorem g20_0_17 : c20_0_17.Good Try.prog E20_0 sh20 := ⟨⟨trivial, ⟨trivial, trivial⟩⟩, ⟨trivial, ⟨trivial, trivial⟩⟩⟩
--CODE 17 0
def S20_0_0g  (α : Type) (x17 x18 : Int) (y28 : Int × Int × Int) (x25 x26 : Int) (x27 : Bool) (kn : Int → Int → Bool → Option α) (k1 : Int → Int → Bool → Option α) : Option α :=
 cK (decide (x18 ≤ y28.2.1))
 (cK (decide (y28.2.2 ≤ x17))
 (cK (!x27)
 (kn y28.1 y28.1 true)
 (kn y28.1 x26 x27))
 (kn y28.1 x26 x27))
 (cK (decide (y28.2.2 ≤ x17))
 (cK (!x27)
 (kn x25 y28.1 true)
 (kn x25 x26 x27))
 (kn x25 x26 x27))
noncomputable def S20_0_0 (α : Type) (x17 x18 : Int) (y28 : Int × Int × Int) (x25 x26 : Int) (x27 : Bool) (kn : Int → Int → Bool → Option α) (k1 : Int → Int → Bool → Option α) : Option α := S20_0_0g  α x17 x18 y28 x25 x26 x27 kn k1
noncomputable def V20_0_0 (α : Type) (x17 x18 : Int) (k1 : Int → Int → Bool → Option α) : List (Int × Int × Int) → Int → Int → Bool → Option α
 | [], x25, x26, x27 => k1 x25 x26 x27
 | y28 :: ys, x25, x26, x27 => S20_0_0 α x17 x18 y28 x25 x26 x27 (V20_0_0 α x17 x18 k1 ys) k1
abbrev TV20_0_0 : Type 1 := (α : Type) → Int → Int → (Int → Int → Bool → Option α) → List (Int × Int × Int) → Int → Int → Bool → Option α
def F20_0_0 (v : TV20_0_0) (α : Type) (K : Exit → St → Option α) (ys : List (Int × Int × Int)) : Int → ByteArray → Int → Int → Int → Int → Int → Int → Int → Int → Int → Int → Int → Int → Int → Bool → Option α := fun x12 x13 x14 x15 x16 x17 x18 x19 x20 x21 x22 x23 x24 x25 x26 x27 => v α x17 x18 (fun (y1 : Int) (y2 : Int) (y3 : Bool) => u20_0_0 (K .normal) x12 x13 x14 x15 x16 x17 x18 x19 x20 x21 x22 x23 x24 y1 y2 y3) ys x25 x26 x27
theorem r20_0_0g (vf54_0 : Tf54_0) (vq55 : Tq55)  (α : Type) (K : Exit → St → Option α) (Kn : St → Option α) (y28 : Int × Int × Int) (x12 : Int) (x13 : ByteArray) (x14 x15 x16 x17 x18 x19 x20 x21 x22 x23 x24 x25 x26 : Int) (x27 : Bool) : u20_0_0 (fun σ => roundT (runM Try.prog (E20_0g vf54_0 vq55) sh20 ca20_0_17) (runM Try.prog (E20_0g vf54_0 vq55) sh20 c20_0_17) [16, 17] td20_17 Kn K (xIP.ex y28) σ) x12 x13 x14 x15 x16 x17 x18 x19 x20 x21 x22 x23 x24 x25 x26 x27 = S20_0_0g  α x17 x18 y28 x25 x26 x27 (fun x25 x26 x27 => u20_0_0 Kn x12 x13 x14 x15 x16 x17 x18 x19 x20 x21 x22 x23 x24 x25 x26 x27) (fun (y1 : Int) (y2 : Int) (y3 : Bool) => u20_0_0 (K .normal) x12 x13 x14 x15 x16 x17 x18 x19 x20 x21 x22 x23 x24 y1 y2 y3) := by kernel_rfl
theorem r20_0_0 (α : Type) (K : Exit → St → Option α) (Kn : St → Option α) (y28 : Int × Int × Int) (x12 : Int) (x13 : ByteArray) (x14 x15 x16 x17 x18 x19 x20 x21 x22 x23 x24 x25 x26 : Int) (x27 : Bool) : u20_0_0 (fun σ => roundT (runM Try.prog E20_0 sh20 ca20_0_17) (runM Try.prog E20_0 sh20 c20_0_17) [16, 17] td20_17 Kn K (xIP.ex y28) σ) x12 x13 x14 x15 x16 x17 x18 x19 x20 x21 x22 x23 x24 x25 x26 x27 = S20_0_0 α x17 x18 y28 x25 x26 x27 (fun x25 x26 x27 => u20_0_0 Kn x12 x13 x14 x15 x16 x17 x18 x19 x20 x21 x22 x23 x24 x25 x26 x27) (fun (y1 : Int) (y2 : Int) (y3 : Bool) => u20_0_0 (K .normal) x12 x13 x14 x15 x16 x17 x18 x19 x20 x21 x22 x23 x24 y1 y2 y3) := r20_0_0g f54_0 q55 α K Kn y28 x12 x13 x14 x15 x16 x17 x18 x19 x20 x21 x22 x23 x24 x25 x26 x27
theorem t20_0_0 (α : Type) (K : Exit → St → Option α) : ∀ (ys : List (Int × Int × Int)) (x12 : Int) (x13 : ByteArray) (x14 x15 x16 x17 x18 x19 x20 x21 x22 x23 x24 x25 x26 : Int) (x27 : Bool), V20_0_0 α x17 x18 (fun (y1 : Int) (y2 : Int) (y3 : Bool) => u20_0_0 (K .normal) x12 x13 x14 x15 x16 x17 x18 x19 x20 x21 x22 x23 x24 y1 y2 y3) ys x25 x26 x27 = u20_0_0 (roundsK (runM Try.prog E20_0 sh20 ca20_0_17) (runM Try.prog E20_0 sh20 c20_0_17) [16, 17] td20_17 K (ys.map xIP.ex)) x12 x13 x14 x15 x16 x17 x18 x19 x20 x21 x22 x23 x24 x25 x26 x27 := by
 intro ys
 induction ys with
 | nil => intros; rfl
 | cons y28 ys ih => intro x12 x13 x14 x15 x16 x17 x18 x19 x20 x21 x22 x23 x24 x25 x26 x27; exact (congrArg (fun kn => S20_0_0 α x17 x18 y28 x25 x26 x27 kn (fun (y1 : Int) (y2 : Int) (y3 : Bool) => u20_0_0 (K .normal) x12 x13 x14 x15 x16 x17 x18 x19 x20 x21 x22 x23 x24 y1 y2 y3)) (funext fun x25 => funext fun x26 => funext fun x27 => ih x12 x13 x14 x15 x16 x17 x18 x19 x20 x21 x22 x23 x24 x25 x26 x27)).trans (r20_0_0 α K (roundsK (runM Try.prog E20_0 sh20 ca20_0_17) (runM Try.prog E20_0 sh20 c20_0_17) [16, 17] td20_17 K (ys.map xIP.ex)) y28 x12 x13 x14 x15 x16 x17 x18 x19 x20 x21 x22 x23 x24 x25 x26 x27).symm
theorem m20_0_0 : ∀ (α : Type) (K : Exit → St → Option α) (ys : List (Int × Int × Int)), F20_0_0 V20_0_0 α K ys = p20_0_0.unc fun σ => roundsK (runM Try.prog E20_0 sh20 ca20_0_17) (runM Try.prog E20_0 sh20 c20_0_17) [16, 17] td20_17 K (ys.map xIP.ex) σ := fun α K ys => funext fun x12 => funext fun x13 => funext fun x14 => funext fun x15 => funext fun x16 => funext fun x17 => funext fun x18 => funext fun x19 => funext fun x20 => funext fun x21 => funext fun x22 => funext fun x23 => funext fun x24 => funext fun x25 => funext fun x26 => funext fun x27 => t20_0_0 α K ys x12 x13 x14 x15 x16 x17 x18 x19 x20 x21 x22 x23 x24 x25 x26 x27
abbrev Tf20_0 : Type 1 := (α : Type) → ByteArray → Int → Int → Int → Int → Int → Int → Int → Int → Int → (Int → Int → Int → Option α) → Option α
def f20_0g (vV20_0_0 : TV20_0_0) (vf54_0 : Tf54_0) (vq55 : Tq55) (α : Type) (x1 : ByteArray) (x2 x3 x4 x5 x6 x7 x8 x9 x10 : Int) (k1 : Int → Int → Int → Option α) : Option α :=
 vf54_0 α x1 x2 x3 x4 x5 x6 x7 x8 x9 x10
 (fun x11 => cK (x11 != 0)
 (k1 0 0 x11)
 (qK vq55 xIP fun y32 => vV20_0_0 α x5 x6
 (fun x29 x30 x31 => k1 x29 x30 0) y32 0 1024 false))
noncomputable def f20_0 (α : Type) (x1 : ByteArray) (x2 x3 x4 x5 x6 x7 x8 x9 x10 : Int) (k1 : Int → Int → Int → Option α) : Option α := f20_0g V20_0_0 f54_0 q55 α x1 x2 x3 x4 x5 x6 x7 x8 x9 x10 k1
def pa20_0 : PT (List DV) := pA [pV true [dS, (dI .i64), (dI .i64), (dI .i64), (dI .i64), (dI .i64), (dI .i64), (dI .i64), (dI .i64), (dI .i64)]]
def Fn20_0 (v : Tf20_0) (α : Type) (k : List RV → Option α) : ByteArray → Int → Int → Int → Int → Int → Int → Int → Int → Int → Option α := fun x1 x2 x3 x4 x5 x6 x7 x8 x9 x10 => v α x1 x2 x3 x4 x5 x6 x7 x8 x9 x10 (fun (y1 : Int) (y2 : Int) (y3 : Int) => ur20_0_0 k y1 y2 y3)
noncomputable def cm20_0g (vV20_0_0 : TV20_0_0) : MCode := (.seq (.region r20_2 [] (tO [1, 2, 3])) (.seq (.seq (.region r20_5 [] (tO [1, 2, 3, 4])) (.seq (.region r20_7 [] (tO [1, 2, 3, 4, 12])) (.cond (.tmp 12) (.seq (.region r20_10 [] (tO [2, 3])) .ret) .skip))) (.seq (.region r20_12 [] (tO [1, 2, 3, 5])) (.seq (.region r20_14 [] (tO [1, 2, 3, 5, 6])) (.seq (.block 0 (.rangeF (.func 55) [16, 17] td20_17 [⟨xIP, p20_0_0, F20_0_0 vV20_0_0⟩] ca20_0_17 c20_0_17)) (.seq (.region r20_32 [] (tO [2, 3])) .ret))))))
noncomputable def cm20_0 : MCode := cm20_0g V20_0_0
theorem gm20_0 : cm20_0.Good Try.prog E20_0 sh20 := ⟨trivial, ⟨⟨trivial, ⟨trivial, ⟨⟨trivial, trivial⟩, trivial⟩⟩⟩, ⟨trivial, ⟨trivial, ⟨⟨⟨ga20_0_17, g20_0_17⟩, m20_0_0, trivial⟩, ⟨trivial, trivial⟩⟩⟩⟩⟩⟩
theorem fm20_0g (vf54_0 : Tf54_0) (vq55 : Tq55) (vV20_0_0 : TV20_0_0) (α : Type) (k : List RV → Option α) : Fn20_0 (f20_0g vV20_0_0 vf54_0 vq55) α k = pa20_0.unc fun ds => fnM Try.prog (E20_0g vf54_0 vq55) sh20 (cm20_0g vV20_0_0) rs20 k ds := by kernel_rfl
theorem fm20_0 : ∀ (α : Type) (k : List RV → Option α), Fn20_0 f20_0 α k = pa20_0.unc fun ds => fnM Try.prog E20_0 sh20 cm20_0 rs20 k ds := fm20_0g f54_0 q55 V20_0_0
theorem is20 : FnIs Try.prog 20 nt20 tr20 tl20 cm20_0.erase rs20 := ⟨Try.f20, Try.func20, rfl, by kernel_rfl, by kernel_rfl, by kernel_rfl⟩
theorem io20_0 : InstOk Try.prog 20 nt20 ⟨pa20_0, Fn20_0 f20_0⟩ := inst_ok eo20_0 followsTry is20 ⟨⟨sh20, cm20_0, by kernel_rfl, gm20_0, fm20_0⟩⟩
abbrev nt13 : Nat := 104
def sh13 : List (Nat × List Sh) := [(16, [.int .i64, .int .i64, .int .i64, .int .i64, .int .i64, .int .i64, .int .i64, .int .i64, .int .i64, .int .i64]), (17, [.int .i64, .int .i64, .int .i64, .int .i64, .int .i64, .int .i64, .int .i64, .int .i64, .int .i64, .int .i64]), (22, [.int .i64, .int .i64, .int .i64, .int .i64, .int .i64, .int .i64, .int .i64, .int .i64, .int .i64, .int .i64]), (30, [.int .i64]), (32, [.int .i64]), (36, [.int .i64]), (50, [.int .i64]), (57, [.int .i64]), (64, [.int .i64]), (74, [.int .i64]), (78, [.int .i64]), (88, [.int .i64]), (95, [.int .i64]), (103, [.int .i64, .int .i64, .int .i64, .int .i64, .int .i64, .int .i64, .int .i64, .int .i64, .int .i64, .int .i64])]
def r13_2 : List AOper := [oO 2 (.box (.tmp 0)), oO 3 (.box (.tmp 1)), oO 4 (.alloc [(cI 0), (cI 0), (cI 0), (cI 0), (cI 0), (cI 0), (cI 0), (cI 0), (cI 0), (cI 0)]), oO 5 (.mv (kI 0))]
def r13_5 : List AOper := [oO 16 (.load true 10 (.tmp 2)), oO 17 (.load true 10 (.tmp 3)), oO 18 (.build [(cI 0), (cI 0), (cI 0), (cI 0), (cI 0), (cI 0), (cI 0), (cI 0), (cI 0), (cI 0), (cI 0), (cI 0), (cI 0), (cI 0), (cI 0), (cI 0), (cI 0), (cI 0), (cI 0), (cI 0)] [(0, 10, (.tmp 16)), (10, 10, (.tmp 17))]), oO 19 (.mv (kI 0))]
def td13_7 : Option Tidy := (tO [2, 3, 4, 18, 19])
def r13_9 : List AOper := [oO 20 (.bin .lss 3 (.tmp 19) (kI 2))]
def r13_15 : List AOper := [oO 21 (.index true 2 10 (.tmp 18) (.tmp 19)), oO 7 (.alloc [(cI 0), (cI 0), (cI 0), (cI 0), (cI 0), (cI 0), (cI 0), (cI 0), (cI 0), (cI 0)]), oD (.store 10 (.tmp 7) (.tmp 21))]
def r13_17 : List AOper := [oO 22 (.load true 10 (.tmp 7)), oO 23 (.call 31 [(.tmp 22)]), oM 8 23]
def r13_19 : List AOper := [oM 24 8, oO 25 (.bin .neq 30 (.tmp 24) (kI 0))]
def r13_22 : List AOper := [oO 26 (.build [(cI 0), (cI 0), (cI 0), (cI 0), (cI 0), (cI 0), (cI 0), (cI 0), (cI 0), (cI 0)] []), oM 27 8, oD (.store 10 (.tmp 4) (.tmp 26)), oM 5 27]
def r13_23 : List AOper := [oO 28 (.bin .add 3 (.tmp 19) (kI 1)), oM 19 28]
def r13_25 : List AOper := [oO 29 (.faddr 9 (.tmp 2)), oO 30 (.load false 1 (.tmp 29)), oO 31 (.faddr 9 (.tmp 3)), oO 32 (.load false 1 (.tmp 31)), oO 33 (.bin .mul 3 (.tmp 30) (.tmp 32)), oO 34 (.build [(cI 0), (cI 0), (cI 0), (cI 0), (cI 0), (cI 0), (cI 0), (cI 0), (cI 0), (cI 0)] [(9, 1, (.tmp 33))]), oO 9 (.alloc [(cI 0), (cI 0), (cI 0), (cI 0), (cI 0), (cI 0), (cI 0), (cI 0), (cI 0), (cI 0)]), oD (.store 10 (.tmp 9) (.tmp 34))]
def r13_27 : List AOper := [oO 35 (.faddr 9 (.tmp 9)), oO 36 (.load false 1 (.tmp 35)), oM 10 36]
def r13_30 : List AOper := [oO 37 (.mv (kI 0))]
def td13_32 : Option Tidy := (tO [2, 3, 4, 9, 10, 37])
def r13_34 : List AOper := [oO 38 (.bin .lss 3 (.tmp 37) (kI 9))]
def r13_40 : List AOper := [oM 39 37, oM 11 39]
def r13_42 : List AOper := [oM 40 11, oO 41 (.bin .quo 3 (.tmp 40) (kI 3)), oM 42 11, oO 43 (.bin .rem 3 (.tmp 42) (kI 3)), oM 12 41, oM 13 43]
def r13_45 : List AOper := [oO 44 (.mv (kI 0))]
def td13_47 : Option Tidy := (tO [2, 3, 4, 9, 10, 11, 12, 13, 37, 44])
def r13_49 : List AOper := [oO 45 (.bin .lss 3 (.tmp 44) (kI 3))]
def r13_55 : List AOper := [oM 46 44, oM 14 46]
def r13_56 : List AOper := [oM 47 11, oO 48 (.faddr 0 (.tmp 9)), oO 49 (.iaddr 1 (some 9) (.tmp 48) (.tmp 47)), oO 50 (.load false 1 (.tmp 49)), oM 51 12, oO 52 (.bin .mul 3 (kI 3) (.tmp 51)), oM 53 14, oO 54 (.bin .add 3 (.tmp 52) (.tmp 53)), oO 55 (.faddr 0 (.tmp 2)), oO 56 (.iaddr 1 (some 9) (.tmp 55) (.tmp 54)), oO 57 (.load false 1 (.tmp 56)), oM 58 14, oO 59 (.bin .mul 3 (kI 3) (.tmp 58)), oM 60 13, oO 61 (.bin .add 3 (.tmp 59) (.tmp 60)), oO 62 (.faddr 0 (.tmp 3)), oO 63 (.iaddr 1 (some 9) (.tmp 62) (.tmp 61)), oO 64 (.load false 1 (.tmp 63)), oO 65 (.bin .mul 3 (.tmp 57) (.tmp 64)), oO 66 (.bin .add 3 (.tmp 50) (.tmp 65)), oO 67 (.faddr 0 (.tmp 9)), oO 68 (.iaddr 1 (some 9) (.tmp 67) (.tmp 47)), oD (.store 1 (.tmp 68) (.tmp 66))]
def r13_57 : List AOper := [oO 69 (.bin .add 3 (.tmp 44) (kI 1)), oM 44 69]
def r13_58 : List AOper := [oM 70 10, oM 71 11, oO 72 (.faddr 0 (.tmp 9)), oO 73 (.iaddr 1 (some 9) (.tmp 72) (.tmp 71)), oO 74 (.load false 1 (.tmp 73)), oO 75 (.call 32 [(.tmp 70), (.tmp 74)]), oM 10 75]
def r13_59 : List AOper := [oO 76 (.bin .add 3 (.tmp 37) (kI 1)), oM 37 76]
def r13_61 : List AOper := [oO 77 (.faddr 9 (.tmp 9)), oO 78 (.load false 1 (.tmp 77)), oM 79 10, oO 80 (.bin .quo 3 (.tmp 78) (.tmp 79)), oO 81 (.faddr 9 (.tmp 9)), oD (.store 1 (.tmp 81) (.tmp 80))]
def r13_64 : List AOper := [oO 82 (.mv (kI 0))]
def td13_66 : Option Tidy := (tO [4, 9, 10, 82])
def r13_68 : List AOper := [oO 83 (.bin .lss 3 (.tmp 82) (kI 9))]
def r13_74 : List AOper := [oM 84 82, oM 15 84]
def r13_75 : List AOper := [oM 85 15, oO 86 (.faddr 0 (.tmp 9)), oO 87 (.iaddr 1 (some 9) (.tmp 86) (.tmp 85)), oO 88 (.load false 1 (.tmp 87)), oM 89 10, oO 90 (.bin .quo 3 (.tmp 88) (.tmp 89)), oO 91 (.faddr 0 (.tmp 9)), oO 92 (.iaddr 1 (some 9) (.tmp 91) (.tmp 85)), oD (.store 1 (.tmp 92) (.tmp 90))]
def r13_76 : List AOper := [oO 93 (.bin .add 3 (.tmp 82) (kI 1)), oM 82 93]
def r13_80 : List AOper := []
def r13_81 : List AOper := [oO 94 (.faddr 9 (.tmp 9)), oO 95 (.load false 1 (.tmp 94)), oO 96 (.bin .gtr 3 (.tmp 95) (kI 1000)), oM 97 96, oG 98 (.faddr 0 (.tmp 9)) 97 false, oG 99 (.aslice 1 9 (.tmp 98)) 97 false, oG 100 (.call 33 [(.tmp 99), (.func 34)]) 97 false, oO 101 (.pick (.tmp 97) (.const (.bool true)) (.tmp 100))]
def r13_84 : List AOper := [oO 102 (.build [(cI 0), (cI 0), (cI 0), (cI 0), (cI 0), (cI 0), (cI 0), (cI 0), (cI 0), (cI 0)] []), oD (.store 10 (.tmp 4) (.tmp 102)), oO 5 (.mv (kI 8))]
def r13_86 : List AOper := [oO 103 (.load true 10 (.tmp 9)), oD (.store 10 (.tmp 4) (.tmp 103)), oO 5 (.mv (kI 0))]
def tr13 : List (Nat × Tidy) := [tT 0 [2, 3, 4], tT 1 [2, 3, 4, 18, 19], tT 2 [2, 3, 4, 18, 19, 20], tT 3 [2, 3, 4, 7, 18, 19], tT 4 [2, 3, 4, 8, 18, 19], tT 5 [2, 3, 4, 8, 18, 19, 25], tT 6 [4, 5], tT 7 [2, 3, 4, 18, 19], tT 8 [2, 3, 4, 9], tT 9 [2, 3, 4, 9, 10], tT 10 [2, 3, 4, 9, 10, 37], tT 11 [2, 3, 4, 9, 10, 37, 38], tT 12 [2, 3, 4, 9, 10, 11, 37], tT 13 [2, 3, 4, 9, 10, 11, 12, 13, 37], tT 14 [2, 3, 4, 9, 10, 11, 12, 13, 37, 44], tT 15 [2, 3, 4, 9, 10, 11, 12, 13, 37, 44, 45], tT 16 [2, 3, 4, 9, 10, 11, 12, 13, 14, 37, 44], tT 17 [2, 3, 4, 9, 10, 11, 12, 13, 37, 44], tT 18 [2, 3, 4, 9, 10, 11, 12, 13, 37, 44], tT 19 [2, 3, 4, 9, 10, 37], tT 20 [2, 3, 4, 9, 10, 37], tT 21 [4, 9, 10], tT 22 [4, 9, 10, 82], tT 23 [4, 9, 10, 82, 83], tT 24 [4, 9, 10, 15, 82], tT 25 [4, 9, 10, 82], tT 26 [4, 9, 10, 82], tT 27 [4, 9, 101], tT 28 [4, 5], tT 29 [4, 5], (2000027, ⟨[4, 9], true, [], [9]⟩)]
def tl13 : List (Nat × Tidy) := [tT 2 [2, 3, 4, 18, 19], tT 11 [2, 3, 4, 9, 10, 37], tT 15 [2, 3, 4, 9, 10, 11, 12, 13, 37, 44], tT 23 [4, 9, 10, 82]]
def rs13 : List AResV := [.cell 4 true 10, .tmp 5]
def pr13_0_0 : PT (List RV) := pRs [pR true [rD (dI .i64), rD (dI .i64), rD (dI .i64), rD (dI .i64), rD (dI .i64), rD (dI .i64), rD (dI .i64), rD (dI .i64), rD (dI .i64), rD (dI .i64)], pR false [rD (dI .i64)]]
def ur13_0_0 {β : Type} (g : List RV → β) : Int → Int → Int → Int → Int → Int → Int → Int → Int → Int → Int → β := pr13_0_0.unc g
def E13_0g (vf31_0 : Tf31_0) (vf32_0 : Tf32_0) (vf33_1 : Tf33_1) : EnvK := EnvK.of [⟨31, nt31, [⟨pa31_0, Fn31_0 vf31_0⟩]⟩, ⟨32, nt32, [⟨pa32_0, Fn32_0 vf32_0⟩]⟩, ⟨33, nt33, [⟨pa33_1, Fn33_1 vf33_1⟩]⟩] noSeq
noncomputable def E13_0 : EnvK := E13_0g f31_0 f32_0 f33_1
theorem eo13_0 : E13_0.Ok Try.prog := EnvK.of_ok noSeq_ok ⟨⟨io31_0, trivial⟩, ⟨io32_0, trivial⟩, ⟨io33_1, trivial⟩, trivial⟩
abbrev Tf13_0 : Type 1 := (α : Type) → Int → Int → Int → Int → Int → Int → Int → Int → Int → Int → Int → Int → Int → Int → Int → Int → Int → Int → Int → Int → (Int → Int → Int → Int → Int → Int → Int → Int → Int → Int → Int → Option α) → Option α
def f13_0g (vf31_0 : Tf31_0) (vf32_0 : Tf32_0) (vf33_1 : Tf33_1) (α : Type) (x1 x2 x3 x4 x5 x6 x7 x8 x9 x10 x11 x12 x13 x14 x15 x16 x17 x18 x19 x20 : Int) (k1 : Int → Int → Int → Int → Int → Int → Int → Int → Int → Int → Int → Option α) : Option α :=
 vf31_0 α x1 x2 x3 x4 x5 x6 x7 x8 x9 x10
 (fun x21 => cK (x21 != 0)
 (k1 0 0 0 0 0 0 0 0 0 0 x21)
 (vf31_0 α x11 x12 x13 x14 x15 x16 x17 x18 x19 x20
 (fun x22 => cK (x22 != 0)
 (k1 0 0 0 0 0 0 0 0 0 0 x22)
 (vf32_0 α (w64 (x10 * x20)) (w64 ((w64 ((w64 (0 + (w64 (x1 * x11)))) + (w64 (x2 * x14)))) + (w64 (x3 * x17))))
 (fun x23 => vf32_0 α x23 (w64 ((w64 ((w64 (0 + (w64 (x1 * x12)))) + (w64 (x2 * x15)))) + (w64 (x3 * x18))))
 (fun x24 => vf32_0 α x24 (w64 ((w64 ((w64 (0 + (w64 (x1 * x13)))) + (w64 (x2 * x16)))) + (w64 (x3 * x19))))
 (fun x25 => vf32_0 α x25 (w64 ((w64 ((w64 (0 + (w64 (x4 * x11)))) + (w64 (x5 * x14)))) + (w64 (x6 * x17))))
 (fun x26 => vf32_0 α x26 (w64 ((w64 ((w64 (0 + (w64 (x4 * x12)))) + (w64 (x5 * x15)))) + (w64 (x6 * x18))))
 (fun x27 => vf32_0 α x27 (w64 ((w64 ((w64 (0 + (w64 (x4 * x13)))) + (w64 (x5 * x16)))) + (w64 (x6 * x19))))
 (fun x28 => vf32_0 α x28 (w64 ((w64 ((w64 (0 + (w64 (x7 * x11)))) + (w64 (x8 * x14)))) + (w64 (x9 * x17))))
 (fun x29 => vf32_0 α x29 (w64 ((w64 ((w64 (0 + (w64 (x7 * x12)))) + (w64 (x8 * x15)))) + (w64 (x9 * x18))))
 (fun x30 => vf32_0 α x30 (w64 ((w64 ((w64 (0 + (w64 (x7 * x13)))) + (w64 (x8 * x16)))) + (w64 (x9 * x19))))
 (fun x31 => gK (x31 != 0) (gK (x31 != 0) (gK (x31 != 0) (gK (x31 != 0) (gK (x31 != 0) (gK (x31 != 0) (gK (x31 != 0) (gK (x31 != 0) (gK (x31 != 0) (gK (x31 != 0) (cK (decide (1000 < (w64 (Int.tdiv (w64 (x10 * x20)) x31))))
 (k1 0 0 0 0 0 0 0 0 0 0 8)
 (vf33_1 α [[DC.v (.int .i64 (w64 (Int.tdiv (w64 ((w64 ((w64 (0 + (w64 (x1 * x11)))) + (w64 (x2 * x14)))) + (w64 (x3 * x17)))) x31)))], [DC.v (.int .i64 (w64 (Int.tdiv (w64 ((w64 ((w64 (0 + (w64 (x1 * x12)))) + (w64 (x2 * x15)))) + (w64 (x3 * x18)))) x31)))], [DC.v (.int .i64 (w64 (Int.tdiv (w64 ((w64 ((w64 (0 + (w64 (x1 * x13)))) + (w64 (x2 * x16)))) + (w64 (x3 * x19)))) x31)))], [DC.v (.int .i64 (w64 (Int.tdiv (w64 ((w64 ((w64 (0 + (w64 (x4 * x11)))) + (w64 (x5 * x14)))) + (w64 (x6 * x17)))) x31)))], [DC.v (.int .i64 (w64 (Int.tdiv (w64 ((w64 ((w64 (0 + (w64 (x4 * x12)))) + (w64 (x5 * x15)))) + (w64 (x6 * x18)))) x31)))], [DC.v (.int .i64 (w64 (Int.tdiv (w64 ((w64 ((w64 (0 + (w64 (x4 * x13)))) + (w64 (x5 * x16)))) + (w64 (x6 * x19)))) x31)))], [DC.v (.int .i64 (w64 (Int.tdiv (w64 ((w64 ((w64 (0 + (w64 (x7 * x11)))) + (w64 (x8 * x14)))) + (w64 (x9 * x17)))) x31)))], [DC.v (.int .i64 (w64 (Int.tdiv (w64 ((w64 ((w64 (0 + (w64 (x7 * x12)))) + (w64 (x8 * x15)))) + (w64 (x9 * x18)))) x31)))], [DC.v (.int .i64 (w64 (Int.tdiv (w64 ((w64 ((w64 (0 + (w64 (x7 * x13)))) + (w64 (x8 * x16)))) + (w64 (x9 * x19)))) x31)))]]
 (fun x32 => cK x32
 (k1 0 0 0 0 0 0 0 0 0 0 8)
 (k1 (w64 (Int.tdiv (w64 ((w64 ((w64 (0 + (w64 (x1 * x11)))) + (w64 (x2 * x14)))) + (w64 (x3 * x17)))) x31)) (w64 (Int.tdiv (w64 ((w64 ((w64 (0 + (w64 (x1 * x12)))) + (w64 (x2 * x15)))) + (w64 (x3 * x18)))) x31)) (w64 (Int.tdiv (w64 ((w64 ((w64 (0 + (w64 (x1 * x13)))) + (w64 (x2 * x16)))) + (w64 (x3 * x19)))) x31)) (w64 (Int.tdiv (w64 ((w64 ((w64 (0 + (w64 (x4 * x11)))) + (w64 (x5 * x14)))) + (w64 (x6 * x17)))) x31)) (w64 (Int.tdiv (w64 ((w64 ((w64 (0 + (w64 (x4 * x12)))) + (w64 (x5 * x15)))) + (w64 (x6 * x18)))) x31)) (w64 (Int.tdiv (w64 ((w64 ((w64 (0 + (w64 (x4 * x13)))) + (w64 (x5 * x16)))) + (w64 (x6 * x19)))) x31)) (w64 (Int.tdiv (w64 ((w64 ((w64 (0 + (w64 (x7 * x11)))) + (w64 (x8 * x14)))) + (w64 (x9 * x17)))) x31)) (w64 (Int.tdiv (w64 ((w64 ((w64 (0 + (w64 (x7 * x12)))) + (w64 (x8 * x15)))) + (w64 (x9 * x18)))) x31)) (w64 (Int.tdiv (w64 ((w64 ((w64 (0 + (w64 (x7 * x13)))) + (w64 (x8 * x16)))) + (w64 (x9 * x19)))) x31)) (w64 (Int.tdiv (w64 (x10 * x20)) x31)) 0))))))))))))))))))))))))))
noncomputable def f13_0 (α : Type) (x1 x2 x3 x4 x5 x6 x7 x8 x9 x10 x11 x12 x13 x14 x15 x16 x17 x18 x19 x20 : Int) (k1 : Int → Int → Int → Int → Int → Int → Int → Int → Int → Int → Int → Option α) : Option α := f13_0g f31_0 f32_0 f33_1 α x1 x2 x3 x4 x5 x6 x7 x8 x9 x10 x11 x12 x13 x14 x15 x16 x17 x18 x19 x20 k1
def pa13_0 : PT (List DV) := pA [pV true [(dI .i64), (dI .i64), (dI .i64), (dI .i64), (dI .i64), (dI .i64), (dI .i64), (dI .i64), (dI .i64), (dI .i64)], pV true [(dI .i64), (dI .i64), (dI .i64), (dI .i64), (dI .i64), (dI .i64), (dI .i64), (dI .i64), (dI .i64), (dI .i64)]]
def Fn13_0 (v : Tf13_0) (α : Type) (k : List RV → Option α) : Int → Int → Int → Int → Int → Int → Int → Int → Int → Int → Int → Int → Int → Int → Int → Int → Int → Int → Int → Int → Option α := fun x1 x2 x3 x4 x5 x6 x7 x8 x9 x10 x11 x12 x13 x14 x15 x16 x17 x18 x19 x20 => v α x1 x2 x3 x4 x5 x6 x7 x8 x9 x10 x11 x12 x13 x14 x15 x16 x17 x18 x19 x20 (fun (y1 : Int) (y2 : Int) (y3 : Int) (y4 : Int) (y5 : Int) (y6 : Int) (y7 : Int) (y8 : Int) (y9 : Int) (y10 : Int) (y11 : Int) => ur13_0_0 k y1 y2 y3 y4 y5 y6 y7 y8 y9 y10 y11)
noncomputable def cm13_0g  : MCode := (.seq (.region r13_2 [] (tO [2, 3, 4])) (.seq (.seq (.region r13_5 [] (tO [2, 3, 4, 18, 19])) (.block 0 (.loopU 3 td13_7 (.seq (.region r13_9 [] (tO [2, 3, 4, 18, 19, 20])) (.seq (.cond (.tmp 20) .skip (.exit 0)) (.seq (.block 1 (.seq (.region r13_15 [] (tO [2, 3, 4, 7, 18, 19])) (.seq (.region r13_17 [] (tO [2, 3, 4, 8, 18, 19])) (.seq (.region r13_19 [] (tO [2, 3, 4, 8, 18, 19, 25])) (.cond (.tmp 25) (.seq (.region r13_22 [] (tO [4, 5])) .ret) .skip))))) (.region r13_23 [] (tO [2, 3, 4, 18, 19])))))))) (.seq (.region r13_25 [] (tO [2, 3, 4, 9])) (.seq (.region r13_27 [] (tO [2, 3, 4, 9, 10])) (.seq (.seq (.region r13_30 [] (tO [2, 3, 4, 9, 10, 37])) (.block 2 (.loopU 10 td13_32 (.seq (.region r13_34 [] (tO [2, 3, 4, 9, 10, 37, 38])) (.seq (.cond (.tmp 38) .skip (.exit 2)) (.seq (.block 3 (.seq (.region r13_40 [] (tO [2, 3, 4, 9, 10, 11, 37])) (.seq (.region r13_42 [] (tO [2, 3, 4, 9, 10, 11, 12, 13, 37])) (.seq (.seq (.region r13_45 [] (tO [2, 3, 4, 9, 10, 11, 12, 13, 37, 44])) (.block 4 (.loopU 4 td13_47 (.seq (.region r13_49 [] (tO [2, 3, 4, 9, 10, 11, 12, 13, 37, 44, 45])) (.seq (.cond (.tmp 45) .skip (.exit 4)) (.seq (.block 5 (.seq (.region r13_55 [] (tO [2, 3, 4, 9, 10, 11, 12, 13, 14, 37, 44])) (.region r13_56 [] (tO [2, 3, 4, 9, 10, 11, 12, 13, 37, 44])))) (.region r13_57 [] (tO [2, 3, 4, 9, 10, 11, 12, 13, 37, 44])))))))) (.region r13_58 [] (tO [2, 3, 4, 9, 10, 37])))))) (.region r13_59 [] (tO [2, 3, 4, 9, 10, 37])))))))) (.seq (.region r13_61 [] (tO [4, 9, 10])) (.seq (.seq (.region r13_64 [] (tO [4, 9, 10, 82])) (.block 6 (.loopU 10 td13_66 (.seq (.region r13_68 [] (tO [4, 9, 10, 82, 83])) (.seq (.cond (.tmp 83) .skip (.exit 6)) (.seq (.block 7 (.seq (.region r13_74 [] (tO [4, 9, 10, 15, 82])) (.region r13_75 [] (tO [4, 9, 10, 82])))) (.region r13_76 [] (tO [4, 9, 10, 82])))))))) (.seq (.seq (.seq (.region r13_80 [] (some ⟨[4, 9], true, [], [9]⟩)) (.region r13_81 [] (tO [4, 9, 101]))) (.cond (.tmp 101) (.seq (.region r13_84 [] (tO [4, 5])) .ret) .skip)) (.seq (.region r13_86 [] (tO [4, 5])) .ret)))))))))
noncomputable def cm13_0 : MCode := cm13_0g 
theorem gm13_0 : cm13_0.Good Try.prog E13_0 sh13 := ⟨trivial, ⟨⟨trivial, ⟨⟨trivial, ⟨⟨trivial, trivial⟩, ⟨⟨trivial, ⟨trivial, ⟨trivial, ⟨⟨trivial, trivial⟩, trivial⟩⟩⟩⟩, trivial⟩⟩⟩, by decide⟩⟩, ⟨trivial, ⟨trivial, ⟨⟨trivial, ⟨⟨trivial, ⟨⟨trivial, trivial⟩, ⟨⟨trivial, ⟨trivial, ⟨⟨trivial, ⟨⟨trivial, ⟨⟨trivial, trivial⟩, ⟨⟨trivial, trivial⟩, trivial⟩⟩⟩, by decide⟩⟩, trivial⟩⟩⟩, trivial⟩⟩⟩, by decide⟩⟩, ⟨trivial, ⟨⟨trivial, ⟨⟨trivial, ⟨⟨trivial, trivial⟩, ⟨⟨trivial, trivial⟩, trivial⟩⟩⟩, by decide⟩⟩, ⟨⟨⟨trivial, trivial⟩, ⟨⟨trivial, trivial⟩, trivial⟩⟩, ⟨trivial, trivial⟩⟩⟩⟩⟩⟩⟩⟩⟩
theorem fm13_0g (vf31_0 : Tf31_0) (vf32_0 : Tf32_0) (vf33_1 : Tf33_1)  (α : Type) (k : List RV → Option α) : Fn13_0 (f13_0g vf31_0 vf32_0 vf33_1) α k = pa13_0.unc fun ds => fnM Try.prog (E13_0g vf31_0 vf32_0 vf33_1) sh13 (cm13_0g ) rs13 k ds := by kernel_rfl
theorem fm13_0 : ∀ (α : Type) (k : List RV → Option α), Fn13_0 f13_0 α k = pa13_0.unc fun ds => fnM Try.prog E13_0 sh13 cm13_0 rs13 k ds := fm13_0g f31_0 f32_0 f33_1
theorem is13 : FnIs Try.prog 13 nt13 tr13 tl13 cm13_0.erase rs13 := ⟨Try.f13, Try.func13, rfl, by kernel_rfl, by kernel_rfl, by kernel_rfl⟩
theorem io13_0 : InstOk Try.prog 13 nt13 ⟨pa13_0, Fn13_0 f13_0⟩ := inst_ok eo13_0 followsTry is13 ⟨⟨sh13, cm13_0, by kernel_rfl, gm13_0, fm13_0⟩⟩
abbrev nt22 : Nat := 13
def sh22 : List (Nat × List Sh) := [(6, [.int .i64, .int .i64, .int .i64, .int .i64, .int .i64, .int .i64, .int .i64, .int .i64, .int .i64, .int .i64]), (11, [.int .i64, .int .i64, .int .i64, .int .i64, .int .i64, .int .i64])]
def r22_2 : List AOper := [oO 2 (.box (.tmp 0)), oO 3 (.box (.tmp 1)), oO 4 (.mv (kI 0))]
def r22_5 : List AOper := [oO 6 (.load true 10 (.tmp 2)), oO 7 (.call 31 [(.tmp 6)]), oM 5 7]
def r22_7 : List AOper := [oM 8 5, oO 9 (.bin .neq 30 (.tmp 8) (kI 0))]
def r22_10 : List AOper := [oM 10 5, oM 4 10]
def r22_12 : List AOper := [oO 11 (.load true 6 (.tmp 3)), oO 12 (.call 42 [(.tmp 11)]), oM 4 12]
def tr22 : List (Nat × Tidy) := [tT 0 [2, 3], tT 1 [3, 5], tT 2 [3, 5, 9], tT 3 [4], tT 4 [4]]
def tl22 : List (Nat × Tidy) := []
def rs22 : List AResV := [.tmp 4]
def pr22_0_0 : PT (List RV) := pRs [pR false [rD (dI .i64)]]
def ur22_0_0 {β : Type} (g : List RV → β) : Int → β := pr22_0_0.unc g
def E22_0g (vf31_0 : Tf31_0) (vf42_0 : Tf42_0) : EnvK := EnvK.of [⟨31, nt31, [⟨pa31_0, Fn31_0 vf31_0⟩]⟩, ⟨42, nt42, [⟨pa42_0, Fn42_0 vf42_0⟩]⟩] noSeq
noncomputable def E22_0 : EnvK := E22_0g f31_0 f42_0
theorem eo22_0 : E22_0.Ok Try.prog := EnvK.of_ok noSeq_ok ⟨⟨io31_0, trivial⟩, ⟨io42_0, trivial⟩, trivial⟩
abbrev Tf22_0 : Type 1 := (α : Type) → Int → Int → Int → Int → Int → Int → Int → Int → Int → Int → Int → Int → Int → Int → Int → Int → (Int → Option α) → Option α
def f22_0g (vf31_0 : Tf31_0) (vf42_0 : Tf42_0) (α : Type) (x1 x2 x3 x4 x5 x6 x7 x8 x9 x10 x11 x12 x13 x14 x15 x16 : Int) (k1 : Int → Option α) : Option α :=
 vf31_0 α x1 x2 x3 x4 x5 x6 x7 x8 x9 x10
 (fun x17 => cK (x17 != 0)
 (k1 x17)
 (vf42_0 α x11 x12 x13 x14 x15 x16
 (fun x18 => k1 x18)))
noncomputable def f22_0 (α : Type) (x1 x2 x3 x4 x5 x6 x7 x8 x9 x10 x11 x12 x13 x14 x15 x16 : Int) (k1 : Int → Option α) : Option α := f22_0g f31_0 f42_0 α x1 x2 x3 x4 x5 x6 x7 x8 x9 x10 x11 x12 x13 x14 x15 x16 k1
def pa22_0 : PT (List DV) := pA [pV true [(dI .i64), (dI .i64), (dI .i64), (dI .i64), (dI .i64), (dI .i64), (dI .i64), (dI .i64), (dI .i64), (dI .i64)], pV true [(dI .i64), (dI .i64), (dI .i64), (dI .i64), (dI .i64), (dI .i64)]]
def Fn22_0 (v : Tf22_0) (α : Type) (k : List RV → Option α) : Int → Int → Int → Int → Int → Int → Int → Int → Int → Int → Int → Int → Int → Int → Int → Int → Option α := fun x1 x2 x3 x4 x5 x6 x7 x8 x9 x10 x11 x12 x13 x14 x15 x16 => v α x1 x2 x3 x4 x5 x6 x7 x8 x9 x10 x11 x12 x13 x14 x15 x16 (fun (y1 : Int) => ur22_0_0 k y1)
noncomputable def cm22_0g  : MCode := (.seq (.region r22_2 [] (tO [2, 3])) (.seq (.seq (.region r22_5 [] (tO [3, 5])) (.seq (.region r22_7 [] (tO [3, 5, 9])) (.cond (.tmp 9) (.seq (.region r22_10 [] (tO [4])) .ret) .skip))) (.seq (.region r22_12 [] (tO [4])) .ret)))
noncomputable def cm22_0 : MCode := cm22_0g 
theorem gm22_0 : cm22_0.Good Try.prog E22_0 sh22 := ⟨trivial, ⟨⟨trivial, ⟨trivial, ⟨⟨trivial, trivial⟩, trivial⟩⟩⟩, ⟨trivial, trivial⟩⟩⟩
theorem fm22_0g (vf31_0 : Tf31_0) (vf42_0 : Tf42_0)  (α : Type) (k : List RV → Option α) : Fn22_0 (f22_0g vf31_0 vf42_0) α k = pa22_0.unc fun ds => fnM Try.prog (E22_0g vf31_0 vf42_0) sh22 (cm22_0g ) rs22 k ds := by kernel_rfl
theorem fm22_0 : ∀ (α : Type) (k : List RV → Option α), Fn22_0 f22_0 α k = pa22_0.unc fun ds => fnM Try.prog E22_0 sh22 cm22_0 rs22 k ds := fm22_0g f31_0 f42_0
theorem is22 : FnIs Try.prog 22 nt22 tr22 tl22 cm22_0.erase rs22 := ⟨Try.f22, Try.func22, rfl, by kernel_rfl, by kernel_rfl, by kernel_rfl⟩
theorem io22_0 : InstOk Try.prog 22 nt22 ⟨pa22_0, Fn22_0 f22_0⟩ := inst_ok eo22_0 followsTry is22 ⟨⟨sh22, cm22_0, by kernel_rfl, gm22_0, fm22_0⟩⟩
abbrev nt7 : Nat := 122
def sh7 : List (Nat × List Sh) := [(17, [.int .i64, .int .i64, .int .i64, .int .i64, .int .i64, .int .i64, .int .i64, .int .i64, .int .i64, .int .i64]), (18, [.int .i64, .int .i64, .int .i64, .int .i64, .int .i64, .int .i64]), (25, [.int .i64, .int .i64, .int .i64, .int .i64, .int .i64, .int .i64, .int .i64, .int .i64, .int .i64]), (53, [.int .i64]), (59, [.int .i64]), (66, [.int .i64]), (72, [.int .i64]), (79, [.int .i64]), (81, [.int .i64]), (84, [.int .i64]), (86, [.int .i64]), (90, [.int .i64]), (92, [.int .i64]), (110, [.int .i64]), (114, [.int .i64, .int .i64, .int .i64, .int .i64, .int .i64, .int .i64, .int .i64, .int .i64, .int .i64]), (115, [.int .i64, .int .i64, .int .i64, .int .i64, .int .i64, .int .i64]), (117, [.int .i64])]
def r7_2 : List AOper := [oO 2 (.box (.tmp 0)), oO 3 (.box (.tmp 1)), oO 4 (.alloc [(cI 0), (cI 0), (cI 0), (cI 0), (cI 0), (cI 0)]), oO 5 (.mv (kI 0))]
def r7_5 : List AOper := [oO 17 (.load true 10 (.tmp 2)), oO 18 (.load true 6 (.tmp 3)), oO 19 (.call 22 [(.tmp 17), (.tmp 18)]), oM 6 19]
def r7_7 : List AOper := [oM 20 6, oO 21 (.bin .neq 30 (.tmp 20) (kI 0))]
def r7_10 : List AOper := [oO 22 (.build [(cI 0), (cI 0), (cI 0), (cI 0), (cI 0), (cI 0)] []), oM 23 6, oD (.store 6 (.tmp 4) (.tmp 22)), oM 5 23]
def r7_12 : List AOper := [oO 7 (.alloc [(cI 0), (cI 0), (cI 0), (cI 0), (cI 0), (cI 0), (cI 0), (cI 0), (cI 0)])]
def r7_14 : List AOper := [oO 24 (.faddr 0 (.tmp 2)), oO 25 (.load true 9 (.tmp 24)), oO 8 (.alloc [(cI 0), (cI 0), (cI 0), (cI 0), (cI 0), (cI 0), (cI 0), (cI 0), (cI 0)]), oD (.store 9 (.tmp 8) (.tmp 25))]
def r7_17 : List AOper := [oO 26 (.mv (kI 0))]
def td7_19 : Option Tidy := (tO [2, 3, 4, 7, 8, 26])
def r7_21 : List AOper := [oO 27 (.bin .lss 3 (.tmp 26) (kI 3))]
def r7_27 : List AOper := [oM 28 26, oM 9 28]
def r7_29 : List AOper := [oO 29 (.mv (kI 0))]
def td7_31 : Option Tidy := (tO [2, 3, 4, 7, 8, 9, 26, 29])
def r7_33 : List AOper := [oO 30 (.bin .lss 3 (.tmp 29) (kI 3))]
def r7_39 : List AOper := [oM 31 29, oM 10 31]
def r7_41 : List AOper := [oM 32 10, oO 33 (.bin .add 3 (.tmp 32) (kI 1)), oO 34 (.bin .rem 3 (.tmp 33) (kI 3)), oM 35 10, oO 36 (.bin .add 3 (.tmp 35) (kI 2)), oO 37 (.bin .rem 3 (.tmp 36) (kI 3)), oM 38 9, oO 39 (.bin .add 3 (.tmp 38) (kI 1)), oO 40 (.bin .rem 3 (.tmp 39) (kI 3)), oM 41 9, oO 42 (.bin .add 3 (.tmp 41) (kI 2)), oO 43 (.bin .rem 3 (.tmp 42) (kI 3)), oM 11 34, oM 12 37, oM 13 40, oM 14 43]
def r7_42 : List AOper := [oM 44 9, oO 45 (.bin .mul 3 (kI 3) (.tmp 44)), oM 46 10, oO 47 (.bin .add 3 (.tmp 45) (.tmp 46)), oM 48 11, oO 49 (.bin .mul 3 (kI 3) (.tmp 48)), oM 50 13, oO 51 (.bin .add 3 (.tmp 49) (.tmp 50)), oO 52 (.iaddr 1 (some 9) (.tmp 8) (.tmp 51)), oO 53 (.load false 1 (.tmp 52)), oM 54 12, oO 55 (.bin .mul 3 (kI 3) (.tmp 54)), oM 56 14, oO 57 (.bin .add 3 (.tmp 55) (.tmp 56)), oO 58 (.iaddr 1 (some 9) (.tmp 8) (.tmp 57)), oO 59 (.load false 1 (.tmp 58)), oO 60 (.bin .mul 3 (.tmp 53) (.tmp 59)), oM 61 11, oO 62 (.bin .mul 3 (kI 3) (.tmp 61)), oM 63 14, oO 64 (.bin .add 3 (.tmp 62) (.tmp 63)), oO 65 (.iaddr 1 (some 9) (.tmp 8) (.tmp 64)), oO 66 (.load false 1 (.tmp 65)), oM 67 12, oO 68 (.bin .mul 3 (kI 3) (.tmp 67)), oM 69 13, oO 70 (.bin .add 3 (.tmp 68) (.tmp 69)), oO 71 (.iaddr 1 (some 9) (.tmp 8) (.tmp 70)), oO 72 (.load false 1 (.tmp 71)), oO 73 (.bin .mul 3 (.tmp 66) (.tmp 72)), oO 74 (.bin .sub 3 (.tmp 60) (.tmp 73)), oO 75 (.iaddr 1 (some 9) (.tmp 7) (.tmp 47)), oD (.store 1 (.tmp 75) (.tmp 74))]
def r7_43 : List AOper := [oO 76 (.bin .add 3 (.tmp 29) (kI 1)), oM 29 76]
def r7_44 : List AOper := [oO 77 (.bin .add 3 (.tmp 26) (kI 1)), oM 26 77]
def r7_46 : List AOper := [oO 78 (.iaddr 1 (some 9) (.tmp 8) (kI 0)), oO 79 (.load false 1 (.tmp 78)), oO 80 (.iaddr 1 (some 9) (.tmp 7) (kI 0)), oO 81 (.load false 1 (.tmp 80)), oO 82 (.bin .mul 3 (.tmp 79) (.tmp 81)), oO 83 (.iaddr 1 (some 9) (.tmp 8) (kI 1)), oO 84 (.load false 1 (.tmp 83)), oO 85 (.iaddr 1 (some 9) (.tmp 7) (kI 3)), oO 86 (.load false 1 (.tmp 85)), oO 87 (.bin .mul 3 (.tmp 84) (.tmp 86)), oO 88 (.bin .add 3 (.tmp 82) (.tmp 87)), oO 89 (.iaddr 1 (some 9) (.tmp 8) (kI 2)), oO 90 (.load false 1 (.tmp 89)), oO 91 (.iaddr 1 (some 9) (.tmp 7) (kI 6)), oO 92 (.load false 1 (.tmp 91)), oO 93 (.bin .mul 3 (.tmp 90) (.tmp 92)), oO 94 (.bin .add 3 (.tmp 88) (.tmp 93)), oM 15 94]
def r7_50 : List AOper := [oM 96 15, oO 97 (.bin .eql 3 (.tmp 96) (kI 0)), oM 95 97]
def r7_53 : List AOper := [oO 98 (.build [(cI 0), (cI 0), (cI 0), (cI 0), (cI 0), (cI 0)] []), oD (.store 6 (.tmp 4) (.tmp 98)), oO 5 (.mv (kI 28))]
def r7_55 : List AOper := [oM 100 15, oO 101 (.bin .lss 3 (.tmp 100) (kI 0)), oM 99 101]
def r7_58 : List AOper := [oM 102 15, oO 103 (.pure (oB (.unOp .neg 3 (.tmp 102)) 3)), oM 15 103]
def r7_60 : List AOper := [oO 104 (.mv (kI 0))]
def td7_62 : Option Tidy := (tO [2, 3, 4, 7, 15, 104])
def r7_64 : List AOper := [oO 105 (.bin .lss 3 (.tmp 104) (kI 9))]
def r7_70 : List AOper := [oM 106 104, oM 16 106]
def r7_71 : List AOper := [oM 107 16, oM 108 16, oO 109 (.iaddr 1 (some 9) (.tmp 7) (.tmp 108)), oO 110 (.load false 1 (.tmp 109)), oO 111 (.pure (oB (.unOp .neg 3 (.tmp 110)) 3)), oO 112 (.iaddr 1 (some 9) (.tmp 7) (.tmp 107)), oD (.store 1 (.tmp 112) (.tmp 111))]
def r7_72 : List AOper := [oO 113 (.bin .add 3 (.tmp 104) (kI 1)), oM 104 113]
def r7_74 : List AOper := [oO 114 (.load true 9 (.tmp 7)), oO 115 (.load true 6 (.tmp 3)), oO 116 (.faddr 9 (.tmp 2)), oO 117 (.load false 1 (.tmp 116)), oM 118 15, oO 119 (.call 23 [(.tmp 114), (.tmp 115), (.tmp 117), (.tmp 118)]), oO 120 (.extract 0 (.tmp 119)), oO 121 (.extract 1 (.tmp 119)), oD (.store 6 (.tmp 4) (.tmp 120)), oM 5 121]
def tr7 : List (Nat × Tidy) := [tT 0 [2, 3, 4], tT 1 [2, 3, 4, 6], tT 2 [2, 3, 4, 6, 21], tT 3 [4, 5], tT 4 [2, 3, 4, 7], tT 5 [2, 3, 4, 7, 8], tT 6 [2, 3, 4, 7, 8, 26], tT 7 [2, 3, 4, 7, 8, 26, 27], tT 8 [2, 3, 4, 7, 8, 9, 26], tT 9 [2, 3, 4, 7, 8, 9, 26, 29], tT 10 [2, 3, 4, 7, 8, 9, 26, 29, 30], tT 11 [2, 3, 4, 7, 8, 9, 10, 26, 29], tT 12 [2, 3, 4, 7, 8, 9, 10, 11, 12, 13, 14, 26, 29], tT 13 [2, 3, 4, 7, 8, 9, 26, 29], tT 14 [2, 3, 4, 7, 8, 9, 26, 29], tT 15 [2, 3, 4, 7, 8, 26], tT 16 [2, 3, 4, 7, 15], tT 17 [2, 3, 4, 7, 15, 95], tT 18 [4, 5], tT 19 [2, 3, 4, 7, 15, 99], tT 20 [2, 3, 4, 7, 15], tT 21 [2, 3, 4, 7, 15, 104], tT 22 [2, 3, 4, 7, 15, 104, 105], tT 23 [2, 3, 4, 7, 15, 16, 104], tT 24 [2, 3, 4, 7, 15, 104], tT 25 [2, 3, 4, 7, 15, 104], tT 26 [4, 5]]
def tl7 : List (Nat × Tidy) := [tT 7 [2, 3, 4, 7, 8, 26], tT 10 [2, 3, 4, 7, 8, 9, 26, 29], tT 22 [2, 3, 4, 7, 15, 104]]
def rs7 : List AResV := [.cell 4 true 6, .tmp 5]
def p7_0_0 : PT St := pS [sl 2 (aV false [(cPtr 2 0)]), sl 3 (aV false [(cPtr 3 0)]), sl 4 (aV false [(cPtr 4 0)]), sl 7 (aV false [(cPtr 7 0)]), sl 15 (aV false [(cD (dI .i64))])] [eBox 2 [(cD (dI .i64)), (cD (dI .i64)), (cD (dI .i64)), (cD (dI .i64)), (cD (dI .i64)), (cD (dI .i64)), (cD (dI .i64)), (cD (dI .i64)), (cD (dI .i64)), (cD (dI .i64))], eBox 3 [(cD (dI .i64)), (cD (dI .i64)), (cD (dI .i64)), (cD (dI .i64)), (cD (dI .i64)), (cD (dI .i64))], eBox 4 [(cD (dI .i64)), (cD (dI .i64)), (cD (dI .i64)), (cD (dI .i64)), (cD (dI .i64)), (cD (dI .i64))], eBox 7 [(cD (dI .i64)), (cD (dI .i64)), (cD (dI .i64)), (cD (dI .i64)), (cD (dI .i64)), (cD (dI .i64)), (cD (dI .i64)), (cD (dI .i64)), (cD (dI .i64))]]
def u7_0_0 {β : Type} (g : St → β) : Int → Int → Int → Int → Int → Int → Int → Int → Int → Int → Int → Int → Int → Int → Int → Int → Int → Int → Int → Int → Int → Int → Int → Int → Int → Int → Int → Int → Int → Int → Int → Int → β := p7_0_0.unc g
def p7_0_1 : PT St := pS [sl 4 (aV false [(cPtr 4 0)]), sl 5 (aV false [(cD (dI .i64))])] [eBox 4 [(cD (dI .i64)), (cD (dI .i64)), (cD (dI .i64)), (cD (dI .i64)), (cD (dI .i64)), (cD (dI .i64))]]
def u7_0_1 {β : Type} (g : St → β) : Int → Int → Int → Int → Int → Int → Int → β := p7_0_1.unc g
def p7_0_2 : PT St := pS [sl 2 (aV false [(cPtr 2 0)]), sl 3 (aV false [(cPtr 3 0)]), sl 4 (aV false [(cPtr 4 0)]), sl 7 (aV false [(cPtr 7 0)]), sl 15 (aV false [(cD (dI .i64))]), sl 104 (aV false [(cD (dI .i64))]), sl 105 (aV false [(cD dB)])] [eBox 2 [(cD (dI .i64)), (cD (dI .i64)), (cD (dI .i64)), (cD (dI .i64)), (cD (dI .i64)), (cD (dI .i64)), (cD (dI .i64)), (cD (dI .i64)), (cD (dI .i64)), (cD (dI .i64))], eBox 3 [(cD (dI .i64)), (cD (dI .i64)), (cD (dI .i64)), (cD (dI .i64)), (cD (dI .i64)), (cD (dI .i64))], eBox 4 [(cD (dI .i64)), (cD (dI .i64)), (cD (dI .i64)), (cD (dI .i64)), (cD (dI .i64)), (cD (dI .i64))], eBox 7 [(cD (dI .i64)), (cD (dI .i64)), (cD (dI .i64)), (cD (dI .i64)), (cD (dI .i64)), (cD (dI .i64)), (cD (dI .i64)), (cD (dI .i64)), (cD (dI .i64))]]
def u7_0_2 {β : Type} (g : St → β) : Int → Int → Bool → Int → Int → Int → Int → Int → Int → Int → Int → Int → Int → Int → Int → Int → Int → Int → Int → Int → Int → Int → Int → Int → Int → Int → Int → Int → Int → Int → Int → Int → Int → Int → β := p7_0_2.unc g
def p7_0_3 : PT St := pS [sl 2 (aV false [(cPtr 2 0)]), sl 3 (aV false [(cPtr 3 0)]), sl 4 (aV false [(cPtr 4 0)]), sl 7 (aV false [(cPtr 7 0)]), sl 15 (aV false [(cD (dI .i64))]), sl 99 (aV false [(cD dB)])] [eBox 2 [(cD (dI .i64)), (cD (dI .i64)), (cD (dI .i64)), (cD (dI .i64)), (cD (dI .i64)), (cD (dI .i64)), (cD (dI .i64)), (cD (dI .i64)), (cD (dI .i64)), (cD (dI .i64))], eBox 3 [(cD (dI .i64)), (cD (dI .i64)), (cD (dI .i64)), (cD (dI .i64)), (cD (dI .i64)), (cD (dI .i64))], eBox 4 [(cD (dI .i64)), (cD (dI .i64)), (cD (dI .i64)), (cD (dI .i64)), (cD (dI .i64)), (cD (dI .i64))], eBox 7 [(cD (dI .i64)), (cD (dI .i64)), (cD (dI .i64)), (cD (dI .i64)), (cD (dI .i64)), (cD (dI .i64)), (cD (dI .i64)), (cD (dI .i64)), (cD (dI .i64))]]
def u7_0_3 {β : Type} (g : St → β) : Int → Bool → Int → Int → Int → Int → Int → Int → Int → Int → Int → Int → Int → Int → Int → Int → Int → Int → Int → Int → Int → Int → Int → Int → Int → Int → Int → Int → Int → Int → Int → Int → Int → β := p7_0_3.unc g
def pr7_0_0 : PT (List RV) := pRs [pR true [rD (dI .i64), rD (dI .i64), rD (dI .i64), rD (dI .i64), rD (dI .i64), rD (dI .i64)], pR false [rD (dI .i64)]]
def ur7_0_0 {β : Type} (g : List RV → β) : Int → Int → Int → Int → Int → Int → Int → β := pr7_0_0.unc g
def E7_0g (vf22_0 : Tf22_0) (vf23_0 : Tf23_0) : EnvK := EnvK.of [⟨22, nt22, [⟨pa22_0, Fn22_0 vf22_0⟩]⟩, ⟨23, nt23, [⟨pa23_0, Fn23_0 vf23_0⟩]⟩] noSeq
noncomputable def E7_0 : EnvK := E7_0g f22_0 f23_0
theorem eo7_0 : E7_0.Ok Try.prog := EnvK.of_ok noSeq_ok ⟨⟨io22_0, trivial⟩, ⟨io23_0, trivial⟩, trivial⟩
noncomputable def c7_0_47g  : MCode := (.block 4 (.seq (.region r7_50 [] (tO [2, 3, 4, 7, 15, 95])) (.cond (.tmp 95) (.seq (.region r7_53 [] (tO [4, 5])) .ret) (.seq (.region r7_55 [] (tO [2, 3, 4, 7, 15, 99])) (.cond (.tmp 99) (.seq (.region r7_58 [] (tO [2, 3, 4, 7, 15])) (.seq (.region r7_60 [] (tO [2, 3, 4, 7, 15, 104])) (.block 5 (.loopU 10 td7_62 (.seq (.region r7_64 [] (tO [2, 3, 4, 7, 15, 104, 105])) (.seq (.cond (.tmp 105) .skip (.exit 5)) (.seq (.block 6 (.seq (.region r7_70 [] (tO [2, 3, 4, 7, 15, 16, 104])) (.region r7_71 [] (tO [2, 3, 4, 7, 15, 104])))) (.region r7_72 [] (tO [2, 3, 4, 7, 15, 104]))))))))) .skip)))))
noncomputable def c7_0_47 : MCode := c7_0_47g 
theorem g7_0_47 : c7_0_47.Good Try.prog E7_0 sh7 := ⟨trivial, ⟨⟨trivial, trivial⟩, ⟨trivial, ⟨⟨trivial, ⟨trivial, ⟨⟨trivial, ⟨⟨trivial, trivial⟩, ⟨⟨trivial, trivial⟩, trivial⟩⟩⟩, by decide⟩⟩⟩, trivial⟩⟩⟩⟩
--CODE 47 0
abbrev TJ7_0_0 : Type 1 := (α : Type) → Int → Int → Int → Int → Int → Int → Int → Int → Int → Int → (Option α) → (Int → Int → Int → Int → Int → Int → Int → Int → Int → Int → Option α) → (Bool → Option α) → Option α
def J7_0_0g  (α : Type) (x18 x41 x42 x43 x44 x45 x46 x47 x48 x49 : Int) (k1 : Option α) (k2 : Int → Int → Int → Int → Int → Int → Int → Int → Int → Int → Option α) (k3 : Bool → Option α) : Option α :=
 cK (x18 == 0)
 (k1)
 (cK (decide (x18 < 0))
 (k2 (w64 (0 - x18)) (w64 (0 - x41)) (w64 (0 - x42)) (w64 (0 - x43)) (w64 (0 - x44)) (w64 (0 - x45)) (w64 (0 - x46)) (w64 (0 - x47)) (w64 (0 - x48)) (w64 (0 - x49)))
 (k3 (decide (x18 < 0))))
noncomputable def J7_0_0 (α : Type) (x18 x41 x42 x43 x44 x45 x46 x47 x48 x49 : Int) (k1 : Option α) (k2 : Int → Int → Int → Int → Int → Int → Int → Int → Int → Int → Option α) (k3 : Bool → Option α) : Option α := J7_0_0g  α x18 x41 x42 x43 x44 x45 x46 x47 x48 x49 k1 k2 k3
def F7_0_0 (v : TJ7_0_0) (α : Type) (K : Exit → St → Option α) : Int → Int → Int → Int → Int → Int → Int → Int → Int → Int → Int → Int → Int → Int → Int → Int → Int → Int → Int → Int → Int → Int → Int → Int → Int → Int → Int → Int → Int → Int → Int → Int → Option α := fun x18 x19 x20 x21 x22 x23 x24 x25 x26 x27 x28 x29 x30 x31 x32 x33 x34 x35 x36 x37 x38 x39 x40 x41 x42 x43 x44 x45 x46 x47 x48 x49 => v α x18 x41 x42 x43 x44 x45 x46 x47 x48 x49 (u7_0_1 (K .ret) 28 0 0 0 0 0 0) (fun (y1 : Int) (y2 : Int) (y3 : Int) (y4 : Int) (y5 : Int) (y6 : Int) (y7 : Int) (y8 : Int) (y9 : Int) (y10 : Int) => u7_0_2 (K .normal) y1 9 false x19 x20 x21 x22 x23 x24 x25 x26 x27 x28 x29 x30 x31 x32 x33 x34 x35 x36 x37 x38 x39 x40 y2 y3 y4 y5 y6 y7 y8 y9 y10) (fun (y1 : Bool) => u7_0_3 (K .normal) x18 y1 x19 x20 x21 x22 x23 x24 x25 x26 x27 x28 x29 x30 x31 x32 x33 x34 x35 x36 x37 x38 x39 x40 x41 x42 x43 x44 x45 x46 x47 x48 x49) 
theorem m7_0_0g (vf22_0 : Tf22_0) (vf23_0 : Tf23_0)  (α : Type) (K : Exit → St → Option α) : F7_0_0 (J7_0_0g ) α K = p7_0_0.unc fun σ => runM Try.prog (E7_0g vf22_0 vf23_0) sh7 (c7_0_47g ) K σ := by kernel_rfl
theorem m7_0_0 : ∀ (α : Type) (K : Exit → St → Option α), F7_0_0 J7_0_0 α K = p7_0_0.unc fun σ => runM Try.prog E7_0 sh7 c7_0_47 K σ := m7_0_0g f22_0 f23_0
abbrev Tf7_0 : Type 1 := (α : Type) → Int → Int → Int → Int → Int → Int → Int → Int → Int → Int → Int → Int → Int → Int → Int → Int → (Int → Int → Int → Int → Int → Int → Int → Option α) → Option α
def f7_0g (vJ7_0_0 : TJ7_0_0) (vf22_0 : Tf22_0) (vf23_0 : Tf23_0) (α : Type) (x1 x2 x3 x4 x5 x6 x7 x8 x9 x10 x11 x12 x13 x14 x15 x16 : Int) (k1 : Int → Int → Int → Int → Int → Int → Int → Option α) : Option α :=
 vf22_0 α x1 x2 x3 x4 x5 x6 x7 x8 x9 x10 x11 x12 x13 x14 x15 x16
 (fun x17 => cK (x17 != 0)
 (k1 0 0 0 0 0 0 x17)
 (vJ7_0_0 α (w64 ((w64 ((w64 (x1 * (w64 ((w64 (x5 * x9)) - (w64 (x6 * x8)))))) + (w64 (x2 * (w64 ((w64 (x6 * x7)) - (w64 (x4 * x9)))))))) + (w64 (x3 * (w64 ((w64 (x4 * x8)) - (w64 (x5 * x7)))))))) (w64 ((w64 (x5 * x9)) - (w64 (x6 * x8)))) (w64 ((w64 (x8 * x3)) - (w64 (x9 * x2)))) (w64 ((w64 (x2 * x6)) - (w64 (x3 * x5)))) (w64 ((w64 (x6 * x7)) - (w64 (x4 * x9)))) (w64 ((w64 (x9 * x1)) - (w64 (x7 * x3)))) (w64 ((w64 (x3 * x4)) - (w64 (x1 * x6)))) (w64 ((w64 (x4 * x8)) - (w64 (x5 * x7)))) (w64 ((w64 (x7 * x2)) - (w64 (x8 * x1)))) (w64 ((w64 (x1 * x5)) - (w64 (x2 * x4))))
 (k1 0 0 0 0 0 0 28)
 (fun x51 x52 x53 x54 x55 x56 x57 x58 x59 x60 => vf23_0 α x52 x53 x54 x55 x56 x57 x58 x59 x60 x11 x12 x13 x14 x15 x16 x10 x51
 (fun x63 x64 x65 x66 x67 x68 x69 => k1 x63 x64 x65 x66 x67 x68 x69))
 (fun x61 => vf23_0 α (w64 ((w64 (x5 * x9)) - (w64 (x6 * x8)))) (w64 ((w64 (x8 * x3)) - (w64 (x9 * x2)))) (w64 ((w64 (x2 * x6)) - (w64 (x3 * x5)))) (w64 ((w64 (x6 * x7)) - (w64 (x4 * x9)))) (w64 ((w64 (x9 * x1)) - (w64 (x7 * x3)))) (w64 ((w64 (x3 * x4)) - (w64 (x1 * x6)))) (w64 ((w64 (x4 * x8)) - (w64 (x5 * x7)))) (w64 ((w64 (x7 * x2)) - (w64 (x8 * x1)))) (w64 ((w64 (x1 * x5)) - (w64 (x2 * x4)))) x11 x12 x13 x14 x15 x16 x10 (w64 ((w64 ((w64 (x1 * (w64 ((w64 (x5 * x9)) - (w64 (x6 * x8)))))) + (w64 (x2 * (w64 ((w64 (x6 * x7)) - (w64 (x4 * x9)))))))) + (w64 (x3 * (w64 ((w64 (x4 * x8)) - (w64 (x5 * x7))))))))
 (fun x70 x71 x72 x73 x74 x75 x76 => k1 x70 x71 x72 x73 x74 x75 x76))))
noncomputable def f7_0 (α : Type) (x1 x2 x3 x4 x5 x6 x7 x8 x9 x10 x11 x12 x13 x14 x15 x16 : Int) (k1 : Int → Int → Int → Int → Int → Int → Int → Option α) : Option α := f7_0g J7_0_0 f22_0 f23_0 α x1 x2 x3 x4 x5 x6 x7 x8 x9 x10 x11 x12 x13 x14 x15 x16 k1
def pa7_0 : PT (List DV) := pA [pV true [(dI .i64), (dI .i64), (dI .i64), (dI .i64), (dI .i64), (dI .i64), (dI .i64), (dI .i64), (dI .i64), (dI .i64)], pV true [(dI .i64), (dI .i64), (dI .i64), (dI .i64), (dI .i64), (dI .i64)]]
def Fn7_0 (v : Tf7_0) (α : Type) (k : List RV → Option α) : Int → Int → Int → Int → Int → Int → Int → Int → Int → Int → Int → Int → Int → Int → Int → Int → Option α := fun x1 x2 x3 x4 x5 x6 x7 x8 x9 x10 x11 x12 x13 x14 x15 x16 => v α x1 x2 x3 x4 x5 x6 x7 x8 x9 x10 x11 x12 x13 x14 x15 x16 (fun (y1 : Int) (y2 : Int) (y3 : Int) (y4 : Int) (y5 : Int) (y6 : Int) (y7 : Int) => ur7_0_0 k y1 y2 y3 y4 y5 y6 y7)
noncomputable def cm7_0g (vJ7_0_0 : TJ7_0_0) : MCode := (.seq (.region r7_2 [] (tO [2, 3, 4])) (.seq (.seq (.region r7_5 [] (tO [2, 3, 4, 6])) (.seq (.region r7_7 [] (tO [2, 3, 4, 6, 21])) (.cond (.tmp 21) (.seq (.region r7_10 [] (tO [4, 5])) .ret) .skip))) (.seq (.region r7_12 [] (tO [2, 3, 4, 7])) (.seq (.region r7_14 [] (tO [2, 3, 4, 7, 8])) (.seq (.seq (.region r7_17 [] (tO [2, 3, 4, 7, 8, 26])) (.block 0 (.loopU 4 td7_19 (.seq (.region r7_21 [] (tO [2, 3, 4, 7, 8, 26, 27])) (.seq (.cond (.tmp 27) .skip (.exit 0)) (.seq (.block 1 (.seq (.region r7_27 [] (tO [2, 3, 4, 7, 8, 9, 26])) (.seq (.region r7_29 [] (tO [2, 3, 4, 7, 8, 9, 26, 29])) (.block 2 (.loopU 4 td7_31 (.seq (.region r7_33 [] (tO [2, 3, 4, 7, 8, 9, 26, 29, 30])) (.seq (.cond (.tmp 30) .skip (.exit 2)) (.seq (.block 3 (.seq (.region r7_39 [] (tO [2, 3, 4, 7, 8, 9, 10, 26, 29])) (.seq (.region r7_41 [] (tO [2, 3, 4, 7, 8, 9, 10, 11, 12, 13, 14, 26, 29])) (.region r7_42 [] (tO [2, 3, 4, 7, 8, 9, 26, 29]))))) (.region r7_43 [] (tO [2, 3, 4, 7, 8, 9, 26, 29])))))))))) (.region r7_44 [] (tO [2, 3, 4, 7, 8, 26])))))))) (.seq (.region r7_46 [] (tO [2, 3, 4, 7, 15])) (.seq (.mark [⟨p7_0_0, F7_0_0 vJ7_0_0⟩] c7_0_47) (.seq (.region r7_74 [] (tO [4, 5])) .ret))))))))
noncomputable def cm7_0 : MCode := cm7_0g J7_0_0
theorem gm7_0 : cm7_0.Good Try.prog E7_0 sh7 := ⟨trivial, ⟨⟨trivial, ⟨trivial, ⟨⟨trivial, trivial⟩, trivial⟩⟩⟩, ⟨trivial, ⟨trivial, ⟨⟨trivial, ⟨⟨trivial, ⟨⟨trivial, trivial⟩, ⟨⟨trivial, ⟨trivial, ⟨⟨trivial, ⟨⟨trivial, trivial⟩, ⟨⟨trivial, ⟨trivial, trivial⟩⟩, trivial⟩⟩⟩, by decide⟩⟩⟩, trivial⟩⟩⟩, by decide⟩⟩, ⟨trivial, ⟨⟨g7_0_47, m7_0_0, trivial⟩, ⟨trivial, trivial⟩⟩⟩⟩⟩⟩⟩⟩
theorem fm7_0g (vf22_0 : Tf22_0) (vf23_0 : Tf23_0) (vJ7_0_0 : TJ7_0_0) (α : Type) (k : List RV → Option α) : Fn7_0 (f7_0g vJ7_0_0 vf22_0 vf23_0) α k = pa7_0.unc fun ds => fnM Try.prog (E7_0g vf22_0 vf23_0) sh7 (cm7_0g vJ7_0_0) rs7 k ds := by kernel_rfl
theorem fm7_0 : ∀ (α : Type) (k : List RV → Option α), Fn7_0 f7_0 α k = pa7_0.unc fun ds => fnM Try.prog E7_0 sh7 cm7_0 rs7 k ds := fm7_0g f22_0 f23_0 J7_0_0
theorem is7 : FnIs Try.prog 7 nt7 tr7 tl7 cm7_0.erase rs7 := ⟨Try.f7, Try.func7, rfl, by kernel_rfl, by kernel_rfl, by kernel_rfl⟩
theorem io7_0 : InstOk Try.prog 7 nt7 ⟨pa7_0, Fn7_0 f7_0⟩ := inst_ok eo7_0 followsTry is7 ⟨⟨sh7, cm7_0, by kernel_rfl, gm7_0, fm7_0⟩⟩
abbrev nt6 : Nat := 22
def sh6 : List (Nat × List Sh) := [(7, [.int .i64, .int .i64, .int .i64, .int .i64, .int .i64, .int .i64, .int .i64, .int .i64, .int .i64, .int .i64]), (8, [.int .i64, .int .i64, .int .i64, .int .i64, .int .i64, .int .i64]), (15, [.int .i64, .int .i64, .int .i64, .int .i64, .int .i64, .int .i64, .int .i64, .int .i64, .int .i64]), (16, [.int .i64, .int .i64, .int .i64, .int .i64, .int .i64, .int .i64]), (18, [.int .i64])]
def r6_2 : List AOper := [oO 2 (.box (.tmp 0)), oO 3 (.box (.tmp 1)), oO 4 (.alloc [(cI 0), (cI 0), (cI 0), (cI 0), (cI 0), (cI 0)]), oO 5 (.mv (kI 0))]
def r6_5 : List AOper := [oO 7 (.load true 10 (.tmp 2)), oO 8 (.load true 6 (.tmp 3)), oO 9 (.call 22 [(.tmp 7), (.tmp 8)]), oM 6 9]
def r6_7 : List AOper := [oM 10 6, oO 11 (.bin .neq 30 (.tmp 10) (kI 0))]
def r6_10 : List AOper := [oO 12 (.build [(cI 0), (cI 0), (cI 0), (cI 0), (cI 0), (cI 0)] []), oM 13 6, oD (.store 6 (.tmp 4) (.tmp 12)), oM 5 13]
def r6_12 : List AOper := [oO 14 (.faddr 0 (.tmp 2)), oO 15 (.load true 9 (.tmp 14)), oO 16 (.load true 6 (.tmp 3)), oO 17 (.faddr 9 (.tmp 2)), oO 18 (.load false 1 (.tmp 17)), oO 19 (.call 23 [(.tmp 15), (.tmp 16), (kI 1), (.tmp 18)]), oO 20 (.extract 0 (.tmp 19)), oO 21 (.extract 1 (.tmp 19)), oD (.store 6 (.tmp 4) (.tmp 20)), oM 5 21]
def tr6 : List (Nat × Tidy) := [tT 0 [2, 3, 4], tT 1 [2, 3, 4, 6], tT 2 [2, 3, 4, 6, 11], tT 3 [4, 5], tT 4 [4, 5]]
def tl6 : List (Nat × Tidy) := []
def rs6 : List AResV := [.cell 4 true 6, .tmp 5]
def pr6_0_0 : PT (List RV) := pRs [pR true [rD (dI .i64), rD (dI .i64), rD (dI .i64), rD (dI .i64), rD (dI .i64), rD (dI .i64)], pR false [rD (dI .i64)]]
def ur6_0_0 {β : Type} (g : List RV → β) : Int → Int → Int → Int → Int → Int → Int → β := pr6_0_0.unc g
def E6_0g (vf22_0 : Tf22_0) (vf23_0 : Tf23_0) : EnvK := EnvK.of [⟨22, nt22, [⟨pa22_0, Fn22_0 vf22_0⟩]⟩, ⟨23, nt23, [⟨pa23_0, Fn23_0 vf23_0⟩]⟩] noSeq
noncomputable def E6_0 : EnvK := E6_0g f22_0 f23_0
theorem eo6_0 : E6_0.Ok Try.prog := EnvK.of_ok noSeq_ok ⟨⟨io22_0, trivial⟩, ⟨io23_0, trivial⟩, trivial⟩
abbrev Tf6_0 : Type 1 := (α : Type) → Int → Int → Int → Int → Int → Int → Int → Int → Int → Int → Int → Int → Int → Int → Int → Int → (Int → Int → Int → Int → Int → Int → Int → Option α) → Option α
def f6_0g (vf22_0 : Tf22_0) (vf23_0 : Tf23_0) (α : Type) (x1 x2 x3 x4 x5 x6 x7 x8 x9 x10 x11 x12 x13 x14 x15 x16 : Int) (k1 : Int → Int → Int → Int → Int → Int → Int → Option α) : Option α :=
 vf22_0 α x1 x2 x3 x4 x5 x6 x7 x8 x9 x10 x11 x12 x13 x14 x15 x16
 (fun x17 => cK (x17 != 0)
 (k1 0 0 0 0 0 0 x17)
 (vf23_0 α x1 x2 x3 x4 x5 x6 x7 x8 x9 x11 x12 x13 x14 x15 x16 1 x10
 (fun x18 x19 x20 x21 x22 x23 x24 => k1 x18 x19 x20 x21 x22 x23 x24)))
noncomputable def f6_0 (α : Type) (x1 x2 x3 x4 x5 x6 x7 x8 x9 x10 x11 x12 x13 x14 x15 x16 : Int) (k1 : Int → Int → Int → Int → Int → Int → Int → Option α) : Option α := f6_0g f22_0 f23_0 α x1 x2 x3 x4 x5 x6 x7 x8 x9 x10 x11 x12 x13 x14 x15 x16 k1
def pa6_0 : PT (List DV) := pA [pV true [(dI .i64), (dI .i64), (dI .i64), (dI .i64), (dI .i64), (dI .i64), (dI .i64), (dI .i64), (dI .i64), (dI .i64)], pV true [(dI .i64), (dI .i64), (dI .i64), (dI .i64), (dI .i64), (dI .i64)]]
def Fn6_0 (v : Tf6_0) (α : Type) (k : List RV → Option α) : Int → Int → Int → Int → Int → Int → Int → Int → Int → Int → Int → Int → Int → Int → Int → Int → Option α := fun x1 x2 x3 x4 x5 x6 x7 x8 x9 x10 x11 x12 x13 x14 x15 x16 => v α x1 x2 x3 x4 x5 x6 x7 x8 x9 x10 x11 x12 x13 x14 x15 x16 (fun (y1 : Int) (y2 : Int) (y3 : Int) (y4 : Int) (y5 : Int) (y6 : Int) (y7 : Int) => ur6_0_0 k y1 y2 y3 y4 y5 y6 y7)
noncomputable def cm6_0g  : MCode := (.seq (.region r6_2 [] (tO [2, 3, 4])) (.seq (.seq (.region r6_5 [] (tO [2, 3, 4, 6])) (.seq (.region r6_7 [] (tO [2, 3, 4, 6, 11])) (.cond (.tmp 11) (.seq (.region r6_10 [] (tO [4, 5])) .ret) .skip))) (.seq (.region r6_12 [] (tO [4, 5])) .ret)))
noncomputable def cm6_0 : MCode := cm6_0g 
theorem gm6_0 : cm6_0.Good Try.prog E6_0 sh6 := ⟨trivial, ⟨⟨trivial, ⟨trivial, ⟨⟨trivial, trivial⟩, trivial⟩⟩⟩, ⟨trivial, trivial⟩⟩⟩
theorem fm6_0g (vf22_0 : Tf22_0) (vf23_0 : Tf23_0)  (α : Type) (k : List RV → Option α) : Fn6_0 (f6_0g vf22_0 vf23_0) α k = pa6_0.unc fun ds => fnM Try.prog (E6_0g vf22_0 vf23_0) sh6 (cm6_0g ) rs6 k ds := by kernel_rfl
theorem fm6_0 : ∀ (α : Type) (k : List RV → Option α), Fn6_0 f6_0 α k = pa6_0.unc fun ds => fnM Try.prog E6_0 sh6 cm6_0 rs6 k ds := fm6_0g f22_0 f23_0
theorem is6 : FnIs Try.prog 6 nt6 tr6 tl6 cm6_0.erase rs6 := ⟨Try.f6, Try.func6, rfl, by kernel_rfl, by kernel_rfl, by kernel_rfl⟩
theorem io6_0 : InstOk Try.prog 6 nt6 ⟨pa6_0, Fn6_0 f6_0⟩ := inst_ok eo6_0 followsTry is6 ⟨⟨sh6, cm6_0, by kernel_rfl, gm6_0, fm6_0⟩⟩
end Go.AM.K
