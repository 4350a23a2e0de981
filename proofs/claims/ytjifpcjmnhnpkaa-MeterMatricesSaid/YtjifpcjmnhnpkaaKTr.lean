/- Printed by KGen. -/
import Derived.Test.YtjifpcjmnhnpkaaKTs
namespace Go.AM.K
open Go.Proofs
set_option maxRecDepth 100000
set_option linter.unusedVariables false
abbrev nt24 : Nat := 34
def sh24 : List (Nat × List Sh) := [(5, [.int .i64, .int .i64, .int .i64, .int .i64, .int .i64, .int .i64]), (14, [.int .i64]), (21, [.int .i64]), (28, [.int .i64]), (32, [.int .i64])]
def r24_2 : List AOper := [oO 1 (.box (.tmp 0)), oO 2 (.mv (kI 0))]
def r24_4 : List AOper := [oO 5 (.load true 6 (.tmp 1)), oO 6 (.call 80 [(.tmp 5)]), oO 3 (.alloc [(cI 0), (cI 0), (cI 0), (cI 0), (cI 0), (cI 0)]), oD (.store 6 (.tmp 3) (.tmp 6))]
def r24_7 : List AOper := [oO 4 (.mv (kI 0))]
def td24_9 : Option Tidy := (tO [3, 4])
def r24_12 : List AOper := [oM 7 4, oO 8 (.bin .lss 3 (.tmp 7) (kI 3))]
def r24_18 : List AOper := [oM 11 4, oO 12 (.iaddr 2 (some 3) (.tmp 3) (.tmp 11)), oO 13 (.faddr 0 (.tmp 12)), oO 14 (.load false 1 (.tmp 13)), oO 15 (.call 81 [(.tmp 14)]), oO 16 (.pure (oB (.unOp .not 4 (.tmp 15)) 4)), oM 17 16, oG 18 (.mv (.tmp 4)) 17 false, oG 19 (.iaddr 2 (some 3) (.tmp 3) (.tmp 18)) 17 false, oG 20 (.faddr 1 (.tmp 19)) 17 false, oG 21 (.load false 1 (.tmp 20)) 17 false, oG 22 (.call 81 [(.tmp 21)]) 17 false, oG 23 (.pure (oB (.unOp .not 4 (.tmp 22)) 4)) 17 false, oO 24 (.pick (.tmp 17) (.const (.bool true)) (.tmp 23))]
def r24_21 : List AOper := [oO 2 (.mv (kI 2))]
def r24_23 : List AOper := [oM 25 4, oO 26 (.iaddr 2 (some 3) (.tmp 3) (.tmp 25)), oO 27 (.faddr 0 (.tmp 26)), oO 28 (.load false 1 (.tmp 27)), oM 29 4, oO 30 (.iaddr 2 (some 3) (.tmp 3) (.tmp 29)), oO 31 (.faddr 1 (.tmp 30)), oO 32 (.load false 1 (.tmp 31)), oO 33 (.bin .gtr 3 (.tmp 28) (.tmp 32))]
def r24_26 : List AOper := [oO 2 (.mv (kI 10))]
def r24_27 : List AOper := [oM 9 4, oO 10 (.bin .add 3 (.tmp 9) (kI 1)), oM 4 10]
def r24_29 : List AOper := [oO 2 (.mv (kI 0))]
def tr24 : List (Nat × Tidy) := [tT 0 [1], tT 1 [3], tT 2 [3, 4], tT 3 [3, 4, 8], tT 5 [3, 4, 24], tT 6 [2], tT 7 [3, 4, 33], tT 8 [2], tT 4 [3, 4], tT 9 [2]]
def tl24 : List (Nat × Tidy) := [tT 3 [3, 4]]
def rs24 : List AResV := [.tmp 2]
def p24_0_0 : PT St := pS [sl 3 (aV false [(cPtr 3 0)]), sl 4 (aV false [(cD (dI .i64))]), sl 8 (aV false [(cD dB)])] [eBox 3 [(cD (dI .i64)), (cD (dI .i64)), (cD (dI .i64)), (cD (dI .i64)), (cD (dI .i64)), (cD (dI .i64))]]
def u24_0_0 {β : Type} (g : St → β) : Int → Bool → Int → Int → Int → Int → Int → Int → β := p24_0_0.unc g
def p24_0_1 : PT St := pS [sl 3 (aV false [(cPtr 3 0)]), sl 4 (aV false [(cD (dI .i64))]), sl 24 (aV false [(cD dB)])] [eBox 3 [(cD (dI .i64)), (cD (dI .i64)), (cD (dI .i64)), (cD (dI .i64)), (cD (dI .i64)), (cD (dI .i64))]]
def u24_0_1 {β : Type} (g : St → β) : Int → Bool → Int → Int → Int → Int → Int → Int → β := p24_0_1.unc g
def p24_0_2 : PT St := pS [sl 3 (aV false [(cPtr 3 0)]), sl 4 (aV false [(cD (dI .i64))]), sl 33 (aV false [(cD dB)])] [eBox 3 [(cD (dI .i64)), (cD (dI .i64)), (cD (dI .i64)), (cD (dI .i64)), (cD (dI .i64)), (cD (dI .i64))]]
def u24_0_2 {β : Type} (g : St → β) : Int → Bool → Int → Int → Int → Int → Int → Int → β := p24_0_2.unc g
def p24_0_3 : PT St := pS [sl 3 (aV false [(cPtr 3 0)]), sl 4 (aV false [(cD (dI .i64))])] [eBox 3 [(cD (dI .i64)), (cD (dI .i64)), (cD (dI .i64)), (cD (dI .i64)), (cD (dI .i64)), (cD (dI .i64))]]
def u24_0_3 {β : Type} (g : St → β) : Int → Int → Int → Int → Int → Int → Int → β := p24_0_3.unc g
def p24_0_4 : PT St := pS [sl 2 (aV false [(cD (dI .i64))])] []
def u24_0_4 {β : Type} (g : St → β) : Int → β := p24_0_4.unc g
def pr24_0_0 : PT (List RV) := pRs [pR false [rD (dI .i64)]]
def ur24_0_0 {β : Type} (g : List RV → β) : Int → β := pr24_0_0.unc g
def E24_0g (vf80_0 : Tf80_0) (vf81_0 : Tf81_0) : EnvK := EnvK.of [⟨80, nt80, [⟨pa80_0, Fn80_0 vf80_0⟩]⟩, ⟨81, nt81, [⟨pa81_0, Fn81_0 vf81_0⟩]⟩] noSeq
noncomputable def E24_0 : EnvK := E24_0g f80_0 f81_0
theorem eo24_0 : E24_0.Ok Try.prog := EnvK.of_ok noSeq_ok ⟨⟨io80_0, trivial⟩, ⟨io81_0, trivial⟩, trivial⟩
noncomputable def c24_0_22g  : MCode := (.region r24_23 [] (tO [3, 4, 33]))
noncomputable def c24_0_22 : MCode := c24_0_22g 
theorem g24_0_22 : c24_0_22.Good Try.prog E24_0 sh24 := trivial
--CODE 22 0
abbrev TJ24_0_1 : Type 1 := (α : Type) → Int → Int → Int → Int → Int → Int → Int → (Bool → Option α) → Option α
def J24_0_1g  (α : Type) (x44 x46 x47 x48 x49 x50 x51 : Int) (k1 : Bool → Option α) : Option α :=
 cK (x44 == 2)
 (cK (x44 == 2)
 (k1 (decide (x51 < x50)))
 (cK (x44 == 1)
 (k1 (decide (x49 < x50)))
 (cK (x44 == 0)
 (k1 (decide (x47 < x50)))
 (none))))
 (cK (x44 == 1)
 (cK (x44 == 2)
 (k1 (decide (x51 < x48)))
 (cK (x44 == 1)
 (k1 (decide (x49 < x48)))
 (cK (x44 == 0)
 (k1 (decide (x47 < x48)))
 (none))))
 (cK (x44 == 0)
 (cK (x44 == 2)
 (k1 (decide (x51 < x46)))
 (cK (x44 == 1)
 (k1 (decide (x49 < x46)))
 (cK (x44 == 0)
 (k1 (decide (x47 < x46)))
 (none))))
 (none)))
noncomputable def J24_0_1 (α : Type) (x44 x46 x47 x48 x49 x50 x51 : Int) (k1 : Bool → Option α) : Option α := J24_0_1g  α x44 x46 x47 x48 x49 x50 x51 k1
def F24_0_1 (v : TJ24_0_1) (α : Type) (K : Exit → St → Option α) : Int → Bool → Int → Int → Int → Int → Int → Int → Option α := fun x44 x45 x46 x47 x48 x49 x50 x51 => v α x44 x46 x47 x48 x49 x50 x51 (fun (y1 : Bool) => u24_0_2 (K .normal) x44 y1 x46 x47 x48 x49 x50 x51) 
theorem m24_0_1g (vf80_0 : Tf80_0) (vf81_0 : Tf81_0)  (α : Type) (K : Exit → St → Option α) : F24_0_1 (J24_0_1g ) α K = p24_0_1.unc fun σ => runM Try.prog (E24_0g vf80_0 vf81_0) sh24 (c24_0_22g ) K σ := by kernel_rfl
theorem m24_0_1 : ∀ (α : Type) (K : Exit → St → Option α), F24_0_1 J24_0_1 α K = p24_0_1.unc fun σ => runM Try.prog E24_0 sh24 c24_0_22 K σ := m24_0_1g f80_0 f81_0
noncomputable def c24_0_17g  : MCode := (.region r24_18 [] (tO [3, 4, 24]))
noncomputable def c24_0_17 : MCode := c24_0_17g 
theorem g24_0_17 : c24_0_17.Good Try.prog E24_0 sh24 := trivial
--CODE 17 0
abbrev TJ24_0_0 : Type 1 := (α : Type) → Int → Int → Int → Int → Int → Int → Int → (Bool → Option α) → Option α
def J24_0_0g (vf81_0 : Tf81_0) (α : Type) (x21 x23 x24 x25 x26 x27 x28 : Int) (k1 : Bool → Option α) : Option α :=
 cK (x21 == 2)
 (vf81_0 α x27
 (fun x30 => cK (!x30)
 (k1 true)
 (cK (x21 == 2)
 (vf81_0 α x28
 (fun x31 => k1 (!x31)))
 (cK (x21 == 1)
 (vf81_0 α x26
 (fun x32 => k1 (!x32)))
 (cK (x21 == 0)
 (vf81_0 α x24
 (fun x33 => k1 (!x33)))
 (none))))))
 (cK (x21 == 1)
 (vf81_0 α x25
 (fun x34 => cK (!x34)
 (k1 true)
 (cK (x21 == 2)
 (vf81_0 α x28
 (fun x35 => k1 (!x35)))
 (cK (x21 == 1)
 (vf81_0 α x26
 (fun x36 => k1 (!x36)))
 (cK (x21 == 0)
 (vf81_0 α x24
 (fun x37 => k1 (!x37)))
 (none))))))
 (cK (x21 == 0)
 (vf81_0 α x23
 (fun x38 => cK (!x38)
 (k1 true)
 (cK (x21 == 2)
 (vf81_0 α x28
 (fun x39 => k1 (!x39)))
 (cK (x21 == 1)
 (vf81_0 α x26
 (fun x40 => k1 (!x40)))
 (cK (x21 == 0)
 (vf81_0 α x24
 (fun x41 => k1 (!x41)))
 (none))))))
 (none)))
noncomputable def J24_0_0 (α : Type) (x21 x23 x24 x25 x26 x27 x28 : Int) (k1 : Bool → Option α) : Option α := J24_0_0g f81_0 α x21 x23 x24 x25 x26 x27 x28 k1
def F24_0_0 (v : TJ24_0_0) (α : Type) (K : Exit → St → Option α) : Int → Bool → Int → Int → Int → Int → Int → Int → Option α := fun x21 x22 x23 x24 x25 x26 x27 x28 => v α x21 x23 x24 x25 x26 x27 x28 (fun (y1 : Bool) => u24_0_1 (K .normal) x21 y1 x23 x24 x25 x26 x27 x28) 
theorem m24_0_0g (vf80_0 : Tf80_0) (vf81_0 : Tf81_0)  (α : Type) (K : Exit → St → Option α) : F24_0_0 (J24_0_0g vf81_0) α K = p24_0_0.unc fun σ => runM Try.prog (E24_0g vf80_0 vf81_0) sh24 (c24_0_17g ) K σ := by kernel_rfl
theorem m24_0_0 : ∀ (α : Type) (K : Exit → St → Option α), F24_0_0 J24_0_0 α K = p24_0_0.unc fun σ => runM Try.prog E24_0 sh24 c24_0_17 K σ := m24_0_0g f80_0 f81_0
noncomputable def c24_0_9g (vJ24_0_0 : TJ24_0_0) (vJ24_0_1 : TJ24_0_1) : MCode := (.seq (.seq (.region r24_12 [] (tO [3, 4, 8])) (.cond (.tmp 8) .skip (.exit 0))) (.seq (.block 1 (.seq (.seq (.mark [⟨p24_0_0, F24_0_0 vJ24_0_0⟩] c24_0_17) (.cond (.tmp 24) (.seq (.region r24_21 [] (tO [2])) .ret) .skip)) (.seq (.mark [⟨p24_0_1, F24_0_1 vJ24_0_1⟩] c24_0_22) (.cond (.tmp 33) (.seq (.region r24_26 [] (tO [2])) .ret) .skip)))) (.region r24_27 [] (tO [3, 4]))))
noncomputable def c24_0_9 : MCode := c24_0_9g J24_0_0 J24_0_1
theorem g24_0_9 : c24_0_9.Good Try.prog E24_0 sh24 := ⟨⟨trivial, ⟨trivial, trivial⟩⟩, ⟨⟨⟨⟨g24_0_17, m24_0_0, trivial⟩, ⟨⟨trivial, trivial⟩, trivial⟩⟩, ⟨⟨g24_0_22, m24_0_1, trivial⟩, ⟨⟨trivial, trivial⟩, trivial⟩⟩⟩, trivial⟩⟩
--CODE 9 0
def S24_0_2g (vJ24_0_0 : TJ24_0_0) (vJ24_0_1 : TJ24_0_1) (α : Type) (x14 x15 x16 x17 x18 x19 x13 : Int) (kn : Int → Option α) (k1 : Int → Option α) (k2 : Int → Bool → Option α) : Option α :=
 cK (decide (x13 < 3))
 (vJ24_0_0 α x13 x14 x15 x16 x17 x18 x19
 (fun x42 => cK x42
 (k1 2)
 (vJ24_0_1 α x13 x14 x15 x16 x17 x18 x19
 (fun x53 => cK x53
 (k1 10)
 (kn (w64 (x13 + 1)))))))
 (k2 x13 (decide (x13 < 3)))
noncomputable def S24_0_2 (α : Type) (x14 x15 x16 x17 x18 x19 x13 : Int) (kn : Int → Option α) (k1 : Int → Option α) (k2 : Int → Bool → Option α) : Option α := S24_0_2g J24_0_0 J24_0_1 α x14 x15 x16 x17 x18 x19 x13 kn k1 k2
noncomputable def R24_0_2 (α : Type) (x14 x15 x16 x17 x18 x19 : Int) (k1 : Int → Option α) (k2 : Int → Bool → Option α) : Nat → Int → Option α
 | 0, _ => none
 | n + 1, x13 => S24_0_2 α x14 x15 x16 x17 x18 x19 x13 (R24_0_2 α x14 x15 x16 x17 x18 x19 k1 k2 n) k1 k2
noncomputable def L24_0_2 (α : Type) (x14 x15 x16 x17 x18 x19 : Int) (k1 : Int → Option α) (k2 : Int → Bool → Option α) (x13 : Int) : Option α := R24_0_2 α x14 x15 x16 x17 x18 x19 k1 k2 fuel x13
abbrev TL24_0_2 : Type 1 := (α : Type) → Int → Int → Int → Int → Int → Int → (Int → Option α) → (Int → Bool → Option α) → Int → Option α
def F24_0_2 (v : TL24_0_2) (α : Type) (K : Exit → St → Option α) : Int → Int → Int → Int → Int → Int → Int → Option α := fun x13 x14 x15 x16 x17 x18 x19 => v α x14 x15 x16 x17 x18 x19 (fun (y1 : Int) => u24_0_4 (K .ret) y1) (fun (y1 : Int) (y2 : Bool) => u24_0_0 (K (.exit 0)) y1 y2 x14 x15 x16 x17 x18 x19) x13
theorem r24_0_2g (vf80_0 : Tf80_0) (vf81_0 : Tf81_0) (vJ24_0_0 : TJ24_0_0) (vJ24_0_1 : TJ24_0_1) (α : Type) (K : Exit → St → Option α) (Kn : St → Option α) (x13 x14 x15 x16 x17 x18 x19 : Int) : u24_0_3 (fun σ => runM Try.prog (E24_0g vf80_0 vf81_0) sh24 (c24_0_9g vJ24_0_0 vJ24_0_1) (thenK (fun σ => tidyK td24_9 σ Kn) K) σ) x13 x14 x15 x16 x17 x18 x19 = S24_0_2g vJ24_0_0 vJ24_0_1 α x14 x15 x16 x17 x18 x19 x13 (fun x13 => u24_0_3 Kn x13 x14 x15 x16 x17 x18 x19) (fun (y1 : Int) => u24_0_4 (K .ret) y1) (fun (y1 : Int) (y2 : Bool) => u24_0_0 (K (.exit 0)) y1 y2 x14 x15 x16 x17 x18 x19) := by kernel_rfl
theorem r24_0_2 (α : Type) (K : Exit → St → Option α) (Kn : St → Option α) (x13 x14 x15 x16 x17 x18 x19 : Int) : u24_0_3 (fun σ => runM Try.prog E24_0 sh24 c24_0_9 (thenK (fun σ => tidyK td24_9 σ Kn) K) σ) x13 x14 x15 x16 x17 x18 x19 = S24_0_2 α x14 x15 x16 x17 x18 x19 x13 (fun x13 => u24_0_3 Kn x13 x14 x15 x16 x17 x18 x19) (fun (y1 : Int) => u24_0_4 (K .ret) y1) (fun (y1 : Int) (y2 : Bool) => u24_0_0 (K (.exit 0)) y1 y2 x14 x15 x16 x17 x18 x19) := r24_0_2g f80_0 f81_0 J24_0_0 J24_0_1 α K Kn x13 x14 x15 x16 x17 x18 x19
theorem t24_0_2 (α : Type) (K : Exit → St → Option α) : ∀ (n : Nat) (x13 x14 x15 x16 x17 x18 x19 : Int), R24_0_2 α x14 x15 x16 x17 x18 x19 (fun (y1 : Int) => u24_0_4 (K .ret) y1) (fun (y1 : Int) (y2 : Bool) => u24_0_0 (K (.exit 0)) y1 y2 x14 x15 x16 x17 x18 x19) n x13 = u24_0_3 (loopT (runM Try.prog E24_0 sh24 c24_0_9) td24_9 K n) x13 x14 x15 x16 x17 x18 x19 := by
 intro n
 induction n with
 | zero => intros; rfl
 | succ n ih => intro x13 x14 x15 x16 x17 x18 x19; exact (congrArg (fun kn => S24_0_2 α x14 x15 x16 x17 x18 x19 x13 kn (fun (y1 : Int) => u24_0_4 (K .ret) y1) (fun (y1 : Int) (y2 : Bool) => u24_0_0 (K (.exit 0)) y1 y2 x14 x15 x16 x17 x18 x19)) (funext fun x13 => ih x13 x14 x15 x16 x17 x18 x19)).trans (r24_0_2 α K (loopT (runM Try.prog E24_0 sh24 c24_0_9) td24_9 K n) x13 x14 x15 x16 x17 x18 x19).symm
theorem m24_0_2 : ∀ (α : Type) (K : Exit → St → Option α), F24_0_2 L24_0_2 α K = p24_0_3.unc fun σ => loopT (runM Try.prog E24_0 sh24 c24_0_9) td24_9 K fuel σ := fun α K => funext fun x13 => funext fun x14 => funext fun x15 => funext fun x16 => funext fun x17 => funext fun x18 => funext fun x19 => t24_0_2 α K fuel x13 x14 x15 x16 x17 x18 x19
abbrev Tf24_0 : Type 1 := (α : Type) → Int → Int → Int → Int → Int → Int → (Int → Option α) → Option α
def f24_0g (vL24_0_2 : TL24_0_2) (vf80_0 : Tf80_0) (α : Type) (x1 x2 x3 x4 x5 x6 : Int) (k1 : Int → Option α) : Option α :=
 vf80_0 α x1 x2 x3 x4 x5 x6
 (fun x7 x8 x9 x10 x11 x12 => vL24_0_2 α x7 x8 x9 x10 x11 x12
 (fun x55 => k1 x55)
 (fun x56 x57 => k1 0) 0)
noncomputable def f24_0 (α : Type) (x1 x2 x3 x4 x5 x6 : Int) (k1 : Int → Option α) : Option α := f24_0g L24_0_2 f80_0 α x1 x2 x3 x4 x5 x6 k1
def pa24_0 : PT (List DV) := pA [pV true [(dI .i64), (dI .i64), (dI .i64), (dI .i64), (dI .i64), (dI .i64)]]
def Fn24_0 (v : Tf24_0) (α : Type) (k : List RV → Option α) : Int → Int → Int → Int → Int → Int → Option α := fun x1 x2 x3 x4 x5 x6 => v α x1 x2 x3 x4 x5 x6 (fun (y1 : Int) => ur24_0_0 k y1)
noncomputable def cm24_0g (vL24_0_2 : TL24_0_2) : MCode := (.seq (.region r24_2 [] (tO [1])) (.seq (.region r24_4 [] (tO [3])) (.seq (.seq (.region r24_7 [] (tO [3, 4])) (.block 0 (.loop td24_9 [⟨p24_0_3, F24_0_2 vL24_0_2⟩] c24_0_9))) (.seq (.region r24_29 [] (tO [2])) .ret))))
noncomputable def cm24_0 : MCode := cm24_0g L24_0_2
theorem gm24_0 : cm24_0.Good Try.prog E24_0 sh24 := ⟨trivial, ⟨trivial, ⟨⟨trivial, ⟨g24_0_9, m24_0_2, trivial⟩⟩, ⟨trivial, trivial⟩⟩⟩⟩
theorem fm24_0g (vf80_0 : Tf80_0) (vf81_0 : Tf81_0) (vL24_0_2 : TL24_0_2) (α : Type) (k : List RV → Option α) : Fn24_0 (f24_0g vL24_0_2 vf80_0) α k = pa24_0.unc fun ds => fnM Try.prog (E24_0g vf80_0 vf81_0) sh24 (cm24_0g vL24_0_2) rs24 k ds := by kernel_rfl
theorem fm24_0 : ∀ (α : Type) (k : List RV → Option α), Fn24_0 f24_0 α k = pa24_0.unc fun ds => fnM Try.prog E24_0 sh24 cm24_0 rs24 k ds := fm24_0g f80_0 f81_0 L24_0_2
theorem is24 : FnIs Try.prog 24 nt24 tr24 tl24 cm24_0.erase rs24 := ⟨Try.f24, Try.func24, rfl, by kernel_rfl, by kernel_rfl, by kernel_rfl⟩
theorem io24_0 : InstOk Try.prog 24 nt24 ⟨pa24_0, Fn24_0 f24_0⟩ := inst_ok eo24_0 followsTry is24 ⟨⟨sh24, cm24_0, by kernel_rfl, gm24_0, fm24_0⟩⟩
abbrev nt18 : Nat := 56
def sh18 : List (Nat × List Sh) := [(7, [.sl]), (18, [.int .i64]), (23, [.int .i64]), (33, [.sl]), (35, [.flt .f32]), (36, [.flt .f32]), (42, [.sl]), (44, [.flt .f32]), (45, [.flt .f32]), (49, [.sl]), (51, [.flt .f32]), (52, [.flt .f32])]
def r18_2 : List AOper := [oO 1 (.box (.tmp 0)), oO 2 (.mv (kI 0)), oO 3 (.mv (kI 0))]
def r18_4 : List AOper := [oO 6 (.faddr 0 (.tmp 1)), oO 7 (.load false 1 (.tmp 6)), oO 8 (.len (.tmp 7)), oM 4 8]
def r18_7 : List AOper := [oM 9 4, oO 10 (.call 29 [(.tmp 9), (kI 4), (kI 64)]), oO 11 (.pure (oB (.unOp .not 4 (.tmp 10)) 4)), oM 12 11, oG 13 (.mv (.tmp 4)) 12 false, oG 14 (.bin .rem 3 (.tmp 13) (kI 4)) 12 false, oG 15 (.bin .neq 3 (.tmp 14) (kI 0)) 12 false, oO 16 (.pick (.tmp 12) (.const (.bool true)) (.tmp 15))]
def r18_10 : List AOper := [oO 2 (.mv (kI 0)), oO 3 (.mv (kI 12))]
def r18_13 : List AOper := [oO 17 (.faddr 1 (.tmp 1)), oO 18 (.load false 1 (.tmp 17)), oO 19 (.call 70 [(.tmp 18)]), oO 20 (.pure (oB (.unOp .not 4 (.tmp 19)) 4)), oM 21 20, oG 22 (.faddr 2 (.tmp 1)) 21 false, oG 23 (.load false 1 (.tmp 22)) 21 false, oG 24 (.call 29 [(.tmp 23), (kI 1), (kI 65536)]) 21 false, oG 25 (.pure (oB (.unOp .not 4 (.tmp 24)) 4)) 21 false, oO 26 (.pick (.tmp 21) (.const (.bool true)) (.tmp 25))]
def r18_16 : List AOper := [oO 2 (.mv (kI 0)), oO 3 (.mv (kI 2))]
def r18_19 : List AOper := [oO 5 (.mv (kI 0))]
def td18_21 : Option Tidy := (some ⟨[1, 4, 5], true, [⟨true, 1, 0, 30100, 1⟩], []⟩)
def r18_24 : List AOper := [oM 27 5, oM 28 4, oO 29 (.bin .lss 3 (.tmp 27) (.tmp 28))]
def r18_30 : List AOper := [oO 32 (.faddr 0 (.tmp 1)), oO 33 (.load false 1 (.tmp 32)), oM 34 5, oO 35 (.iaddr 1 none (.tmp 33) (.tmp 34)), oO 36 (.load false 1 (.tmp 35)), oO 37 (.pure (oB (.convert 74 112 (.tmp 36)) 112)), oO 38 (.call 71 [(.tmp 37)]), oO 39 (.pure (oB (.unOp .not 4 (.tmp 38)) 4))]
def r18_33 : List AOper := [oM 40 5, oM 2 40, oO 3 (.mv (kI 27))]
def r18_35 : List AOper := [oO 41 (.faddr 0 (.tmp 1)), oO 42 (.load false 1 (.tmp 41)), oM 43 5, oO 44 (.iaddr 1 none (.tmp 42) (.tmp 43)), oO 45 (.load false 1 (.tmp 44)), oO 46 (.bin .lss 74 (.tmp 45) (.const (.float Go.FloatKind.f32 0))), oM 47 46, oG 48 (.faddr 0 (.tmp 1)) 47 false, oG 49 (.load false 1 (.tmp 48)) 47 false, oG 50 (.mv (.tmp 5)) 47 false, oG 51 (.iaddr 1 none (.tmp 49) (.tmp 50)) 47 false, oG 52 (.load false 1 (.tmp 51)) 47 false, oG 53 (.bin .gtr 74 (.tmp 52) (.const (.float Go.FloatKind.f32 1199570688))) 47 false, oO 54 (.pick (.tmp 47) (.const (.bool true)) (.tmp 53))]
def r18_38 : List AOper := [oM 55 5, oM 2 55, oO 3 (.mv (kI 2))]
def r18_39 : List AOper := [oM 30 5, oO 31 (.bin .add 3 (.tmp 30) (kI 1)), oM 5 31]
def r18_41 : List AOper := [oO 2 (.mv (kI 0)), oO 3 (.mv (kI 0))]
def tr18 : List (Nat × Tidy) := [tT 0 [1], tT 1 [1, 4], tT 2 [1, 4, 16], tT 3 [2, 3], tT 4 [1, 4, 26], tT 5 [2, 3], tT 6 [1, 4, 5], tT 7 [1, 4, 5, 29], tT 9 [1, 4, 5, 39], tT 10 [2, 3], tT 11 [1, 4, 5, 54], tT 12 [2, 3], tT 8 [1, 4, 5], tT 13 [2, 3]]
def tl18 : List (Nat × Tidy) := [(7, ⟨[1, 4, 5], true, [⟨true, 1, 0, 30100, 1⟩], []⟩)]
def rs18 : List AResV := [.tmp 2, .tmp 3]
def p18_0_0 : PT St := pS [sl 1 (aV false [(cPtr 1 0)]), sl 4 (aV false [(cD (dI .i64))]), sl 5 (aV false [(cD (dI .i64))])] [eBox 1 [(cD dL), (cD (dI .i64)), (cD (dI .i64))]]
def u18_0_0 {β : Type} (g : St → β) : Int → Int → Rows → Int → Int → β := p18_0_0.unc g
def p18_0_1 : PT St := pS [sl 2 (aV false [(cD (dI .i64))]), sl 3 (aV false [(cD (dI .i64))])] []
def u18_0_1 {β : Type} (g : St → β) : Int → Int → β := p18_0_1.unc g
def p18_0_2 : PT St := pS [sl 1 (aV false [(cPtr 1 0)]), sl 4 (aV false [(cD (dI .i64))]), sl 5 (aV false [(cD (dI .i64))]), sl 29 (aV false [(cD dB)])] [eBox 1 [(cD dL), (cD (dI .i64)), (cD (dI .i64))]]
def u18_0_2 {β : Type} (g : St → β) : Int → Int → Bool → Rows → Int → Int → β := p18_0_2.unc g
def pr18_0_0 : PT (List RV) := pRs [pR false [rD (dI .i64)], pR false [rD (dI .i64)]]
def ur18_0_0 {β : Type} (g : List RV → β) : Int → Int → β := pr18_0_0.unc g
def E18_0g (vf29_0 : Tf29_0) (vf70_0 : Tf70_0) (vf71_0 : Tf71_0) (vf71_1 : Tf71_1) : EnvK := EnvK.of [⟨29, nt29, [⟨pa29_0, Fn29_0 vf29_0⟩]⟩, ⟨70, nt70, [⟨pa70_0, Fn70_0 vf70_0⟩]⟩, ⟨71, nt71, [⟨pa71_0, Fn71_0 vf71_0⟩, ⟨pa71_1, Fn71_1 vf71_1⟩]⟩] noSeq
noncomputable def E18_0 : EnvK := E18_0g f29_0 f70_0 f71_0 f71_1
theorem eo18_0 : E18_0.Ok Try.prog := EnvK.of_ok noSeq_ok ⟨⟨io29_0, trivial⟩, ⟨io70_0, trivial⟩, ⟨io71_0, io71_1, trivial⟩, trivial⟩
noncomputable def c18_0_21g  : MCode := (.seq (.seq (.region r18_24 [] (tO [1, 4, 5, 29])) (.cond (.tmp 29) .skip (.exit 0))) (.seq (.block 1 (.seq (.seq (.region r18_30 [] (tO [1, 4, 5, 39])) (.cond (.tmp 39) (.seq (.region r18_33 [] (tO [2, 3])) .ret) .skip)) (.seq (.region r18_35 [] (tO [1, 4, 5, 54])) (.cond (.tmp 54) (.seq (.region r18_38 [] (tO [2, 3])) .ret) .skip)))) (.region r18_39 [] (tO [1, 4, 5]))))
noncomputable def c18_0_21 : MCode := c18_0_21g 
theorem g18_0_21 : c18_0_21.Good Try.prog E18_0 sh18 := ⟨⟨trivial, ⟨trivial, trivial⟩⟩, ⟨⟨⟨trivial, ⟨⟨trivial, trivial⟩, trivial⟩⟩, ⟨trivial, ⟨⟨trivial, trivial⟩, trivial⟩⟩⟩, trivial⟩⟩
--CODE 21 0
def S18_0_0g (vf71_0 : Tf71_0) (vf71_1 : Tf71_1) (α : Type) (x7 : Int) (x9 : Rows) (x8 : Int) (kn : Int → Option α) (k1 : Int → Int → Option α) (k2 : Int → Bool → Option α) : Option α :=
 cK (decide (x8 < x7))
 (rowK x9 x8 [.flt .f32]
 (fun x13 => cK (isNaNb .f32 x13)
 (vf71_0 α 
 (k1 x8 27))
 (flK (f2f .f32 x13 .f64)
 (fun x14 => vf71_1 α x14
 (fun x15 => cK (!x15)
 (k1 x8 27)
 (rowK x9 x8 [.flt .f32]
 (fun x16 => cK ((FloatKind.format .f32).order x16 0 == some Ordering.lt)
 (k1 x8 2)
 (rowK x9 x8 [.flt .f32]
 (fun x17 => cK ((FloatKind.format .f32).order x17 1199570688 == some Ordering.gt)
 (k1 x8 2)
 (kn (w64 (x8 + 1))))))))))))
 (k2 x8 (decide (x8 < x7)))
noncomputable def S18_0_0 (α : Type) (x7 : Int) (x9 : Rows) (x8 : Int) (kn : Int → Option α) (k1 : Int → Int → Option α) (k2 : Int → Bool → Option α) : Option α := S18_0_0g f71_0 f71_1 α x7 x9 x8 kn k1 k2
noncomputable def R18_0_0 (α : Type) (x7 : Int) (x9 : Rows) (k1 : Int → Int → Option α) (k2 : Int → Bool → Option α) : Nat → Int → Option α
 | 0, _ => none
 | n + 1, x8 => S18_0_0 α x7 x9 x8 (R18_0_0 α x7 x9 k1 k2 n) k1 k2
noncomputable def L18_0_0 (α : Type) (x7 : Int) (x9 : Rows) (k1 : Int → Int → Option α) (k2 : Int → Bool → Option α) (x8 : Int) : Option α := R18_0_0 α x7 x9 k1 k2 fuel x8
abbrev TL18_0_0 : Type 1 := (α : Type) → Int → Rows → (Int → Int → Option α) → (Int → Bool → Option α) → Int → Option α
def F18_0_0 (v : TL18_0_0) (α : Type) (K : Exit → St → Option α) : Int → Int → Rows → Int → Int → Option α := fun x7 x8 x9 x10 x11 => v α x7 x9 (fun (y1 : Int) (y2 : Int) => u18_0_1 (K .ret) y1 y2) (fun (y1 : Int) (y2 : Bool) => u18_0_2 (K (.exit 0)) x7 y1 y2 x9 x10 x11) x8
theorem r18_0_0g (vf29_0 : Tf29_0) (vf70_0 : Tf70_0) (vf71_0 : Tf71_0) (vf71_1 : Tf71_1)  (α : Type) (K : Exit → St → Option α) (Kn : St → Option α) (x7 x8 : Int) (x9 : Rows) (x10 x11 : Int) : u18_0_0 (fun σ => runM Try.prog (E18_0g vf29_0 vf70_0 vf71_0 vf71_1) sh18 (c18_0_21g ) (thenK (fun σ => tidyK td18_21 σ Kn) K) σ) x7 x8 x9 x10 x11 = S18_0_0g vf71_0 vf71_1 α x7 x9 x8 (fun x8 => u18_0_0 Kn x7 x8 x9 x10 x11) (fun (y1 : Int) (y2 : Int) => u18_0_1 (K .ret) y1 y2) (fun (y1 : Int) (y2 : Bool) => u18_0_2 (K (.exit 0)) x7 y1 y2 x9 x10 x11) := by kernel_rfl
theorem r18_0_0 (α : Type) (K : Exit → St → Option α) (Kn : St → Option α) (x7 x8 : Int) (x9 : Rows) (x10 x11 : Int) : u18_0_0 (fun σ => runM Try.prog E18_0 sh18 c18_0_21 (thenK (fun σ => tidyK td18_21 σ Kn) K) σ) x7 x8 x9 x10 x11 = S18_0_0 α x7 x9 x8 (fun x8 => u18_0_0 Kn x7 x8 x9 x10 x11) (fun (y1 : Int) (y2 : Int) => u18_0_1 (K .ret) y1 y2) (fun (y1 : Int) (y2 : Bool) => u18_0_2 (K (.exit 0)) x7 y1 y2 x9 x10 x11) := r18_0_0g f29_0 f70_0 f71_0 f71_1 α K Kn x7 x8 x9 x10 x11
theorem t18_0_0 (α : Type) (K : Exit → St → Option α) : ∀ (n : Nat) (x7 x8 : Int) (x9 : Rows) (x10 x11 : Int), R18_0_0 α x7 x9 (fun (y1 : Int) (y2 : Int) => u18_0_1 (K .ret) y1 y2) (fun (y1 : Int) (y2 : Bool) => u18_0_2 (K (.exit 0)) x7 y1 y2 x9 x10 x11) n x8 = u18_0_0 (loopT (runM Try.prog E18_0 sh18 c18_0_21) td18_21 K n) x7 x8 x9 x10 x11 := by
 intro n
 induction n with
 | zero => intros; rfl
 | succ n ih => intro x7 x8 x9 x10 x11; exact (congrArg (fun kn => S18_0_0 α x7 x9 x8 kn (fun (y1 : Int) (y2 : Int) => u18_0_1 (K .ret) y1 y2) (fun (y1 : Int) (y2 : Bool) => u18_0_2 (K (.exit 0)) x7 y1 y2 x9 x10 x11)) (funext fun x8 => ih x7 x8 x9 x10 x11)).trans (r18_0_0 α K (loopT (runM Try.prog E18_0 sh18 c18_0_21) td18_21 K n) x7 x8 x9 x10 x11).symm
theorem m18_0_0 : ∀ (α : Type) (K : Exit → St → Option α), F18_0_0 L18_0_0 α K = p18_0_0.unc fun σ => loopT (runM Try.prog E18_0 sh18 c18_0_21) td18_21 K fuel σ := fun α K => funext fun x7 => funext fun x8 => funext fun x9 => funext fun x10 => funext fun x11 => t18_0_0 α K fuel x7 x8 x9 x10 x11
abbrev Tf18_0 : Type 1 := (α : Type) → Rows → Int → Int → (Int → Int → Option α) → Option α
def f18_0g (vL18_0_0 : TL18_0_0) (vf29_0 : Tf29_0) (vf70_0 : Tf70_0) (α : Type) (x1 : Rows) (x2 x3 : Int) (k1 : Int → Int → Option α) : Option α :=
 vf29_0 α ((List.length x1 : Nat) : Int) 4 64
 (fun x4 => cK (!x4)
 (k1 0 12)
 (cK ((Int.tmod ((List.length x1 : Nat) : Int) 4) != 0)
 (k1 0 12)
 (vf70_0 α x2
 (fun x5 => cK (!x5)
 (k1 0 2)
 (vf29_0 α x3 1 65536
 (fun x6 => cK (!x6)
 (k1 0 2)
 (vL18_0_0 α ((List.length x1 : Nat) : Int) x1
 (fun x18 x19 => k1 x18 x19)
 (fun x20 x21 => k1 0 0) 0)))))))
noncomputable def f18_0 (α : Type) (x1 : Rows) (x2 x3 : Int) (k1 : Int → Int → Option α) : Option α := f18_0g L18_0_0 f29_0 f70_0 α x1 x2 x3 k1
def pa18_0 : PT (List DV) := pA [pV true [dL, (dI .i64), (dI .i64)]]
def Fn18_0 (v : Tf18_0) (α : Type) (k : List RV → Option α) : Rows → Int → Int → Option α := fun x1 x2 x3 => v α x1 x2 x3 (fun (y1 : Int) (y2 : Int) => ur18_0_0 k y1 y2)
noncomputable def cm18_0g (vL18_0_0 : TL18_0_0) : MCode := (.seq (.region r18_2 [] (tO [1])) (.seq (.region r18_4 [] (tO [1, 4])) (.seq (.seq (.region r18_7 [] (tO [1, 4, 16])) (.cond (.tmp 16) (.seq (.region r18_10 [] (tO [2, 3])) .ret) .skip)) (.seq (.seq (.region r18_13 [] (tO [1, 4, 26])) (.cond (.tmp 26) (.seq (.region r18_16 [] (tO [2, 3])) .ret) .skip)) (.seq (.seq (.region r18_19 [] (tO [1, 4, 5])) (.block 0 (.loop td18_21 [⟨p18_0_0, F18_0_0 vL18_0_0⟩] c18_0_21))) (.seq (.region r18_41 [] (tO [2, 3])) .ret))))))
noncomputable def cm18_0 : MCode := cm18_0g L18_0_0
theorem gm18_0 : cm18_0.Good Try.prog E18_0 sh18 := ⟨trivial, ⟨trivial, ⟨⟨trivial, ⟨⟨trivial, trivial⟩, trivial⟩⟩, ⟨⟨trivial, ⟨⟨trivial, trivial⟩, trivial⟩⟩, ⟨⟨trivial, ⟨g18_0_21, m18_0_0, trivial⟩⟩, ⟨trivial, trivial⟩⟩⟩⟩⟩⟩
theorem fm18_0g (vf29_0 : Tf29_0) (vf70_0 : Tf70_0) (vf71_0 : Tf71_0) (vf71_1 : Tf71_1) (vL18_0_0 : TL18_0_0) (α : Type) (k : List RV → Option α) : Fn18_0 (f18_0g vL18_0_0 vf29_0 vf70_0) α k = pa18_0.unc fun ds => fnM Try.prog (E18_0g vf29_0 vf70_0 vf71_0 vf71_1) sh18 (cm18_0g vL18_0_0) rs18 k ds := by kernel_rfl
theorem fm18_0 : ∀ (α : Type) (k : List RV → Option α), Fn18_0 f18_0 α k = pa18_0.unc fun ds => fnM Try.prog E18_0 sh18 cm18_0 rs18 k ds := fm18_0g f29_0 f70_0 f71_0 f71_1 L18_0_0
theorem is18 : FnIs Try.prog 18 nt18 tr18 tl18 cm18_0.erase rs18 := ⟨Try.f18, Try.func18, rfl, by kernel_rfl, by kernel_rfl, by kernel_rfl⟩
theorem io18_0 : InstOk Try.prog 18 nt18 ⟨pa18_0, Fn18_0 f18_0⟩ := inst_ok eo18_0 followsTry is18 ⟨⟨sh18, cm18_0, by kernel_rfl, gm18_0, fm18_0⟩⟩
abbrev nt125 : Nat := 24
def sh125 : List (Nat × List Sh) := [(7, [.int .i64]), (13, [.int .i64]), (20, [.int .i64]), (22, [.int .i64])]
def r125_2 : List AOper := [oO 2 (.box (.tmp 0)), oO 4 (.mv (kI 0))]
def r125_6 : List AOper := [oO 6 (.faddr 0 (.tmp 2)), oO 7 (.load false 1 (.tmp 6)), oM 8 1, oO 9 (.call 109 [(.tmp 7), (.tmp 8)]), oO 10 (.pure (oB (.unOp .not 4 (.tmp 9)) 4)), oM 11 10, oG 12 (.faddr 1 (.tmp 2)) 11 false, oG 13 (.load false 1 (.tmp 12)) 11 false, oG 14 (.mv (.tmp 1)) 11 false, oG 15 (.call 109 [(.tmp 13), (.tmp 14)]) 11 false, oG 16 (.pure (oB (.unOp .not 4 (.tmp 15)) 4)) 11 false, oO 17 (.pick (.tmp 11) (.const (.bool true)) (.tmp 16)), oM 5 17]
def r125_9 : List AOper := [oO 4 (.mv (kI 2))]
def r125_11 : List AOper := [oO 19 (.faddr 0 (.tmp 2)), oO 20 (.load false 1 (.tmp 19)), oO 21 (.faddr 1 (.tmp 2)), oO 22 (.load false 1 (.tmp 21)), oO 23 (.bin .gtr 3 (.tmp 20) (.tmp 22)), oM 18 23]
def r125_14 : List AOper := [oO 4 (.mv (kI 10))]
def r125_16 : List AOper := [oO 4 (.mv (kI 0))]
def tr125 : List (Nat × Tidy) := [tT 0 [1, 2], tT 1 [2, 5], tT 2 [4], tT 3 [18], tT 4 [4], tT 5 [4]]
def tl125 : List (Nat × Tidy) := []
def rs125 : List AResV := [.tmp 4]
def p125_0_0 : PT St := pS [sl 1 (aV false [(cD (dI .i64))]), sl 2 (aV false [(cPtr 2 0)])] [eBox 2 [(cD (dI .i64)), (cD (dI .i64))]]
def u125_0_0 {β : Type} (g : St → β) : Int → Int → Int → β := p125_0_0.unc g
def p125_0_1 : PT St := pS [sl 2 (aV false [(cPtr 2 0)]), sl 5 (aV false [(cD dB)])] [eBox 2 [(cD (dI .i64)), (cD (dI .i64))]]
def u125_0_1 {β : Type} (g : St → β) : Bool → Int → Int → β := p125_0_1.unc g
def pr125_0_0 : PT (List RV) := pRs [pR false [rD (dI .i64)]]
def ur125_0_0 {β : Type} (g : List RV → β) : Int → β := pr125_0_0.unc g
def E125_0g (vf109_0 : Tf109_0) : EnvK := EnvK.of [⟨109, nt109, [⟨pa109_0, Fn109_0 vf109_0⟩]⟩] noSeq
noncomputable def E125_0 : EnvK := E125_0g f109_0
theorem eo125_0 : E125_0.Ok Try.prog := EnvK.of_ok noSeq_ok ⟨⟨io109_0, trivial⟩, trivial⟩
noncomputable def c125_0_5g  : MCode := (.region r125_6 [] (tO [2, 5]))
noncomputable def c125_0_5 : MCode := c125_0_5g 
theorem g125_0_5 : c125_0_5.Good Try.prog E125_0 sh125 := trivial
--CODE 5 0
abbrev TJ125_0_0 : Type 1 := (α : Type) → Int → Int → Int → (Bool → Option α) → Option α
def J125_0_0g (vf109_0 : Tf109_0) (α : Type) (x4 x5 x6 : Int) (k1 : Bool → Option α) : Option α :=
 vf109_0 α x5 x4
 (fun x8 => cK (!x8)
 (k1 true)
 (vf109_0 α x6 x4
 (fun x9 => k1 (!x9))))
noncomputable def J125_0_0 (α : Type) (x4 x5 x6 : Int) (k1 : Bool → Option α) : Option α := J125_0_0g f109_0 α x4 x5 x6 k1
def F125_0_0 (v : TJ125_0_0) (α : Type) (K : Exit → St → Option α) : Int → Int → Int → Option α := fun x4 x5 x6 => v α x4 x5 x6 (fun (y1 : Bool) => u125_0_1 (K .normal) y1 x5 x6) 
theorem m125_0_0g (vf109_0 : Tf109_0)  (α : Type) (K : Exit → St → Option α) : F125_0_0 (J125_0_0g vf109_0) α K = p125_0_0.unc fun σ => runM Try.prog (E125_0g vf109_0) sh125 (c125_0_5g ) K σ := by kernel_rfl
theorem m125_0_0 : ∀ (α : Type) (K : Exit → St → Option α), F125_0_0 J125_0_0 α K = p125_0_0.unc fun σ => runM Try.prog E125_0 sh125 c125_0_5 K σ := m125_0_0g f109_0
abbrev Tf125_0 : Type 1 := (α : Type) → Int → Int → Int → (Int → Option α) → Option α
def f125_0g (vJ125_0_0 : TJ125_0_0) (α : Type) (x1 x2 x3 : Int) (k1 : Int → Option α) : Option α :=
 vJ125_0_0 α x3 x1 x2
 (fun x10 => cK x10
 (k1 2)
 (cK (decide (x2 < x1))
 (k1 10)
 (k1 0)))
noncomputable def f125_0 (α : Type) (x1 x2 x3 : Int) (k1 : Int → Option α) : Option α := f125_0g J125_0_0 α x1 x2 x3 k1
def pa125_0 : PT (List DV) := pA [pV true [(dI .i64), (dI .i64)], pV false [(dI .i64)]]
def Fn125_0 (v : Tf125_0) (α : Type) (k : List RV → Option α) : Int → Int → Int → Option α := fun x1 x2 x3 => v α x1 x2 x3 (fun (y1 : Int) => ur125_0_0 k y1)
noncomputable def cm125_0g (vJ125_0_0 : TJ125_0_0) : MCode := (.seq (.region r125_2 [] (tO [1, 2])) (.seq (.block 0 (.seq (.mark [⟨p125_0_0, F125_0_0 vJ125_0_0⟩] c125_0_5) (.cond (.tmp 5) (.seq (.region r125_9 [] (tO [4])) .ret) (.seq (.region r125_11 [] (tO [18])) (.cond (.tmp 18) (.seq (.region r125_14 [] (tO [4])) .ret) .skip))))) (.seq (.region r125_16 [] (tO [4])) .ret)))
noncomputable def cm125_0 : MCode := cm125_0g J125_0_0
theorem gm125_0 : cm125_0.Good Try.prog E125_0 sh125 := ⟨trivial, ⟨⟨⟨g125_0_5, m125_0_0, trivial⟩, ⟨⟨trivial, trivial⟩, ⟨trivial, ⟨⟨trivial, trivial⟩, trivial⟩⟩⟩⟩, ⟨trivial, trivial⟩⟩⟩
theorem fm125_0g (vf109_0 : Tf109_0) (vJ125_0_0 : TJ125_0_0) (α : Type) (k : List RV → Option α) : Fn125_0 (f125_0g vJ125_0_0) α k = pa125_0.unc fun ds => fnM Try.prog (E125_0g vf109_0) sh125 (cm125_0g vJ125_0_0) rs125 k ds := by kernel_rfl
theorem fm125_0 : ∀ (α : Type) (k : List RV → Option α), Fn125_0 f125_0 α k = pa125_0.unc fun ds => fnM Try.prog E125_0 sh125 cm125_0 rs125 k ds := fm125_0g f109_0 J125_0_0
theorem is125 : FnIs Try.prog 125 nt125 tr125 tl125 cm125_0.erase rs125 := ⟨Try.f125, Try.func125, rfl, by kernel_rfl, by kernel_rfl, by kernel_rfl⟩
theorem io125_0 : InstOk Try.prog 125 nt125 ⟨pa125_0, Fn125_0 f125_0⟩ := inst_ok eo125_0 followsTry is125 ⟨⟨sh125, cm125_0, by kernel_rfl, gm125_0, fm125_0⟩⟩
abbrev nt63 : Nat := 93
def sh63 : List (Nat × List Sh) := [(13, [.int .i64]), (15, [.int .i64]), (19, [.int .i64]), (42, [.int .i64]), (49, [.int .i64]), (56, [.int .i64]), (68, [.int .i64]), (71, [.int .i64]), (83, [.int .i64]), (88, [.int .i64, .int .i64, .int .i64, .int .i64, .int .i64, .int .i64, .int .i64, .int .i64, .int .i64, .int .i64]), (92, [.int .i64, .int .i64, .int .i64, .int .i64, .int .i64, .int .i64, .int .i64, .int .i64, .int .i64, .int .i64])]
def r63_2 : List AOper := [oO 2 (.box (.tmp 0)), oO 3 (.box (.tmp 1)), oO 4 (.alloc [(cI 0), (cI 0), (cI 0), (cI 0), (cI 0), (cI 0), (cI 0), (cI 0), (cI 0), (cI 0)]), oO 5 (.mv (kI 0))]
def r63_4 : List AOper := [oO 12 (.faddr 9 (.tmp 2)), oO 13 (.load false 1 (.tmp 12)), oO 14 (.faddr 9 (.tmp 3)), oO 15 (.load false 1 (.tmp 14)), oO 16 (.bin .mul 3 (.tmp 13) (.tmp 15)), oO 17 (.build [(cI 0), (cI 0), (cI 0), (cI 0), (cI 0), (cI 0), (cI 0), (cI 0), (cI 0), (cI 0)] [(9, 1, (.tmp 16))]), oO 6 (.alloc [(cI 0), (cI 0), (cI 0), (cI 0), (cI 0), (cI 0), (cI 0), (cI 0), (cI 0), (cI 0)]), oD (.store 10 (.tmp 6) (.tmp 17))]
def r63_6 : List AOper := [oO 18 (.faddr 9 (.tmp 6)), oO 19 (.load false 1 (.tmp 18)), oM 7 19]
def r63_9 : List AOper := [oO 8 (.mv (kI 0))]
def td63_11 : Option Tidy := (tO [2, 3, 4, 6, 7, 8])
def r63_14 : List AOper := [oM 20 8, oO 21 (.bin .lss 3 (.tmp 20) (kI 3))]
def r63_19 : List AOper := [oO 9 (.mv (kI 0))]
def td63_21 : Option Tidy := (tO [2, 3, 4, 6, 7, 8, 9])
def r63_24 : List AOper := [oM 24 9, oO 25 (.bin .lss 3 (.tmp 24) (kI 3))]
def r63_30 : List AOper := [oO 10 (.mv (kI 0))]
def td63_32 : Option Tidy := (tO [2, 3, 4, 6, 7, 8, 9, 10])
def r63_35 : List AOper := [oM 28 10, oO 29 (.bin .lss 3 (.tmp 28) (kI 3))]
def r63_39 : List AOper := [oM 32 8, oO 33 (.bin .mul 3 (kI 3) (.tmp 32)), oM 34 9, oO 35 (.bin .add 3 (.tmp 33) (.tmp 34)), oM 36 8, oO 37 (.bin .mul 3 (kI 3) (.tmp 36)), oM 38 9, oO 39 (.bin .add 3 (.tmp 37) (.tmp 38)), oO 40 (.faddr 0 (.tmp 6)), oO 41 (.iaddr 1 (some 9) (.tmp 40) (.tmp 39)), oO 42 (.load false 1 (.tmp 41)), oM 43 8, oO 44 (.bin .mul 3 (kI 3) (.tmp 43)), oM 45 10, oO 46 (.bin .add 3 (.tmp 44) (.tmp 45)), oO 47 (.faddr 0 (.tmp 2)), oO 48 (.iaddr 1 (some 9) (.tmp 47) (.tmp 46)), oO 49 (.load false 1 (.tmp 48)), oM 50 10, oO 51 (.bin .mul 3 (kI 3) (.tmp 50)), oM 52 9, oO 53 (.bin .add 3 (.tmp 51) (.tmp 52)), oO 54 (.faddr 0 (.tmp 3)), oO 55 (.iaddr 1 (some 9) (.tmp 54) (.tmp 53)), oO 56 (.load false 1 (.tmp 55)), oO 57 (.bin .mul 3 (.tmp 49) (.tmp 56)), oO 58 (.bin .add 3 (.tmp 42) (.tmp 57)), oO 59 (.faddr 0 (.tmp 6)), oO 60 (.iaddr 1 (some 9) (.tmp 59) (.tmp 35)), oD (.store 1 (.tmp 60) (.tmp 58))]
def r63_40 : List AOper := [oM 30 10, oO 31 (.bin .add 3 (.tmp 30) (kI 1)), oM 10 31]
def r63_41 : List AOper := [oM 61 7, oM 62 8, oO 63 (.bin .mul 3 (kI 3) (.tmp 62)), oM 64 9, oO 65 (.bin .add 3 (.tmp 63) (.tmp 64)), oO 66 (.faddr 0 (.tmp 6)), oO 67 (.iaddr 1 (some 9) (.tmp 66) (.tmp 65)), oO 68 (.load false 1 (.tmp 67)), oO 69 (.call 117 [(.tmp 61), (.tmp 68)]), oM 7 69]
def r63_42 : List AOper := [oM 26 9, oO 27 (.bin .add 3 (.tmp 26) (kI 1)), oM 9 27]
def r63_43 : List AOper := [oM 22 8, oO 23 (.bin .add 3 (.tmp 22) (kI 1)), oM 8 23]
def r63_45 : List AOper := [oO 70 (.faddr 9 (.tmp 6)), oO 71 (.load false 1 (.tmp 70)), oM 72 7, oO 73 (.bin .quo 3 (.tmp 71) (.tmp 72)), oO 74 (.faddr 9 (.tmp 6)), oD (.store 1 (.tmp 74) (.tmp 73))]
def r63_48 : List AOper := [oO 11 (.mv (kI 0))]
def td63_50 : Option Tidy := (tO [4, 6, 7, 11])
def r63_53 : List AOper := [oM 75 11, oO 76 (.bin .lss 3 (.tmp 75) (kI 9))]
def r63_57 : List AOper := [oM 79 11, oM 80 11, oO 81 (.faddr 0 (.tmp 6)), oO 82 (.iaddr 1 (some 9) (.tmp 81) (.tmp 80)), oO 83 (.load false 1 (.tmp 82)), oM 84 7, oO 85 (.bin .quo 3 (.tmp 83) (.tmp 84)), oO 86 (.faddr 0 (.tmp 6)), oO 87 (.iaddr 1 (some 9) (.tmp 86) (.tmp 79)), oD (.store 1 (.tmp 87) (.tmp 85))]
def r63_58 : List AOper := [oM 77 11, oO 78 (.bin .add 3 (.tmp 77) (kI 1)), oM 11 78]
def r63_61 : List AOper := [oO 88 (.load true 10 (.tmp 6)), oO 89 (.call 59 [(.tmp 88)]), oO 90 (.bin .neq 3 (.tmp 89) (kI 0))]
def r63_64 : List AOper := [oO 91 (.build [(cI 0), (cI 0), (cI 0), (cI 0), (cI 0), (cI 0), (cI 0), (cI 0), (cI 0), (cI 0)] []), oD (.store 10 (.tmp 4) (.tmp 91)), oO 5 (.mv (kI 8))]
def r63_66 : List AOper := [oO 92 (.load true 10 (.tmp 6)), oD (.store 10 (.tmp 4) (.tmp 92)), oO 5 (.mv (kI 0))]
def tr63 : List (Nat × Tidy) := [tT 0 [2, 3, 4], tT 1 [2, 3, 4, 6], tT 2 [2, 3, 4, 6, 7], tT 3 [2, 3, 4, 6, 7, 8], tT 4 [2, 3, 4, 6, 7, 8, 21], tT 6 [2, 3, 4, 6, 7, 8, 9], tT 7 [2, 3, 4, 6, 7, 8, 9, 25], tT 9 [2, 3, 4, 6, 7, 8, 9, 10], tT 10 [2, 3, 4, 6, 7, 8, 9, 10, 29], tT 12 [2, 3, 4, 6, 7, 8, 9, 10], tT 11 [2, 3, 4, 6, 7, 8, 9, 10], tT 13 [2, 3, 4, 6, 7, 8, 9], tT 8 [2, 3, 4, 6, 7, 8, 9], tT 5 [2, 3, 4, 6, 7, 8], tT 14 [4, 6, 7], tT 15 [4, 6, 7, 11], tT 16 [4, 6, 7, 11, 76], tT 18 [4, 6, 7, 11], tT 17 [4, 6, 7, 11], tT 19 [4, 6, 90], tT 20 [4, 5], tT 21 [4, 5]]
def tl63 : List (Nat × Tidy) := [tT 4 [2, 3, 4, 6, 7, 8], tT 7 [2, 3, 4, 6, 7, 8, 9], tT 10 [2, 3, 4, 6, 7, 8, 9, 10], tT 16 [4, 6, 7, 11]]
def rs63 : List AResV := [.cell 4 true 10, .tmp 5]
def pr63_0_0 : PT (List RV) := pRs [pR true [rD (dI .i64), rD (dI .i64), rD (dI .i64), rD (dI .i64), rD (dI .i64), rD (dI .i64), rD (dI .i64), rD (dI .i64), rD (dI .i64), rD (dI .i64)], pR false [rD (dI .i64)]]
def ur63_0_0 {β : Type} (g : List RV → β) : Int → Int → Int → Int → Int → Int → Int → Int → Int → Int → Int → β := pr63_0_0.unc g
def E63_0g (vf117_0 : Tf117_0) (vf59_0 : Tf59_0) : EnvK := EnvK.of [⟨117, nt117, [⟨pa117_0, Fn117_0 vf117_0⟩]⟩, ⟨59, nt59, [⟨pa59_0, Fn59_0 vf59_0⟩]⟩] noSeq
noncomputable def E63_0 : EnvK := E63_0g f117_0 f59_0
theorem eo63_0 : E63_0.Ok Try.prog := EnvK.of_ok noSeq_ok ⟨⟨io117_0, trivial⟩, ⟨io59_0, trivial⟩, trivial⟩
abbrev Tf63_0 : Type 1 := (α : Type) → Int → Int → Int → Int → Int → Int → Int → Int → Int → Int → Int → Int → Int → Int → Int → Int → Int → Int → Int → Int → (Int → Int → Int → Int → Int → Int → Int → Int → Int → Int → Int → Option α) → Option α
def f63_0g (vf117_0 : Tf117_0) (vf59_0 : Tf59_0) (α : Type) (x1 x2 x3 x4 x5 x6 x7 x8 x9 x10 x11 x12 x13 x14 x15 x16 x17 x18 x19 x20 : Int) (k1 : Int → Int → Int → Int → Int → Int → Int → Int → Int → Int → Int → Option α) : Option α :=
 vf117_0 α (w64 (x10 * x20)) (w64 ((w64 ((w64 (0 + (w64 (x1 * x11)))) + (w64 (x2 * x14)))) + (w64 (x3 * x17))))
 (fun x21 => vf117_0 α x21 (w64 ((w64 ((w64 (0 + (w64 (x1 * x12)))) + (w64 (x2 * x15)))) + (w64 (x3 * x18))))
 (fun x22 => vf117_0 α x22 (w64 ((w64 ((w64 (0 + (w64 (x1 * x13)))) + (w64 (x2 * x16)))) + (w64 (x3 * x19))))
 (fun x23 => vf117_0 α x23 (w64 ((w64 ((w64 (0 + (w64 (x4 * x11)))) + (w64 (x5 * x14)))) + (w64 (x6 * x17))))
 (fun x24 => vf117_0 α x24 (w64 ((w64 ((w64 (0 + (w64 (x4 * x12)))) + (w64 (x5 * x15)))) + (w64 (x6 * x18))))
 (fun x25 => vf117_0 α x25 (w64 ((w64 ((w64 (0 + (w64 (x4 * x13)))) + (w64 (x5 * x16)))) + (w64 (x6 * x19))))
 (fun x26 => vf117_0 α x26 (w64 ((w64 ((w64 (0 + (w64 (x7 * x11)))) + (w64 (x8 * x14)))) + (w64 (x9 * x17))))
 (fun x27 => vf117_0 α x27 (w64 ((w64 ((w64 (0 + (w64 (x7 * x12)))) + (w64 (x8 * x15)))) + (w64 (x9 * x18))))
 (fun x28 => vf117_0 α x28 (w64 ((w64 ((w64 (0 + (w64 (x7 * x13)))) + (w64 (x8 * x16)))) + (w64 (x9 * x19))))
 (fun x29 => gK (x29 != 0) (gK (x29 != 0) (gK (x29 != 0) (gK (x29 != 0) (gK (x29 != 0) (gK (x29 != 0) (gK (x29 != 0) (gK (x29 != 0) (gK (x29 != 0) (gK (x29 != 0) (vf59_0 α (w64 (Int.tdiv (w64 ((w64 ((w64 (0 + (w64 (x1 * x11)))) + (w64 (x2 * x14)))) + (w64 (x3 * x17)))) x29)) (w64 (Int.tdiv (w64 ((w64 ((w64 (0 + (w64 (x1 * x12)))) + (w64 (x2 * x15)))) + (w64 (x3 * x18)))) x29)) (w64 (Int.tdiv (w64 ((w64 ((w64 (0 + (w64 (x1 * x13)))) + (w64 (x2 * x16)))) + (w64 (x3 * x19)))) x29)) (w64 (Int.tdiv (w64 ((w64 ((w64 (0 + (w64 (x4 * x11)))) + (w64 (x5 * x14)))) + (w64 (x6 * x17)))) x29)) (w64 (Int.tdiv (w64 ((w64 ((w64 (0 + (w64 (x4 * x12)))) + (w64 (x5 * x15)))) + (w64 (x6 * x18)))) x29)) (w64 (Int.tdiv (w64 ((w64 ((w64 (0 + (w64 (x4 * x13)))) + (w64 (x5 * x16)))) + (w64 (x6 * x19)))) x29)) (w64 (Int.tdiv (w64 ((w64 ((w64 (0 + (w64 (x7 * x11)))) + (w64 (x8 * x14)))) + (w64 (x9 * x17)))) x29)) (w64 (Int.tdiv (w64 ((w64 ((w64 (0 + (w64 (x7 * x12)))) + (w64 (x8 * x15)))) + (w64 (x9 * x18)))) x29)) (w64 (Int.tdiv (w64 ((w64 ((w64 (0 + (w64 (x7 * x13)))) + (w64 (x8 * x16)))) + (w64 (x9 * x19)))) x29)) (w64 (Int.tdiv (w64 (x10 * x20)) x29))
 (fun x30 => cK (x30 != 0)
 (k1 0 0 0 0 0 0 0 0 0 0 8)
 (k1 (w64 (Int.tdiv (w64 ((w64 ((w64 (0 + (w64 (x1 * x11)))) + (w64 (x2 * x14)))) + (w64 (x3 * x17)))) x29)) (w64 (Int.tdiv (w64 ((w64 ((w64 (0 + (w64 (x1 * x12)))) + (w64 (x2 * x15)))) + (w64 (x3 * x18)))) x29)) (w64 (Int.tdiv (w64 ((w64 ((w64 (0 + (w64 (x1 * x13)))) + (w64 (x2 * x16)))) + (w64 (x3 * x19)))) x29)) (w64 (Int.tdiv (w64 ((w64 ((w64 (0 + (w64 (x4 * x11)))) + (w64 (x5 * x14)))) + (w64 (x6 * x17)))) x29)) (w64 (Int.tdiv (w64 ((w64 ((w64 (0 + (w64 (x4 * x12)))) + (w64 (x5 * x15)))) + (w64 (x6 * x18)))) x29)) (w64 (Int.tdiv (w64 ((w64 ((w64 (0 + (w64 (x4 * x13)))) + (w64 (x5 * x16)))) + (w64 (x6 * x19)))) x29)) (w64 (Int.tdiv (w64 ((w64 ((w64 (0 + (w64 (x7 * x11)))) + (w64 (x8 * x14)))) + (w64 (x9 * x17)))) x29)) (w64 (Int.tdiv (w64 ((w64 ((w64 (0 + (w64 (x7 * x12)))) + (w64 (x8 * x15)))) + (w64 (x9 * x18)))) x29)) (w64 (Int.tdiv (w64 ((w64 ((w64 (0 + (w64 (x7 * x13)))) + (w64 (x8 * x16)))) + (w64 (x9 * x19)))) x29)) (w64 (Int.tdiv (w64 (x10 * x20)) x29)) 0)))))))))))))))))))))
noncomputable def f63_0 (α : Type) (x1 x2 x3 x4 x5 x6 x7 x8 x9 x10 x11 x12 x13 x14 x15 x16 x17 x18 x19 x20 : Int) (k1 : Int → Int → Int → Int → Int → Int → Int → Int → Int → Int → Int → Option α) : Option α := f63_0g f117_0 f59_0 α x1 x2 x3 x4 x5 x6 x7 x8 x9 x10 x11 x12 x13 x14 x15 x16 x17 x18 x19 x20 k1
def pa63_0 : PT (List DV) := pA [pV true [(dI .i64), (dI .i64), (dI .i64), (dI .i64), (dI .i64), (dI .i64), (dI .i64), (dI .i64), (dI .i64), (dI .i64)], pV true [(dI .i64), (dI .i64), (dI .i64), (dI .i64), (dI .i64), (dI .i64), (dI .i64), (dI .i64), (dI .i64), (dI .i64)]]
def Fn63_0 (v : Tf63_0) (α : Type) (k : List RV → Option α) : Int → Int → Int → Int → Int → Int → Int → Int → Int → Int → Int → Int → Int → Int → Int → Int → Int → Int → Int → Int → Option α := fun x1 x2 x3 x4 x5 x6 x7 x8 x9 x10 x11 x12 x13 x14 x15 x16 x17 x18 x19 x20 => v α x1 x2 x3 x4 x5 x6 x7 x8 x9 x10 x11 x12 x13 x14 x15 x16 x17 x18 x19 x20 (fun (y1 : Int) (y2 : Int) (y3 : Int) (y4 : Int) (y5 : Int) (y6 : Int) (y7 : Int) (y8 : Int) (y9 : Int) (y10 : Int) (y11 : Int) => ur63_0_0 k y1 y2 y3 y4 y5 y6 y7 y8 y9 y10 y11)
noncomputable def cm63_0g  : MCode := (.seq (.region r63_2 [] (tO [2, 3, 4])) (.seq (.region r63_4 [] (tO [2, 3, 4, 6])) (.seq (.region r63_6 [] (tO [2, 3, 4, 6, 7])) (.seq (.seq (.region r63_9 [] (tO [2, 3, 4, 6, 7, 8])) (.block 0 (.loopU 4 td63_11 (.seq (.seq (.region r63_14 [] (tO [2, 3, 4, 6, 7, 8, 21])) (.cond (.tmp 21) .skip (.exit 0))) (.seq (.block 1 (.seq (.region r63_19 [] (tO [2, 3, 4, 6, 7, 8, 9])) (.block 2 (.loopU 4 td63_21 (.seq (.seq (.region r63_24 [] (tO [2, 3, 4, 6, 7, 8, 9, 25])) (.cond (.tmp 25) .skip (.exit 2))) (.seq (.block 3 (.seq (.seq (.region r63_30 [] (tO [2, 3, 4, 6, 7, 8, 9, 10])) (.block 4 (.loopU 4 td63_32 (.seq (.seq (.region r63_35 [] (tO [2, 3, 4, 6, 7, 8, 9, 10, 29])) (.cond (.tmp 29) .skip (.exit 4))) (.seq (.block 5 (.region r63_39 [] (tO [2, 3, 4, 6, 7, 8, 9, 10]))) (.region r63_40 [] (tO [2, 3, 4, 6, 7, 8, 9, 10]))))))) (.region r63_41 [] (tO [2, 3, 4, 6, 7, 8, 9])))) (.region r63_42 [] (tO [2, 3, 4, 6, 7, 8, 9])))))))) (.region r63_43 [] (tO [2, 3, 4, 6, 7, 8]))))))) (.seq (.region r63_45 [] (tO [4, 6, 7])) (.seq (.seq (.region r63_48 [] (tO [4, 6, 7, 11])) (.block 6 (.loopU 10 td63_50 (.seq (.seq (.region r63_53 [] (tO [4, 6, 7, 11, 76])) (.cond (.tmp 76) .skip (.exit 6))) (.seq (.block 7 (.region r63_57 [] (tO [4, 6, 7, 11]))) (.region r63_58 [] (tO [4, 6, 7, 11]))))))) (.seq (.seq (.region r63_61 [] (tO [4, 6, 90])) (.cond (.tmp 90) (.seq (.region r63_64 [] (tO [4, 5])) .ret) .skip)) (.seq (.region r63_66 [] (tO [4, 5])) .ret))))))))
noncomputable def cm63_0 : MCode := cm63_0g 
theorem gm63_0 : cm63_0.Good Try.prog E63_0 sh63 := ⟨trivial, ⟨trivial, ⟨trivial, ⟨⟨trivial, ⟨⟨⟨trivial, ⟨trivial, trivial⟩⟩, ⟨⟨trivial, ⟨⟨⟨trivial, ⟨trivial, trivial⟩⟩, ⟨⟨⟨trivial, ⟨⟨⟨trivial, ⟨trivial, trivial⟩⟩, ⟨trivial, trivial⟩⟩, by decide⟩⟩, trivial⟩, trivial⟩⟩, by decide⟩⟩, trivial⟩⟩, by decide⟩⟩, ⟨trivial, ⟨⟨trivial, ⟨⟨⟨trivial, ⟨trivial, trivial⟩⟩, ⟨trivial, trivial⟩⟩, by decide⟩⟩, ⟨⟨trivial, ⟨⟨trivial, trivial⟩, trivial⟩⟩, ⟨trivial, trivial⟩⟩⟩⟩⟩⟩⟩⟩
theorem fm63_0g (vf117_0 : Tf117_0) (vf59_0 : Tf59_0)  (α : Type) (k : List RV → Option α) : Fn63_0 (f63_0g vf117_0 vf59_0) α k = pa63_0.unc fun ds => fnM Try.prog (E63_0g vf117_0 vf59_0) sh63 (cm63_0g ) rs63 k ds := by kernel_rfl
theorem fm63_0 : ∀ (α : Type) (k : List RV → Option α), Fn63_0 f63_0 α k = pa63_0.unc fun ds => fnM Try.prog E63_0 sh63 cm63_0 rs63 k ds := fm63_0g f117_0 f59_0
theorem is63 : FnIs Try.prog 63 nt63 tr63 tl63 cm63_0.erase rs63 := ⟨Try.f63, Try.func63, rfl, by kernel_rfl, by kernel_rfl, by kernel_rfl⟩
theorem io63_0 : InstOk Try.prog 63 nt63 ⟨pa63_0, Fn63_0 f63_0⟩ := inst_ok eo63_0 followsTry is63 ⟨⟨sh63, cm63_0, by kernel_rfl, gm63_0, fm63_0⟩⟩
abbrev nt116 : Nat := 6
def sh116 : List (Nat × List Sh) := []
def r116_2 : List AOper := [oO 2 (.mv (.const (.bool false)))]
def r116_4 : List AOper := [oM 3 0, oO 4 (.call 113 [(.tmp 3)]), oO 5 (.pure (oB (.unOp .not 4 (.tmp 4)) 4)), oM 2 5]
def tr116 : List (Nat × Tidy) := [tT 0 [0], tT 1 [2]]
def tl116 : List (Nat × Tidy) := []
def rs116 : List AResV := [.tmp 2]
def pr116_0_0 : PT (List RV) := pRs [pR false [rD dB]]
def ur116_0_0 {β : Type} (g : List RV → β) : Bool → β := pr116_0_0.unc g
def E116_0g (vf113_0 : Tf113_0) : EnvK := EnvK.of [⟨113, nt113, [⟨pa113_0, Fn113_0 vf113_0⟩]⟩] noSeq
noncomputable def E116_0 : EnvK := E116_0g f113_0
theorem eo116_0 : E116_0.Ok Try.prog := EnvK.of_ok noSeq_ok ⟨⟨io113_0, trivial⟩, trivial⟩
abbrev Tf116_0 : Type 1 := (α : Type) → Int → (Bool → Option α) → Option α
def f116_0g (vf113_0 : Tf113_0) (α : Type) (x1 : Int) (k1 : Bool → Option α) : Option α :=
 vf113_0 α x1
 (fun x2 => k1 (!x2))
noncomputable def f116_0 (α : Type) (x1 : Int) (k1 : Bool → Option α) : Option α := f116_0g f113_0 α x1 k1
def pa116_0 : PT (List DV) := pA [pV false [(dI .i64)]]
def Fn116_0 (v : Tf116_0) (α : Type) (k : List RV → Option α) : Int → Option α := fun x1 => v α x1 (fun (y1 : Bool) => ur116_0_0 k y1)
noncomputable def cm116_0g  : MCode := (.seq (.region r116_2 [] (tO [0])) (.seq (.region r116_4 [] (tO [2])) .ret))
noncomputable def cm116_0 : MCode := cm116_0g 
theorem gm116_0 : cm116_0.Good Try.prog E116_0 sh116 := ⟨trivial, ⟨trivial, trivial⟩⟩
theorem fm116_0g (vf113_0 : Tf113_0)  (α : Type) (k : List RV → Option α) : Fn116_0 (f116_0g vf113_0) α k = pa116_0.unc fun ds => fnM Try.prog (E116_0g vf113_0) sh116 (cm116_0g ) rs116 k ds := by kernel_rfl
theorem fm116_0 : ∀ (α : Type) (k : List RV → Option α), Fn116_0 f116_0 α k = pa116_0.unc fun ds => fnM Try.prog E116_0 sh116 cm116_0 rs116 k ds := fm116_0g f113_0
theorem is116 : FnIs Try.prog 116 nt116 tr116 tl116 cm116_0.erase rs116 := ⟨Try.f116, Try.func116, rfl, by kernel_rfl, by kernel_rfl, by kernel_rfl⟩
theorem io116_0 : InstOk Try.prog 116 nt116 ⟨pa116_0, Fn116_0 f116_0⟩ := inst_ok eo116_0 followsTry is116 ⟨⟨sh116, cm116_0, by kernel_rfl, gm116_0, fm116_0⟩⟩
abbrev nt112 : Nat := 6
def sh112 : List (Nat × List Sh) := []
def r112_2 : List AOper := [oO 2 (.mv (.const (.bool false)))]
def r112_4 : List AOper := [oM 3 0, oO 4 (.call 113 [(.tmp 3)]), oO 5 (.pure (oB (.unOp .not 4 (.tmp 4)) 4)), oM 2 5]
def tr112 : List (Nat × Tidy) := [tT 0 [0], tT 1 [2]]
def tl112 : List (Nat × Tidy) := []
def rs112 : List AResV := [.tmp 2]
def pr112_0_0 : PT (List RV) := pRs [pR false [rD dB]]
def ur112_0_0 {β : Type} (g : List RV → β) : Bool → β := pr112_0_0.unc g
def E112_0g (vf113_0 : Tf113_0) : EnvK := EnvK.of [⟨113, nt113, [⟨pa113_0, Fn113_0 vf113_0⟩]⟩] noSeq
noncomputable def E112_0 : EnvK := E112_0g f113_0
theorem eo112_0 : E112_0.Ok Try.prog := EnvK.of_ok noSeq_ok ⟨⟨io113_0, trivial⟩, trivial⟩
abbrev Tf112_0 : Type 1 := (α : Type) → Int → (Bool → Option α) → Option α
def f112_0g (vf113_0 : Tf113_0) (α : Type) (x1 : Int) (k1 : Bool → Option α) : Option α :=
 vf113_0 α x1
 (fun x2 => k1 (!x2))
noncomputable def f112_0 (α : Type) (x1 : Int) (k1 : Bool → Option α) : Option α := f112_0g f113_0 α x1 k1
def pa112_0 : PT (List DV) := pA [pV false [(dI .i64)]]
def Fn112_0 (v : Tf112_0) (α : Type) (k : List RV → Option α) : Int → Option α := fun x1 => v α x1 (fun (y1 : Bool) => ur112_0_0 k y1)
noncomputable def cm112_0g  : MCode := (.seq (.region r112_2 [] (tO [0])) (.seq (.region r112_4 [] (tO [2])) .ret))
noncomputable def cm112_0 : MCode := cm112_0g 
theorem gm112_0 : cm112_0.Good Try.prog E112_0 sh112 := ⟨trivial, ⟨trivial, trivial⟩⟩
theorem fm112_0g (vf113_0 : Tf113_0)  (α : Type) (k : List RV → Option α) : Fn112_0 (f112_0g vf113_0) α k = pa112_0.unc fun ds => fnM Try.prog (E112_0g vf113_0) sh112 (cm112_0g ) rs112 k ds := by kernel_rfl
theorem fm112_0 : ∀ (α : Type) (k : List RV → Option α), Fn112_0 f112_0 α k = pa112_0.unc fun ds => fnM Try.prog E112_0 sh112 cm112_0 rs112 k ds := fm112_0g f113_0
theorem is112 : FnIs Try.prog 112 nt112 tr112 tl112 cm112_0.erase rs112 := ⟨Try.f112, Try.func112, rfl, by kernel_rfl, by kernel_rfl, by kernel_rfl⟩
theorem io112_0 : InstOk Try.prog 112 nt112 ⟨pa112_0, Fn112_0 f112_0⟩ := inst_ok eo112_0 followsTry is112 ⟨⟨sh112, cm112_0, by kernel_rfl, gm112_0, fm112_0⟩⟩
abbrev nt25 : Nat := 39
def sh25 : List (Nat × List Sh) := [(9, [.int .i64]), (14, [.int .i64, .int .i64]), (16, [.int .i64, .int .i64]), (26, [.int .i64, .int .i64]), (28, [.int .i64, .int .i64]), (36, [.int .i64, .int .i64]), (37, [.int .i64, .int .i64])]
def r25_2 : List AOper := [oO 1 (.box (.tmp 0)), oO 2 (.alloc [(cI 0), (cI 0), (cI 0), (cI 0)]), oO 3 (.mv (kI 0))]
def r25_5 : List AOper := [oO 7 (.faddr 0 (.tmp 1)), oO 8 (.faddr 0 (.tmp 7)), oO 9 (.load false 1 (.tmp 8)), oO 10 (.bin .leq 3 (.tmp 9) (kI 0))]
def r25_8 : List AOper := [oO 11 (.build [(cI 0), (cI 0), (cI 0), (cI 0)] []), oD (.store 4 (.tmp 2) (.tmp 11)), oO 3 (.mv (kI 9))]
def r25_10 : List AOper := [oO 13 (.faddr 2 (.tmp 1)), oO 14 (.load true 2 (.tmp 13)), oO 15 (.faddr 0 (.tmp 1)), oO 16 (.load true 2 (.tmp 15)), oO 17 (.call 82 [(.tmp 14), (.tmp 16)]), oM 12 17, oO 18 (.extract 0 (.tmp 12)), oO 19 (.extract 1 (.tmp 12)), oO 4 (.alloc [(cI 0), (cI 0)]), oD (.store 2 (.tmp 4) (.tmp 18)), oM 5 19]
def r25_13 : List AOper := [oM 20 5, oO 21 (.bin .neq 3 (.tmp 20) (kI 0))]
def r25_16 : List AOper := [oO 22 (.build [(cI 0), (cI 0), (cI 0), (cI 0)] []), oM 23 5, oD (.store 4 (.tmp 2) (.tmp 22)), oM 3 23]
def r25_18 : List AOper := [oO 25 (.faddr 4 (.tmp 1)), oO 26 (.load true 2 (.tmp 25)), oO 27 (.faddr 0 (.tmp 1)), oO 28 (.load true 2 (.tmp 27)), oO 29 (.call 82 [(.tmp 26), (.tmp 28)]), oM 24 29, oO 30 (.extract 0 (.tmp 24)), oO 31 (.extract 1 (.tmp 24)), oO 6 (.alloc [(cI 0), (cI 0)]), oD (.store 2 (.tmp 6) (.tmp 30)), oM 5 31]
def r25_21 : List AOper := [oM 32 5, oO 33 (.bin .neq 3 (.tmp 32) (kI 0))]
def r25_24 : List AOper := [oO 34 (.build [(cI 0), (cI 0), (cI 0), (cI 0)] []), oM 35 5, oD (.store 4 (.tmp 2) (.tmp 34)), oM 3 35]
def r25_26 : List AOper := [oO 36 (.load true 2 (.tmp 4)), oO 37 (.load true 2 (.tmp 6)), oO 38 (.build [(cI 0), (cI 0), (cI 0), (cI 0)] [(0, 2, (.tmp 36)), (2, 2, (.tmp 37))]), oD (.store 4 (.tmp 2) (.tmp 38)), oO 3 (.mv (kI 0))]
def tr25 : List (Nat × Tidy) := [tT 0 [1, 2], tT 1 [1, 2, 10], tT 2 [2, 3], tT 3 [1, 2, 4, 5], tT 4 [1, 2, 4, 5, 21], tT 5 [2, 3], tT 6 [2, 4, 5, 6], tT 7 [2, 4, 5, 6, 33], tT 8 [2, 3], tT 9 [2, 3]]
def tl25 : List (Nat × Tidy) := []
def rs25 : List AResV := [.cell 2 true 4, .tmp 3]
def pr25_0_0 : PT (List RV) := pRs [pR true [rD (dI .i64), rD (dI .i64), rD (dI .i64), rD (dI .i64)], pR false [rD (dI .i64)]]
def ur25_0_0 {β : Type} (g : List RV → β) : Int → Int → Int → Int → Int → β := pr25_0_0.unc g
def E25_0g (vf82_0 : Tf82_0) : EnvK := EnvK.of [⟨82, nt82, [⟨pa82_0, Fn82_0 vf82_0⟩]⟩] noSeq
noncomputable def E25_0 : EnvK := E25_0g f82_0
theorem eo25_0 : E25_0.Ok Try.prog := EnvK.of_ok noSeq_ok ⟨⟨io82_0, trivial⟩, trivial⟩
abbrev Tf25_0 : Type 1 := (α : Type) → Int → Int → Int → Int → Int → Int → (Int → Int → Int → Int → Int → Option α) → Option α
def f25_0g (vf82_0 : Tf82_0) (α : Type) (x1 x2 x3 x4 x5 x6 : Int) (k1 : Int → Int → Int → Int → Int → Option α) : Option α :=
 cK (decide (x1 ≤ 0))
 (k1 0 0 0 0 9)
 (vf82_0 α x3 x4 x1 x2
 (fun x7 x8 x9 => cK (x9 != 0)
 (k1 0 0 0 0 x9)
 (vf82_0 α x5 x6 x1 x2
 (fun x10 x11 x12 => cK (x12 != 0)
 (k1 0 0 0 0 x12)
 (k1 x7 x8 x10 x11 0)))))
noncomputable def f25_0 (α : Type) (x1 x2 x3 x4 x5 x6 : Int) (k1 : Int → Int → Int → Int → Int → Option α) : Option α := f25_0g f82_0 α x1 x2 x3 x4 x5 x6 k1
def pa25_0 : PT (List DV) := pA [pV true [(dI .i64), (dI .i64), (dI .i64), (dI .i64), (dI .i64), (dI .i64)]]
def Fn25_0 (v : Tf25_0) (α : Type) (k : List RV → Option α) : Int → Int → Int → Int → Int → Int → Option α := fun x1 x2 x3 x4 x5 x6 => v α x1 x2 x3 x4 x5 x6 (fun (y1 : Int) (y2 : Int) (y3 : Int) (y4 : Int) (y5 : Int) => ur25_0_0 k y1 y2 y3 y4 y5)
noncomputable def cm25_0g  : MCode := (.seq (.region r25_2 [] (tO [1, 2])) (.seq (.seq (.region r25_5 [] (tO [1, 2, 10])) (.cond (.tmp 10) (.seq (.region r25_8 [] (tO [2, 3])) .ret) .skip)) (.seq (.region r25_10 [] (tO [1, 2, 4, 5])) (.seq (.seq (.region r25_13 [] (tO [1, 2, 4, 5, 21])) (.cond (.tmp 21) (.seq (.region r25_16 [] (tO [2, 3])) .ret) .skip)) (.seq (.region r25_18 [] (tO [2, 4, 5, 6])) (.seq (.seq (.region r25_21 [] (tO [2, 4, 5, 6, 33])) (.cond (.tmp 33) (.seq (.region r25_24 [] (tO [2, 3])) .ret) .skip)) (.seq (.region r25_26 [] (tO [2, 3])) .ret)))))))
noncomputable def cm25_0 : MCode := cm25_0g 
theorem gm25_0 : cm25_0.Good Try.prog E25_0 sh25 := ⟨trivial, ⟨⟨trivial, ⟨⟨trivial, trivial⟩, trivial⟩⟩, ⟨trivial, ⟨⟨trivial, ⟨⟨trivial, trivial⟩, trivial⟩⟩, ⟨trivial, ⟨⟨trivial, ⟨⟨trivial, trivial⟩, trivial⟩⟩, ⟨trivial, trivial⟩⟩⟩⟩⟩⟩⟩
theorem fm25_0g (vf82_0 : Tf82_0)  (α : Type) (k : List RV → Option α) : Fn25_0 (f25_0g vf82_0) α k = pa25_0.unc fun ds => fnM Try.prog (E25_0g vf82_0) sh25 (cm25_0g ) rs25 k ds := by kernel_rfl
theorem fm25_0 : ∀ (α : Type) (k : List RV → Option α), Fn25_0 f25_0 α k = pa25_0.unc fun ds => fnM Try.prog E25_0 sh25 cm25_0 rs25 k ds := fm25_0g f82_0
theorem is25 : FnIs Try.prog 25 nt25 tr25 tl25 cm25_0.erase rs25 := ⟨Try.f25, Try.func25, rfl, by kernel_rfl, by kernel_rfl, by kernel_rfl⟩
theorem io25_0 : InstOk Try.prog 25 nt25 ⟨pa25_0, Fn25_0 f25_0⟩ := inst_ok eo25_0 followsTry is25 ⟨⟨sh25, cm25_0, by kernel_rfl, gm25_0, fm25_0⟩⟩
abbrev nt96 : Nat := 21
def sh96 : List (Nat × List Sh) := [(12, [.int .i64, .int .i64]), (13, [.int .i64, .int .i64]), (14, [.int .i64, .int .i64])]
def r96_2 : List AOper := [oO 4 (.mv (kI 0))]
def r96_5 : List AOper := [oM 8 1, oO 9 (.len (.tmp 8)), oO 10 (.mv (kI 0))]
def td96_7 : Option Tidy := (some ⟨[0, 8, 9, 10], true, [⟨false, 8, 0, 20008, 2⟩], []⟩)
def r96_9 : List AOper := [oO 11 (.bin .lss 3 (.tmp 10) (.tmp 9))]
def r96_15 : List AOper := [oO 12 (.iaddr 2 none (.tmp 8) (.tmp 10)), oO 13 (.load true 2 (.tmp 12)), oO 6 (.alloc [(cI 0), (cI 0)]), oD (.store 2 (.tmp 6) (.tmp 13))]
def r96_17 : List AOper := [oO 14 (.load true 2 (.tmp 6)), oM 15 0, oO 16 (.call 125 [(.tmp 14), (.tmp 15)]), oM 7 16]
def r96_19 : List AOper := [oM 17 7, oO 18 (.bin .neq 28 (.tmp 17) (kI 0))]
def r96_22 : List AOper := [oM 19 7, oM 4 19]
def r96_23 : List AOper := [oO 20 (.bin .add 3 (.tmp 10) (kI 1)), oM 10 20]
def r96_25 : List AOper := [oO 4 (.mv (kI 0))]
def tr96 : List (Nat × Tidy) := [tT 0 [0, 1], tT 1 [0, 8, 9, 10], tT 2 [0, 8, 9, 10, 11], tT 3 [0, 6, 8, 9, 10], tT 4 [0, 7, 8, 9, 10], tT 5 [0, 7, 8, 9, 10, 18], tT 6 [4], tT 7 [0, 8, 9, 10], tT 8 [4]]
def tl96 : List (Nat × Tidy) := [(2, ⟨[0, 8, 9, 10], true, [⟨false, 8, 0, 20008, 2⟩], []⟩)]
def rs96 : List AResV := [.tmp 4]
def p96_0_0 : PT St := pS [sl 0 (aV false [(cD (dI .i64))]), sl 8 (aV false [(cD dL)]), sl 9 (aV false [(cD (dI .i64))]), sl 10 (aV false [(cD (dI .i64))])] []
def u96_0_0 {β : Type} (g : St → β) : Int → Rows → Int → Int → β := p96_0_0.unc g
def p96_0_1 : PT St := pS [sl 4 (aV false [(cD (dI .i64))])] []
def u96_0_1 {β : Type} (g : St → β) : Int → β := p96_0_1.unc g
def p96_0_2 : PT St := pS [sl 0 (aV false [(cD (dI .i64))]), sl 8 (aV false [(cD dL)]), sl 9 (aV false [(cD (dI .i64))]), sl 10 (aV false [(cD (dI .i64))]), sl 11 (aV false [(cD dB)])] []
def u96_0_2 {β : Type} (g : St → β) : Int → Rows → Int → Int → Bool → β := p96_0_2.unc g
def pr96_0_0 : PT (List RV) := pRs [pR false [rD (dI .i64)]]
def ur96_0_0 {β : Type} (g : List RV → β) : Int → β := pr96_0_0.unc g
def E96_0g (vf125_0 : Tf125_0) : EnvK := EnvK.of [⟨125, nt125, [⟨pa125_0, Fn125_0 vf125_0⟩]⟩] noSeq
noncomputable def E96_0 : EnvK := E96_0g f125_0
theorem eo96_0 : E96_0.Ok Try.prog := EnvK.of_ok noSeq_ok ⟨⟨io125_0, trivial⟩, trivial⟩
noncomputable def c96_0_7g  : MCode := (.seq (.region r96_9 [] (tO [0, 8, 9, 10, 11])) (.seq (.cond (.tmp 11) .skip (.exit 0)) (.seq (.block 1 (.seq (.region r96_15 [] (tO [0, 6, 8, 9, 10])) (.seq (.region r96_17 [] (tO [0, 7, 8, 9, 10])) (.seq (.region r96_19 [] (tO [0, 7, 8, 9, 10, 18])) (.cond (.tmp 18) (.seq (.region r96_22 [] (tO [4])) .ret) .skip))))) (.region r96_23 [] (tO [0, 8, 9, 10])))))
noncomputable def c96_0_7 : MCode := c96_0_7g 
theorem g96_0_7 : c96_0_7.Good Try.prog E96_0 sh96 := ⟨trivial, ⟨⟨trivial, trivial⟩, ⟨⟨trivial, ⟨trivial, ⟨trivial, ⟨⟨trivial, trivial⟩, trivial⟩⟩⟩⟩, trivial⟩⟩⟩
--CODE 7 0
def S96_0_0g (vf125_0 : Tf125_0) (α : Type) (x3 : Int) (x4 : Rows) (x5 x6 : Int) (kn : Int → Option α) (k1 : Int → Option α) (k2 : Int → Bool → Option α) : Option α :=
 cK (decide (x6 < x5))
 (rowK x4 x6 [.int .i64, .int .i64]
 (fun x8 x9 => vf125_0 α x8 x9 x3
 (fun x10 => cK (x10 != 0)
 (k1 x10)
 (kn (w64 (x6 + 1))))))
 (k2 x6 (decide (x6 < x5)))
noncomputable def S96_0_0 (α : Type) (x3 : Int) (x4 : Rows) (x5 x6 : Int) (kn : Int → Option α) (k1 : Int → Option α) (k2 : Int → Bool → Option α) : Option α := S96_0_0g f125_0 α x3 x4 x5 x6 kn k1 k2
noncomputable def R96_0_0 (α : Type) (x3 : Int) (x4 : Rows) (x5 : Int) (k1 : Int → Option α) (k2 : Int → Bool → Option α) : Nat → Int → Option α
 | 0, _ => none
 | n + 1, x6 => S96_0_0 α x3 x4 x5 x6 (R96_0_0 α x3 x4 x5 k1 k2 n) k1 k2
noncomputable def L96_0_0 (α : Type) (x3 : Int) (x4 : Rows) (x5 : Int) (k1 : Int → Option α) (k2 : Int → Bool → Option α) (x6 : Int) : Option α := R96_0_0 α x3 x4 x5 k1 k2 fuel x6
abbrev TL96_0_0 : Type 1 := (α : Type) → Int → Rows → Int → (Int → Option α) → (Int → Bool → Option α) → Int → Option α
def F96_0_0 (v : TL96_0_0) (α : Type) (K : Exit → St → Option α) : Int → Rows → Int → Int → Option α := fun x3 x4 x5 x6 => v α x3 x4 x5 (fun (y1 : Int) => u96_0_1 (K .ret) y1) (fun (y1 : Int) (y2 : Bool) => u96_0_2 (K (.exit 0)) x3 x4 x5 y1 y2) x6
theorem r96_0_0g (vf125_0 : Tf125_0)  (α : Type) (K : Exit → St → Option α) (Kn : St → Option α) (x3 : Int) (x4 : Rows) (x5 x6 : Int) : u96_0_0 (fun σ => runM Try.prog (E96_0g vf125_0) sh96 (c96_0_7g ) (thenK (fun σ => tidyK td96_7 σ Kn) K) σ) x3 x4 x5 x6 = S96_0_0g vf125_0 α x3 x4 x5 x6 (fun x6 => u96_0_0 Kn x3 x4 x5 x6) (fun (y1 : Int) => u96_0_1 (K .ret) y1) (fun (y1 : Int) (y2 : Bool) => u96_0_2 (K (.exit 0)) x3 x4 x5 y1 y2) := by kernel_rfl
theorem r96_0_0 (α : Type) (K : Exit → St → Option α) (Kn : St → Option α) (x3 : Int) (x4 : Rows) (x5 x6 : Int) : u96_0_0 (fun σ => runM Try.prog E96_0 sh96 c96_0_7 (thenK (fun σ => tidyK td96_7 σ Kn) K) σ) x3 x4 x5 x6 = S96_0_0 α x3 x4 x5 x6 (fun x6 => u96_0_0 Kn x3 x4 x5 x6) (fun (y1 : Int) => u96_0_1 (K .ret) y1) (fun (y1 : Int) (y2 : Bool) => u96_0_2 (K (.exit 0)) x3 x4 x5 y1 y2) := r96_0_0g f125_0 α K Kn x3 x4 x5 x6
theorem t96_0_0 (α : Type) (K : Exit → St → Option α) : ∀ (n : Nat) (x3 : Int) (x4 : Rows) (x5 x6 : Int), R96_0_0 α x3 x4 x5 (fun (y1 : Int) => u96_0_1 (K .ret) y1) (fun (y1 : Int) (y2 : Bool) => u96_0_2 (K (.exit 0)) x3 x4 x5 y1 y2) n x6 = u96_0_0 (loopT (runM Try.prog E96_0 sh96 c96_0_7) td96_7 K n) x3 x4 x5 x6 := by
 intro n
 induction n with
 | zero => intros; rfl
 | succ n ih => intro x3 x4 x5 x6; exact (congrArg (fun kn => S96_0_0 α x3 x4 x5 x6 kn (fun (y1 : Int) => u96_0_1 (K .ret) y1) (fun (y1 : Int) (y2 : Bool) => u96_0_2 (K (.exit 0)) x3 x4 x5 y1 y2)) (funext fun x6 => ih x3 x4 x5 x6)).trans (r96_0_0 α K (loopT (runM Try.prog E96_0 sh96 c96_0_7) td96_7 K n) x3 x4 x5 x6).symm
theorem m96_0_0 : ∀ (α : Type) (K : Exit → St → Option α), F96_0_0 L96_0_0 α K = p96_0_0.unc fun σ => loopT (runM Try.prog E96_0 sh96 c96_0_7) td96_7 K fuel σ := fun α K => funext fun x3 => funext fun x4 => funext fun x5 => funext fun x6 => t96_0_0 α K fuel x3 x4 x5 x6
abbrev Tf96_0 : Type 1 := (α : Type) → Int → Rows → (Int → Option α) → Option α
def f96_0g (vL96_0_0 : TL96_0_0) (α : Type) (x1 : Int) (x2 : Rows) (k1 : Int → Option α) : Option α :=
 vL96_0_0 α x1 x2 ((List.length x2 : Nat) : Int)
 (fun x11 => k1 x11)
 (fun x12 x13 => k1 0) 0
noncomputable def f96_0 (α : Type) (x1 : Int) (x2 : Rows) (k1 : Int → Option α) : Option α := f96_0g L96_0_0 α x1 x2 k1
def pa96_0 : PT (List DV) := pA [pV false [(dI .i64)], pV false [dL]]
def Fn96_0 (v : Tf96_0) (α : Type) (k : List RV → Option α) : Int → Rows → Option α := fun x1 x2 => v α x1 x2 (fun (y1 : Int) => ur96_0_0 k y1)
noncomputable def cm96_0g (vL96_0_0 : TL96_0_0) : MCode := (.seq (.region r96_2 [] (tO [0, 1])) (.seq (.seq (.region r96_5 [] (tO [0, 8, 9, 10])) (.block 0 (.loop td96_7 [⟨p96_0_0, F96_0_0 vL96_0_0⟩] c96_0_7))) (.seq (.region r96_25 [] (tO [4])) .ret)))
noncomputable def cm96_0 : MCode := cm96_0g L96_0_0
theorem gm96_0 : cm96_0.Good Try.prog E96_0 sh96 := ⟨trivial, ⟨⟨trivial, ⟨g96_0_7, m96_0_0, trivial⟩⟩, ⟨trivial, trivial⟩⟩⟩
theorem fm96_0g (vf125_0 : Tf125_0) (vL96_0_0 : TL96_0_0) (α : Type) (k : List RV → Option α) : Fn96_0 (f96_0g vL96_0_0) α k = pa96_0.unc fun ds => fnM Try.prog (E96_0g vf125_0) sh96 (cm96_0g vL96_0_0) rs96 k ds := by kernel_rfl
theorem fm96_0 : ∀ (α : Type) (k : List RV → Option α), Fn96_0 f96_0 α k = pa96_0.unc fun ds => fnM Try.prog E96_0 sh96 cm96_0 rs96 k ds := fm96_0g f125_0 L96_0_0
theorem is96 : FnIs Try.prog 96 nt96 tr96 tl96 cm96_0.erase rs96 := ⟨Try.f96, Try.func96, rfl, by kernel_rfl, by kernel_rfl, by kernel_rfl⟩
theorem io96_0 : InstOk Try.prog 96 nt96 ⟨pa96_0, Fn96_0 f96_0⟩ := inst_ok eo96_0 followsTry is96 ⟨⟨sh96, cm96_0, by kernel_rfl, gm96_0, fm96_0⟩⟩
abbrev nt130 : Nat := 19
def sh130 : List (Nat × List Sh) := [(14, [.int .i64]), (15, [.int .i64])]
def r130_2 : List AOper := [oO 4 (.mv (kI 0))]
def r130_5 : List AOper := [oM 6 0, oO 7 (.len (.tmp 6)), oO 8 (.mv (kI 0))]
def td130_7 : Option Tidy := (tO [0, 1, 7, 8])
def r130_9 : List AOper := [oO 9 (.bin .lss 3 (.tmp 8) (.tmp 7))]
def r130_15 : List AOper := [oM 10 8, oM 5 10]
def r130_17 : List AOper := [oM 11 1, oM 12 0, oM 13 5, oO 14 (.iaddr 1 none (.tmp 12) (.tmp 13)), oO 15 (.load false 1 (.tmp 14)), oO 16 (.calld (.tmp 11) [(.tmp 15)])]
def r130_20 : List AOper := [oM 17 5, oM 4 17]
def r130_21 : List AOper := [oO 18 (.bin .add 3 (.tmp 8) (kI 1)), oM 8 18]
def r130_23 : List AOper := [oO 4 (.mv (kI (-1)))]
def tr130 : List (Nat × Tidy) := [tT 0 [0, 1], tT 1 [0, 1, 7, 8], tT 2 [0, 1, 7, 8, 9], tT 3 [0, 1, 5, 7, 8], tT 4 [0, 1, 5, 7, 8, 16], tT 5 [4], tT 6 [0, 1, 7, 8], tT 7 [4]]
def tl130 : List (Nat × Tidy) := [tT 2 [0, 1, 7, 8]]
def rs130 : List AResV := [.tmp 4]
def p130_0_0 : PT St := pS [sl 0 (aV false [(cD dL)]), sl 1 (aV false [(cD (dFn 112 []))]), sl 7 (aV false [(cD (dI .i64))]), sl 8 (aV false [(cD (dI .i64))])] []
def u130_0_0 {β : Type} (g : St → β) : Rows → Int → Int → β := p130_0_0.unc g
def p130_0_1 : PT St := pS [sl 4 (aV false [(cD (dI .i64))])] []
def u130_0_1 {β : Type} (g : St → β) : Int → β := p130_0_1.unc g
def p130_0_2 : PT St := pS [sl 0 (aV false [(cD dL)]), sl 1 (aV false [(cD (dFn 112 []))]), sl 7 (aV false [(cD (dI .i64))]), sl 8 (aV false [(cD (dI .i64))]), sl 9 (aV false [(cD dB)])] []
def u130_0_2 {β : Type} (g : St → β) : Rows → Int → Int → Bool → β := p130_0_2.unc g
def pr130_0_0 : PT (List RV) := pRs [pR false [rD (dI .i64)]]
def ur130_0_0 {β : Type} (g : List RV → β) : Int → β := pr130_0_0.unc g
def E130_0g (vf112_0 : Tf112_0) : EnvK := EnvK.of [⟨112, nt112, [⟨pa112_0, Fn112_0 vf112_0⟩]⟩] noSeq
noncomputable def E130_0 : EnvK := E130_0g f112_0
theorem eo130_0 : E130_0.Ok Try.prog := EnvK.of_ok noSeq_ok ⟨⟨io112_0, trivial⟩, trivial⟩
noncomputable def c130_0_7g  : MCode := (.seq (.region r130_9 [] (tO [0, 1, 7, 8, 9])) (.seq (.cond (.tmp 9) .skip (.exit 0)) (.seq (.block 1 (.seq (.region r130_15 [] (tO [0, 1, 5, 7, 8])) (.seq (.region r130_17 [] (tO [0, 1, 5, 7, 8, 16])) (.cond (.tmp 16) (.seq (.region r130_20 [] (tO [4])) .ret) .skip)))) (.region r130_21 [] (tO [0, 1, 7, 8])))))
noncomputable def c130_0_7 : MCode := c130_0_7g 
theorem g130_0_7 : c130_0_7.Good Try.prog E130_0 sh130 := ⟨trivial, ⟨⟨trivial, trivial⟩, ⟨⟨trivial, ⟨trivial, ⟨⟨trivial, trivial⟩, trivial⟩⟩⟩, trivial⟩⟩⟩
--CODE 7 0
def S130_0_0g (vf112_0 : Tf112_0) (α : Type) (x2 : Rows) (x3 x4 : Int) (kn : Int → Option α) (k1 : Int → Option α) (k2 : Int → Bool → Option α) : Option α :=
 cK (decide (x4 < x3))
 (rowK x2 x4 [.int .i64]
 (fun x6 => vf112_0 α x6
 (fun x7 => cK x7
 (k1 x4)
 (kn (w64 (x4 + 1))))))
 (k2 x4 (decide (x4 < x3)))
noncomputable def S130_0_0 (α : Type) (x2 : Rows) (x3 x4 : Int) (kn : Int → Option α) (k1 : Int → Option α) (k2 : Int → Bool → Option α) : Option α := S130_0_0g f112_0 α x2 x3 x4 kn k1 k2
noncomputable def R130_0_0 (α : Type) (x2 : Rows) (x3 : Int) (k1 : Int → Option α) (k2 : Int → Bool → Option α) : Nat → Int → Option α
 | 0, _ => none
 | n + 1, x4 => S130_0_0 α x2 x3 x4 (R130_0_0 α x2 x3 k1 k2 n) k1 k2
noncomputable def L130_0_0 (α : Type) (x2 : Rows) (x3 : Int) (k1 : Int → Option α) (k2 : Int → Bool → Option α) (x4 : Int) : Option α := R130_0_0 α x2 x3 k1 k2 fuel x4
abbrev TL130_0_0 : Type 1 := (α : Type) → Rows → Int → (Int → Option α) → (Int → Bool → Option α) → Int → Option α
def F130_0_0 (v : TL130_0_0) (α : Type) (K : Exit → St → Option α) : Rows → Int → Int → Option α := fun x2 x3 x4 => v α x2 x3 (fun (y1 : Int) => u130_0_1 (K .ret) y1) (fun (y1 : Int) (y2 : Bool) => u130_0_2 (K (.exit 0)) x2 x3 y1 y2) x4
theorem r130_0_0g (vf112_0 : Tf112_0)  (α : Type) (K : Exit → St → Option α) (Kn : St → Option α) (x2 : Rows) (x3 x4 : Int) : u130_0_0 (fun σ => runM Try.prog (E130_0g vf112_0) sh130 (c130_0_7g ) (thenK (fun σ => tidyK td130_7 σ Kn) K) σ) x2 x3 x4 = S130_0_0g vf112_0 α x2 x3 x4 (fun x4 => u130_0_0 Kn x2 x3 x4) (fun (y1 : Int) => u130_0_1 (K .ret) y1) (fun (y1 : Int) (y2 : Bool) => u130_0_2 (K (.exit 0)) x2 x3 y1 y2) := by kernel_rfl
theorem r130_0_0 (α : Type) (K : Exit → St → Option α) (Kn : St → Option α) (x2 : Rows) (x3 x4 : Int) : u130_0_0 (fun σ => runM Try.prog E130_0 sh130 c130_0_7 (thenK (fun σ => tidyK td130_7 σ Kn) K) σ) x2 x3 x4 = S130_0_0 α x2 x3 x4 (fun x4 => u130_0_0 Kn x2 x3 x4) (fun (y1 : Int) => u130_0_1 (K .ret) y1) (fun (y1 : Int) (y2 : Bool) => u130_0_2 (K (.exit 0)) x2 x3 y1 y2) := r130_0_0g f112_0 α K Kn x2 x3 x4
theorem t130_0_0 (α : Type) (K : Exit → St → Option α) : ∀ (n : Nat) (x2 : Rows) (x3 x4 : Int), R130_0_0 α x2 x3 (fun (y1 : Int) => u130_0_1 (K .ret) y1) (fun (y1 : Int) (y2 : Bool) => u130_0_2 (K (.exit 0)) x2 x3 y1 y2) n x4 = u130_0_0 (loopT (runM Try.prog E130_0 sh130 c130_0_7) td130_7 K n) x2 x3 x4 := by
 intro n
 induction n with
 | zero => intros; rfl
 | succ n ih => intro x2 x3 x4; exact (congrArg (fun kn => S130_0_0 α x2 x3 x4 kn (fun (y1 : Int) => u130_0_1 (K .ret) y1) (fun (y1 : Int) (y2 : Bool) => u130_0_2 (K (.exit 0)) x2 x3 y1 y2)) (funext fun x4 => ih x2 x3 x4)).trans (r130_0_0 α K (loopT (runM Try.prog E130_0 sh130 c130_0_7) td130_7 K n) x2 x3 x4).symm
theorem m130_0_0 : ∀ (α : Type) (K : Exit → St → Option α), F130_0_0 L130_0_0 α K = p130_0_0.unc fun σ => loopT (runM Try.prog E130_0 sh130 c130_0_7) td130_7 K fuel σ := fun α K => funext fun x2 => funext fun x3 => funext fun x4 => t130_0_0 α K fuel x2 x3 x4
abbrev Tf130_0 : Type 1 := (α : Type) → Rows → (Int → Option α) → Option α
def f130_0g (vL130_0_0 : TL130_0_0) (α : Type) (x1 : Rows) (k1 : Int → Option α) : Option α :=
 vL130_0_0 α x1 ((List.length x1 : Nat) : Int)
 (fun x8 => k1 x8)
 (fun x9 x10 => k1 (-1)) 0
noncomputable def f130_0 (α : Type) (x1 : Rows) (k1 : Int → Option α) : Option α := f130_0g L130_0_0 α x1 k1
def pa130_0 : PT (List DV) := pA [pV false [dL], pV false [(dFn 112 [])]]
def Fn130_0 (v : Tf130_0) (α : Type) (k : List RV → Option α) : Rows → Option α := fun x1 => v α x1 (fun (y1 : Int) => ur130_0_0 k y1)
noncomputable def cm130_0g (vL130_0_0 : TL130_0_0) : MCode := (.seq (.region r130_2 [] (tO [0, 1])) (.seq (.seq (.region r130_5 [] (tO [0, 1, 7, 8])) (.block 0 (.loop td130_7 [⟨p130_0_0, F130_0_0 vL130_0_0⟩] c130_0_7))) (.seq (.region r130_23 [] (tO [4])) .ret)))
noncomputable def cm130_0 : MCode := cm130_0g L130_0_0
theorem gm130_0 : cm130_0.Good Try.prog E130_0 sh130 := ⟨trivial, ⟨⟨trivial, ⟨g130_0_7, m130_0_0, trivial⟩⟩, ⟨trivial, trivial⟩⟩⟩
theorem fm130_0g (vf112_0 : Tf112_0) (vL130_0_0 : TL130_0_0) (α : Type) (k : List RV → Option α) : Fn130_0 (f130_0g vL130_0_0) α k = pa130_0.unc fun ds => fnM Try.prog (E130_0g vf112_0) sh130 (cm130_0g vL130_0_0) rs130 k ds := by kernel_rfl
theorem fm130_0 : ∀ (α : Type) (k : List RV → Option α), Fn130_0 f130_0 α k = pa130_0.unc fun ds => fnM Try.prog E130_0 sh130 cm130_0 rs130 k ds := fm130_0g f112_0 L130_0_0
theorem is130 : FnIs Try.prog 130 nt130 tr130 tl130 cm130_0.erase rs130 := ⟨Try.f130, Try.func130, rfl, by kernel_rfl, by kernel_rfl, by kernel_rfl⟩
theorem io130_0 : InstOk Try.prog 130 nt130 ⟨pa130_0, Fn130_0 f130_0⟩ := inst_ok eo130_0 followsTry is130 ⟨⟨sh130, cm130_0, by kernel_rfl, gm130_0, fm130_0⟩⟩
def p130_1_0 : PT St := pS [sl 0 (aV false [(cD dL)]), sl 1 (aV false [(cD (dFn 116 []))]), sl 7 (aV false [(cD (dI .i64))]), sl 8 (aV false [(cD (dI .i64))])] []
def u130_1_0 {β : Type} (g : St → β) : Rows → Int → Int → β := p130_1_0.unc g
def p130_1_1 : PT St := pS [sl 4 (aV false [(cD (dI .i64))])] []
def u130_1_1 {β : Type} (g : St → β) : Int → β := p130_1_1.unc g
def p130_1_2 : PT St := pS [sl 0 (aV false [(cD dL)]), sl 1 (aV false [(cD (dFn 116 []))]), sl 7 (aV false [(cD (dI .i64))]), sl 8 (aV false [(cD (dI .i64))]), sl 9 (aV false [(cD dB)])] []
def u130_1_2 {β : Type} (g : St → β) : Rows → Int → Int → Bool → β := p130_1_2.unc g
def pr130_1_0 : PT (List RV) := pRs [pR false [rD (dI .i64)]]
def ur130_1_0 {β : Type} (g : List RV → β) : Int → β := pr130_1_0.unc g
def E130_1g (vf116_0 : Tf116_0) : EnvK := EnvK.of [⟨116, nt116, [⟨pa116_0, Fn116_0 vf116_0⟩]⟩] noSeq
noncomputable def E130_1 : EnvK := E130_1g f116_0
theorem eo130_1 : E130_1.Ok Try.prog := EnvK.of_ok noSeq_ok ⟨⟨io116_0, trivial⟩, trivial⟩
noncomputable def c130_1_7g  : MCode := (.seq (.region r130_9 [] (tO [0, 1, 7, 8, 9])) (.seq (.cond (.tmp 9) .skip (.exit 0)) (.seq (.block 1 (.seq (.region r130_15 [] (tO [0, 1, 5, 7, 8])) (.seq (.region r130_17 [] (tO [0, 1, 5, 7, 8, 16])) (.cond (.tmp 16) (.seq (.region r130_20 [] (tO [4])) .ret) .skip)))) (.region r130_21 [] (tO [0, 1, 7, 8])))))
noncomputable def c130_1_7 : MCode := c130_1_7g 
theorem g130_1_7 : c130_1_7.Good Try.prog E130_1 sh130 := ⟨trivial, ⟨⟨trivial, trivial⟩, ⟨⟨trivial, ⟨trivial, ⟨⟨trivial, trivial⟩, trivial⟩⟩⟩, trivial⟩⟩⟩
--CODE 7 0
def S130_1_0g (vf116_0 : Tf116_0) (α : Type) (x2 : Rows) (x3 x4 : Int) (kn : Int → Option α) (k1 : Int → Option α) (k2 : Int → Bool → Option α) : Option α :=
 cK (decide (x4 < x3))
 (rowK x2 x4 [.int .i64]
 (fun x6 => vf116_0 α x6
 (fun x7 => cK x7
 (k1 x4)
 (kn (w64 (x4 + 1))))))
 (k2 x4 (decide (x4 < x3)))
noncomputable def S130_1_0 (α : Type) (x2 : Rows) (x3 x4 : Int) (kn : Int → Option α) (k1 : Int → Option α) (k2 : Int → Bool → Option α) : Option α := S130_1_0g f116_0 α x2 x3 x4 kn k1 k2
noncomputable def R130_1_0 (α : Type) (x2 : Rows) (x3 : Int) (k1 : Int → Option α) (k2 : Int → Bool → Option α) : Nat → Int → Option α
 | 0, _ => none
 | n + 1, x4 => S130_1_0 α x2 x3 x4 (R130_1_0 α x2 x3 k1 k2 n) k1 k2
noncomputable def L130_1_0 (α : Type) (x2 : Rows) (x3 : Int) (k1 : Int → Option α) (k2 : Int → Bool → Option α) (x4 : Int) : Option α := R130_1_0 α x2 x3 k1 k2 fuel x4
abbrev TL130_1_0 : Type 1 := (α : Type) → Rows → Int → (Int → Option α) → (Int → Bool → Option α) → Int → Option α
def F130_1_0 (v : TL130_1_0) (α : Type) (K : Exit → St → Option α) : Rows → Int → Int → Option α := fun x2 x3 x4 => v α x2 x3 (fun (y1 : Int) => u130_1_1 (K .ret) y1) (fun (y1 : Int) (y2 : Bool) => u130_1_2 (K (.exit 0)) x2 x3 y1 y2) x4
theorem r130_1_0g (vf116_0 : Tf116_0)  (α : Type) (K : Exit → St → Option α) (Kn : St → Option α) (x2 : Rows) (x3 x4 : Int) : u130_1_0 (fun σ => runM Try.prog (E130_1g vf116_0) sh130 (c130_1_7g ) (thenK (fun σ => tidyK td130_7 σ Kn) K) σ) x2 x3 x4 = S130_1_0g vf116_0 α x2 x3 x4 (fun x4 => u130_1_0 Kn x2 x3 x4) (fun (y1 : Int) => u130_1_1 (K .ret) y1) (fun (y1 : Int) (y2 : Bool) => u130_1_2 (K (.exit 0)) x2 x3 y1 y2) := by kernel_rfl
theorem r130_1_0 (α : Type) (K : Exit → St → Option α) (Kn : St → Option α) (x2 : Rows) (x3 x4 : Int) : u130_1_0 (fun σ => runM Try.prog E130_1 sh130 c130_1_7 (thenK (fun σ => tidyK td130_7 σ Kn) K) σ) x2 x3 x4 = S130_1_0 α x2 x3 x4 (fun x4 => u130_1_0 Kn x2 x3 x4) (fun (y1 : Int) => u130_1_1 (K .ret) y1) (fun (y1 : Int) (y2 : Bool) => u130_1_2 (K (.exit 0)) x2 x3 y1 y2) := r130_1_0g f116_0 α K Kn x2 x3 x4
theorem t130_1_0 (α : Type) (K : Exit → St → Option α) : ∀ (n : Nat) (x2 : Rows) (x3 x4 : Int), R130_1_0 α x2 x3 (fun (y1 : Int) => u130_1_1 (K .ret) y1) (fun (y1 : Int) (y2 : Bool) => u130_1_2 (K (.exit 0)) x2 x3 y1 y2) n x4 = u130_1_0 (loopT (runM Try.prog E130_1 sh130 c130_1_7) td130_7 K n) x2 x3 x4 := by
 intro n
 induction n with
 | zero => intros; rfl
 | succ n ih => intro x2 x3 x4; exact (congrArg (fun kn => S130_1_0 α x2 x3 x4 kn (fun (y1 : Int) => u130_1_1 (K .ret) y1) (fun (y1 : Int) (y2 : Bool) => u130_1_2 (K (.exit 0)) x2 x3 y1 y2)) (funext fun x4 => ih x2 x3 x4)).trans (r130_1_0 α K (loopT (runM Try.prog E130_1 sh130 c130_1_7) td130_7 K n) x2 x3 x4).symm
theorem m130_1_0 : ∀ (α : Type) (K : Exit → St → Option α), F130_1_0 L130_1_0 α K = p130_1_0.unc fun σ => loopT (runM Try.prog E130_1 sh130 c130_1_7) td130_7 K fuel σ := fun α K => funext fun x2 => funext fun x3 => funext fun x4 => t130_1_0 α K fuel x2 x3 x4
abbrev Tf130_1 : Type 1 := (α : Type) → Rows → (Int → Option α) → Option α
def f130_1g (vL130_1_0 : TL130_1_0) (α : Type) (x1 : Rows) (k1 : Int → Option α) : Option α :=
 vL130_1_0 α x1 ((List.length x1 : Nat) : Int)
 (fun x8 => k1 x8)
 (fun x9 x10 => k1 (-1)) 0
noncomputable def f130_1 (α : Type) (x1 : Rows) (k1 : Int → Option α) : Option α := f130_1g L130_1_0 α x1 k1
def pa130_1 : PT (List DV) := pA [pV false [dL], pV false [(dFn 116 [])]]
def Fn130_1 (v : Tf130_1) (α : Type) (k : List RV → Option α) : Rows → Option α := fun x1 => v α x1 (fun (y1 : Int) => ur130_1_0 k y1)
noncomputable def cm130_1g (vL130_1_0 : TL130_1_0) : MCode := (.seq (.region r130_2 [] (tO [0, 1])) (.seq (.seq (.region r130_5 [] (tO [0, 1, 7, 8])) (.block 0 (.loop td130_7 [⟨p130_1_0, F130_1_0 vL130_1_0⟩] c130_1_7))) (.seq (.region r130_23 [] (tO [4])) .ret)))
noncomputable def cm130_1 : MCode := cm130_1g L130_1_0
theorem gm130_1 : cm130_1.Good Try.prog E130_1 sh130 := ⟨trivial, ⟨⟨trivial, ⟨g130_1_7, m130_1_0, trivial⟩⟩, ⟨trivial, trivial⟩⟩⟩
theorem fm130_1g (vf116_0 : Tf116_0) (vL130_1_0 : TL130_1_0) (α : Type) (k : List RV → Option α) : Fn130_1 (f130_1g vL130_1_0) α k = pa130_1.unc fun ds => fnM Try.prog (E130_1g vf116_0) sh130 (cm130_1g vL130_1_0) rs130 k ds := by kernel_rfl
theorem fm130_1 : ∀ (α : Type) (k : List RV → Option α), Fn130_1 f130_1 α k = pa130_1.unc fun ds => fnM Try.prog E130_1 sh130 cm130_1 rs130 k ds := fm130_1g f116_0 L130_1_0
theorem io130_1 : InstOk Try.prog 130 nt130 ⟨pa130_1, Fn130_1 f130_1⟩ := inst_ok eo130_1 followsTry is130 ⟨⟨sh130, cm130_1, by kernel_rfl, gm130_1, fm130_1⟩⟩
abbrev nt60 : Nat := 11
def sh60 : List (Nat × List Sh) := [(4, [.int .i64, .int .i64]), (6, [.int .i64, .int .i64]), (8, [.int .i64, .int .i64])]
def r60_2 : List AOper := [oO 1 (.box (.tmp 0)), oO 2 (.mv (kI 0))]
def r60_4 : List AOper := [oO 3 (.faddr 0 (.tmp 1)), oO 4 (.load true 2 (.tmp 3)), oO 5 (.faddr 2 (.tmp 1)), oO 6 (.load true 2 (.tmp 5)), oO 7 (.faddr 4 (.tmp 1)), oO 8 (.load true 2 (.tmp 7)), oO 9 (.bslice 2 3 [(.v (.int .i64 0)), (.v (.int .i64 0))] [(0, (.tmp 4)), (1, (.tmp 6)), (2, (.tmp 8))]), oO 10 (.call 96 [(kI 10000000), (.tmp 9)]), oM 2 10]
def tr60 : List (Nat × Tidy) := [tT 0 [1], tT 1 [2]]
def tl60 : List (Nat × Tidy) := []
def rs60 : List AResV := [.tmp 2]
def pr60_0_0 : PT (List RV) := pRs [pR false [rD (dI .i64)]]
def ur60_0_0 {β : Type} (g : List RV → β) : Int → β := pr60_0_0.unc g
def E60_0g (vf96_0 : Tf96_0) : EnvK := EnvK.of [⟨96, nt96, [⟨pa96_0, Fn96_0 vf96_0⟩]⟩] noSeq
noncomputable def E60_0 : EnvK := E60_0g f96_0
theorem eo60_0 : E60_0.Ok Try.prog := EnvK.of_ok noSeq_ok ⟨⟨io96_0, trivial⟩, trivial⟩
abbrev Tf60_0 : Type 1 := (α : Type) → Int → Int → Int → Int → Int → Int → (Int → Option α) → Option α
def f60_0g (vf96_0 : Tf96_0) (α : Type) (x1 x2 x3 x4 x5 x6 : Int) (k1 : Int → Option α) : Option α :=
 vf96_0 α 10000000 [[DC.v (.int .i64 x1), DC.v (.int .i64 x2)], [DC.v (.int .i64 x3), DC.v (.int .i64 x4)], [DC.v (.int .i64 x5), DC.v (.int .i64 x6)]]
 (fun x7 => k1 x7)
noncomputable def f60_0 (α : Type) (x1 x2 x3 x4 x5 x6 : Int) (k1 : Int → Option α) : Option α := f60_0g f96_0 α x1 x2 x3 x4 x5 x6 k1
def pa60_0 : PT (List DV) := pA [pV true [(dI .i64), (dI .i64), (dI .i64), (dI .i64), (dI .i64), (dI .i64)]]
def Fn60_0 (v : Tf60_0) (α : Type) (k : List RV → Option α) : Int → Int → Int → Int → Int → Int → Option α := fun x1 x2 x3 x4 x5 x6 => v α x1 x2 x3 x4 x5 x6 (fun (y1 : Int) => ur60_0_0 k y1)
noncomputable def cm60_0g  : MCode := (.seq (.region r60_2 [] (tO [1])) (.seq (.region r60_4 [] (tO [2])) .ret))
noncomputable def cm60_0 : MCode := cm60_0g 
theorem gm60_0 : cm60_0.Good Try.prog E60_0 sh60 := ⟨trivial, ⟨trivial, trivial⟩⟩
theorem fm60_0g (vf96_0 : Tf96_0)  (α : Type) (k : List RV → Option α) : Fn60_0 (f60_0g vf96_0) α k = pa60_0.unc fun ds => fnM Try.prog (E60_0g vf96_0) sh60 (cm60_0g ) rs60 k ds := by kernel_rfl
theorem fm60_0 : ∀ (α : Type) (k : List RV → Option α), Fn60_0 f60_0 α k = pa60_0.unc fun ds => fnM Try.prog E60_0 sh60 cm60_0 rs60 k ds := fm60_0g f96_0
theorem is60 : FnIs Try.prog 60 nt60 tr60 tl60 cm60_0.erase rs60 := ⟨Try.f60, Try.func60, rfl, by kernel_rfl, by kernel_rfl, by kernel_rfl⟩
theorem io60_0 : InstOk Try.prog 60 nt60 ⟨pa60_0, Fn60_0 f60_0⟩ := inst_ok eo60_0 followsTry is60 ⟨⟨sh60, cm60_0, by kernel_rfl, gm60_0, fm60_0⟩⟩
abbrev nt28 : Nat := 22
def sh28 : List (Nat × List Sh) := [(5, [.str]), (7, [.int .i64]), (9, [.int .i64, .int .i64]), (15, [.int .i64, .int .i64]), (17, [.int .i64, .int .i64]), (19, [.int .i64, .int .i64])]
def r28_2 : List AOper := [oO 1 (.box (.tmp 0)), oO 2 (.mv (kI 0))]
def r28_5 : List AOper := [oO 4 (.faddr 0 (.tmp 1)), oO 5 (.load false 1 (.tmp 4)), oO 6 (.faddr 1 (.tmp 1)), oO 7 (.load false 1 (.tmp 6)), oO 8 (.faddr 2 (.tmp 1)), oO 9 (.load true 2 (.tmp 8)), oO 10 (.call 83 [(.tmp 5), (.tmp 7), (.tmp 9)]), oM 3 10]
def r28_7 : List AOper := [oM 11 3, oO 12 (.bin .neq 28 (.tmp 11) (kI 0))]
def r28_10 : List AOper := [oM 13 3, oM 2 13]
def r28_12 : List AOper := [oO 14 (.faddr 4 (.tmp 1)), oO 15 (.load true 2 (.tmp 14)), oO 16 (.faddr 6 (.tmp 1)), oO 17 (.load true 2 (.tmp 16)), oO 18 (.faddr 8 (.tmp 1)), oO 19 (.load true 2 (.tmp 18)), oO 20 (.bslice 2 3 [(.v (.int .i64 0)), (.v (.int .i64 0))] [(0, (.tmp 15)), (1, (.tmp 17)), (2, (.tmp 19))]), oO 21 (.call 96 [(kI 1048576), (.tmp 20)]), oM 2 21]
def tr28 : List (Nat × Tidy) := [tT 0 [1], tT 1 [1, 3], tT 2 [1, 3, 12], tT 3 [2], tT 4 [2]]
def tl28 : List (Nat × Tidy) := []
def rs28 : List AResV := [.tmp 2]
def pr28_0_0 : PT (List RV) := pRs [pR false [rD (dI .i64)]]
def ur28_0_0 {β : Type} (g : List RV → β) : Int → β := pr28_0_0.unc g
def E28_0g (vf83_0 : Tf83_0) (vf96_0 : Tf96_0) : EnvK := EnvK.of [⟨83, nt83, [⟨pa83_0, Fn83_0 vf83_0⟩]⟩, ⟨96, nt96, [⟨pa96_0, Fn96_0 vf96_0⟩]⟩] noSeq
noncomputable def E28_0 : EnvK := E28_0g f83_0 f96_0
theorem eo28_0 : E28_0.Ok Try.prog := EnvK.of_ok noSeq_ok ⟨⟨io83_0, trivial⟩, ⟨io96_0, trivial⟩, trivial⟩
abbrev Tf28_0 : Type 1 := (α : Type) → ByteArray → Int → Int → Int → Int → Int → Int → Int → Int → Int → (Int → Option α) → Option α
def f28_0g (vf83_0 : Tf83_0) (vf96_0 : Tf96_0) (α : Type) (x1 : ByteArray) (x2 x3 x4 x5 x6 x7 x8 x9 x10 : Int) (k1 : Int → Option α) : Option α :=
 vf83_0 α x1 x2 x3 x4
 (fun x11 => cK (x11 != 0)
 (k1 x11)
 (vf96_0 α 1048576 [[DC.v (.int .i64 x5), DC.v (.int .i64 x6)], [DC.v (.int .i64 x7), DC.v (.int .i64 x8)], [DC.v (.int .i64 x9), DC.v (.int .i64 x10)]]
 (fun x12 => k1 x12)))
noncomputable def f28_0 (α : Type) (x1 : ByteArray) (x2 x3 x4 x5 x6 x7 x8 x9 x10 : Int) (k1 : Int → Option α) : Option α := f28_0g f83_0 f96_0 α x1 x2 x3 x4 x5 x6 x7 x8 x9 x10 k1
def pa28_0 : PT (List DV) := pA [pV true [dS, (dI .i64), (dI .i64), (dI .i64), (dI .i64), (dI .i64), (dI .i64), (dI .i64), (dI .i64), (dI .i64)]]
def Fn28_0 (v : Tf28_0) (α : Type) (k : List RV → Option α) : ByteArray → Int → Int → Int → Int → Int → Int → Int → Int → Int → Option α := fun x1 x2 x3 x4 x5 x6 x7 x8 x9 x10 => v α x1 x2 x3 x4 x5 x6 x7 x8 x9 x10 (fun (y1 : Int) => ur28_0_0 k y1)
noncomputable def cm28_0g  : MCode := (.seq (.region r28_2 [] (tO [1])) (.seq (.seq (.region r28_5 [] (tO [1, 3])) (.seq (.region r28_7 [] (tO [1, 3, 12])) (.cond (.tmp 12) (.seq (.region r28_10 [] (tO [2])) .ret) .skip))) (.seq (.region r28_12 [] (tO [2])) .ret)))
noncomputable def cm28_0 : MCode := cm28_0g 
theorem gm28_0 : cm28_0.Good Try.prog E28_0 sh28 := ⟨trivial, ⟨⟨trivial, ⟨trivial, ⟨⟨trivial, trivial⟩, trivial⟩⟩⟩, ⟨trivial, trivial⟩⟩⟩
theorem fm28_0g (vf83_0 : Tf83_0) (vf96_0 : Tf96_0)  (α : Type) (k : List RV → Option α) : Fn28_0 (f28_0g vf83_0 vf96_0) α k = pa28_0.unc fun ds => fnM Try.prog (E28_0g vf83_0 vf96_0) sh28 (cm28_0g ) rs28 k ds := by kernel_rfl
theorem fm28_0 : ∀ (α : Type) (k : List RV → Option α), Fn28_0 f28_0 α k = pa28_0.unc fun ds => fnM Try.prog E28_0 sh28 cm28_0 rs28 k ds := fm28_0g f83_0 f96_0
theorem is28 : FnIs Try.prog 28 nt28 tr28 tl28 cm28_0.erase rs28 := ⟨Try.f28, Try.func28, rfl, by kernel_rfl, by kernel_rfl, by kernel_rfl⟩
theorem io28_0 : InstOk Try.prog 28 nt28 ⟨pa28_0, Fn28_0 f28_0⟩ := inst_ok eo28_0 followsTry is28 ⟨⟨sh28, cm28_0, by kernel_rfl, gm28_0, fm28_0⟩⟩
abbrev nt111 : Nat := 9
def sh111 : List (Nat × List Sh) := []
def r111_2 : List AOper := [oO 4 (.mv (.const (.bool false)))]
def r111_4 : List AOper := [oM 5 0, oM 6 1, oO 7 (.call 130 [(.tmp 5), (.tmp 6)]), oO 8 (.bin .geq 3 (.tmp 7) (kI 0)), oM 4 8]
def tr111 : List (Nat × Tidy) := [tT 0 [0, 1], tT 1 [4]]
def tl111 : List (Nat × Tidy) := []
def rs111 : List AResV := [.tmp 4]
def pr111_0_0 : PT (List RV) := pRs [pR false [rD dB]]
def ur111_0_0 {β : Type} (g : List RV → β) : Bool → β := pr111_0_0.unc g
def E111_0g (vf130_0 : Tf130_0) : EnvK := EnvK.of [⟨130, nt130, [⟨pa130_0, Fn130_0 vf130_0⟩]⟩] noSeq
noncomputable def E111_0 : EnvK := E111_0g f130_0
theorem eo111_0 : E111_0.Ok Try.prog := EnvK.of_ok noSeq_ok ⟨⟨io130_0, trivial⟩, trivial⟩
abbrev Tf111_0 : Type 1 := (α : Type) → Rows → (Bool → Option α) → Option α
def f111_0g (vf130_0 : Tf130_0) (α : Type) (x1 : Rows) (k1 : Bool → Option α) : Option α :=
 vf130_0 α x1
 (fun x2 => k1 (decide (0 ≤ x2)))
noncomputable def f111_0 (α : Type) (x1 : Rows) (k1 : Bool → Option α) : Option α := f111_0g f130_0 α x1 k1
def pa111_0 : PT (List DV) := pA [pV false [dL], pV false [(dFn 112 [])]]
def Fn111_0 (v : Tf111_0) (α : Type) (k : List RV → Option α) : Rows → Option α := fun x1 => v α x1 (fun (y1 : Bool) => ur111_0_0 k y1)
noncomputable def cm111_0g  : MCode := (.seq (.region r111_2 [] (tO [0, 1])) (.seq (.region r111_4 [] (tO [4])) .ret))
noncomputable def cm111_0 : MCode := cm111_0g 
theorem gm111_0 : cm111_0.Good Try.prog E111_0 sh111 := ⟨trivial, ⟨trivial, trivial⟩⟩
theorem fm111_0g (vf130_0 : Tf130_0)  (α : Type) (k : List RV → Option α) : Fn111_0 (f111_0g vf130_0) α k = pa111_0.unc fun ds => fnM Try.prog (E111_0g vf130_0) sh111 (cm111_0g ) rs111 k ds := by kernel_rfl
theorem fm111_0 : ∀ (α : Type) (k : List RV → Option α), Fn111_0 f111_0 α k = pa111_0.unc fun ds => fnM Try.prog E111_0 sh111 cm111_0 rs111 k ds := fm111_0g f130_0
theorem is111 : FnIs Try.prog 111 nt111 tr111 tl111 cm111_0.erase rs111 := ⟨Try.f111, Try.func111, rfl, by kernel_rfl, by kernel_rfl, by kernel_rfl⟩
theorem io111_0 : InstOk Try.prog 111 nt111 ⟨pa111_0, Fn111_0 f111_0⟩ := inst_ok eo111_0 followsTry is111 ⟨⟨sh111, cm111_0, by kernel_rfl, gm111_0, fm111_0⟩⟩
def pr111_1_0 : PT (List RV) := pRs [pR false [rD dB]]
def ur111_1_0 {β : Type} (g : List RV → β) : Bool → β := pr111_1_0.unc g
def E111_1g (vf130_1 : Tf130_1) : EnvK := EnvK.of [⟨130, nt130, [⟨pa130_1, Fn130_1 vf130_1⟩]⟩] noSeq
noncomputable def E111_1 : EnvK := E111_1g f130_1
theorem eo111_1 : E111_1.Ok Try.prog := EnvK.of_ok noSeq_ok ⟨⟨io130_1, trivial⟩, trivial⟩
abbrev Tf111_1 : Type 1 := (α : Type) → Rows → (Bool → Option α) → Option α
def f111_1g (vf130_1 : Tf130_1) (α : Type) (x1 : Rows) (k1 : Bool → Option α) : Option α :=
 vf130_1 α x1
 (fun x2 => k1 (decide (0 ≤ x2)))
noncomputable def f111_1 (α : Type) (x1 : Rows) (k1 : Bool → Option α) : Option α := f111_1g f130_1 α x1 k1
def pa111_1 : PT (List DV) := pA [pV false [dL], pV false [(dFn 116 [])]]
def Fn111_1 (v : Tf111_1) (α : Type) (k : List RV → Option α) : Rows → Option α := fun x1 => v α x1 (fun (y1 : Bool) => ur111_1_0 k y1)
noncomputable def cm111_1g  : MCode := (.seq (.region r111_2 [] (tO [0, 1])) (.seq (.region r111_4 [] (tO [4])) .ret))
noncomputable def cm111_1 : MCode := cm111_1g 
theorem gm111_1 : cm111_1.Good Try.prog E111_1 sh111 := ⟨trivial, ⟨trivial, trivial⟩⟩
theorem fm111_1g (vf130_1 : Tf130_1)  (α : Type) (k : List RV → Option α) : Fn111_1 (f111_1g vf130_1) α k = pa111_1.unc fun ds => fnM Try.prog (E111_1g vf130_1) sh111 (cm111_1g ) rs111 k ds := by kernel_rfl
theorem fm111_1 : ∀ (α : Type) (k : List RV → Option α), Fn111_1 f111_1 α k = pa111_1.unc fun ds => fnM Try.prog E111_1 sh111 cm111_1 rs111 k ds := fm111_1g f130_1
theorem io111_1 : InstOk Try.prog 111 nt111 ⟨pa111_1, Fn111_1 f111_1⟩ := inst_ok eo111_1 followsTry is111 ⟨⟨sh111, cm111_1, by kernel_rfl, gm111_1, fm111_1⟩⟩
abbrev nt58 : Nat := 12
def sh58 : List (Nat × List Sh) := [(4, [.int .i64])]
def r58_2 : List AOper := [oO 1 (.box (.tmp 0)), oO 2 (.mv (kI 0))]
def r58_5 : List AOper := [oO 3 (.faddr 9 (.tmp 1)), oO 4 (.load false 1 (.tmp 3)), oO 5 (.call 98 [(.tmp 4), (kI 1), (kI 1000)]), oO 6 (.pure (oB (.unOp .not 4 (.tmp 5)) 4)), oM 7 6, oG 8 (.faddr 0 (.tmp 1)) 7 false, oG 9 (.aslice 1 9 (.tmp 8)) 7 false, oG 10 (.call 111 [(.tmp 9), (.func 112)]) 7 false, oO 11 (.pick (.tmp 7) (.const (.bool true)) (.tmp 10))]
def r58_8 : List AOper := [oO 2 (.mv (kI 2))]
def r58_10 : List AOper := [oO 2 (.mv (kI 0))]
def tr58 : List (Nat × Tidy) := [(0, ⟨[1], true, [], [1]⟩), tT 1 [11], tT 2 [2], tT 3 [2]]
def tl58 : List (Nat × Tidy) := []
def rs58 : List AResV := [.tmp 2]
def pr58_0_0 : PT (List RV) := pRs [pR false [rD (dI .i64)]]
def ur58_0_0 {β : Type} (g : List RV → β) : Int → β := pr58_0_0.unc g
def E58_0g (vf98_0 : Tf98_0) (vf111_0 : Tf111_0) : EnvK := EnvK.of [⟨98, nt98, [⟨pa98_0, Fn98_0 vf98_0⟩]⟩, ⟨111, nt111, [⟨pa111_0, Fn111_0 vf111_0⟩]⟩] noSeq
noncomputable def E58_0 : EnvK := E58_0g f98_0 f111_0
theorem eo58_0 : E58_0.Ok Try.prog := EnvK.of_ok noSeq_ok ⟨⟨io98_0, trivial⟩, ⟨io111_0, trivial⟩, trivial⟩
abbrev Tf58_0 : Type 1 := (α : Type) → Int → Int → Int → Int → Int → Int → Int → Int → Int → Int → (Int → Option α) → Option α
def f58_0g (vf111_0 : Tf111_0) (vf98_0 : Tf98_0) (α : Type) (x1 x2 x3 x4 x5 x6 x7 x8 x9 x10 : Int) (k1 : Int → Option α) : Option α :=
 vf98_0 α x10 1 1000
 (fun x11 => cK (!x11)
 (k1 2)
 (vf111_0 α [[DC.v (.int .i64 x1)], [DC.v (.int .i64 x2)], [DC.v (.int .i64 x3)], [DC.v (.int .i64 x4)], [DC.v (.int .i64 x5)], [DC.v (.int .i64 x6)], [DC.v (.int .i64 x7)], [DC.v (.int .i64 x8)], [DC.v (.int .i64 x9)]]
 (fun x12 => cK x12
 (k1 2)
 (k1 0))))
noncomputable def f58_0 (α : Type) (x1 x2 x3 x4 x5 x6 x7 x8 x9 x10 : Int) (k1 : Int → Option α) : Option α := f58_0g f111_0 f98_0 α x1 x2 x3 x4 x5 x6 x7 x8 x9 x10 k1
def pa58_0 : PT (List DV) := pA [pV true [(dI .i64), (dI .i64), (dI .i64), (dI .i64), (dI .i64), (dI .i64), (dI .i64), (dI .i64), (dI .i64), (dI .i64)]]
def Fn58_0 (v : Tf58_0) (α : Type) (k : List RV → Option α) : Int → Int → Int → Int → Int → Int → Int → Int → Int → Int → Option α := fun x1 x2 x3 x4 x5 x6 x7 x8 x9 x10 => v α x1 x2 x3 x4 x5 x6 x7 x8 x9 x10 (fun (y1 : Int) => ur58_0_0 k y1)
noncomputable def cm58_0g  : MCode := (.seq (.region r58_2 [] (some ⟨[1], true, [], [1]⟩)) (.seq (.seq (.region r58_5 [] (tO [11])) (.cond (.tmp 11) (.seq (.region r58_8 [] (tO [2])) .ret) .skip)) (.seq (.region r58_10 [] (tO [2])) .ret)))
noncomputable def cm58_0 : MCode := cm58_0g 
theorem gm58_0 : cm58_0.Good Try.prog E58_0 sh58 := ⟨trivial, ⟨⟨trivial, ⟨⟨trivial, trivial⟩, trivial⟩⟩, ⟨trivial, trivial⟩⟩⟩
theorem fm58_0g (vf98_0 : Tf98_0) (vf111_0 : Tf111_0)  (α : Type) (k : List RV → Option α) : Fn58_0 (f58_0g vf111_0 vf98_0) α k = pa58_0.unc fun ds => fnM Try.prog (E58_0g vf98_0 vf111_0) sh58 (cm58_0g ) rs58 k ds := by kernel_rfl
theorem fm58_0 : ∀ (α : Type) (k : List RV → Option α), Fn58_0 f58_0 α k = pa58_0.unc fun ds => fnM Try.prog E58_0 sh58 cm58_0 rs58 k ds := fm58_0g f98_0 f111_0
theorem is58 : FnIs Try.prog 58 nt58 tr58 tl58 cm58_0.erase rs58 := ⟨Try.f58, Try.func58, rfl, by kernel_rfl, by kernel_rfl, by kernel_rfl⟩
theorem io58_0 : InstOk Try.prog 58 nt58 ⟨pa58_0, Fn58_0 f58_0⟩ := inst_ok eo58_0 followsTry is58 ⟨⟨sh58, cm58_0, by kernel_rfl, gm58_0, fm58_0⟩⟩
abbrev nt23 : Nat := 74
def sh23 : List (Nat × List Sh) := [(11, [.int .i64, .int .i64, .int .i64, .int .i64, .int .i64, .int .i64]), (19, [.int .i64]), (23, [.int .i64, .int .i64]), (25, [.int .i64, .int .i64]), (33, [.int .i64]), (36, [.int .i64]), (38, [.int .i64]), (42, [.int .i64]), (44, [.int .i64]), (48, [.int .i64]), (52, [.int .i64]), (58, [.int .i64]), (73, [.int .i64, .int .i64, .int .i64, .int .i64])]
def r23_2 : List AOper := [oO 1 (.box (.tmp 0)), oO 2 (.alloc [(cI 0), (cI 0), (cI 0), (cI 0)]), oO 3 (.mv (kI 0))]
def r23_5 : List AOper := [oO 11 (.load true 6 (.tmp 1)), oO 12 (.call 60 [(.tmp 11)]), oM 4 12]
def r23_7 : List AOper := [oM 13 4, oO 14 (.bin .neq 28 (.tmp 13) (kI 0))]
def r23_10 : List AOper := [oO 15 (.build [(cI 0), (cI 0), (cI 0), (cI 0)] []), oM 16 4, oD (.store 4 (.tmp 2) (.tmp 15)), oM 3 16]
def r23_13 : List AOper := [oO 17 (.faddr 0 (.tmp 1)), oO 18 (.faddr 0 (.tmp 17)), oO 19 (.load false 1 (.tmp 18)), oO 20 (.bin .leq 3 (.tmp 19) (kI 0))]
def r23_16 : List AOper := [oO 21 (.build [(cI 0), (cI 0), (cI 0), (cI 0)] []), oD (.store 4 (.tmp 2) (.tmp 21)), oO 3 (.mv (kI 9))]
def r23_18 : List AOper := [oO 5 (.alloc [(cI 0), (cI 0), (cI 0), (cI 0)])]
def r23_21 : List AOper := [oO 22 (.faddr 2 (.tmp 1)), oO 23 (.load true 2 (.tmp 22)), oO 24 (.faddr 4 (.tmp 1)), oO 25 (.load true 2 (.tmp 24)), oO 26 (.build [(cI 0), (cI 0), (cI 0), (cI 0)] [(0, 2, (.tmp 23)), (2, 2, (.tmp 25))]), oO 27 (.mv (kI 0))]
def td23_23 : Option Tidy := (tO [1, 2, 5, 26, 27])
def r23_25 : List AOper := [oO 28 (.bin .lss 3 (.tmp 27) (kI 2))]
def r23_31 : List AOper := [oM 29 27, oO 30 (.index true 2 2 (.tmp 26) (.tmp 27)), oO 7 (.alloc [(cI 0), (cI 0)]), oM 6 29, oD (.store 2 (.tmp 7) (.tmp 30))]
def r23_33 : List AOper := [oO 31 (.faddr 0 (.tmp 1)), oO 32 (.faddr 1 (.tmp 31)), oO 33 (.load false 1 (.tmp 32)), oO 34 (.faddr 0 (.tmp 1)), oO 35 (.faddr 0 (.tmp 34)), oO 36 (.load false 1 (.tmp 35)), oM 8 33, oM 9 36]
def r23_36 : List AOper := [oO 37 (.faddr 0 (.tmp 7)), oO 38 (.load false 1 (.tmp 37)), oO 39 (.bin .lss 3 (.tmp 38) (kI 0))]
def r23_38 : List AOper := [oO 40 (.faddr 0 (.tmp 1)), oO 41 (.faddr 0 (.tmp 40)), oO 42 (.load false 1 (.tmp 41)), oM 8 42]
def r23_41 : List AOper := [oO 43 (.faddr 1 (.tmp 7)), oO 44 (.load false 1 (.tmp 43)), oO 45 (.bin .lss 3 (.tmp 44) (kI 0))]
def r23_43 : List AOper := [oO 46 (.faddr 0 (.tmp 1)), oO 47 (.faddr 1 (.tmp 46)), oO 48 (.load false 1 (.tmp 47)), oM 9 48]
def r23_45 : List AOper := [oO 10 (.mv (kI 0))]
def r23_47 : List AOper := [oM 50 6, oO 51 (.faddr 0 (.tmp 7)), oO 52 (.load false 1 (.tmp 51)), oO 53 (.bin .mul 3 (kI 2) (.tmp 52)), oO 54 (.bin .mul 3 (.tmp 53) (kI 1048576)), oM 55 8, oO 56 (.call 78 [(.tmp 54), (.tmp 55)]), oO 57 (.faddr 1 (.tmp 7)), oO 58 (.load false 1 (.tmp 57)), oO 59 (.bin .mul 3 (kI 2) (.tmp 58)), oO 60 (.bin .mul 3 (.tmp 59) (kI 1048576)), oM 61 9, oO 62 (.call 79 [(.tmp 60), (.tmp 61)]), oO 63 (.build [(cI 0), (cI 0)] [(0, 1, (.tmp 56)), (1, 1, (.tmp 62))]), oO 64 (.call 77 [(.tmp 63)]), oM 49 64, oO 65 (.extract 0 (.tmp 49)), oO 66 (.extract 1 (.tmp 49)), oO 67 (.iaddr 2 (some 2) (.tmp 5) (.tmp 50)), oD (.store 2 (.tmp 67) (.tmp 65)), oM 10 66]
def r23_49 : List AOper := [oM 68 10, oO 69 (.bin .neq 28 (.tmp 68) (kI 0))]
def r23_52 : List AOper := [oO 70 (.build [(cI 0), (cI 0), (cI 0), (cI 0)] []), oM 71 10, oD (.store 4 (.tmp 2) (.tmp 70)), oM 3 71]
def r23_53 : List AOper := [oO 72 (.bin .add 3 (.tmp 27) (kI 1)), oM 27 72]
def r23_55 : List AOper := [oO 73 (.load true 4 (.tmp 5)), oD (.store 4 (.tmp 2) (.tmp 73)), oO 3 (.mv (kI 0))]
def tr23 : List (Nat × Tidy) := [tT 0 [1, 2], tT 1 [1, 2, 4], tT 2 [1, 2, 4, 14], tT 3 [2, 3], tT 4 [1, 2, 20], tT 5 [2, 3], tT 6 [1, 2, 5], tT 7 [1, 2, 5, 26, 27], tT 8 [1, 2, 5, 26, 27, 28], tT 9 [1, 2, 5, 6, 7, 26, 27], tT 10 [1, 2, 5, 6, 7, 8, 9, 26, 27], tT 11 [1, 2, 5, 6, 7, 8, 9, 26, 27, 39], tT 12 [1, 2, 5, 6, 7, 8, 9, 26, 27], tT 13 [1, 2, 5, 6, 7, 8, 9, 26, 27, 45], tT 14 [1, 2, 5, 6, 7, 8, 9, 26, 27], tT 15 [1, 2, 5, 6, 7, 8, 9, 26, 27], tT 16 [1, 2, 5, 10, 26, 27], tT 17 [1, 2, 5, 10, 26, 27, 69], tT 18 [2, 3], tT 19 [1, 2, 5, 26, 27], tT 20 [2, 3]]
def tl23 : List (Nat × Tidy) := [tT 8 [1, 2, 5, 26, 27]]
def rs23 : List AResV := [.cell 2 true 4, .tmp 3]
def p23_0_0 : PT St := pS [sl 1 (aV false [(cPtr 1 0)]), sl 2 (aV false [(cPtr 2 0)]), sl 5 (aV false [(cPtr 5 0)]), sl 26 (aV true [(cD (dI .i64)), (cD (dI .i64)), (cD (dI .i64)), (cD (dI .i64))]), sl 27 (aV false [(cD (dI .i64))]), sl 28 (aV false [(cD dB)])] [eBox 1 [(cD (dI .i64)), (cD (dI .i64)), (cD (dI .i64)), (cD (dI .i64)), (cD (dI .i64)), (cD (dI .i64))], eBox 2 [(cD (dI .i64)), (cD (dI .i64)), (cD (dI .i64)), (cD (dI .i64))], eBox 5 [(cD (dI .i64)), (cD (dI .i64)), (cD (dI .i64)), (cD (dI .i64))]]
def u23_0_0 {β : Type} (g : St → β) : Int → Int → Int → Int → Int → Bool → Int → Int → Int → Int → Int → Int → Int → Int → Int → Int → Int → Int → Int → Int → β := p23_0_0.unc g
def p23_0_1 : PT St := pS [sl 1 (aV false [(cPtr 1 0)]), sl 2 (aV false [(cPtr 2 0)]), sl 5 (aV false [(cPtr 5 0)]), sl 6 (aV false [(cD (dI .i64))]), sl 7 (aV false [(cPtr 7 0)]), sl 26 (aV true [(cD (dI .i64)), (cD (dI .i64)), (cD (dI .i64)), (cD (dI .i64))]), sl 27 (aV false [(cD (dI .i64))])] [eBox 1 [(cD (dI .i64)), (cD (dI .i64)), (cD (dI .i64)), (cD (dI .i64)), (cD (dI .i64)), (cD (dI .i64))], eBox 2 [(cD (dI .i64)), (cD (dI .i64)), (cD (dI .i64)), (cD (dI .i64))], eBox 5 [(cD (dI .i64)), (cD (dI .i64)), (cD (dI .i64)), (cD (dI .i64))], eBox 7 [(cD (dI .i64)), (cD (dI .i64))]]
def u23_0_1 {β : Type} (g : St → β) : Int → Int → Int → Int → Int → Int → Int → Int → Int → Int → Int → Int → Int → Int → Int → Int → Int → Int → Int → Int → Int → Int → β := p23_0_1.unc g
def p23_0_2 : PT St := pS [sl 1 (aV false [(cPtr 1 0)]), sl 2 (aV false [(cPtr 2 0)]), sl 5 (aV false [(cPtr 5 0)]), sl 6 (aV false [(cD (dI .i64))]), sl 7 (aV false [(cPtr 7 0)]), sl 8 (aV false [(cD (dI .i64))]), sl 9 (aV false [(cD (dI .i64))]), sl 26 (aV true [(cD (dI .i64)), (cD (dI .i64)), (cD (dI .i64)), (cD (dI .i64))]), sl 27 (aV false [(cD (dI .i64))])] [eBox 1 [(cD (dI .i64)), (cD (dI .i64)), (cD (dI .i64)), (cD (dI .i64)), (cD (dI .i64)), (cD (dI .i64))], eBox 2 [(cD (dI .i64)), (cD (dI .i64)), (cD (dI .i64)), (cD (dI .i64))], eBox 5 [(cD (dI .i64)), (cD (dI .i64)), (cD (dI .i64)), (cD (dI .i64))], eBox 7 [(cD (dI .i64)), (cD (dI .i64))]]
def u23_0_2 {β : Type} (g : St → β) : Int → Int → Int → Int → Int → Int → Int → Int → Int → Int → Int → Int → Int → Int → Int → Int → Int → Int → Int → Int → Int → Int → Int → Int → β := p23_0_2.unc g
def p23_0_3 : PT St := pS [sl 1 (aV false [(cPtr 1 0)]), sl 2 (aV false [(cPtr 2 0)]), sl 5 (aV false [(cPtr 5 0)]), sl 6 (aV false [(cD (dI .i64))]), sl 7 (aV false [(cPtr 7 0)]), sl 8 (aV false [(cD (dI .i64))]), sl 9 (aV false [(cD (dI .i64))]), sl 26 (aV true [(cD (dI .i64)), (cD (dI .i64)), (cD (dI .i64)), (cD (dI .i64))]), sl 27 (aV false [(cD (dI .i64))]), sl 39 (aV false [(cD dB)])] [eBox 1 [(cD (dI .i64)), (cD (dI .i64)), (cD (dI .i64)), (cD (dI .i64)), (cD (dI .i64)), (cD (dI .i64))], eBox 2 [(cD (dI .i64)), (cD (dI .i64)), (cD (dI .i64)), (cD (dI .i64))], eBox 5 [(cD (dI .i64)), (cD (dI .i64)), (cD (dI .i64)), (cD (dI .i64))], eBox 7 [(cD (dI .i64)), (cD (dI .i64))]]
def u23_0_3 {β : Type} (g : St → β) : Int → Int → Int → Int → Int → Int → Int → Int → Bool → Int → Int → Int → Int → Int → Int → Int → Int → Int → Int → Int → Int → Int → Int → Int → Int → β := p23_0_3.unc g
def p23_0_4 : PT St := pS [sl 1 (aV false [(cPtr 1 0)]), sl 2 (aV false [(cPtr 2 0)]), sl 5 (aV false [(cPtr 5 0)]), sl 6 (aV false [(cD (dI .i64))]), sl 7 (aV false [(cPtr 7 0)]), sl 8 (aV false [(cD (dI .i64))]), sl 9 (aV false [(cD (dI .i64))]), sl 26 (aV true [(cD (dI .i64)), (cD (dI .i64)), (cD (dI .i64)), (cD (dI .i64))]), sl 27 (aV false [(cD (dI .i64))]), sl 45 (aV false [(cD dB)])] [eBox 1 [(cD (dI .i64)), (cD (dI .i64)), (cD (dI .i64)), (cD (dI .i64)), (cD (dI .i64)), (cD (dI .i64))], eBox 2 [(cD (dI .i64)), (cD (dI .i64)), (cD (dI .i64)), (cD (dI .i64))], eBox 5 [(cD (dI .i64)), (cD (dI .i64)), (cD (dI .i64)), (cD (dI .i64))], eBox 7 [(cD (dI .i64)), (cD (dI .i64))]]
def u23_0_4 {β : Type} (g : St → β) : Int → Int → Int → Int → Int → Int → Int → Int → Bool → Int → Int → Int → Int → Int → Int → Int → Int → Int → Int → Int → Int → Int → Int → Int → Int → β := p23_0_4.unc g
def p23_0_5 : PT St := pS [sl 1 (aV false [(cPtr 1 0)]), sl 2 (aV false [(cPtr 2 0)]), sl 5 (aV false [(cPtr 5 0)]), sl 10 (aV false [(cD (dI .i64))]), sl 26 (aV true [(cD (dI .i64)), (cD (dI .i64)), (cD (dI .i64)), (cD (dI .i64))]), sl 27 (aV false [(cD (dI .i64))])] [eBox 1 [(cD (dI .i64)), (cD (dI .i64)), (cD (dI .i64)), (cD (dI .i64)), (cD (dI .i64)), (cD (dI .i64))], eBox 2 [(cD (dI .i64)), (cD (dI .i64)), (cD (dI .i64)), (cD (dI .i64))], eBox 5 [(cD (dI .i64)), (cD (dI .i64)), (cD (dI .i64)), (cD (dI .i64))]]
def u23_0_5 {β : Type} (g : St → β) : Int → Int → Int → Int → Int → Int → Int → Int → Int → Int → Int → Int → Int → Int → Int → Int → Int → Int → Int → Int → β := p23_0_5.unc g
def p23_0_6 : PT St := pS [sl 1 (aV false [(cPtr 1 0)]), sl 2 (aV false [(cPtr 2 0)]), sl 5 (aV false [(cPtr 5 0)]), sl 26 (aV true [(cD (dI .i64)), (cD (dI .i64)), (cD (dI .i64)), (cD (dI .i64))]), sl 27 (aV false [(cD (dI .i64))])] [eBox 1 [(cD (dI .i64)), (cD (dI .i64)), (cD (dI .i64)), (cD (dI .i64)), (cD (dI .i64)), (cD (dI .i64))], eBox 2 [(cD (dI .i64)), (cD (dI .i64)), (cD (dI .i64)), (cD (dI .i64))], eBox 5 [(cD (dI .i64)), (cD (dI .i64)), (cD (dI .i64)), (cD (dI .i64))]]
def u23_0_6 {β : Type} (g : St → β) : Int → Int → Int → Int → Int → Int → Int → Int → Int → Int → Int → Int → Int → Int → Int → Int → Int → Int → Int → β := p23_0_6.unc g
def p23_0_7 : PT St := pS [sl 2 (aV false [(cPtr 2 0)]), sl 3 (aV false [(cD (dI .i64))])] [eBox 2 [(cD (dI .i64)), (cD (dI .i64)), (cD (dI .i64)), (cD (dI .i64))]]
def u23_0_7 {β : Type} (g : St → β) : Int → Int → Int → Int → Int → β := p23_0_7.unc g
def pr23_0_0 : PT (List RV) := pRs [pR true [rD (dI .i64), rD (dI .i64), rD (dI .i64), rD (dI .i64)], pR false [rD (dI .i64)]]
def ur23_0_0 {β : Type} (g : List RV → β) : Int → Int → Int → Int → Int → β := pr23_0_0.unc g
def E23_0g (vf60_0 : Tf60_0) (vf78_0 : Tf78_0) (vf79_0 : Tf79_0) (vf77_0 : Tf77_0) : EnvK := EnvK.of [⟨60, nt60, [⟨pa60_0, Fn60_0 vf60_0⟩]⟩, ⟨78, nt78, [⟨pa78_0, Fn78_0 vf78_0⟩]⟩, ⟨79, nt79, [⟨pa79_0, Fn79_0 vf79_0⟩]⟩, ⟨77, nt77, [⟨pa77_0, Fn77_0 vf77_0⟩]⟩] noSeq
noncomputable def E23_0 : EnvK := E23_0g f60_0 f78_0 f79_0 f77_0
theorem eo23_0 : E23_0.Ok Try.prog := EnvK.of_ok noSeq_ok ⟨⟨io60_0, trivial⟩, ⟨io78_0, trivial⟩, ⟨io79_0, trivial⟩, ⟨io77_0, trivial⟩, trivial⟩
noncomputable def c23_0_46g  : MCode := (.region r23_47 [(6, 8)] (tO [1, 2, 5, 10, 26, 27]))
noncomputable def c23_0_46 : MCode := c23_0_46g 
theorem g23_0_46 : c23_0_46.Good Try.prog E23_0 sh23 := trivial
--CODE 46 0
abbrev TJ23_0_3 : Type 1 := (α : Type) → Int → Int → Int → Int → Int → Int → Int → Int → Int → (Int → Int → Int → Int → Int → Option α) → Option α
def J23_0_3g (vf77_0 : Tf77_0) (vf78_0 : Tf78_0) (vf79_0 : Tf79_0) (α : Type) (x106 x107 x108 x124 x125 x126 x127 x128 x129 : Int) (k1 : Int → Int → Int → Int → Int → Option α) : Option α :=
 vf78_0 α (w64 ((w64 (2 * x128)) * 1048576)) x107
 (fun x131 => vf79_0 α (w64 ((w64 (2 * x129)) * 1048576)) x108
 (fun x132 => vf77_0 α x131 x132
 (fun x133 x134 x135 => cK (x106 == 1)
 (k1 x135 x124 x125 x133 x134)
 (cK (x106 == 0)
 (k1 x135 x133 x134 x126 x127)
 (none)))))
noncomputable def J23_0_3 (α : Type) (x106 x107 x108 x124 x125 x126 x127 x128 x129 : Int) (k1 : Int → Int → Int → Int → Int → Option α) : Option α := J23_0_3g f77_0 f78_0 f79_0 α x106 x107 x108 x124 x125 x126 x127 x128 x129 k1
def F23_0_3 (v : TJ23_0_3) (α : Type) (K : Exit → St → Option α) : Int → Int → Int → Int → Int → Int → Int → Int → Int → Int → Int → Int → Int → Int → Int → Int → Int → Int → Int → Int → Int → Int → Int → Int → Option α := fun x106 x107 x108 x109 x110 x111 x112 x113 x114 x115 x116 x117 x118 x119 x120 x121 x122 x123 x124 x125 x126 x127 x128 x129 => v α x106 x107 x108 x124 x125 x126 x127 x128 x129 (fun (y1 : Int) (y2 : Int) (y3 : Int) (y4 : Int) (y5 : Int) => u23_0_5 (K .normal) y1 x109 x110 x111 x112 x113 x114 x115 x116 x117 x118 x119 x120 x121 x122 x123 y2 y3 y4 y5) 
theorem m23_0_3g (vf60_0 : Tf60_0) (vf78_0 : Tf78_0) (vf79_0 : Tf79_0) (vf77_0 : Tf77_0)  (α : Type) (K : Exit → St → Option α) : F23_0_3 (J23_0_3g vf77_0 vf78_0 vf79_0) α K = p23_0_2.unc fun σ => runM Try.prog (E23_0g vf60_0 vf78_0 vf79_0 vf77_0) sh23 (c23_0_46g ) K σ := by kernel_rfl
theorem m23_0_3 : ∀ (α : Type) (K : Exit → St → Option α), F23_0_3 J23_0_3 α K = p23_0_2.unc fun σ => runM Try.prog E23_0 sh23 c23_0_46 K σ := m23_0_3g f60_0 f78_0 f79_0 f77_0
noncomputable def c23_0_39g  : MCode := (.seq (.region r23_41 [] (tO [1, 2, 5, 6, 7, 8, 9, 26, 27, 45])) (.cond (.tmp 45) (.region r23_43 [] (tO [1, 2, 5, 6, 7, 8, 9, 26, 27])) .skip))
noncomputable def c23_0_39 : MCode := c23_0_39g 
theorem g23_0_39 : c23_0_39.Good Try.prog E23_0 sh23 := ⟨trivial, ⟨trivial, trivial⟩⟩
--CODE 39 0
abbrev TJ23_0_2 : Type 1 := (α : Type) → Int → (Option α) → (Bool → Option α) → Option α
def J23_0_2g  (α : Type) (x102 : Int) (k1 : Option α) (k2 : Bool → Option α) : Option α :=
 cK (decide (x102 < 0))
 (k1)
 (k2 (decide (x102 < 0)))
noncomputable def J23_0_2 (α : Type) (x102 : Int) (k1 : Option α) (k2 : Bool → Option α) : Option α := J23_0_2g  α x102 k1 k2
def F23_0_2 (v : TJ23_0_2) (α : Type) (K : Exit → St → Option α) : Int → Int → Int → Int → Int → Int → Int → Int → Int → Int → Int → Int → Int → Int → Int → Int → Int → Int → Int → Int → Int → Int → Int → Int → Option α := fun x79 x80 x81 x82 x83 x84 x85 x86 x87 x88 x89 x90 x91 x92 x93 x94 x95 x96 x97 x98 x99 x100 x101 x102 => v α x102 (u23_0_2 (K .normal) x79 x80 x88 x82 x83 x84 x85 x86 x87 x88 x89 x90 x91 x92 x93 x94 x95 x96 x97 x98 x99 x100 x101 x102) (fun (y1 : Bool) => u23_0_4 (K .normal) x79 x80 x81 x82 x83 x84 x85 x86 y1 x87 x88 x89 x90 x91 x92 x93 x94 x95 x96 x97 x98 x99 x100 x101 x102) 
theorem m23_0_2g (vf60_0 : Tf60_0) (vf78_0 : Tf78_0) (vf79_0 : Tf79_0) (vf77_0 : Tf77_0)  (α : Type) (K : Exit → St → Option α) : F23_0_2 (J23_0_2g ) α K = p23_0_2.unc fun σ => runM Try.prog (E23_0g vf60_0 vf78_0 vf79_0 vf77_0) sh23 (c23_0_39g ) K σ := by kernel_rfl
theorem m23_0_2 : ∀ (α : Type) (K : Exit → St → Option α), F23_0_2 J23_0_2 α K = p23_0_2.unc fun σ => runM Try.prog E23_0 sh23 c23_0_39 K σ := m23_0_2g f60_0 f78_0 f79_0 f77_0
--CODE 39 0
abbrev TJ23_0_4 : Type 1 := (α : Type) → Int → (Option α) → (Bool → Option α) → Option α
def J23_0_4g  (α : Type) (x172 : Int) (k1 : Option α) (k2 : Bool → Option α) : Option α :=
 cK (decide (x172 < 0))
 (k1)
 (k2 (decide (x172 < 0)))
noncomputable def J23_0_4 (α : Type) (x172 : Int) (k1 : Option α) (k2 : Bool → Option α) : Option α := J23_0_4g  α x172 k1 k2
def F23_0_4 (v : TJ23_0_4) (α : Type) (K : Exit → St → Option α) : Int → Int → Int → Int → Int → Int → Int → Int → Bool → Int → Int → Int → Int → Int → Int → Int → Int → Int → Int → Int → Int → Int → Int → Int → Int → Option α := fun x148 x149 x150 x151 x152 x153 x154 x155 x156 x157 x158 x159 x160 x161 x162 x163 x164 x165 x166 x167 x168 x169 x170 x171 x172 => v α x172 (u23_0_2 (K .normal) x148 x149 x158 x151 x152 x153 x154 x155 x157 x158 x159 x160 x161 x162 x163 x164 x165 x166 x167 x168 x169 x170 x171 x172) (fun (y1 : Bool) => u23_0_4 (K .normal) x148 x149 x150 x151 x152 x153 x154 x155 y1 x157 x158 x159 x160 x161 x162 x163 x164 x165 x166 x167 x168 x169 x170 x171 x172) 
theorem m23_0_4g (vf60_0 : Tf60_0) (vf78_0 : Tf78_0) (vf79_0 : Tf79_0) (vf77_0 : Tf77_0)  (α : Type) (K : Exit → St → Option α) : F23_0_4 (J23_0_4g ) α K = p23_0_3.unc fun σ => runM Try.prog (E23_0g vf60_0 vf78_0 vf79_0 vf77_0) sh23 (c23_0_39g ) K σ := by kernel_rfl
theorem m23_0_4 : ∀ (α : Type) (K : Exit → St → Option α), F23_0_4 J23_0_4 α K = p23_0_3.unc fun σ => runM Try.prog E23_0 sh23 c23_0_39 K σ := m23_0_4g f60_0 f78_0 f79_0 f77_0
noncomputable def c23_0_34g  : MCode := (.seq (.region r23_36 [] (tO [1, 2, 5, 6, 7, 8, 9, 26, 27, 39])) (.cond (.tmp 39) (.region r23_38 [] (tO [1, 2, 5, 6, 7, 8, 9, 26, 27])) .skip))
noncomputable def c23_0_34 : MCode := c23_0_34g 
theorem g23_0_34 : c23_0_34.Good Try.prog E23_0 sh23 := ⟨trivial, ⟨trivial, trivial⟩⟩
--CODE 34 0
abbrev TJ23_0_1 : Type 1 := (α : Type) → Int → (Option α) → (Bool → Option α) → Option α
def J23_0_1g  (α : Type) (x74 : Int) (k1 : Option α) (k2 : Bool → Option α) : Option α :=
 cK (decide (x74 < 0))
 (k1)
 (k2 (decide (x74 < 0)))
noncomputable def J23_0_1 (α : Type) (x74 : Int) (k1 : Option α) (k2 : Bool → Option α) : Option α := J23_0_1g  α x74 k1 k2
def F23_0_1 (v : TJ23_0_1) (α : Type) (K : Exit → St → Option α) : Int → Int → Int → Int → Int → Int → Int → Int → Int → Int → Int → Int → Int → Int → Int → Int → Int → Int → Int → Int → Int → Int → Int → Int → Option α := fun x52 x53 x54 x55 x56 x57 x58 x59 x60 x61 x62 x63 x64 x65 x66 x67 x68 x69 x70 x71 x72 x73 x74 x75 => v α x74 (u23_0_2 (K .normal) x52 x60 x54 x55 x56 x57 x58 x59 x60 x61 x62 x63 x64 x65 x66 x67 x68 x69 x70 x71 x72 x73 x74 x75) (fun (y1 : Bool) => u23_0_3 (K .normal) x52 x53 x54 x55 x56 x57 x58 x59 y1 x60 x61 x62 x63 x64 x65 x66 x67 x68 x69 x70 x71 x72 x73 x74 x75) 
theorem m23_0_1g (vf60_0 : Tf60_0) (vf78_0 : Tf78_0) (vf79_0 : Tf79_0) (vf77_0 : Tf77_0)  (α : Type) (K : Exit → St → Option α) : F23_0_1 (J23_0_1g ) α K = p23_0_2.unc fun σ => runM Try.prog (E23_0g vf60_0 vf78_0 vf79_0 vf77_0) sh23 (c23_0_34g ) K σ := by kernel_rfl
theorem m23_0_1 : ∀ (α : Type) (K : Exit → St → Option α), F23_0_1 J23_0_1 α K = p23_0_2.unc fun σ => runM Try.prog E23_0 sh23 c23_0_34 K σ := m23_0_1g f60_0 f78_0 f79_0 f77_0
noncomputable def c23_0_30g  : MCode := (.region r23_31 [] (tO [1, 2, 5, 6, 7, 26, 27]))
noncomputable def c23_0_30 : MCode := c23_0_30g 
theorem g23_0_30 : c23_0_30.Good Try.prog E23_0 sh23 := trivial
--CODE 30 0
abbrev TJ23_0_0 : Type 1 := (α : Type) → Int → Int → Int → Int → Int → (Int → Int → Option α) → Option α
def J23_0_0g  (α : Type) (x28 x29 x30 x31 x32 : Int) (k1 : Int → Int → Option α) : Option α :=
 cK (x32 == 1)
 (k1 x30 x31)
 (cK (x32 == 0)
 (k1 x28 x29)
 (none))
noncomputable def J23_0_0 (α : Type) (x28 x29 x30 x31 x32 : Int) (k1 : Int → Int → Option α) : Option α := J23_0_0g  α x28 x29 x30 x31 x32 k1
def F23_0_0 (v : TJ23_0_0) (α : Type) (K : Exit → St → Option α) : Int → Int → Int → Int → Int → Bool → Int → Int → Int → Int → Int → Int → Int → Int → Int → Int → Int → Int → Int → Int → Option α := fun x28 x29 x30 x31 x32 x33 x34 x35 x36 x37 x38 x39 x40 x41 x42 x43 x44 x45 x46 x47 => v α x28 x29 x30 x31 x32 (fun (y1 : Int) (y2 : Int) => u23_0_1 (K .normal) x32 x28 x29 x30 x31 x32 x34 x35 x36 x37 x38 x39 x40 x41 x42 x43 x44 x45 x46 x47 y1 y2) 
theorem m23_0_0g (vf60_0 : Tf60_0) (vf78_0 : Tf78_0) (vf79_0 : Tf79_0) (vf77_0 : Tf77_0)  (α : Type) (K : Exit → St → Option α) : F23_0_0 (J23_0_0g ) α K = p23_0_0.unc fun σ => runM Try.prog (E23_0g vf60_0 vf78_0 vf79_0 vf77_0) sh23 (c23_0_30g ) K σ := by kernel_rfl
theorem m23_0_0 : ∀ (α : Type) (K : Exit → St → Option α), F23_0_0 J23_0_0 α K = p23_0_0.unc fun σ => runM Try.prog E23_0 sh23 c23_0_30 K σ := m23_0_0g f60_0 f78_0 f79_0 f77_0
noncomputable def c23_0_23g (vJ23_0_0 : TJ23_0_0) (vJ23_0_1 : TJ23_0_1) (vJ23_0_2 : TJ23_0_2) (vJ23_0_4 : TJ23_0_4) (vJ23_0_3 : TJ23_0_3) : MCode := (.seq (.region r23_25 [] (tO [1, 2, 5, 26, 27, 28])) (.seq (.cond (.tmp 28) .skip (.exit 0)) (.seq (.block 1 (.seq (.mark [⟨p23_0_0, F23_0_0 vJ23_0_0⟩] c23_0_30) (.seq (.region r23_33 [] (tO [1, 2, 5, 6, 7, 8, 9, 26, 27])) (.seq (.mark [⟨p23_0_2, F23_0_1 vJ23_0_1⟩] c23_0_34) (.seq (.mark [⟨p23_0_2, F23_0_2 vJ23_0_2⟩, ⟨p23_0_3, F23_0_4 vJ23_0_4⟩] c23_0_39) (.seq (.region r23_45 [] (tO [1, 2, 5, 6, 7, 8, 9, 26, 27])) (.seq (.mark [⟨p23_0_2, F23_0_3 vJ23_0_3⟩] c23_0_46) (.seq (.region r23_49 [] (tO [1, 2, 5, 10, 26, 27, 69])) (.cond (.tmp 69) (.seq (.region r23_52 [] (tO [2, 3])) .ret) .skip))))))))) (.region r23_53 [] (tO [1, 2, 5, 26, 27])))))
noncomputable def c23_0_23 : MCode := c23_0_23g J23_0_0 J23_0_1 J23_0_2 J23_0_4 J23_0_3
theorem g23_0_23 : c23_0_23.Good Try.prog E23_0 sh23 := ⟨trivial, ⟨⟨trivial, trivial⟩, ⟨⟨⟨g23_0_30, m23_0_0, trivial⟩, ⟨trivial, ⟨⟨g23_0_34, m23_0_1, trivial⟩, ⟨⟨g23_0_39, m23_0_2, m23_0_4, trivial⟩, ⟨trivial, ⟨⟨g23_0_46, m23_0_3, trivial⟩, ⟨trivial, ⟨⟨trivial, trivial⟩, trivial⟩⟩⟩⟩⟩⟩⟩⟩, trivial⟩⟩⟩
--CODE 23 0
def S23_0_5g (vJ23_0_0 : TJ23_0_0) (vJ23_0_1 : TJ23_0_1) (vJ23_0_2 : TJ23_0_2) (vJ23_0_3 : TJ23_0_3) (vJ23_0_4 : TJ23_0_4) (α : Type) (x8 x9 x10 x11 x13 x14 x12 x23 x24 x25 x26 : Int) (kn : Int → Int → Int → Int → Int → Option α) (k1 : Int → Option α) (k2 : Int → Bool → Int → Int → Int → Int → Option α) : Option α :=
 cK (decide (x12 < 2))
 (vJ23_0_0 α x8 x9 x10 x11 x12
 (fun x49 x50 => vJ23_0_1 α x49
 (vJ23_0_2 α x50
 (vJ23_0_3 α x12 x13 x14 x23 x24 x25 x26 x49 x50
 (fun x136 x137 x138 x139 x140 => cK (x136 != 0)
 (k1 x136)
 (kn (w64 (x12 + 1)) x137 x138 x139 x140)))
 (fun x104 => vJ23_0_3 α x12 x13 x13 x23 x24 x25 x26 x49 x50
 (fun x142 x143 x144 x145 x146 => cK (x142 != 0)
 (k1 x142)
 (kn (w64 (x12 + 1)) x143 x144 x145 x146))))
 (fun x77 => vJ23_0_4 α x50
 (vJ23_0_3 α x12 x14 x14 x23 x24 x25 x26 x49 x50
 (fun x176 x177 x178 x179 x180 => cK (x176 != 0)
 (k1 x176)
 (kn (w64 (x12 + 1)) x177 x178 x179 x180)))
 (fun x174 => vJ23_0_3 α x12 x14 x13 x23 x24 x25 x26 x49 x50
 (fun x182 x183 x184 x185 x186 => cK (x182 != 0)
 (k1 x182)
 (kn (w64 (x12 + 1)) x183 x184 x185 x186))))))
 (k2 x12 (decide (x12 < 2)) x23 x24 x25 x26)
noncomputable def S23_0_5 (α : Type) (x8 x9 x10 x11 x13 x14 x12 x23 x24 x25 x26 : Int) (kn : Int → Int → Int → Int → Int → Option α) (k1 : Int → Option α) (k2 : Int → Bool → Int → Int → Int → Int → Option α) : Option α := S23_0_5g J23_0_0 J23_0_1 J23_0_2 J23_0_3 J23_0_4 α x8 x9 x10 x11 x13 x14 x12 x23 x24 x25 x26 kn k1 k2
noncomputable def R23_0_5 (α : Type) (x8 x9 x10 x11 x13 x14 : Int) (k1 : Int → Option α) (k2 : Int → Bool → Int → Int → Int → Int → Option α) : Nat → Int → Int → Int → Int → Int → Option α
 | 0, _, _, _, _, _ => none
 | n + 1, x12, x23, x24, x25, x26 => S23_0_5 α x8 x9 x10 x11 x13 x14 x12 x23 x24 x25 x26 (R23_0_5 α x8 x9 x10 x11 x13 x14 k1 k2 n) k1 k2
noncomputable def L23_0_5 (α : Type) (x8 x9 x10 x11 x13 x14 : Int) (k1 : Int → Option α) (k2 : Int → Bool → Int → Int → Int → Int → Option α) (x12 x23 x24 x25 x26 : Int) : Option α := R23_0_5 α x8 x9 x10 x11 x13 x14 k1 k2 fuel x12 x23 x24 x25 x26
abbrev TL23_0_5 : Type 1 := (α : Type) → Int → Int → Int → Int → Int → Int → (Int → Option α) → (Int → Bool → Int → Int → Int → Int → Option α) → Int → Int → Int → Int → Int → Option α
def F23_0_5 (v : TL23_0_5) (α : Type) (K : Exit → St → Option α) : Int → Int → Int → Int → Int → Int → Int → Int → Int → Int → Int → Int → Int → Int → Int → Int → Int → Int → Int → Option α := fun x8 x9 x10 x11 x12 x13 x14 x15 x16 x17 x18 x19 x20 x21 x22 x23 x24 x25 x26 => v α x8 x9 x10 x11 x13 x14 (fun (y1 : Int) => u23_0_7 (K .ret) y1 0 0 0 0) (fun (y1 : Int) (y2 : Bool) (y3 : Int) (y4 : Int) (y5 : Int) (y6 : Int) => u23_0_0 (K (.exit 0)) x8 x9 x10 x11 y1 y2 x13 x14 x15 x16 x17 x18 x19 x20 x21 x22 y3 y4 y5 y6) x12 x23 x24 x25 x26
theorem r23_0_5g (vf60_0 : Tf60_0) (vf78_0 : Tf78_0) (vf79_0 : Tf79_0) (vf77_0 : Tf77_0) (vJ23_0_0 : TJ23_0_0) (vJ23_0_1 : TJ23_0_1) (vJ23_0_2 : TJ23_0_2) (vJ23_0_4 : TJ23_0_4) (vJ23_0_3 : TJ23_0_3) (α : Type) (K : Exit → St → Option α) (Kn : St → Option α) (x8 x9 x10 x11 x12 x13 x14 x15 x16 x17 x18 x19 x20 x21 x22 x23 x24 x25 x26 : Int) : u23_0_6 (fun σ => runM Try.prog (E23_0g vf60_0 vf78_0 vf79_0 vf77_0) sh23 (c23_0_23g vJ23_0_0 vJ23_0_1 vJ23_0_2 vJ23_0_4 vJ23_0_3) (thenK (fun σ => tidyK td23_23 σ Kn) K) σ) x8 x9 x10 x11 x12 x13 x14 x15 x16 x17 x18 x19 x20 x21 x22 x23 x24 x25 x26 = S23_0_5g vJ23_0_0 vJ23_0_1 vJ23_0_2 vJ23_0_3 vJ23_0_4 α x8 x9 x10 x11 x13 x14 x12 x23 x24 x25 x26 (fun x12 x23 x24 x25 x26 => u23_0_6 Kn x8 x9 x10 x11 x12 x13 x14 x15 x16 x17 x18 x19 x20 x21 x22 x23 x24 x25 x26) (fun (y1 : Int) => u23_0_7 (K .ret) y1 0 0 0 0) (fun (y1 : Int) (y2 : Bool) (y3 : Int) (y4 : Int) (y5 : Int) (y6 : Int) => u23_0_0 (K (.exit 0)) x8 x9 x10 x11 y1 y2 x13 x14 x15 x16 x17 x18 x19 x20 x21 x22 y3 y4 y5 y6) := by kernel_rfl
theorem r23_0_5 (α : Type) (K : Exit → St → Option α) (Kn : St → Option α) (x8 x9 x10 x11 x12 x13 x14 x15 x16 x17 x18 x19 x20 x21 x22 x23 x24 x25 x26 : Int) : u23_0_6 (fun σ => runM Try.prog E23_0 sh23 c23_0_23 (thenK (fun σ => tidyK td23_23 σ Kn) K) σ) x8 x9 x10 x11 x12 x13 x14 x15 x16 x17 x18 x19 x20 x21 x22 x23 x24 x25 x26 = S23_0_5 α x8 x9 x10 x11 x13 x14 x12 x23 x24 x25 x26 (fun x12 x23 x24 x25 x26 => u23_0_6 Kn x8 x9 x10 x11 x12 x13 x14 x15 x16 x17 x18 x19 x20 x21 x22 x23 x24 x25 x26) (fun (y1 : Int) => u23_0_7 (K .ret) y1 0 0 0 0) (fun (y1 : Int) (y2 : Bool) (y3 : Int) (y4 : Int) (y5 : Int) (y6 : Int) => u23_0_0 (K (.exit 0)) x8 x9 x10 x11 y1 y2 x13 x14 x15 x16 x17 x18 x19 x20 x21 x22 y3 y4 y5 y6) := r23_0_5g f60_0 f78_0 f79_0 f77_0 J23_0_0 J23_0_1 J23_0_2 J23_0_4 J23_0_3 α K Kn x8 x9 x10 x11 x12 x13 x14 x15 x16 x17 x18 x19 x20 x21 x22 x23 x24 x25 x26
theorem t23_0_5 (α : Type) (K : Exit → St → Option α) : ∀ (n : Nat) (x8 x9 x10 x11 x12 x13 x14 x15 x16 x17 x18 x19 x20 x21 x22 x23 x24 x25 x26 : Int), R23_0_5 α x8 x9 x10 x11 x13 x14 (fun (y1 : Int) => u23_0_7 (K .ret) y1 0 0 0 0) (fun (y1 : Int) (y2 : Bool) (y3 : Int) (y4 : Int) (y5 : Int) (y6 : Int) => u23_0_0 (K (.exit 0)) x8 x9 x10 x11 y1 y2 x13 x14 x15 x16 x17 x18 x19 x20 x21 x22 y3 y4 y5 y6) n x12 x23 x24 x25 x26 = u23_0_6 (loopT (runM Try.prog E23_0 sh23 c23_0_23) td23_23 K n) x8 x9 x10 x11 x12 x13 x14 x15 x16 x17 x18 x19 x20 x21 x22 x23 x24 x25 x26 := by
 intro n
 induction n with
 | zero => intros; rfl
 | succ n ih => intro x8 x9 x10 x11 x12 x13 x14 x15 x16 x17 x18 x19 x20 x21 x22 x23 x24 x25 x26; exact (congrArg (fun kn => S23_0_5 α x8 x9 x10 x11 x13 x14 x12 x23 x24 x25 x26 kn (fun (y1 : Int) => u23_0_7 (K .ret) y1 0 0 0 0) (fun (y1 : Int) (y2 : Bool) (y3 : Int) (y4 : Int) (y5 : Int) (y6 : Int) => u23_0_0 (K (.exit 0)) x8 x9 x10 x11 y1 y2 x13 x14 x15 x16 x17 x18 x19 x20 x21 x22 y3 y4 y5 y6)) (funext fun x12 => funext fun x23 => funext fun x24 => funext fun x25 => funext fun x26 => ih x8 x9 x10 x11 x12 x13 x14 x15 x16 x17 x18 x19 x20 x21 x22 x23 x24 x25 x26)).trans (r23_0_5 α K (loopT (runM Try.prog E23_0 sh23 c23_0_23) td23_23 K n) x8 x9 x10 x11 x12 x13 x14 x15 x16 x17 x18 x19 x20 x21 x22 x23 x24 x25 x26).symm
theorem m23_0_5 : ∀ (α : Type) (K : Exit → St → Option α), F23_0_5 L23_0_5 α K = p23_0_6.unc fun σ => loopT (runM Try.prog E23_0 sh23 c23_0_23) td23_23 K fuel σ := fun α K => funext fun x8 => funext fun x9 => funext fun x10 => funext fun x11 => funext fun x12 => funext fun x13 => funext fun x14 => funext fun x15 => funext fun x16 => funext fun x17 => funext fun x18 => funext fun x19 => funext fun x20 => funext fun x21 => funext fun x22 => funext fun x23 => funext fun x24 => funext fun x25 => funext fun x26 => t23_0_5 α K fuel x8 x9 x10 x11 x12 x13 x14 x15 x16 x17 x18 x19 x20 x21 x22 x23 x24 x25 x26
abbrev Tf23_0 : Type 1 := (α : Type) → Int → Int → Int → Int → Int → Int → (Int → Int → Int → Int → Int → Option α) → Option α
def f23_0g (vL23_0_5 : TL23_0_5) (vf60_0 : Tf60_0) (α : Type) (x1 x2 x3 x4 x5 x6 : Int) (k1 : Int → Int → Int → Int → Int → Option α) : Option α :=
 vf60_0 α x1 x2 x3 x4 x5 x6
 (fun x7 => cK (x7 != 0)
 (k1 0 0 0 0 x7)
 (cK (decide (x1 ≤ 0))
 (k1 0 0 0 0 9)
 (vL23_0_5 α x3 x4 x5 x6 x1 x2
 (fun x188 => k1 0 0 0 0 x188)
 (fun x189 x190 x191 x192 x193 x194 => k1 x191 x192 x193 x194 0) 0 0 0 0 0)))
noncomputable def f23_0 (α : Type) (x1 x2 x3 x4 x5 x6 : Int) (k1 : Int → Int → Int → Int → Int → Option α) : Option α := f23_0g L23_0_5 f60_0 α x1 x2 x3 x4 x5 x6 k1
def pa23_0 : PT (List DV) := pA [pV true [(dI .i64), (dI .i64), (dI .i64), (dI .i64), (dI .i64), (dI .i64)]]
def Fn23_0 (v : Tf23_0) (α : Type) (k : List RV → Option α) : Int → Int → Int → Int → Int → Int → Option α := fun x1 x2 x3 x4 x5 x6 => v α x1 x2 x3 x4 x5 x6 (fun (y1 : Int) (y2 : Int) (y3 : Int) (y4 : Int) (y5 : Int) => ur23_0_0 k y1 y2 y3 y4 y5)
noncomputable def cm23_0g (vL23_0_5 : TL23_0_5) : MCode := (.seq (.region r23_2 [] (tO [1, 2])) (.seq (.seq (.region r23_5 [] (tO [1, 2, 4])) (.seq (.region r23_7 [] (tO [1, 2, 4, 14])) (.cond (.tmp 14) (.seq (.region r23_10 [] (tO [2, 3])) .ret) .skip))) (.seq (.seq (.region r23_13 [] (tO [1, 2, 20])) (.cond (.tmp 20) (.seq (.region r23_16 [] (tO [2, 3])) .ret) .skip)) (.seq (.region r23_18 [] (tO [1, 2, 5])) (.seq (.seq (.region r23_21 [] (tO [1, 2, 5, 26, 27])) (.block 0 (.loop td23_23 [⟨p23_0_6, F23_0_5 vL23_0_5⟩] c23_0_23))) (.seq (.region r23_55 [] (tO [2, 3])) .ret))))))
noncomputable def cm23_0 : MCode := cm23_0g L23_0_5
theorem gm23_0 : cm23_0.Good Try.prog E23_0 sh23 := ⟨trivial, ⟨⟨trivial, ⟨trivial, ⟨⟨trivial, trivial⟩, trivial⟩⟩⟩, ⟨⟨trivial, ⟨⟨trivial, trivial⟩, trivial⟩⟩, ⟨trivial, ⟨⟨trivial, ⟨g23_0_23, m23_0_5, trivial⟩⟩, ⟨trivial, trivial⟩⟩⟩⟩⟩⟩
theorem fm23_0g (vf60_0 : Tf60_0) (vf78_0 : Tf78_0) (vf79_0 : Tf79_0) (vf77_0 : Tf77_0) (vL23_0_5 : TL23_0_5) (α : Type) (k : List RV → Option α) : Fn23_0 (f23_0g vL23_0_5 vf60_0) α k = pa23_0.unc fun ds => fnM Try.prog (E23_0g vf60_0 vf78_0 vf79_0 vf77_0) sh23 (cm23_0g vL23_0_5) rs23 k ds := by kernel_rfl
theorem fm23_0 : ∀ (α : Type) (k : List RV → Option α), Fn23_0 f23_0 α k = pa23_0.unc fun ds => fnM Try.prog E23_0 sh23 cm23_0 rs23 k ds := fm23_0g f60_0 f78_0 f79_0 f77_0 L23_0_5
theorem is23 : FnIs Try.prog 23 nt23 tr23 tl23 cm23_0.erase rs23 := ⟨Try.f23, Try.func23, rfl, by kernel_rfl, by kernel_rfl, by kernel_rfl⟩
theorem io23_0 : InstOk Try.prog 23 nt23 ⟨pa23_0, Fn23_0 f23_0⟩ := inst_ok eo23_0 followsTry is23 ⟨⟨sh23, cm23_0, by kernel_rfl, gm23_0, fm23_0⟩⟩
abbrev nt48 : Nat := 39
def sh48 : List (Nat × List Sh) := [(9, [.str, .int .i64, .int .i64, .int .i64, .int .i64, .int .i64, .int .i64, .int .i64, .int .i64, .int .i64]), (19, [.int .i64]), (22, [.int .i64]), (27, [.int .i64]), (30, [.int .i64]), (33, [.bool]), (38, [.int .i64, .int .i64])]
def r48_2 : List AOper := [oO 1 (.box (.tmp 0)), oO 2 (.alloc [(cI 0), (cI 0)]), oO 3 (.mv (kI 0))]
def r48_5 : List AOper := [oO 9 (.load true 10 (.tmp 1)), oO 10 (.call 28 [(.tmp 9)]), oM 4 10]
def r48_7 : List AOper := [oM 11 4, oO 12 (.bin .neq 28 (.tmp 11) (kI 0))]
def r48_10 : List AOper := [oO 13 (.build [(cI 0), (cI 0)] []), oM 14 4, oD (.store 2 (.tmp 2) (.tmp 13)), oM 3 14]
def r48_12 : List AOper := [oO 15 (.build [(cI 0), (cI 0)] [(0, 1, (kI 0)), (1, 1, (kI 1024))]), oO 5 (.alloc [(cI 0), (cI 0)]), oD (.store 2 (.tmp 5) (.tmp 15))]
def r48_14 : List AOper := [oO 6 (.alloc [(.d (.v (.bool false)))]), oD (.store 1 (.tmp 6) (.const (.bool false)))]
def td48_17 : Option Tidy := (tO [1, 2, 3, 5, 6])
def r48_19 : List AOper := [oM 7 16]
def r48_20 : List AOper := [oO 8 (.alloc [(cI 0), (cI 0)]), oD (.store 2 (.tmp 8) (.tmp 17))]
def r48_24 : List AOper := [oO 18 (.faddr 0 (.tmp 8)), oO 19 (.load false 1 (.tmp 18)), oO 20 (.faddr 4 (.tmp 1)), oO 21 (.faddr 1 (.tmp 20)), oO 22 (.load false 1 (.tmp 21)), oO 23 (.bin .geq 3 (.tmp 19) (.tmp 22))]
def r48_26 : List AOper := [oM 24 7, oO 25 (.faddr 0 (.tmp 5)), oD (.store 1 (.tmp 25) (.tmp 24))]
def r48_28 : List AOper := [oO 26 (.faddr 1 (.tmp 8)), oO 27 (.load false 1 (.tmp 26)), oO 28 (.faddr 4 (.tmp 1)), oO 29 (.faddr 0 (.tmp 28)), oO 30 (.load false 1 (.tmp 29)), oO 31 (.bin .leq 3 (.tmp 27) (.tmp 30)), oM 32 31, oG 33 (.load false 1 (.tmp 6)) 32 true, oG 34 (.pure (oB (.unOp .not 4 (.tmp 33)) 4)) 32 true, oO 35 (.pick (.tmp 32) (.tmp 34) (.const (.bool false)))]
def r48_30 : List AOper := [oM 36 7, oO 37 (.faddr 1 (.tmp 5)), oD (.store 1 (.tmp 37) (.tmp 36)), oD (.store 1 (.tmp 6) (.const (.bool true)))]
def r48_32 : List AOper := [oO 38 (.load true 2 (.tmp 5)), oD (.store 2 (.tmp 2) (.tmp 38)), oO 3 (.mv (kI 0))]
def tr48 : List (Nat × Tidy) := [tT 0 [1, 2, 3], tT 1 [1, 2, 3, 4], tT 2 [1, 2, 3, 4, 12], tT 3 [2, 3], tT 4 [1, 2, 3, 5], tT 5 [1, 2, 3, 5, 6], tT 6 [1, 2, 3, 5, 6, 7, 17], tT 7 [1, 2, 3, 5, 6, 7, 8], tT 8 [1, 2, 3, 5, 6, 7, 8, 23], tT 9 [1, 2, 3, 5, 6, 7, 8], tT 10 [1, 2, 3, 5, 6, 7, 35], tT 11 [1, 2, 3, 5, 6], tT 12 [2, 3]]
def tl48 : List (Nat × Tidy) := [tT 8 [1, 2, 3, 5, 6]]
def rs48 : List AResV := [.cell 2 true 2, .tmp 3]
def p48_0_0 : PT St := pS [sl 1 (aV false [(cPtr 1 0)]), sl 2 (aV false [(cPtr 2 0)]), sl 3 (aV false [(cD (dI .i64))]), sl 5 (aV false [(cPtr 5 0)]), sl 6 (aV false [(cPtr 6 0)])] [eBox 1 [(cD dS), (cD (dI .i64)), (cD (dI .i64)), (cD (dI .i64)), (cD (dI .i64)), (cD (dI .i64)), (cD (dI .i64)), (cD (dI .i64)), (cD (dI .i64)), (cD (dI .i64))], eBox 2 [(cD (dI .i64)), (cD (dI .i64))], eBox 5 [(cD (dI .i64)), (cD (dI .i64))], eBox 6 [(cD dB)]]
def u48_0_0 {β : Type} (g : St → β) : Int → ByteArray → Int → Int → Int → Int → Int → Int → Int → Int → Int → Int → Int → Int → Int → Bool → β := p48_0_0.unc g
def pr48_0_0 : PT (List RV) := pRs [pR true [rD (dI .i64), rD (dI .i64)], pR false [rD (dI .i64)]]
def ur48_0_0 {β : Type} (g : List RV → β) : Int → Int → Int → β := pr48_0_0.unc g
def E48_0g (vf28_0 : Tf28_0) (vq102 : Tq102) : EnvK := EnvK.of [⟨28, nt28, [⟨pa28_0, Fn28_0 vf28_0⟩]⟩] (seqE [⟨102, pq102, vq102⟩])
noncomputable def E48_0 : EnvK := E48_0g f28_0 q102
theorem eo48_0 : E48_0.Ok Try.prog := EnvK.of_ok (seqE_ok (l := [⟨102, pq102, q102⟩]) ⟨sqok102, trivial⟩) ⟨⟨io28_0, trivial⟩, trivial⟩
noncomputable def ca48_0_17 : MCode := (.seq (.region r48_19 [] (tO [1, 2, 3, 5, 6, 7, 17])) (.region r48_20 [] (tO [1, 2, 3, 5, 6, 7, 8])))
theorem ga48_0_17 : ca48_0_17.Good Try.prog E48_0 sh48 := ⟨trivial, trivial⟩
noncomputable def c48_0_17g  : MCode := (.block 1 (.seq (.seq (.region r48_24 [] (tO [1, 2, 3, 5, 6, 7, 8, 23])) (.cond (.tmp 23) (.region r48_26 [] (tO [1, 2, 3, 5, 6, 7, 8])) .skip)) (.seq (.region r48_28 [] (tO [1, 2, 3, 5, 6, 7, 35])) (.cond (.tmp 35) (.region r48_30 [] (tO [1, 2, 3, 5, 6])) .skip))))
noncomputable def c48_0_17 : MCode := c48_0_17g 
theorem g48_0_17 : c48_0_17.Good Try.prog E48_0 sh48 := ⟨⟨trivial, ⟨trivial, trivial⟩⟩, ⟨trivial, ⟨trivial, trivial⟩⟩⟩
--CODE 17 0
def S48_0_0g  (α : Type) (x17 x18 : Int) (y28 : Int × Int × Int) (x25 x26 : Int) (x27 : Bool) (kn : Int → Int → Bool → Option α) (k1 : Int → Int → Bool → Option α) : Option α :=
 cK (decide (x18 ≤ y28.2.1))
 (cK (decide (y28.2.2 ≤ x17))
 (cK (!x27)
 (kn y28.1 y28.1 true)
 (kn y28.1 x26 x27))
 (kn y28.1 x26 x27))
 (cK (decide (y28.2.2 ≤ x17))
 (cK (!x27)
 (kn x25 y28.1 true)
 (kn x25 x26 x27))
 (kn x25 x26 x27))
noncomputable def S48_0_0 (α : Type) (x17 x18 : Int) (y28 : Int × Int × Int) (x25 x26 : Int) (x27 : Bool) (kn : Int → Int → Bool → Option α) (k1 : Int → Int → Bool → Option α) : Option α := S48_0_0g  α x17 x18 y28 x25 x26 x27 kn k1
noncomputable def V48_0_0 (α : Type) (x17 x18 : Int) (k1 : Int → Int → Bool → Option α) : List (Int × Int × Int) → Int → Int → Bool → Option α
 | [], x25, x26, x27 => k1 x25 x26 x27
 | y28 :: ys, x25, x26, x27 => S48_0_0 α x17 x18 y28 x25 x26 x27 (V48_0_0 α x17 x18 k1 ys) k1
abbrev TV48_0_0 : Type 1 := (α : Type) → Int → Int → (Int → Int → Bool → Option α) → List (Int × Int × Int) → Int → Int → Bool → Option α
def F48_0_0 (v : TV48_0_0) (α : Type) (K : Exit → St → Option α) (ys : List (Int × Int × Int)) : Int → ByteArray → Int → Int → Int → Int → Int → Int → Int → Int → Int → Int → Int → Int → Int → Bool → Option α := fun x12 x13 x14 x15 x16 x17 x18 x19 x20 x21 x22 x23 x24 x25 x26 x27 => v α x17 x18 (fun (y1 : Int) (y2 : Int) (y3 : Bool) => u48_0_0 (K .normal) x12 x13 x14 x15 x16 x17 x18 x19 x20 x21 x22 x23 x24 y1 y2 y3) ys x25 x26 x27
theorem r48_0_0g (vf28_0 : Tf28_0) (vq102 : Tq102)  (α : Type) (K : Exit → St → Option α) (Kn : St → Option α) (y28 : Int × Int × Int) (x12 : Int) (x13 : ByteArray) (x14 x15 x16 x17 x18 x19 x20 x21 x22 x23 x24 x25 x26 : Int) (x27 : Bool) : u48_0_0 (fun σ => roundT (runM Try.prog (E48_0g vf28_0 vq102) sh48 ca48_0_17) (runM Try.prog (E48_0g vf28_0 vq102) sh48 c48_0_17) [16, 17] td48_17 Kn K (xIP.ex y28) σ) x12 x13 x14 x15 x16 x17 x18 x19 x20 x21 x22 x23 x24 x25 x26 x27 = S48_0_0g  α x17 x18 y28 x25 x26 x27 (fun x25 x26 x27 => u48_0_0 Kn x12 x13 x14 x15 x16 x17 x18 x19 x20 x21 x22 x23 x24 x25 x26 x27) (fun (y1 : Int) (y2 : Int) (y3 : Bool) => u48_0_0 (K .normal) x12 x13 x14 x15 x16 x17 x18 x19 x20 x21 x22 x23 x24 y1 y2 y3) := by kernel_rfl
theorem r48_0_0 (α : Type) (K : Exit → St → Option α) (Kn : St → Option α) (y28 : Int × Int × Int) (x12 : Int) (x13 : ByteArray) (x14 x15 x16 x17 x18 x19 x20 x21 x22 x23 x24 x25 x26 : Int) (x27 : Bool) : u48_0_0 (fun σ => roundT (runM Try.prog E48_0 sh48 ca48_0_17) (runM Try.prog E48_0 sh48 c48_0_17) [16, 17] td48_17 Kn K (xIP.ex y28) σ) x12 x13 x14 x15 x16 x17 x18 x19 x20 x21 x22 x23 x24 x25 x26 x27 = S48_0_0 α x17 x18 y28 x25 x26 x27 (fun x25 x26 x27 => u48_0_0 Kn x12 x13 x14 x15 x16 x17 x18 x19 x20 x21 x22 x23 x24 x25 x26 x27) (fun (y1 : Int) (y2 : Int) (y3 : Bool) => u48_0_0 (K .normal) x12 x13 x14 x15 x16 x17 x18 x19 x20 x21 x22 x23 x24 y1 y2 y3) := r48_0_0g f28_0 q102 α K Kn y28 x12 x13 x14 x15 x16 x17 x18 x19 x20 x21 x22 x23 x24 x25 x26 x27
theorem t48_0_0 (α : Type) (K : Exit → St → Option α) : ∀ (ys : List (Int × Int × Int)) (x12 : Int) (x13 : ByteArray) (x14 x15 x16 x17 x18 x19 x20 x21 x22 x23 x24 x25 x26 : Int) (x27 : Bool), V48_0_0 α x17 x18 (fun (y1 : Int) (y2 : Int) (y3 : Bool) => u48_0_0 (K .normal) x12 x13 x14 x15 x16 x17 x18 x19 x20 x21 x22 x23 x24 y1 y2 y3) ys x25 x26 x27 = u48_0_0 (roundsK (runM Try.prog E48_0 sh48 ca48_0_17) (runM Try.prog E48_0 sh48 c48_0_17) [16, 17] td48_17 K (ys.map xIP.ex)) x12 x13 x14 x15 x16 x17 x18 x19 x20 x21 x22 x23 x24 x25 x26 x27 := by
 intro ys
 induction ys with
 | nil => intros; rfl
 | cons y28 ys ih => intro x12 x13 x14 x15 x16 x17 x18 x19 x20 x21 x22 x23 x24 x25 x26 x27; exact (congrArg (fun kn => S48_0_0 α x17 x18 y28 x25 x26 x27 kn (fun (y1 : Int) (y2 : Int) (y3 : Bool) => u48_0_0 (K .normal) x12 x13 x14 x15 x16 x17 x18 x19 x20 x21 x22 x23 x24 y1 y2 y3)) (funext fun x25 => funext fun x26 => funext fun x27 => ih x12 x13 x14 x15 x16 x17 x18 x19 x20 x21 x22 x23 x24 x25 x26 x27)).trans (r48_0_0 α K (roundsK (runM Try.prog E48_0 sh48 ca48_0_17) (runM Try.prog E48_0 sh48 c48_0_17) [16, 17] td48_17 K (ys.map xIP.ex)) y28 x12 x13 x14 x15 x16 x17 x18 x19 x20 x21 x22 x23 x24 x25 x26 x27).symm
theorem m48_0_0 : ∀ (α : Type) (K : Exit → St → Option α) (ys : List (Int × Int × Int)), F48_0_0 V48_0_0 α K ys = p48_0_0.unc fun σ => roundsK (runM Try.prog E48_0 sh48 ca48_0_17) (runM Try.prog E48_0 sh48 c48_0_17) [16, 17] td48_17 K (ys.map xIP.ex) σ := fun α K ys => funext fun x12 => funext fun x13 => funext fun x14 => funext fun x15 => funext fun x16 => funext fun x17 => funext fun x18 => funext fun x19 => funext fun x20 => funext fun x21 => funext fun x22 => funext fun x23 => funext fun x24 => funext fun x25 => funext fun x26 => funext fun x27 => t48_0_0 α K ys x12 x13 x14 x15 x16 x17 x18 x19 x20 x21 x22 x23 x24 x25 x26 x27
abbrev Tf48_0 : Type 1 := (α : Type) → ByteArray → Int → Int → Int → Int → Int → Int → Int → Int → Int → (Int → Int → Int → Option α) → Option α
def f48_0g (vV48_0_0 : TV48_0_0) (vf28_0 : Tf28_0) (vq102 : Tq102) (α : Type) (x1 : ByteArray) (x2 x3 x4 x5 x6 x7 x8 x9 x10 : Int) (k1 : Int → Int → Int → Option α) : Option α :=
 vf28_0 α x1 x2 x3 x4 x5 x6 x7 x8 x9 x10
 (fun x11 => cK (x11 != 0)
 (k1 0 0 x11)
 (qK vq102 xIP fun y32 => vV48_0_0 α x5 x6
 (fun x29 x30 x31 => k1 x29 x30 0) y32 0 1024 false))
noncomputable def f48_0 (α : Type) (x1 : ByteArray) (x2 x3 x4 x5 x6 x7 x8 x9 x10 : Int) (k1 : Int → Int → Int → Option α) : Option α := f48_0g V48_0_0 f28_0 q102 α x1 x2 x3 x4 x5 x6 x7 x8 x9 x10 k1
def pa48_0 : PT (List DV) := pA [pV true [dS, (dI .i64), (dI .i64), (dI .i64), (dI .i64), (dI .i64), (dI .i64), (dI .i64), (dI .i64), (dI .i64)]]
def Fn48_0 (v : Tf48_0) (α : Type) (k : List RV → Option α) : ByteArray → Int → Int → Int → Int → Int → Int → Int → Int → Int → Option α := fun x1 x2 x3 x4 x5 x6 x7 x8 x9 x10 => v α x1 x2 x3 x4 x5 x6 x7 x8 x9 x10 (fun (y1 : Int) (y2 : Int) (y3 : Int) => ur48_0_0 k y1 y2 y3)
noncomputable def cm48_0g (vV48_0_0 : TV48_0_0) : MCode := (.seq (.region r48_2 [] (tO [1, 2, 3])) (.seq (.seq (.region r48_5 [] (tO [1, 2, 3, 4])) (.seq (.region r48_7 [] (tO [1, 2, 3, 4, 12])) (.cond (.tmp 12) (.seq (.region r48_10 [] (tO [2, 3])) .ret) .skip))) (.seq (.region r48_12 [] (tO [1, 2, 3, 5])) (.seq (.region r48_14 [] (tO [1, 2, 3, 5, 6])) (.seq (.block 0 (.rangeF (.func 102) [16, 17] td48_17 [⟨xIP, p48_0_0, F48_0_0 vV48_0_0⟩] ca48_0_17 c48_0_17)) (.seq (.region r48_32 [] (tO [2, 3])) .ret))))))
noncomputable def cm48_0 : MCode := cm48_0g V48_0_0
theorem gm48_0 : cm48_0.Good Try.prog E48_0 sh48 := ⟨trivial, ⟨⟨trivial, ⟨trivial, ⟨⟨trivial, trivial⟩, trivial⟩⟩⟩, ⟨trivial, ⟨trivial, ⟨⟨⟨ga48_0_17, g48_0_17⟩, m48_0_0, trivial⟩, ⟨trivial, trivial⟩⟩⟩⟩⟩⟩
theorem fm48_0g (vf28_0 : Tf28_0) (vq102 : Tq102) (vV48_0_0 : TV48_0_0) (α : Type) (k : List RV → Option α) : Fn48_0 (f48_0g vV48_0_0 vf28_0 vq102) α k = pa48_0.unc fun ds => fnM Try.prog (E48_0g vf28_0 vq102) sh48 (cm48_0g vV48_0_0) rs48 k ds := by kernel_rfl
theorem fm48_0 : ∀ (α : Type) (k : List RV → Option α), Fn48_0 f48_0 α k = pa48_0.unc fun ds => fnM Try.prog E48_0 sh48 cm48_0 rs48 k ds := fm48_0g f28_0 q102 V48_0_0
theorem is48 : FnIs Try.prog 48 nt48 tr48 tl48 cm48_0.erase rs48 := ⟨Try.f48, Try.func48, rfl, by kernel_rfl, by kernel_rfl, by kernel_rfl⟩
theorem io48_0 : InstOk Try.prog 48 nt48 ⟨pa48_0, Fn48_0 f48_0⟩ := inst_ok eo48_0 followsTry is48 ⟨⟨sh48, cm48_0, by kernel_rfl, gm48_0, fm48_0⟩⟩
abbrev nt61 : Nat := 104
def sh61 : List (Nat × List Sh) := [(16, [.int .i64, .int .i64, .int .i64, .int .i64, .int .i64, .int .i64, .int .i64, .int .i64, .int .i64, .int .i64]), (17, [.int .i64, .int .i64, .int .i64, .int .i64, .int .i64, .int .i64, .int .i64, .int .i64, .int .i64, .int .i64]), (22, [.int .i64, .int .i64, .int .i64, .int .i64, .int .i64, .int .i64, .int .i64, .int .i64, .int .i64, .int .i64]), (30, [.int .i64]), (32, [.int .i64]), (36, [.int .i64]), (50, [.int .i64]), (57, [.int .i64]), (64, [.int .i64]), (74, [.int .i64]), (78, [.int .i64]), (88, [.int .i64]), (95, [.int .i64]), (103, [.int .i64, .int .i64, .int .i64, .int .i64, .int .i64, .int .i64, .int .i64, .int .i64, .int .i64, .int .i64])]
def r61_2 : List AOper := [oO 2 (.box (.tmp 0)), oO 3 (.box (.tmp 1)), oO 4 (.alloc [(cI 0), (cI 0), (cI 0), (cI 0), (cI 0), (cI 0), (cI 0), (cI 0), (cI 0), (cI 0)]), oO 5 (.mv (kI 0))]
def r61_5 : List AOper := [oO 16 (.load true 10 (.tmp 2)), oO 17 (.load true 10 (.tmp 3)), oO 18 (.build [(cI 0), (cI 0), (cI 0), (cI 0), (cI 0), (cI 0), (cI 0), (cI 0), (cI 0), (cI 0), (cI 0), (cI 0), (cI 0), (cI 0), (cI 0), (cI 0), (cI 0), (cI 0), (cI 0), (cI 0)] [(0, 10, (.tmp 16)), (10, 10, (.tmp 17))]), oO 19 (.mv (kI 0))]
def td61_7 : Option Tidy := (tO [2, 3, 4, 18, 19])
def r61_9 : List AOper := [oO 20 (.bin .lss 3 (.tmp 19) (kI 2))]
def r61_15 : List AOper := [oO 21 (.index true 2 10 (.tmp 18) (.tmp 19)), oO 7 (.alloc [(cI 0), (cI 0), (cI 0), (cI 0), (cI 0), (cI 0), (cI 0), (cI 0), (cI 0), (cI 0)]), oD (.store 10 (.tmp 7) (.tmp 21))]
def r61_17 : List AOper := [oO 22 (.load true 10 (.tmp 7)), oO 23 (.call 58 [(.tmp 22)]), oM 8 23]
def r61_19 : List AOper := [oM 24 8, oO 25 (.bin .neq 28 (.tmp 24) (kI 0))]
def r61_22 : List AOper := [oO 26 (.build [(cI 0), (cI 0), (cI 0), (cI 0), (cI 0), (cI 0), (cI 0), (cI 0), (cI 0), (cI 0)] []), oM 27 8, oD (.store 10 (.tmp 4) (.tmp 26)), oM 5 27]
def r61_23 : List AOper := [oO 28 (.bin .add 3 (.tmp 19) (kI 1)), oM 19 28]
def r61_25 : List AOper := [oO 29 (.faddr 9 (.tmp 2)), oO 30 (.load false 1 (.tmp 29)), oO 31 (.faddr 9 (.tmp 3)), oO 32 (.load false 1 (.tmp 31)), oO 33 (.bin .mul 3 (.tmp 30) (.tmp 32)), oO 34 (.build [(cI 0), (cI 0), (cI 0), (cI 0), (cI 0), (cI 0), (cI 0), (cI 0), (cI 0), (cI 0)] [(9, 1, (.tmp 33))]), oO 9 (.alloc [(cI 0), (cI 0), (cI 0), (cI 0), (cI 0), (cI 0), (cI 0), (cI 0), (cI 0), (cI 0)]), oD (.store 10 (.tmp 9) (.tmp 34))]
def r61_27 : List AOper := [oO 35 (.faddr 9 (.tmp 9)), oO 36 (.load false 1 (.tmp 35)), oM 10 36]
def r61_30 : List AOper := [oO 37 (.mv (kI 0))]
def td61_32 : Option Tidy := (tO [2, 3, 4, 9, 10, 37])
def r61_34 : List AOper := [oO 38 (.bin .lss 3 (.tmp 37) (kI 9))]
def r61_40 : List AOper := [oM 39 37, oM 11 39]
def r61_42 : List AOper := [oM 40 11, oO 41 (.bin .quo 3 (.tmp 40) (kI 3)), oM 42 11, oO 43 (.bin .rem 3 (.tmp 42) (kI 3)), oM 12 41, oM 13 43]
def r61_45 : List AOper := [oO 44 (.mv (kI 0))]
def td61_47 : Option Tidy := (tO [2, 3, 4, 9, 10, 11, 12, 13, 37, 44])
def r61_49 : List AOper := [oO 45 (.bin .lss 3 (.tmp 44) (kI 3))]
def r61_55 : List AOper := [oM 46 44, oM 14 46]
def r61_56 : List AOper := [oM 47 11, oO 48 (.faddr 0 (.tmp 9)), oO 49 (.iaddr 1 (some 9) (.tmp 48) (.tmp 47)), oO 50 (.load false 1 (.tmp 49)), oM 51 12, oO 52 (.bin .mul 3 (kI 3) (.tmp 51)), oM 53 14, oO 54 (.bin .add 3 (.tmp 52) (.tmp 53)), oO 55 (.faddr 0 (.tmp 2)), oO 56 (.iaddr 1 (some 9) (.tmp 55) (.tmp 54)), oO 57 (.load false 1 (.tmp 56)), oM 58 14, oO 59 (.bin .mul 3 (kI 3) (.tmp 58)), oM 60 13, oO 61 (.bin .add 3 (.tmp 59) (.tmp 60)), oO 62 (.faddr 0 (.tmp 3)), oO 63 (.iaddr 1 (some 9) (.tmp 62) (.tmp 61)), oO 64 (.load false 1 (.tmp 63)), oO 65 (.bin .mul 3 (.tmp 57) (.tmp 64)), oO 66 (.bin .add 3 (.tmp 50) (.tmp 65)), oO 67 (.faddr 0 (.tmp 9)), oO 68 (.iaddr 1 (some 9) (.tmp 67) (.tmp 47)), oD (.store 1 (.tmp 68) (.tmp 66))]
def r61_57 : List AOper := [oO 69 (.bin .add 3 (.tmp 44) (kI 1)), oM 44 69]
def r61_58 : List AOper := [oM 70 10, oM 71 11, oO 72 (.faddr 0 (.tmp 9)), oO 73 (.iaddr 1 (some 9) (.tmp 72) (.tmp 71)), oO 74 (.load false 1 (.tmp 73)), oO 75 (.call 115 [(.tmp 70), (.tmp 74)]), oM 10 75]
def r61_59 : List AOper := [oO 76 (.bin .add 3 (.tmp 37) (kI 1)), oM 37 76]
def r61_61 : List AOper := [oO 77 (.faddr 9 (.tmp 9)), oO 78 (.load false 1 (.tmp 77)), oM 79 10, oO 80 (.bin .quo 3 (.tmp 78) (.tmp 79)), oO 81 (.faddr 9 (.tmp 9)), oD (.store 1 (.tmp 81) (.tmp 80))]
def r61_64 : List AOper := [oO 82 (.mv (kI 0))]
def td61_66 : Option Tidy := (tO [4, 9, 10, 82])
def r61_68 : List AOper := [oO 83 (.bin .lss 3 (.tmp 82) (kI 9))]
def r61_74 : List AOper := [oM 84 82, oM 15 84]
def r61_75 : List AOper := [oM 85 15, oO 86 (.faddr 0 (.tmp 9)), oO 87 (.iaddr 1 (some 9) (.tmp 86) (.tmp 85)), oO 88 (.load false 1 (.tmp 87)), oM 89 10, oO 90 (.bin .quo 3 (.tmp 88) (.tmp 89)), oO 91 (.faddr 0 (.tmp 9)), oO 92 (.iaddr 1 (some 9) (.tmp 91) (.tmp 85)), oD (.store 1 (.tmp 92) (.tmp 90))]
def r61_76 : List AOper := [oO 93 (.bin .add 3 (.tmp 82) (kI 1)), oM 82 93]
def r61_80 : List AOper := []
def r61_81 : List AOper := [oO 94 (.faddr 9 (.tmp 9)), oO 95 (.load false 1 (.tmp 94)), oO 96 (.bin .gtr 3 (.tmp 95) (kI 1000)), oM 97 96, oG 98 (.faddr 0 (.tmp 9)) 97 false, oG 99 (.aslice 1 9 (.tmp 98)) 97 false, oG 100 (.call 111 [(.tmp 99), (.func 116)]) 97 false, oO 101 (.pick (.tmp 97) (.const (.bool true)) (.tmp 100))]
def r61_84 : List AOper := [oO 102 (.build [(cI 0), (cI 0), (cI 0), (cI 0), (cI 0), (cI 0), (cI 0), (cI 0), (cI 0), (cI 0)] []), oD (.store 10 (.tmp 4) (.tmp 102)), oO 5 (.mv (kI 8))]
def r61_86 : List AOper := [oO 103 (.load true 10 (.tmp 9)), oD (.store 10 (.tmp 4) (.tmp 103)), oO 5 (.mv (kI 0))]
def tr61 : List (Nat × Tidy) := [tT 0 [2, 3, 4], tT 1 [2, 3, 4, 18, 19], tT 2 [2, 3, 4, 18, 19, 20], tT 3 [2, 3, 4, 7, 18, 19], tT 4 [2, 3, 4, 8, 18, 19], tT 5 [2, 3, 4, 8, 18, 19, 25], tT 6 [4, 5], tT 7 [2, 3, 4, 18, 19], tT 8 [2, 3, 4, 9], tT 9 [2, 3, 4, 9, 10], tT 10 [2, 3, 4, 9, 10, 37], tT 11 [2, 3, 4, 9, 10, 37, 38], tT 12 [2, 3, 4, 9, 10, 11, 37], tT 13 [2, 3, 4, 9, 10, 11, 12, 13, 37], tT 14 [2, 3, 4, 9, 10, 11, 12, 13, 37, 44], tT 15 [2, 3, 4, 9, 10, 11, 12, 13, 37, 44, 45], tT 16 [2, 3, 4, 9, 10, 11, 12, 13, 14, 37, 44], tT 17 [2, 3, 4, 9, 10, 11, 12, 13, 37, 44], tT 18 [2, 3, 4, 9, 10, 11, 12, 13, 37, 44], tT 19 [2, 3, 4, 9, 10, 37], tT 20 [2, 3, 4, 9, 10, 37], tT 21 [4, 9, 10], tT 22 [4, 9, 10, 82], tT 23 [4, 9, 10, 82, 83], tT 24 [4, 9, 10, 15, 82], tT 25 [4, 9, 10, 82], tT 26 [4, 9, 10, 82], tT 27 [4, 9, 101], tT 28 [4, 5], tT 29 [4, 5], (2000027, ⟨[4, 9], true, [], [9]⟩)]
def tl61 : List (Nat × Tidy) := [tT 2 [2, 3, 4, 18, 19], tT 11 [2, 3, 4, 9, 10, 37], tT 15 [2, 3, 4, 9, 10, 11, 12, 13, 37, 44], tT 23 [4, 9, 10, 82]]
def rs61 : List AResV := [.cell 4 true 10, .tmp 5]
def pr61_0_0 : PT (List RV) := pRs [pR true [rD (dI .i64), rD (dI .i64), rD (dI .i64), rD (dI .i64), rD (dI .i64), rD (dI .i64), rD (dI .i64), rD (dI .i64), rD (dI .i64), rD (dI .i64)], pR false [rD (dI .i64)]]
def ur61_0_0 {β : Type} (g : List RV → β) : Int → Int → Int → Int → Int → Int → Int → Int → Int → Int → Int → β := pr61_0_0.unc g
def E61_0g (vf58_0 : Tf58_0) (vf115_0 : Tf115_0) (vf111_1 : Tf111_1) : EnvK := EnvK.of [⟨58, nt58, [⟨pa58_0, Fn58_0 vf58_0⟩]⟩, ⟨115, nt115, [⟨pa115_0, Fn115_0 vf115_0⟩]⟩, ⟨111, nt111, [⟨pa111_1, Fn111_1 vf111_1⟩]⟩] noSeq
noncomputable def E61_0 : EnvK := E61_0g f58_0 f115_0 f111_1
theorem eo61_0 : E61_0.Ok Try.prog := EnvK.of_ok noSeq_ok ⟨⟨io58_0, trivial⟩, ⟨io115_0, trivial⟩, ⟨io111_1, trivial⟩, trivial⟩
abbrev Tf61_0 : Type 1 := (α : Type) → Int → Int → Int → Int → Int → Int → Int → Int → Int → Int → Int → Int → Int → Int → Int → Int → Int → Int → Int → Int → (Int → Int → Int → Int → Int → Int → Int → Int → Int → Int → Int → Option α) → Option α
def f61_0g (vf111_1 : Tf111_1) (vf115_0 : Tf115_0) (vf58_0 : Tf58_0) (α : Type) (x1 x2 x3 x4 x5 x6 x7 x8 x9 x10 x11 x12 x13 x14 x15 x16 x17 x18 x19 x20 : Int) (k1 : Int → Int → Int → Int → Int → Int → Int → Int → Int → Int → Int → Option α) : Option α :=
 vf58_0 α x1 x2 x3 x4 x5 x6 x7 x8 x9 x10
 (fun x21 => cK (x21 != 0)
 (k1 0 0 0 0 0 0 0 0 0 0 x21)
 (vf58_0 α x11 x12 x13 x14 x15 x16 x17 x18 x19 x20
 (fun x22 => cK (x22 != 0)
 (k1 0 0 0 0 0 0 0 0 0 0 x22)
 (vf115_0 α (w64 (x10 * x20)) (w64 ((w64 ((w64 (0 + (w64 (x1 * x11)))) + (w64 (x2 * x14)))) + (w64 (x3 * x17))))
 (fun x23 => vf115_0 α x23 (w64 ((w64 ((w64 (0 + (w64 (x1 * x12)))) + (w64 (x2 * x15)))) + (w64 (x3 * x18))))
 (fun x24 => vf115_0 α x24 (w64 ((w64 ((w64 (0 + (w64 (x1 * x13)))) + (w64 (x2 * x16)))) + (w64 (x3 * x19))))
 (fun x25 => vf115_0 α x25 (w64 ((w64 ((w64 (0 + (w64 (x4 * x11)))) + (w64 (x5 * x14)))) + (w64 (x6 * x17))))
 (fun x26 => vf115_0 α x26 (w64 ((w64 ((w64 (0 + (w64 (x4 * x12)))) + (w64 (x5 * x15)))) + (w64 (x6 * x18))))
 (fun x27 => vf115_0 α x27 (w64 ((w64 ((w64 (0 + (w64 (x4 * x13)))) + (w64 (x5 * x16)))) + (w64 (x6 * x19))))
 (fun x28 => vf115_0 α x28 (w64 ((w64 ((w64 (0 + (w64 (x7 * x11)))) + (w64 (x8 * x14)))) + (w64 (x9 * x17))))
 (fun x29 => vf115_0 α x29 (w64 ((w64 ((w64 (0 + (w64 (x7 * x12)))) + (w64 (x8 * x15)))) + (w64 (x9 * x18))))
 (fun x30 => vf115_0 α x30 (w64 ((w64 ((w64 (0 + (w64 (x7 * x13)))) + (w64 (x8 * x16)))) + (w64 (x9 * x19))))
 (fun x31 => gK (x31 != 0) (gK (x31 != 0) (gK (x31 != 0) (gK (x31 != 0) (gK (x31 != 0) (gK (x31 != 0) (gK (x31 != 0) (gK (x31 != 0) (gK (x31 != 0) (gK (x31 != 0) (cK (decide (1000 < (w64 (Int.tdiv (w64 (x10 * x20)) x31))))
 (k1 0 0 0 0 0 0 0 0 0 0 8)
 (vf111_1 α [[DC.v (.int .i64 (w64 (Int.tdiv (w64 ((w64 ((w64 (0 + (w64 (x1 * x11)))) + (w64 (x2 * x14)))) + (w64 (x3 * x17)))) x31)))], [DC.v (.int .i64 (w64 (Int.tdiv (w64 ((w64 ((w64 (0 + (w64 (x1 * x12)))) + (w64 (x2 * x15)))) + (w64 (x3 * x18)))) x31)))], [DC.v (.int .i64 (w64 (Int.tdiv (w64 ((w64 ((w64 (0 + (w64 (x1 * x13)))) + (w64 (x2 * x16)))) + (w64 (x3 * x19)))) x31)))], [DC.v (.int .i64 (w64 (Int.tdiv (w64 ((w64 ((w64 (0 + (w64 (x4 * x11)))) + (w64 (x5 * x14)))) + (w64 (x6 * x17)))) x31)))], [DC.v (.int .i64 (w64 (Int.tdiv (w64 ((w64 ((w64 (0 + (w64 (x4 * x12)))) + (w64 (x5 * x15)))) + (w64 (x6 * x18)))) x31)))], [DC.v (.int .i64 (w64 (Int.tdiv (w64 ((w64 ((w64 (0 + (w64 (x4 * x13)))) + (w64 (x5 * x16)))) + (w64 (x6 * x19)))) x31)))], [DC.v (.int .i64 (w64 (Int.tdiv (w64 ((w64 ((w64 (0 + (w64 (x7 * x11)))) + (w64 (x8 * x14)))) + (w64 (x9 * x17)))) x31)))], [DC.v (.int .i64 (w64 (Int.tdiv (w64 ((w64 ((w64 (0 + (w64 (x7 * x12)))) + (w64 (x8 * x15)))) + (w64 (x9 * x18)))) x31)))], [DC.v (.int .i64 (w64 (Int.tdiv (w64 ((w64 ((w64 (0 + (w64 (x7 * x13)))) + (w64 (x8 * x16)))) + (w64 (x9 * x19)))) x31)))]]
 (fun x32 => cK x32
 (k1 0 0 0 0 0 0 0 0 0 0 8)
 (k1 (w64 (Int.tdiv (w64 ((w64 ((w64 (0 + (w64 (x1 * x11)))) + (w64 (x2 * x14)))) + (w64 (x3 * x17)))) x31)) (w64 (Int.tdiv (w64 ((w64 ((w64 (0 + (w64 (x1 * x12)))) + (w64 (x2 * x15)))) + (w64 (x3 * x18)))) x31)) (w64 (Int.tdiv (w64 ((w64 ((w64 (0 + (w64 (x1 * x13)))) + (w64 (x2 * x16)))) + (w64 (x3 * x19)))) x31)) (w64 (Int.tdiv (w64 ((w64 ((w64 (0 + (w64 (x4 * x11)))) + (w64 (x5 * x14)))) + (w64 (x6 * x17)))) x31)) (w64 (Int.tdiv (w64 ((w64 ((w64 (0 + (w64 (x4 * x12)))) + (w64 (x5 * x15)))) + (w64 (x6 * x18)))) x31)) (w64 (Int.tdiv (w64 ((w64 ((w64 (0 + (w64 (x4 * x13)))) + (w64 (x5 * x16)))) + (w64 (x6 * x19)))) x31)) (w64 (Int.tdiv (w64 ((w64 ((w64 (0 + (w64 (x7 * x11)))) + (w64 (x8 * x14)))) + (w64 (x9 * x17)))) x31)) (w64 (Int.tdiv (w64 ((w64 ((w64 (0 + (w64 (x7 * x12)))) + (w64 (x8 * x15)))) + (w64 (x9 * x18)))) x31)) (w64 (Int.tdiv (w64 ((w64 ((w64 (0 + (w64 (x7 * x13)))) + (w64 (x8 * x16)))) + (w64 (x9 * x19)))) x31)) (w64 (Int.tdiv (w64 (x10 * x20)) x31)) 0))))))))))))))))))))))))))
noncomputable def f61_0 (α : Type) (x1 x2 x3 x4 x5 x6 x7 x8 x9 x10 x11 x12 x13 x14 x15 x16 x17 x18 x19 x20 : Int) (k1 : Int → Int → Int → Int → Int → Int → Int → Int → Int → Int → Int → Option α) : Option α := f61_0g f111_1 f115_0 f58_0 α x1 x2 x3 x4 x5 x6 x7 x8 x9 x10 x11 x12 x13 x14 x15 x16 x17 x18 x19 x20 k1
def pa61_0 : PT (List DV) := pA [pV true [(dI .i64), (dI .i64), (dI .i64), (dI .i64), (dI .i64), (dI .i64), (dI .i64), (dI .i64), (dI .i64), (dI .i64)], pV true [(dI .i64), (dI .i64), (dI .i64), (dI .i64), (dI .i64), (dI .i64), (dI .i64), (dI .i64), (dI .i64), (dI .i64)]]
def Fn61_0 (v : Tf61_0) (α : Type) (k : List RV → Option α) : Int → Int → Int → Int → Int → Int → Int → Int → Int → Int → Int → Int → Int → Int → Int → Int → Int → Int → Int → Int → Option α := fun x1 x2 x3 x4 x5 x6 x7 x8 x9 x10 x11 x12 x13 x14 x15 x16 x17 x18 x19 x20 => v α x1 x2 x3 x4 x5 x6 x7 x8 x9 x10 x11 x12 x13 x14 x15 x16 x17 x18 x19 x20 (fun (y1 : Int) (y2 : Int) (y3 : Int) (y4 : Int) (y5 : Int) (y6 : Int) (y7 : Int) (y8 : Int) (y9 : Int) (y10 : Int) (y11 : Int) => ur61_0_0 k y1 y2 y3 y4 y5 y6 y7 y8 y9 y10 y11)
noncomputable def cm61_0g  : MCode := (.seq (.region r61_2 [] (tO [2, 3, 4])) (.seq (.seq (.region r61_5 [] (tO [2, 3, 4, 18, 19])) (.block 0 (.loopU 3 td61_7 (.seq (.region r61_9 [] (tO [2, 3, 4, 18, 19, 20])) (.seq (.cond (.tmp 20) .skip (.exit 0)) (.seq (.block 1 (.seq (.region r61_15 [] (tO [2, 3, 4, 7, 18, 19])) (.seq (.region r61_17 [] (tO [2, 3, 4, 8, 18, 19])) (.seq (.region r61_19 [] (tO [2, 3, 4, 8, 18, 19, 25])) (.cond (.tmp 25) (.seq (.region r61_22 [] (tO [4, 5])) .ret) .skip))))) (.region r61_23 [] (tO [2, 3, 4, 18, 19])))))))) (.seq (.region r61_25 [] (tO [2, 3, 4, 9])) (.seq (.region r61_27 [] (tO [2, 3, 4, 9, 10])) (.seq (.seq (.region r61_30 [] (tO [2, 3, 4, 9, 10, 37])) (.block 2 (.loopU 10 td61_32 (.seq (.region r61_34 [] (tO [2, 3, 4, 9, 10, 37, 38])) (.seq (.cond (.tmp 38) .skip (.exit 2)) (.seq (.block 3 (.seq (.region r61_40 [] (tO [2, 3, 4, 9, 10, 11, 37])) (.seq (.region r61_42 [] (tO [2, 3, 4, 9, 10, 11, 12, 13, 37])) (.seq (.seq (.region r61_45 [] (tO [2, 3, 4, 9, 10, 11, 12, 13, 37, 44])) (.block 4 (.loopU 4 td61_47 (.seq (.region r61_49 [] (tO [2, 3, 4, 9, 10, 11, 12, 13, 37, 44, 45])) (.seq (.cond (.tmp 45) .skip (.exit 4)) (.seq (.block 5 (.seq (.region r61_55 [] (tO [2, 3, 4, 9, 10, 11, 12, 13, 14, 37, 44])) (.region r61_56 [] (tO [2, 3, 4, 9, 10, 11, 12, 13, 37, 44])))) (.region r61_57 [] (tO [2, 3, 4, 9, 10, 11, 12, 13, 37, 44])))))))) (.region r61_58 [] (tO [2, 3, 4, 9, 10, 37])))))) (.region r61_59 [] (tO [2, 3, 4, 9, 10, 37])))))))) (.seq (.region r61_61 [] (tO [4, 9, 10])) (.seq (.seq (.region r61_64 [] (tO [4, 9, 10, 82])) (.block 6 (.loopU 10 td61_66 (.seq (.region r61_68 [] (tO [4, 9, 10, 82, 83])) (.seq (.cond (.tmp 83) .skip (.exit 6)) (.seq (.block 7 (.seq (.region r61_74 [] (tO [4, 9, 10, 15, 82])) (.region r61_75 [] (tO [4, 9, 10, 82])))) (.region r61_76 [] (tO [4, 9, 10, 82])))))))) (.seq (.seq (.seq (.region r61_80 [] (some ⟨[4, 9], true, [], [9]⟩)) (.region r61_81 [] (tO [4, 9, 101]))) (.cond (.tmp 101) (.seq (.region r61_84 [] (tO [4, 5])) .ret) .skip)) (.seq (.region r61_86 [] (tO [4, 5])) .ret)))))))))
noncomputable def cm61_0 : MCode := cm61_0g 
theorem gm61_0 : cm61_0.Good Try.prog E61_0 sh61 := ⟨trivial, ⟨⟨trivial, ⟨⟨trivial, ⟨⟨trivial, trivial⟩, ⟨⟨trivial, ⟨trivial, ⟨trivial, ⟨⟨trivial, trivial⟩, trivial⟩⟩⟩⟩, trivial⟩⟩⟩, by decide⟩⟩, ⟨trivial, ⟨trivial, ⟨⟨trivial, ⟨⟨trivial, ⟨⟨trivial, trivial⟩, ⟨⟨trivial, ⟨trivial, ⟨⟨trivial, ⟨⟨trivial, ⟨⟨trivial, trivial⟩, ⟨⟨trivial, trivial⟩, trivial⟩⟩⟩, by decide⟩⟩, trivial⟩⟩⟩, trivial⟩⟩⟩, by decide⟩⟩, ⟨trivial, ⟨⟨trivial, ⟨⟨trivial, ⟨⟨trivial, trivial⟩, ⟨⟨trivial, trivial⟩, trivial⟩⟩⟩, by decide⟩⟩, ⟨⟨⟨trivial, trivial⟩, ⟨⟨trivial, trivial⟩, trivial⟩⟩, ⟨trivial, trivial⟩⟩⟩⟩⟩⟩⟩⟩⟩
theorem fm61_0g (vf58_0 : Tf58_0) (vf115_0 : Tf115_0) (vf111_1 : Tf111_1)  (α : Type) (k : List RV → Option α) : Fn61_0 (f61_0g vf111_1 vf115_0 vf58_0) α k = pa61_0.unc fun ds => fnM Try.prog (E61_0g vf58_0 vf115_0 vf111_1) sh61 (cm61_0g ) rs61 k ds := by kernel_rfl
theorem fm61_0 : ∀ (α : Type) (k : List RV → Option α), Fn61_0 f61_0 α k = pa61_0.unc fun ds => fnM Try.prog E61_0 sh61 cm61_0 rs61 k ds := fm61_0g f58_0 f115_0 f111_1
theorem is61 : FnIs Try.prog 61 nt61 tr61 tl61 cm61_0.erase rs61 := ⟨Try.f61, Try.func61, rfl, by kernel_rfl, by kernel_rfl, by kernel_rfl⟩
theorem io61_0 : InstOk Try.prog 61 nt61 ⟨pa61_0, Fn61_0 f61_0⟩ := inst_ok eo61_0 followsTry is61 ⟨⟨sh61, cm61_0, by kernel_rfl, gm61_0, fm61_0⟩⟩
end Go.AM.K
