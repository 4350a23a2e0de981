/- Printed by KGen. -/
import Derived.Test.YtmhghbkdcdpicaaKTu
import Derived.Test.YtmhghbkdcdpicaaSMC1
namespace Go.AM.K
open Go.Proofs
set_option maxRecDepth 100000
set_option linter.unusedVariables false
abbrev nt32 : Nat := 15
def sh32 : List (Nat × List Sh) := []
def r32_2 : List AOper := [oO 4 (.mv (kI 0))]
def td32_5 : Option Tidy := (tO [0, 1])
def r32_8 : List AOper := [oM 5 1, oO 6 (.bin .neq 3 (.tmp 5) (kI 0))]
def r32_11 : List AOper := [oM 7 1, oM 8 0, oM 9 1, oO 10 (.bin .rem 3 (.tmp 8) (.tmp 9)), oM 0 7, oM 1 10]
def r32_13 : List AOper := [oM 11 0, oM 12 0, oO 13 (.pure (oB (.unOp .neg 3 (.tmp 12)) 3)), oO 14 (.pure (oB (.call { callee := .builtin .max, args := #[(.tmp 11), (.tmp 13)], argTypes := #[3, 3] }) 3)), oM 4 14]
def tr32 : List (Nat × Tidy) := [tT 0 [0, 1], tT 1 [0, 1, 6], tT 2 [0, 1], tT 3 [4]]
def tl32 : List (Nat × Tidy) := [tT 1 [0, 1]]
def rs32 : List AResV := [.tmp 4]
def p32_0_0 : PT St := pS [sl 0 (aV false [(cD (dI .i64))]), sl 1 (aV false [(cD (dI .i64))])] []
def u32_0_0 {β : Type} (g : St → β) : Int → Int → β := p32_0_0.unc g
def p32_0_1 : PT St := pS [sl 0 (aV false [(cD (dI .i64))]), sl 1 (aV false [(cD (dI .i64))]), sl 6 (aV false [(cD dB)])] []
def u32_0_1 {β : Type} (g : St → β) : Int → Int → Bool → β := p32_0_1.unc g
def pr32_0_0 : PT (List RV) := pRs [pR false [rD (dI .i64)]]
def ur32_0_0 {β : Type} (g : List RV → β) : Int → β := pr32_0_0.unc g
def E32_0g  : EnvK := EnvK.of [] noSeq
noncomputable def E32_0 : EnvK := E32_0g 
theorem eo32_0 : E32_0.Ok Try.prog := EnvK.of_ok noSeq_ok trivial
noncomputable def c32_0_5g  : MCode := (.seq (.seq (.region r32_8 [] (tO [0, 1, 6])) (.cond (.tmp 6) .skip (.exit 0))) (.block 1 (.region r32_11 [] (tO [0, 1]))))
noncomputable def c32_0_5 : MCode := c32_0_5g 
theorem g32_0_5 : c32_0_5.Good Try.prog E32_0 sh32 := ⟨⟨trivial, ⟨trivial, trivial⟩⟩, trivial⟩
--CODE 5 0
def S32_0_0g  (α : Type)  (x3 x4 : Int) (kn : Int → Int → Option α) (k1 : Int → Int → Bool → Option α) : Option α :=
 cK (x4 != 0)
 (gK (x4 != 0) (kn x4 (Int.tmod x3 x4)))
 (k1 x3 x4 (x4 != 0))
noncomputable def S32_0_0 (α : Type)  (x3 x4 : Int) (kn : Int → Int → Option α) (k1 : Int → Int → Bool → Option α) : Option α := S32_0_0g  α  x3 x4 kn k1
noncomputable def R32_0_0 (α : Type)  (k1 : Int → Int → Bool → Option α) : Nat → Int → Int → Option α
 | 0, _, _ => none
 | n + 1, x3, x4 => S32_0_0 α  x3 x4 (R32_0_0 α  k1 n) k1
noncomputable def L32_0_0 (α : Type)  (k1 : Int → Int → Bool → Option α) (x3 x4 : Int) : Option α := R32_0_0 α  k1 fuel x3 x4
abbrev TL32_0_0 : Type 1 := (α : Type) → (Int → Int → Bool → Option α) → Int → Int → Option α
def F32_0_0 (v : TL32_0_0) (α : Type) (K : Exit → St → Option α) : Int → Int → Option α := fun x3 x4 => v α  (fun (y1 : Int) (y2 : Int) (y3 : Bool) => u32_0_1 (K (.exit 0)) y1 y2 y3) x3 x4
theorem r32_0_0g   (α : Type) (K : Exit → St → Option α) (Kn : St → Option α) (x3 x4 : Int) : u32_0_0 (fun σ => runM Try.prog (E32_0g ) sh32 (c32_0_5g ) (thenK (fun σ => tidyK td32_5 σ Kn) K) σ) x3 x4 = S32_0_0g  α  x3 x4 (fun x3 x4 => u32_0_0 Kn x3 x4) (fun (y1 : Int) (y2 : Int) (y3 : Bool) => u32_0_1 (K (.exit 0)) y1 y2 y3) := by kernel_rfl
theorem r32_0_0 (α : Type) (K : Exit → St → Option α) (Kn : St → Option α) (x3 x4 : Int) : u32_0_0 (fun σ => runM Try.prog E32_0 sh32 c32_0_5 (thenK (fun σ => tidyK td32_5 σ Kn) K) σ) x3 x4 = S32_0_0 α  x3 x4 (fun x3 x4 => u32_0_0 Kn x3 x4) (fun (y1 : Int) (y2 : Int) (y3 : Bool) => u32_0_1 (K (.exit 0)) y1 y2 y3) := r32_0_0g  α K Kn x3 x4
theorem t32_0_0 (α : Type) (K : Exit → St → Option α) : ∀ (n : Nat) (x3 x4 : Int), R32_0_0 α  (fun (y1 : Int) (y2 : Int) (y3 : Bool) => u32_0_1 (K (.exit 0)) y1 y2 y3) n x3 x4 = u32_0_0 (loopT (runM Try.prog E32_0 sh32 c32_0_5) td32_5 K n) x3 x4 := by
 intro n
 induction n with
 | zero => intros; rfl
 | succ n ih => intro x3 x4; exact (congrArg (fun kn => S32_0_0 α  x3 x4 kn (fun (y1 : Int) (y2 : Int) (y3 : Bool) => u32_0_1 (K (.exit 0)) y1 y2 y3)) (funext fun x3 => funext fun x4 => ih x3 x4)).trans (r32_0_0 α K (loopT (runM Try.prog E32_0 sh32 c32_0_5) td32_5 K n) x3 x4).symm
theorem m32_0_0 : ∀ (α : Type) (K : Exit → St → Option α), F32_0_0 L32_0_0 α K = p32_0_0.unc fun σ => loopT (runM Try.prog E32_0 sh32 c32_0_5) td32_5 K fuel σ := fun α K => funext fun x3 => funext fun x4 => t32_0_0 α K fuel x3 x4
abbrev Tf32_0 : Type 1 := (α : Type) → Int → Int → (Int → Option α) → Option α
def f32_0g (vL32_0_0 : TL32_0_0) (α : Type) (x1 x2 : Int) (k1 : Int → Option α) : Option α :=
 vL32_0_0 α
 (fun x6 x7 x8 => k1 (if (w64 (0 - x6)) > x6 then (w64 (0 - x6)) else x6)) x1 x2
noncomputable def f32_0 (α : Type) (x1 x2 : Int) (k1 : Int → Option α) : Option α := f32_0g L32_0_0 α x1 x2 k1
def pa32_0 : PT (List DV) := pA [pV false [(dI .i64)], pV false [(dI .i64)]]
def Fn32_0 (v : Tf32_0) (α : Type) (k : List RV → Option α) : Int → Int → Option α := fun x1 x2 => v α x1 x2 (fun (y1 : Int) => ur32_0_0 k y1)
noncomputable def cm32_0g (vL32_0_0 : TL32_0_0) : MCode := (.seq (.region r32_2 [] (tO [0, 1])) (.seq (.block 0 (.loop td32_5 [⟨p32_0_0, F32_0_0 vL32_0_0⟩] c32_0_5)) (.seq (.region r32_13 [] (tO [4])) .ret)))
noncomputable def cm32_0 : MCode := cm32_0g L32_0_0
theorem gm32_0 : cm32_0.Good Try.prog E32_0 sh32 := ⟨trivial, ⟨⟨g32_0_5, m32_0_0, trivial⟩, ⟨trivial, trivial⟩⟩⟩
theorem fm32_0g  (vL32_0_0 : TL32_0_0) (α : Type) (k : List RV → Option α) : Fn32_0 (f32_0g vL32_0_0) α k = pa32_0.unc fun ds => fnM Try.prog (E32_0g ) sh32 (cm32_0g vL32_0_0) rs32 k ds := by kernel_rfl
theorem fm32_0 : ∀ (α : Type) (k : List RV → Option α), Fn32_0 f32_0 α k = pa32_0.unc fun ds => fnM Try.prog E32_0 sh32 cm32_0 rs32 k ds := fm32_0g L32_0_0
theorem is32 : FnIs Try.prog 32 nt32 tr32 tl32 cm32_0.erase rs32 := ⟨Try.f32, Try.func32, rfl, by kernel_rfl, by kernel_rfl, by kernel_rfl⟩
theorem io32_0 : InstOk Try.prog 32 nt32 ⟨pa32_0, Fn32_0 f32_0⟩ := inst_ok eo32_0 followsTry is32 ⟨⟨sh32, cm32_0, by kernel_rfl, gm32_0, fm32_0⟩⟩
abbrev nt30 : Nat := 7
def sh30 : List (Nat × List Sh) := []
def r30_2 : List AOper := [oO 2 (.mv (kI 0))]
def r30_4 : List AOper := [oM 3 0, oM 4 0, oO 5 (.pure (oB (.unOp .neg 3 (.tmp 4)) 3)), oO 6 (.pure (oB (.call { callee := .builtin .max, args := #[(.tmp 3), (.tmp 5)], argTypes := #[3, 3] }) 3)), oM 2 6]
def tr30 : List (Nat × Tidy) := [tT 0 [0], tT 1 [2]]
def tl30 : List (Nat × Tidy) := []
def rs30 : List AResV := [.tmp 2]
def pr30_0_0 : PT (List RV) := pRs [pR false [rD (dI .i64)]]
def ur30_0_0 {β : Type} (g : List RV → β) : Int → β := pr30_0_0.unc g
def E30_0g  : EnvK := EnvK.of [] noSeq
noncomputable def E30_0 : EnvK := E30_0g 
theorem eo30_0 : E30_0.Ok Try.prog := EnvK.of_ok noSeq_ok trivial
abbrev Tf30_0 : Type 1 := (α : Type) → Int → (Int → Option α) → Option α
def f30_0g  (α : Type) (x1 : Int) (k1 : Int → Option α) : Option α :=
 k1 (if (w64 (0 - x1)) > x1 then (w64 (0 - x1)) else x1)
noncomputable def f30_0 (α : Type) (x1 : Int) (k1 : Int → Option α) : Option α := f30_0g  α x1 k1
def pa30_0 : PT (List DV) := pA [pV false [(dI .i64)]]
def Fn30_0 (v : Tf30_0) (α : Type) (k : List RV → Option α) : Int → Option α := fun x1 => v α x1 (fun (y1 : Int) => ur30_0_0 k y1)
noncomputable def cm30_0g  : MCode := (.seq (.region r30_2 [] (tO [0])) (.seq (.region r30_4 [] (tO [2])) .ret))
noncomputable def cm30_0 : MCode := cm30_0g 
theorem gm30_0 : cm30_0.Good Try.prog E30_0 sh30 := ⟨trivial, ⟨trivial, trivial⟩⟩
theorem fm30_0g   (α : Type) (k : List RV → Option α) : Fn30_0 (f30_0g ) α k = pa30_0.unc fun ds => fnM Try.prog (E30_0g ) sh30 (cm30_0g ) rs30 k ds := by kernel_rfl
theorem fm30_0 : ∀ (α : Type) (k : List RV → Option α), Fn30_0 f30_0 α k = pa30_0.unc fun ds => fnM Try.prog E30_0 sh30 cm30_0 rs30 k ds := fm30_0g 
theorem is30 : FnIs Try.prog 30 nt30 tr30 tl30 cm30_0.erase rs30 := ⟨Try.f30, Try.func30, rfl, by kernel_rfl, by kernel_rfl, by kernel_rfl⟩
theorem io30_0 : InstOk Try.prog 30 nt30 ⟨pa30_0, Fn30_0 f30_0⟩ := inst_ok eo30_0 followsTry is30 ⟨⟨sh30, cm30_0, by kernel_rfl, gm30_0, fm30_0⟩⟩
abbrev nt29 : Nat := 50
def sh29 : List (Nat × List Sh) := [(28, [.int .i64]), (34, [.int .i64]), (41, [.int .i64]), (47, [.int .i64])]
def r29_2 : List AOper := [oO 3 (.box (.tmp 0)), oO 6 (.mv (kI 0))]
def r29_4 : List AOper := [oM 11 1, oO 12 (.bin .add 3 (.tmp 11) (kI 1)), oO 13 (.bin .rem 3 (.tmp 12) (kI 3)), oM 14 1, oO 15 (.bin .add 3 (.tmp 14) (kI 2)), oO 16 (.bin .rem 3 (.tmp 15) (kI 3)), oM 7 13, oM 8 16]
def r29_6 : List AOper := [oM 17 2, oO 18 (.bin .add 3 (.tmp 17) (kI 1)), oO 19 (.bin .rem 3 (.tmp 18) (kI 3)), oM 20 2, oO 21 (.bin .add 3 (.tmp 20) (kI 2)), oO 22 (.bin .rem 3 (.tmp 21) (kI 3)), oM 9 19, oM 10 22]
def r29_8 : List AOper := [oM 23 7, oO 24 (.bin .mul 3 (kI 3) (.tmp 23)), oM 25 9, oO 26 (.bin .add 3 (.tmp 24) (.tmp 25)), oO 27 (.iaddr 1 (some 9) (.tmp 3) (.tmp 26)), oO 28 (.load false 1 (.tmp 27)), oM 29 8, oO 30 (.bin .mul 3 (kI 3) (.tmp 29)), oM 31 10, oO 32 (.bin .add 3 (.tmp 30) (.tmp 31)), oO 33 (.iaddr 1 (some 9) (.tmp 3) (.tmp 32)), oO 34 (.load false 1 (.tmp 33)), oO 35 (.bin .mul 3 (.tmp 28) (.tmp 34)), oM 36 7, oO 37 (.bin .mul 3 (kI 3) (.tmp 36)), oM 38 10, oO 39 (.bin .add 3 (.tmp 37) (.tmp 38)), oO 40 (.iaddr 1 (some 9) (.tmp 3) (.tmp 39)), oO 41 (.load false 1 (.tmp 40)), oM 42 8, oO 43 (.bin .mul 3 (kI 3) (.tmp 42)), oM 44 9, oO 45 (.bin .add 3 (.tmp 43) (.tmp 44)), oO 46 (.iaddr 1 (some 9) (.tmp 3) (.tmp 45)), oO 47 (.load false 1 (.tmp 46)), oO 48 (.bin .mul 3 (.tmp 41) (.tmp 47)), oO 49 (.bin .sub 3 (.tmp 35) (.tmp 48)), oM 6 49]
def tr29 : List (Nat × Tidy) := [tT 0 [1, 2, 3], tT 1 [2, 3, 7, 8], tT 2 [3, 7, 8, 9, 10], tT 3 [6]]
def tl29 : List (Nat × Tidy) := []
def rs29 : List AResV := [.tmp 6]
def pr29_0_0 : PT (List RV) := pRs [pR false [rD (dI .i64)]]
def ur29_0_0 {β : Type} (g : List RV → β) : Int → β := pr29_0_0.unc g
def E29_0g  : EnvK := EnvK.of [] noSeq
noncomputable def E29_0 : EnvK := E29_0g 
theorem eo29_0 : E29_0.Ok Try.prog := EnvK.of_ok noSeq_ok trivial
abbrev Tf29_0 : Type 1 := (α : Type) → Int → Int → Int → Int → Int → Int → Int → Int → Int → (Int → Option α) → Option α
def f29_0g  (α : Type) (x1 x2 x3 x4 x5 x6 x7 x8 x9 : Int) (k1 : Int → Option α) : Option α :=
 k1 (w64 ((w64 (x5 * x9)) - (w64 (x6 * x8))))
noncomputable def f29_0 (α : Type) (x1 x2 x3 x4 x5 x6 x7 x8 x9 : Int) (k1 : Int → Option α) : Option α := f29_0g  α x1 x2 x3 x4 x5 x6 x7 x8 x9 k1
def pa29_0 : PT (List DV) := pA [pV true [(dI .i64), (dI .i64), (dI .i64), (dI .i64), (dI .i64), (dI .i64), (dI .i64), (dI .i64), (dI .i64)], pV false [(dIc .i64 0)], pV false [(dIc .i64 0)]]
def Fn29_0 (v : Tf29_0) (α : Type) (k : List RV → Option α) : Int → Int → Int → Int → Int → Int → Int → Int → Int → Option α := fun x1 x2 x3 x4 x5 x6 x7 x8 x9 => v α x1 x2 x3 x4 x5 x6 x7 x8 x9 (fun (y1 : Int) => ur29_0_0 k y1)
noncomputable def cm29_0g  : MCode := (.seq (.region r29_2 [] (tO [1, 2, 3])) (.seq (.region r29_4 [] (tO [2, 3, 7, 8])) (.seq (.region r29_6 [] (tO [3, 7, 8, 9, 10])) (.seq (.region r29_8 [] (tO [6])) .ret))))
noncomputable def cm29_0 : MCode := cm29_0g 
theorem gm29_0 : cm29_0.Good Try.prog E29_0 sh29 := ⟨trivial, ⟨trivial, ⟨trivial, ⟨trivial, trivial⟩⟩⟩⟩
theorem fm29_0g   (α : Type) (k : List RV → Option α) : Fn29_0 (f29_0g ) α k = pa29_0.unc fun ds => fnM Try.prog (E29_0g ) sh29 (cm29_0g ) rs29 k ds := by kernel_rfl
theorem fm29_0 : ∀ (α : Type) (k : List RV → Option α), Fn29_0 f29_0 α k = pa29_0.unc fun ds => fnM Try.prog E29_0 sh29 cm29_0 rs29 k ds := fm29_0g 
theorem is29 : FnIs Try.prog 29 nt29 tr29 tl29 cm29_0.erase rs29 := ⟨Try.f29, Try.func29, rfl, by kernel_rfl, by kernel_rfl, by kernel_rfl⟩
theorem io29_0 : InstOk Try.prog 29 nt29 ⟨pa29_0, Fn29_0 f29_0⟩ := inst_ok eo29_0 followsTry is29 ⟨⟨sh29, cm29_0, by kernel_rfl, gm29_0, fm29_0⟩⟩
def pr29_1_0 : PT (List RV) := pRs [pR false [rD (dI .i64)]]
def ur29_1_0 {β : Type} (g : List RV → β) : Int → β := pr29_1_0.unc g
def E29_1g  : EnvK := EnvK.of [] noSeq
noncomputable def E29_1 : EnvK := E29_1g 
theorem eo29_1 : E29_1.Ok Try.prog := EnvK.of_ok noSeq_ok trivial
abbrev Tf29_1 : Type 1 := (α : Type) → Int → Int → Int → Int → Int → Int → Int → Int → Int → (Int → Option α) → Option α
def f29_1g  (α : Type) (x1 x2 x3 x4 x5 x6 x7 x8 x9 : Int) (k1 : Int → Option α) : Option α :=
 k1 (w64 ((w64 (x6 * x7)) - (w64 (x4 * x9))))
noncomputable def f29_1 (α : Type) (x1 x2 x3 x4 x5 x6 x7 x8 x9 : Int) (k1 : Int → Option α) : Option α := f29_1g  α x1 x2 x3 x4 x5 x6 x7 x8 x9 k1
def pa29_1 : PT (List DV) := pA [pV true [(dI .i64), (dI .i64), (dI .i64), (dI .i64), (dI .i64), (dI .i64), (dI .i64), (dI .i64), (dI .i64)], pV false [(dIc .i64 0)], pV false [(dIc .i64 1)]]
def Fn29_1 (v : Tf29_1) (α : Type) (k : List RV → Option α) : Int → Int → Int → Int → Int → Int → Int → Int → Int → Option α := fun x1 x2 x3 x4 x5 x6 x7 x8 x9 => v α x1 x2 x3 x4 x5 x6 x7 x8 x9 (fun (y1 : Int) => ur29_1_0 k y1)
noncomputable def cm29_1g  : MCode := (.seq (.region r29_2 [] (tO [1, 2, 3])) (.seq (.region r29_4 [] (tO [2, 3, 7, 8])) (.seq (.region r29_6 [] (tO [3, 7, 8, 9, 10])) (.seq (.region r29_8 [] (tO [6])) .ret))))
noncomputable def cm29_1 : MCode := cm29_1g 
theorem gm29_1 : cm29_1.Good Try.prog E29_1 sh29 := ⟨trivial, ⟨trivial, ⟨trivial, ⟨trivial, trivial⟩⟩⟩⟩
theorem fm29_1g   (α : Type) (k : List RV → Option α) : Fn29_1 (f29_1g ) α k = pa29_1.unc fun ds => fnM Try.prog (E29_1g ) sh29 (cm29_1g ) rs29 k ds := by kernel_rfl
theorem fm29_1 : ∀ (α : Type) (k : List RV → Option α), Fn29_1 f29_1 α k = pa29_1.unc fun ds => fnM Try.prog E29_1 sh29 cm29_1 rs29 k ds := fm29_1g 
theorem io29_1 : InstOk Try.prog 29 nt29 ⟨pa29_1, Fn29_1 f29_1⟩ := inst_ok eo29_1 followsTry is29 ⟨⟨sh29, cm29_1, by kernel_rfl, gm29_1, fm29_1⟩⟩
def pr29_2_0 : PT (List RV) := pRs [pR false [rD (dI .i64)]]
def ur29_2_0 {β : Type} (g : List RV → β) : Int → β := pr29_2_0.unc g
def E29_2g  : EnvK := EnvK.of [] noSeq
noncomputable def E29_2 : EnvK := E29_2g 
theorem eo29_2 : E29_2.Ok Try.prog := EnvK.of_ok noSeq_ok trivial
abbrev Tf29_2 : Type 1 := (α : Type) → Int → Int → Int → Int → Int → Int → Int → Int → Int → (Int → Option α) → Option α
def f29_2g  (α : Type) (x1 x2 x3 x4 x5 x6 x7 x8 x9 : Int) (k1 : Int → Option α) : Option α :=
 k1 (w64 ((w64 (x4 * x8)) - (w64 (x5 * x7))))
noncomputable def f29_2 (α : Type) (x1 x2 x3 x4 x5 x6 x7 x8 x9 : Int) (k1 : Int → Option α) : Option α := f29_2g  α x1 x2 x3 x4 x5 x6 x7 x8 x9 k1
def pa29_2 : PT (List DV) := pA [pV true [(dI .i64), (dI .i64), (dI .i64), (dI .i64), (dI .i64), (dI .i64), (dI .i64), (dI .i64), (dI .i64)], pV false [(dIc .i64 0)], pV false [(dIc .i64 2)]]
def Fn29_2 (v : Tf29_2) (α : Type) (k : List RV → Option α) : Int → Int → Int → Int → Int → Int → Int → Int → Int → Option α := fun x1 x2 x3 x4 x5 x6 x7 x8 x9 => v α x1 x2 x3 x4 x5 x6 x7 x8 x9 (fun (y1 : Int) => ur29_2_0 k y1)
noncomputable def cm29_2g  : MCode := (.seq (.region r29_2 [] (tO [1, 2, 3])) (.seq (.region r29_4 [] (tO [2, 3, 7, 8])) (.seq (.region r29_6 [] (tO [3, 7, 8, 9, 10])) (.seq (.region r29_8 [] (tO [6])) .ret))))
noncomputable def cm29_2 : MCode := cm29_2g 
theorem gm29_2 : cm29_2.Good Try.prog E29_2 sh29 := ⟨trivial, ⟨trivial, ⟨trivial, ⟨trivial, trivial⟩⟩⟩⟩
theorem fm29_2g   (α : Type) (k : List RV → Option α) : Fn29_2 (f29_2g ) α k = pa29_2.unc fun ds => fnM Try.prog (E29_2g ) sh29 (cm29_2g ) rs29 k ds := by kernel_rfl
theorem fm29_2 : ∀ (α : Type) (k : List RV → Option α), Fn29_2 f29_2 α k = pa29_2.unc fun ds => fnM Try.prog E29_2 sh29 cm29_2 rs29 k ds := fm29_2g 
theorem io29_2 : InstOk Try.prog 29 nt29 ⟨pa29_2, Fn29_2 f29_2⟩ := inst_ok eo29_2 followsTry is29 ⟨⟨sh29, cm29_2, by kernel_rfl, gm29_2, fm29_2⟩⟩
def pr29_3_0 : PT (List RV) := pRs [pR false [rD (dI .i64)]]
def ur29_3_0 {β : Type} (g : List RV → β) : Int → β := pr29_3_0.unc g
def E29_3g  : EnvK := EnvK.of [] noSeq
noncomputable def E29_3 : EnvK := E29_3g 
theorem eo29_3 : E29_3.Ok Try.prog := EnvK.of_ok noSeq_ok trivial
abbrev Tf29_3 : Type 1 := (α : Type) → Int → Int → Int → Int → Int → Int → Int → Int → Int → (Int → Option α) → Option α
def f29_3g  (α : Type) (x1 x2 x3 x4 x5 x6 x7 x8 x9 : Int) (k1 : Int → Option α) : Option α :=
 k1 (w64 ((w64 (x8 * x3)) - (w64 (x9 * x2))))
noncomputable def f29_3 (α : Type) (x1 x2 x3 x4 x5 x6 x7 x8 x9 : Int) (k1 : Int → Option α) : Option α := f29_3g  α x1 x2 x3 x4 x5 x6 x7 x8 x9 k1
def pa29_3 : PT (List DV) := pA [pV true [(dI .i64), (dI .i64), (dI .i64), (dI .i64), (dI .i64), (dI .i64), (dI .i64), (dI .i64), (dI .i64)], pV false [(dIc .i64 1)], pV false [(dIc .i64 0)]]
def Fn29_3 (v : Tf29_3) (α : Type) (k : List RV → Option α) : Int → Int → Int → Int → Int → Int → Int → Int → Int → Option α := fun x1 x2 x3 x4 x5 x6 x7 x8 x9 => v α x1 x2 x3 x4 x5 x6 x7 x8 x9 (fun (y1 : Int) => ur29_3_0 k y1)
noncomputable def cm29_3g  : MCode := (.seq (.region r29_2 [] (tO [1, 2, 3])) (.seq (.region r29_4 [] (tO [2, 3, 7, 8])) (.seq (.region r29_6 [] (tO [3, 7, 8, 9, 10])) (.seq (.region r29_8 [] (tO [6])) .ret))))
noncomputable def cm29_3 : MCode := cm29_3g 
theorem gm29_3 : cm29_3.Good Try.prog E29_3 sh29 := ⟨trivial, ⟨trivial, ⟨trivial, ⟨trivial, trivial⟩⟩⟩⟩
theorem fm29_3g   (α : Type) (k : List RV → Option α) : Fn29_3 (f29_3g ) α k = pa29_3.unc fun ds => fnM Try.prog (E29_3g ) sh29 (cm29_3g ) rs29 k ds := by kernel_rfl
theorem fm29_3 : ∀ (α : Type) (k : List RV → Option α), Fn29_3 f29_3 α k = pa29_3.unc fun ds => fnM Try.prog E29_3 sh29 cm29_3 rs29 k ds := fm29_3g 
theorem io29_3 : InstOk Try.prog 29 nt29 ⟨pa29_3, Fn29_3 f29_3⟩ := inst_ok eo29_3 followsTry is29 ⟨⟨sh29, cm29_3, by kernel_rfl, gm29_3, fm29_3⟩⟩
def pr29_4_0 : PT (List RV) := pRs [pR false [rD (dI .i64)]]
def ur29_4_0 {β : Type} (g : List RV → β) : Int → β := pr29_4_0.unc g
def E29_4g  : EnvK := EnvK.of [] noSeq
noncomputable def E29_4 : EnvK := E29_4g 
theorem eo29_4 : E29_4.Ok Try.prog := EnvK.of_ok noSeq_ok trivial
abbrev Tf29_4 : Type 1 := (α : Type) → Int → Int → Int → Int → Int → Int → Int → Int → Int → (Int → Option α) → Option α
def f29_4g  (α : Type) (x1 x2 x3 x4 x5 x6 x7 x8 x9 : Int) (k1 : Int → Option α) : Option α :=
 k1 (w64 ((w64 (x2 * x6)) - (w64 (x3 * x5))))
noncomputable def f29_4 (α : Type) (x1 x2 x3 x4 x5 x6 x7 x8 x9 : Int) (k1 : Int → Option α) : Option α := f29_4g  α x1 x2 x3 x4 x5 x6 x7 x8 x9 k1
def pa29_4 : PT (List DV) := pA [pV true [(dI .i64), (dI .i64), (dI .i64), (dI .i64), (dI .i64), (dI .i64), (dI .i64), (dI .i64), (dI .i64)], pV false [(dIc .i64 2)], pV false [(dIc .i64 0)]]
def Fn29_4 (v : Tf29_4) (α : Type) (k : List RV → Option α) : Int → Int → Int → Int → Int → Int → Int → Int → Int → Option α := fun x1 x2 x3 x4 x5 x6 x7 x8 x9 => v α x1 x2 x3 x4 x5 x6 x7 x8 x9 (fun (y1 : Int) => ur29_4_0 k y1)
noncomputable def cm29_4g  : MCode := (.seq (.region r29_2 [] (tO [1, 2, 3])) (.seq (.region r29_4 [] (tO [2, 3, 7, 8])) (.seq (.region r29_6 [] (tO [3, 7, 8, 9, 10])) (.seq (.region r29_8 [] (tO [6])) .ret))))
noncomputable def cm29_4 : MCode := cm29_4g 
theorem gm29_4 : cm29_4.Good Try.prog E29_4 sh29 := ⟨trivial, ⟨trivial, ⟨trivial, ⟨trivial, trivial⟩⟩⟩⟩
theorem fm29_4g   (α : Type) (k : List RV → Option α) : Fn29_4 (f29_4g ) α k = pa29_4.unc fun ds => fnM Try.prog (E29_4g ) sh29 (cm29_4g ) rs29 k ds := by kernel_rfl
theorem fm29_4 : ∀ (α : Type) (k : List RV → Option α), Fn29_4 f29_4 α k = pa29_4.unc fun ds => fnM Try.prog E29_4 sh29 cm29_4 rs29 k ds := fm29_4g 
theorem io29_4 : InstOk Try.prog 29 nt29 ⟨pa29_4, Fn29_4 f29_4⟩ := inst_ok eo29_4 followsTry is29 ⟨⟨sh29, cm29_4, by kernel_rfl, gm29_4, fm29_4⟩⟩
def pr29_5_0 : PT (List RV) := pRs [pR false [rD (dI .i64)]]
def ur29_5_0 {β : Type} (g : List RV → β) : Int → β := pr29_5_0.unc g
def E29_5g  : EnvK := EnvK.of [] noSeq
noncomputable def E29_5 : EnvK := E29_5g 
theorem eo29_5 : E29_5.Ok Try.prog := EnvK.of_ok noSeq_ok trivial
abbrev Tf29_5 : Type 1 := (α : Type) → Int → Int → Int → Int → Int → Int → Int → Int → Int → (Int → Option α) → Option α
def f29_5g  (α : Type) (x1 x2 x3 x4 x5 x6 x7 x8 x9 : Int) (k1 : Int → Option α) : Option α :=
 k1 (w64 ((w64 (x9 * x1)) - (w64 (x7 * x3))))
noncomputable def f29_5 (α : Type) (x1 x2 x3 x4 x5 x6 x7 x8 x9 : Int) (k1 : Int → Option α) : Option α := f29_5g  α x1 x2 x3 x4 x5 x6 x7 x8 x9 k1
def pa29_5 : PT (List DV) := pA [pV true [(dI .i64), (dI .i64), (dI .i64), (dI .i64), (dI .i64), (dI .i64), (dI .i64), (dI .i64), (dI .i64)], pV false [(dIc .i64 1)], pV false [(dIc .i64 1)]]
def Fn29_5 (v : Tf29_5) (α : Type) (k : List RV → Option α) : Int → Int → Int → Int → Int → Int → Int → Int → Int → Option α := fun x1 x2 x3 x4 x5 x6 x7 x8 x9 => v α x1 x2 x3 x4 x5 x6 x7 x8 x9 (fun (y1 : Int) => ur29_5_0 k y1)
noncomputable def cm29_5g  : MCode := (.seq (.region r29_2 [] (tO [1, 2, 3])) (.seq (.region r29_4 [] (tO [2, 3, 7, 8])) (.seq (.region r29_6 [] (tO [3, 7, 8, 9, 10])) (.seq (.region r29_8 [] (tO [6])) .ret))))
noncomputable def cm29_5 : MCode := cm29_5g 
theorem gm29_5 : cm29_5.Good Try.prog E29_5 sh29 := ⟨trivial, ⟨trivial, ⟨trivial, ⟨trivial, trivial⟩⟩⟩⟩
theorem fm29_5g   (α : Type) (k : List RV → Option α) : Fn29_5 (f29_5g ) α k = pa29_5.unc fun ds => fnM Try.prog (E29_5g ) sh29 (cm29_5g ) rs29 k ds := by kernel_rfl
theorem fm29_5 : ∀ (α : Type) (k : List RV → Option α), Fn29_5 f29_5 α k = pa29_5.unc fun ds => fnM Try.prog E29_5 sh29 cm29_5 rs29 k ds := fm29_5g 
theorem io29_5 : InstOk Try.prog 29 nt29 ⟨pa29_5, Fn29_5 f29_5⟩ := inst_ok eo29_5 followsTry is29 ⟨⟨sh29, cm29_5, by kernel_rfl, gm29_5, fm29_5⟩⟩
def pr29_6_0 : PT (List RV) := pRs [pR false [rD (dI .i64)]]
def ur29_6_0 {β : Type} (g : List RV → β) : Int → β := pr29_6_0.unc g
def E29_6g  : EnvK := EnvK.of [] noSeq
noncomputable def E29_6 : EnvK := E29_6g 
theorem eo29_6 : E29_6.Ok Try.prog := EnvK.of_ok noSeq_ok trivial
abbrev Tf29_6 : Type 1 := (α : Type) → Int → Int → Int → Int → Int → Int → Int → Int → Int → (Int → Option α) → Option α
def f29_6g  (α : Type) (x1 x2 x3 x4 x5 x6 x7 x8 x9 : Int) (k1 : Int → Option α) : Option α :=
 k1 (w64 ((w64 (x3 * x4)) - (w64 (x1 * x6))))
noncomputable def f29_6 (α : Type) (x1 x2 x3 x4 x5 x6 x7 x8 x9 : Int) (k1 : Int → Option α) : Option α := f29_6g  α x1 x2 x3 x4 x5 x6 x7 x8 x9 k1
def pa29_6 : PT (List DV) := pA [pV true [(dI .i64), (dI .i64), (dI .i64), (dI .i64), (dI .i64), (dI .i64), (dI .i64), (dI .i64), (dI .i64)], pV false [(dIc .i64 2)], pV false [(dIc .i64 1)]]
def Fn29_6 (v : Tf29_6) (α : Type) (k : List RV → Option α) : Int → Int → Int → Int → Int → Int → Int → Int → Int → Option α := fun x1 x2 x3 x4 x5 x6 x7 x8 x9 => v α x1 x2 x3 x4 x5 x6 x7 x8 x9 (fun (y1 : Int) => ur29_6_0 k y1)
noncomputable def cm29_6g  : MCode := (.seq (.region r29_2 [] (tO [1, 2, 3])) (.seq (.region r29_4 [] (tO [2, 3, 7, 8])) (.seq (.region r29_6 [] (tO [3, 7, 8, 9, 10])) (.seq (.region r29_8 [] (tO [6])) .ret))))
noncomputable def cm29_6 : MCode := cm29_6g 
theorem gm29_6 : cm29_6.Good Try.prog E29_6 sh29 := ⟨trivial, ⟨trivial, ⟨trivial, ⟨trivial, trivial⟩⟩⟩⟩
theorem fm29_6g   (α : Type) (k : List RV → Option α) : Fn29_6 (f29_6g ) α k = pa29_6.unc fun ds => fnM Try.prog (E29_6g ) sh29 (cm29_6g ) rs29 k ds := by kernel_rfl
theorem fm29_6 : ∀ (α : Type) (k : List RV → Option α), Fn29_6 f29_6 α k = pa29_6.unc fun ds => fnM Try.prog E29_6 sh29 cm29_6 rs29 k ds := fm29_6g 
theorem io29_6 : InstOk Try.prog 29 nt29 ⟨pa29_6, Fn29_6 f29_6⟩ := inst_ok eo29_6 followsTry is29 ⟨⟨sh29, cm29_6, by kernel_rfl, gm29_6, fm29_6⟩⟩
def pr29_7_0 : PT (List RV) := pRs [pR false [rD (dI .i64)]]
def ur29_7_0 {β : Type} (g : List RV → β) : Int → β := pr29_7_0.unc g
def E29_7g  : EnvK := EnvK.of [] noSeq
noncomputable def E29_7 : EnvK := E29_7g 
theorem eo29_7 : E29_7.Ok Try.prog := EnvK.of_ok noSeq_ok trivial
abbrev Tf29_7 : Type 1 := (α : Type) → Int → Int → Int → Int → Int → Int → Int → Int → Int → (Int → Option α) → Option α
def f29_7g  (α : Type) (x1 x2 x3 x4 x5 x6 x7 x8 x9 : Int) (k1 : Int → Option α) : Option α :=
 k1 (w64 ((w64 (x7 * x2)) - (w64 (x8 * x1))))
noncomputable def f29_7 (α : Type) (x1 x2 x3 x4 x5 x6 x7 x8 x9 : Int) (k1 : Int → Option α) : Option α := f29_7g  α x1 x2 x3 x4 x5 x6 x7 x8 x9 k1
def pa29_7 : PT (List DV) := pA [pV true [(dI .i64), (dI .i64), (dI .i64), (dI .i64), (dI .i64), (dI .i64), (dI .i64), (dI .i64), (dI .i64)], pV false [(dIc .i64 1)], pV false [(dIc .i64 2)]]
def Fn29_7 (v : Tf29_7) (α : Type) (k : List RV → Option α) : Int → Int → Int → Int → Int → Int → Int → Int → Int → Option α := fun x1 x2 x3 x4 x5 x6 x7 x8 x9 => v α x1 x2 x3 x4 x5 x6 x7 x8 x9 (fun (y1 : Int) => ur29_7_0 k y1)
noncomputable def cm29_7g  : MCode := (.seq (.region r29_2 [] (tO [1, 2, 3])) (.seq (.region r29_4 [] (tO [2, 3, 7, 8])) (.seq (.region r29_6 [] (tO [3, 7, 8, 9, 10])) (.seq (.region r29_8 [] (tO [6])) .ret))))
noncomputable def cm29_7 : MCode := cm29_7g 
theorem gm29_7 : cm29_7.Good Try.prog E29_7 sh29 := ⟨trivial, ⟨trivial, ⟨trivial, ⟨trivial, trivial⟩⟩⟩⟩
theorem fm29_7g   (α : Type) (k : List RV → Option α) : Fn29_7 (f29_7g ) α k = pa29_7.unc fun ds => fnM Try.prog (E29_7g ) sh29 (cm29_7g ) rs29 k ds := by kernel_rfl
theorem fm29_7 : ∀ (α : Type) (k : List RV → Option α), Fn29_7 f29_7 α k = pa29_7.unc fun ds => fnM Try.prog E29_7 sh29 cm29_7 rs29 k ds := fm29_7g 
theorem io29_7 : InstOk Try.prog 29 nt29 ⟨pa29_7, Fn29_7 f29_7⟩ := inst_ok eo29_7 followsTry is29 ⟨⟨sh29, cm29_7, by kernel_rfl, gm29_7, fm29_7⟩⟩
def pr29_8_0 : PT (List RV) := pRs [pR false [rD (dI .i64)]]
def ur29_8_0 {β : Type} (g : List RV → β) : Int → β := pr29_8_0.unc g
def E29_8g  : EnvK := EnvK.of [] noSeq
noncomputable def E29_8 : EnvK := E29_8g 
theorem eo29_8 : E29_8.Ok Try.prog := EnvK.of_ok noSeq_ok trivial
abbrev Tf29_8 : Type 1 := (α : Type) → Int → Int → Int → Int → Int → Int → Int → Int → Int → (Int → Option α) → Option α
def f29_8g  (α : Type) (x1 x2 x3 x4 x5 x6 x7 x8 x9 : Int) (k1 : Int → Option α) : Option α :=
 k1 (w64 ((w64 (x1 * x5)) - (w64 (x2 * x4))))
noncomputable def f29_8 (α : Type) (x1 x2 x3 x4 x5 x6 x7 x8 x9 : Int) (k1 : Int → Option α) : Option α := f29_8g  α x1 x2 x3 x4 x5 x6 x7 x8 x9 k1
def pa29_8 : PT (List DV) := pA [pV true [(dI .i64), (dI .i64), (dI .i64), (dI .i64), (dI .i64), (dI .i64), (dI .i64), (dI .i64), (dI .i64)], pV false [(dIc .i64 2)], pV false [(dIc .i64 2)]]
def Fn29_8 (v : Tf29_8) (α : Type) (k : List RV → Option α) : Int → Int → Int → Int → Int → Int → Int → Int → Int → Option α := fun x1 x2 x3 x4 x5 x6 x7 x8 x9 => v α x1 x2 x3 x4 x5 x6 x7 x8 x9 (fun (y1 : Int) => ur29_8_0 k y1)
noncomputable def cm29_8g  : MCode := (.seq (.region r29_2 [] (tO [1, 2, 3])) (.seq (.region r29_4 [] (tO [2, 3, 7, 8])) (.seq (.region r29_6 [] (tO [3, 7, 8, 9, 10])) (.seq (.region r29_8 [] (tO [6])) .ret))))
noncomputable def cm29_8 : MCode := cm29_8g 
theorem gm29_8 : cm29_8.Good Try.prog E29_8 sh29 := ⟨trivial, ⟨trivial, ⟨trivial, ⟨trivial, trivial⟩⟩⟩⟩
theorem fm29_8g   (α : Type) (k : List RV → Option α) : Fn29_8 (f29_8g ) α k = pa29_8.unc fun ds => fnM Try.prog (E29_8g ) sh29 (cm29_8g ) rs29 k ds := by kernel_rfl
theorem fm29_8 : ∀ (α : Type) (k : List RV → Option α), Fn29_8 f29_8 α k = pa29_8.unc fun ds => fnM Try.prog E29_8 sh29 cm29_8 rs29 k ds := fm29_8g 
theorem io29_8 : InstOk Try.prog 29 nt29 ⟨pa29_8, Fn29_8 f29_8⟩ := inst_ok eo29_8 followsTry is29 ⟨⟨sh29, cm29_8, by kernel_rfl, gm29_8, fm29_8⟩⟩
abbrev nt61 : Nat := 10
def sh61 : List (Nat × List Sh) := [(4, [.int .i64, .int .i64]), (6, [.int .i64, .int .i64]), (8, [.int .i64, .int .i64])]
def r61_2 : List AOper := [oO 1 (.box (.tmp 0)), oO 2 (.alloc [(cI 0), (cI 0), (cI 0), (cI 0), (cI 0), (cI 0)])]
def r61_4 : List AOper := [oO 3 (.iaddr 2 (some 3) (.tmp 1) (kI 0)), oO 4 (.load true 2 (.tmp 3)), oO 5 (.iaddr 2 (some 3) (.tmp 1) (kI 1)), oO 6 (.load true 2 (.tmp 5)), oO 7 (.iaddr 2 (some 3) (.tmp 1) (kI 2)), oO 8 (.load true 2 (.tmp 7)), oO 9 (.build [(cI 0), (cI 0), (cI 0), (cI 0), (cI 0), (cI 0)] [(0, 2, (.tmp 4)), (2, 2, (.tmp 6)), (4, 2, (.tmp 8))]), oD (.store 6 (.tmp 2) (.tmp 9))]
def tr61 : List (Nat × Tidy) := [tT 0 [1, 2], tT 1 [2]]
def tl61 : List (Nat × Tidy) := []
def rs61 : List AResV := [.cell 2 true 6]
def pr61_0_0 : PT (List RV) := pRs [pR true [rD (dI .i64), rD (dI .i64), rD (dI .i64), rD (dI .i64), rD (dI .i64), rD (dI .i64)]]
def ur61_0_0 {β : Type} (g : List RV → β) : Int → Int → Int → Int → Int → Int → β := pr61_0_0.unc g
def E61_0g  : EnvK := EnvK.of [] noSeq
noncomputable def E61_0 : EnvK := E61_0g 
theorem eo61_0 : E61_0.Ok Try.prog := EnvK.of_ok noSeq_ok trivial
abbrev Tf61_0 : Type 1 := (α : Type) → Int → Int → Int → Int → Int → Int → (Int → Int → Int → Int → Int → Int → Option α) → Option α
def f61_0g  (α : Type) (x1 x2 x3 x4 x5 x6 : Int) (k1 : Int → Int → Int → Int → Int → Int → Option α) : Option α :=
 k1 x1 x2 x3 x4 x5 x6
noncomputable def f61_0 (α : Type) (x1 x2 x3 x4 x5 x6 : Int) (k1 : Int → Int → Int → Int → Int → Int → Option α) : Option α := f61_0g  α x1 x2 x3 x4 x5 x6 k1
def pa61_0 : PT (List DV) := pA [pV true [(dI .i64), (dI .i64), (dI .i64), (dI .i64), (dI .i64), (dI .i64)]]
def Fn61_0 (v : Tf61_0) (α : Type) (k : List RV → Option α) : Int → Int → Int → Int → Int → Int → Option α := fun x1 x2 x3 x4 x5 x6 => v α x1 x2 x3 x4 x5 x6 (fun (y1 : Int) (y2 : Int) (y3 : Int) (y4 : Int) (y5 : Int) (y6 : Int) => ur61_0_0 k y1 y2 y3 y4 y5 y6)
noncomputable def cm61_0g  : MCode := (.seq (.region r61_2 [] (tO [1, 2])) (.seq (.region r61_4 [] (tO [2])) .ret))
noncomputable def cm61_0 : MCode := cm61_0g 
theorem gm61_0 : cm61_0.Good Try.prog E61_0 sh61 := ⟨trivial, ⟨trivial, trivial⟩⟩
theorem fm61_0g   (α : Type) (k : List RV → Option α) : Fn61_0 (f61_0g ) α k = pa61_0.unc fun ds => fnM Try.prog (E61_0g ) sh61 (cm61_0g ) rs61 k ds := by kernel_rfl
theorem fm61_0 : ∀ (α : Type) (k : List RV → Option α), Fn61_0 f61_0 α k = pa61_0.unc fun ds => fnM Try.prog E61_0 sh61 cm61_0 rs61 k ds := fm61_0g 
theorem is61 : FnIs Try.prog 61 nt61 tr61 tl61 cm61_0.erase rs61 := ⟨Try.f61, Try.func61, rfl, by kernel_rfl, by kernel_rfl, by kernel_rfl⟩
theorem io61_0 : InstOk Try.prog 61 nt61 ⟨pa61_0, Fn61_0 f61_0⟩ := inst_ok eo61_0 followsTry is61 ⟨⟨sh61, cm61_0, by kernel_rfl, gm61_0, fm61_0⟩⟩
abbrev nt57 : Nat := 10
def sh57 : List (Nat × List Sh) := [(4, [.int .i64, .int .i64]), (6, [.int .i64, .int .i64]), (8, [.int .i64, .int .i64])]
def r57_2 : List AOper := [oO 1 (.box (.tmp 0)), oO 2 (.alloc [(cI 0), (cI 0), (cI 0), (cI 0), (cI 0), (cI 0)])]
def r57_4 : List AOper := [oO 3 (.faddr 0 (.tmp 1)), oO 4 (.load true 2 (.tmp 3)), oO 5 (.faddr 2 (.tmp 1)), oO 6 (.load true 2 (.tmp 5)), oO 7 (.faddr 4 (.tmp 1)), oO 8 (.load true 2 (.tmp 7)), oO 9 (.build [(cI 0), (cI 0), (cI 0), (cI 0), (cI 0), (cI 0)] [(0, 2, (.tmp 4)), (2, 2, (.tmp 6)), (4, 2, (.tmp 8))]), oD (.store 6 (.tmp 2) (.tmp 9))]
def tr57 : List (Nat × Tidy) := [tT 0 [1, 2], tT 1 [2]]
def tl57 : List (Nat × Tidy) := []
def rs57 : List AResV := [.cell 2 true 6]
def pr57_0_0 : PT (List RV) := pRs [pR true [rD (dI .i64), rD (dI .i64), rD (dI .i64), rD (dI .i64), rD (dI .i64), rD (dI .i64)]]
def ur57_0_0 {β : Type} (g : List RV → β) : Int → Int → Int → Int → Int → Int → β := pr57_0_0.unc g
def E57_0g  : EnvK := EnvK.of [] noSeq
noncomputable def E57_0 : EnvK := E57_0g 
theorem eo57_0 : E57_0.Ok Try.prog := EnvK.of_ok noSeq_ok trivial
abbrev Tf57_0 : Type 1 := (α : Type) → Int → Int → Int → Int → Int → Int → (Int → Int → Int → Int → Int → Int → Option α) → Option α
def f57_0g  (α : Type) (x1 x2 x3 x4 x5 x6 : Int) (k1 : Int → Int → Int → Int → Int → Int → Option α) : Option α :=
 k1 x1 x2 x3 x4 x5 x6
noncomputable def f57_0 (α : Type) (x1 x2 x3 x4 x5 x6 : Int) (k1 : Int → Int → Int → Int → Int → Int → Option α) : Option α := f57_0g  α x1 x2 x3 x4 x5 x6 k1
def pa57_0 : PT (List DV) := pA [pV true [(dI .i64), (dI .i64), (dI .i64), (dI .i64), (dI .i64), (dI .i64)]]
def Fn57_0 (v : Tf57_0) (α : Type) (k : List RV → Option α) : Int → Int → Int → Int → Int → Int → Option α := fun x1 x2 x3 x4 x5 x6 => v α x1 x2 x3 x4 x5 x6 (fun (y1 : Int) (y2 : Int) (y3 : Int) (y4 : Int) (y5 : Int) (y6 : Int) => ur57_0_0 k y1 y2 y3 y4 y5 y6)
noncomputable def cm57_0g  : MCode := (.seq (.region r57_2 [] (tO [1, 2])) (.seq (.region r57_4 [] (tO [2])) .ret))
noncomputable def cm57_0 : MCode := cm57_0g 
theorem gm57_0 : cm57_0.Good Try.prog E57_0 sh57 := ⟨trivial, ⟨trivial, trivial⟩⟩
theorem fm57_0g   (α : Type) (k : List RV → Option α) : Fn57_0 (f57_0g ) α k = pa57_0.unc fun ds => fnM Try.prog (E57_0g ) sh57 (cm57_0g ) rs57 k ds := by kernel_rfl
theorem fm57_0 : ∀ (α : Type) (k : List RV → Option α), Fn57_0 f57_0 α k = pa57_0.unc fun ds => fnM Try.prog E57_0 sh57 cm57_0 rs57 k ds := fm57_0g 
theorem is57 : FnIs Try.prog 57 nt57 tr57 tl57 cm57_0.erase rs57 := ⟨Try.f57, Try.func57, rfl, by kernel_rfl, by kernel_rfl, by kernel_rfl⟩
theorem io57_0 : InstOk Try.prog 57 nt57 ⟨pa57_0, Fn57_0 f57_0⟩ := inst_ok eo57_0 followsTry is57 ⟨⟨sh57, cm57_0, by kernel_rfl, gm57_0, fm57_0⟩⟩
abbrev nt59 : Nat := 16
def sh59 : List (Nat × List Sh) := []
def r59_2 : List AOper := [oO 4 (.mv (kI 0))]
def r59_4 : List AOper := [oM 6 0, oM 7 1, oO 8 (.bin .quo 3 (.tmp 6) (.tmp 7)), oM 5 8]
def r59_7 : List AOper := [oM 9 0, oM 10 1, oO 11 (.bin .rem 3 (.tmp 9) (.tmp 10)), oO 12 (.bin .lss 3 (.tmp 11) (kI 0))]
def r59_9 : List AOper := [oM 13 5, oO 14 (.bin .sub 3 (.tmp 13) (kI 1)), oM 5 14]
def r59_11 : List AOper := [oM 15 5, oM 4 15]
def tr59 : List (Nat × Tidy) := [tT 0 [0, 1], tT 1 [0, 1, 5], tT 2 [5, 12], tT 3 [5], tT 4 [4]]
def tl59 : List (Nat × Tidy) := []
def rs59 : List AResV := [.tmp 4]
def pr59_0_0 : PT (List RV) := pRs [pR false [rD (dI .i64)]]
def ur59_0_0 {β : Type} (g : List RV → β) : Int → β := pr59_0_0.unc g
def E59_0g  : EnvK := EnvK.of [] noSeq
noncomputable def E59_0 : EnvK := E59_0g 
theorem eo59_0 : E59_0.Ok Try.prog := EnvK.of_ok noSeq_ok trivial
abbrev Tf59_0 : Type 1 := (α : Type) → Int → Int → (Int → Option α) → Option α
def f59_0g  (α : Type) (x1 x2 : Int) (k1 : Int → Option α) : Option α :=
 gK (x2 != 0) (gK (x2 != 0) (cK (decide ((Int.tmod x1 x2) < 0))
 (k1 (w64 ((w64 (Int.tdiv x1 x2)) - 1)))
 (k1 (w64 (Int.tdiv x1 x2)))))
noncomputable def f59_0 (α : Type) (x1 x2 : Int) (k1 : Int → Option α) : Option α := f59_0g  α x1 x2 k1
def pa59_0 : PT (List DV) := pA [pV false [(dI .i64)], pV false [(dI .i64)]]
def Fn59_0 (v : Tf59_0) (α : Type) (k : List RV → Option α) : Int → Int → Option α := fun x1 x2 => v α x1 x2 (fun (y1 : Int) => ur59_0_0 k y1)
noncomputable def cm59_0g  : MCode := (.seq (.region r59_2 [] (tO [0, 1])) (.seq (.region r59_4 [] (tO [0, 1, 5])) (.seq (.seq (.region r59_7 [] (tO [5, 12])) (.cond (.tmp 12) (.region r59_9 [] (tO [5])) .skip)) (.seq (.region r59_11 [] (tO [4])) .ret))))
noncomputable def cm59_0 : MCode := cm59_0g 
theorem gm59_0 : cm59_0.Good Try.prog E59_0 sh59 := ⟨trivial, ⟨trivial, ⟨⟨trivial, ⟨trivial, trivial⟩⟩, ⟨trivial, trivial⟩⟩⟩⟩
theorem fm59_0g   (α : Type) (k : List RV → Option α) : Fn59_0 (f59_0g ) α k = pa59_0.unc fun ds => fnM Try.prog (E59_0g ) sh59 (cm59_0g ) rs59 k ds := by kernel_rfl
theorem fm59_0 : ∀ (α : Type) (k : List RV → Option α), Fn59_0 f59_0 α k = pa59_0.unc fun ds => fnM Try.prog E59_0 sh59 cm59_0 rs59 k ds := fm59_0g 
theorem is59 : FnIs Try.prog 59 nt59 tr59 tl59 cm59_0.erase rs59 := ⟨Try.f59, Try.func59, rfl, by kernel_rfl, by kernel_rfl, by kernel_rfl⟩
theorem io59_0 : InstOk Try.prog 59 nt59 ⟨pa59_0, Fn59_0 f59_0⟩ := inst_ok eo59_0 followsTry is59 ⟨⟨sh59, cm59_0, by kernel_rfl, gm59_0, fm59_0⟩⟩
abbrev nt48 : Nat := 23
def sh48 : List (Nat × List Sh) := []
def r48_2 : List AOper := [oO 4 (.mv (kI 0))]
def r48_4 : List AOper := [oM 6 0, oM 7 1, oO 8 (.bin .quo 3 (.tmp 6) (.tmp 7)), oM 5 8]
def r48_7 : List AOper := [oM 9 0, oM 10 1, oO 11 (.bin .rem 3 (.tmp 9) (.tmp 10)), oO 12 (.bin .neq 3 (.tmp 11) (kI 0)), oM 13 12, oG 14 (.mv (.tmp 0)) 13 true, oG 15 (.bin .lss 3 (.tmp 14) (kI 0)) 13 true, oG 16 (.mv (.tmp 1)) 13 true, oG 17 (.bin .lss 3 (.tmp 16) (kI 0)) 13 true, oG 18 (.bin .neq 4 (.tmp 15) (.tmp 17)) 13 true, oO 19 (.pick (.tmp 13) (.tmp 18) (.const (.bool false)))]
def r48_9 : List AOper := [oM 20 5, oO 21 (.bin .sub 3 (.tmp 20) (kI 1)), oM 5 21]
def r48_11 : List AOper := [oM 22 5, oM 4 22]
def tr48 : List (Nat × Tidy) := [tT 0 [0, 1], tT 1 [0, 1, 5], tT 2 [5, 19], tT 3 [5], tT 4 [4]]
def tl48 : List (Nat × Tidy) := []
def rs48 : List AResV := [.tmp 4]
def pr48_0_0 : PT (List RV) := pRs [pR false [rD (dI .i64)]]
def ur48_0_0 {β : Type} (g : List RV → β) : Int → β := pr48_0_0.unc g
def E48_0g  : EnvK := EnvK.of [] noSeq
noncomputable def E48_0 : EnvK := E48_0g 
theorem eo48_0 : E48_0.Ok Try.prog := EnvK.of_ok noSeq_ok trivial
abbrev Tf48_0 : Type 1 := (α : Type) → Int → Int → (Int → Option α) → Option α
def f48_0g  (α : Type) (x1 x2 : Int) (k1 : Int → Option α) : Option α :=
 gK (x2 != 0) (gK (x2 != 0) (cK ((Int.tmod x1 x2) != 0)
 (cK (!((decide (x1 < 0)) == (decide (x2 < 0))))
 (k1 (w64 ((w64 (Int.tdiv x1 x2)) - 1)))
 (k1 (w64 (Int.tdiv x1 x2))))
 (k1 (w64 (Int.tdiv x1 x2)))))
noncomputable def f48_0 (α : Type) (x1 x2 : Int) (k1 : Int → Option α) : Option α := f48_0g  α x1 x2 k1
def pa48_0 : PT (List DV) := pA [pV false [(dI .i64)], pV false [(dI .i64)]]
def Fn48_0 (v : Tf48_0) (α : Type) (k : List RV → Option α) : Int → Int → Option α := fun x1 x2 => v α x1 x2 (fun (y1 : Int) => ur48_0_0 k y1)
noncomputable def cm48_0g  : MCode := (.seq (.region r48_2 [] (tO [0, 1])) (.seq (.region r48_4 [] (tO [0, 1, 5])) (.seq (.seq (.region r48_7 [] (tO [5, 19])) (.cond (.tmp 19) (.region r48_9 [] (tO [5])) .skip)) (.seq (.region r48_11 [] (tO [4])) .ret))))
noncomputable def cm48_0 : MCode := cm48_0g 
theorem gm48_0 : cm48_0.Good Try.prog E48_0 sh48 := ⟨trivial, ⟨trivial, ⟨⟨trivial, ⟨trivial, trivial⟩⟩, ⟨trivial, trivial⟩⟩⟩⟩
theorem fm48_0g   (α : Type) (k : List RV → Option α) : Fn48_0 (f48_0g ) α k = pa48_0.unc fun ds => fnM Try.prog (E48_0g ) sh48 (cm48_0g ) rs48 k ds := by kernel_rfl
theorem fm48_0 : ∀ (α : Type) (k : List RV → Option α), Fn48_0 f48_0 α k = pa48_0.unc fun ds => fnM Try.prog E48_0 sh48 cm48_0 rs48 k ds := fm48_0g 
theorem is48 : FnIs Try.prog 48 nt48 tr48 tl48 cm48_0.erase rs48 := ⟨Try.f48, Try.func48, rfl, by kernel_rfl, by kernel_rfl, by kernel_rfl⟩
theorem io48_0 : InstOk Try.prog 48 nt48 ⟨pa48_0, Fn48_0 f48_0⟩ := inst_ok eo48_0 followsTry is48 ⟨⟨sh48, cm48_0, by kernel_rfl, gm48_0, fm48_0⟩⟩
abbrev nt26 : Nat := 10
def sh26 : List (Nat × List Sh) := [(4, [.int .i64, .int .i64]), (6, [.int .i64, .int .i64]), (8, [.int .i64, .int .i64])]
def r26_2 : List AOper := [oO 1 (.box (.tmp 0)), oO 2 (.alloc [(cI 0), (cI 0), (cI 0), (cI 0), (cI 0), (cI 0)])]
def r26_4 : List AOper := [oO 3 (.faddr 0 (.tmp 1)), oO 4 (.load true 2 (.tmp 3)), oO 5 (.faddr 2 (.tmp 1)), oO 6 (.load true 2 (.tmp 5)), oO 7 (.faddr 4 (.tmp 1)), oO 8 (.load true 2 (.tmp 7)), oO 9 (.build [(cI 0), (cI 0), (cI 0), (cI 0), (cI 0), (cI 0)] [(0, 2, (.tmp 4)), (2, 2, (.tmp 6)), (4, 2, (.tmp 8))]), oD (.store 6 (.tmp 2) (.tmp 9))]
def tr26 : List (Nat × Tidy) := [tT 0 [1, 2], tT 1 [2]]
def tl26 : List (Nat × Tidy) := []
def rs26 : List AResV := [.cell 2 true 6]
def pr26_0_0 : PT (List RV) := pRs [pR true [rD (dI .i64), rD (dI .i64), rD (dI .i64), rD (dI .i64), rD (dI .i64), rD (dI .i64)]]
def ur26_0_0 {β : Type} (g : List RV → β) : Int → Int → Int → Int → Int → Int → β := pr26_0_0.unc g
def E26_0g  : EnvK := EnvK.of [] noSeq
noncomputable def E26_0 : EnvK := E26_0g 
theorem eo26_0 : E26_0.Ok Try.prog := EnvK.of_ok noSeq_ok trivial
abbrev Tf26_0 : Type 1 := (α : Type) → Int → Int → Int → Int → Int → Int → (Int → Int → Int → Int → Int → Int → Option α) → Option α
def f26_0g  (α : Type) (x1 x2 x3 x4 x5 x6 : Int) (k1 : Int → Int → Int → Int → Int → Int → Option α) : Option α :=
 k1 x1 x2 x3 x4 x5 x6
noncomputable def f26_0 (α : Type) (x1 x2 x3 x4 x5 x6 : Int) (k1 : Int → Int → Int → Int → Int → Int → Option α) : Option α := f26_0g  α x1 x2 x3 x4 x5 x6 k1
def pa26_0 : PT (List DV) := pA [pV true [(dI .i64), (dI .i64), (dI .i64), (dI .i64), (dI .i64), (dI .i64)]]
def Fn26_0 (v : Tf26_0) (α : Type) (k : List RV → Option α) : Int → Int → Int → Int → Int → Int → Option α := fun x1 x2 x3 x4 x5 x6 => v α x1 x2 x3 x4 x5 x6 (fun (y1 : Int) (y2 : Int) (y3 : Int) (y4 : Int) (y5 : Int) (y6 : Int) => ur26_0_0 k y1 y2 y3 y4 y5 y6)
noncomputable def cm26_0g  : MCode := (.seq (.region r26_2 [] (tO [1, 2])) (.seq (.region r26_4 [] (tO [2])) .ret))
noncomputable def cm26_0 : MCode := cm26_0g 
theorem gm26_0 : cm26_0.Good Try.prog E26_0 sh26 := ⟨trivial, ⟨trivial, trivial⟩⟩
theorem fm26_0g   (α : Type) (k : List RV → Option α) : Fn26_0 (f26_0g ) α k = pa26_0.unc fun ds => fnM Try.prog (E26_0g ) sh26 (cm26_0g ) rs26 k ds := by kernel_rfl
theorem fm26_0 : ∀ (α : Type) (k : List RV → Option α), Fn26_0 f26_0 α k = pa26_0.unc fun ds => fnM Try.prog E26_0 sh26 cm26_0 rs26 k ds := fm26_0g 
theorem is26 : FnIs Try.prog 26 nt26 tr26 tl26 cm26_0.erase rs26 := ⟨Try.f26, Try.func26, rfl, by kernel_rfl, by kernel_rfl, by kernel_rfl⟩
theorem io26_0 : InstOk Try.prog 26 nt26 ⟨pa26_0, Fn26_0 f26_0⟩ := inst_ok eo26_0 followsTry is26 ⟨⟨sh26, cm26_0, by kernel_rfl, gm26_0, fm26_0⟩⟩
abbrev nt24 : Nat := 15
def sh24 : List (Nat × List Sh) := []
def r24_2 : List AOper := [oO 6 (.mv (.const (.bool false)))]
def r24_4 : List AOper := [oM 7 1, oM 8 0, oO 9 (.bin .leq 3 (.tmp 7) (.tmp 8)), oM 10 9, oG 11 (.mv (.tmp 0)) 10 true, oG 12 (.mv (.tmp 2)) 10 true, oG 13 (.bin .leq 3 (.tmp 11) (.tmp 12)) 10 true, oO 14 (.pick (.tmp 10) (.tmp 13) (.const (.bool false))), oM 6 14]
def tr24 : List (Nat × Tidy) := [tT 0 [0, 1, 2], tT 1 [6]]
def tl24 : List (Nat × Tidy) := []
def rs24 : List AResV := [.tmp 6]
def pr24_0_0 : PT (List RV) := pRs [pR false [rD dB]]
def ur24_0_0 {β : Type} (g : List RV → β) : Bool → β := pr24_0_0.unc g
def E24_0g  : EnvK := EnvK.of [] noSeq
noncomputable def E24_0 : EnvK := E24_0g 
theorem eo24_0 : E24_0.Ok Try.prog := EnvK.of_ok noSeq_ok trivial
abbrev Tf24_0 : Type 1 := (α : Type) → Int → Int → Int → (Bool → Option α) → Option α
def f24_0g  (α : Type) (x1 x2 x3 : Int) (k1 : Bool → Option α) : Option α :=
 cK (decide (x2 ≤ x1))
 (k1 (decide (x1 ≤ x3)))
 (k1 false)
noncomputable def f24_0 (α : Type) (x1 x2 x3 : Int) (k1 : Bool → Option α) : Option α := f24_0g  α x1 x2 x3 k1
def pa24_0 : PT (List DV) := pA [pV false [(dI .i64)], pV false [(dI .i64)], pV false [(dI .i64)]]
def Fn24_0 (v : Tf24_0) (α : Type) (k : List RV → Option α) : Int → Int → Int → Option α := fun x1 x2 x3 => v α x1 x2 x3 (fun (y1 : Bool) => ur24_0_0 k y1)
noncomputable def cm24_0g  : MCode := (.seq (.region r24_2 [] (tO [0, 1, 2])) (.seq (.region r24_4 [] (tO [6])) .ret))
noncomputable def cm24_0 : MCode := cm24_0g 
theorem gm24_0 : cm24_0.Good Try.prog E24_0 sh24 := ⟨trivial, ⟨trivial, trivial⟩⟩
theorem fm24_0g   (α : Type) (k : List RV → Option α) : Fn24_0 (f24_0g ) α k = pa24_0.unc fun ds => fnM Try.prog (E24_0g ) sh24 (cm24_0g ) rs24 k ds := by kernel_rfl
theorem fm24_0 : ∀ (α : Type) (k : List RV → Option α), Fn24_0 f24_0 α k = pa24_0.unc fun ds => fnM Try.prog E24_0 sh24 cm24_0 rs24 k ds := fm24_0g 
theorem is24 : FnIs Try.prog 24 nt24 tr24 tl24 cm24_0.erase rs24 := ⟨Try.f24, Try.func24, rfl, by kernel_rfl, by kernel_rfl, by kernel_rfl⟩
theorem io24_0 : InstOk Try.prog 24 nt24 ⟨pa24_0, Fn24_0 f24_0⟩ := inst_ok eo24_0 followsTry is24 ⟨⟨sh24, cm24_0, by kernel_rfl, gm24_0, fm24_0⟩⟩
abbrev nt62 : Nat := 15
def sh62 : List (Nat × List Sh) := []
def r62_2 : List AOper := [oO 6 (.mv (.const (.bool false)))]
def r62_4 : List AOper := [oM 7 1, oM 8 0, oO 9 (.bin .leq 3 (.tmp 7) (.tmp 8)), oM 10 9, oG 11 (.mv (.tmp 0)) 10 true, oG 12 (.mv (.tmp 2)) 10 true, oG 13 (.bin .leq 3 (.tmp 11) (.tmp 12)) 10 true, oO 14 (.pick (.tmp 10) (.tmp 13) (.const (.bool false))), oM 6 14]
def tr62 : List (Nat × Tidy) := [tT 0 [0, 1, 2], tT 1 [6]]
def tl62 : List (Nat × Tidy) := []
def rs62 : List AResV := [.tmp 6]
def pr62_0_0 : PT (List RV) := pRs [pR false [rD dB]]
def ur62_0_0 {β : Type} (g : List RV → β) : Bool → β := pr62_0_0.unc g
def E62_0g  : EnvK := EnvK.of [] noSeq
noncomputable def E62_0 : EnvK := E62_0g 
theorem eo62_0 : E62_0.Ok Try.prog := EnvK.of_ok noSeq_ok trivial
abbrev Tf62_0 : Type 1 := (α : Type) → Int → Int → Int → (Bool → Option α) → Option α
def f62_0g  (α : Type) (x1 x2 x3 : Int) (k1 : Bool → Option α) : Option α :=
 cK (decide (x2 ≤ x1))
 (k1 (decide (x1 ≤ x3)))
 (k1 false)
noncomputable def f62_0 (α : Type) (x1 x2 x3 : Int) (k1 : Bool → Option α) : Option α := f62_0g  α x1 x2 x3 k1
def pa62_0 : PT (List DV) := pA [pV false [(dI .i64)], pV false [(dI .i64)], pV false [(dI .i64)]]
def Fn62_0 (v : Tf62_0) (α : Type) (k : List RV → Option α) : Int → Int → Int → Option α := fun x1 x2 x3 => v α x1 x2 x3 (fun (y1 : Bool) => ur62_0_0 k y1)
noncomputable def cm62_0g  : MCode := (.seq (.region r62_2 [] (tO [0, 1, 2])) (.seq (.region r62_4 [] (tO [6])) .ret))
noncomputable def cm62_0 : MCode := cm62_0g 
theorem gm62_0 : cm62_0.Good Try.prog E62_0 sh62 := ⟨trivial, ⟨trivial, trivial⟩⟩
theorem fm62_0g   (α : Type) (k : List RV → Option α) : Fn62_0 (f62_0g ) α k = pa62_0.unc fun ds => fnM Try.prog (E62_0g ) sh62 (cm62_0g ) rs62 k ds := by kernel_rfl
theorem fm62_0 : ∀ (α : Type) (k : List RV → Option α), Fn62_0 f62_0 α k = pa62_0.unc fun ds => fnM Try.prog E62_0 sh62 cm62_0 rs62 k ds := fm62_0g 
theorem is62 : FnIs Try.prog 62 nt62 tr62 tl62 cm62_0.erase rs62 := ⟨Try.f62, Try.func62, rfl, by kernel_rfl, by kernel_rfl, by kernel_rfl⟩
theorem io62_0 : InstOk Try.prog 62 nt62 ⟨pa62_0, Fn62_0 f62_0⟩ := inst_ok eo62_0 followsTry is62 ⟨⟨sh62, cm62_0, by kernel_rfl, gm62_0, fm62_0⟩⟩
abbrev nt67 : Nat := 54
def sh67 : List (Nat × List Sh) := [(12, [.int .u8]), (13, [.int .u8])]
def r67_2 : List AOper := [oO 2 (.mv (.const (.bool false)))]
def r67_5 : List AOper := [oM 6 0, oO 7 (.bytes (.tmp 6)), oO 8 (.len (.tmp 7)), oO 9 (.mv (kI 0))]
def td67_7 : Option Tidy := (some ⟨[0, 7, 8, 9], true, [⟨false, 7, 0, 20007, 1⟩], []⟩)
def r67_9 : List AOper := [oO 10 (.bin .lss 3 (.tmp 9) (.tmp 8))]
def r67_15 : List AOper := [oM 11 9, oO 12 (.iaddr 1 none (.tmp 7) (.tmp 9)), oO 13 (.load false 1 (.tmp 12)), oM 3 11, oM 4 13]
def r67_17 : List AOper := [oM 14 4, oO 15 (.bin .geq 5 (.tmp 14) (.const (.int .u8 97))), oM 16 15, oG 17 (.mv (.tmp 4)) 16 true, oG 18 (.bin .leq 5 (.tmp 17) (.const (.int .u8 122))) 16 true, oO 19 (.pick (.tmp 16) (.tmp 18) (.const (.bool false))), oM 20 19, oG 21 (.mv (.tmp 4)) 20 false, oG 22 (.bin .geq 5 (.tmp 21) (.const (.int .u8 65))) 20 false, oG 23 (.mv (.tmp 22)) 20 false, oG 24 (.mv (.tmp 4)) 23 true, oG 25 (.bin .leq 5 (.tmp 24) (.const (.int .u8 90))) 23 true, oG 26 (.pick (.tmp 23) (.tmp 25) (.const (.bool false))) 20 false, oO 27 (.pick (.tmp 20) (.const (.bool true)) (.tmp 26)), oM 5 27]
def r67_19 : List AOper := [oM 28 5, oO 29 (.pure (oB (.unOp .not 4 (.tmp 28)) 4)), oM 30 29, oG 31 (.mv (.tmp 3)) 30 true, oG 32 (.bin .eql 3 (.tmp 31) (kI 0)) 30 true, oG 33 (.mv (.tmp 32)) 30 true, oG 34 (.mv (.tmp 4)) 33 false, oG 35 (.bin .neq 5 (.tmp 34) (.const (.int .u8 45))) 33 false, oG 36 (.mv (.tmp 35)) 33 false, oG 37 (.mv (.tmp 4)) 36 true, oG 38 (.bin .lss 5 (.tmp 37) (.const (.int .u8 48))) 36 true, oG 39 (.mv (.tmp 38)) 36 true, oG 40 (.mv (.tmp 4)) 39 false, oG 41 (.bin .gtr 5 (.tmp 40) (.const (.int .u8 57))) 39 false, oG 42 (.pick (.tmp 39) (.const (.bool true)) (.tmp 41)) 36 true, oG 43 (.pick (.tmp 36) (.tmp 42) (.const (.bool false))) 33 false, oG 44 (.pick (.tmp 33) (.const (.bool true)) (.tmp 43)) 30 true, oO 45 (.pick (.tmp 30) (.tmp 44) (.const (.bool false)))]
def r67_22 : List AOper := [oO 2 (.mv (.const (.bool false)))]
def r67_23 : List AOper := [oO 46 (.bin .add 3 (.tmp 9) (kI 1)), oM 9 46]
def r67_25 : List AOper := [oM 47 0, ⟨(some 48), (.bin .neq 9 (.tmp 47) (.const (.string ⟨#[]⟩))), none⟩, oM 49 48, oG 50 (.mv (.tmp 0)) 49 true, oG 51 (.pure (oB (.call { callee := .builtin .len, args := #[(.tmp 50)], argTypes := #[9] }) 3)) 49 true, oG 52 (.bin .leq 3 (.tmp 51) (kI 12)) 49 true, oO 53 (.pick (.tmp 49) (.tmp 52) (.const (.bool false))), oM 2 53]
def tr67 : List (Nat × Tidy) := [tT 0 [0], tT 1 [0, 7, 8, 9], tT 2 [0, 7, 8, 9, 10], tT 3 [0, 3, 4, 7, 8, 9], tT 4 [0, 3, 4, 5, 7, 8, 9], tT 5 [0, 7, 8, 9, 45], tT 6 [2], tT 7 [0, 7, 8, 9], tT 8 [2]]
def tl67 : List (Nat × Tidy) := [(2, ⟨[0, 7, 8, 9], true, [⟨false, 7, 0, 20007, 1⟩], []⟩)]
def rs67 : List AResV := [.tmp 2]
def p67_0_0 : PT St := pS [sl 0 (aV false [(cD dS)]), sl 3 (aV false [(cD (dI .i64))]), sl 4 (aV false [(cD (dI .u8))]), sl 7 (aV false [(cRef 20007)]), sl 8 (aV false [(cD (dI .i64))]), sl 9 (aV false [(cD (dI .i64))])] [eOwn 20007 1]
def u67_0_0 {β : Type} (g : St → β) : ByteArray → Int → Int → Int → Int → Rows → β := p67_0_0.unc g
def p67_0_1 : PT St := pS [sl 0 (aV false [(cD dS)]), sl 3 (aV false [(cD (dI .i64))]), sl 4 (aV false [(cD (dI .u8))]), sl 5 (aV false [(cD dB)]), sl 7 (aV false [(cRef 20007)]), sl 8 (aV false [(cD (dI .i64))]), sl 9 (aV false [(cD (dI .i64))])] [eOwn 20007 1]
def u67_0_1 {β : Type} (g : St → β) : ByteArray → Int → Int → Bool → Int → Int → Rows → β := p67_0_1.unc g
def p67_0_2 : PT St := pS [sl 0 (aV false [(cD dS)]), sl 7 (aV false [(cRef 20007)]), sl 8 (aV false [(cD (dI .i64))]), sl 9 (aV false [(cD (dI .i64))]), sl 45 (aV false [(cD dB)])] [eOwn 20007 1]
def u67_0_2 {β : Type} (g : St → β) : ByteArray → Int → Int → Bool → Rows → β := p67_0_2.unc g
def p67_0_3 : PT St := pS [sl 0 (aV false [(cD dS)]), sl 7 (aV false [(cRef 20007)]), sl 8 (aV false [(cD (dI .i64))]), sl 9 (aV false [(cD (dI .i64))])] [eOwn 20007 1]
def u67_0_3 {β : Type} (g : St → β) : ByteArray → Int → Int → Rows → β := p67_0_3.unc g
def p67_0_4 : PT St := pS [sl 2 (aV false [(cD dB)])] []
def u67_0_4 {β : Type} (g : St → β) : Bool → β := p67_0_4.unc g
def p67_0_5 : PT St := pS [sl 0 (aV false [(cD dS)]), sl 7 (aV false [(cRef 20007)]), sl 8 (aV false [(cD (dI .i64))]), sl 9 (aV false [(cD (dI .i64))]), sl 10 (aV false [(cD dB)])] [eOwn 20007 1]
def u67_0_5 {β : Type} (g : St → β) : ByteArray → Int → Int → Bool → Rows → β := p67_0_5.unc g
def pr67_0_0 : PT (List RV) := pRs [pR false [rD dB]]
def ur67_0_0 {β : Type} (g : List RV → β) : Bool → β := pr67_0_0.unc g
def E67_0g  : EnvK := EnvK.of [] noSeq
noncomputable def E67_0 : EnvK := E67_0g 
theorem eo67_0 : E67_0.Ok Try.prog := EnvK.of_ok noSeq_ok trivial
noncomputable def c67_0_18g  : MCode := (.region r67_19 [] (tO [0, 7, 8, 9, 45]))
noncomputable def c67_0_18 : MCode := c67_0_18g 
theorem g67_0_18 : c67_0_18.Good Try.prog E67_0 sh67 := trivial
--CODE 18 0
abbrev TJ67_0_1 : Type 1 := (α : Type) → Int → Int → Bool → (Bool → Option α) → Option α
def J67_0_1g  (α : Type) (x18 x19 : Int) (x20 : Bool) (k1 : Bool → Option α) : Option α :=
 cK (!x20)
 (cK (x18 == 0)
 (k1 true)
 (cK (x19 != 45)
 (cK (decide (x19 < 48))
 (k1 true)
 (k1 (decide (57 < x19))))
 (k1 false)))
 (k1 false)
noncomputable def J67_0_1 (α : Type) (x18 x19 : Int) (x20 : Bool) (k1 : Bool → Option α) : Option α := J67_0_1g  α x18 x19 x20 k1
def F67_0_1 (v : TJ67_0_1) (α : Type) (K : Exit → St → Option α) : ByteArray → Int → Int → Bool → Int → Int → Rows → Option α := fun x17 x18 x19 x20 x21 x22 x23 => v α x18 x19 x20 (fun (y1 : Bool) => u67_0_2 (K .normal) x17 x21 x22 y1 x23) 
theorem m67_0_1g   (α : Type) (K : Exit → St → Option α) : F67_0_1 (J67_0_1g ) α K = p67_0_1.unc fun σ => runM Try.prog (E67_0g ) sh67 (c67_0_18g ) K σ := by kernel_rfl
theorem m67_0_1 : ∀ (α : Type) (K : Exit → St → Option α), F67_0_1 J67_0_1 α K = p67_0_1.unc fun σ => runM Try.prog E67_0 sh67 c67_0_18 K σ := m67_0_1g 
noncomputable def c67_0_16g  : MCode := (.region r67_17 [] (tO [0, 3, 4, 5, 7, 8, 9]))
noncomputable def c67_0_16 : MCode := c67_0_16g 
theorem g67_0_16 : c67_0_16.Good Try.prog E67_0 sh67 := trivial
--CODE 16 0
abbrev TJ67_0_0 : Type 1 := (α : Type) → Int → (Bool → Option α) → Option α
def J67_0_0g  (α : Type) (x10 : Int) (k1 : Bool → Option α) : Option α :=
 cK (decide (97 ≤ x10))
 (cK (decide (x10 ≤ 122))
 (k1 true)
 (cK (decide (65 ≤ x10))
 (k1 (decide (x10 ≤ 90)))
 (k1 false)))
 (cK (decide (65 ≤ x10))
 (k1 (decide (x10 ≤ 90)))
 (k1 false))
noncomputable def J67_0_0 (α : Type) (x10 : Int) (k1 : Bool → Option α) : Option α := J67_0_0g  α x10 k1
def F67_0_0 (v : TJ67_0_0) (α : Type) (K : Exit → St → Option α) : ByteArray → Int → Int → Int → Int → Rows → Option α := fun x8 x9 x10 x11 x12 x13 => v α x10 (fun (y1 : Bool) => u67_0_1 (K .normal) x8 x9 x10 y1 x11 x12 x13) 
theorem m67_0_0g   (α : Type) (K : Exit → St → Option α) : F67_0_0 (J67_0_0g ) α K = p67_0_0.unc fun σ => runM Try.prog (E67_0g ) sh67 (c67_0_16g ) K σ := by kernel_rfl
theorem m67_0_0 : ∀ (α : Type) (K : Exit → St → Option α), F67_0_0 J67_0_0 α K = p67_0_0.unc fun σ => runM Try.prog E67_0 sh67 c67_0_16 K σ := m67_0_0g 
noncomputable def c67_0_7g (vJ67_0_0 : TJ67_0_0) (vJ67_0_1 : TJ67_0_1) : MCode := (.seq (.region r67_9 [] (tO [0, 7, 8, 9, 10])) (.seq (.cond (.tmp 10) .skip (.exit 0)) (.seq (.block 1 (.seq (.region r67_15 [] (tO [0, 3, 4, 7, 8, 9])) (.seq (.mark [⟨p67_0_0, F67_0_0 vJ67_0_0⟩] c67_0_16) (.seq (.mark [⟨p67_0_1, F67_0_1 vJ67_0_1⟩] c67_0_18) (.cond (.tmp 45) (.seq (.region r67_22 [] (tO [2])) .ret) .skip))))) (.region r67_23 [] (tO [0, 7, 8, 9])))))
noncomputable def c67_0_7 : MCode := c67_0_7g J67_0_0 J67_0_1
theorem g67_0_7 : c67_0_7.Good Try.prog E67_0 sh67 := ⟨trivial, ⟨⟨trivial, trivial⟩, ⟨⟨trivial, ⟨⟨g67_0_16, m67_0_0, trivial⟩, ⟨⟨g67_0_18, m67_0_1, trivial⟩, ⟨⟨trivial, trivial⟩, trivial⟩⟩⟩⟩, trivial⟩⟩⟩
--CODE 7 0
def S67_0_2g (vJ67_0_0 : TJ67_0_0) (vJ67_0_1 : TJ67_0_1) (α : Type) (x3 : Int) (x5 : Rows) (x4 : Int) (kn : Int → Option α) (k1 : Option α) (k2 : Int → Bool → Option α) : Option α :=
 cK (decide (x4 < x3))
 (ixK x5 x4 1
 (ldK x5 (Int.toNat x4) 0 [.int .u8]
 (fun x7 => vJ67_0_0 α x7
 (fun x15 => vJ67_0_1 α x4 x7 x15
 (fun x25 => cK x25
 (k1)
 (kn (w64 (x4 + 1))))))))
 (k2 x4 (decide (x4 < x3)))
noncomputable def S67_0_2 (α : Type) (x3 : Int) (x5 : Rows) (x4 : Int) (kn : Int → Option α) (k1 : Option α) (k2 : Int → Bool → Option α) : Option α := S67_0_2g J67_0_0 J67_0_1 α x3 x5 x4 kn k1 k2
noncomputable def R67_0_2 (α : Type) (x3 : Int) (x5 : Rows) (k1 : Option α) (k2 : Int → Bool → Option α) : Nat → Int → Option α
 | 0, _ => none
 | n + 1, x4 => S67_0_2 α x3 x5 x4 (R67_0_2 α x3 x5 k1 k2 n) k1 k2
noncomputable def L67_0_2 (α : Type) (x3 : Int) (x5 : Rows) (k1 : Option α) (k2 : Int → Bool → Option α) (x4 : Int) : Option α := R67_0_2 α x3 x5 k1 k2 fuel x4
abbrev TL67_0_2 : Type 1 := (α : Type) → Int → Rows → (Option α) → (Int → Bool → Option α) → Int → Option α
def F67_0_2 (v : TL67_0_2) (α : Type) (K : Exit → St → Option α) : ByteArray → Int → Int → Rows → Option α := fun x2 x3 x4 x5 => v α x3 x5 (u67_0_4 (K .ret) false) (fun (y1 : Int) (y2 : Bool) => u67_0_5 (K (.exit 0)) x2 x3 y1 y2 x5) x4
theorem r67_0_2g  (vJ67_0_0 : TJ67_0_0) (vJ67_0_1 : TJ67_0_1) (α : Type) (K : Exit → St → Option α) (Kn : St → Option α) (x2 : ByteArray) (x3 x4 : Int) (x5 : Rows) : u67_0_3 (fun σ => runM Try.prog (E67_0g ) sh67 (c67_0_7g vJ67_0_0 vJ67_0_1) (thenK (fun σ => tidyK td67_7 σ Kn) K) σ) x2 x3 x4 x5 = S67_0_2g vJ67_0_0 vJ67_0_1 α x3 x5 x4 (fun x4 => u67_0_3 Kn x2 x3 x4 x5) (u67_0_4 (K .ret) false) (fun (y1 : Int) (y2 : Bool) => u67_0_5 (K (.exit 0)) x2 x3 y1 y2 x5) := by kernel_rfl
theorem r67_0_2 (α : Type) (K : Exit → St → Option α) (Kn : St → Option α) (x2 : ByteArray) (x3 x4 : Int) (x5 : Rows) : u67_0_3 (fun σ => runM Try.prog E67_0 sh67 c67_0_7 (thenK (fun σ => tidyK td67_7 σ Kn) K) σ) x2 x3 x4 x5 = S67_0_2 α x3 x5 x4 (fun x4 => u67_0_3 Kn x2 x3 x4 x5) (u67_0_4 (K .ret) false) (fun (y1 : Int) (y2 : Bool) => u67_0_5 (K (.exit 0)) x2 x3 y1 y2 x5) := r67_0_2g J67_0_0 J67_0_1 α K Kn x2 x3 x4 x5
theorem t67_0_2 (α : Type) (K : Exit → St → Option α) : ∀ (n : Nat) (x2 : ByteArray) (x3 x4 : Int) (x5 : Rows), R67_0_2 α x3 x5 (u67_0_4 (K .ret) false) (fun (y1 : Int) (y2 : Bool) => u67_0_5 (K (.exit 0)) x2 x3 y1 y2 x5) n x4 = u67_0_3 (loopT (runM Try.prog E67_0 sh67 c67_0_7) td67_7 K n) x2 x3 x4 x5 := by
 intro n
 induction n with
 | zero => intros; rfl
 | succ n ih => intro x2 x3 x4 x5; exact (congrArg (fun kn => S67_0_2 α x3 x5 x4 kn (u67_0_4 (K .ret) false) (fun (y1 : Int) (y2 : Bool) => u67_0_5 (K (.exit 0)) x2 x3 y1 y2 x5)) (funext fun x4 => ih x2 x3 x4 x5)).trans (r67_0_2 α K (loopT (runM Try.prog E67_0 sh67 c67_0_7) td67_7 K n) x2 x3 x4 x5).symm
theorem m67_0_2 : ∀ (α : Type) (K : Exit → St → Option α), F67_0_2 L67_0_2 α K = p67_0_3.unc fun σ => loopT (runM Try.prog E67_0 sh67 c67_0_7) td67_7 K fuel σ := fun α K => funext fun x2 => funext fun x3 => funext fun x4 => funext fun x5 => t67_0_2 α K fuel x2 x3 x4 x5
abbrev Tf67_0 : Type 1 := (α : Type) → ByteArray → (Bool → Option α) → Option α
def f67_0g (vL67_0_2 : TL67_0_2) (α : Type) (x1 : ByteArray) (k1 : Bool → Option α) : Option α :=
 gK (decide (ByteArray.size x1 ≤ 9223372036854775807)) (vL67_0_2 α ((List.length (bytesR x1) : Nat) : Int) (bytesR x1)
 (k1 false)
 (fun x27 x28 => cK (!(x1.toList == (⟨#[]⟩ : ByteArray).toList))
 (k1 (decide (((ByteArray.size x1 : Nat) : Int) ≤ 12)))
 (k1 false)) 0)
noncomputable def f67_0 (α : Type) (x1 : ByteArray) (k1 : Bool → Option α) : Option α := f67_0g L67_0_2 α x1 k1
def pa67_0 : PT (List DV) := pA [pV false [dS]]
def Fn67_0 (v : Tf67_0) (α : Type) (k : List RV → Option α) : ByteArray → Option α := fun x1 => v α x1 (fun (y1 : Bool) => ur67_0_0 k y1)
noncomputable def cm67_0g (vL67_0_2 : TL67_0_2) : MCode := (.seq (.region r67_2 [] (tO [0])) (.seq (.seq (.region r67_5 [] (tO [0, 7, 8, 9])) (.block 0 (.loop td67_7 [⟨p67_0_3, F67_0_2 vL67_0_2⟩] c67_0_7))) (.seq (.region r67_25 [] (tO [2])) .ret)))
noncomputable def cm67_0 : MCode := cm67_0g L67_0_2
theorem gm67_0 : cm67_0.Good Try.prog E67_0 sh67 := ⟨trivial, ⟨⟨trivial, ⟨g67_0_7, m67_0_2, trivial⟩⟩, ⟨trivial, trivial⟩⟩⟩
theorem fm67_0g  (vL67_0_2 : TL67_0_2) (α : Type) (k : List RV → Option α) : Fn67_0 (f67_0g vL67_0_2) α k = pa67_0.unc fun ds => fnM Try.prog (E67_0g ) sh67 (cm67_0g vL67_0_2) rs67 k ds := by kernel_rfl
theorem fm67_0 : ∀ (α : Type) (k : List RV → Option α), Fn67_0 f67_0 α k = pa67_0.unc fun ds => fnM Try.prog E67_0 sh67 cm67_0 rs67 k ds := fm67_0g L67_0_2
theorem is67 : FnIs Try.prog 67 nt67 tr67 tl67 cm67_0.erase rs67 := ⟨Try.f67, Try.func67, rfl, by kernel_rfl, by kernel_rfl, by kernel_rfl⟩
theorem io67_0 : InstOk Try.prog 67 nt67 ⟨pa67_0, Fn67_0 f67_0⟩ := inst_ok eo67_0 followsTry is67 ⟨⟨sh67, cm67_0, by kernel_rfl, gm67_0, fm67_0⟩⟩
abbrev nt60 : Nat := 10
def sh60 : List (Nat × List Sh) := []
def r60_2 : List AOper := [oO 4 (.mv (kI 0))]
def r60_4 : List AOper := [oM 5 0, oO 6 (.pure (oB (.unOp .neg 3 (.tmp 5)) 3)), oM 7 1, oO 8 (.call 59 [(.tmp 6), (.tmp 7)]), oO 9 (.pure (oB (.unOp .neg 3 (.tmp 8)) 3)), oM 4 9]
def tr60 : List (Nat × Tidy) := [tT 0 [0, 1], tT 1 [4]]
def tl60 : List (Nat × Tidy) := []
def rs60 : List AResV := [.tmp 4]
def pr60_0_0 : PT (List RV) := pRs [pR false [rD (dI .i64)]]
def ur60_0_0 {β : Type} (g : List RV → β) : Int → β := pr60_0_0.unc g
def E60_0g (vf59_0 : Tf59_0) : EnvK := EnvK.of [⟨59, nt59, [⟨pa59_0, Fn59_0 vf59_0⟩]⟩] noSeq
noncomputable def E60_0 : EnvK := E60_0g f59_0
theorem eo60_0 : E60_0.Ok Try.prog := EnvK.of_ok noSeq_ok ⟨⟨io59_0, trivial⟩, trivial⟩
abbrev Tf60_0 : Type 1 := (α : Type) → Int → Int → (Int → Option α) → Option α
def f60_0g (vf59_0 : Tf59_0) (α : Type) (x1 x2 : Int) (k1 : Int → Option α) : Option α :=
 vf59_0 α (w64 (0 - x1)) x2
 (fun x3 => k1 (w64 (0 - x3)))
noncomputable def f60_0 (α : Type) (x1 x2 : Int) (k1 : Int → Option α) : Option α := f60_0g f59_0 α x1 x2 k1
def pa60_0 : PT (List DV) := pA [pV false [(dI .i64)], pV false [(dI .i64)]]
def Fn60_0 (v : Tf60_0) (α : Type) (k : List RV → Option α) : Int → Int → Option α := fun x1 x2 => v α x1 x2 (fun (y1 : Int) => ur60_0_0 k y1)
noncomputable def cm60_0g  : MCode := (.seq (.region r60_2 [] (tO [0, 1])) (.seq (.region r60_4 [] (tO [4])) .ret))
noncomputable def cm60_0 : MCode := cm60_0g 
theorem gm60_0 : cm60_0.Good Try.prog E60_0 sh60 := ⟨trivial, ⟨trivial, trivial⟩⟩
theorem fm60_0g (vf59_0 : Tf59_0)  (α : Type) (k : List RV → Option α) : Fn60_0 (f60_0g vf59_0) α k = pa60_0.unc fun ds => fnM Try.prog (E60_0g vf59_0) sh60 (cm60_0g ) rs60 k ds := by kernel_rfl
theorem fm60_0 : ∀ (α : Type) (k : List RV → Option α), Fn60_0 f60_0 α k = pa60_0.unc fun ds => fnM Try.prog E60_0 sh60 cm60_0 rs60 k ds := fm60_0g f59_0
theorem is60 : FnIs Try.prog 60 nt60 tr60 tl60 cm60_0.erase rs60 := ⟨Try.f60, Try.func60, rfl, by kernel_rfl, by kernel_rfl, by kernel_rfl⟩
theorem io60_0 : InstOk Try.prog 60 nt60 ⟨pa60_0, Fn60_0 f60_0⟩ := inst_ok eo60_0 followsTry is60 ⟨⟨sh60, cm60_0, by kernel_rfl, gm60_0, fm60_0⟩⟩
abbrev nt49 : Nat := 10
def sh49 : List (Nat × List Sh) := []
def r49_2 : List AOper := [oO 4 (.mv (kI 0))]
def r49_4 : List AOper := [oM 5 0, oO 6 (.pure (oB (.unOp .neg 3 (.tmp 5)) 3)), oM 7 1, oO 8 (.call 48 [(.tmp 6), (.tmp 7)]), oO 9 (.pure (oB (.unOp .neg 3 (.tmp 8)) 3)), oM 4 9]
def tr49 : List (Nat × Tidy) := [tT 0 [0, 1], tT 1 [4]]
def tl49 : List (Nat × Tidy) := []
def rs49 : List AResV := [.tmp 4]
def pr49_0_0 : PT (List RV) := pRs [pR false [rD (dI .i64)]]
def ur49_0_0 {β : Type} (g : List RV → β) : Int → β := pr49_0_0.unc g
def E49_0g (vf48_0 : Tf48_0) : EnvK := EnvK.of [⟨48, nt48, [⟨pa48_0, Fn48_0 vf48_0⟩]⟩] noSeq
noncomputable def E49_0 : EnvK := E49_0g f48_0
theorem eo49_0 : E49_0.Ok Try.prog := EnvK.of_ok noSeq_ok ⟨⟨io48_0, trivial⟩, trivial⟩
abbrev Tf49_0 : Type 1 := (α : Type) → Int → Int → (Int → Option α) → Option α
def f49_0g (vf48_0 : Tf48_0) (α : Type) (x1 x2 : Int) (k1 : Int → Option α) : Option α :=
 vf48_0 α (w64 (0 - x1)) x2
 (fun x3 => k1 (w64 (0 - x3)))
noncomputable def f49_0 (α : Type) (x1 x2 : Int) (k1 : Int → Option α) : Option α := f49_0g f48_0 α x1 x2 k1
def pa49_0 : PT (List DV) := pA [pV false [(dI .i64)], pV false [(dI .i64)]]
def Fn49_0 (v : Tf49_0) (α : Type) (k : List RV → Option α) : Int → Int → Option α := fun x1 x2 => v α x1 x2 (fun (y1 : Int) => ur49_0_0 k y1)
noncomputable def cm49_0g  : MCode := (.seq (.region r49_2 [] (tO [0, 1])) (.seq (.region r49_4 [] (tO [4])) .ret))
noncomputable def cm49_0 : MCode := cm49_0g 
theorem gm49_0 : cm49_0.Good Try.prog E49_0 sh49 := ⟨trivial, ⟨trivial, trivial⟩⟩
theorem fm49_0g (vf48_0 : Tf48_0)  (α : Type) (k : List RV → Option α) : Fn49_0 (f49_0g vf48_0) α k = pa49_0.unc fun ds => fnM Try.prog (E49_0g vf48_0) sh49 (cm49_0g ) rs49 k ds := by kernel_rfl
theorem fm49_0 : ∀ (α : Type) (k : List RV → Option α), Fn49_0 f49_0 α k = pa49_0.unc fun ds => fnM Try.prog E49_0 sh49 cm49_0 rs49 k ds := fm49_0g f48_0
theorem is49 : FnIs Try.prog 49 nt49 tr49 tl49 cm49_0.erase rs49 := ⟨Try.f49, Try.func49, rfl, by kernel_rfl, by kernel_rfl, by kernel_rfl⟩
theorem io49_0 : InstOk Try.prog 49 nt49 ⟨pa49_0, Fn49_0 f49_0⟩ := inst_ok eo49_0 followsTry is49 ⟨⟨sh49, cm49_0, by kernel_rfl, gm49_0, fm49_0⟩⟩
abbrev nt27 : Nat := 5
def sh27 : List (Nat × List Sh) := []
def r27_2 : List AOper := [oO 2 (.mv (.const (.bool false)))]
def r27_4 : List AOper := [oM 3 0, oO 4 (.call 24 [(.tmp 3), (kI (-10000000)), (kI 10000000)]), oM 2 4]
def tr27 : List (Nat × Tidy) := [tT 0 [0], tT 1 [2]]
def tl27 : List (Nat × Tidy) := []
def rs27 : List AResV := [.tmp 2]
def pr27_0_0 : PT (List RV) := pRs [pR false [rD dB]]
def ur27_0_0 {β : Type} (g : List RV → β) : Bool → β := pr27_0_0.unc g
def E27_0g (vf24_0 : Tf24_0) : EnvK := EnvK.of [⟨24, nt24, [⟨pa24_0, Fn24_0 vf24_0⟩]⟩] noSeq
noncomputable def E27_0 : EnvK := E27_0g f24_0
theorem eo27_0 : E27_0.Ok Try.prog := EnvK.of_ok noSeq_ok ⟨⟨io24_0, trivial⟩, trivial⟩
abbrev Tf27_0 : Type 1 := (α : Type) → Int → (Bool → Option α) → Option α
def f27_0g (vf24_0 : Tf24_0) (α : Type) (x1 : Int) (k1 : Bool → Option α) : Option α :=
 vf24_0 α x1 (-10000000) 10000000
 (fun x2 => k1 x2)
noncomputable def f27_0 (α : Type) (x1 : Int) (k1 : Bool → Option α) : Option α := f27_0g f24_0 α x1 k1
def pa27_0 : PT (List DV) := pA [pV false [(dI .i64)]]
def Fn27_0 (v : Tf27_0) (α : Type) (k : List RV → Option α) : Int → Option α := fun x1 => v α x1 (fun (y1 : Bool) => ur27_0_0 k y1)
noncomputable def cm27_0g  : MCode := (.seq (.region r27_2 [] (tO [0])) (.seq (.region r27_4 [] (tO [2])) .ret))
noncomputable def cm27_0 : MCode := cm27_0g 
theorem gm27_0 : cm27_0.Good Try.prog E27_0 sh27 := ⟨trivial, ⟨trivial, trivial⟩⟩
theorem fm27_0g (vf24_0 : Tf24_0)  (α : Type) (k : List RV → Option α) : Fn27_0 (f27_0g vf24_0) α k = pa27_0.unc fun ds => fnM Try.prog (E27_0g vf24_0) sh27 (cm27_0g ) rs27 k ds := by kernel_rfl
theorem fm27_0 : ∀ (α : Type) (k : List RV → Option α), Fn27_0 f27_0 α k = pa27_0.unc fun ds => fnM Try.prog E27_0 sh27 cm27_0 rs27 k ds := fm27_0g f24_0
theorem is27 : FnIs Try.prog 27 nt27 tr27 tl27 cm27_0.erase rs27 := ⟨Try.f27, Try.func27, rfl, by kernel_rfl, by kernel_rfl, by kernel_rfl⟩
theorem io27_0 : InstOk Try.prog 27 nt27 ⟨pa27_0, Fn27_0 f27_0⟩ := inst_ok eo27_0 followsTry is27 ⟨⟨sh27, cm27_0, by kernel_rfl, gm27_0, fm27_0⟩⟩
abbrev nt25 : Nat := 5
def sh25 : List (Nat × List Sh) := []
def r25_2 : List AOper := [oO 2 (.mv (.const (.bool false)))]
def r25_4 : List AOper := [oM 3 0, oO 4 (.call 24 [(.tmp 3), (kI (-1000)), (kI 1000)]), oM 2 4]
def tr25 : List (Nat × Tidy) := [tT 0 [0], tT 1 [2]]
def tl25 : List (Nat × Tidy) := []
def rs25 : List AResV := [.tmp 2]
def pr25_0_0 : PT (List RV) := pRs [pR false [rD dB]]
def ur25_0_0 {β : Type} (g : List RV → β) : Bool → β := pr25_0_0.unc g
def E25_0g (vf24_0 : Tf24_0) : EnvK := EnvK.of [⟨24, nt24, [⟨pa24_0, Fn24_0 vf24_0⟩]⟩] noSeq
noncomputable def E25_0 : EnvK := E25_0g f24_0
theorem eo25_0 : E25_0.Ok Try.prog := EnvK.of_ok noSeq_ok ⟨⟨io24_0, trivial⟩, trivial⟩
abbrev Tf25_0 : Type 1 := (α : Type) → Int → (Bool → Option α) → Option α
def f25_0g (vf24_0 : Tf24_0) (α : Type) (x1 : Int) (k1 : Bool → Option α) : Option α :=
 vf24_0 α x1 (-1000) 1000
 (fun x2 => k1 x2)
noncomputable def f25_0 (α : Type) (x1 : Int) (k1 : Bool → Option α) : Option α := f25_0g f24_0 α x1 k1
def pa25_0 : PT (List DV) := pA [pV false [(dI .i64)]]
def Fn25_0 (v : Tf25_0) (α : Type) (k : List RV → Option α) : Int → Option α := fun x1 => v α x1 (fun (y1 : Bool) => ur25_0_0 k y1)
noncomputable def cm25_0g  : MCode := (.seq (.region r25_2 [] (tO [0])) (.seq (.region r25_4 [] (tO [2])) .ret))
noncomputable def cm25_0 : MCode := cm25_0g 
theorem gm25_0 : cm25_0.Good Try.prog E25_0 sh25 := ⟨trivial, ⟨trivial, trivial⟩⟩
theorem fm25_0g (vf24_0 : Tf24_0)  (α : Type) (k : List RV → Option α) : Fn25_0 (f25_0g vf24_0) α k = pa25_0.unc fun ds => fnM Try.prog (E25_0g vf24_0) sh25 (cm25_0g ) rs25 k ds := by kernel_rfl
theorem fm25_0 : ∀ (α : Type) (k : List RV → Option α), Fn25_0 f25_0 α k = pa25_0.unc fun ds => fnM Try.prog E25_0 sh25 cm25_0 rs25 k ds := fm25_0g f24_0
theorem is25 : FnIs Try.prog 25 nt25 tr25 tl25 cm25_0.erase rs25 := ⟨Try.f25, Try.func25, rfl, by kernel_rfl, by kernel_rfl, by kernel_rfl⟩
theorem io25_0 : InstOk Try.prog 25 nt25 ⟨pa25_0, Fn25_0 f25_0⟩ := inst_ok eo25_0 followsTry is25 ⟨⟨sh25, cm25_0, by kernel_rfl, gm25_0, fm25_0⟩⟩
abbrev nt58 : Nat := 10
def sh58 : List (Nat × List Sh) := []
def r58_2 : List AOper := [oO 4 (.mv (.const (.bool false)))]
def r58_4 : List AOper := [oM 5 0, oM 6 1, oO 7 (.pure (oB (.unOp .neg 3 (.tmp 6)) 3)), oM 8 1, oO 9 (.call 62 [(.tmp 5), (.tmp 7), (.tmp 8)]), oM 4 9]
def tr58 : List (Nat × Tidy) := [tT 0 [0, 1], tT 1 [4]]
def tl58 : List (Nat × Tidy) := []
def rs58 : List AResV := [.tmp 4]
def pr58_0_0 : PT (List RV) := pRs [pR false [rD dB]]
def ur58_0_0 {β : Type} (g : List RV → β) : Bool → β := pr58_0_0.unc g
def E58_0g (vf62_0 : Tf62_0) : EnvK := EnvK.of [⟨62, nt62, [⟨pa62_0, Fn62_0 vf62_0⟩]⟩] noSeq
noncomputable def E58_0 : EnvK := E58_0g f62_0
theorem eo58_0 : E58_0.Ok Try.prog := EnvK.of_ok noSeq_ok ⟨⟨io62_0, trivial⟩, trivial⟩
abbrev Tf58_0 : Type 1 := (α : Type) → Int → Int → (Bool → Option α) → Option α
def f58_0g (vf62_0 : Tf62_0) (α : Type) (x1 x2 : Int) (k1 : Bool → Option α) : Option α :=
 vf62_0 α x1 (w64 (0 - x2)) x2
 (fun x3 => k1 x3)
noncomputable def f58_0 (α : Type) (x1 x2 : Int) (k1 : Bool → Option α) : Option α := f58_0g f62_0 α x1 x2 k1
def pa58_0 : PT (List DV) := pA [pV false [(dI .i64)], pV false [(dI .i64)]]
def Fn58_0 (v : Tf58_0) (α : Type) (k : List RV → Option α) : Int → Int → Option α := fun x1 x2 => v α x1 x2 (fun (y1 : Bool) => ur58_0_0 k y1)
noncomputable def cm58_0g  : MCode := (.seq (.region r58_2 [] (tO [0, 1])) (.seq (.region r58_4 [] (tO [4])) .ret))
noncomputable def cm58_0 : MCode := cm58_0g 
theorem gm58_0 : cm58_0.Good Try.prog E58_0 sh58 := ⟨trivial, ⟨trivial, trivial⟩⟩
theorem fm58_0g (vf62_0 : Tf62_0)  (α : Type) (k : List RV → Option α) : Fn58_0 (f58_0g vf62_0) α k = pa58_0.unc fun ds => fnM Try.prog (E58_0g vf62_0) sh58 (cm58_0g ) rs58 k ds := by kernel_rfl
theorem fm58_0 : ∀ (α : Type) (k : List RV → Option α), Fn58_0 f58_0 α k = pa58_0.unc fun ds => fnM Try.prog E58_0 sh58 cm58_0 rs58 k ds := fm58_0g f62_0
theorem is58 : FnIs Try.prog 58 nt58 tr58 tl58 cm58_0.erase rs58 := ⟨Try.f58, Try.func58, rfl, by kernel_rfl, by kernel_rfl, by kernel_rfl⟩
theorem io58_0 : InstOk Try.prog 58 nt58 ⟨pa58_0, Fn58_0 f58_0⟩ := inst_ok eo58_0 followsTry is58 ⟨⟨sh58, cm58_0, by kernel_rfl, gm58_0, fm58_0⟩⟩
abbrev nt41 : Nat := 27
def sh41 : List (Nat × List Sh) := [(17, [.int .i64]), (23, [.int .i64])]
def r41_2 : List AOper := [oO 5 (.box (.tmp 2)), oO 6 (.mv (kI 0))]
def r41_6 : List AOper := [oM 8 0, oO 9 (.call 67 [(.tmp 8)]), oO 10 (.pure (oB (.unOp .not 4 (.tmp 9)) 4)), oM 7 10]
def r41_9 : List AOper := [oO 6 (.mv (kI 3))]
def r41_11 : List AOper := [oM 12 1, oO 13 (.call 62 [(.tmp 12), (kI 1000), (kI 200000)]), oO 14 (.pure (oB (.unOp .not 4 (.tmp 13)) 4)), oM 15 14, oG 16 (.faddr 0 (.tmp 5)) 15 false, oG 17 (.load false 1 (.tmp 16)) 15 false, oG 18 (.call 62 [(.tmp 17), (kI 5000), (kI 80000)]) 15 false, oG 19 (.pure (oB (.unOp .not 4 (.tmp 18)) 4)) 15 false, oO 20 (.pick (.tmp 15) (.const (.bool true)) (.tmp 19)), oM 21 20, oG 22 (.faddr 1 (.tmp 5)) 21 false, oG 23 (.load false 1 (.tmp 22)) 21 false, oG 24 (.call 62 [(.tmp 23), (kI 0), (kI 9999)]) 21 false, oG 25 (.pure (oB (.unOp .not 4 (.tmp 24)) 4)) 21 false, oO 26 (.pick (.tmp 21) (.const (.bool true)) (.tmp 25)), oM 11 26]
def r41_14 : List AOper := [oO 6 (.mv (kI 2))]
def r41_16 : List AOper := [oO 6 (.mv (kI 0))]
def tr41 : List (Nat × Tidy) := [tT 0 [0, 1, 5], tT 1 [1, 5, 7], tT 2 [6], tT 3 [11], tT 4 [6], tT 5 [6]]
def tl41 : List (Nat × Tidy) := []
def rs41 : List AResV := [.tmp 6]
def pr41_0_0 : PT (List RV) := pRs [pR false [rD (dI .i64)]]
def ur41_0_0 {β : Type} (g : List RV → β) : Int → β := pr41_0_0.unc g
def E41_0g (vf67_0 : Tf67_0) (vf62_0 : Tf62_0) : EnvK := EnvK.of [⟨67, nt67, [⟨pa67_0, Fn67_0 vf67_0⟩]⟩, ⟨62, nt62, [⟨pa62_0, Fn62_0 vf62_0⟩]⟩] noSeq
noncomputable def E41_0 : EnvK := E41_0g f67_0 f62_0
theorem eo41_0 : E41_0.Ok Try.prog := EnvK.of_ok noSeq_ok ⟨⟨io67_0, trivial⟩, ⟨io62_0, trivial⟩, trivial⟩
abbrev Tf41_0 : Type 1 := (α : Type) → ByteArray → Int → Int → Int → (Int → Option α) → Option α
def f41_0g (vf62_0 : Tf62_0) (vf67_0 : Tf67_0) (α : Type) (x1 : ByteArray) (x2 x3 x4 : Int) (k1 : Int → Option α) : Option α :=
 vf67_0 α x1
 (fun x5 => cK (!x5)
 (k1 3)
 (vf62_0 α x2 1000 200000
 (fun x6 => cK (!x6)
 (k1 2)
 (vf62_0 α x3 5000 80000
 (fun x7 => cK (!x7)
 (k1 2)
 (vf62_0 α x4 0 9999
 (fun x8 => cK (!x8)
 (k1 2)
 (k1 0))))))))
noncomputable def f41_0 (α : Type) (x1 : ByteArray) (x2 x3 x4 : Int) (k1 : Int → Option α) : Option α := f41_0g f62_0 f67_0 α x1 x2 x3 x4 k1
def pa41_0 : PT (List DV) := pA [pV false [dS], pV false [(dI .i64)], pV true [(dI .i64), (dI .i64)]]
def Fn41_0 (v : Tf41_0) (α : Type) (k : List RV → Option α) : ByteArray → Int → Int → Int → Option α := fun x1 x2 x3 x4 => v α x1 x2 x3 x4 (fun (y1 : Int) => ur41_0_0 k y1)
noncomputable def cm41_0g  : MCode := (.seq (.region r41_2 [] (tO [0, 1, 5])) (.seq (.block 0 (.seq (.region r41_6 [] (tO [1, 5, 7])) (.cond (.tmp 7) (.seq (.region r41_9 [] (tO [6])) .ret) (.seq (.region r41_11 [] (tO [11])) (.cond (.tmp 11) (.seq (.region r41_14 [] (tO [6])) .ret) .skip))))) (.seq (.region r41_16 [] (tO [6])) .ret)))
noncomputable def cm41_0 : MCode := cm41_0g 
theorem gm41_0 : cm41_0.Good Try.prog E41_0 sh41 := ⟨trivial, ⟨⟨trivial, ⟨⟨trivial, trivial⟩, ⟨trivial, ⟨⟨trivial, trivial⟩, trivial⟩⟩⟩⟩, ⟨trivial, trivial⟩⟩⟩
theorem fm41_0g (vf67_0 : Tf67_0) (vf62_0 : Tf62_0)  (α : Type) (k : List RV → Option α) : Fn41_0 (f41_0g vf62_0 vf67_0) α k = pa41_0.unc fun ds => fnM Try.prog (E41_0g vf67_0 vf62_0) sh41 (cm41_0g ) rs41 k ds := by kernel_rfl
theorem fm41_0 : ∀ (α : Type) (k : List RV → Option α), Fn41_0 f41_0 α k = pa41_0.unc fun ds => fnM Try.prog E41_0 sh41 cm41_0 rs41 k ds := fm41_0g f67_0 f62_0
theorem is41 : FnIs Try.prog 41 nt41 tr41 tl41 cm41_0.erase rs41 := ⟨Try.f41, Try.func41, rfl, by kernel_rfl, by kernel_rfl, by kernel_rfl⟩
theorem io41_0 : InstOk Try.prog 41 nt41 ⟨pa41_0, Fn41_0 f41_0⟩ := inst_ok eo41_0 followsTry is41 ⟨⟨sh41, cm41_0, by kernel_rfl, gm41_0, fm41_0⟩⟩
abbrev nt28 : Nat := 84
def sh28 : List (Nat × List Sh) := [(16, [.int .i64, .int .i64, .int .i64, .int .i64, .int .i64, .int .i64]), (31, [.int .i64]), (35, [.int .i64]), (42, [.int .i64]), (46, [.int .i64]), (70, [.int .i64]), (77, [.int .i64]), (82, [.int .i64, .int .i64, .int .i64, .int .i64, .int .i64, .int .i64])]
def r28_2 : List AOper := [oO 3 (.box (.tmp 0)), oO 5 (.box (.tmp 2)), oO 6 (.alloc [(cI 0), (cI 0), (cI 0), (cI 0), (cI 0), (cI 0)]), oO 7 (.mv (kI 0))]
def r28_4 : List AOper := [oO 16 (.load true 6 (.tmp 5)), oO 17 (.call 26 [(.tmp 16)]), oO 8 (.alloc [(cI 0), (cI 0), (cI 0), (cI 0), (cI 0), (cI 0)]), oD (.store 6 (.tmp 8) (.tmp 17))]
def r28_6 : List AOper := [oO 9 (.alloc [(cI 0), (cI 0), (cI 0), (cI 0), (cI 0), (cI 0)])]
def r28_9 : List AOper := [oO 10 (.mv (kI 0))]
def td28_11 : Option Tidy := (tO [1, 3, 6, 8, 9, 10])
def r28_14 : List AOper := [oM 18 10, oO 19 (.bin .lss 3 (.tmp 18) (kI 3))]
def r28_19 : List AOper := [oO 11 (.mv (kI 0)), oO 12 (.mv (kI 0))]
def r28_22 : List AOper := [oO 13 (.mv (kI 0))]
def td28_24 : Option Tidy := (tO [1, 3, 6, 8, 9, 10, 11, 12, 13])
def r28_27 : List AOper := [oM 22 13, oO 23 (.bin .lss 3 (.tmp 22) (kI 3))]
def r28_32 : List AOper := [oM 26 10, oO 27 (.bin .mul 3 (kI 3) (.tmp 26)), oM 28 13, oO 29 (.bin .add 3 (.tmp 27) (.tmp 28)), oO 30 (.iaddr 1 (some 9) (.tmp 3) (.tmp 29)), oO 31 (.load false 1 (.tmp 30)), oM 32 13, oO 33 (.iaddr 2 (some 3) (.tmp 8) (.tmp 32)), oO 34 (.faddr 0 (.tmp 33)), oO 35 (.load false 1 (.tmp 34)), oO 36 (.bin .mul 3 (.tmp 31) (.tmp 35)), oM 37 10, oO 38 (.bin .mul 3 (kI 3) (.tmp 37)), oM 39 13, oO 40 (.bin .add 3 (.tmp 38) (.tmp 39)), oO 41 (.iaddr 1 (some 9) (.tmp 3) (.tmp 40)), oO 42 (.load false 1 (.tmp 41)), oM 43 13, oO 44 (.iaddr 2 (some 3) (.tmp 8) (.tmp 43)), oO 45 (.faddr 1 (.tmp 44)), oO 46 (.load false 1 (.tmp 45)), oO 47 (.bin .mul 3 (.tmp 42) (.tmp 46)), oM 14 36, oM 15 47]
def r28_33 : List AOper := [oM 48 11, oM 49 14, oM 50 15, oO 51 (.pure (oB (.call { callee := .builtin .min, args := #[(.tmp 49), (.tmp 50)], argTypes := #[3, 3] }) 3)), oO 52 (.bin .add 3 (.tmp 48) (.tmp 51)), oM 53 12, oM 54 14, oM 55 15, oO 56 (.pure (oB (.call { callee := .builtin .max, args := #[(.tmp 54), (.tmp 55)], argTypes := #[3, 3] }) 3)), oO 57 (.bin .add 3 (.tmp 53) (.tmp 56)), oM 11 52, oM 12 57]
def r28_34 : List AOper := [oM 24 13, oO 25 (.bin .add 3 (.tmp 24) (kI 1)), oM 13 25]
def r28_36 : List AOper := [oM 58 10, oM 59 11, oM 60 1, oO 61 (.call 59 [(.tmp 59), (.tmp 60)]), oM 62 12, oM 63 1, oO 64 (.call 60 [(.tmp 62), (.tmp 63)]), oO 65 (.build [(cI 0), (cI 0)] [(0, 1, (.tmp 61)), (1, 1, (.tmp 64))]), oO 66 (.iaddr 2 (some 3) (.tmp 9) (.tmp 58)), oD (.store 2 (.tmp 66) (.tmp 65))]
def r28_38 : List AOper := [oM 67 10, oO 68 (.iaddr 2 (some 3) (.tmp 9) (.tmp 67)), oO 69 (.faddr 0 (.tmp 68)), oO 70 (.load false 1 (.tmp 69)), oO 71 (.call 27 [(.tmp 70)]), oO 72 (.pure (oB (.unOp .not 4 (.tmp 71)) 4)), oM 73 72, oG 74 (.mv (.tmp 10)) 73 false, oG 75 (.iaddr 2 (some 3) (.tmp 9) (.tmp 74)) 73 false, oG 76 (.faddr 1 (.tmp 75)) 73 false, oG 77 (.load false 1 (.tmp 76)) 73 false, oG 78 (.call 27 [(.tmp 77)]) 73 false, oG 79 (.pure (oB (.unOp .not 4 (.tmp 78)) 4)) 73 false, oO 80 (.pick (.tmp 73) (.const (.bool true)) (.tmp 79))]
def r28_41 : List AOper := [oO 81 (.build [(cI 0), (cI 0), (cI 0), (cI 0), (cI 0), (cI 0)] []), oD (.store 6 (.tmp 6) (.tmp 81)), oO 7 (.mv (kI 8))]
def r28_42 : List AOper := [oM 20 10, oO 21 (.bin .add 3 (.tmp 20) (kI 1)), oM 10 21]
def r28_44 : List AOper := [oO 82 (.load true 6 (.tmp 9)), oO 83 (.call 61 [(.tmp 82)]), oD (.store 6 (.tmp 6) (.tmp 83)), oO 7 (.mv (kI 0))]
def tr28 : List (Nat × Tidy) := [tT 0 [1, 3, 5, 6], tT 1 [1, 3, 6, 8], tT 2 [1, 3, 6, 8, 9], tT 3 [1, 3, 6, 8, 9, 10], tT 4 [1, 3, 6, 8, 9, 10, 19], tT 6 [1, 3, 6, 8, 9, 10, 11, 12], tT 7 [1, 3, 6, 8, 9, 10, 11, 12, 13], tT 8 [1, 3, 6, 8, 9, 10, 11, 12, 13, 23], tT 10 [1, 3, 6, 8, 9, 10, 11, 12, 13, 14, 15], tT 11 [1, 3, 6, 8, 9, 10, 11, 12, 13], tT 9 [1, 3, 6, 8, 9, 10, 11, 12, 13], tT 12 [1, 3, 6, 8, 9, 10], tT 13 [1, 3, 6, 8, 9, 10, 80], tT 14 [6, 7], tT 5 [1, 3, 6, 8, 9, 10], tT 15 [6, 7]]
def tl28 : List (Nat × Tidy) := [tT 4 [1, 3, 6, 8, 9, 10], tT 8 [1, 3, 6, 8, 9, 10, 11, 12, 13]]
def rs28 : List AResV := [.cell 6 true 6, .tmp 7]
def pr28_0_0 : PT (List RV) := pRs [pR true [rD (dI .i64), rD (dI .i64), rD (dI .i64), rD (dI .i64), rD (dI .i64), rD (dI .i64)], pR false [rD (dI .i64)]]
def ur28_0_0 {β : Type} (g : List RV → β) : Int → Int → Int → Int → Int → Int → Int → β := pr28_0_0.unc g
def E28_0g (vf26_0 : Tf26_0) (vf59_0 : Tf59_0) (vf60_0 : Tf60_0) (vf27_0 : Tf27_0) (vf61_0 : Tf61_0) : EnvK := EnvK.of [⟨26, nt26, [⟨pa26_0, Fn26_0 vf26_0⟩]⟩, ⟨59, nt59, [⟨pa59_0, Fn59_0 vf59_0⟩]⟩, ⟨60, nt60, [⟨pa60_0, Fn60_0 vf60_0⟩]⟩, ⟨27, nt27, [⟨pa27_0, Fn27_0 vf27_0⟩]⟩, ⟨61, nt61, [⟨pa61_0, Fn61_0 vf61_0⟩]⟩] noSeq
noncomputable def E28_0 : EnvK := E28_0g f26_0 f59_0 f60_0 f27_0 f61_0
theorem eo28_0 : E28_0.Ok Try.prog := EnvK.of_ok noSeq_ok ⟨⟨io26_0, trivial⟩, ⟨io59_0, trivial⟩, ⟨io60_0, trivial⟩, ⟨io27_0, trivial⟩, ⟨io61_0, trivial⟩, trivial⟩
abbrev Tf28_0 : Type 1 := (α : Type) → Int → Int → Int → Int → Int → Int → Int → Int → Int → Int → Int → Int → Int → Int → Int → Int → (Int → Int → Int → Int → Int → Int → Int → Option α) → Option α
def f28_0g (vf26_0 : Tf26_0) (vf27_0 : Tf27_0) (vf59_0 : Tf59_0) (vf60_0 : Tf60_0) (vf61_0 : Tf61_0) (α : Type) (x1 x2 x3 x4 x5 x6 x7 x8 x9 x10 x11 x12 x13 x14 x15 x16 : Int) (k1 : Int → Int → Int → Int → Int → Int → Int → Option α) : Option α :=
 vf26_0 α x11 x12 x13 x14 x15 x16
 (fun x17 x18 x19 x20 x21 x22 => vf59_0 α (w64 ((w64 ((w64 (0 + (if (w64 (x1 * x18)) < (w64 (x1 * x17)) then (w64 (x1 * x18)) else (w64 (x1 * x17))))) + (if (w64 (x2 * x20)) < (w64 (x2 * x19)) then (w64 (x2 * x20)) else (w64 (x2 * x19))))) + (if (w64 (x3 * x22)) < (w64 (x3 * x21)) then (w64 (x3 * x22)) else (w64 (x3 * x21))))) x10
 (fun x23 => vf60_0 α (w64 ((w64 ((w64 (0 + (if (w64 (x1 * x18)) > (w64 (x1 * x17)) then (w64 (x1 * x18)) else (w64 (x1 * x17))))) + (if (w64 (x2 * x20)) > (w64 (x2 * x19)) then (w64 (x2 * x20)) else (w64 (x2 * x19))))) + (if (w64 (x3 * x22)) > (w64 (x3 * x21)) then (w64 (x3 * x22)) else (w64 (x3 * x21))))) x10
 (fun x24 => vf27_0 α x23
 (fun x25 => cK (!x25)
 (k1 0 0 0 0 0 0 8)
 (vf27_0 α x24
 (fun x26 => cK (!x26)
 (k1 0 0 0 0 0 0 8)
 (vf59_0 α (w64 ((w64 ((w64 (0 + (if (w64 (x4 * x18)) < (w64 (x4 * x17)) then (w64 (x4 * x18)) else (w64 (x4 * x17))))) + (if (w64 (x5 * x20)) < (w64 (x5 * x19)) then (w64 (x5 * x20)) else (w64 (x5 * x19))))) + (if (w64 (x6 * x22)) < (w64 (x6 * x21)) then (w64 (x6 * x22)) else (w64 (x6 * x21))))) x10
 (fun x27 => vf60_0 α (w64 ((w64 ((w64 (0 + (if (w64 (x4 * x18)) > (w64 (x4 * x17)) then (w64 (x4 * x18)) else (w64 (x4 * x17))))) + (if (w64 (x5 * x20)) > (w64 (x5 * x19)) then (w64 (x5 * x20)) else (w64 (x5 * x19))))) + (if (w64 (x6 * x22)) > (w64 (x6 * x21)) then (w64 (x6 * x22)) else (w64 (x6 * x21))))) x10
 (fun x28 => vf27_0 α x27
 (fun x29 => cK (!x29)
 (k1 0 0 0 0 0 0 8)
 (vf27_0 α x28
 (fun x30 => cK (!x30)
 (k1 0 0 0 0 0 0 8)
 (vf59_0 α (w64 ((w64 ((w64 (0 + (if (w64 (x7 * x18)) < (w64 (x7 * x17)) then (w64 (x7 * x18)) else (w64 (x7 * x17))))) + (if (w64 (x8 * x20)) < (w64 (x8 * x19)) then (w64 (x8 * x20)) else (w64 (x8 * x19))))) + (if (w64 (x9 * x22)) < (w64 (x9 * x21)) then (w64 (x9 * x22)) else (w64 (x9 * x21))))) x10
 (fun x31 => vf60_0 α (w64 ((w64 ((w64 (0 + (if (w64 (x7 * x18)) > (w64 (x7 * x17)) then (w64 (x7 * x18)) else (w64 (x7 * x17))))) + (if (w64 (x8 * x20)) > (w64 (x8 * x19)) then (w64 (x8 * x20)) else (w64 (x8 * x19))))) + (if (w64 (x9 * x22)) > (w64 (x9 * x21)) then (w64 (x9 * x22)) else (w64 (x9 * x21))))) x10
 (fun x32 => vf27_0 α x31
 (fun x33 => cK (!x33)
 (k1 0 0 0 0 0 0 8)
 (vf27_0 α x32
 (fun x34 => cK (!x34)
 (k1 0 0 0 0 0 0 8)
 (vf61_0 α x23 x24 x27 x28 x31 x32
 (fun x35 x36 x37 x38 x39 x40 => k1 x35 x36 x37 x38 x39 x40 0))))))))))))))))))))
noncomputable def f28_0 (α : Type) (x1 x2 x3 x4 x5 x6 x7 x8 x9 x10 x11 x12 x13 x14 x15 x16 : Int) (k1 : Int → Int → Int → Int → Int → Int → Int → Option α) : Option α := f28_0g f26_0 f27_0 f59_0 f60_0 f61_0 α x1 x2 x3 x4 x5 x6 x7 x8 x9 x10 x11 x12 x13 x14 x15 x16 k1
def pa28_0 : PT (List DV) := pA [pV true [(dI .i64), (dI .i64), (dI .i64), (dI .i64), (dI .i64), (dI .i64), (dI .i64), (dI .i64), (dI .i64)], pV false [(dI .i64)], pV true [(dI .i64), (dI .i64), (dI .i64), (dI .i64), (dI .i64), (dI .i64)]]
def Fn28_0 (v : Tf28_0) (α : Type) (k : List RV → Option α) : Int → Int → Int → Int → Int → Int → Int → Int → Int → Int → Int → Int → Int → Int → Int → Int → Option α := fun x1 x2 x3 x4 x5 x6 x7 x8 x9 x10 x11 x12 x13 x14 x15 x16 => v α x1 x2 x3 x4 x5 x6 x7 x8 x9 x10 x11 x12 x13 x14 x15 x16 (fun (y1 : Int) (y2 : Int) (y3 : Int) (y4 : Int) (y5 : Int) (y6 : Int) (y7 : Int) => ur28_0_0 k y1 y2 y3 y4 y5 y6 y7)
noncomputable def cm28_0g  : MCode := (.seq (.region r28_2 [] (tO [1, 3, 5, 6])) (.seq (.region r28_4 [] (tO [1, 3, 6, 8])) (.seq (.region r28_6 [] (tO [1, 3, 6, 8, 9])) (.seq (.seq (.region r28_9 [] (tO [1, 3, 6, 8, 9, 10])) (.block 0 (.loopU 4 td28_11 (.seq (.seq (.region r28_14 [] (tO [1, 3, 6, 8, 9, 10, 19])) (.cond (.tmp 19) .skip (.exit 0))) (.seq (.block 1 (.seq (.region r28_19 [] (tO [1, 3, 6, 8, 9, 10, 11, 12])) (.seq (.seq (.region r28_22 [] (tO [1, 3, 6, 8, 9, 10, 11, 12, 13])) (.block 2 (.loopU 4 td28_24 (.seq (.seq (.region r28_27 [] (tO [1, 3, 6, 8, 9, 10, 11, 12, 13, 23])) (.cond (.tmp 23) .skip (.exit 2))) (.seq (.block 3 (.seq (.region r28_32 [] (tO [1, 3, 6, 8, 9, 10, 11, 12, 13, 14, 15])) (.region r28_33 [] (tO [1, 3, 6, 8, 9, 10, 11, 12, 13])))) (.region r28_34 [] (tO [1, 3, 6, 8, 9, 10, 11, 12, 13]))))))) (.seq (.region r28_36 [] (tO [1, 3, 6, 8, 9, 10])) (.seq (.region r28_38 [] (tO [1, 3, 6, 8, 9, 10, 80])) (.cond (.tmp 80) (.seq (.region r28_41 [] (tO [6, 7])) .ret) .skip)))))) (.region r28_42 [] (tO [1, 3, 6, 8, 9, 10]))))))) (.seq (.region r28_44 [] (tO [6, 7])) .ret)))))
noncomputable def cm28_0 : MCode := cm28_0g 
theorem gm28_0 : cm28_0.Good Try.prog E28_0 sh28 := ⟨trivial, ⟨trivial, ⟨trivial, ⟨⟨trivial, ⟨⟨⟨trivial, ⟨trivial, trivial⟩⟩, ⟨⟨trivial, ⟨⟨trivial, ⟨⟨⟨trivial, ⟨trivial, trivial⟩⟩, ⟨⟨trivial, trivial⟩, trivial⟩⟩, by decide⟩⟩, ⟨trivial, ⟨trivial, ⟨⟨trivial, trivial⟩, trivial⟩⟩⟩⟩⟩, trivial⟩⟩, by decide⟩⟩, ⟨trivial, trivial⟩⟩⟩⟩⟩
theorem fm28_0g (vf26_0 : Tf26_0) (vf59_0 : Tf59_0) (vf60_0 : Tf60_0) (vf27_0 : Tf27_0) (vf61_0 : Tf61_0)  (α : Type) (k : List RV → Option α) : Fn28_0 (f28_0g vf26_0 vf27_0 vf59_0 vf60_0 vf61_0) α k = pa28_0.unc fun ds => fnM Try.prog (E28_0g vf26_0 vf59_0 vf60_0 vf27_0 vf61_0) sh28 (cm28_0g ) rs28 k ds := by kernel_rfl
theorem fm28_0 : ∀ (α : Type) (k : List RV → Option α), Fn28_0 f28_0 α k = pa28_0.unc fun ds => fnM Try.prog E28_0 sh28 cm28_0 rs28 k ds := fm28_0g f26_0 f59_0 f60_0 f27_0 f61_0
theorem is28 : FnIs Try.prog 28 nt28 tr28 tl28 cm28_0.erase rs28 := ⟨Try.f28, Try.func28, rfl, by kernel_rfl, by kernel_rfl, by kernel_rfl⟩
theorem io28_0 : InstOk Try.prog 28 nt28 ⟨pa28_0, Fn28_0 f28_0⟩ := inst_ok eo28_0 followsTry is28 ⟨⟨sh28, cm28_0, by kernel_rfl, gm28_0, fm28_0⟩⟩
abbrev nt23 : Nat := 88
def sh23 : List (Nat × List Sh) := [(20, [.int .i64, .int .i64, .int .i64, .int .i64, .int .i64, .int .i64]), (31, [.int .i64]), (35, [.int .i64]), (37, [.int .i64]), (42, [.int .i64]), (48, [.int .i64]), (68, [.int .i64]), (75, [.int .i64]), (82, [.int .i64, .int .i64]), (84, [.int .i64, .int .i64]), (86, [.int .i64, .int .i64])]
def r23_2 : List AOper := [oO 4 (.box (.tmp 0)), oO 5 (.box (.tmp 1)), oO 8 (.alloc [(cI 0), (cI 0), (cI 0), (cI 0), (cI 0), (cI 0)]), oO 9 (.mv (kI 0))]
def r23_4 : List AOper := [oO 10 (.alloc [(cI 0), (cI 0), (cI 0), (cI 0), (cI 0), (cI 0)])]
def r23_7 : List AOper := [oO 17 (.mv (kI 0))]
def td23_9 : Option Tidy := (tO [2, 3, 4, 5, 8, 10, 17])
def r23_11 : List AOper := [oO 18 (.bin .lss 3 (.tmp 17) (kI 3))]
def r23_17 : List AOper := [oM 19 17, oM 11 19]
def r23_19 : List AOper := [oO 12 (.mv (kI 0)), oO 13 (.mv (kI 0))]
def r23_22 : List AOper := [oO 20 (.load true 6 (.tmp 5)), oO 21 (.call 57 [(.tmp 20)]), oO 22 (.mv (kI 0))]
def td23_24 : Option Tidy := (tO [2, 3, 4, 5, 8, 10, 11, 12, 13, 17, 21, 22])
def r23_26 : List AOper := [oO 23 (.bin .lss 3 (.tmp 22) (kI 3))]
def r23_32 : List AOper := [oM 24 22, oO 25 (.index true 3 2 (.tmp 21) (.tmp 22)), oO 15 (.alloc [(cI 0), (cI 0)]), oM 14 24, oD (.store 2 (.tmp 15) (.tmp 25))]
def r23_34 : List AOper := [oM 26 11, oO 27 (.bin .mul 3 (kI 3) (.tmp 26)), oM 28 14, oO 29 (.bin .add 3 (.tmp 27) (.tmp 28)), oO 30 (.iaddr 1 (some 9) (.tmp 4) (.tmp 29)), oO 31 (.load false 1 (.tmp 30)), oM 16 31]
def r23_37 : List AOper := [oM 32 16, oO 33 (.bin .lss 3 (.tmp 32) (kI 0))]
def r23_39 : List AOper := [oO 34 (.faddr 1 (.tmp 15)), oO 35 (.load false 1 (.tmp 34)), oO 36 (.faddr 0 (.tmp 15)), oO 37 (.load false 1 (.tmp 36)), oO 38 (.build [(cI 0), (cI 0)] [(0, 1, (.tmp 35)), (1, 1, (.tmp 37))]), oD (.store 2 (.tmp 15) (.tmp 38))]
def r23_40 : List AOper := [oM 39 12, oM 40 16, oO 41 (.faddr 0 (.tmp 15)), oO 42 (.load false 1 (.tmp 41)), oO 43 (.bin .mul 3 (.tmp 40) (.tmp 42)), oO 44 (.bin .add 3 (.tmp 39) (.tmp 43)), oM 45 13, oM 46 16, oO 47 (.faddr 1 (.tmp 15)), oO 48 (.load false 1 (.tmp 47)), oO 49 (.bin .mul 3 (.tmp 46) (.tmp 48)), oO 50 (.bin .add 3 (.tmp 45) (.tmp 49)), oM 12 44, oM 13 50]
def r23_41 : List AOper := [oO 51 (.bin .add 3 (.tmp 22) (kI 1)), oM 22 51]
def r23_43 : List AOper := [oM 52 11, oM 53 12, oM 54 2, oO 55 (.bin .mul 3 (.tmp 53) (.tmp 54)), oM 56 3, oO 57 (.call 48 [(.tmp 55), (.tmp 56)]), oM 58 13, oM 59 2, oO 60 (.bin .mul 3 (.tmp 58) (.tmp 59)), oM 61 3, oO 62 (.call 49 [(.tmp 60), (.tmp 61)]), oO 63 (.build [(cI 0), (cI 0)] [(0, 1, (.tmp 57)), (1, 1, (.tmp 62))]), oO 64 (.iaddr 2 (some 3) (.tmp 10) (.tmp 52)), oD (.store 2 (.tmp 64) (.tmp 63))]
def r23_45 : List AOper := [oM 65 11, oO 66 (.iaddr 2 (some 3) (.tmp 10) (.tmp 65)), oO 67 (.faddr 0 (.tmp 66)), oO 68 (.load false 1 (.tmp 67)), oO 69 (.call 58 [(.tmp 68), (kI 10000000)]), oO 70 (.pure (oB (.unOp .not 4 (.tmp 69)) 4)), oM 71 70, oG 72 (.mv (.tmp 11)) 71 false, oG 73 (.iaddr 2 (some 3) (.tmp 10) (.tmp 72)) 71 false, oG 74 (.faddr 1 (.tmp 73)) 71 false, oG 75 (.load false 1 (.tmp 74)) 71 false, oG 76 (.call 58 [(.tmp 75), (kI 10000000)]) 71 false, oG 77 (.pure (oB (.unOp .not 4 (.tmp 76)) 4)) 71 false, oO 78 (.pick (.tmp 71) (.const (.bool true)) (.tmp 77))]
def r23_48 : List AOper := [oO 79 (.build [(cI 0), (cI 0), (cI 0), (cI 0), (cI 0), (cI 0)] []), oD (.store 6 (.tmp 8) (.tmp 79)), oO 9 (.mv (kI 8))]
def r23_49 : List AOper := [oO 80 (.bin .add 3 (.tmp 17) (kI 1)), oM 17 80]
def r23_51 : List AOper := [oO 81 (.iaddr 2 (some 3) (.tmp 10) (kI 0)), oO 82 (.load true 2 (.tmp 81)), oO 83 (.iaddr 2 (some 3) (.tmp 10) (kI 1)), oO 84 (.load true 2 (.tmp 83)), oO 85 (.iaddr 2 (some 3) (.tmp 10) (kI 2)), oO 86 (.load true 2 (.tmp 85)), oO 87 (.build [(cI 0), (cI 0), (cI 0), (cI 0), (cI 0), (cI 0)] [(0, 2, (.tmp 82)), (2, 2, (.tmp 84)), (4, 2, (.tmp 86))]), oD (.store 6 (.tmp 8) (.tmp 87)), oO 9 (.mv (kI 0))]
def tr23 : List (Nat × Tidy) := [tT 0 [2, 3, 4, 5, 8], tT 1 [2, 3, 4, 5, 8, 10], tT 2 [2, 3, 4, 5, 8, 10, 17], tT 3 [2, 3, 4, 5, 8, 10, 17, 18], tT 4 [2, 3, 4, 5, 8, 10, 11, 17], tT 5 [2, 3, 4, 5, 8, 10, 11, 12, 13, 17], tT 6 [2, 3, 4, 5, 8, 10, 11, 12, 13, 17, 21, 22], tT 7 [2, 3, 4, 5, 8, 10, 11, 12, 13, 17, 21, 22, 23], tT 8 [2, 3, 4, 5, 8, 10, 11, 12, 13, 14, 15, 17, 21, 22], tT 9 [2, 3, 4, 5, 8, 10, 11, 12, 13, 15, 16, 17, 21, 22], tT 10 [2, 3, 4, 5, 8, 10, 11, 12, 13, 15, 16, 17, 21, 22, 33], tT 11 [2, 3, 4, 5, 8, 10, 11, 12, 13, 15, 16, 17, 21, 22], tT 12 [2, 3, 4, 5, 8, 10, 11, 12, 13, 17, 21, 22], tT 13 [2, 3, 4, 5, 8, 10, 11, 12, 13, 17, 21, 22], tT 14 [2, 3, 4, 5, 8, 10, 11, 17], tT 15 [2, 3, 4, 5, 8, 10, 17, 78], tT 16 [8, 9], tT 17 [2, 3, 4, 5, 8, 10, 17], tT 18 [8, 9]]
def tl23 : List (Nat × Tidy) := [tT 3 [2, 3, 4, 5, 8, 10, 17], tT 7 [2, 3, 4, 5, 8, 10, 11, 12, 13, 17, 21, 22]]
def rs23 : List AResV := [.cell 8 true 6, .tmp 9]
def p23_0_0 : PT St := pS [sl 2 (aV false [(cD (dI .i64))]), sl 3 (aV false [(cD (dI .i64))]), sl 4 (aV false [(cPtr 4 0)]), sl 5 (aV false [(cPtr 5 0)]), sl 8 (aV false [(cPtr 8 0)]), sl 10 (aV false [(cPtr 10 0)]), sl 11 (aV false [(cD (dIc .i64 0))]), sl 12 (aV false [(cD (dI .i64))]), sl 13 (aV false [(cD (dI .i64))]), sl 15 (aV false [(cPtr 15 0)]), sl 16 (aV false [(cD (dI .i64))]), sl 17 (aV false [(cD (dIc .i64 0))]), sl 21 (aV true [(cD (dI .i64)), (cD (dI .i64)), (cD (dI .i64)), (cD (dI .i64)), (cD (dI .i64)), (cD (dI .i64))]), sl 22 (aV false [(cD (dIc .i64 0))])] [eBox 4 [(cD (dI .i64)), (cD (dI .i64)), (cD (dI .i64)), (cD (dI .i64)), (cD (dI .i64)), (cD (dI .i64)), (cD (dI .i64)), (cD (dI .i64)), (cD (dI .i64))], eBox 5 [(cD (dI .i64)), (cD (dI .i64)), (cD (dI .i64)), (cD (dI .i64)), (cD (dI .i64)), (cD (dI .i64))], eBox 8 [(cD (dI .i64)), (cD (dI .i64)), (cD (dI .i64)), (cD (dI .i64)), (cD (dI .i64)), (cD (dI .i64))], eBox 10 [(cD (dI .i64)), (cD (dI .i64)), (cD (dI .i64)), (cD (dI .i64)), (cD (dI .i64)), (cD (dI .i64))], eBox 15 [(cD (dI .i64)), (cD (dI .i64))]]
def u23_0_0 {β : Type} (g : St → β) : Int → Int → Int → Int → Int → Int → Int → Int → Int → Int → Int → Int → Int → Int → Int → Int → Int → Int → Int → Int → Int → Int → Int → Int → Int → Int → Int → Int → Int → Int → Int → Int → Int → Int → Int → Int → Int → Int → Int → Int → β := p23_0_0.unc g
def p23_0_1 : PT St := pS [sl 2 (aV false [(cD (dI .i64))]), sl 3 (aV false [(cD (dI .i64))]), sl 4 (aV false [(cPtr 4 0)]), sl 5 (aV false [(cPtr 5 0)]), sl 8 (aV false [(cPtr 8 0)]), sl 10 (aV false [(cPtr 10 0)]), sl 11 (aV false [(cD (dIc .i64 0))]), sl 12 (aV false [(cD (dI .i64))]), sl 13 (aV false [(cD (dI .i64))]), sl 15 (aV false [(cPtr 15 0)]), sl 16 (aV false [(cD (dI .i64))]), sl 17 (aV false [(cD (dIc .i64 0))]), sl 21 (aV true [(cD (dI .i64)), (cD (dI .i64)), (cD (dI .i64)), (cD (dI .i64)), (cD (dI .i64)), (cD (dI .i64))]), sl 22 (aV false [(cD (dIc .i64 0))]), sl 33 (aV false [(cD dB)])] [eBox 4 [(cD (dI .i64)), (cD (dI .i64)), (cD (dI .i64)), (cD (dI .i64)), (cD (dI .i64)), (cD (dI .i64)), (cD (dI .i64)), (cD (dI .i64)), (cD (dI .i64))], eBox 5 [(cD (dI .i64)), (cD (dI .i64)), (cD (dI .i64)), (cD (dI .i64)), (cD (dI .i64)), (cD (dI .i64))], eBox 8 [(cD (dI .i64)), (cD (dI .i64)), (cD (dI .i64)), (cD (dI .i64)), (cD (dI .i64)), (cD (dI .i64))], eBox 10 [(cD (dI .i64)), (cD (dI .i64)), (cD (dI .i64)), (cD (dI .i64)), (cD (dI .i64)), (cD (dI .i64))], eBox 15 [(cD (dI .i64)), (cD (dI .i64))]]
def u23_0_1 {β : Type} (g : St → β) : Int → Int → Int → Int → Int → Int → Int → Int → Int → Int → Int → Bool → Int → Int → Int → Int → Int → Int → Int → Int → Int → Int → Int → Int → Int → Int → Int → Int → Int → Int → Int → Int → Int → Int → Int → Int → Int → Int → Int → Int → Int → β := p23_0_1.unc g
def p23_0_2 : PT St := pS [sl 2 (aV false [(cD (dI .i64))]), sl 3 (aV false [(cD (dI .i64))]), sl 4 (aV false [(cPtr 4 0)]), sl 5 (aV false [(cPtr 5 0)]), sl 8 (aV false [(cPtr 8 0)]), sl 10 (aV false [(cPtr 10 0)]), sl 11 (aV false [(cD (dIc .i64 0))]), sl 12 (aV false [(cD (dI .i64))]), sl 13 (aV false [(cD (dI .i64))]), sl 17 (aV false [(cD (dIc .i64 0))]), sl 21 (aV true [(cD (dI .i64)), (cD (dI .i64)), (cD (dI .i64)), (cD (dI .i64)), (cD (dI .i64)), (cD (dI .i64))]), sl 22 (aV false [(cD (dIc .i64 0))])] [eBox 4 [(cD (dI .i64)), (cD (dI .i64)), (cD (dI .i64)), (cD (dI .i64)), (cD (dI .i64)), (cD (dI .i64)), (cD (dI .i64)), (cD (dI .i64)), (cD (dI .i64))], eBox 5 [(cD (dI .i64)), (cD (dI .i64)), (cD (dI .i64)), (cD (dI .i64)), (cD (dI .i64)), (cD (dI .i64))], eBox 8 [(cD (dI .i64)), (cD (dI .i64)), (cD (dI .i64)), (cD (dI .i64)), (cD (dI .i64)), (cD (dI .i64))], eBox 10 [(cD (dI .i64)), (cD (dI .i64)), (cD (dI .i64)), (cD (dI .i64)), (cD (dI .i64)), (cD (dI .i64))]]
def u23_0_2 {β : Type} (g : St → β) : Int → Int → Int → Int → Int → Int → Int → Int → Int → Int → Int → Int → Int → Int → Int → Int → Int → Int → Int → Int → Int → Int → Int → Int → Int → Int → Int → Int → Int → Int → Int → Int → Int → Int → Int → Int → Int → β := p23_0_2.unc g
def p23_0_3 : PT St := pS [sl 2 (aV false [(cD (dI .i64))]), sl 3 (aV false [(cD (dI .i64))]), sl 4 (aV false [(cPtr 4 0)]), sl 5 (aV false [(cPtr 5 0)]), sl 8 (aV false [(cPtr 8 0)]), sl 10 (aV false [(cPtr 10 0)]), sl 11 (aV false [(cD (dIc .i64 0))]), sl 12 (aV false [(cD (dI .i64))]), sl 13 (aV false [(cD (dI .i64))]), sl 17 (aV false [(cD (dIc .i64 0))]), sl 21 (aV true [(cD (dI .i64)), (cD (dI .i64)), (cD (dI .i64)), (cD (dI .i64)), (cD (dI .i64)), (cD (dI .i64))]), sl 22 (aV false [(cD (dIc .i64 1))])] [eBox 4 [(cD (dI .i64)), (cD (dI .i64)), (cD (dI .i64)), (cD (dI .i64)), (cD (dI .i64)), (cD (dI .i64)), (cD (dI .i64)), (cD (dI .i64)), (cD (dI .i64))], eBox 5 [(cD (dI .i64)), (cD (dI .i64)), (cD (dI .i64)), (cD (dI .i64)), (cD (dI .i64)), (cD (dI .i64))], eBox 8 [(cD (dI .i64)), (cD (dI .i64)), (cD (dI .i64)), (cD (dI .i64)), (cD (dI .i64)), (cD (dI .i64))], eBox 10 [(cD (dI .i64)), (cD (dI .i64)), (cD (dI .i64)), (cD (dI .i64)), (cD (dI .i64)), (cD (dI .i64))]]
def u23_0_3 {β : Type} (g : St → β) : Int → Int → Int → Int → Int → Int → Int → Int → Int → Int → Int → Int → Int → Int → Int → Int → Int → Int → Int → Int → Int → Int → Int → Int → Int → Int → Int → Int → Int → Int → Int → Int → Int → Int → Int → Int → Int → β := p23_0_3.unc g
def p23_0_4 : PT St := pS [sl 2 (aV false [(cD (dI .i64))]), sl 3 (aV false [(cD (dI .i64))]), sl 4 (aV false [(cPtr 4 0)]), sl 5 (aV false [(cPtr 5 0)]), sl 8 (aV false [(cPtr 8 0)]), sl 10 (aV false [(cPtr 10 0)]), sl 11 (aV false [(cD (dIc .i64 0))]), sl 12 (aV false [(cD (dI .i64))]), sl 13 (aV false [(cD (dI .i64))]), sl 15 (aV false [(cPtr 15 0)]), sl 16 (aV false [(cD (dI .i64))]), sl 17 (aV false [(cD (dIc .i64 0))]), sl 21 (aV true [(cD (dI .i64)), (cD (dI .i64)), (cD (dI .i64)), (cD (dI .i64)), (cD (dI .i64)), (cD (dI .i64))]), sl 22 (aV false [(cD (dIc .i64 1))])] [eBox 4 [(cD (dI .i64)), (cD (dI .i64)), (cD (dI .i64)), (cD (dI .i64)), (cD (dI .i64)), (cD (dI .i64)), (cD (dI .i64)), (cD (dI .i64)), (cD (dI .i64))], eBox 5 [(cD (dI .i64)), (cD (dI .i64)), (cD (dI .i64)), (cD (dI .i64)), (cD (dI .i64)), (cD (dI .i64))], eBox 8 [(cD (dI .i64)), (cD (dI .i64)), (cD (dI .i64)), (cD (dI .i64)), (cD (dI .i64)), (cD (dI .i64))], eBox 10 [(cD (dI .i64)), (cD (dI .i64)), (cD (dI .i64)), (cD (dI .i64)), (cD (dI .i64)), (cD (dI .i64))], eBox 15 [(cD (dI .i64)), (cD (dI .i64))]]
def u23_0_4 {β : Type} (g : St → β) : Int → Int → Int → Int → Int → Int → Int → Int → Int → Int → Int → Int → Int → Int → Int → Int → Int → Int → Int → Int → Int → Int → Int → Int → Int → Int → Int → Int → Int → Int → Int → Int → Int → Int → Int → Int → Int → Int → Int → Int → β := p23_0_4.unc g
def p23_0_5 : PT St := pS [sl 2 (aV false [(cD (dI .i64))]), sl 3 (aV false [(cD (dI .i64))]), sl 4 (aV false [(cPtr 4 0)]), sl 5 (aV false [(cPtr 5 0)]), sl 8 (aV false [(cPtr 8 0)]), sl 10 (aV false [(cPtr 10 0)]), sl 11 (aV false [(cD (dIc .i64 0))]), sl 12 (aV false [(cD (dI .i64))]), sl 13 (aV false [(cD (dI .i64))]), sl 15 (aV false [(cPtr 15 0)]), sl 16 (aV false [(cD (dI .i64))]), sl 17 (aV false [(cD (dIc .i64 0))]), sl 21 (aV true [(cD (dI .i64)), (cD (dI .i64)), (cD (dI .i64)), (cD (dI .i64)), (cD (dI .i64)), (cD (dI .i64))]), sl 22 (aV false [(cD (dIc .i64 1))]), sl 33 (aV false [(cD dB)])] [eBox 4 [(cD (dI .i64)), (cD (dI .i64)), (cD (dI .i64)), (cD (dI .i64)), (cD (dI .i64)), (cD (dI .i64)), (cD (dI .i64)), (cD (dI .i64)), (cD (dI .i64))], eBox 5 [(cD (dI .i64)), (cD (dI .i64)), (cD (dI .i64)), (cD (dI .i64)), (cD (dI .i64)), (cD (dI .i64))], eBox 8 [(cD (dI .i64)), (cD (dI .i64)), (cD (dI .i64)), (cD (dI .i64)), (cD (dI .i64)), (cD (dI .i64))], eBox 10 [(cD (dI .i64)), (cD (dI .i64)), (cD (dI .i64)), (cD (dI .i64)), (cD (dI .i64)), (cD (dI .i64))], eBox 15 [(cD (dI .i64)), (cD (dI .i64))]]
def u23_0_5 {β : Type} (g : St → β) : Int → Int → Int → Int → Int → Int → Int → Int → Int → Int → Int → Bool → Int → Int → Int → Int → Int → Int → Int → Int → Int → Int → Int → Int → Int → Int → Int → Int → Int → Int → Int → Int → Int → Int → Int → Int → Int → Int → Int → Int → Int → β := p23_0_5.unc g
def p23_0_6 : PT St := pS [sl 2 (aV false [(cD (dI .i64))]), sl 3 (aV false [(cD (dI .i64))]), sl 4 (aV false [(cPtr 4 0)]), sl 5 (aV false [(cPtr 5 0)]), sl 8 (aV false [(cPtr 8 0)]), sl 10 (aV false [(cPtr 10 0)]), sl 11 (aV false [(cD (dIc .i64 0))]), sl 12 (aV false [(cD (dI .i64))]), sl 13 (aV false [(cD (dI .i64))]), sl 17 (aV false [(cD (dIc .i64 0))]), sl 21 (aV true [(cD (dI .i64)), (cD (dI .i64)), (cD (dI .i64)), (cD (dI .i64)), (cD (dI .i64)), (cD (dI .i64))]), sl 22 (aV false [(cD (dIc .i64 2))])] [eBox 4 [(cD (dI .i64)), (cD (dI .i64)), (cD (dI .i64)), (cD (dI .i64)), (cD (dI .i64)), (cD (dI .i64)), (cD (dI .i64)), (cD (dI .i64)), (cD (dI .i64))], eBox 5 [(cD (dI .i64)), (cD (dI .i64)), (cD (dI .i64)), (cD (dI .i64)), (cD (dI .i64)), (cD (dI .i64))], eBox 8 [(cD (dI .i64)), (cD (dI .i64)), (cD (dI .i64)), (cD (dI .i64)), (cD (dI .i64)), (cD (dI .i64))], eBox 10 [(cD (dI .i64)), (cD (dI .i64)), (cD (dI .i64)), (cD (dI .i64)), (cD (dI .i64)), (cD (dI .i64))]]
def u23_0_6 {β : Type} (g : St → β) : Int → Int → Int → Int → Int → Int → Int → Int → Int → Int → Int → Int → Int → Int → Int → Int → Int → Int → Int → Int → Int → Int → Int → Int → Int → Int → Int → Int → Int → Int → Int → Int → Int → Int → Int → Int → Int → β := p23_0_6.unc g
def p23_0_7 : PT St := pS [sl 2 (aV false [(cD (dI .i64))]), sl 3 (aV false [(cD (dI .i64))]), sl 4 (aV false [(cPtr 4 0)]), sl 5 (aV false [(cPtr 5 0)]), sl 8 (aV false [(cPtr 8 0)]), sl 10 (aV false [(cPtr 10 0)]), sl 11 (aV false [(cD (dIc .i64 0))]), sl 12 (aV false [(cD (dI .i64))]), sl 13 (aV false [(cD (dI .i64))]), sl 15 (aV false [(cPtr 15 0)]), sl 16 (aV false [(cD (dI .i64))]), sl 17 (aV false [(cD (dIc .i64 0))]), sl 21 (aV true [(cD (dI .i64)), (cD (dI .i64)), (cD (dI .i64)), (cD (dI .i64)), (cD (dI .i64)), (cD (dI .i64))]), sl 22 (aV false [(cD (dIc .i64 2))])] [eBox 4 [(cD (dI .i64)), (cD (dI .i64)), (cD (dI .i64)), (cD (dI .i64)), (cD (dI .i64)), (cD (dI .i64)), (cD (dI .i64)), (cD (dI .i64)), (cD (dI .i64))], eBox 5 [(cD (dI .i64)), (cD (dI .i64)), (cD (dI .i64)), (cD (dI .i64)), (cD (dI .i64)), (cD (dI .i64))], eBox 8 [(cD (dI .i64)), (cD (dI .i64)), (cD (dI .i64)), (cD (dI .i64)), (cD (dI .i64)), (cD (dI .i64))], eBox 10 [(cD (dI .i64)), (cD (dI .i64)), (cD (dI .i64)), (cD (dI .i64)), (cD (dI .i64)), (cD (dI .i64))], eBox 15 [(cD (dI .i64)), (cD (dI .i64))]]
def u23_0_7 {β : Type} (g : St → β) : Int → Int → Int → Int → Int → Int → Int → Int → Int → Int → Int → Int → Int → Int → Int → Int → Int → Int → Int → Int → Int → Int → Int → Int → Int → Int → Int → Int → Int → Int → Int → Int → Int → Int → Int → Int → Int → Int → Int → Int → β := p23_0_7.unc g
def p23_0_8 : PT St := pS [sl 2 (aV false [(cD (dI .i64))]), sl 3 (aV false [(cD (dI .i64))]), sl 4 (aV false [(cPtr 4 0)]), sl 5 (aV false [(cPtr 5 0)]), sl 8 (aV false [(cPtr 8 0)]), sl 10 (aV false [(cPtr 10 0)]), sl 11 (aV false [(cD (dIc .i64 0))]), sl 12 (aV false [(cD (dI .i64))]), sl 13 (aV false [(cD (dI .i64))]), sl 15 (aV false [(cPtr 15 0)]), sl 16 (aV false [(cD (dI .i64))]), sl 17 (aV false [(cD (dIc .i64 0))]), sl 21 (aV true [(cD (dI .i64)), (cD (dI .i64)), (cD (dI .i64)), (cD (dI .i64)), (cD (dI .i64)), (cD (dI .i64))]), sl 22 (aV false [(cD (dIc .i64 2))]), sl 33 (aV false [(cD dB)])] [eBox 4 [(cD (dI .i64)), (cD (dI .i64)), (cD (dI .i64)), (cD (dI .i64)), (cD (dI .i64)), (cD (dI .i64)), (cD (dI .i64)), (cD (dI .i64)), (cD (dI .i64))], eBox 5 [(cD (dI .i64)), (cD (dI .i64)), (cD (dI .i64)), (cD (dI .i64)), (cD (dI .i64)), (cD (dI .i64))], eBox 8 [(cD (dI .i64)), (cD (dI .i64)), (cD (dI .i64)), (cD (dI .i64)), (cD (dI .i64)), (cD (dI .i64))], eBox 10 [(cD (dI .i64)), (cD (dI .i64)), (cD (dI .i64)), (cD (dI .i64)), (cD (dI .i64)), (cD (dI .i64))], eBox 15 [(cD (dI .i64)), (cD (dI .i64))]]
def u23_0_8 {β : Type} (g : St → β) : Int → Int → Int → Int → Int → Int → Int → Int → Int → Int → Int → Bool → Int → Int → Int → Int → Int → Int → Int → Int → Int → Int → Int → Int → Int → Int → Int → Int → Int → Int → Int → Int → Int → Int → Int → Int → Int → Int → Int → Int → Int → β := p23_0_8.unc g
def p23_0_9 : PT St := pS [sl 2 (aV false [(cD (dI .i64))]), sl 3 (aV false [(cD (dI .i64))]), sl 4 (aV false [(cPtr 4 0)]), sl 5 (aV false [(cPtr 5 0)]), sl 8 (aV false [(cPtr 8 0)]), sl 10 (aV false [(cPtr 10 0)]), sl 11 (aV false [(cD (dIc .i64 0))]), sl 12 (aV false [(cD (dI .i64))]), sl 13 (aV false [(cD (dI .i64))]), sl 17 (aV false [(cD (dIc .i64 0))]), sl 21 (aV true [(cD (dI .i64)), (cD (dI .i64)), (cD (dI .i64)), (cD (dI .i64)), (cD (dI .i64)), (cD (dI .i64))]), sl 22 (aV false [(cD (dIc .i64 3))])] [eBox 4 [(cD (dI .i64)), (cD (dI .i64)), (cD (dI .i64)), (cD (dI .i64)), (cD (dI .i64)), (cD (dI .i64)), (cD (dI .i64)), (cD (dI .i64)), (cD (dI .i64))], eBox 5 [(cD (dI .i64)), (cD (dI .i64)), (cD (dI .i64)), (cD (dI .i64)), (cD (dI .i64)), (cD (dI .i64))], eBox 8 [(cD (dI .i64)), (cD (dI .i64)), (cD (dI .i64)), (cD (dI .i64)), (cD (dI .i64)), (cD (dI .i64))], eBox 10 [(cD (dI .i64)), (cD (dI .i64)), (cD (dI .i64)), (cD (dI .i64)), (cD (dI .i64)), (cD (dI .i64))]]
def u23_0_9 {β : Type} (g : St → β) : Int → Int → Int → Int → Int → Int → Int → Int → Int → Int → Int → Int → Int → Int → Int → Int → Int → Int → Int → Int → Int → Int → Int → Int → Int → Int → Int → Int → Int → Int → Int → Int → Int → Int → Int → Int → Int → β := p23_0_9.unc g
def p23_0_10 : PT St := pS [sl 2 (aV false [(cD (dI .i64))]), sl 3 (aV false [(cD (dI .i64))]), sl 4 (aV false [(cPtr 4 0)]), sl 5 (aV false [(cPtr 5 0)]), sl 8 (aV false [(cPtr 8 0)]), sl 10 (aV false [(cPtr 10 0)]), sl 11 (aV false [(cD (dIc .i64 1))]), sl 12 (aV false [(cD (dI .i64))]), sl 13 (aV false [(cD (dI .i64))]), sl 15 (aV false [(cPtr 15 0)]), sl 16 (aV false [(cD (dI .i64))]), sl 17 (aV false [(cD (dIc .i64 1))]), sl 21 (aV true [(cD (dI .i64)), (cD (dI .i64)), (cD (dI .i64)), (cD (dI .i64)), (cD (dI .i64)), (cD (dI .i64))]), sl 22 (aV false [(cD (dIc .i64 0))])] [eBox 4 [(cD (dI .i64)), (cD (dI .i64)), (cD (dI .i64)), (cD (dI .i64)), (cD (dI .i64)), (cD (dI .i64)), (cD (dI .i64)), (cD (dI .i64)), (cD (dI .i64))], eBox 5 [(cD (dI .i64)), (cD (dI .i64)), (cD (dI .i64)), (cD (dI .i64)), (cD (dI .i64)), (cD (dI .i64))], eBox 8 [(cD (dI .i64)), (cD (dI .i64)), (cD (dI .i64)), (cD (dI .i64)), (cD (dI .i64)), (cD (dI .i64))], eBox 10 [(cD (dI .i64)), (cD (dI .i64)), (cD (dI .i64)), (cD (dI .i64)), (cD (dI .i64)), (cD (dI .i64))], eBox 15 [(cD (dI .i64)), (cD (dI .i64))]]
def u23_0_10 {β : Type} (g : St → β) : Int → Int → Int → Int → Int → Int → Int → Int → Int → Int → Int → Int → Int → Int → Int → Int → Int → Int → Int → Int → Int → Int → Int → Int → Int → Int → Int → Int → Int → Int → Int → Int → Int → Int → Int → Int → Int → Int → Int → Int → β := p23_0_10.unc g
def p23_0_11 : PT St := pS [sl 2 (aV false [(cD (dI .i64))]), sl 3 (aV false [(cD (dI .i64))]), sl 4 (aV false [(cPtr 4 0)]), sl 5 (aV false [(cPtr 5 0)]), sl 8 (aV false [(cPtr 8 0)]), sl 10 (aV false [(cPtr 10 0)]), sl 11 (aV false [(cD (dIc .i64 1))]), sl 12 (aV false [(cD (dI .i64))]), sl 13 (aV false [(cD (dI .i64))]), sl 15 (aV false [(cPtr 15 0)]), sl 16 (aV false [(cD (dI .i64))]), sl 17 (aV false [(cD (dIc .i64 1))]), sl 21 (aV true [(cD (dI .i64)), (cD (dI .i64)), (cD (dI .i64)), (cD (dI .i64)), (cD (dI .i64)), (cD (dI .i64))]), sl 22 (aV false [(cD (dIc .i64 0))]), sl 33 (aV false [(cD dB)])] [eBox 4 [(cD (dI .i64)), (cD (dI .i64)), (cD (dI .i64)), (cD (dI .i64)), (cD (dI .i64)), (cD (dI .i64)), (cD (dI .i64)), (cD (dI .i64)), (cD (dI .i64))], eBox 5 [(cD (dI .i64)), (cD (dI .i64)), (cD (dI .i64)), (cD (dI .i64)), (cD (dI .i64)), (cD (dI .i64))], eBox 8 [(cD (dI .i64)), (cD (dI .i64)), (cD (dI .i64)), (cD (dI .i64)), (cD (dI .i64)), (cD (dI .i64))], eBox 10 [(cD (dI .i64)), (cD (dI .i64)), (cD (dI .i64)), (cD (dI .i64)), (cD (dI .i64)), (cD (dI .i64))], eBox 15 [(cD (dI .i64)), (cD (dI .i64))]]
def u23_0_11 {β : Type} (g : St → β) : Int → Int → Int → Int → Int → Int → Int → Int → Int → Int → Int → Bool → Int → Int → Int → Int → Int → Int → Int → Int → Int → Int → Int → Int → Int → Int → Int → Int → Int → Int → Int → Int → Int → Int → Int → Int → Int → Int → Int → Int → Int → β := p23_0_11.unc g
def p23_0_12 : PT St := pS [sl 2 (aV false [(cD (dI .i64))]), sl 3 (aV false [(cD (dI .i64))]), sl 4 (aV false [(cPtr 4 0)]), sl 5 (aV false [(cPtr 5 0)]), sl 8 (aV false [(cPtr 8 0)]), sl 10 (aV false [(cPtr 10 0)]), sl 11 (aV false [(cD (dIc .i64 1))]), sl 12 (aV false [(cD (dI .i64))]), sl 13 (aV false [(cD (dI .i64))]), sl 17 (aV false [(cD (dIc .i64 1))]), sl 21 (aV true [(cD (dI .i64)), (cD (dI .i64)), (cD (dI .i64)), (cD (dI .i64)), (cD (dI .i64)), (cD (dI .i64))]), sl 22 (aV false [(cD (dIc .i64 0))])] [eBox 4 [(cD (dI .i64)), (cD (dI .i64)), (cD (dI .i64)), (cD (dI .i64)), (cD (dI .i64)), (cD (dI .i64)), (cD (dI .i64)), (cD (dI .i64)), (cD (dI .i64))], eBox 5 [(cD (dI .i64)), (cD (dI .i64)), (cD (dI .i64)), (cD (dI .i64)), (cD (dI .i64)), (cD (dI .i64))], eBox 8 [(cD (dI .i64)), (cD (dI .i64)), (cD (dI .i64)), (cD (dI .i64)), (cD (dI .i64)), (cD (dI .i64))], eBox 10 [(cD (dI .i64)), (cD (dI .i64)), (cD (dI .i64)), (cD (dI .i64)), (cD (dI .i64)), (cD (dI .i64))]]
def u23_0_12 {β : Type} (g : St → β) : Int → Int → Int → Int → Int → Int → Int → Int → Int → Int → Int → Int → Int → Int → Int → Int → Int → Int → Int → Int → Int → Int → Int → Int → Int → Int → Int → Int → Int → Int → Int → Int → Int → Int → Int → Int → Int → β := p23_0_12.unc g
def p23_0_13 : PT St := pS [sl 2 (aV false [(cD (dI .i64))]), sl 3 (aV false [(cD (dI .i64))]), sl 4 (aV false [(cPtr 4 0)]), sl 5 (aV false [(cPtr 5 0)]), sl 8 (aV false [(cPtr 8 0)]), sl 10 (aV false [(cPtr 10 0)]), sl 11 (aV false [(cD (dIc .i64 1))]), sl 12 (aV false [(cD (dI .i64))]), sl 13 (aV false [(cD (dI .i64))]), sl 17 (aV false [(cD (dIc .i64 1))]), sl 21 (aV true [(cD (dI .i64)), (cD (dI .i64)), (cD (dI .i64)), (cD (dI .i64)), (cD (dI .i64)), (cD (dI .i64))]), sl 22 (aV false [(cD (dIc .i64 1))])] [eBox 4 [(cD (dI .i64)), (cD (dI .i64)), (cD (dI .i64)), (cD (dI .i64)), (cD (dI .i64)), (cD (dI .i64)), (cD (dI .i64)), (cD (dI .i64)), (cD (dI .i64))], eBox 5 [(cD (dI .i64)), (cD (dI .i64)), (cD (dI .i64)), (cD (dI .i64)), (cD (dI .i64)), (cD (dI .i64))], eBox 8 [(cD (dI .i64)), (cD (dI .i64)), (cD (dI .i64)), (cD (dI .i64)), (cD (dI .i64)), (cD (dI .i64))], eBox 10 [(cD (dI .i64)), (cD (dI .i64)), (cD (dI .i64)), (cD (dI .i64)), (cD (dI .i64)), (cD (dI .i64))]]
def u23_0_13 {β : Type} (g : St → β) : Int → Int → Int → Int → Int → Int → Int → Int → Int → Int → Int → Int → Int → Int → Int → Int → Int → Int → Int → Int → Int → Int → Int → Int → Int → Int → Int → Int → Int → Int → Int → Int → Int → Int → Int → Int → Int → β := p23_0_13.unc g
def p23_0_14 : PT St := pS [sl 2 (aV false [(cD (dI .i64))]), sl 3 (aV false [(cD (dI .i64))]), sl 4 (aV false [(cPtr 4 0)]), sl 5 (aV false [(cPtr 5 0)]), sl 8 (aV false [(cPtr 8 0)]), sl 10 (aV false [(cPtr 10 0)]), sl 11 (aV false [(cD (dIc .i64 1))]), sl 12 (aV false [(cD (dI .i64))]), sl 13 (aV false [(cD (dI .i64))]), sl 15 (aV false [(cPtr 15 0)]), sl 16 (aV false [(cD (dI .i64))]), sl 17 (aV false [(cD (dIc .i64 1))]), sl 21 (aV true [(cD (dI .i64)), (cD (dI .i64)), (cD (dI .i64)), (cD (dI .i64)), (cD (dI .i64)), (cD (dI .i64))]), sl 22 (aV false [(cD (dIc .i64 1))])] [eBox 4 [(cD (dI .i64)), (cD (dI .i64)), (cD (dI .i64)), (cD (dI .i64)), (cD (dI .i64)), (cD (dI .i64)), (cD (dI .i64)), (cD (dI .i64)), (cD (dI .i64))], eBox 5 [(cD (dI .i64)), (cD (dI .i64)), (cD (dI .i64)), (cD (dI .i64)), (cD (dI .i64)), (cD (dI .i64))], eBox 8 [(cD (dI .i64)), (cD (dI .i64)), (cD (dI .i64)), (cD (dI .i64)), (cD (dI .i64)), (cD (dI .i64))], eBox 10 [(cD (dI .i64)), (cD (dI .i64)), (cD (dI .i64)), (cD (dI .i64)), (cD (dI .i64)), (cD (dI .i64))], eBox 15 [(cD (dI .i64)), (cD (dI .i64))]]
def u23_0_14 {β : Type} (g : St → β) : Int → Int → Int → Int → Int → Int → Int → Int → Int → Int → Int → Int → Int → Int → Int → Int → Int → Int → Int → Int → Int → Int → Int → Int → Int → Int → Int → Int → Int → Int → Int → Int → Int → Int → Int → Int → Int → Int → Int → Int → β := p23_0_14.unc g
def p23_0_15 : PT St := pS [sl 2 (aV false [(cD (dI .i64))]), sl 3 (aV false [(cD (dI .i64))]), sl 4 (aV false [(cPtr 4 0)]), sl 5 (aV false [(cPtr 5 0)]), sl 8 (aV false [(cPtr 8 0)]), sl 10 (aV false [(cPtr 10 0)]), sl 11 (aV false [(cD (dIc .i64 1))]), sl 12 (aV false [(cD (dI .i64))]), sl 13 (aV false [(cD (dI .i64))]), sl 15 (aV false [(cPtr 15 0)]), sl 16 (aV false [(cD (dI .i64))]), sl 17 (aV false [(cD (dIc .i64 1))]), sl 21 (aV true [(cD (dI .i64)), (cD (dI .i64)), (cD (dI .i64)), (cD (dI .i64)), (cD (dI .i64)), (cD (dI .i64))]), sl 22 (aV false [(cD (dIc .i64 1))]), sl 33 (aV false [(cD dB)])] [eBox 4 [(cD (dI .i64)), (cD (dI .i64)), (cD (dI .i64)), (cD (dI .i64)), (cD (dI .i64)), (cD (dI .i64)), (cD (dI .i64)), (cD (dI .i64)), (cD (dI .i64))], eBox 5 [(cD (dI .i64)), (cD (dI .i64)), (cD (dI .i64)), (cD (dI .i64)), (cD (dI .i64)), (cD (dI .i64))], eBox 8 [(cD (dI .i64)), (cD (dI .i64)), (cD (dI .i64)), (cD (dI .i64)), (cD (dI .i64)), (cD (dI .i64))], eBox 10 [(cD (dI .i64)), (cD (dI .i64)), (cD (dI .i64)), (cD (dI .i64)), (cD (dI .i64)), (cD (dI .i64))], eBox 15 [(cD (dI .i64)), (cD (dI .i64))]]
def u23_0_15 {β : Type} (g : St → β) : Int → Int → Int → Int → Int → Int → Int → Int → Int → Int → Int → Bool → Int → Int → Int → Int → Int → Int → Int → Int → Int → Int → Int → Int → Int → Int → Int → Int → Int → Int → Int → Int → Int → Int → Int → Int → Int → Int → Int → Int → Int → β := p23_0_15.unc g
def p23_0_16 : PT St := pS [sl 2 (aV false [(cD (dI .i64))]), sl 3 (aV false [(cD (dI .i64))]), sl 4 (aV false [(cPtr 4 0)]), sl 5 (aV false [(cPtr 5 0)]), sl 8 (aV false [(cPtr 8 0)]), sl 10 (aV false [(cPtr 10 0)]), sl 11 (aV false [(cD (dIc .i64 1))]), sl 12 (aV false [(cD (dI .i64))]), sl 13 (aV false [(cD (dI .i64))]), sl 17 (aV false [(cD (dIc .i64 1))]), sl 21 (aV true [(cD (dI .i64)), (cD (dI .i64)), (cD (dI .i64)), (cD (dI .i64)), (cD (dI .i64)), (cD (dI .i64))]), sl 22 (aV false [(cD (dIc .i64 2))])] [eBox 4 [(cD (dI .i64)), (cD (dI .i64)), (cD (dI .i64)), (cD (dI .i64)), (cD (dI .i64)), (cD (dI .i64)), (cD (dI .i64)), (cD (dI .i64)), (cD (dI .i64))], eBox 5 [(cD (dI .i64)), (cD (dI .i64)), (cD (dI .i64)), (cD (dI .i64)), (cD (dI .i64)), (cD (dI .i64))], eBox 8 [(cD (dI .i64)), (cD (dI .i64)), (cD (dI .i64)), (cD (dI .i64)), (cD (dI .i64)), (cD (dI .i64))], eBox 10 [(cD (dI .i64)), (cD (dI .i64)), (cD (dI .i64)), (cD (dI .i64)), (cD (dI .i64)), (cD (dI .i64))]]
def u23_0_16 {β : Type} (g : St → β) : Int → Int → Int → Int → Int → Int → Int → Int → Int → Int → Int → Int → Int → Int → Int → Int → Int → Int → Int → Int → Int → Int → Int → Int → Int → Int → Int → Int → Int → Int → Int → Int → Int → Int → Int → Int → Int → β := p23_0_16.unc g
def p23_0_17 : PT St := pS [sl 2 (aV false [(cD (dI .i64))]), sl 3 (aV false [(cD (dI .i64))]), sl 4 (aV false [(cPtr 4 0)]), sl 5 (aV false [(cPtr 5 0)]), sl 8 (aV false [(cPtr 8 0)]), sl 10 (aV false [(cPtr 10 0)]), sl 11 (aV false [(cD (dIc .i64 1))]), sl 12 (aV false [(cD (dI .i64))]), sl 13 (aV false [(cD (dI .i64))]), sl 15 (aV false [(cPtr 15 0)]), sl 16 (aV false [(cD (dI .i64))]), sl 17 (aV false [(cD (dIc .i64 1))]), sl 21 (aV true [(cD (dI .i64)), (cD (dI .i64)), (cD (dI .i64)), (cD (dI .i64)), (cD (dI .i64)), (cD (dI .i64))]), sl 22 (aV false [(cD (dIc .i64 2))])] [eBox 4 [(cD (dI .i64)), (cD (dI .i64)), (cD (dI .i64)), (cD (dI .i64)), (cD (dI .i64)), (cD (dI .i64)), (cD (dI .i64)), (cD (dI .i64)), (cD (dI .i64))], eBox 5 [(cD (dI .i64)), (cD (dI .i64)), (cD (dI .i64)), (cD (dI .i64)), (cD (dI .i64)), (cD (dI .i64))], eBox 8 [(cD (dI .i64)), (cD (dI .i64)), (cD (dI .i64)), (cD (dI .i64)), (cD (dI .i64)), (cD (dI .i64))], eBox 10 [(cD (dI .i64)), (cD (dI .i64)), (cD (dI .i64)), (cD (dI .i64)), (cD (dI .i64)), (cD (dI .i64))], eBox 15 [(cD (dI .i64)), (cD (dI .i64))]]
def u23_0_17 {β : Type} (g : St → β) : Int → Int → Int → Int → Int → Int → Int → Int → Int → Int → Int → Int → Int → Int → Int → Int → Int → Int → Int → Int → Int → Int → Int → Int → Int → Int → Int → Int → Int → Int → Int → Int → Int → Int → Int → Int → Int → Int → Int → Int → β := p23_0_17.unc g
def p23_0_18 : PT St := pS [sl 2 (aV false [(cD (dI .i64))]), sl 3 (aV false [(cD (dI .i64))]), sl 4 (aV false [(cPtr 4 0)]), sl 5 (aV false [(cPtr 5 0)]), sl 8 (aV false [(cPtr 8 0)]), sl 10 (aV false [(cPtr 10 0)]), sl 11 (aV false [(cD (dIc .i64 1))]), sl 12 (aV false [(cD (dI .i64))]), sl 13 (aV false [(cD (dI .i64))]), sl 15 (aV false [(cPtr 15 0)]), sl 16 (aV false [(cD (dI .i64))]), sl 17 (aV false [(cD (dIc .i64 1))]), sl 21 (aV true [(cD (dI .i64)), (cD (dI .i64)), (cD (dI .i64)), (cD (dI .i64)), (cD (dI .i64)), (cD (dI .i64))]), sl 22 (aV false [(cD (dIc .i64 2))]), sl 33 (aV false [(cD dB)])] [eBox 4 [(cD (dI .i64)), (cD (dI .i64)), (cD (dI .i64)), (cD (dI .i64)), (cD (dI .i64)), (cD (dI .i64)), (cD (dI .i64)), (cD (dI .i64)), (cD (dI .i64))], eBox 5 [(cD (dI .i64)), (cD (dI .i64)), (cD (dI .i64)), (cD (dI .i64)), (cD (dI .i64)), (cD (dI .i64))], eBox 8 [(cD (dI .i64)), (cD (dI .i64)), (cD (dI .i64)), (cD (dI .i64)), (cD (dI .i64)), (cD (dI .i64))], eBox 10 [(cD (dI .i64)), (cD (dI .i64)), (cD (dI .i64)), (cD (dI .i64)), (cD (dI .i64)), (cD (dI .i64))], eBox 15 [(cD (dI .i64)), (cD (dI .i64))]]
def u23_0_18 {β : Type} (g : St → β) : Int → Int → Int → Int → Int → Int → Int → Int → Int → Int → Int → Bool → Int → Int → Int → Int → Int → Int → Int → Int → Int → Int → Int → Int → Int → Int → Int → Int → Int → Int → Int → Int → Int → Int → Int → Int → Int → Int → Int → Int → Int → β := p23_0_18.unc g
def p23_0_19 : PT St := pS [sl 2 (aV false [(cD (dI .i64))]), sl 3 (aV false [(cD (dI .i64))]), sl 4 (aV false [(cPtr 4 0)]), sl 5 (aV false [(cPtr 5 0)]), sl 8 (aV false [(cPtr 8 0)]), sl 10 (aV false [(cPtr 10 0)]), sl 11 (aV false [(cD (dIc .i64 1))]), sl 12 (aV false [(cD (dI .i64))]), sl 13 (aV false [(cD (dI .i64))]), sl 17 (aV false [(cD (dIc .i64 1))]), sl 21 (aV true [(cD (dI .i64)), (cD (dI .i64)), (cD (dI .i64)), (cD (dI .i64)), (cD (dI .i64)), (cD (dI .i64))]), sl 22 (aV false [(cD (dIc .i64 3))])] [eBox 4 [(cD (dI .i64)), (cD (dI .i64)), (cD (dI .i64)), (cD (dI .i64)), (cD (dI .i64)), (cD (dI .i64)), (cD (dI .i64)), (cD (dI .i64)), (cD (dI .i64))], eBox 5 [(cD (dI .i64)), (cD (dI .i64)), (cD (dI .i64)), (cD (dI .i64)), (cD (dI .i64)), (cD (dI .i64))], eBox 8 [(cD (dI .i64)), (cD (dI .i64)), (cD (dI .i64)), (cD (dI .i64)), (cD (dI .i64)), (cD (dI .i64))], eBox 10 [(cD (dI .i64)), (cD (dI .i64)), (cD (dI .i64)), (cD (dI .i64)), (cD (dI .i64)), (cD (dI .i64))]]
def u23_0_19 {β : Type} (g : St → β) : Int → Int → Int → Int → Int → Int → Int → Int → Int → Int → Int → Int → Int → Int → Int → Int → Int → Int → Int → Int → Int → Int → Int → Int → Int → Int → Int → Int → Int → Int → Int → Int → Int → Int → Int → Int → Int → β := p23_0_19.unc g
def p23_0_20 : PT St := pS [sl 2 (aV false [(cD (dI .i64))]), sl 3 (aV false [(cD (dI .i64))]), sl 4 (aV false [(cPtr 4 0)]), sl 5 (aV false [(cPtr 5 0)]), sl 8 (aV false [(cPtr 8 0)]), sl 10 (aV false [(cPtr 10 0)]), sl 11 (aV false [(cD (dIc .i64 2))]), sl 12 (aV false [(cD (dI .i64))]), sl 13 (aV false [(cD (dI .i64))]), sl 15 (aV false [(cPtr 15 0)]), sl 16 (aV false [(cD (dI .i64))]), sl 17 (aV false [(cD (dIc .i64 2))]), sl 21 (aV true [(cD (dI .i64)), (cD (dI .i64)), (cD (dI .i64)), (cD (dI .i64)), (cD (dI .i64)), (cD (dI .i64))]), sl 22 (aV false [(cD (dIc .i64 0))])] [eBox 4 [(cD (dI .i64)), (cD (dI .i64)), (cD (dI .i64)), (cD (dI .i64)), (cD (dI .i64)), (cD (dI .i64)), (cD (dI .i64)), (cD (dI .i64)), (cD (dI .i64))], eBox 5 [(cD (dI .i64)), (cD (dI .i64)), (cD (dI .i64)), (cD (dI .i64)), (cD (dI .i64)), (cD (dI .i64))], eBox 8 [(cD (dI .i64)), (cD (dI .i64)), (cD (dI .i64)), (cD (dI .i64)), (cD (dI .i64)), (cD (dI .i64))], eBox 10 [(cD (dI .i64)), (cD (dI .i64)), (cD (dI .i64)), (cD (dI .i64)), (cD (dI .i64)), (cD (dI .i64))], eBox 15 [(cD (dI .i64)), (cD (dI .i64))]]
def u23_0_20 {β : Type} (g : St → β) : Int → Int → Int → Int → Int → Int → Int → Int → Int → Int → Int → Int → Int → Int → Int → Int → Int → Int → Int → Int → Int → Int → Int → Int → Int → Int → Int → Int → Int → Int → Int → Int → Int → Int → Int → Int → Int → Int → Int → Int → β := p23_0_20.unc g
def p23_0_21 : PT St := pS [sl 2 (aV false [(cD (dI .i64))]), sl 3 (aV false [(cD (dI .i64))]), sl 4 (aV false [(cPtr 4 0)]), sl 5 (aV false [(cPtr 5 0)]), sl 8 (aV false [(cPtr 8 0)]), sl 10 (aV false [(cPtr 10 0)]), sl 11 (aV false [(cD (dIc .i64 2))]), sl 12 (aV false [(cD (dI .i64))]), sl 13 (aV false [(cD (dI .i64))]), sl 15 (aV false [(cPtr 15 0)]), sl 16 (aV false [(cD (dI .i64))]), sl 17 (aV false [(cD (dIc .i64 2))]), sl 21 (aV true [(cD (dI .i64)), (cD (dI .i64)), (cD (dI .i64)), (cD (dI .i64)), (cD (dI .i64)), (cD (dI .i64))]), sl 22 (aV false [(cD (dIc .i64 0))]), sl 33 (aV false [(cD dB)])] [eBox 4 [(cD (dI .i64)), (cD (dI .i64)), (cD (dI .i64)), (cD (dI .i64)), (cD (dI .i64)), (cD (dI .i64)), (cD (dI .i64)), (cD (dI .i64)), (cD (dI .i64))], eBox 5 [(cD (dI .i64)), (cD (dI .i64)), (cD (dI .i64)), (cD (dI .i64)), (cD (dI .i64)), (cD (dI .i64))], eBox 8 [(cD (dI .i64)), (cD (dI .i64)), (cD (dI .i64)), (cD (dI .i64)), (cD (dI .i64)), (cD (dI .i64))], eBox 10 [(cD (dI .i64)), (cD (dI .i64)), (cD (dI .i64)), (cD (dI .i64)), (cD (dI .i64)), (cD (dI .i64))], eBox 15 [(cD (dI .i64)), (cD (dI .i64))]]
def u23_0_21 {β : Type} (g : St → β) : Int → Int → Int → Int → Int → Int → Int → Int → Int → Int → Int → Bool → Int → Int → Int → Int → Int → Int → Int → Int → Int → Int → Int → Int → Int → Int → Int → Int → Int → Int → Int → Int → Int → Int → Int → Int → Int → Int → Int → Int → Int → β := p23_0_21.unc g
def p23_0_22 : PT St := pS [sl 2 (aV false [(cD (dI .i64))]), sl 3 (aV false [(cD (dI .i64))]), sl 4 (aV false [(cPtr 4 0)]), sl 5 (aV false [(cPtr 5 0)]), sl 8 (aV false [(cPtr 8 0)]), sl 10 (aV false [(cPtr 10 0)]), sl 11 (aV false [(cD (dIc .i64 2))]), sl 12 (aV false [(cD (dI .i64))]), sl 13 (aV false [(cD (dI .i64))]), sl 17 (aV false [(cD (dIc .i64 2))]), sl 21 (aV true [(cD (dI .i64)), (cD (dI .i64)), (cD (dI .i64)), (cD (dI .i64)), (cD (dI .i64)), (cD (dI .i64))]), sl 22 (aV false [(cD (dIc .i64 0))])] [eBox 4 [(cD (dI .i64)), (cD (dI .i64)), (cD (dI .i64)), (cD (dI .i64)), (cD (dI .i64)), (cD (dI .i64)), (cD (dI .i64)), (cD (dI .i64)), (cD (dI .i64))], eBox 5 [(cD (dI .i64)), (cD (dI .i64)), (cD (dI .i64)), (cD (dI .i64)), (cD (dI .i64)), (cD (dI .i64))], eBox 8 [(cD (dI .i64)), (cD (dI .i64)), (cD (dI .i64)), (cD (dI .i64)), (cD (dI .i64)), (cD (dI .i64))], eBox 10 [(cD (dI .i64)), (cD (dI .i64)), (cD (dI .i64)), (cD (dI .i64)), (cD (dI .i64)), (cD (dI .i64))]]
def u23_0_22 {β : Type} (g : St → β) : Int → Int → Int → Int → Int → Int → Int → Int → Int → Int → Int → Int → Int → Int → Int → Int → Int → Int → Int → Int → Int → Int → Int → Int → Int → Int → Int → Int → Int → Int → Int → Int → Int → Int → Int → Int → Int → β := p23_0_22.unc g
def p23_0_23 : PT St := pS [sl 2 (aV false [(cD (dI .i64))]), sl 3 (aV false [(cD (dI .i64))]), sl 4 (aV false [(cPtr 4 0)]), sl 5 (aV false [(cPtr 5 0)]), sl 8 (aV false [(cPtr 8 0)]), sl 10 (aV false [(cPtr 10 0)]), sl 11 (aV false [(cD (dIc .i64 2))]), sl 12 (aV false [(cD (dI .i64))]), sl 13 (aV false [(cD (dI .i64))]), sl 17 (aV false [(cD (dIc .i64 2))]), sl 21 (aV true [(cD (dI .i64)), (cD (dI .i64)), (cD (dI .i64)), (cD (dI .i64)), (cD (dI .i64)), (cD (dI .i64))]), sl 22 (aV false [(cD (dIc .i64 1))])] [eBox 4 [(cD (dI .i64)), (cD (dI .i64)), (cD (dI .i64)), (cD (dI .i64)), (cD (dI .i64)), (cD (dI .i64)), (cD (dI .i64)), (cD (dI .i64)), (cD (dI .i64))], eBox 5 [(cD (dI .i64)), (cD (dI .i64)), (cD (dI .i64)), (cD (dI .i64)), (cD (dI .i64)), (cD (dI .i64))], eBox 8 [(cD (dI .i64)), (cD (dI .i64)), (cD (dI .i64)), (cD (dI .i64)), (cD (dI .i64)), (cD (dI .i64))], eBox 10 [(cD (dI .i64)), (cD (dI .i64)), (cD (dI .i64)), (cD (dI .i64)), (cD (dI .i64)), (cD (dI .i64))]]
def u23_0_23 {β : Type} (g : St → β) : Int → Int → Int → Int → Int → Int → Int → Int → Int → Int → Int → Int → Int → Int → Int → Int → Int → Int → Int → Int → Int → Int → Int → Int → Int → Int → Int → Int → Int → Int → Int → Int → Int → Int → Int → Int → Int → β := p23_0_23.unc g
def p23_0_24 : PT St := pS [sl 2 (aV false [(cD (dI .i64))]), sl 3 (aV false [(cD (dI .i64))]), sl 4 (aV false [(cPtr 4 0)]), sl 5 (aV false [(cPtr 5 0)]), sl 8 (aV false [(cPtr 8 0)]), sl 10 (aV false [(cPtr 10 0)]), sl 11 (aV false [(cD (dIc .i64 2))]), sl 12 (aV false [(cD (dI .i64))]), sl 13 (aV false [(cD (dI .i64))]), sl 15 (aV false [(cPtr 15 0)]), sl 16 (aV false [(cD (dI .i64))]), sl 17 (aV false [(cD (dIc .i64 2))]), sl 21 (aV true [(cD (dI .i64)), (cD (dI .i64)), (cD (dI .i64)), (cD (dI .i64)), (cD (dI .i64)), (cD (dI .i64))]), sl 22 (aV false [(cD (dIc .i64 1))])] [eBox 4 [(cD (dI .i64)), (cD (dI .i64)), (cD (dI .i64)), (cD (dI .i64)), (cD (dI .i64)), (cD (dI .i64)), (cD (dI .i64)), (cD (dI .i64)), (cD (dI .i64))], eBox 5 [(cD (dI .i64)), (cD (dI .i64)), (cD (dI .i64)), (cD (dI .i64)), (cD (dI .i64)), (cD (dI .i64))], eBox 8 [(cD (dI .i64)), (cD (dI .i64)), (cD (dI .i64)), (cD (dI .i64)), (cD (dI .i64)), (cD (dI .i64))], eBox 10 [(cD (dI .i64)), (cD (dI .i64)), (cD (dI .i64)), (cD (dI .i64)), (cD (dI .i64)), (cD (dI .i64))], eBox 15 [(cD (dI .i64)), (cD (dI .i64))]]
def u23_0_24 {β : Type} (g : St → β) : Int → Int → Int → Int → Int → Int → Int → Int → Int → Int → Int → Int → Int → Int → Int → Int → Int → Int → Int → Int → Int → Int → Int → Int → Int → Int → Int → Int → Int → Int → Int → Int → Int → Int → Int → Int → Int → Int → Int → Int → β := p23_0_24.unc g
def p23_0_25 : PT St := pS [sl 2 (aV false [(cD (dI .i64))]), sl 3 (aV false [(cD (dI .i64))]), sl 4 (aV false [(cPtr 4 0)]), sl 5 (aV false [(cPtr 5 0)]), sl 8 (aV false [(cPtr 8 0)]), sl 10 (aV false [(cPtr 10 0)]), sl 11 (aV false [(cD (dIc .i64 2))]), sl 12 (aV false [(cD (dI .i64))]), sl 13 (aV false [(cD (dI .i64))]), sl 15 (aV false [(cPtr 15 0)]), sl 16 (aV false [(cD (dI .i64))]), sl 17 (aV false [(cD (dIc .i64 2))]), sl 21 (aV true [(cD (dI .i64)), (cD (dI .i64)), (cD (dI .i64)), (cD (dI .i64)), (cD (dI .i64)), (cD (dI .i64))]), sl 22 (aV false [(cD (dIc .i64 1))]), sl 33 (aV false [(cD dB)])] [eBox 4 [(cD (dI .i64)), (cD (dI .i64)), (cD (dI .i64)), (cD (dI .i64)), (cD (dI .i64)), (cD (dI .i64)), (cD (dI .i64)), (cD (dI .i64)), (cD (dI .i64))], eBox 5 [(cD (dI .i64)), (cD (dI .i64)), (cD (dI .i64)), (cD (dI .i64)), (cD (dI .i64)), (cD (dI .i64))], eBox 8 [(cD (dI .i64)), (cD (dI .i64)), (cD (dI .i64)), (cD (dI .i64)), (cD (dI .i64)), (cD (dI .i64))], eBox 10 [(cD (dI .i64)), (cD (dI .i64)), (cD (dI .i64)), (cD (dI .i64)), (cD (dI .i64)), (cD (dI .i64))], eBox 15 [(cD (dI .i64)), (cD (dI .i64))]]
def u23_0_25 {β : Type} (g : St → β) : Int → Int → Int → Int → Int → Int → Int → Int → Int → Int → Int → Bool → Int → Int → Int → Int → Int → Int → Int → Int → Int → Int → Int → Int → Int → Int → Int → Int → Int → Int → Int → Int → Int → Int → Int → Int → Int → Int → Int → Int → Int → β := p23_0_25.unc g
def p23_0_26 : PT St := pS [sl 2 (aV false [(cD (dI .i64))]), sl 3 (aV false [(cD (dI .i64))]), sl 4 (aV false [(cPtr 4 0)]), sl 5 (aV false [(cPtr 5 0)]), sl 8 (aV false [(cPtr 8 0)]), sl 10 (aV false [(cPtr 10 0)]), sl 11 (aV false [(cD (dIc .i64 2))]), sl 12 (aV false [(cD (dI .i64))]), sl 13 (aV false [(cD (dI .i64))]), sl 17 (aV false [(cD (dIc .i64 2))]), sl 21 (aV true [(cD (dI .i64)), (cD (dI .i64)), (cD (dI .i64)), (cD (dI .i64)), (cD (dI .i64)), (cD (dI .i64))]), sl 22 (aV false [(cD (dIc .i64 2))])] [eBox 4 [(cD (dI .i64)), (cD (dI .i64)), (cD (dI .i64)), (cD (dI .i64)), (cD (dI .i64)), (cD (dI .i64)), (cD (dI .i64)), (cD (dI .i64)), (cD (dI .i64))], eBox 5 [(cD (dI .i64)), (cD (dI .i64)), (cD (dI .i64)), (cD (dI .i64)), (cD (dI .i64)), (cD (dI .i64))], eBox 8 [(cD (dI .i64)), (cD (dI .i64)), (cD (dI .i64)), (cD (dI .i64)), (cD (dI .i64)), (cD (dI .i64))], eBox 10 [(cD (dI .i64)), (cD (dI .i64)), (cD (dI .i64)), (cD (dI .i64)), (cD (dI .i64)), (cD (dI .i64))]]
def u23_0_26 {β : Type} (g : St → β) : Int → Int → Int → Int → Int → Int → Int → Int → Int → Int → Int → Int → Int → Int → Int → Int → Int → Int → Int → Int → Int → Int → Int → Int → Int → Int → Int → Int → Int → Int → Int → Int → Int → Int → Int → Int → Int → β := p23_0_26.unc g
def p23_0_27 : PT St := pS [sl 2 (aV false [(cD (dI .i64))]), sl 3 (aV false [(cD (dI .i64))]), sl 4 (aV false [(cPtr 4 0)]), sl 5 (aV false [(cPtr 5 0)]), sl 8 (aV false [(cPtr 8 0)]), sl 10 (aV false [(cPtr 10 0)]), sl 11 (aV false [(cD (dIc .i64 2))]), sl 12 (aV false [(cD (dI .i64))]), sl 13 (aV false [(cD (dI .i64))]), sl 15 (aV false [(cPtr 15 0)]), sl 16 (aV false [(cD (dI .i64))]), sl 17 (aV false [(cD (dIc .i64 2))]), sl 21 (aV true [(cD (dI .i64)), (cD (dI .i64)), (cD (dI .i64)), (cD (dI .i64)), (cD (dI .i64)), (cD (dI .i64))]), sl 22 (aV false [(cD (dIc .i64 2))])] [eBox 4 [(cD (dI .i64)), (cD (dI .i64)), (cD (dI .i64)), (cD (dI .i64)), (cD (dI .i64)), (cD (dI .i64)), (cD (dI .i64)), (cD (dI .i64)), (cD (dI .i64))], eBox 5 [(cD (dI .i64)), (cD (dI .i64)), (cD (dI .i64)), (cD (dI .i64)), (cD (dI .i64)), (cD (dI .i64))], eBox 8 [(cD (dI .i64)), (cD (dI .i64)), (cD (dI .i64)), (cD (dI .i64)), (cD (dI .i64)), (cD (dI .i64))], eBox 10 [(cD (dI .i64)), (cD (dI .i64)), (cD (dI .i64)), (cD (dI .i64)), (cD (dI .i64)), (cD (dI .i64))], eBox 15 [(cD (dI .i64)), (cD (dI .i64))]]
def u23_0_27 {β : Type} (g : St → β) : Int → Int → Int → Int → Int → Int → Int → Int → Int → Int → Int → Int → Int → Int → Int → Int → Int → Int → Int → Int → Int → Int → Int → Int → Int → Int → Int → Int → Int → Int → Int → Int → Int → Int → Int → Int → Int → Int → Int → Int → β := p23_0_27.unc g
def p23_0_28 : PT St := pS [sl 2 (aV false [(cD (dI .i64))]), sl 3 (aV false [(cD (dI .i64))]), sl 4 (aV false [(cPtr 4 0)]), sl 5 (aV false [(cPtr 5 0)]), sl 8 (aV false [(cPtr 8 0)]), sl 10 (aV false [(cPtr 10 0)]), sl 11 (aV false [(cD (dIc .i64 2))]), sl 12 (aV false [(cD (dI .i64))]), sl 13 (aV false [(cD (dI .i64))]), sl 15 (aV false [(cPtr 15 0)]), sl 16 (aV false [(cD (dI .i64))]), sl 17 (aV false [(cD (dIc .i64 2))]), sl 21 (aV true [(cD (dI .i64)), (cD (dI .i64)), (cD (dI .i64)), (cD (dI .i64)), (cD (dI .i64)), (cD (dI .i64))]), sl 22 (aV false [(cD (dIc .i64 2))]), sl 33 (aV false [(cD dB)])] [eBox 4 [(cD (dI .i64)), (cD (dI .i64)), (cD (dI .i64)), (cD (dI .i64)), (cD (dI .i64)), (cD (dI .i64)), (cD (dI .i64)), (cD (dI .i64)), (cD (dI .i64))], eBox 5 [(cD (dI .i64)), (cD (dI .i64)), (cD (dI .i64)), (cD (dI .i64)), (cD (dI .i64)), (cD (dI .i64))], eBox 8 [(cD (dI .i64)), (cD (dI .i64)), (cD (dI .i64)), (cD (dI .i64)), (cD (dI .i64)), (cD (dI .i64))], eBox 10 [(cD (dI .i64)), (cD (dI .i64)), (cD (dI .i64)), (cD (dI .i64)), (cD (dI .i64)), (cD (dI .i64))], eBox 15 [(cD (dI .i64)), (cD (dI .i64))]]
def u23_0_28 {β : Type} (g : St → β) : Int → Int → Int → Int → Int → Int → Int → Int → Int → Int → Int → Bool → Int → Int → Int → Int → Int → Int → Int → Int → Int → Int → Int → Int → Int → Int → Int → Int → Int → Int → Int → Int → Int → Int → Int → Int → Int → Int → Int → Int → Int → β := p23_0_28.unc g
def p23_0_29 : PT St := pS [sl 2 (aV false [(cD (dI .i64))]), sl 3 (aV false [(cD (dI .i64))]), sl 4 (aV false [(cPtr 4 0)]), sl 5 (aV false [(cPtr 5 0)]), sl 8 (aV false [(cPtr 8 0)]), sl 10 (aV false [(cPtr 10 0)]), sl 11 (aV false [(cD (dIc .i64 2))]), sl 12 (aV false [(cD (dI .i64))]), sl 13 (aV false [(cD (dI .i64))]), sl 17 (aV false [(cD (dIc .i64 2))]), sl 21 (aV true [(cD (dI .i64)), (cD (dI .i64)), (cD (dI .i64)), (cD (dI .i64)), (cD (dI .i64)), (cD (dI .i64))]), sl 22 (aV false [(cD (dIc .i64 3))])] [eBox 4 [(cD (dI .i64)), (cD (dI .i64)), (cD (dI .i64)), (cD (dI .i64)), (cD (dI .i64)), (cD (dI .i64)), (cD (dI .i64)), (cD (dI .i64)), (cD (dI .i64))], eBox 5 [(cD (dI .i64)), (cD (dI .i64)), (cD (dI .i64)), (cD (dI .i64)), (cD (dI .i64)), (cD (dI .i64))], eBox 8 [(cD (dI .i64)), (cD (dI .i64)), (cD (dI .i64)), (cD (dI .i64)), (cD (dI .i64)), (cD (dI .i64))], eBox 10 [(cD (dI .i64)), (cD (dI .i64)), (cD (dI .i64)), (cD (dI .i64)), (cD (dI .i64)), (cD (dI .i64))]]
def u23_0_29 {β : Type} (g : St → β) : Int → Int → Int → Int → Int → Int → Int → Int → Int → Int → Int → Int → Int → Int → Int → Int → Int → Int → Int → Int → Int → Int → Int → Int → Int → Int → Int → Int → Int → Int → Int → Int → Int → Int → Int → Int → Int → β := p23_0_29.unc g
def pr23_0_0 : PT (List RV) := pRs [pR true [rD (dI .i64), rD (dI .i64), rD (dI .i64), rD (dI .i64), rD (dI .i64), rD (dI .i64)], pR false [rD (dI .i64)]]
def ur23_0_0 {β : Type} (g : List RV → β) : Int → Int → Int → Int → Int → Int → Int → β := pr23_0_0.unc g
def E23_0g (vf57_0 : Tf57_0) (vf48_0 : Tf48_0) (vf49_0 : Tf49_0) (vf58_0 : Tf58_0) : EnvK := EnvK.of [⟨57, nt57, [⟨pa57_0, Fn57_0 vf57_0⟩]⟩, ⟨48, nt48, [⟨pa48_0, Fn48_0 vf48_0⟩]⟩, ⟨49, nt49, [⟨pa49_0, Fn49_0 vf49_0⟩]⟩, ⟨58, nt58, [⟨pa58_0, Fn58_0 vf58_0⟩]⟩] noSeq
noncomputable def E23_0 : EnvK := E23_0g f57_0 f48_0 f49_0 f58_0
theorem eo23_0 : E23_0.Ok Try.prog := EnvK.of_ok noSeq_ok ⟨⟨io57_0, trivial⟩, ⟨io48_0, trivial⟩, ⟨io49_0, trivial⟩, ⟨io58_0, trivial⟩, trivial⟩
noncomputable def c23_0_35g  : MCode := (.seq (.region r23_37 [] (tO [2, 3, 4, 5, 8, 10, 11, 12, 13, 15, 16, 17, 21, 22, 33])) (.cond (.tmp 33) (.region r23_39 [] (tO [2, 3, 4, 5, 8, 10, 11, 12, 13, 15, 16, 17, 21, 22])) .skip))
noncomputable def c23_0_35 : MCode := c23_0_35g 
theorem g23_0_35 : c23_0_35.Good Try.prog E23_0 sh23 := ⟨trivial, ⟨trivial, trivial⟩⟩
--CODE 35 0
abbrev TJ23_0_0 : Type 1 := (α : Type) → Int → (Option α) → (Bool → Option α) → Option α
def J23_0_0g  (α : Type) (x66 : Int) (k1 : Option α) (k2 : Bool → Option α) : Option α :=
 cK (decide (x66 < 0))
 (k1)
 (k2 (decide (x66 < 0)))
noncomputable def J23_0_0 (α : Type) (x66 : Int) (k1 : Option α) (k2 : Bool → Option α) : Option α := J23_0_0g  α x66 k1 k2
def F23_0_0 (v : TJ23_0_0) (α : Type) (K : Exit → St → Option α) : Int → Int → Int → Int → Int → Int → Int → Int → Int → Int → Int → Int → Int → Int → Int → Int → Int → Int → Int → Int → Int → Int → Int → Int → Int → Int → Int → Int → Int → Int → Int → Int → Int → Int → Int → Int → Int → Int → Int → Int → Option α := fun x62 x63 x64 x65 x66 x67 x68 x69 x70 x71 x72 x73 x74 x75 x76 x77 x78 x79 x80 x81 x82 x83 x84 x85 x86 x87 x88 x89 x90 x91 x92 x93 x94 x95 x96 x97 x98 x99 x100 x101 => v α x66 (u23_0_0 (K .normal) x62 x63 x64 x65 x66 x67 x68 x69 x70 x71 x72 x73 x74 x75 x76 x77 x78 x79 x80 x81 x82 x83 x84 x85 x86 x87 x88 x89 x90 x91 x92 x93 x94 x95 x96 x97 x98 x99 x101 x100) (fun (y1 : Bool) => u23_0_1 (K .normal) x62 x63 x64 x65 x66 x67 x68 x69 x70 x71 x72 y1 x73 x74 x75 x76 x77 x78 x79 x80 x81 x82 x83 x84 x85 x86 x87 x88 x89 x90 x91 x92 x93 x94 x95 x96 x97 x98 x99 x100 x101) 
theorem m23_0_0g (vf57_0 : Tf57_0) (vf48_0 : Tf48_0) (vf49_0 : Tf49_0) (vf58_0 : Tf58_0)  (α : Type) (K : Exit → St → Option α) : F23_0_0 (J23_0_0g ) α K = p23_0_0.unc fun σ => runM Try.prog (E23_0g vf57_0 vf48_0 vf49_0 vf58_0) sh23 (c23_0_35g ) K σ := by kernel_rfl
theorem m23_0_0 : ∀ (α : Type) (K : Exit → St → Option α), F23_0_0 J23_0_0 α K = p23_0_0.unc fun σ => runM Try.prog E23_0 sh23 c23_0_35 K σ := m23_0_0g f57_0 f48_0 f49_0 f58_0
--CODE 35 0
abbrev TJ23_0_2 : Type 1 := (α : Type) → Int → (Option α) → (Bool → Option α) → Option α
def J23_0_2g  (α : Type) (x150 : Int) (k1 : Option α) (k2 : Bool → Option α) : Option α :=
 cK (decide (x150 < 0))
 (k1)
 (k2 (decide (x150 < 0)))
noncomputable def J23_0_2 (α : Type) (x150 : Int) (k1 : Option α) (k2 : Bool → Option α) : Option α := J23_0_2g  α x150 k1 k2
def F23_0_2 (v : TJ23_0_2) (α : Type) (K : Exit → St → Option α) : Int → Int → Int → Int → Int → Int → Int → Int → Int → Int → Int → Int → Int → Int → Int → Int → Int → Int → Int → Int → Int → Int → Int → Int → Int → Int → Int → Int → Int → Int → Int → Int → Int → Int → Int → Int → Int → Int → Int → Int → Option α := fun x146 x147 x148 x149 x150 x151 x152 x153 x154 x155 x156 x157 x158 x159 x160 x161 x162 x163 x164 x165 x166 x167 x168 x169 x170 x171 x172 x173 x174 x175 x176 x177 x178 x179 x180 x181 x182 x183 x184 x185 => v α x150 (u23_0_4 (K .normal) x146 x147 x148 x149 x150 x151 x152 x153 x154 x155 x156 x157 x158 x159 x160 x161 x162 x163 x164 x165 x166 x167 x168 x169 x170 x171 x172 x173 x174 x175 x176 x177 x178 x179 x180 x181 x182 x183 x185 x184) (fun (y1 : Bool) => u23_0_5 (K .normal) x146 x147 x148 x149 x150 x151 x152 x153 x154 x155 x156 y1 x157 x158 x159 x160 x161 x162 x163 x164 x165 x166 x167 x168 x169 x170 x171 x172 x173 x174 x175 x176 x177 x178 x179 x180 x181 x182 x183 x184 x185) 
theorem m23_0_2g (vf57_0 : Tf57_0) (vf48_0 : Tf48_0) (vf49_0 : Tf49_0) (vf58_0 : Tf58_0)  (α : Type) (K : Exit → St → Option α) : F23_0_2 (J23_0_2g ) α K = p23_0_4.unc fun σ => runM Try.prog (E23_0g vf57_0 vf48_0 vf49_0 vf58_0) sh23 (c23_0_35g ) K σ := by kernel_rfl
theorem m23_0_2 : ∀ (α : Type) (K : Exit → St → Option α), F23_0_2 J23_0_2 α K = p23_0_4.unc fun σ => runM Try.prog E23_0 sh23 c23_0_35 K σ := m23_0_2g f57_0 f48_0 f49_0 f58_0
--CODE 35 0
abbrev TJ23_0_4 : Type 1 := (α : Type) → Int → (Option α) → (Bool → Option α) → Option α
def J23_0_4g  (α : Type) (x234 : Int) (k1 : Option α) (k2 : Bool → Option α) : Option α :=
 cK (decide (x234 < 0))
 (k1)
 (k2 (decide (x234 < 0)))
noncomputable def J23_0_4 (α : Type) (x234 : Int) (k1 : Option α) (k2 : Bool → Option α) : Option α := J23_0_4g  α x234 k1 k2
def F23_0_4 (v : TJ23_0_4) (α : Type) (K : Exit → St → Option α) : Int → Int → Int → Int → Int → Int → Int → Int → Int → Int → Int → Int → Int → Int → Int → Int → Int → Int → Int → Int → Int → Int → Int → Int → Int → Int → Int → Int → Int → Int → Int → Int → Int → Int → Int → Int → Int → Int → Int → Int → Option α := fun x230 x231 x232 x233 x234 x235 x236 x237 x238 x239 x240 x241 x242 x243 x244 x245 x246 x247 x248 x249 x250 x251 x252 x253 x254 x255 x256 x257 x258 x259 x260 x261 x262 x263 x264 x265 x266 x267 x268 x269 => v α x234 (u23_0_7 (K .normal) x230 x231 x232 x233 x234 x235 x236 x237 x238 x239 x240 x241 x242 x243 x244 x245 x246 x247 x248 x249 x250 x251 x252 x253 x254 x255 x256 x257 x258 x259 x260 x261 x262 x263 x264 x265 x266 x267 x269 x268) (fun (y1 : Bool) => u23_0_8 (K .normal) x230 x231 x232 x233 x234 x235 x236 x237 x238 x239 x240 y1 x241 x242 x243 x244 x245 x246 x247 x248 x249 x250 x251 x252 x253 x254 x255 x256 x257 x258 x259 x260 x261 x262 x263 x264 x265 x266 x267 x268 x269) 
theorem m23_0_4g (vf57_0 : Tf57_0) (vf48_0 : Tf48_0) (vf49_0 : Tf49_0) (vf58_0 : Tf58_0)  (α : Type) (K : Exit → St → Option α) : F23_0_4 (J23_0_4g ) α K = p23_0_7.unc fun σ => runM Try.prog (E23_0g vf57_0 vf48_0 vf49_0 vf58_0) sh23 (c23_0_35g ) K σ := by kernel_rfl
theorem m23_0_4 : ∀ (α : Type) (K : Exit → St → Option α), F23_0_4 J23_0_4 α K = p23_0_7.unc fun σ => runM Try.prog E23_0 sh23 c23_0_35 K σ := m23_0_4g f57_0 f48_0 f49_0 f58_0
--CODE 35 0
abbrev TJ23_0_6 : Type 1 := (α : Type) → Int → (Option α) → (Bool → Option α) → Option α
def J23_0_6g  (α : Type) (x328 : Int) (k1 : Option α) (k2 : Bool → Option α) : Option α :=
 cK (decide (x328 < 0))
 (k1)
 (k2 (decide (x328 < 0)))
noncomputable def J23_0_6 (α : Type) (x328 : Int) (k1 : Option α) (k2 : Bool → Option α) : Option α := J23_0_6g  α x328 k1 k2
def F23_0_6 (v : TJ23_0_6) (α : Type) (K : Exit → St → Option α) : Int → Int → Int → Int → Int → Int → Int → Int → Int → Int → Int → Int → Int → Int → Int → Int → Int → Int → Int → Int → Int → Int → Int → Int → Int → Int → Int → Int → Int → Int → Int → Int → Int → Int → Int → Int → Int → Int → Int → Int → Option α := fun x324 x325 x326 x327 x328 x329 x330 x331 x332 x333 x334 x335 x336 x337 x338 x339 x340 x341 x342 x343 x344 x345 x346 x347 x348 x349 x350 x351 x352 x353 x354 x355 x356 x357 x358 x359 x360 x361 x362 x363 => v α x328 (u23_0_10 (K .normal) x324 x325 x326 x327 x328 x329 x330 x331 x332 x333 x334 x335 x336 x337 x338 x339 x340 x341 x342 x343 x344 x345 x346 x347 x348 x349 x350 x351 x352 x353 x354 x355 x356 x357 x358 x359 x360 x361 x363 x362) (fun (y1 : Bool) => u23_0_11 (K .normal) x324 x325 x326 x327 x328 x329 x330 x331 x332 x333 x334 y1 x335 x336 x337 x338 x339 x340 x341 x342 x343 x344 x345 x346 x347 x348 x349 x350 x351 x352 x353 x354 x355 x356 x357 x358 x359 x360 x361 x362 x363) 
theorem m23_0_6g (vf57_0 : Tf57_0) (vf48_0 : Tf48_0) (vf49_0 : Tf49_0) (vf58_0 : Tf58_0)  (α : Type) (K : Exit → St → Option α) : F23_0_6 (J23_0_6g ) α K = p23_0_10.unc fun σ => runM Try.prog (E23_0g vf57_0 vf48_0 vf49_0 vf58_0) sh23 (c23_0_35g ) K σ := by kernel_rfl
theorem m23_0_6 : ∀ (α : Type) (K : Exit → St → Option α), F23_0_6 J23_0_6 α K = p23_0_10.unc fun σ => runM Try.prog E23_0 sh23 c23_0_35 K σ := m23_0_6g f57_0 f48_0 f49_0 f58_0
--CODE 35 0
abbrev TJ23_0_8 : Type 1 := (α : Type) → Int → (Option α) → (Bool → Option α) → Option α
def J23_0_8g  (α : Type) (x412 : Int) (k1 : Option α) (k2 : Bool → Option α) : Option α :=
 cK (decide (x412 < 0))
 (k1)
 (k2 (decide (x412 < 0)))
noncomputable def J23_0_8 (α : Type) (x412 : Int) (k1 : Option α) (k2 : Bool → Option α) : Option α := J23_0_8g  α x412 k1 k2
def F23_0_8 (v : TJ23_0_8) (α : Type) (K : Exit → St → Option α) : Int → Int → Int → Int → Int → Int → Int → Int → Int → Int → Int → Int → Int → Int → Int → Int → Int → Int → Int → Int → Int → Int → Int → Int → Int → Int → Int → Int → Int → Int → Int → Int → Int → Int → Int → Int → Int → Int → Int → Int → Option α := fun x408 x409 x410 x411 x412 x413 x414 x415 x416 x417 x418 x419 x420 x421 x422 x423 x424 x425 x426 x427 x428 x429 x430 x431 x432 x433 x434 x435 x436 x437 x438 x439 x440 x441 x442 x443 x444 x445 x446 x447 => v α x412 (u23_0_14 (K .normal) x408 x409 x410 x411 x412 x413 x414 x415 x416 x417 x418 x419 x420 x421 x422 x423 x424 x425 x426 x427 x428 x429 x430 x431 x432 x433 x434 x435 x436 x437 x438 x439 x440 x441 x442 x443 x444 x445 x447 x446) (fun (y1 : Bool) => u23_0_15 (K .normal) x408 x409 x410 x411 x412 x413 x414 x415 x416 x417 x418 y1 x419 x420 x421 x422 x423 x424 x425 x426 x427 x428 x429 x430 x431 x432 x433 x434 x435 x436 x437 x438 x439 x440 x441 x442 x443 x444 x445 x446 x447) 
theorem m23_0_8g (vf57_0 : Tf57_0) (vf48_0 : Tf48_0) (vf49_0 : Tf49_0) (vf58_0 : Tf58_0)  (α : Type) (K : Exit → St → Option α) : F23_0_8 (J23_0_8g ) α K = p23_0_14.unc fun σ => runM Try.prog (E23_0g vf57_0 vf48_0 vf49_0 vf58_0) sh23 (c23_0_35g ) K σ := by kernel_rfl
theorem m23_0_8 : ∀ (α : Type) (K : Exit → St → Option α), F23_0_8 J23_0_8 α K = p23_0_14.unc fun σ => runM Try.prog E23_0 sh23 c23_0_35 K σ := m23_0_8g f57_0 f48_0 f49_0 f58_0
--CODE 35 0
abbrev TJ23_0_10 : Type 1 := (α : Type) → Int → (Option α) → (Bool → Option α) → Option α
def J23_0_10g  (α : Type) (x496 : Int) (k1 : Option α) (k2 : Bool → Option α) : Option α :=
 cK (decide (x496 < 0))
 (k1)
 (k2 (decide (x496 < 0)))
noncomputable def J23_0_10 (α : Type) (x496 : Int) (k1 : Option α) (k2 : Bool → Option α) : Option α := J23_0_10g  α x496 k1 k2
def F23_0_10 (v : TJ23_0_10) (α : Type) (K : Exit → St → Option α) : Int → Int → Int → Int → Int → Int → Int → Int → Int → Int → Int → Int → Int → Int → Int → Int → Int → Int → Int → Int → Int → Int → Int → Int → Int → Int → Int → Int → Int → Int → Int → Int → Int → Int → Int → Int → Int → Int → Int → Int → Option α := fun x492 x493 x494 x495 x496 x497 x498 x499 x500 x501 x502 x503 x504 x505 x506 x507 x508 x509 x510 x511 x512 x513 x514 x515 x516 x517 x518 x519 x520 x521 x522 x523 x524 x525 x526 x527 x528 x529 x530 x531 => v α x496 (u23_0_17 (K .normal) x492 x493 x494 x495 x496 x497 x498 x499 x500 x501 x502 x503 x504 x505 x506 x507 x508 x509 x510 x511 x512 x513 x514 x515 x516 x517 x518 x519 x520 x521 x522 x523 x524 x525 x526 x527 x528 x529 x531 x530) (fun (y1 : Bool) => u23_0_18 (K .normal) x492 x493 x494 x495 x496 x497 x498 x499 x500 x501 x502 y1 x503 x504 x505 x506 x507 x508 x509 x510 x511 x512 x513 x514 x515 x516 x517 x518 x519 x520 x521 x522 x523 x524 x525 x526 x527 x528 x529 x530 x531) 
theorem m23_0_10g (vf57_0 : Tf57_0) (vf48_0 : Tf48_0) (vf49_0 : Tf49_0) (vf58_0 : Tf58_0)  (α : Type) (K : Exit → St → Option α) : F23_0_10 (J23_0_10g ) α K = p23_0_17.unc fun σ => runM Try.prog (E23_0g vf57_0 vf48_0 vf49_0 vf58_0) sh23 (c23_0_35g ) K σ := by kernel_rfl
theorem m23_0_10 : ∀ (α : Type) (K : Exit → St → Option α), F23_0_10 J23_0_10 α K = p23_0_17.unc fun σ => runM Try.prog E23_0 sh23 c23_0_35 K σ := m23_0_10g f57_0 f48_0 f49_0 f58_0
--CODE 35 0
abbrev TJ23_0_12 : Type 1 := (α : Type) → Int → (Option α) → (Bool → Option α) → Option α
def J23_0_12g  (α : Type) (x590 : Int) (k1 : Option α) (k2 : Bool → Option α) : Option α :=
 cK (decide (x590 < 0))
 (k1)
 (k2 (decide (x590 < 0)))
noncomputable def J23_0_12 (α : Type) (x590 : Int) (k1 : Option α) (k2 : Bool → Option α) : Option α := J23_0_12g  α x590 k1 k2
def F23_0_12 (v : TJ23_0_12) (α : Type) (K : Exit → St → Option α) : Int → Int → Int → Int → Int → Int → Int → Int → Int → Int → Int → Int → Int → Int → Int → Int → Int → Int → Int → Int → Int → Int → Int → Int → Int → Int → Int → Int → Int → Int → Int → Int → Int → Int → Int → Int → Int → Int → Int → Int → Option α := fun x586 x587 x588 x589 x590 x591 x592 x593 x594 x595 x596 x597 x598 x599 x600 x601 x602 x603 x604 x605 x606 x607 x608 x609 x610 x611 x612 x613 x614 x615 x616 x617 x618 x619 x620 x621 x622 x623 x624 x625 => v α x590 (u23_0_20 (K .normal) x586 x587 x588 x589 x590 x591 x592 x593 x594 x595 x596 x597 x598 x599 x600 x601 x602 x603 x604 x605 x606 x607 x608 x609 x610 x611 x612 x613 x614 x615 x616 x617 x618 x619 x620 x621 x622 x623 x625 x624) (fun (y1 : Bool) => u23_0_21 (K .normal) x586 x587 x588 x589 x590 x591 x592 x593 x594 x595 x596 y1 x597 x598 x599 x600 x601 x602 x603 x604 x605 x606 x607 x608 x609 x610 x611 x612 x613 x614 x615 x616 x617 x618 x619 x620 x621 x622 x623 x624 x625) 
theorem m23_0_12g (vf57_0 : Tf57_0) (vf48_0 : Tf48_0) (vf49_0 : Tf49_0) (vf58_0 : Tf58_0)  (α : Type) (K : Exit → St → Option α) : F23_0_12 (J23_0_12g ) α K = p23_0_20.unc fun σ => runM Try.prog (E23_0g vf57_0 vf48_0 vf49_0 vf58_0) sh23 (c23_0_35g ) K σ := by kernel_rfl
theorem m23_0_12 : ∀ (α : Type) (K : Exit → St → Option α), F23_0_12 J23_0_12 α K = p23_0_20.unc fun σ => runM Try.prog E23_0 sh23 c23_0_35 K σ := m23_0_12g f57_0 f48_0 f49_0 f58_0
--CODE 35 0
abbrev TJ23_0_14 : Type 1 := (α : Type) → Int → (Option α) → (Bool → Option α) → Option α
def J23_0_14g  (α : Type) (x674 : Int) (k1 : Option α) (k2 : Bool → Option α) : Option α :=
 cK (decide (x674 < 0))
 (k1)
 (k2 (decide (x674 < 0)))
noncomputable def J23_0_14 (α : Type) (x674 : Int) (k1 : Option α) (k2 : Bool → Option α) : Option α := J23_0_14g  α x674 k1 k2
def F23_0_14 (v : TJ23_0_14) (α : Type) (K : Exit → St → Option α) : Int → Int → Int → Int → Int → Int → Int → Int → Int → Int → Int → Int → Int → Int → Int → Int → Int → Int → Int → Int → Int → Int → Int → Int → Int → Int → Int → Int → Int → Int → Int → Int → Int → Int → Int → Int → Int → Int → Int → Int → Option α := fun x670 x671 x672 x673 x674 x675 x676 x677 x678 x679 x680 x681 x682 x683 x684 x685 x686 x687 x688 x689 x690 x691 x692 x693 x694 x695 x696 x697 x698 x699 x700 x701 x702 x703 x704 x705 x706 x707 x708 x709 => v α x674 (u23_0_24 (K .normal) x670 x671 x672 x673 x674 x675 x676 x677 x678 x679 x680 x681 x682 x683 x684 x685 x686 x687 x688 x689 x690 x691 x692 x693 x694 x695 x696 x697 x698 x699 x700 x701 x702 x703 x704 x705 x706 x707 x709 x708) (fun (y1 : Bool) => u23_0_25 (K .normal) x670 x671 x672 x673 x674 x675 x676 x677 x678 x679 x680 y1 x681 x682 x683 x684 x685 x686 x687 x688 x689 x690 x691 x692 x693 x694 x695 x696 x697 x698 x699 x700 x701 x702 x703 x704 x705 x706 x707 x708 x709) 
theorem m23_0_14g (vf57_0 : Tf57_0) (vf48_0 : Tf48_0) (vf49_0 : Tf49_0) (vf58_0 : Tf58_0)  (α : Type) (K : Exit → St → Option α) : F23_0_14 (J23_0_14g ) α K = p23_0_24.unc fun σ => runM Try.prog (E23_0g vf57_0 vf48_0 vf49_0 vf58_0) sh23 (c23_0_35g ) K σ := by kernel_rfl
theorem m23_0_14 : ∀ (α : Type) (K : Exit → St → Option α), F23_0_14 J23_0_14 α K = p23_0_24.unc fun σ => runM Try.prog E23_0 sh23 c23_0_35 K σ := m23_0_14g f57_0 f48_0 f49_0 f58_0
--CODE 35 0
abbrev TJ23_0_16 : Type 1 := (α : Type) → Int → (Option α) → (Bool → Option α) → Option α
def J23_0_16g  (α : Type) (x758 : Int) (k1 : Option α) (k2 : Bool → Option α) : Option α :=
 cK (decide (x758 < 0))
 (k1)
 (k2 (decide (x758 < 0)))
noncomputable def J23_0_16 (α : Type) (x758 : Int) (k1 : Option α) (k2 : Bool → Option α) : Option α := J23_0_16g  α x758 k1 k2
def F23_0_16 (v : TJ23_0_16) (α : Type) (K : Exit → St → Option α) : Int → Int → Int → Int → Int → Int → Int → Int → Int → Int → Int → Int → Int → Int → Int → Int → Int → Int → Int → Int → Int → Int → Int → Int → Int → Int → Int → Int → Int → Int → Int → Int → Int → Int → Int → Int → Int → Int → Int → Int → Option α := fun x754 x755 x756 x757 x758 x759 x760 x761 x762 x763 x764 x765 x766 x767 x768 x769 x770 x771 x772 x773 x774 x775 x776 x777 x778 x779 x780 x781 x782 x783 x784 x785 x786 x787 x788 x789 x790 x791 x792 x793 => v α x758 (u23_0_27 (K .normal) x754 x755 x756 x757 x758 x759 x760 x761 x762 x763 x764 x765 x766 x767 x768 x769 x770 x771 x772 x773 x774 x775 x776 x777 x778 x779 x780 x781 x782 x783 x784 x785 x786 x787 x788 x789 x790 x791 x793 x792) (fun (y1 : Bool) => u23_0_28 (K .normal) x754 x755 x756 x757 x758 x759 x760 x761 x762 x763 x764 y1 x765 x766 x767 x768 x769 x770 x771 x772 x773 x774 x775 x776 x777 x778 x779 x780 x781 x782 x783 x784 x785 x786 x787 x788 x789 x790 x791 x792 x793) 
theorem m23_0_16g (vf57_0 : Tf57_0) (vf48_0 : Tf48_0) (vf49_0 : Tf49_0) (vf58_0 : Tf58_0)  (α : Type) (K : Exit → St → Option α) : F23_0_16 (J23_0_16g ) α K = p23_0_27.unc fun σ => runM Try.prog (E23_0g vf57_0 vf48_0 vf49_0 vf58_0) sh23 (c23_0_35g ) K σ := by kernel_rfl
theorem m23_0_16 : ∀ (α : Type) (K : Exit → St → Option α), F23_0_16 J23_0_16 α K = p23_0_27.unc fun σ => runM Try.prog E23_0 sh23 c23_0_35 K σ := m23_0_16g f57_0 f48_0 f49_0 f58_0
noncomputable def c23_0_24g (vJ23_0_0 : TJ23_0_0) (vJ23_0_2 : TJ23_0_2) (vJ23_0_4 : TJ23_0_4) (vJ23_0_6 : TJ23_0_6) (vJ23_0_8 : TJ23_0_8) (vJ23_0_10 : TJ23_0_10) (vJ23_0_12 : TJ23_0_12) (vJ23_0_14 : TJ23_0_14) (vJ23_0_16 : TJ23_0_16) : MCode := (.seq (.region r23_26 [] (tO [2, 3, 4, 5, 8, 10, 11, 12, 13, 17, 21, 22, 23])) (.seq (.cond (.tmp 23) .skip (.exit 2)) (.seq (.block 3 (.seq (.region r23_32 [] (tO [2, 3, 4, 5, 8, 10, 11, 12, 13, 14, 15, 17, 21, 22])) (.seq (.region r23_34 [] (tO [2, 3, 4, 5, 8, 10, 11, 12, 13, 15, 16, 17, 21, 22])) (.seq (.mark [⟨p23_0_0, F23_0_0 vJ23_0_0⟩, ⟨p23_0_4, F23_0_2 vJ23_0_2⟩, ⟨p23_0_7, F23_0_4 vJ23_0_4⟩, ⟨p23_0_10, F23_0_6 vJ23_0_6⟩, ⟨p23_0_14, F23_0_8 vJ23_0_8⟩, ⟨p23_0_17, F23_0_10 vJ23_0_10⟩, ⟨p23_0_20, F23_0_12 vJ23_0_12⟩, ⟨p23_0_24, F23_0_14 vJ23_0_14⟩, ⟨p23_0_27, F23_0_16 vJ23_0_16⟩] c23_0_35) (.region r23_40 [] (tO [2, 3, 4, 5, 8, 10, 11, 12, 13, 17, 21, 22])))))) (.region r23_41 [] (tO [2, 3, 4, 5, 8, 10, 11, 12, 13, 17, 21, 22])))))
noncomputable def c23_0_24 : MCode := c23_0_24g J23_0_0 J23_0_2 J23_0_4 J23_0_6 J23_0_8 J23_0_10 J23_0_12 J23_0_14 J23_0_16
theorem g23_0_24 : c23_0_24.Good Try.prog E23_0 sh23 := ⟨trivial, ⟨⟨trivial, trivial⟩, ⟨⟨trivial, ⟨trivial, ⟨⟨g23_0_35, m23_0_0, m23_0_2, m23_0_4, m23_0_6, m23_0_8, m23_0_10, m23_0_12, m23_0_14, m23_0_16, trivial⟩, trivial⟩⟩⟩, trivial⟩⟩⟩
--CODE 24 0
abbrev TJ23_0_1 : Type 1 := (α : Type) → Int → Int → Int → Int → Int → (Int → Int → Option α) → Option α
def J23_0_1g (vJ23_0_0 : TJ23_0_0) (α : Type) (x26 x27 x28 x29 x34 : Int) (k1 : Int → Int → Option α) : Option α :=
 vJ23_0_0 α x34
 (k1 (w64 (x26 + (w64 (x34 * x29)))) (w64 (x27 + (w64 (x34 * x28)))))
 (fun x103 => k1 (w64 (x26 + (w64 (x34 * x28)))) (w64 (x27 + (w64 (x34 * x29)))))
noncomputable def J23_0_1 (α : Type) (x26 x27 x28 x29 x34 : Int) (k1 : Int → Int → Option α) : Option α := J23_0_1g J23_0_0 α x26 x27 x28 x29 x34 k1
def F23_0_1 (v : TJ23_0_1) (α : Type) (K : Exit → St → Option α) : Int → Int → Int → Int → Int → Int → Int → Int → Int → Int → Int → Int → Int → Int → Int → Int → Int → Int → Int → Int → Int → Int → Int → Int → Int → Int → Int → Int → Int → Int → Int → Int → Int → Int → Int → Int → Int → Option α := fun x24 x25 x26 x27 x28 x29 x30 x31 x32 x33 x34 x35 x36 x37 x38 x39 x40 x41 x42 x43 x44 x45 x46 x47 x48 x49 x50 x51 x52 x53 x54 x55 x56 x57 x58 x59 x60 => v α x26 x27 x28 x29 x34 (fun (y1 : Int) (y2 : Int) => u23_0_3 (K .normal) x24 x25 y1 y2 x28 x29 x30 x31 x32 x33 x34 x35 x36 x37 x38 x39 x40 x41 x42 x43 x44 x45 x46 x47 x48 x49 x50 x51 x52 x53 x54 x55 x56 x57 x58 x59 x60) 
theorem m23_0_1g (vf57_0 : Tf57_0) (vf48_0 : Tf48_0) (vf49_0 : Tf49_0) (vf58_0 : Tf58_0) (vJ23_0_0 : TJ23_0_0) (vJ23_0_2 : TJ23_0_2) (vJ23_0_4 : TJ23_0_4) (vJ23_0_6 : TJ23_0_6) (vJ23_0_8 : TJ23_0_8) (vJ23_0_10 : TJ23_0_10) (vJ23_0_12 : TJ23_0_12) (vJ23_0_14 : TJ23_0_14) (vJ23_0_16 : TJ23_0_16) (α : Type) (K : Exit → St → Option α) : F23_0_1 (J23_0_1g vJ23_0_0) α K = p23_0_2.unc fun σ => runM Try.prog (E23_0g vf57_0 vf48_0 vf49_0 vf58_0) sh23 (c23_0_24g vJ23_0_0 vJ23_0_2 vJ23_0_4 vJ23_0_6 vJ23_0_8 vJ23_0_10 vJ23_0_12 vJ23_0_14 vJ23_0_16) K σ := by kernel_rfl
theorem m23_0_1 : ∀ (α : Type) (K : Exit → St → Option α), F23_0_1 J23_0_1 α K = p23_0_2.unc fun σ => runM Try.prog E23_0 sh23 c23_0_24 K σ := m23_0_1g f57_0 f48_0 f49_0 f58_0 J23_0_0 J23_0_2 J23_0_4 J23_0_6 J23_0_8 J23_0_10 J23_0_12 J23_0_14 J23_0_16
--CODE 24 0
abbrev TJ23_0_3 : Type 1 := (α : Type) → Int → Int → Int → Int → Int → (Int → Int → Option α) → Option α
def J23_0_3g (vJ23_0_2 : TJ23_0_2) (α : Type) (x110 x111 x114 x115 x119 : Int) (k1 : Int → Int → Option α) : Option α :=
 vJ23_0_2 α x119
 (k1 (w64 (x110 + (w64 (x119 * x115)))) (w64 (x111 + (w64 (x119 * x114)))))
 (fun x187 => k1 (w64 (x110 + (w64 (x119 * x114)))) (w64 (x111 + (w64 (x119 * x115)))))
noncomputable def J23_0_3 (α : Type) (x110 x111 x114 x115 x119 : Int) (k1 : Int → Int → Option α) : Option α := J23_0_3g J23_0_2 α x110 x111 x114 x115 x119 k1
def F23_0_3 (v : TJ23_0_3) (α : Type) (K : Exit → St → Option α) : Int → Int → Int → Int → Int → Int → Int → Int → Int → Int → Int → Int → Int → Int → Int → Int → Int → Int → Int → Int → Int → Int → Int → Int → Int → Int → Int → Int → Int → Int → Int → Int → Int → Int → Int → Int → Int → Option α := fun x108 x109 x110 x111 x112 x113 x114 x115 x116 x117 x118 x119 x120 x121 x122 x123 x124 x125 x126 x127 x128 x129 x130 x131 x132 x133 x134 x135 x136 x137 x138 x139 x140 x141 x142 x143 x144 => v α x110 x111 x114 x115 x119 (fun (y1 : Int) (y2 : Int) => u23_0_6 (K .normal) x108 x109 y1 y2 x112 x113 x114 x115 x116 x117 x118 x119 x120 x121 x122 x123 x124 x125 x126 x127 x128 x129 x130 x131 x132 x133 x134 x135 x136 x137 x138 x139 x140 x141 x142 x143 x144) 
theorem m23_0_3g (vf57_0 : Tf57_0) (vf48_0 : Tf48_0) (vf49_0 : Tf49_0) (vf58_0 : Tf58_0) (vJ23_0_0 : TJ23_0_0) (vJ23_0_2 : TJ23_0_2) (vJ23_0_4 : TJ23_0_4) (vJ23_0_6 : TJ23_0_6) (vJ23_0_8 : TJ23_0_8) (vJ23_0_10 : TJ23_0_10) (vJ23_0_12 : TJ23_0_12) (vJ23_0_14 : TJ23_0_14) (vJ23_0_16 : TJ23_0_16) (α : Type) (K : Exit → St → Option α) : F23_0_3 (J23_0_3g vJ23_0_2) α K = p23_0_3.unc fun σ => runM Try.prog (E23_0g vf57_0 vf48_0 vf49_0 vf58_0) sh23 (c23_0_24g vJ23_0_0 vJ23_0_2 vJ23_0_4 vJ23_0_6 vJ23_0_8 vJ23_0_10 vJ23_0_12 vJ23_0_14 vJ23_0_16) K σ := by kernel_rfl
theorem m23_0_3 : ∀ (α : Type) (K : Exit → St → Option α), F23_0_3 J23_0_3 α K = p23_0_3.unc fun σ => runM Try.prog E23_0 sh23 c23_0_24 K σ := m23_0_3g f57_0 f48_0 f49_0 f58_0 J23_0_0 J23_0_2 J23_0_4 J23_0_6 J23_0_8 J23_0_10 J23_0_12 J23_0_14 J23_0_16
--CODE 24 0
abbrev TJ23_0_5 : Type 1 := (α : Type) → Int → Int → Int → Int → Int → (Int → Int → Option α) → Option α
def J23_0_5g (vJ23_0_4 : TJ23_0_4) (α : Type) (x194 x195 x200 x201 x204 : Int) (k1 : Int → Int → Option α) : Option α :=
 vJ23_0_4 α x204
 (k1 (w64 (x194 + (w64 (x204 * x201)))) (w64 (x195 + (w64 (x204 * x200)))))
 (fun x271 => k1 (w64 (x194 + (w64 (x204 * x200)))) (w64 (x195 + (w64 (x204 * x201)))))
noncomputable def J23_0_5 (α : Type) (x194 x195 x200 x201 x204 : Int) (k1 : Int → Int → Option α) : Option α := J23_0_5g J23_0_4 α x194 x195 x200 x201 x204 k1
def F23_0_5 (v : TJ23_0_5) (α : Type) (K : Exit → St → Option α) : Int → Int → Int → Int → Int → Int → Int → Int → Int → Int → Int → Int → Int → Int → Int → Int → Int → Int → Int → Int → Int → Int → Int → Int → Int → Int → Int → Int → Int → Int → Int → Int → Int → Int → Int → Int → Int → Option α := fun x192 x193 x194 x195 x196 x197 x198 x199 x200 x201 x202 x203 x204 x205 x206 x207 x208 x209 x210 x211 x212 x213 x214 x215 x216 x217 x218 x219 x220 x221 x222 x223 x224 x225 x226 x227 x228 => v α x194 x195 x200 x201 x204 (fun (y1 : Int) (y2 : Int) => u23_0_9 (K .normal) x192 x193 y1 y2 x196 x197 x198 x199 x200 x201 x202 x203 x204 x205 x206 x207 x208 x209 x210 x211 x212 x213 x214 x215 x216 x217 x218 x219 x220 x221 x222 x223 x224 x225 x226 x227 x228) 
theorem m23_0_5g (vf57_0 : Tf57_0) (vf48_0 : Tf48_0) (vf49_0 : Tf49_0) (vf58_0 : Tf58_0) (vJ23_0_0 : TJ23_0_0) (vJ23_0_2 : TJ23_0_2) (vJ23_0_4 : TJ23_0_4) (vJ23_0_6 : TJ23_0_6) (vJ23_0_8 : TJ23_0_8) (vJ23_0_10 : TJ23_0_10) (vJ23_0_12 : TJ23_0_12) (vJ23_0_14 : TJ23_0_14) (vJ23_0_16 : TJ23_0_16) (α : Type) (K : Exit → St → Option α) : F23_0_5 (J23_0_5g vJ23_0_4) α K = p23_0_6.unc fun σ => runM Try.prog (E23_0g vf57_0 vf48_0 vf49_0 vf58_0) sh23 (c23_0_24g vJ23_0_0 vJ23_0_2 vJ23_0_4 vJ23_0_6 vJ23_0_8 vJ23_0_10 vJ23_0_12 vJ23_0_14 vJ23_0_16) K σ := by kernel_rfl
theorem m23_0_5 : ∀ (α : Type) (K : Exit → St → Option α), F23_0_5 J23_0_5 α K = p23_0_6.unc fun σ => runM Try.prog E23_0 sh23 c23_0_24 K σ := m23_0_5g f57_0 f48_0 f49_0 f58_0 J23_0_0 J23_0_2 J23_0_4 J23_0_6 J23_0_8 J23_0_10 J23_0_12 J23_0_14 J23_0_16
--CODE 24 0
abbrev TJ23_0_7 : Type 1 := (α : Type) → Int → Int → Int → Int → Int → (Int → Int → Option α) → Option α
def J23_0_7g (vJ23_0_6 : TJ23_0_6) (α : Type) (x288 x289 x290 x291 x299 : Int) (k1 : Int → Int → Option α) : Option α :=
 vJ23_0_6 α x299
 (k1 (w64 (x288 + (w64 (x299 * x291)))) (w64 (x289 + (w64 (x299 * x290)))))
 (fun x365 => k1 (w64 (x288 + (w64 (x299 * x290)))) (w64 (x289 + (w64 (x299 * x291)))))
noncomputable def J23_0_7 (α : Type) (x288 x289 x290 x291 x299 : Int) (k1 : Int → Int → Option α) : Option α := J23_0_7g J23_0_6 α x288 x289 x290 x291 x299 k1
def F23_0_7 (v : TJ23_0_7) (α : Type) (K : Exit → St → Option α) : Int → Int → Int → Int → Int → Int → Int → Int → Int → Int → Int → Int → Int → Int → Int → Int → Int → Int → Int → Int → Int → Int → Int → Int → Int → Int → Int → Int → Int → Int → Int → Int → Int → Int → Int → Int → Int → Option α := fun x286 x287 x288 x289 x290 x291 x292 x293 x294 x295 x296 x297 x298 x299 x300 x301 x302 x303 x304 x305 x306 x307 x308 x309 x310 x311 x312 x313 x314 x315 x316 x317 x318 x319 x320 x321 x322 => v α x288 x289 x290 x291 x299 (fun (y1 : Int) (y2 : Int) => u23_0_13 (K .normal) x286 x287 y1 y2 x290 x291 x292 x293 x294 x295 x296 x297 x298 x299 x300 x301 x302 x303 x304 x305 x306 x307 x308 x309 x310 x311 x312 x313 x314 x315 x316 x317 x318 x319 x320 x321 x322) 
theorem m23_0_7g (vf57_0 : Tf57_0) (vf48_0 : Tf48_0) (vf49_0 : Tf49_0) (vf58_0 : Tf58_0) (vJ23_0_0 : TJ23_0_0) (vJ23_0_2 : TJ23_0_2) (vJ23_0_4 : TJ23_0_4) (vJ23_0_6 : TJ23_0_6) (vJ23_0_8 : TJ23_0_8) (vJ23_0_10 : TJ23_0_10) (vJ23_0_12 : TJ23_0_12) (vJ23_0_14 : TJ23_0_14) (vJ23_0_16 : TJ23_0_16) (α : Type) (K : Exit → St → Option α) : F23_0_7 (J23_0_7g vJ23_0_6) α K = p23_0_12.unc fun σ => runM Try.prog (E23_0g vf57_0 vf48_0 vf49_0 vf58_0) sh23 (c23_0_24g vJ23_0_0 vJ23_0_2 vJ23_0_4 vJ23_0_6 vJ23_0_8 vJ23_0_10 vJ23_0_12 vJ23_0_14 vJ23_0_16) K σ := by kernel_rfl
theorem m23_0_7 : ∀ (α : Type) (K : Exit → St → Option α), F23_0_7 J23_0_7 α K = p23_0_12.unc fun σ => runM Try.prog E23_0 sh23 c23_0_24 K σ := m23_0_7g f57_0 f48_0 f49_0 f58_0 J23_0_0 J23_0_2 J23_0_4 J23_0_6 J23_0_8 J23_0_10 J23_0_12 J23_0_14 J23_0_16
--CODE 24 0
abbrev TJ23_0_9 : Type 1 := (α : Type) → Int → Int → Int → Int → Int → (Int → Int → Option α) → Option α
def J23_0_9g (vJ23_0_8 : TJ23_0_8) (α : Type) (x372 x373 x376 x377 x384 : Int) (k1 : Int → Int → Option α) : Option α :=
 vJ23_0_8 α x384
 (k1 (w64 (x372 + (w64 (x384 * x377)))) (w64 (x373 + (w64 (x384 * x376)))))
 (fun x449 => k1 (w64 (x372 + (w64 (x384 * x376)))) (w64 (x373 + (w64 (x384 * x377)))))
noncomputable def J23_0_9 (α : Type) (x372 x373 x376 x377 x384 : Int) (k1 : Int → Int → Option α) : Option α := J23_0_9g J23_0_8 α x372 x373 x376 x377 x384 k1
def F23_0_9 (v : TJ23_0_9) (α : Type) (K : Exit → St → Option α) : Int → Int → Int → Int → Int → Int → Int → Int → Int → Int → Int → Int → Int → Int → Int → Int → Int → Int → Int → Int → Int → Int → Int → Int → Int → Int → Int → Int → Int → Int → Int → Int → Int → Int → Int → Int → Int → Option α := fun x370 x371 x372 x373 x374 x375 x376 x377 x378 x379 x380 x381 x382 x383 x384 x385 x386 x387 x388 x389 x390 x391 x392 x393 x394 x395 x396 x397 x398 x399 x400 x401 x402 x403 x404 x405 x406 => v α x372 x373 x376 x377 x384 (fun (y1 : Int) (y2 : Int) => u23_0_16 (K .normal) x370 x371 y1 y2 x374 x375 x376 x377 x378 x379 x380 x381 x382 x383 x384 x385 x386 x387 x388 x389 x390 x391 x392 x393 x394 x395 x396 x397 x398 x399 x400 x401 x402 x403 x404 x405 x406) 
theorem m23_0_9g (vf57_0 : Tf57_0) (vf48_0 : Tf48_0) (vf49_0 : Tf49_0) (vf58_0 : Tf58_0) (vJ23_0_0 : TJ23_0_0) (vJ23_0_2 : TJ23_0_2) (vJ23_0_4 : TJ23_0_4) (vJ23_0_6 : TJ23_0_6) (vJ23_0_8 : TJ23_0_8) (vJ23_0_10 : TJ23_0_10) (vJ23_0_12 : TJ23_0_12) (vJ23_0_14 : TJ23_0_14) (vJ23_0_16 : TJ23_0_16) (α : Type) (K : Exit → St → Option α) : F23_0_9 (J23_0_9g vJ23_0_8) α K = p23_0_13.unc fun σ => runM Try.prog (E23_0g vf57_0 vf48_0 vf49_0 vf58_0) sh23 (c23_0_24g vJ23_0_0 vJ23_0_2 vJ23_0_4 vJ23_0_6 vJ23_0_8 vJ23_0_10 vJ23_0_12 vJ23_0_14 vJ23_0_16) K σ := by kernel_rfl
theorem m23_0_9 : ∀ (α : Type) (K : Exit → St → Option α), F23_0_9 J23_0_9 α K = p23_0_13.unc fun σ => runM Try.prog E23_0 sh23 c23_0_24 K σ := m23_0_9g f57_0 f48_0 f49_0 f58_0 J23_0_0 J23_0_2 J23_0_4 J23_0_6 J23_0_8 J23_0_10 J23_0_12 J23_0_14 J23_0_16
--CODE 24 0
abbrev TJ23_0_11 : Type 1 := (α : Type) → Int → Int → Int → Int → Int → (Int → Int → Option α) → Option α
def J23_0_11g (vJ23_0_10 : TJ23_0_10) (α : Type) (x456 x457 x462 x463 x469 : Int) (k1 : Int → Int → Option α) : Option α :=
 vJ23_0_10 α x469
 (k1 (w64 (x456 + (w64 (x469 * x463)))) (w64 (x457 + (w64 (x469 * x462)))))
 (fun x533 => k1 (w64 (x456 + (w64 (x469 * x462)))) (w64 (x457 + (w64 (x469 * x463)))))
noncomputable def J23_0_11 (α : Type) (x456 x457 x462 x463 x469 : Int) (k1 : Int → Int → Option α) : Option α := J23_0_11g J23_0_10 α x456 x457 x462 x463 x469 k1
def F23_0_11 (v : TJ23_0_11) (α : Type) (K : Exit → St → Option α) : Int → Int → Int → Int → Int → Int → Int → Int → Int → Int → Int → Int → Int → Int → Int → Int → Int → Int → Int → Int → Int → Int → Int → Int → Int → Int → Int → Int → Int → Int → Int → Int → Int → Int → Int → Int → Int → Option α := fun x454 x455 x456 x457 x458 x459 x460 x461 x462 x463 x464 x465 x466 x467 x468 x469 x470 x471 x472 x473 x474 x475 x476 x477 x478 x479 x480 x481 x482 x483 x484 x485 x486 x487 x488 x489 x490 => v α x456 x457 x462 x463 x469 (fun (y1 : Int) (y2 : Int) => u23_0_19 (K .normal) x454 x455 y1 y2 x458 x459 x460 x461 x462 x463 x464 x465 x466 x467 x468 x469 x470 x471 x472 x473 x474 x475 x476 x477 x478 x479 x480 x481 x482 x483 x484 x485 x486 x487 x488 x489 x490) 
theorem m23_0_11g (vf57_0 : Tf57_0) (vf48_0 : Tf48_0) (vf49_0 : Tf49_0) (vf58_0 : Tf58_0) (vJ23_0_0 : TJ23_0_0) (vJ23_0_2 : TJ23_0_2) (vJ23_0_4 : TJ23_0_4) (vJ23_0_6 : TJ23_0_6) (vJ23_0_8 : TJ23_0_8) (vJ23_0_10 : TJ23_0_10) (vJ23_0_12 : TJ23_0_12) (vJ23_0_14 : TJ23_0_14) (vJ23_0_16 : TJ23_0_16) (α : Type) (K : Exit → St → Option α) : F23_0_11 (J23_0_11g vJ23_0_10) α K = p23_0_16.unc fun σ => runM Try.prog (E23_0g vf57_0 vf48_0 vf49_0 vf58_0) sh23 (c23_0_24g vJ23_0_0 vJ23_0_2 vJ23_0_4 vJ23_0_6 vJ23_0_8 vJ23_0_10 vJ23_0_12 vJ23_0_14 vJ23_0_16) K σ := by kernel_rfl
theorem m23_0_11 : ∀ (α : Type) (K : Exit → St → Option α), F23_0_11 J23_0_11 α K = p23_0_16.unc fun σ => runM Try.prog E23_0 sh23 c23_0_24 K σ := m23_0_11g f57_0 f48_0 f49_0 f58_0 J23_0_0 J23_0_2 J23_0_4 J23_0_6 J23_0_8 J23_0_10 J23_0_12 J23_0_14 J23_0_16
--CODE 24 0
abbrev TJ23_0_13 : Type 1 := (α : Type) → Int → Int → Int → Int → Int → (Int → Int → Option α) → Option α
def J23_0_13g (vJ23_0_12 : TJ23_0_12) (α : Type) (x550 x551 x552 x553 x564 : Int) (k1 : Int → Int → Option α) : Option α :=
 vJ23_0_12 α x564
 (k1 (w64 (x550 + (w64 (x564 * x553)))) (w64 (x551 + (w64 (x564 * x552)))))
 (fun x627 => k1 (w64 (x550 + (w64 (x564 * x552)))) (w64 (x551 + (w64 (x564 * x553)))))
noncomputable def J23_0_13 (α : Type) (x550 x551 x552 x553 x564 : Int) (k1 : Int → Int → Option α) : Option α := J23_0_13g J23_0_12 α x550 x551 x552 x553 x564 k1
def F23_0_13 (v : TJ23_0_13) (α : Type) (K : Exit → St → Option α) : Int → Int → Int → Int → Int → Int → Int → Int → Int → Int → Int → Int → Int → Int → Int → Int → Int → Int → Int → Int → Int → Int → Int → Int → Int → Int → Int → Int → Int → Int → Int → Int → Int → Int → Int → Int → Int → Option α := fun x548 x549 x550 x551 x552 x553 x554 x555 x556 x557 x558 x559 x560 x561 x562 x563 x564 x565 x566 x567 x568 x569 x570 x571 x572 x573 x574 x575 x576 x577 x578 x579 x580 x581 x582 x583 x584 => v α x550 x551 x552 x553 x564 (fun (y1 : Int) (y2 : Int) => u23_0_23 (K .normal) x548 x549 y1 y2 x552 x553 x554 x555 x556 x557 x558 x559 x560 x561 x562 x563 x564 x565 x566 x567 x568 x569 x570 x571 x572 x573 x574 x575 x576 x577 x578 x579 x580 x581 x582 x583 x584) 
theorem m23_0_13g (vf57_0 : Tf57_0) (vf48_0 : Tf48_0) (vf49_0 : Tf49_0) (vf58_0 : Tf58_0) (vJ23_0_0 : TJ23_0_0) (vJ23_0_2 : TJ23_0_2) (vJ23_0_4 : TJ23_0_4) (vJ23_0_6 : TJ23_0_6) (vJ23_0_8 : TJ23_0_8) (vJ23_0_10 : TJ23_0_10) (vJ23_0_12 : TJ23_0_12) (vJ23_0_14 : TJ23_0_14) (vJ23_0_16 : TJ23_0_16) (α : Type) (K : Exit → St → Option α) : F23_0_13 (J23_0_13g vJ23_0_12) α K = p23_0_22.unc fun σ => runM Try.prog (E23_0g vf57_0 vf48_0 vf49_0 vf58_0) sh23 (c23_0_24g vJ23_0_0 vJ23_0_2 vJ23_0_4 vJ23_0_6 vJ23_0_8 vJ23_0_10 vJ23_0_12 vJ23_0_14 vJ23_0_16) K σ := by kernel_rfl
theorem m23_0_13 : ∀ (α : Type) (K : Exit → St → Option α), F23_0_13 J23_0_13 α K = p23_0_22.unc fun σ => runM Try.prog E23_0 sh23 c23_0_24 K σ := m23_0_13g f57_0 f48_0 f49_0 f58_0 J23_0_0 J23_0_2 J23_0_4 J23_0_6 J23_0_8 J23_0_10 J23_0_12 J23_0_14 J23_0_16
--CODE 24 0
abbrev TJ23_0_15 : Type 1 := (α : Type) → Int → Int → Int → Int → Int → (Int → Int → Option α) → Option α
def J23_0_15g (vJ23_0_14 : TJ23_0_14) (α : Type) (x634 x635 x638 x639 x649 : Int) (k1 : Int → Int → Option α) : Option α :=
 vJ23_0_14 α x649
 (k1 (w64 (x634 + (w64 (x649 * x639)))) (w64 (x635 + (w64 (x649 * x638)))))
 (fun x711 => k1 (w64 (x634 + (w64 (x649 * x638)))) (w64 (x635 + (w64 (x649 * x639)))))
noncomputable def J23_0_15 (α : Type) (x634 x635 x638 x639 x649 : Int) (k1 : Int → Int → Option α) : Option α := J23_0_15g J23_0_14 α x634 x635 x638 x639 x649 k1
def F23_0_15 (v : TJ23_0_15) (α : Type) (K : Exit → St → Option α) : Int → Int → Int → Int → Int → Int → Int → Int → Int → Int → Int → Int → Int → Int → Int → Int → Int → Int → Int → Int → Int → Int → Int → Int → Int → Int → Int → Int → Int → Int → Int → Int → Int → Int → Int → Int → Int → Option α := fun x632 x633 x634 x635 x636 x637 x638 x639 x640 x641 x642 x643 x644 x645 x646 x647 x648 x649 x650 x651 x652 x653 x654 x655 x656 x657 x658 x659 x660 x661 x662 x663 x664 x665 x666 x667 x668 => v α x634 x635 x638 x639 x649 (fun (y1 : Int) (y2 : Int) => u23_0_26 (K .normal) x632 x633 y1 y2 x636 x637 x638 x639 x640 x641 x642 x643 x644 x645 x646 x647 x648 x649 x650 x651 x652 x653 x654 x655 x656 x657 x658 x659 x660 x661 x662 x663 x664 x665 x666 x667 x668) 
theorem m23_0_15g (vf57_0 : Tf57_0) (vf48_0 : Tf48_0) (vf49_0 : Tf49_0) (vf58_0 : Tf58_0) (vJ23_0_0 : TJ23_0_0) (vJ23_0_2 : TJ23_0_2) (vJ23_0_4 : TJ23_0_4) (vJ23_0_6 : TJ23_0_6) (vJ23_0_8 : TJ23_0_8) (vJ23_0_10 : TJ23_0_10) (vJ23_0_12 : TJ23_0_12) (vJ23_0_14 : TJ23_0_14) (vJ23_0_16 : TJ23_0_16) (α : Type) (K : Exit → St → Option α) : F23_0_15 (J23_0_15g vJ23_0_14) α K = p23_0_23.unc fun σ => runM Try.prog (E23_0g vf57_0 vf48_0 vf49_0 vf58_0) sh23 (c23_0_24g vJ23_0_0 vJ23_0_2 vJ23_0_4 vJ23_0_6 vJ23_0_8 vJ23_0_10 vJ23_0_12 vJ23_0_14 vJ23_0_16) K σ := by kernel_rfl
theorem m23_0_15 : ∀ (α : Type) (K : Exit → St → Option α), F23_0_15 J23_0_15 α K = p23_0_23.unc fun σ => runM Try.prog E23_0 sh23 c23_0_24 K σ := m23_0_15g f57_0 f48_0 f49_0 f58_0 J23_0_0 J23_0_2 J23_0_4 J23_0_6 J23_0_8 J23_0_10 J23_0_12 J23_0_14 J23_0_16
--CODE 24 0
abbrev TJ23_0_17 : Type 1 := (α : Type) → Int → Int → Int → Int → Int → (Int → Int → Option α) → Option α
def J23_0_17g (vJ23_0_16 : TJ23_0_16) (α : Type) (x718 x719 x724 x725 x734 : Int) (k1 : Int → Int → Option α) : Option α :=
 vJ23_0_16 α x734
 (k1 (w64 (x718 + (w64 (x734 * x725)))) (w64 (x719 + (w64 (x734 * x724)))))
 (fun x795 => k1 (w64 (x718 + (w64 (x734 * x724)))) (w64 (x719 + (w64 (x734 * x725)))))
noncomputable def J23_0_17 (α : Type) (x718 x719 x724 x725 x734 : Int) (k1 : Int → Int → Option α) : Option α := J23_0_17g J23_0_16 α x718 x719 x724 x725 x734 k1
def F23_0_17 (v : TJ23_0_17) (α : Type) (K : Exit → St → Option α) : Int → Int → Int → Int → Int → Int → Int → Int → Int → Int → Int → Int → Int → Int → Int → Int → Int → Int → Int → Int → Int → Int → Int → Int → Int → Int → Int → Int → Int → Int → Int → Int → Int → Int → Int → Int → Int → Option α := fun x716 x717 x718 x719 x720 x721 x722 x723 x724 x725 x726 x727 x728 x729 x730 x731 x732 x733 x734 x735 x736 x737 x738 x739 x740 x741 x742 x743 x744 x745 x746 x747 x748 x749 x750 x751 x752 => v α x718 x719 x724 x725 x734 (fun (y1 : Int) (y2 : Int) => u23_0_29 (K .normal) x716 x717 y1 y2 x720 x721 x722 x723 x724 x725 x726 x727 x728 x729 x730 x731 x732 x733 x734 x735 x736 x737 x738 x739 x740 x741 x742 x743 x744 x745 x746 x747 x748 x749 x750 x751 x752) 
theorem m23_0_17g (vf57_0 : Tf57_0) (vf48_0 : Tf48_0) (vf49_0 : Tf49_0) (vf58_0 : Tf58_0) (vJ23_0_0 : TJ23_0_0) (vJ23_0_2 : TJ23_0_2) (vJ23_0_4 : TJ23_0_4) (vJ23_0_6 : TJ23_0_6) (vJ23_0_8 : TJ23_0_8) (vJ23_0_10 : TJ23_0_10) (vJ23_0_12 : TJ23_0_12) (vJ23_0_14 : TJ23_0_14) (vJ23_0_16 : TJ23_0_16) (α : Type) (K : Exit → St → Option α) : F23_0_17 (J23_0_17g vJ23_0_16) α K = p23_0_26.unc fun σ => runM Try.prog (E23_0g vf57_0 vf48_0 vf49_0 vf58_0) sh23 (c23_0_24g vJ23_0_0 vJ23_0_2 vJ23_0_4 vJ23_0_6 vJ23_0_8 vJ23_0_10 vJ23_0_12 vJ23_0_14 vJ23_0_16) K σ := by kernel_rfl
theorem m23_0_17 : ∀ (α : Type) (K : Exit → St → Option α), F23_0_17 J23_0_17 α K = p23_0_26.unc fun σ => runM Try.prog E23_0 sh23 c23_0_24 K σ := m23_0_17g f57_0 f48_0 f49_0 f58_0 J23_0_0 J23_0_2 J23_0_4 J23_0_6 J23_0_8 J23_0_10 J23_0_12 J23_0_14 J23_0_16
abbrev Tf23_0 : Type 1 := (α : Type) → Int → Int → Int → Int → Int → Int → Int → Int → Int → Int → Int → Int → Int → Int → Int → Int → Int → (Int → Int → Int → Int → Int → Int → Int → Option α) → Option α
def f23_0g (vJ23_0_1 : TJ23_0_1) (vJ23_0_11 : TJ23_0_11) (vJ23_0_13 : TJ23_0_13) (vJ23_0_15 : TJ23_0_15) (vJ23_0_17 : TJ23_0_17) (vJ23_0_3 : TJ23_0_3) (vJ23_0_5 : TJ23_0_5) (vJ23_0_7 : TJ23_0_7) (vJ23_0_9 : TJ23_0_9) (vf48_0 : Tf48_0) (vf49_0 : Tf49_0) (vf57_0 : Tf57_0) (vf58_0 : Tf58_0) (α : Type) (x1 x2 x3 x4 x5 x6 x7 x8 x9 x10 x11 x12 x13 x14 x15 x16 x17 : Int) (k1 : Int → Int → Int → Int → Int → Int → Int → Option α) : Option α :=
 vf57_0 α x10 x11 x12 x13 x14 x15
 (fun x18 x19 x20 x21 x22 x23 => vJ23_0_1 α 0 0 x18 x19 x1
 (fun x105 x106 => vJ23_0_3 α x105 x106 x20 x21 x2
 (fun x189 x190 => vJ23_0_5 α x189 x190 x22 x23 x3
 (fun x273 x274 => vf48_0 α (w64 (x273 * x16)) x17
 (fun x276 => vf49_0 α (w64 (x274 * x16)) x17
 (fun x277 => vf58_0 α x276 10000000
 (fun x278 => cK (!x278)
 (k1 0 0 0 0 0 0 8)
 (vf58_0 α x277 10000000
 (fun x279 => cK (!x279)
 (k1 0 0 0 0 0 0 8)
 (vf57_0 α x10 x11 x12 x13 x14 x15
 (fun x280 x281 x282 x283 x284 x285 => vJ23_0_7 α 0 0 x280 x281 x4
 (fun x367 x368 => vJ23_0_9 α x367 x368 x282 x283 x5
 (fun x451 x452 => vJ23_0_11 α x451 x452 x284 x285 x6
 (fun x535 x536 => vf48_0 α (w64 (x535 * x16)) x17
 (fun x538 => vf49_0 α (w64 (x536 * x16)) x17
 (fun x539 => vf58_0 α x538 10000000
 (fun x540 => cK (!x540)
 (k1 0 0 0 0 0 0 8)
 (vf58_0 α x539 10000000
 (fun x541 => cK (!x541)
 (k1 0 0 0 0 0 0 8)
 (vf57_0 α x10 x11 x12 x13 x14 x15
 (fun x542 x543 x544 x545 x546 x547 => vJ23_0_13 α 0 0 x542 x543 x7
 (fun x629 x630 => vJ23_0_15 α x629 x630 x544 x545 x8
 (fun x713 x714 => vJ23_0_17 α x713 x714 x546 x547 x9
 (fun x797 x798 => vf48_0 α (w64 (x797 * x16)) x17
 (fun x800 => vf49_0 α (w64 (x798 * x16)) x17
 (fun x801 => vf58_0 α x800 10000000
 (fun x802 => cK (!x802)
 (k1 0 0 0 0 0 0 8)
 (vf58_0 α x801 10000000
 (fun x803 => cK (!x803)
 (k1 0 0 0 0 0 0 8)
 (k1 x276 x277 x538 x539 x800 x801 0))))))))))))))))))))))))))))))
noncomputable def f23_0 (α : Type) (x1 x2 x3 x4 x5 x6 x7 x8 x9 x10 x11 x12 x13 x14 x15 x16 x17 : Int) (k1 : Int → Int → Int → Int → Int → Int → Int → Option α) : Option α := f23_0g J23_0_1 J23_0_11 J23_0_13 J23_0_15 J23_0_17 J23_0_3 J23_0_5 J23_0_7 J23_0_9 f48_0 f49_0 f57_0 f58_0 α x1 x2 x3 x4 x5 x6 x7 x8 x9 x10 x11 x12 x13 x14 x15 x16 x17 k1
def pa23_0 : PT (List DV) := pA [pV true [(dI .i64), (dI .i64), (dI .i64), (dI .i64), (dI .i64), (dI .i64), (dI .i64), (dI .i64), (dI .i64)], pV true [(dI .i64), (dI .i64), (dI .i64), (dI .i64), (dI .i64), (dI .i64)], pV false [(dI .i64)], pV false [(dI .i64)]]
def Fn23_0 (v : Tf23_0) (α : Type) (k : List RV → Option α) : Int → Int → Int → Int → Int → Int → Int → Int → Int → Int → Int → Int → Int → Int → Int → Int → Int → Option α := fun x1 x2 x3 x4 x5 x6 x7 x8 x9 x10 x11 x12 x13 x14 x15 x16 x17 => v α x1 x2 x3 x4 x5 x6 x7 x8 x9 x10 x11 x12 x13 x14 x15 x16 x17 (fun (y1 : Int) (y2 : Int) (y3 : Int) (y4 : Int) (y5 : Int) (y6 : Int) (y7 : Int) => ur23_0_0 k y1 y2 y3 y4 y5 y6 y7)
noncomputable def cm23_0g (vJ23_0_1 : TJ23_0_1) (vJ23_0_3 : TJ23_0_3) (vJ23_0_5 : TJ23_0_5) (vJ23_0_7 : TJ23_0_7) (vJ23_0_9 : TJ23_0_9) (vJ23_0_11 : TJ23_0_11) (vJ23_0_13 : TJ23_0_13) (vJ23_0_15 : TJ23_0_15) (vJ23_0_17 : TJ23_0_17) : MCode := (.seq (.region r23_2 [] (tO [2, 3, 4, 5, 8])) (.seq (.region r23_4 [] (tO [2, 3, 4, 5, 8, 10])) (.seq (.seq (.region r23_7 [] (tO [2, 3, 4, 5, 8, 10, 17])) (.block 0 (.loopU 4 td23_9 (.seq (.region r23_11 [] (tO [2, 3, 4, 5, 8, 10, 17, 18])) (.seq (.cond (.tmp 18) .skip (.exit 0)) (.seq (.block 1 (.seq (.region r23_17 [] (tO [2, 3, 4, 5, 8, 10, 11, 17])) (.seq (.region r23_19 [] (tO [2, 3, 4, 5, 8, 10, 11, 12, 13, 17])) (.seq (.seq (.region r23_22 [] (tO [2, 3, 4, 5, 8, 10, 11, 12, 13, 17, 21, 22])) (.block 2 (.loopU 4 td23_24 (.mark [⟨p23_0_2, F23_0_1 vJ23_0_1⟩, ⟨p23_0_3, F23_0_3 vJ23_0_3⟩, ⟨p23_0_6, F23_0_5 vJ23_0_5⟩, ⟨p23_0_12, F23_0_7 vJ23_0_7⟩, ⟨p23_0_13, F23_0_9 vJ23_0_9⟩, ⟨p23_0_16, F23_0_11 vJ23_0_11⟩, ⟨p23_0_22, F23_0_13 vJ23_0_13⟩, ⟨p23_0_23, F23_0_15 vJ23_0_15⟩, ⟨p23_0_26, F23_0_17 vJ23_0_17⟩] c23_0_24)))) (.seq (.region r23_43 [] (tO [2, 3, 4, 5, 8, 10, 11, 17])) (.seq (.region r23_45 [] (tO [2, 3, 4, 5, 8, 10, 17, 78])) (.cond (.tmp 78) (.seq (.region r23_48 [] (tO [8, 9])) .ret) .skip))))))) (.region r23_49 [] (tO [2, 3, 4, 5, 8, 10, 17])))))))) (.seq (.region r23_51 [] (tO [8, 9])) .ret))))
noncomputable def cm23_0 : MCode := cm23_0g J23_0_1 J23_0_3 J23_0_5 J23_0_7 J23_0_9 J23_0_11 J23_0_13 J23_0_15 J23_0_17
theorem gm23_0 : cm23_0.Good Try.prog E23_0 sh23 := ⟨trivial, ⟨trivial, ⟨⟨trivial, ⟨⟨trivial, ⟨⟨trivial, trivial⟩, ⟨⟨trivial, ⟨trivial, ⟨⟨trivial, ⟨⟨g23_0_24, m23_0_1, m23_0_3, m23_0_5, m23_0_7, m23_0_9, m23_0_11, m23_0_13, m23_0_15, m23_0_17, trivial⟩, by decide⟩⟩, ⟨trivial, ⟨trivial, ⟨⟨trivial, trivial⟩, trivial⟩⟩⟩⟩⟩⟩, trivial⟩⟩⟩, by decide⟩⟩, ⟨trivial, trivial⟩⟩⟩⟩
theorem fm23_0g (vf57_0 : Tf57_0) (vf48_0 : Tf48_0) (vf49_0 : Tf49_0) (vf58_0 : Tf58_0) (vJ23_0_1 : TJ23_0_1) (vJ23_0_3 : TJ23_0_3) (vJ23_0_5 : TJ23_0_5) (vJ23_0_7 : TJ23_0_7) (vJ23_0_9 : TJ23_0_9) (vJ23_0_11 : TJ23_0_11) (vJ23_0_13 : TJ23_0_13) (vJ23_0_15 : TJ23_0_15) (vJ23_0_17 : TJ23_0_17) (α : Type) (k : List RV → Option α) : Fn23_0 (f23_0g vJ23_0_1 vJ23_0_11 vJ23_0_13 vJ23_0_15 vJ23_0_17 vJ23_0_3 vJ23_0_5 vJ23_0_7 vJ23_0_9 vf48_0 vf49_0 vf57_0 vf58_0) α k = pa23_0.unc fun ds => fnM Try.prog (E23_0g vf57_0 vf48_0 vf49_0 vf58_0) sh23 (cm23_0g vJ23_0_1 vJ23_0_3 vJ23_0_5 vJ23_0_7 vJ23_0_9 vJ23_0_11 vJ23_0_13 vJ23_0_15 vJ23_0_17) rs23 k ds := by kernel_rfl
theorem fm23_0 : ∀ (α : Type) (k : List RV → Option α), Fn23_0 f23_0 α k = pa23_0.unc fun ds => fnM Try.prog E23_0 sh23 cm23_0 rs23 k ds := fm23_0g f57_0 f48_0 f49_0 f58_0 J23_0_1 J23_0_3 J23_0_5 J23_0_7 J23_0_9 J23_0_11 J23_0_13 J23_0_15 J23_0_17
theorem is23 : FnIs Try.prog 23 nt23 tr23 tl23 cm23_0.erase rs23 := ⟨Try.f23, Try.func23, rfl, by kernel_rfl, by kernel_rfl, by kernel_rfl⟩
theorem io23_0 : InstOk Try.prog 23 nt23 ⟨pa23_0, Fn23_0 f23_0⟩ := inst_ok eo23_0 followsTry is23 ⟨⟨sh23, cm23_0, by kernel_rfl, gm23_0, fm23_0⟩⟩
abbrev nt35 : Nat := 5
def sh35 : List (Nat × List Sh) := []
def r35_2 : List AOper := [oO 2 (.mv (.const (.bool false)))]
def r35_4 : List AOper := [oM 3 0, oO 4 (.call 58 [(.tmp 3), (kI 1000)]), oM 2 4]
def tr35 : List (Nat × Tidy) := [tT 0 [0], tT 1 [2]]
def tl35 : List (Nat × Tidy) := []
def rs35 : List AResV := [.tmp 2]
def pr35_0_0 : PT (List RV) := pRs [pR false [rD dB]]
def ur35_0_0 {β : Type} (g : List RV → β) : Bool → β := pr35_0_0.unc g
def E35_0g (vf58_0 : Tf58_0) : EnvK := EnvK.of [⟨58, nt58, [⟨pa58_0, Fn58_0 vf58_0⟩]⟩] noSeq
noncomputable def E35_0 : EnvK := E35_0g f58_0
theorem eo35_0 : E35_0.Ok Try.prog := EnvK.of_ok noSeq_ok ⟨⟨io58_0, trivial⟩, trivial⟩
abbrev Tf35_0 : Type 1 := (α : Type) → Int → (Bool → Option α) → Option α
def f35_0g (vf58_0 : Tf58_0) (α : Type) (x1 : Int) (k1 : Bool → Option α) : Option α :=
 vf58_0 α x1 1000
 (fun x2 => k1 x2)
noncomputable def f35_0 (α : Type) (x1 : Int) (k1 : Bool → Option α) : Option α := f35_0g f58_0 α x1 k1
def pa35_0 : PT (List DV) := pA [pV false [(dI .i64)]]
def Fn35_0 (v : Tf35_0) (α : Type) (k : List RV → Option α) : Int → Option α := fun x1 => v α x1 (fun (y1 : Bool) => ur35_0_0 k y1)
noncomputable def cm35_0g  : MCode := (.seq (.region r35_2 [] (tO [0])) (.seq (.region r35_4 [] (tO [2])) .ret))
noncomputable def cm35_0 : MCode := cm35_0g 
theorem gm35_0 : cm35_0.Good Try.prog E35_0 sh35 := ⟨trivial, ⟨trivial, trivial⟩⟩
theorem fm35_0g (vf58_0 : Tf58_0)  (α : Type) (k : List RV → Option α) : Fn35_0 (f35_0g vf58_0) α k = pa35_0.unc fun ds => fnM Try.prog (E35_0g vf58_0) sh35 (cm35_0g ) rs35 k ds := by kernel_rfl
theorem fm35_0 : ∀ (α : Type) (k : List RV → Option α), Fn35_0 f35_0 α k = pa35_0.unc fun ds => fnM Try.prog E35_0 sh35 cm35_0 rs35 k ds := fm35_0g f58_0
theorem is35 : FnIs Try.prog 35 nt35 tr35 tl35 cm35_0.erase rs35 := ⟨Try.f35, Try.func35, rfl, by kernel_rfl, by kernel_rfl, by kernel_rfl⟩
theorem io35_0 : InstOk Try.prog 35 nt35 ⟨pa35_0, Fn35_0 f35_0⟩ := inst_ok eo35_0 followsTry is35 ⟨⟨sh35, cm35_0, by kernel_rfl, gm35_0, fm35_0⟩⟩
abbrev nt9 : Nat := 34
def sh9 : List (Nat × List Sh) := [(5, [.int .i64, .int .i64, .int .i64, .int .i64, .int .i64, .int .i64]), (14, [.int .i64]), (21, [.int .i64]), (28, [.int .i64]), (32, [.int .i64])]
def r9_2 : List AOper := [oO 1 (.box (.tmp 0)), oO 2 (.mv (kI 0))]
def r9_4 : List AOper := [oO 5 (.load true 6 (.tmp 1)), oO 6 (.call 26 [(.tmp 5)]), oO 3 (.alloc [(cI 0), (cI 0), (cI 0), (cI 0), (cI 0), (cI 0)]), oD (.store 6 (.tmp 3) (.tmp 6))]
def r9_7 : List AOper := [oO 4 (.mv (kI 0))]
def td9_9 : Option Tidy := (tO [3, 4])
def r9_12 : List AOper := [oM 7 4, oO 8 (.bin .lss 3 (.tmp 7) (kI 3))]
def r9_18 : List AOper := [oM 11 4, oO 12 (.iaddr 2 (some 3) (.tmp 3) (.tmp 11)), oO 13 (.faddr 0 (.tmp 12)), oO 14 (.load false 1 (.tmp 13)), oO 15 (.call 27 [(.tmp 14)]), oO 16 (.pure (oB (.unOp .not 4 (.tmp 15)) 4)), oM 17 16, oG 18 (.mv (.tmp 4)) 17 false, oG 19 (.iaddr 2 (some 3) (.tmp 3) (.tmp 18)) 17 false, oG 20 (.faddr 1 (.tmp 19)) 17 false, oG 21 (.load false 1 (.tmp 20)) 17 false, oG 22 (.call 27 [(.tmp 21)]) 17 false, oG 23 (.pure (oB (.unOp .not 4 (.tmp 22)) 4)) 17 false, oO 24 (.pick (.tmp 17) (.const (.bool true)) (.tmp 23))]
def r9_21 : List AOper := [oO 2 (.mv (kI 2))]
def r9_23 : List AOper := [oM 25 4, oO 26 (.iaddr 2 (some 3) (.tmp 3) (.tmp 25)), oO 27 (.faddr 0 (.tmp 26)), oO 28 (.load false 1 (.tmp 27)), oM 29 4, oO 30 (.iaddr 2 (some 3) (.tmp 3) (.tmp 29)), oO 31 (.faddr 1 (.tmp 30)), oO 32 (.load false 1 (.tmp 31)), oO 33 (.bin .gtr 3 (.tmp 28) (.tmp 32))]
def r9_26 : List AOper := [oO 2 (.mv (kI 10))]
def r9_27 : List AOper := [oM 9 4, oO 10 (.bin .add 3 (.tmp 9) (kI 1)), oM 4 10]
def r9_29 : List AOper := [oO 2 (.mv (kI 0))]
def tr9 : List (Nat × Tidy) := [tT 0 [1], tT 1 [3], tT 2 [3, 4], tT 3 [3, 4, 8], tT 5 [3, 4, 24], tT 6 [2], tT 7 [3, 4, 33], tT 8 [2], tT 4 [3, 4], tT 9 [2]]
def tl9 : List (Nat × Tidy) := [tT 3 [3, 4]]
def rs9 : List AResV := [.tmp 2]
def p9_0_0 : PT St := pS [sl 3 (aV false [(cPtr 3 0)]), sl 4 (aV false [(cD (dI .i64))]), sl 8 (aV false [(cD dB)])] [eBox 3 [(cD (dI .i64)), (cD (dI .i64)), (cD (dI .i64)), (cD (dI .i64)), (cD (dI .i64)), (cD (dI .i64))]]
def u9_0_0 {β : Type} (g : St → β) : Int → Bool → Int → Int → Int → Int → Int → Int → β := p9_0_0.unc g
def p9_0_1 : PT St := pS [sl 3 (aV false [(cPtr 3 0)]), sl 4 (aV false [(cD (dI .i64))]), sl 24 (aV false [(cD dB)])] [eBox 3 [(cD (dI .i64)), (cD (dI .i64)), (cD (dI .i64)), (cD (dI .i64)), (cD (dI .i64)), (cD (dI .i64))]]
def u9_0_1 {β : Type} (g : St → β) : Int → Bool → Int → Int → Int → Int → Int → Int → β := p9_0_1.unc g
def p9_0_2 : PT St := pS [sl 3 (aV false [(cPtr 3 0)]), sl 4 (aV false [(cD (dI .i64))]), sl 33 (aV false [(cD dB)])] [eBox 3 [(cD (dI .i64)), (cD (dI .i64)), (cD (dI .i64)), (cD (dI .i64)), (cD (dI .i64)), (cD (dI .i64))]]
def u9_0_2 {β : Type} (g : St → β) : Int → Bool → Int → Int → Int → Int → Int → Int → β := p9_0_2.unc g
def p9_0_3 : PT St := pS [sl 3 (aV false [(cPtr 3 0)]), sl 4 (aV false [(cD (dI .i64))])] [eBox 3 [(cD (dI .i64)), (cD (dI .i64)), (cD (dI .i64)), (cD (dI .i64)), (cD (dI .i64)), (cD (dI .i64))]]
def u9_0_3 {β : Type} (g : St → β) : Int → Int → Int → Int → Int → Int → Int → β := p9_0_3.unc g
def p9_0_4 : PT St := pS [sl 2 (aV false [(cD (dI .i64))])] []
def u9_0_4 {β : Type} (g : St → β) : Int → β := p9_0_4.unc g
def pr9_0_0 : PT (List RV) := pRs [pR false [rD (dI .i64)]]
def ur9_0_0 {β : Type} (g : List RV → β) : Int → β := pr9_0_0.unc g
def E9_0g (vf26_0 : Tf26_0) (vf27_0 : Tf27_0) : EnvK := EnvK.of [⟨26, nt26, [⟨pa26_0, Fn26_0 vf26_0⟩]⟩, ⟨27, nt27, [⟨pa27_0, Fn27_0 vf27_0⟩]⟩] noSeq
noncomputable def E9_0 : EnvK := E9_0g f26_0 f27_0
theorem eo9_0 : E9_0.Ok Try.prog := EnvK.of_ok noSeq_ok ⟨⟨io26_0, trivial⟩, ⟨io27_0, trivial⟩, trivial⟩
noncomputable def c9_0_22g  : MCode := (.region r9_23 [] (tO [3, 4, 33]))
noncomputable def c9_0_22 : MCode := c9_0_22g 
theorem g9_0_22 : c9_0_22.Good Try.prog E9_0 sh9 := trivial
--CODE 22 0
abbrev TJ9_0_1 : Type 1 := (α : Type) → Int → Int → Int → Int → Int → Int → Int → (Bool → Option α) → Option α
def J9_0_1g  (α : Type) (x44 x46 x47 x48 x49 x50 x51 : Int) (k1 : Bool → Option α) : Option α :=
 cK (x44 == 2)
 (cK (x44 == 2)
 (k1 (decide (x51 < x50)))
 (cK (x44 == 1)
 (k1 (decide (x49 < x50)))
 (cK (x44 == 0)
 (k1 (decide (x47 < x50)))
 (none))))
 (cK (x44 == 1)
 (cK (x44 == 2)
 (k1 (decide (x51 < x48)))
 (cK (x44 == 1)
 (k1 (decide (x49 < x48)))
 (cK (x44 == 0)
 (k1 (decide (x47 < x48)))
 (none))))
 (cK (x44 == 0)
 (cK (x44 == 2)
 (k1 (decide (x51 < x46)))
 (cK (x44 == 1)
 (k1 (decide (x49 < x46)))
 (cK (x44 == 0)
 (k1 (decide (x47 < x46)))
 (none))))
 (none)))
noncomputable def J9_0_1 (α : Type) (x44 x46 x47 x48 x49 x50 x51 : Int) (k1 : Bool → Option α) : Option α := J9_0_1g  α x44 x46 x47 x48 x49 x50 x51 k1
def F9_0_1 (v : TJ9_0_1) (α : Type) (K : Exit → St → Option α) : Int → Bool → Int → Int → Int → Int → Int → Int → Option α := fun x44 x45 x46 x47 x48 x49 x50 x51 => v α x44 x46 x47 x48 x49 x50 x51 (fun (y1 : Bool) => u9_0_2 (K .normal) x44 y1 x46 x47 x48 x49 x50 x51) 
theorem m9_0_1g (vf26_0 : Tf26_0) (vf27_0 : Tf27_0)  (α : Type) (K : Exit → St → Option α) : F9_0_1 (J9_0_1g ) α K = p9_0_1.unc fun σ => runM Try.prog (E9_0g vf26_0 vf27_0) sh9 (c9_0_22g ) K σ := by kernel_rfl
theorem m9_0_1 : ∀ (α : Type) (K : Exit → St → Option α), F9_0_1 J9_0_1 α K = p9_0_1.unc fun σ => runM Try.prog E9_0 sh9 c9_0_22 K σ := m9_0_1g f26_0 f27_0
noncomputable def c9_0_17g  : MCode := (.region r9_18 [] (tO [3, 4, 24]))
noncomputable def c9_0_17 : MCode := c9_0_17g 
theorem g9_0_17 : c9_0_17.Good Try.prog E9_0 sh9 := trivial
--CODE 17 0
abbrev TJ9_0_0 : Type 1 := (α : Type) → Int → Int → Int → Int → Int → Int → Int → (Bool → Option α) → Option α
def J9_0_0g (vf27_0 : Tf27_0) (α : Type) (x21 x23 x24 x25 x26 x27 x28 : Int) (k1 : Bool → Option α) : Option α :=
 cK (x21 == 2)
 (vf27_0 α x27
 (fun x30 => cK (!x30)
 (k1 true)
 (cK (x21 == 2)
 (vf27_0 α x28
 (fun x31 => k1 (!x31)))
 (cK (x21 == 1)
 (vf27_0 α x26
 (fun x32 => k1 (!x32)))
 (cK (x21 == 0)
 (vf27_0 α x24
 (fun x33 => k1 (!x33)))
 (none))))))
 (cK (x21 == 1)
 (vf27_0 α x25
 (fun x34 => cK (!x34)
 (k1 true)
 (cK (x21 == 2)
 (vf27_0 α x28
 (fun x35 => k1 (!x35)))
 (cK (x21 == 1)
 (vf27_0 α x26
 (fun x36 => k1 (!x36)))
 (cK (x21 == 0)
 (vf27_0 α x24
 (fun x37 => k1 (!x37)))
 (none))))))
 (cK (x21 == 0)
 (vf27_0 α x23
 (fun x38 => cK (!x38)
 (k1 true)
 (cK (x21 == 2)
 (vf27_0 α x28
 (fun x39 => k1 (!x39)))
 (cK (x21 == 1)
 (vf27_0 α x26
 (fun x40 => k1 (!x40)))
 (cK (x21 == 0)
 (vf27_0 α x24
 (fun x41 => k1 (!x41)))
 (none))))))
 (none)))
noncomputable def J9_0_0 (α : Type) (x21 x23 x24 x25 x26 x27 x28 : Int) (k1 : Bool → Option α) : Option α := J9_0_0g f27_0 α x21 x23 x24 x25 x26 x27 x28 k1
def F9_0_0 (v : TJ9_0_0) (α : Type) (K : Exit → St → Option α) : Int → Bool → Int → Int → Int → Int → Int → Int → Option α := fun x21 x22 x23 x24 x25 x26 x27 x28 => v α x21 x23 x24 x25 x26 x27 x28 (fun (y1 : Bool) => u9_0_1 (K .normal) x21 y1 x23 x24 x25 x26 x27 x28) 
theorem m9_0_0g (vf26_0 : Tf26_0) (vf27_0 : Tf27_0)  (α : Type) (K : Exit → St → Option α) : F9_0_0 (J9_0_0g vf27_0) α K = p9_0_0.unc fun σ => runM Try.prog (E9_0g vf26_0 vf27_0) sh9 (c9_0_17g ) K σ := by kernel_rfl
theorem m9_0_0 : ∀ (α : Type) (K : Exit → St → Option α), F9_0_0 J9_0_0 α K = p9_0_0.unc fun σ => runM Try.prog E9_0 sh9 c9_0_17 K σ := m9_0_0g f26_0 f27_0
noncomputable def c9_0_9g (vJ9_0_0 : TJ9_0_0) (vJ9_0_1 : TJ9_0_1) : MCode := (.seq (.seq (.region r9_12 [] (tO [3, 4, 8])) (.cond (.tmp 8) .skip (.exit 0))) (.seq (.block 1 (.seq (.seq (.mark [⟨p9_0_0, F9_0_0 vJ9_0_0⟩] c9_0_17) (.cond (.tmp 24) (.seq (.region r9_21 [] (tO [2])) .ret) .skip)) (.seq (.mark [⟨p9_0_1, F9_0_1 vJ9_0_1⟩] c9_0_22) (.cond (.tmp 33) (.seq (.region r9_26 [] (tO [2])) .ret) .skip)))) (.region r9_27 [] (tO [3, 4]))))
noncomputable def c9_0_9 : MCode := c9_0_9g J9_0_0 J9_0_1
theorem g9_0_9 : c9_0_9.Good Try.prog E9_0 sh9 := ⟨⟨trivial, ⟨trivial, trivial⟩⟩, ⟨⟨⟨⟨g9_0_17, m9_0_0, trivial⟩, ⟨⟨trivial, trivial⟩, trivial⟩⟩, ⟨⟨g9_0_22, m9_0_1, trivial⟩, ⟨⟨trivial, trivial⟩, trivial⟩⟩⟩, trivial⟩⟩
--CODE 9 0
def S9_0_2g (vJ9_0_0 : TJ9_0_0) (vJ9_0_1 : TJ9_0_1) (α : Type) (x14 x15 x16 x17 x18 x19 x13 : Int) (kn : Int → Option α) (k1 : Int → Option α) (k2 : Int → Bool → Option α) : Option α :=
 cK (decide (x13 < 3))
 (vJ9_0_0 α x13 x14 x15 x16 x17 x18 x19
 (fun x42 => cK x42
 (k1 2)
 (vJ9_0_1 α x13 x14 x15 x16 x17 x18 x19
 (fun x53 => cK x53
 (k1 10)
 (kn (w64 (x13 + 1)))))))
 (k2 x13 (decide (x13 < 3)))
noncomputable def S9_0_2 (α : Type) (x14 x15 x16 x17 x18 x19 x13 : Int) (kn : Int → Option α) (k1 : Int → Option α) (k2 : Int → Bool → Option α) : Option α := S9_0_2g J9_0_0 J9_0_1 α x14 x15 x16 x17 x18 x19 x13 kn k1 k2
noncomputable def R9_0_2 (α : Type) (x14 x15 x16 x17 x18 x19 : Int) (k1 : Int → Option α) (k2 : Int → Bool → Option α) : Nat → Int → Option α
 | 0, _ => none
 | n + 1, x13 => S9_0_2 α x14 x15 x16 x17 x18 x19 x13 (R9_0_2 α x14 x15 x16 x17 x18 x19 k1 k2 n) k1 k2
noncomputable def L9_0_2 (α : Type) (x14 x15 x16 x17 x18 x19 : Int) (k1 : Int → Option α) (k2 : Int → Bool → Option α) (x13 : Int) : Option α := R9_0_2 α x14 x15 x16 x17 x18 x19 k1 k2 fuel x13
abbrev TL9_0_2 : Type 1 := (α : Type) → Int → Int → Int → Int → Int → Int → (Int → Option α) → (Int → Bool → Option α) → Int → Option α
def F9_0_2 (v : TL9_0_2) (α : Type) (K : Exit → St → Option α) : Int → Int → Int → Int → Int → Int → Int → Option α := fun x13 x14 x15 x16 x17 x18 x19 => v α x14 x15 x16 x17 x18 x19 (fun (y1 : Int) => u9_0_4 (K .ret) y1) (fun (y1 : Int) (y2 : Bool) => u9_0_0 (K (.exit 0)) y1 y2 x14 x15 x16 x17 x18 x19) x13
theorem r9_0_2g (vf26_0 : Tf26_0) (vf27_0 : Tf27_0) (vJ9_0_0 : TJ9_0_0) (vJ9_0_1 : TJ9_0_1) (α : Type) (K : Exit → St → Option α) (Kn : St → Option α) (x13 x14 x15 x16 x17 x18 x19 : Int) : u9_0_3 (fun σ => runM Try.prog (E9_0g vf26_0 vf27_0) sh9 (c9_0_9g vJ9_0_0 vJ9_0_1) (thenK (fun σ => tidyK td9_9 σ Kn) K) σ) x13 x14 x15 x16 x17 x18 x19 = S9_0_2g vJ9_0_0 vJ9_0_1 α x14 x15 x16 x17 x18 x19 x13 (fun x13 => u9_0_3 Kn x13 x14 x15 x16 x17 x18 x19) (fun (y1 : Int) => u9_0_4 (K .ret) y1) (fun (y1 : Int) (y2 : Bool) => u9_0_0 (K (.exit 0)) y1 y2 x14 x15 x16 x17 x18 x19) := by kernel_rfl
theorem r9_0_2 (α : Type) (K : Exit → St → Option α) (Kn : St → Option α) (x13 x14 x15 x16 x17 x18 x19 : Int) : u9_0_3 (fun σ => runM Try.prog E9_0 sh9 c9_0_9 (thenK (fun σ => tidyK td9_9 σ Kn) K) σ) x13 x14 x15 x16 x17 x18 x19 = S9_0_2 α x14 x15 x16 x17 x18 x19 x13 (fun x13 => u9_0_3 Kn x13 x14 x15 x16 x17 x18 x19) (fun (y1 : Int) => u9_0_4 (K .ret) y1) (fun (y1 : Int) (y2 : Bool) => u9_0_0 (K (.exit 0)) y1 y2 x14 x15 x16 x17 x18 x19) := r9_0_2g f26_0 f27_0 J9_0_0 J9_0_1 α K Kn x13 x14 x15 x16 x17 x18 x19
theorem t9_0_2 (α : Type) (K : Exit → St → Option α) : ∀ (n : Nat) (x13 x14 x15 x16 x17 x18 x19 : Int), R9_0_2 α x14 x15 x16 x17 x18 x19 (fun (y1 : Int) => u9_0_4 (K .ret) y1) (fun (y1 : Int) (y2 : Bool) => u9_0_0 (K (.exit 0)) y1 y2 x14 x15 x16 x17 x18 x19) n x13 = u9_0_3 (loopT (runM Try.prog E9_0 sh9 c9_0_9) td9_9 K n) x13 x14 x15 x16 x17 x18 x19 := by
 intro n
 induction n with
 | zero => intros; rfl
 | succ n ih => intro x13 x14 x15 x16 x17 x18 x19; exact (congrArg (fun kn => S9_0_2 α x14 x15 x16 x17 x18 x19 x13 kn (fun (y1 : Int) => u9_0_4 (K .ret) y1) (fun (y1 : Int) (y2 : Bool) => u9_0_0 (K (.exit 0)) y1 y2 x14 x15 x16 x17 x18 x19)) (funext fun x13 => ih x13 x14 x15 x16 x17 x18 x19)).trans (r9_0_2 α K (loopT (runM Try.prog E9_0 sh9 c9_0_9) td9_9 K n) x13 x14 x15 x16 x17 x18 x19).symm
theorem m9_0_2 : ∀ (α : Type) (K : Exit → St → Option α), F9_0_2 L9_0_2 α K = p9_0_3.unc fun σ => loopT (runM Try.prog E9_0 sh9 c9_0_9) td9_9 K fuel σ := fun α K => funext fun x13 => funext fun x14 => funext fun x15 => funext fun x16 => funext fun x17 => funext fun x18 => funext fun x19 => t9_0_2 α K fuel x13 x14 x15 x16 x17 x18 x19
abbrev Tf9_0 : Type 1 := (α : Type) → Int → Int → Int → Int → Int → Int → (Int → Option α) → Option α
def f9_0g (vL9_0_2 : TL9_0_2) (vf26_0 : Tf26_0) (α : Type) (x1 x2 x3 x4 x5 x6 : Int) (k1 : Int → Option α) : Option α :=
 vf26_0 α x1 x2 x3 x4 x5 x6
 (fun x7 x8 x9 x10 x11 x12 => vL9_0_2 α x7 x8 x9 x10 x11 x12
 (fun x55 => k1 x55)
 (fun x56 x57 => k1 0) 0)
noncomputable def f9_0 (α : Type) (x1 x2 x3 x4 x5 x6 : Int) (k1 : Int → Option α) : Option α := f9_0g L9_0_2 f26_0 α x1 x2 x3 x4 x5 x6 k1
def pa9_0 : PT (List DV) := pA [pV true [(dI .i64), (dI .i64), (dI .i64), (dI .i64), (dI .i64), (dI .i64)]]
def Fn9_0 (v : Tf9_0) (α : Type) (k : List RV → Option α) : Int → Int → Int → Int → Int → Int → Option α := fun x1 x2 x3 x4 x5 x6 => v α x1 x2 x3 x4 x5 x6 (fun (y1 : Int) => ur9_0_0 k y1)
noncomputable def cm9_0g (vL9_0_2 : TL9_0_2) : MCode := (.seq (.region r9_2 [] (tO [1])) (.seq (.region r9_4 [] (tO [3])) (.seq (.seq (.region r9_7 [] (tO [3, 4])) (.block 0 (.loop td9_9 [⟨p9_0_3, F9_0_2 vL9_0_2⟩] c9_0_9))) (.seq (.region r9_29 [] (tO [2])) .ret))))
noncomputable def cm9_0 : MCode := cm9_0g L9_0_2
theorem gm9_0 : cm9_0.Good Try.prog E9_0 sh9 := ⟨trivial, ⟨trivial, ⟨⟨trivial, ⟨g9_0_9, m9_0_2, trivial⟩⟩, ⟨trivial, trivial⟩⟩⟩⟩
theorem fm9_0g (vf26_0 : Tf26_0) (vf27_0 : Tf27_0) (vL9_0_2 : TL9_0_2) (α : Type) (k : List RV → Option α) : Fn9_0 (f9_0g vL9_0_2 vf26_0) α k = pa9_0.unc fun ds => fnM Try.prog (E9_0g vf26_0 vf27_0) sh9 (cm9_0g vL9_0_2) rs9 k ds := by kernel_rfl
theorem fm9_0 : ∀ (α : Type) (k : List RV → Option α), Fn9_0 f9_0 α k = pa9_0.unc fun ds => fnM Try.prog E9_0 sh9 cm9_0 rs9 k ds := fm9_0g f26_0 f27_0 L9_0_2
theorem is9 : FnIs Try.prog 9 nt9 tr9 tl9 cm9_0.erase rs9 := ⟨Try.f9, Try.func9, rfl, by kernel_rfl, by kernel_rfl, by kernel_rfl⟩
theorem io9_0 : InstOk Try.prog 9 nt9 ⟨pa9_0, Fn9_0 f9_0⟩ := inst_ok eo9_0 followsTry is9 ⟨⟨sh9, cm9_0, by kernel_rfl, gm9_0, fm9_0⟩⟩
end Go.AM.K
