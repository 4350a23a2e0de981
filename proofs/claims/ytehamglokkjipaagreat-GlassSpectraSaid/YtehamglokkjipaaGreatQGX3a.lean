/- Printed by KGen. -/
import Derived.Test.YtehamglokkjipaaGreatAcX
import Derived.Test.YtehamglokkjipaaGreatKMa
namespace Go.AM.K
open Go.Proofs
set_option maxRecDepth 100000
set_option linter.unusedVariables false
abbrev nt111 : Nat := 20
def sh111 : List (Nat × List Sh) := []
def r111_2 : List AOper := [oO 8 (.alloc [(cI 0), (cI 0)])]
def r111_4 : List AOper := [oM 9 0, oM 10 3, oM 11 2, oO 12 (.bin .sub 3 (.tmp 10) (.tmp 11)), oO 13 (.bin .mul 3 (.tmp 9) (.tmp 12)), oM 14 1, oM 15 2, oO 16 (.bin .mul 3 (.tmp 14) (.tmp 15)), oO 17 (.bin .add 3 (.tmp 13) (.tmp 16)), oM 18 3, oO 19 (.build [(cI 0), (cI 0)] [(0, 1, (.tmp 17)), (1, 1, (.tmp 18))]), oD (.store 2 (.tmp 8) (.tmp 19))]
def tr111 : List (Nat × Tidy) := [tT 0 [0, 1, 2, 3, 8], tT 1 [8]]
def tl111 : List (Nat × Tidy) := []
def rs111 : List AResV := [.cell 8 true 2]
def pr111_0_0 : PT (List RV) := pRs [pR true [rD (dI .i64), rD (dI .i64)]]
def ur111_0_0 {β : Type} (g : List RV → β) : Int → Int → β := pr111_0_0.unc g
def E111_0g  : EnvK := EnvK.of [] noSeq
noncomputable def E111_0 : EnvK := E111_0g 
theorem eo111_0 : E111_0.Ok Tryz.prog := EnvK.of_ok noSeq_ok trivial
abbrev Tf111_0 : Type 1 := (α : Type) → Int → Int → Int → Int → (Int → Int → Option α) → Option α
def f111_0g  (α : Type) (x1 x2 x3 x4 : Int) (k1 : Int → Int → Option α) : Option α :=
 k1 (w64 ((w64 (x1 * (w64 (x4 - x3)))) + (w64 (x2 * x3)))) x4
noncomputable def f111_0 (α : Type) (x1 x2 x3 x4 : Int) (k1 : Int → Int → Option α) : Option α := f111_0g  α x1 x2 x3 x4 k1
def pa111_0 : PT (List DV) := pA [pV false [(dI .i64)], pV false [(dI .i64)], pV false [(dI .i64)], pV false [(dI .i64)]]
def Fn111_0 (v : Tf111_0) (α : Type) (k : List RV → Option α) : Int → Int → Int → Int → Option α := fun x1 x2 x3 x4 => v α x1 x2 x3 x4 (fun (y1 : Int) (y2 : Int) => ur111_0_0 k y1 y2)
noncomputable def cm111_0g  : MCode := (.seq (.region r111_2 [] (tO [0, 1, 2, 3, 8])) (.seq (.region r111_4 [] (tO [8])) .ret))
noncomputable def cm111_0 : MCode := cm111_0g 
theorem gm111_0 : cm111_0.Good Tryz.prog E111_0 sh111 := ⟨trivial, ⟨trivial, trivial⟩⟩
theorem fm111_0g   (α : Type) (k : List RV → Option α) : Fn111_0 (f111_0g ) α k = pa111_0.unc fun ds => fnM Tryz.prog (E111_0g ) sh111 (cm111_0g ) rs111 k ds := by kernel_rfl
theorem fm111_0 : ∀ (α : Type) (k : List RV → Option α), Fn111_0 f111_0 α k = pa111_0.unc fun ds => fnM Tryz.prog E111_0 sh111 cm111_0 rs111 k ds := fm111_0g 
theorem is111 : FnIs Tryz.prog 111 nt111 tr111 tl111 cm111_0.erase rs111 := ⟨Tryz.f111, Tryz.func111, rfl, by kernel_rfl, by kernel_rfl, by kernel_rfl⟩
theorem io111_0 : InstOk Tryz.prog 111 nt111 ⟨pa111_0, Fn111_0 f111_0⟩ := inst_ok eo111_0 followsTry is111 ⟨⟨sh111, cm111_0, by kernel_rfl, gm111_0, fm111_0⟩⟩
abbrev nt75 : Nat := 25
def sh75 : List (Nat × List Sh) := [(9, [.sl]), (14, [.sl]), (17, [.int .i64]), (18, [.int .i64])]
def r75_2 : List AOper := [oO 2 (.box (.tmp 0)), oO 4 (.mv (kI 0))]
def r75_4 : List AOper := [oO 5 (.mv (kI 0))]
def td75_7 : Option Tidy := (some ⟨[1, 2, 5], true, [⟨true, 2, 2, 30202, 1⟩, ⟨true, 2, 3, 30203, 1⟩, ⟨true, 2, 4, 30204, 1⟩], []⟩)
def r75_10 : List AOper := [oM 6 5, oO 7 (.bin .add 3 (.tmp 6) (kI 1)), oO 8 (.faddr 2 (.tmp 2)), oO 9 (.load false 1 (.tmp 8)), oO 10 (.len (.tmp 9)), oO 11 (.bin .lss 3 (.tmp 7) (.tmp 10)), oM 12 11, oG 13 (.faddr 2 (.tmp 2)) 12 true, oG 14 (.load false 1 (.tmp 13)) 12 true, oG 15 (.mv (.tmp 5)) 12 true, oG 16 (.bin .add 3 (.tmp 15) (kI 1)) 12 true, oG 17 (.iaddr 1 none (.tmp 14) (.tmp 16)) 12 true, oG 18 (.load false 1 (.tmp 17)) 12 true, oG 19 (.mv (.tmp 1)) 12 true, oG 20 (.bin .leq 3 (.tmp 18) (.tmp 19)) 12 true, oO 21 (.pick (.tmp 12) (.tmp 20) (.const (.bool false)))]
def r75_13 : List AOper := [oM 22 5, oO 23 (.bin .add 3 (.tmp 22) (kI 1)), oM 5 23]
def r75_15 : List AOper := [oM 24 5, oM 4 24]
def tr75 : List (Nat × Tidy) := [tT 0 [1, 2], tT 1 [1, 2, 5], tT 2 [1, 2, 5, 21], tT 3 [1, 2, 5], tT 4 [4]]
def tl75 : List (Nat × Tidy) := [(2, ⟨[1, 2, 5], true, [⟨true, 2, 2, 30202, 1⟩, ⟨true, 2, 3, 30203, 1⟩, ⟨true, 2, 4, 30204, 1⟩], []⟩)]
def rs75 : List AResV := [.tmp 4]
def p75_0_0 : PT St := pS [sl 1 (aV false [(cD (dI .i64))]), sl 2 (aV false [(cPtr 2 0)]), sl 5 (aV false [(cD (dI .i64))])] [eBox 2 [(cD dS), (cD (dI .i64)), (cD dL), (cD dL), (cD dL), (cD (dI .i64)), (cD (dI .i64))]]
def u75_0_0 {β : Type} (g : St → β) : Int → Int → ByteArray → Int → Rows → Rows → Rows → Int → Int → β := p75_0_0.unc g
def p75_0_1 : PT St := pS [sl 1 (aV false [(cD (dI .i64))]), sl 2 (aV false [(cPtr 2 0)]), sl 5 (aV false [(cD (dI .i64))]), sl 21 (aV false [(cD dB)])] [eBox 2 [(cD dS), (cD (dI .i64)), (cD dL), (cD dL), (cD dL), (cD (dI .i64)), (cD (dI .i64))]]
def u75_0_1 {β : Type} (g : St → β) : Int → Int → Bool → ByteArray → Int → Rows → Rows → Rows → Int → Int → β := p75_0_1.unc g
def pr75_0_0 : PT (List RV) := pRs [pR false [rD (dI .i64)]]
def ur75_0_0 {β : Type} (g : List RV → β) : Int → β := pr75_0_0.unc g
def E75_0g  : EnvK := EnvK.of [] noSeq
noncomputable def E75_0 : EnvK := E75_0g 
theorem eo75_0 : E75_0.Ok Tryz.prog := EnvK.of_ok noSeq_ok trivial
noncomputable def c75_0_7g  : MCode := (.seq (.seq (.region r75_10 [] (tO [1, 2, 5, 21])) (.cond (.tmp 21) .skip (.exit 0))) (.block 1 (.region r75_13 [] (tO [1, 2, 5]))))
noncomputable def c75_0_7 : MCode := c75_0_7g 
theorem g75_0_7 : c75_0_7.Good Tryz.prog E75_0 sh75 := ⟨⟨trivial, ⟨trivial, trivial⟩⟩, trivial⟩
--CODE 7 0
def S75_0_0g  (α : Type) (x9 : Int) (x13 : Rows) (x10 : Int) (kn : Int → Option α) (k1 : Int → Bool → Option α) : Option α :=
 cK (decide ((w64 (x10 + 1)) < ((List.length x13 : Nat) : Int)))
 (rowK x13 (w64 (x10 + 1)) [.int .i64]
 (fun x19 => cK (decide (x19 ≤ x9))
 (kn (w64 (x10 + 1)))
 (k1 x10 (decide (x19 ≤ x9)))))
 (k1 x10 false)
noncomputable def S75_0_0 (α : Type) (x9 : Int) (x13 : Rows) (x10 : Int) (kn : Int → Option α) (k1 : Int → Bool → Option α) : Option α := S75_0_0g  α x9 x13 x10 kn k1
noncomputable def R75_0_0 (α : Type) (x9 : Int) (x13 : Rows) (k1 : Int → Bool → Option α) : Nat → Int → Option α
 | 0, _ => none
 | n + 1, x10 => S75_0_0 α x9 x13 x10 (R75_0_0 α x9 x13 k1 n) k1
noncomputable def L75_0_0 (α : Type) (x9 : Int) (x13 : Rows) (k1 : Int → Bool → Option α) (x10 : Int) : Option α := R75_0_0 α x9 x13 k1 fuel x10
abbrev TL75_0_0 : Type 1 := (α : Type) → Int → Rows → (Int → Bool → Option α) → Int → Option α
def F75_0_0 (v : TL75_0_0) (α : Type) (K : Exit → St → Option α) : Int → Int → ByteArray → Int → Rows → Rows → Rows → Int → Int → Option α := fun x9 x10 x11 x12 x13 x14 x15 x16 x17 => v α x9 x13 (fun (y1 : Int) (y2 : Bool) => u75_0_1 (K (.exit 0)) x9 y1 y2 x11 x12 x13 x14 x15 x16 x17) x10
theorem r75_0_0g   (α : Type) (K : Exit → St → Option α) (Kn : St → Option α) (x9 x10 : Int) (x11 : ByteArray) (x12 : Int) (x13 x14 x15 : Rows) (x16 x17 : Int) : u75_0_0 (fun σ => runM Tryz.prog (E75_0g ) sh75 (c75_0_7g ) (thenK (fun σ => tidyK td75_7 σ Kn) K) σ) x9 x10 x11 x12 x13 x14 x15 x16 x17 = S75_0_0g  α x9 x13 x10 (fun x10 => u75_0_0 Kn x9 x10 x11 x12 x13 x14 x15 x16 x17) (fun (y1 : Int) (y2 : Bool) => u75_0_1 (K (.exit 0)) x9 y1 y2 x11 x12 x13 x14 x15 x16 x17) := by kernel_rfl
theorem r75_0_0 (α : Type) (K : Exit → St → Option α) (Kn : St → Option α) (x9 x10 : Int) (x11 : ByteArray) (x12 : Int) (x13 x14 x15 : Rows) (x16 x17 : Int) : u75_0_0 (fun σ => runM Tryz.prog E75_0 sh75 c75_0_7 (thenK (fun σ => tidyK td75_7 σ Kn) K) σ) x9 x10 x11 x12 x13 x14 x15 x16 x17 = S75_0_0 α x9 x13 x10 (fun x10 => u75_0_0 Kn x9 x10 x11 x12 x13 x14 x15 x16 x17) (fun (y1 : Int) (y2 : Bool) => u75_0_1 (K (.exit 0)) x9 y1 y2 x11 x12 x13 x14 x15 x16 x17) := r75_0_0g  α K Kn x9 x10 x11 x12 x13 x14 x15 x16 x17
theorem t75_0_0 (α : Type) (K : Exit → St → Option α) : ∀ (n : Nat) (x9 x10 : Int) (x11 : ByteArray) (x12 : Int) (x13 x14 x15 : Rows) (x16 x17 : Int), R75_0_0 α x9 x13 (fun (y1 : Int) (y2 : Bool) => u75_0_1 (K (.exit 0)) x9 y1 y2 x11 x12 x13 x14 x15 x16 x17) n x10 = u75_0_0 (loopT (runM Tryz.prog E75_0 sh75 c75_0_7) td75_7 K n) x9 x10 x11 x12 x13 x14 x15 x16 x17 := by
 intro n
 induction n with
 | zero => intros; rfl
 | succ n ih => intro x9 x10 x11 x12 x13 x14 x15 x16 x17; exact (congrArg (fun kn => S75_0_0 α x9 x13 x10 kn (fun (y1 : Int) (y2 : Bool) => u75_0_1 (K (.exit 0)) x9 y1 y2 x11 x12 x13 x14 x15 x16 x17)) (funext fun x10 => ih x9 x10 x11 x12 x13 x14 x15 x16 x17)).trans (r75_0_0 α K (loopT (runM Tryz.prog E75_0 sh75 c75_0_7) td75_7 K n) x9 x10 x11 x12 x13 x14 x15 x16 x17).symm
theorem m75_0_0 : ∀ (α : Type) (K : Exit → St → Option α), F75_0_0 L75_0_0 α K = p75_0_0.unc fun σ => loopT (runM Tryz.prog E75_0 sh75 c75_0_7) td75_7 K fuel σ := fun α K => funext fun x9 => funext fun x10 => funext fun x11 => funext fun x12 => funext fun x13 => funext fun x14 => funext fun x15 => funext fun x16 => funext fun x17 => t75_0_0 α K fuel x9 x10 x11 x12 x13 x14 x15 x16 x17
abbrev Tf75_0 : Type 1 := (α : Type) → ByteArray → Int → Rows → Rows → Rows → Int → Int → Int → (Int → Option α) → Option α
def f75_0g (vL75_0_0 : TL75_0_0) (α : Type) (x1 : ByteArray) (x2 : Int) (x3 x4 x5 : Rows) (x6 x7 x8 : Int) (k1 : Int → Option α) : Option α :=
 vL75_0_0 α x8 x3
 (fun x20 x21 => k1 x20) 0
noncomputable def f75_0 (α : Type) (x1 : ByteArray) (x2 : Int) (x3 x4 x5 : Rows) (x6 x7 x8 : Int) (k1 : Int → Option α) : Option α := f75_0g L75_0_0 α x1 x2 x3 x4 x5 x6 x7 x8 k1
def pa75_0 : PT (List DV) := pA [pV true [dS, (dI .i64), dL, dL, dL, (dI .i64), (dI .i64)], pV false [(dI .i64)]]
def Fn75_0 (v : Tf75_0) (α : Type) (k : List RV → Option α) : ByteArray → Int → Rows → Rows → Rows → Int → Int → Int → Option α := fun x1 x2 x3 x4 x5 x6 x7 x8 => v α x1 x2 x3 x4 x5 x6 x7 x8 (fun (y1 : Int) => ur75_0_0 k y1)
noncomputable def cm75_0g (vL75_0_0 : TL75_0_0) : MCode := (.seq (.region r75_2 [] (tO [1, 2])) (.seq (.region r75_4 [] (tO [1, 2, 5])) (.seq (.block 0 (.loop td75_7 [⟨p75_0_0, F75_0_0 vL75_0_0⟩] c75_0_7)) (.seq (.region r75_15 [] (tO [4])) .ret))))
noncomputable def cm75_0 : MCode := cm75_0g L75_0_0
theorem gm75_0 : cm75_0.Good Tryz.prog E75_0 sh75 := ⟨trivial, ⟨trivial, ⟨⟨g75_0_7, m75_0_0, trivial⟩, ⟨trivial, trivial⟩⟩⟩⟩
theorem fm75_0g  (vL75_0_0 : TL75_0_0) (α : Type) (k : List RV → Option α) : Fn75_0 (f75_0g vL75_0_0) α k = pa75_0.unc fun ds => fnM Tryz.prog (E75_0g ) sh75 (cm75_0g vL75_0_0) rs75 k ds := by kernel_rfl
theorem fm75_0 : ∀ (α : Type) (k : List RV → Option α), Fn75_0 f75_0 α k = pa75_0.unc fun ds => fnM Tryz.prog E75_0 sh75 cm75_0 rs75 k ds := fm75_0g L75_0_0
theorem is75 : FnIs Tryz.prog 75 nt75 tr75 tl75 cm75_0.erase rs75 := ⟨Tryz.f75, Tryz.func75, rfl, by kernel_rfl, by kernel_rfl, by kernel_rfl⟩
theorem io75_0 : InstOk Tryz.prog 75 nt75 ⟨pa75_0, Fn75_0 f75_0⟩ := inst_ok eo75_0 followsTry is75 ⟨⟨sh75, cm75_0, by kernel_rfl, gm75_0, fm75_0⟩⟩
abbrev nt71 : Nat := 21
def sh71 : List (Nat × List Sh) := []
def r71_2 : List AOper := [oO 4 (.mv (.const (.bool false)))]
def r71_4 : List AOper := [oM 5 0, oO 6 (.pure (oB (.call { callee := .builtin .real, args := #[(.tmp 5)], argTypes := #[43] }) 117)), oO 7 (.pure (oB (.call { callee := .value (.func 110), args := #[(.tmp 6)], argTypes := #[117] }) 164)), oM 8 1, oO 9 (.pure (oB (.call { callee := .builtin .real, args := #[(.tmp 8)], argTypes := #[43] }) 117)), oO 10 (.pure (oB (.call { callee := .value (.func 110), args := #[(.tmp 9)], argTypes := #[117] }) 164)), oO 11 (.bin .eql 164 (.tmp 7) (.tmp 10)), oM 12 11, oG 13 (.mv (.tmp 0)) 12 true, oG 14 (.pure (oB (.call { callee := .builtin .imag, args := #[(.tmp 13)], argTypes := #[43] }) 117)) 12 true, oG 15 (.pure (oB (.call { callee := .value (.func 110), args := #[(.tmp 14)], argTypes := #[117] }) 164)) 12 true, oG 16 (.mv (.tmp 1)) 12 true, oG 17 (.pure (oB (.call { callee := .builtin .imag, args := #[(.tmp 16)], argTypes := #[43] }) 117)) 12 true, oG 18 (.pure (oB (.call { callee := .value (.func 110), args := #[(.tmp 17)], argTypes := #[117] }) 164)) 12 true, oG 19 (.bin .eql 164 (.tmp 15) (.tmp 18)) 12 true, oO 20 (.pick (.tmp 12) (.tmp 19) (.const (.bool false))), oM 4 20]
def tr71 : List (Nat × Tidy) := [tT 0 [0, 1], tT 1 [4]]
def tl71 : List (Nat × Tidy) := []
def rs71 : List AResV := [.tmp 4]
def pr71_0_0 : PT (List RV) := pRs [pR false [rD dB]]
def ur71_0_0 {β : Type} (g : List RV → β) : Bool → β := pr71_0_0.unc g
def E71_0g  : EnvK := EnvK.of [] noSeq
noncomputable def E71_0 : EnvK := E71_0g 
theorem eo71_0 : E71_0.Ok Tryz.prog := EnvK.of_ok noSeq_ok trivial
abbrev Tf71_0 : Type 1 := (α : Type) → Nat → Nat → Nat → Nat → (Bool → Option α) → Option α
def f71_0g  (α : Type) (x1 x2 x3 x4 : Nat) (k1 : Bool → Option α) : Option α :=
 cK (((x1 : Nat) : Int) == ((x3 : Nat) : Int))
 (k1 (((x2 : Nat) : Int) == ((x4 : Nat) : Int)))
 (k1 false)
noncomputable def f71_0 (α : Type) (x1 x2 x3 x4 : Nat) (k1 : Bool → Option α) : Option α := f71_0g  α x1 x2 x3 x4 k1
def pa71_0 : PT (List DV) := pA [pV false [(dX .f64)], pV false [(dX .f64)]]
def Fn71_0 (v : Tf71_0) (α : Type) (k : List RV → Option α) : Nat → Nat → Nat → Nat → Option α := fun x1 x2 x3 x4 => v α x1 x2 x3 x4 (fun (y1 : Bool) => ur71_0_0 k y1)
noncomputable def cm71_0g  : MCode := (.seq (.region r71_2 [] (tO [0, 1])) (.seq (.region r71_4 [] (tO [4])) .ret))
noncomputable def cm71_0 : MCode := cm71_0g 
theorem gm71_0 : cm71_0.Good Tryz.prog E71_0 sh71 := ⟨trivial, ⟨trivial, trivial⟩⟩
theorem fm71_0g   (α : Type) (k : List RV → Option α) : Fn71_0 (f71_0g ) α k = pa71_0.unc fun ds => fnM Tryz.prog (E71_0g ) sh71 (cm71_0g ) rs71 k ds := by kernel_rfl
theorem fm71_0 : ∀ (α : Type) (k : List RV → Option α), Fn71_0 f71_0 α k = pa71_0.unc fun ds => fnM Tryz.prog E71_0 sh71 cm71_0 rs71 k ds := fm71_0g 
theorem is71 : FnIs Tryz.prog 71 nt71 tr71 tl71 cm71_0.erase rs71 := ⟨Tryz.f71, Tryz.func71, rfl, by kernel_rfl, by kernel_rfl, by kernel_rfl⟩
theorem io71_0 : InstOk Tryz.prog 71 nt71 ⟨pa71_0, Fn71_0 f71_0⟩ := inst_ok eo71_0 followsTry is71 ⟨⟨sh71, cm71_0, by kernel_rfl, gm71_0, fm71_0⟩⟩
abbrev nt45 : Nat := 10
def sh45 : List (Nat × List Sh) := []
def r45_2 : List AOper := [oO 4 (.mv (.const (.complex Go.FloatKind.f64 0 0)))]
def r45_4 : List AOper := [oM 5 0, oO 6 (.pure (oB (.convert 3 117 (.tmp 5)) 117)), oM 7 1, oO 8 (.pure (oB (.convert 3 117 (.tmp 7)) 117)), oO 9 (.pure (oB (.call { callee := .builtin .complex, args := #[(.tmp 6), (.tmp 8)], argTypes := #[117, 117] }) 43)), oM 4 9]
def tr45 : List (Nat × Tidy) := [tT 0 [0, 1], tT 1 [4]]
def tl45 : List (Nat × Tidy) := []
def rs45 : List AResV := [.tmp 4]
def pr45_0_0 : PT (List RV) := pRs [pR false [rD (dX .f64)]]
def ur45_0_0 {β : Type} (g : List RV → β) : Nat → Nat → β := pr45_0_0.unc g
def E45_0g  : EnvK := EnvK.of [] noSeq
noncomputable def E45_0 : EnvK := E45_0g 
theorem eo45_0 : E45_0.Ok Tryz.prog := EnvK.of_ok noSeq_ok trivial
abbrev Tf45_0 : Type 1 := (α : Type) → Int → Int → (Nat → Nat → Option α) → Option α
def f45_0g  (α : Type) (x1 x2 : Int) (k1 : Nat → Nat → Option α) : Option α :=
 k1 (FloatKind.nearest .f64 x1) (FloatKind.nearest .f64 x2)
noncomputable def f45_0 (α : Type) (x1 x2 : Int) (k1 : Nat → Nat → Option α) : Option α := f45_0g  α x1 x2 k1
def pa45_0 : PT (List DV) := pA [pV false [(dI .i64)], pV false [(dI .i64)]]
def Fn45_0 (v : Tf45_0) (α : Type) (k : List RV → Option α) : Int → Int → Option α := fun x1 x2 => v α x1 x2 (fun (y1 : Nat) (y2 : Nat) => ur45_0_0 k y1 y2)
noncomputable def cm45_0g  : MCode := (.seq (.region r45_2 [] (tO [0, 1])) (.seq (.region r45_4 [] (tO [4])) .ret))
noncomputable def cm45_0 : MCode := cm45_0g 
theorem gm45_0 : cm45_0.Good Tryz.prog E45_0 sh45 := ⟨trivial, ⟨trivial, trivial⟩⟩
theorem fm45_0g   (α : Type) (k : List RV → Option α) : Fn45_0 (f45_0g ) α k = pa45_0.unc fun ds => fnM Tryz.prog (E45_0g ) sh45 (cm45_0g ) rs45 k ds := by kernel_rfl
theorem fm45_0 : ∀ (α : Type) (k : List RV → Option α), Fn45_0 f45_0 α k = pa45_0.unc fun ds => fnM Tryz.prog E45_0 sh45 cm45_0 rs45 k ds := fm45_0g 
theorem is45 : FnIs Tryz.prog 45 nt45 tr45 tl45 cm45_0.erase rs45 := ⟨Tryz.f45, Tryz.func45, rfl, by kernel_rfl, by kernel_rfl, by kernel_rfl⟩
theorem io45_0 : InstOk Tryz.prog 45 nt45 ⟨pa45_0, Fn45_0 f45_0⟩ := inst_ok eo45_0 followsTry is45 ⟨⟨sh45, cm45_0, by kernel_rfl, gm45_0, fm45_0⟩⟩
abbrev nt43 : Nat := 7
def sh43 : List (Nat × List Sh) := []
def r43_2 : List AOper := [oO 2 (.mv (kI 0))]
def r43_4 : List AOper := [oM 3 0, oM 4 0, oO 5 (.pure (oB (.unOp .neg 3 (.tmp 4)) 3)), oO 6 (.pure (oB (.call { callee := .builtin .max, args := #[(.tmp 3), (.tmp 5)], argTypes := #[3, 3] }) 3)), oM 2 6]
def tr43 : List (Nat × Tidy) := [tT 0 [0], tT 1 [2]]
def tl43 : List (Nat × Tidy) := []
def rs43 : List AResV := [.tmp 2]
def pr43_0_0 : PT (List RV) := pRs [pR false [rD (dI .i64)]]
def ur43_0_0 {β : Type} (g : List RV → β) : Int → β := pr43_0_0.unc g
def E43_0g  : EnvK := EnvK.of [] noSeq
noncomputable def E43_0 : EnvK := E43_0g 
theorem eo43_0 : E43_0.Ok Tryz.prog := EnvK.of_ok noSeq_ok trivial
abbrev Tf43_0 : Type 1 := (α : Type) → Int → (Int → Option α) → Option α
def f43_0g  (α : Type) (x1 : Int) (k1 : Int → Option α) : Option α :=
 k1 (if (w64 (0 - x1)) > x1 then (w64 (0 - x1)) else x1)
noncomputable def f43_0 (α : Type) (x1 : Int) (k1 : Int → Option α) : Option α := f43_0g  α x1 k1
def pa43_0 : PT (List DV) := pA [pV false [(dI .i64)]]
def Fn43_0 (v : Tf43_0) (α : Type) (k : List RV → Option α) : Int → Option α := fun x1 => v α x1 (fun (y1 : Int) => ur43_0_0 k y1)
noncomputable def cm43_0g  : MCode := (.seq (.region r43_2 [] (tO [0])) (.seq (.region r43_4 [] (tO [2])) .ret))
noncomputable def cm43_0 : MCode := cm43_0g 
theorem gm43_0 : cm43_0.Good Tryz.prog E43_0 sh43 := ⟨trivial, ⟨trivial, trivial⟩⟩
theorem fm43_0g   (α : Type) (k : List RV → Option α) : Fn43_0 (f43_0g ) α k = pa43_0.unc fun ds => fnM Tryz.prog (E43_0g ) sh43 (cm43_0g ) rs43 k ds := by kernel_rfl
theorem fm43_0 : ∀ (α : Type) (k : List RV → Option α), Fn43_0 f43_0 α k = pa43_0.unc fun ds => fnM Tryz.prog E43_0 sh43 cm43_0 rs43 k ds := fm43_0g 
theorem is43 : FnIs Tryz.prog 43 nt43 tr43 tl43 cm43_0.erase rs43 := ⟨Tryz.f43, Tryz.func43, rfl, by kernel_rfl, by kernel_rfl, by kernel_rfl⟩
theorem io43_0 : InstOk Tryz.prog 43 nt43 ⟨pa43_0, Fn43_0 f43_0⟩ := inst_ok eo43_0 followsTry is43 ⟨⟨sh43, cm43_0, by kernel_rfl, gm43_0, fm43_0⟩⟩
abbrev nt171 : Nat := 22
def sh171 : List (Nat × List Sh) := []
def r171_2 : List AOper := [oO 2 (.mv (kI 0))]
def r171_4 : List AOper := [oO 3 (.mv (kI 0)), oO 4 (.mv (kI 1073741824))]
def td171_7 : Option Tidy := (tO [0, 3, 4])
def r171_10 : List AOper := [oM 5 4, oO 6 (.bin .gtr 3 (.tmp 5) (kI 0))]
def r171_15 : List AOper := [oM 7 3, oM 8 4, oO 9 (.bin .add 3 (.tmp 7) (.tmp 8)), oM 10 3, oM 11 4, oO 12 (.bin .add 3 (.tmp 10) (.tmp 11)), oO 13 (.bin .mul 3 (.tmp 9) (.tmp 12)), oM 14 0, oO 15 (.bin .leq 3 (.tmp 13) (.tmp 14))]
def r171_17 : List AOper := [oM 16 3, oM 17 4, oO 18 (.bin .add 3 (.tmp 16) (.tmp 17)), oM 3 18]
def r171_18 : List AOper := [oM 19 4, oO 20 (.bin .quo 3 (.tmp 19) (kI 2)), oM 4 20]
def r171_20 : List AOper := [oM 21 3, oM 2 21]
def tr171 : List (Nat × Tidy) := [tT 0 [0], tT 1 [0, 3, 4], tT 2 [0, 3, 4, 6], tT 3 [0, 3, 4, 15], tT 4 [0, 3, 4], tT 5 [0, 3, 4], tT 6 [2]]
def tl171 : List (Nat × Tidy) := [tT 2 [0, 3, 4]]
def rs171 : List AResV := [.tmp 2]
def p171_0_0 : PT St := pS [sl 0 (aV false [(cD (dI .i64))]), sl 3 (aV false [(cD (dI .i64))]), sl 4 (aV false [(cD (dI .i64))])] []
def u171_0_0 {β : Type} (g : St → β) : Int → Int → Int → β := p171_0_0.unc g
def p171_0_1 : PT St := pS [sl 0 (aV false [(cD (dI .i64))]), sl 3 (aV false [(cD (dI .i64))]), sl 4 (aV false [(cD (dI .i64))]), sl 6 (aV false [(cD dB)])] []
def u171_0_1 {β : Type} (g : St → β) : Int → Int → Int → Bool → β := p171_0_1.unc g
def pr171_0_0 : PT (List RV) := pRs [pR false [rD (dI .i64)]]
def ur171_0_0 {β : Type} (g : List RV → β) : Int → β := pr171_0_0.unc g
def E171_0g  : EnvK := EnvK.of [] noSeq
noncomputable def E171_0 : EnvK := E171_0g 
theorem eo171_0 : E171_0.Ok Tryz.prog := EnvK.of_ok noSeq_ok trivial
noncomputable def c171_0_7g  : MCode := (.seq (.seq (.region r171_10 [] (tO [0, 3, 4, 6])) (.cond (.tmp 6) .skip (.exit 0))) (.block 1 (.seq (.seq (.region r171_15 [] (tO [0, 3, 4, 15])) (.cond (.tmp 15) (.region r171_17 [] (tO [0, 3, 4])) .skip)) (.region r171_18 [] (tO [0, 3, 4])))))
noncomputable def c171_0_7 : MCode := c171_0_7g 
theorem g171_0_7 : c171_0_7.Good Tryz.prog E171_0 sh171 := ⟨⟨trivial, ⟨trivial, trivial⟩⟩, ⟨⟨trivial, ⟨trivial, trivial⟩⟩, trivial⟩⟩
--CODE 7 0
def S171_0_0g  (α : Type) (x2 x3 x4 : Int) (kn : Int → Int → Option α) (k1 : Int → Int → Bool → Option α) : Option α :=
 cK (decide (0 < x4))
 (cK (decide ((w64 ((w64 (x3 + x4)) * (w64 (x3 + x4)))) ≤ x2))
 (kn (w64 (x3 + x4)) (w64 (Int.tdiv x4 2)))
 (kn x3 (w64 (Int.tdiv x4 2))))
 (k1 x3 x4 (decide (0 < x4)))
noncomputable def S171_0_0 (α : Type) (x2 x3 x4 : Int) (kn : Int → Int → Option α) (k1 : Int → Int → Bool → Option α) : Option α := S171_0_0g  α x2 x3 x4 kn k1
noncomputable def R171_0_0 (α : Type) (x2 : Int) (k1 : Int → Int → Bool → Option α) : Nat → Int → Int → Option α
 | 0, _, _ => none
 | n + 1, x3, x4 => S171_0_0 α x2 x3 x4 (R171_0_0 α x2 k1 n) k1
noncomputable def L171_0_0 (α : Type) (x2 : Int) (k1 : Int → Int → Bool → Option α) (x3 x4 : Int) : Option α := R171_0_0 α x2 k1 fuel x3 x4
abbrev TL171_0_0 : Type 1 := (α : Type) → Int → (Int → Int → Bool → Option α) → Int → Int → Option α
def F171_0_0 (v : TL171_0_0) (α : Type) (K : Exit → St → Option α) : Int → Int → Int → Option α := fun x2 x3 x4 => v α x2 (fun (y1 : Int) (y2 : Int) (y3 : Bool) => u171_0_1 (K (.exit 0)) x2 y1 y2 y3) x3 x4
theorem r171_0_0g   (α : Type) (K : Exit → St → Option α) (Kn : St → Option α) (x2 x3 x4 : Int) : u171_0_0 (fun σ => runM Tryz.prog (E171_0g ) sh171 (c171_0_7g ) (thenK (fun σ => tidyK td171_7 σ Kn) K) σ) x2 x3 x4 = S171_0_0g  α x2 x3 x4 (fun x3 x4 => u171_0_0 Kn x2 x3 x4) (fun (y1 : Int) (y2 : Int) (y3 : Bool) => u171_0_1 (K (.exit 0)) x2 y1 y2 y3) := by kernel_rfl
theorem r171_0_0 (α : Type) (K : Exit → St → Option α) (Kn : St → Option α) (x2 x3 x4 : Int) : u171_0_0 (fun σ => runM Tryz.prog E171_0 sh171 c171_0_7 (thenK (fun σ => tidyK td171_7 σ Kn) K) σ) x2 x3 x4 = S171_0_0 α x2 x3 x4 (fun x3 x4 => u171_0_0 Kn x2 x3 x4) (fun (y1 : Int) (y2 : Int) (y3 : Bool) => u171_0_1 (K (.exit 0)) x2 y1 y2 y3) := r171_0_0g  α K Kn x2 x3 x4
theorem t171_0_0 (α : Type) (K : Exit → St → Option α) : ∀ (n : Nat) (x2 x3 x4 : Int), R171_0_0 α x2 (fun (y1 : Int) (y2 : Int) (y3 : Bool) => u171_0_1 (K (.exit 0)) x2 y1 y2 y3) n x3 x4 = u171_0_0 (loopT (runM Tryz.prog E171_0 sh171 c171_0_7) td171_7 K n) x2 x3 x4 := by
 intro n
 induction n with
 | zero => intros; rfl
 | succ n ih => intro x2 x3 x4; exact (congrArg (fun kn => S171_0_0 α x2 x3 x4 kn (fun (y1 : Int) (y2 : Int) (y3 : Bool) => u171_0_1 (K (.exit 0)) x2 y1 y2 y3)) (funext fun x3 => funext fun x4 => ih x2 x3 x4)).trans (r171_0_0 α K (loopT (runM Tryz.prog E171_0 sh171 c171_0_7) td171_7 K n) x2 x3 x4).symm
theorem m171_0_0 : ∀ (α : Type) (K : Exit → St → Option α), F171_0_0 L171_0_0 α K = p171_0_0.unc fun σ => loopT (runM Tryz.prog E171_0 sh171 c171_0_7) td171_7 K fuel σ := fun α K => funext fun x2 => funext fun x3 => funext fun x4 => t171_0_0 α K fuel x2 x3 x4
abbrev Tf171_0 : Type 1 := (α : Type) → Int → (Int → Option α) → Option α
def f171_0g (vL171_0_0 : TL171_0_0) (α : Type) (x1 : Int) (k1 : Int → Option α) : Option α :=
 vL171_0_0 α x1
 (fun x6 x7 x8 => k1 x6) 0 1073741824
noncomputable def f171_0 (α : Type) (x1 : Int) (k1 : Int → Option α) : Option α := f171_0g L171_0_0 α x1 k1
def pa171_0 : PT (List DV) := pA [pV false [(dI .i64)]]
def Fn171_0 (v : Tf171_0) (α : Type) (k : List RV → Option α) : Int → Option α := fun x1 => v α x1 (fun (y1 : Int) => ur171_0_0 k y1)
noncomputable def cm171_0g (vL171_0_0 : TL171_0_0) : MCode := (.seq (.region r171_2 [] (tO [0])) (.seq (.region r171_4 [] (tO [0, 3, 4])) (.seq (.block 0 (.loop td171_7 [⟨p171_0_0, F171_0_0 vL171_0_0⟩] c171_0_7)) (.seq (.region r171_20 [] (tO [2])) .ret))))
noncomputable def cm171_0 : MCode := cm171_0g L171_0_0
theorem gm171_0 : cm171_0.Good Tryz.prog E171_0 sh171 := ⟨trivial, ⟨trivial, ⟨⟨g171_0_7, m171_0_0, trivial⟩, ⟨trivial, trivial⟩⟩⟩⟩
theorem fm171_0g  (vL171_0_0 : TL171_0_0) (α : Type) (k : List RV → Option α) : Fn171_0 (f171_0g vL171_0_0) α k = pa171_0.unc fun ds => fnM Tryz.prog (E171_0g ) sh171 (cm171_0g vL171_0_0) rs171 k ds := by kernel_rfl
theorem fm171_0 : ∀ (α : Type) (k : List RV → Option α), Fn171_0 f171_0 α k = pa171_0.unc fun ds => fnM Tryz.prog E171_0 sh171 cm171_0 rs171 k ds := fm171_0g L171_0_0
theorem is171 : FnIs Tryz.prog 171 nt171 tr171 tl171 cm171_0.erase rs171 := ⟨Tryz.f171, Tryz.func171, rfl, by kernel_rfl, by kernel_rfl, by kernel_rfl⟩
theorem io171_0 : InstOk Tryz.prog 171 nt171 ⟨pa171_0, Fn171_0 f171_0⟩ := inst_ok eo171_0 followsTry is171 ⟨⟨sh171, cm171_0, by kernel_rfl, gm171_0, fm171_0⟩⟩
abbrev nt91 : Nat := 14
def sh91 : List (Nat × List Sh) := []
def r91_2 : List AOper := [oO 4 (.mv (kI 0))]
def r91_4 : List AOper := [oM 5 0, oM 6 1, oO 7 (.bin .rem 3 (.tmp 5) (.tmp 6)), oM 0 7]
def r91_7 : List AOper := [oM 8 0, oO 9 (.bin .lss 3 (.tmp 8) (kI 0))]
def r91_9 : List AOper := [oM 10 0, oM 11 1, oO 12 (.bin .add 3 (.tmp 10) (.tmp 11)), oM 0 12]
def r91_11 : List AOper := [oM 13 0, oM 4 13]
def tr91 : List (Nat × Tidy) := [tT 0 [0, 1], tT 1 [0, 1], tT 2 [0, 1, 9], tT 3 [0], tT 4 [4]]
def tl91 : List (Nat × Tidy) := []
def rs91 : List AResV := [.tmp 4]
def pr91_0_0 : PT (List RV) := pRs [pR false [rD (dI .i64)]]
def ur91_0_0 {β : Type} (g : List RV → β) : Int → β := pr91_0_0.unc g
def E91_0g  : EnvK := EnvK.of [] noSeq
noncomputable def E91_0 : EnvK := E91_0g 
theorem eo91_0 : E91_0.Ok Tryz.prog := EnvK.of_ok noSeq_ok trivial
abbrev Tf91_0 : Type 1 := (α : Type) → Int → Int → (Int → Option α) → Option α
def f91_0g  (α : Type) (x1 x2 : Int) (k1 : Int → Option α) : Option α :=
 gK (x2 != 0) (cK (decide ((Int.tmod x1 x2) < 0))
 (k1 (w64 ((Int.tmod x1 x2) + x2)))
 (k1 (Int.tmod x1 x2)))
noncomputable def f91_0 (α : Type) (x1 x2 : Int) (k1 : Int → Option α) : Option α := f91_0g  α x1 x2 k1
def pa91_0 : PT (List DV) := pA [pV false [(dI .i64)], pV false [(dI .i64)]]
def Fn91_0 (v : Tf91_0) (α : Type) (k : List RV → Option α) : Int → Int → Option α := fun x1 x2 => v α x1 x2 (fun (y1 : Int) => ur91_0_0 k y1)
noncomputable def cm91_0g  : MCode := (.seq (.region r91_2 [] (tO [0, 1])) (.seq (.region r91_4 [] (tO [0, 1])) (.seq (.seq (.region r91_7 [] (tO [0, 1, 9])) (.cond (.tmp 9) (.region r91_9 [] (tO [0])) .skip)) (.seq (.region r91_11 [] (tO [4])) .ret))))
noncomputable def cm91_0 : MCode := cm91_0g 
theorem gm91_0 : cm91_0.Good Tryz.prog E91_0 sh91 := ⟨trivial, ⟨trivial, ⟨⟨trivial, ⟨trivial, trivial⟩⟩, ⟨trivial, trivial⟩⟩⟩⟩
theorem fm91_0g   (α : Type) (k : List RV → Option α) : Fn91_0 (f91_0g ) α k = pa91_0.unc fun ds => fnM Tryz.prog (E91_0g ) sh91 (cm91_0g ) rs91 k ds := by kernel_rfl
theorem fm91_0 : ∀ (α : Type) (k : List RV → Option α), Fn91_0 f91_0 α k = pa91_0.unc fun ds => fnM Tryz.prog E91_0 sh91 cm91_0 rs91 k ds := fm91_0g 
theorem is91 : FnIs Tryz.prog 91 nt91 tr91 tl91 cm91_0.erase rs91 := ⟨Tryz.f91, Tryz.func91, rfl, by kernel_rfl, by kernel_rfl, by kernel_rfl⟩
theorem io91_0 : InstOk Tryz.prog 91 nt91 ⟨pa91_0, Fn91_0 f91_0⟩ := inst_ok eo91_0 followsTry is91 ⟨⟨sh91, cm91_0, by kernel_rfl, gm91_0, fm91_0⟩⟩
abbrev nt76 : Nat := 16
def sh76 : List (Nat × List Sh) := []
def r76_2 : List AOper := [oO 4 (.mv (kI 0))]
def r76_4 : List AOper := [oM 6 0, oM 7 1, oO 8 (.bin .quo 3 (.tmp 6) (.tmp 7)), oM 5 8]
def r76_7 : List AOper := [oM 9 0, oM 10 1, oO 11 (.bin .rem 3 (.tmp 9) (.tmp 10)), oO 12 (.bin .lss 3 (.tmp 11) (kI 0))]
def r76_9 : List AOper := [oM 13 5, oO 14 (.bin .sub 3 (.tmp 13) (kI 1)), oM 5 14]
def r76_11 : List AOper := [oM 15 5, oM 4 15]
def tr76 : List (Nat × Tidy) := [tT 0 [0, 1], tT 1 [0, 1, 5], tT 2 [5, 12], tT 3 [5], tT 4 [4]]
def tl76 : List (Nat × Tidy) := []
def rs76 : List AResV := [.tmp 4]
def pr76_0_0 : PT (List RV) := pRs [pR false [rD (dI .i64)]]
def ur76_0_0 {β : Type} (g : List RV → β) : Int → β := pr76_0_0.unc g
def E76_0g  : EnvK := EnvK.of [] noSeq
noncomputable def E76_0 : EnvK := E76_0g 
theorem eo76_0 : E76_0.Ok Tryz.prog := EnvK.of_ok noSeq_ok trivial
abbrev Tf76_0 : Type 1 := (α : Type) → Int → Int → (Int → Option α) → Option α
def f76_0g  (α : Type) (x1 x2 : Int) (k1 : Int → Option α) : Option α :=
 gK (x2 != 0) (gK (x2 != 0) (cK (decide ((Int.tmod x1 x2) < 0))
 (k1 (w64 ((w64 (Int.tdiv x1 x2)) - 1)))
 (k1 (w64 (Int.tdiv x1 x2)))))
noncomputable def f76_0 (α : Type) (x1 x2 : Int) (k1 : Int → Option α) : Option α := f76_0g  α x1 x2 k1
def pa76_0 : PT (List DV) := pA [pV false [(dI .i64)], pV false [(dI .i64)]]
def Fn76_0 (v : Tf76_0) (α : Type) (k : List RV → Option α) : Int → Int → Option α := fun x1 x2 => v α x1 x2 (fun (y1 : Int) => ur76_0_0 k y1)
noncomputable def cm76_0g  : MCode := (.seq (.region r76_2 [] (tO [0, 1])) (.seq (.region r76_4 [] (tO [0, 1, 5])) (.seq (.seq (.region r76_7 [] (tO [5, 12])) (.cond (.tmp 12) (.region r76_9 [] (tO [5])) .skip)) (.seq (.region r76_11 [] (tO [4])) .ret))))
noncomputable def cm76_0 : MCode := cm76_0g 
theorem gm76_0 : cm76_0.Good Tryz.prog E76_0 sh76 := ⟨trivial, ⟨trivial, ⟨⟨trivial, ⟨trivial, trivial⟩⟩, ⟨trivial, trivial⟩⟩⟩⟩
theorem fm76_0g   (α : Type) (k : List RV → Option α) : Fn76_0 (f76_0g ) α k = pa76_0.unc fun ds => fnM Tryz.prog (E76_0g ) sh76 (cm76_0g ) rs76 k ds := by kernel_rfl
theorem fm76_0 : ∀ (α : Type) (k : List RV → Option α), Fn76_0 f76_0 α k = pa76_0.unc fun ds => fnM Tryz.prog E76_0 sh76 cm76_0 rs76 k ds := fm76_0g 
theorem is76 : FnIs Tryz.prog 76 nt76 tr76 tl76 cm76_0.erase rs76 := ⟨Tryz.f76, Tryz.func76, rfl, by kernel_rfl, by kernel_rfl, by kernel_rfl⟩
theorem io76_0 : InstOk Tryz.prog 76 nt76 ⟨pa76_0, Fn76_0 f76_0⟩ := inst_ok eo76_0 followsTry is76 ⟨⟨sh76, cm76_0, by kernel_rfl, gm76_0, fm76_0⟩⟩
abbrev nt57 : Nat := 15
def sh57 : List (Nat × List Sh) := []
def r57_2 : List AOper := [oO 6 (.mv (.const (.bool false)))]
def r57_4 : List AOper := [oM 7 1, oM 8 0, oO 9 (.bin .leq 3 (.tmp 7) (.tmp 8)), oM 10 9, oG 11 (.mv (.tmp 0)) 10 true, oG 12 (.mv (.tmp 2)) 10 true, oG 13 (.bin .leq 3 (.tmp 11) (.tmp 12)) 10 true, oO 14 (.pick (.tmp 10) (.tmp 13) (.const (.bool false))), oM 6 14]
def tr57 : List (Nat × Tidy) := [tT 0 [0, 1, 2], tT 1 [6]]
def tl57 : List (Nat × Tidy) := []
def rs57 : List AResV := [.tmp 6]
def pr57_0_0 : PT (List RV) := pRs [pR false [rD dB]]
def ur57_0_0 {β : Type} (g : List RV → β) : Bool → β := pr57_0_0.unc g
def E57_0g  : EnvK := EnvK.of [] noSeq
noncomputable def E57_0 : EnvK := E57_0g 
theorem eo57_0 : E57_0.Ok Tryz.prog := EnvK.of_ok noSeq_ok trivial
abbrev Tf57_0 : Type 1 := (α : Type) → Int → Int → Int → (Bool → Option α) → Option α
def f57_0g  (α : Type) (x1 x2 x3 : Int) (k1 : Bool → Option α) : Option α :=
 cK (decide (x2 ≤ x1))
 (k1 (decide (x1 ≤ x3)))
 (k1 false)
noncomputable def f57_0 (α : Type) (x1 x2 x3 : Int) (k1 : Bool → Option α) : Option α := f57_0g  α x1 x2 x3 k1
def pa57_0 : PT (List DV) := pA [pV false [(dI .i64)], pV false [(dI .i64)], pV false [(dI .i64)]]
def Fn57_0 (v : Tf57_0) (α : Type) (k : List RV → Option α) : Int → Int → Int → Option α := fun x1 x2 x3 => v α x1 x2 x3 (fun (y1 : Bool) => ur57_0_0 k y1)
noncomputable def cm57_0g  : MCode := (.seq (.region r57_2 [] (tO [0, 1, 2])) (.seq (.region r57_4 [] (tO [6])) .ret))
noncomputable def cm57_0 : MCode := cm57_0g 
theorem gm57_0 : cm57_0.Good Tryz.prog E57_0 sh57 := ⟨trivial, ⟨trivial, trivial⟩⟩
theorem fm57_0g   (α : Type) (k : List RV → Option α) : Fn57_0 (f57_0g ) α k = pa57_0.unc fun ds => fnM Tryz.prog (E57_0g ) sh57 (cm57_0g ) rs57 k ds := by kernel_rfl
theorem fm57_0 : ∀ (α : Type) (k : List RV → Option α), Fn57_0 f57_0 α k = pa57_0.unc fun ds => fnM Tryz.prog E57_0 sh57 cm57_0 rs57 k ds := fm57_0g 
theorem is57 : FnIs Tryz.prog 57 nt57 tr57 tl57 cm57_0.erase rs57 := ⟨Tryz.f57, Tryz.func57, rfl, by kernel_rfl, by kernel_rfl, by kernel_rfl⟩
theorem io57_0 : InstOk Tryz.prog 57 nt57 ⟨pa57_0, Fn57_0 f57_0⟩ := inst_ok eo57_0 followsTry is57 ⟨⟨sh57, cm57_0, by kernel_rfl, gm57_0, fm57_0⟩⟩
abbrev nt56 : Nat := 11
def sh56 : List (Nat × List Sh) := []
def r56_2 : List AOper := [oO 2 (.mv (.const (.bool false)))]
def r56_5 : List AOper := [oO 3 (.mv (kI 2))]
def td56_7 : Option Tidy := (tO [0, 3])
def r56_10 : List AOper := [oM 4 3, oO 5 (.bin .leq 3 (.tmp 4) (kI 32))]
def r56_15 : List AOper := [oM 8 0, oM 9 3, oO 10 (.bin .eql 3 (.tmp 8) (.tmp 9))]
def r56_18 : List AOper := [oO 2 (.mv (.const (.bool true)))]
def r56_19 : List AOper := [oM 6 3, oO 7 (.bin .mul 3 (kI 2) (.tmp 6)), oM 3 7]
def r56_21 : List AOper := [oO 2 (.mv (.const (.bool false)))]
def tr56 : List (Nat × Tidy) := [tT 0 [0], tT 1 [0, 3], tT 2 [0, 3, 5], tT 4 [0, 3, 10], tT 5 [2], tT 3 [0, 3], tT 6 [2]]
def tl56 : List (Nat × Tidy) := [tT 2 [0, 3]]
def rs56 : List AResV := [.tmp 2]
def p56_0_0 : PT St := pS [sl 0 (aV false [(cD (dI .i64))]), sl 3 (aV false [(cD (dI .i64))])] []
def u56_0_0 {β : Type} (g : St → β) : Int → Int → β := p56_0_0.unc g
def p56_0_1 : PT St := pS [sl 2 (aV false [(cD dB)])] []
def u56_0_1 {β : Type} (g : St → β) : Bool → β := p56_0_1.unc g
def p56_0_2 : PT St := pS [sl 0 (aV false [(cD (dI .i64))]), sl 3 (aV false [(cD (dI .i64))]), sl 5 (aV false [(cD dB)])] []
def u56_0_2 {β : Type} (g : St → β) : Int → Int → Bool → β := p56_0_2.unc g
def pr56_0_0 : PT (List RV) := pRs [pR false [rD dB]]
def ur56_0_0 {β : Type} (g : List RV → β) : Bool → β := pr56_0_0.unc g
def E56_0g  : EnvK := EnvK.of [] noSeq
noncomputable def E56_0 : EnvK := E56_0g 
theorem eo56_0 : E56_0.Ok Tryz.prog := EnvK.of_ok noSeq_ok trivial
noncomputable def c56_0_7g  : MCode := (.seq (.seq (.region r56_10 [] (tO [0, 3, 5])) (.cond (.tmp 5) .skip (.exit 0))) (.seq (.block 1 (.seq (.region r56_15 [] (tO [0, 3, 10])) (.cond (.tmp 10) (.seq (.region r56_18 [] (tO [2])) .ret) .skip))) (.region r56_19 [] (tO [0, 3]))))
noncomputable def c56_0_7 : MCode := c56_0_7g 
theorem g56_0_7 : c56_0_7.Good Tryz.prog E56_0 sh56 := ⟨⟨trivial, ⟨trivial, trivial⟩⟩, ⟨⟨trivial, ⟨⟨trivial, trivial⟩, trivial⟩⟩, trivial⟩⟩
--CODE 7 0
def S56_0_0g  (α : Type) (x2 x3 : Int) (kn : Int → Option α) (k1 : Option α) (k2 : Int → Bool → Option α) : Option α :=
 cK (decide (x3 ≤ 32))
 (cK (x2 == x3)
 (k1)
 (kn (w64 (2 * x3))))
 (k2 x3 (decide (x3 ≤ 32)))
noncomputable def S56_0_0 (α : Type) (x2 x3 : Int) (kn : Int → Option α) (k1 : Option α) (k2 : Int → Bool → Option α) : Option α := S56_0_0g  α x2 x3 kn k1 k2
noncomputable def R56_0_0 (α : Type) (x2 : Int) (k1 : Option α) (k2 : Int → Bool → Option α) : Nat → Int → Option α
 | 0, _ => none
 | n + 1, x3 => S56_0_0 α x2 x3 (R56_0_0 α x2 k1 k2 n) k1 k2
noncomputable def L56_0_0 (α : Type) (x2 : Int) (k1 : Option α) (k2 : Int → Bool → Option α) (x3 : Int) : Option α := R56_0_0 α x2 k1 k2 fuel x3
abbrev TL56_0_0 : Type 1 := (α : Type) → Int → (Option α) → (Int → Bool → Option α) → Int → Option α
def F56_0_0 (v : TL56_0_0) (α : Type) (K : Exit → St → Option α) : Int → Int → Option α := fun x2 x3 => v α x2 (u56_0_1 (K .ret) true) (fun (y1 : Int) (y2 : Bool) => u56_0_2 (K (.exit 0)) x2 y1 y2) x3
theorem r56_0_0g   (α : Type) (K : Exit → St → Option α) (Kn : St → Option α) (x2 x3 : Int) : u56_0_0 (fun σ => runM Tryz.prog (E56_0g ) sh56 (c56_0_7g ) (thenK (fun σ => tidyK td56_7 σ Kn) K) σ) x2 x3 = S56_0_0g  α x2 x3 (fun x3 => u56_0_0 Kn x2 x3) (u56_0_1 (K .ret) true) (fun (y1 : Int) (y2 : Bool) => u56_0_2 (K (.exit 0)) x2 y1 y2) := by kernel_rfl
theorem r56_0_0 (α : Type) (K : Exit → St → Option α) (Kn : St → Option α) (x2 x3 : Int) : u56_0_0 (fun σ => runM Tryz.prog E56_0 sh56 c56_0_7 (thenK (fun σ => tidyK td56_7 σ Kn) K) σ) x2 x3 = S56_0_0 α x2 x3 (fun x3 => u56_0_0 Kn x2 x3) (u56_0_1 (K .ret) true) (fun (y1 : Int) (y2 : Bool) => u56_0_2 (K (.exit 0)) x2 y1 y2) := r56_0_0g  α K Kn x2 x3
theorem t56_0_0 (α : Type) (K : Exit → St → Option α) : ∀ (n : Nat) (x2 x3 : Int), R56_0_0 α x2 (u56_0_1 (K .ret) true) (fun (y1 : Int) (y2 : Bool) => u56_0_2 (K (.exit 0)) x2 y1 y2) n x3 = u56_0_0 (loopT (runM Tryz.prog E56_0 sh56 c56_0_7) td56_7 K n) x2 x3 := by
 intro n
 induction n with
 | zero => intros; rfl
 | succ n ih => intro x2 x3; exact (congrArg (fun kn => S56_0_0 α x2 x3 kn (u56_0_1 (K .ret) true) (fun (y1 : Int) (y2 : Bool) => u56_0_2 (K (.exit 0)) x2 y1 y2)) (funext fun x3 => ih x2 x3)).trans (r56_0_0 α K (loopT (runM Tryz.prog E56_0 sh56 c56_0_7) td56_7 K n) x2 x3).symm
theorem m56_0_0 : ∀ (α : Type) (K : Exit → St → Option α), F56_0_0 L56_0_0 α K = p56_0_0.unc fun σ => loopT (runM Tryz.prog E56_0 sh56 c56_0_7) td56_7 K fuel σ := fun α K => funext fun x2 => funext fun x3 => t56_0_0 α K fuel x2 x3
abbrev Tf56_0 : Type 1 := (α : Type) → Int → (Bool → Option α) → Option α
def f56_0g (vL56_0_0 : TL56_0_0) (α : Type) (x1 : Int) (k1 : Bool → Option α) : Option α :=
 vL56_0_0 α x1
 (k1 true)
 (fun x5 x6 => k1 false) 2
noncomputable def f56_0 (α : Type) (x1 : Int) (k1 : Bool → Option α) : Option α := f56_0g L56_0_0 α x1 k1
def pa56_0 : PT (List DV) := pA [pV false [(dI .i64)]]
def Fn56_0 (v : Tf56_0) (α : Type) (k : List RV → Option α) : Int → Option α := fun x1 => v α x1 (fun (y1 : Bool) => ur56_0_0 k y1)
noncomputable def cm56_0g (vL56_0_0 : TL56_0_0) : MCode := (.seq (.region r56_2 [] (tO [0])) (.seq (.seq (.region r56_5 [] (tO [0, 3])) (.block 0 (.loop td56_7 [⟨p56_0_0, F56_0_0 vL56_0_0⟩] c56_0_7))) (.seq (.region r56_21 [] (tO [2])) .ret)))
noncomputable def cm56_0 : MCode := cm56_0g L56_0_0
theorem gm56_0 : cm56_0.Good Tryz.prog E56_0 sh56 := ⟨trivial, ⟨⟨trivial, ⟨g56_0_7, m56_0_0, trivial⟩⟩, ⟨trivial, trivial⟩⟩⟩
theorem fm56_0g  (vL56_0_0 : TL56_0_0) (α : Type) (k : List RV → Option α) : Fn56_0 (f56_0g vL56_0_0) α k = pa56_0.unc fun ds => fnM Tryz.prog (E56_0g ) sh56 (cm56_0g vL56_0_0) rs56 k ds := by kernel_rfl
theorem fm56_0 : ∀ (α : Type) (k : List RV → Option α), Fn56_0 f56_0 α k = pa56_0.unc fun ds => fnM Tryz.prog E56_0 sh56 cm56_0 rs56 k ds := fm56_0g L56_0_0
theorem is56 : FnIs Tryz.prog 56 nt56 tr56 tl56 cm56_0.erase rs56 := ⟨Tryz.f56, Tryz.func56, rfl, by kernel_rfl, by kernel_rfl, by kernel_rfl⟩
theorem io56_0 : InstOk Tryz.prog 56 nt56 ⟨pa56_0, Fn56_0 f56_0⟩ := inst_ok eo56_0 followsTry is56 ⟨⟨sh56, cm56_0, by kernel_rfl, gm56_0, fm56_0⟩⟩
abbrev nt130 : Nat := 10
def sh130 : List (Nat × List Sh) := []
def r130_2 : List AOper := [oO 2 (.alloc [(cI 0), (cI 0)])]
def r130_4 : List AOper := [oM 3 0, oO 4 (.pure (oB (.call { callee := .builtin .real, args := #[(.tmp 3)], argTypes := #[43] }) 117)), oO 5 (.pure (oB (.convert 117 3 (.tmp 4)) 3)), oM 6 0, oO 7 (.pure (oB (.call { callee := .builtin .imag, args := #[(.tmp 6)], argTypes := #[43] }) 117)), oO 8 (.pure (oB (.convert 117 3 (.tmp 7)) 3)), oO 9 (.build [(cI 0), (cI 0)] [(0, 1, (.tmp 5)), (1, 1, (.tmp 8))]), oD (.store 2 (.tmp 2) (.tmp 9))]
def tr130 : List (Nat × Tidy) := [tT 0 [0, 2], tT 1 [2]]
def tl130 : List (Nat × Tidy) := []
def rs130 : List AResV := [.cell 2 true 2]
def pr130_0_0 : PT (List RV) := pRs [pR true [rD (dI .i64), rD (dI .i64)]]
def ur130_0_0 {β : Type} (g : List RV → β) : Int → Int → β := pr130_0_0.unc g
def E130_0g  : EnvK := EnvK.of [] noSeq
noncomputable def E130_0 : EnvK := E130_0g 
theorem eo130_0 : E130_0.Ok Tryz.prog := EnvK.of_ok noSeq_ok trivial
abbrev Tf130_0 : Type 1 := (α : Type) → Nat → Nat → (Int → Int → Option α) → Option α
def f130_0g  (α : Type) (x1 x2 : Nat) (k1 : Int → Int → Option α) : Option α :=
 ivK (f2i .f64 x1 .i64)
 (fun x3 => ivK (f2i .f64 x2 .i64)
 (fun x4 => k1 x3 x4))
noncomputable def f130_0 (α : Type) (x1 x2 : Nat) (k1 : Int → Int → Option α) : Option α := f130_0g  α x1 x2 k1
def pa130_0 : PT (List DV) := pA [pV false [(dX .f64)]]
def Fn130_0 (v : Tf130_0) (α : Type) (k : List RV → Option α) : Nat → Nat → Option α := fun x1 x2 => v α x1 x2 (fun (y1 : Int) (y2 : Int) => ur130_0_0 k y1 y2)
noncomputable def cm130_0g  : MCode := (.seq (.region r130_2 [] (tO [0, 2])) (.seq (.region r130_4 [] (tO [2])) .ret))
noncomputable def cm130_0 : MCode := cm130_0g 
theorem gm130_0 : cm130_0.Good Tryz.prog E130_0 sh130 := ⟨trivial, ⟨trivial, trivial⟩⟩
theorem fm130_0g   (α : Type) (k : List RV → Option α) : Fn130_0 (f130_0g ) α k = pa130_0.unc fun ds => fnM Tryz.prog (E130_0g ) sh130 (cm130_0g ) rs130 k ds := by kernel_rfl
theorem fm130_0 : ∀ (α : Type) (k : List RV → Option α), Fn130_0 f130_0 α k = pa130_0.unc fun ds => fnM Tryz.prog E130_0 sh130 cm130_0 rs130 k ds := fm130_0g 
theorem is130 : FnIs Tryz.prog 130 nt130 tr130 tl130 cm130_0.erase rs130 := ⟨Tryz.f130, Tryz.func130, rfl, by kernel_rfl, by kernel_rfl, by kernel_rfl⟩
theorem io130_0 : InstOk Tryz.prog 130 nt130 ⟨pa130_0, Fn130_0 f130_0⟩ := inst_ok eo130_0 followsTry is130 ⟨⟨sh130, cm130_0, by kernel_rfl, gm130_0, fm130_0⟩⟩
abbrev nt129 : Nat := 7
def sh129 : List (Nat × List Sh) := []
def r129_2 : List AOper := [oO 2 (.mv (.const (.float Go.FloatKind.f64 0)))]
def r129_4 : List AOper := [oM 3 0, oO 4 (.pure (oB (.call { callee := .value (.func 110), args := #[(.tmp 3)], argTypes := #[117] }) 164)), oO 5 (.bin .andNot 164 (.tmp 4) (.const (.int .u64 9223372036854775808))), oO 6 (.pure (oB (.call { callee := .value (.func 152), args := #[(.tmp 5)], argTypes := #[164] }) 117)), oM 2 6]
def tr129 : List (Nat × Tidy) := [tT 0 [0], tT 1 [2]]
def tl129 : List (Nat × Tidy) := []
def rs129 : List AResV := [.tmp 2]
def pr129_0_0 : PT (List RV) := pRs [pR false [rD (dF .f64)]]
def ur129_0_0 {β : Type} (g : List RV → β) : Nat → β := pr129_0_0.unc g
def E129_0g  : EnvK := EnvK.of [] noSeq
noncomputable def E129_0 : EnvK := E129_0g 
theorem eo129_0 : E129_0.Ok Tryz.prog := EnvK.of_ok noSeq_ok trivial
abbrev Tf129_0 : Type 1 := (α : Type) → Nat → (Nat → Option α) → Option α
def f129_0g  (α : Type) (x1 : Nat) (k1 : Nat → Option α) : Option α :=
 k1 (Int.toNat (iAndNot .u64 ((x1 : Nat) : Int) 9223372036854775808))
noncomputable def f129_0 (α : Type) (x1 : Nat) (k1 : Nat → Option α) : Option α := f129_0g  α x1 k1
def pa129_0 : PT (List DV) := pA [pV false [(dF .f64)]]
def Fn129_0 (v : Tf129_0) (α : Type) (k : List RV → Option α) : Nat → Option α := fun x1 => v α x1 (fun (y1 : Nat) => ur129_0_0 k y1)
noncomputable def cm129_0g  : MCode := (.seq (.region r129_2 [] (tO [0])) (.seq (.region r129_4 [] (tO [2])) .ret))
noncomputable def cm129_0 : MCode := cm129_0g 
theorem gm129_0 : cm129_0.Good Tryz.prog E129_0 sh129 := ⟨trivial, ⟨trivial, trivial⟩⟩
theorem fm129_0g   (α : Type) (k : List RV → Option α) : Fn129_0 (f129_0g ) α k = pa129_0.unc fun ds => fnM Tryz.prog (E129_0g ) sh129 (cm129_0g ) rs129 k ds := by kernel_rfl
theorem fm129_0 : ∀ (α : Type) (k : List RV → Option α), Fn129_0 f129_0 α k = pa129_0.unc fun ds => fnM Tryz.prog E129_0 sh129 cm129_0 rs129 k ds := fm129_0g 
theorem is129 : FnIs Tryz.prog 129 nt129 tr129 tl129 cm129_0.erase rs129 := ⟨Tryz.f129, Tryz.func129, rfl, by kernel_rfl, by kernel_rfl, by kernel_rfl⟩
theorem io129_0 : InstOk Tryz.prog 129 nt129 ⟨pa129_0, Fn129_0 f129_0⟩ := inst_ok eo129_0 followsTry is129 ⟨⟨sh129, cm129_0, by kernel_rfl, gm129_0, fm129_0⟩⟩
abbrev nt150 : Nat := 7
def sh150 : List (Nat × List Sh) := []
def r150_2 : List AOper := [oO 2 (.mv (.const (.float Go.FloatKind.f64 0)))]
def r150_6 : List AOper := [oM 3 0, oO 4 (.pure (oB (.call { callee := .value (.func 162), args := #[(.tmp 3)], argTypes := #[117] }) 117)), oM 2 4]
def r150_8 : List AOper := [oM 5 0, oO 6 (.call 163 [(.tmp 5)]), oM 2 6]
def tr150 : List (Nat × Tidy) := [tT 0 [0], tT 1 [2], tT 2 [2]]
def tl150 : List (Nat × Tidy) := []
def rs150 : List AResV := [.tmp 2]
def pr150_0_0 : PT (List RV) := pRs [pR false [rD (dNan .f64)]]
def ur150_0_0 {β : Type} (g : List RV → β) : β := pr150_0_0.unc g
def pr150_0_1 : PT (List RV) := pRs [pR false [rD (dF .f64)]]
def ur150_0_1 {β : Type} (g : List RV → β) : Nat → β := pr150_0_1.unc g
def E150_0g  : EnvK := EnvK.of [] noSeq
noncomputable def E150_0 : EnvK := E150_0g 
theorem eo150_0 : E150_0.Ok Tryz.prog := EnvK.of_ok noSeq_ok trivial
abbrev Tf150_0 : Type 1 := (α : Type) → Nat → (Option α) → (Nat → Option α) → Option α
def f150_0g  (α : Type) (x1 : Nat) (k1 : Option α) (k2 : Nat → Option α) : Option α :=
 cK (isNaNb .f64 x1)
 (k1)
 (k2 (truncF x1))
noncomputable def f150_0 (α : Type) (x1 : Nat) (k1 : Option α) (k2 : Nat → Option α) : Option α := f150_0g  α x1 k1 k2
def pa150_0 : PT (List DV) := pA [pV false [(dF .f64)]]
def Fn150_0 (v : Tf150_0) (α : Type) (k : List RV → Option α) : Nat → Option α := fun x1 => v α x1 (ur150_0_0 k ) (fun (y1 : Nat) => ur150_0_1 k y1)
noncomputable def cm150_0g  : MCode := (.seq (.region r150_2 [] (tO [0])) (.seq (.cond (.const (.bool true)) (.seq (.region r150_6 [] (tO [2])) .ret) .skip) (.seq (.region r150_8 [] (tO [2])) .ret)))
noncomputable def cm150_0 : MCode := cm150_0g 
theorem gm150_0 : cm150_0.Good Tryz.prog E150_0 sh150 := ⟨trivial, ⟨⟨⟨trivial, trivial⟩, trivial⟩, ⟨trivial, trivial⟩⟩⟩
theorem fm150_0g   (α : Type) (k : List RV → Option α) : Fn150_0 (f150_0g ) α k = pa150_0.unc fun ds => fnM Tryz.prog (E150_0g ) sh150 (cm150_0g ) rs150 k ds := by kernel_rfl
theorem fm150_0 : ∀ (α : Type) (k : List RV → Option α), Fn150_0 f150_0 α k = pa150_0.unc fun ds => fnM Tryz.prog E150_0 sh150 cm150_0 rs150 k ds := fm150_0g 
theorem is150 : FnIs Tryz.prog 150 nt150 tr150 tl150 cm150_0.erase rs150 := ⟨Tryz.f150, Tryz.func150, rfl, by kernel_rfl, by kernel_rfl, by kernel_rfl⟩
theorem io150_0 : InstOk Tryz.prog 150 nt150 ⟨pa150_0, Fn150_0 f150_0⟩ := inst_ok eo150_0 followsTry is150 ⟨⟨sh150, cm150_0, by kernel_rfl, gm150_0, fm150_0⟩⟩
abbrev nt54 : Nat := 27
def sh54 : List (Nat × List Sh) := [(7, [.cpx .f64]), (20, [.int .i64])]
def r54_2 : List AOper := [oO 2 (.box (.tmp 0)), oO 4 (.alloc [(.d (.v (.complex Go.FloatKind.f64 0 0))), (cI 0)])]
def r54_4 : List AOper := [oO 6 (.faddr 0 (.tmp 2)), oO 7 (.load false 1 (.tmp 6)), oM 8 1, oO 9 (.pure (oB (.convert 3 117 (.tmp 8)) 117)), oO 10 (.pure (oB (.call { callee := .builtin .complex, args := #[(.tmp 9), (.const (.float Go.FloatKind.f64 0))], argTypes := #[117, 117] }) 43)), oO 11 (.bin .mul 43 (.tmp 7) (.tmp 10)), oM 5 11]
def r54_6 : List AOper := [oM 12 5, oO 13 (.pure (oB (.call { callee := .builtin .real, args := #[(.tmp 12)], argTypes := #[43] }) 117)), oO 14 (.bin .add 117 (.tmp 13) (.const (.float Go.FloatKind.f64 0))), oM 15 5, oO 16 (.pure (oB (.call { callee := .builtin .imag, args := #[(.tmp 15)], argTypes := #[43] }) 117)), oO 17 (.bin .add 117 (.tmp 16) (.const (.float Go.FloatKind.f64 0))), oO 18 (.pure (oB (.call { callee := .builtin .complex, args := #[(.tmp 14), (.tmp 17)], argTypes := #[117, 117] }) 43)), oO 19 (.faddr 1 (.tmp 2)), oO 20 (.load false 1 (.tmp 19)), oM 21 1, oM 22 1, oO 23 (.pure (oB (.unOp .neg 3 (.tmp 22)) 3)), oO 24 (.pure (oB (.call { callee := .builtin .max, args := #[(.tmp 21), (.tmp 23)], argTypes := #[3, 3] }) 3)), oO 25 (.bin .mul 3 (.tmp 20) (.tmp 24)), oO 26 (.build [(.d (.v (.complex Go.FloatKind.f64 0 0))), (cI 0)] [(0, 1, (.tmp 18)), (1, 1, (.tmp 25))]), oD (.store 2 (.tmp 4) (.tmp 26))]
def tr54 : List (Nat × Tidy) := [tT 0 [1, 2, 4], tT 1 [1, 2, 4, 5], tT 2 [4]]
def tl54 : List (Nat × Tidy) := []
def rs54 : List AResV := [.cell 4 true 2]
def pr54_0_0 : PT (List RV) := pRs [pR true [rD (dX .f64), rD (dI .i64)]]
def ur54_0_0 {β : Type} (g : List RV → β) : Nat → Nat → Int → β := pr54_0_0.unc g
def E54_0g  : EnvK := EnvK.of [] noSeq
noncomputable def E54_0 : EnvK := E54_0g 
theorem eo54_0 : E54_0.Ok Tryz.prog := EnvK.of_ok noSeq_ok trivial
abbrev Tf54_0 : Type 1 := (α : Type) → Nat → Nat → Int → Int → (Nat → Nat → Int → Option α) → Option α
def f54_0g  (α : Type) (x1 x2 : Nat) (x3 x4 : Int) (k1 : Nat → Nat → Int → Option α) : Option α :=
 flK ((FloatKind.format .f64).mul x1 (FloatKind.nearest .f64 x4))
 (fun x5 => flK ((FloatKind.format .f64).mul x2 0)
 (fun x6 => flK ((FloatKind.format .f64).sub x5 x6)
 (fun x7 => flK ((FloatKind.format .f64).mul x1 0)
 (fun x8 => flK ((FloatKind.format .f64).mul x2 (FloatKind.nearest .f64 x4))
 (fun x9 => flK ((FloatKind.format .f64).add x8 x9)
 (fun x10 => flN ((FloatKind.format .f64).add x7 0)
 (fun x11 => flN ((FloatKind.format .f64).add x10 0)
 (fun x12 => k1 x11 x12 (w64 (x3 * (if (w64 (0 - x4)) > x4 then (w64 (0 - x4)) else x4))))
 (none))
 (flN ((FloatKind.format .f64).add x10 0)
 (fun x13 => none)
 (none))))))))
noncomputable def f54_0 (α : Type) (x1 x2 : Nat) (x3 x4 : Int) (k1 : Nat → Nat → Int → Option α) : Option α := f54_0g  α x1 x2 x3 x4 k1
def pa54_0 : PT (List DV) := pA [pV true [(dX .f64), (dI .i64)], pV false [(dI .i64)]]
def Fn54_0 (v : Tf54_0) (α : Type) (k : List RV → Option α) : Nat → Nat → Int → Int → Option α := fun x1 x2 x3 x4 => v α x1 x2 x3 x4 (fun (y1 : Nat) (y2 : Nat) (y3 : Int) => ur54_0_0 k y1 y2 y3)
noncomputable def cm54_0g  : MCode := (.seq (.region r54_2 [] (tO [1, 2, 4])) (.seq (.region r54_4 [] (tO [1, 2, 4, 5])) (.seq (.region r54_6 [] (tO [4])) .ret)))
noncomputable def cm54_0 : MCode := cm54_0g 
theorem gm54_0 : cm54_0.Good Tryz.prog E54_0 sh54 := ⟨trivial, ⟨trivial, ⟨trivial, trivial⟩⟩⟩
theorem fm54_0g   (α : Type) (k : List RV → Option α) : Fn54_0 (f54_0g ) α k = pa54_0.unc fun ds => fnM Tryz.prog (E54_0g ) sh54 (cm54_0g ) rs54 k ds := by kernel_rfl
theorem fm54_0 : ∀ (α : Type) (k : List RV → Option α), Fn54_0 f54_0 α k = pa54_0.unc fun ds => fnM Tryz.prog E54_0 sh54 cm54_0 rs54 k ds := fm54_0g 
theorem is54 : FnIs Tryz.prog 54 nt54 tr54 tl54 cm54_0.erase rs54 := ⟨Tryz.f54, Tryz.func54, rfl, by kernel_rfl, by kernel_rfl, by kernel_rfl⟩
theorem io54_0 : InstOk Tryz.prog 54 nt54 ⟨pa54_0, Fn54_0 f54_0⟩ := inst_ok eo54_0 followsTry is54 ⟨⟨sh54, cm54_0, by kernel_rfl, gm54_0, fm54_0⟩⟩
abbrev nt166 : Nat := 10
def sh166 : List (Nat × List Sh) := [(4, [.int .i64]), (7, [.int .i64])]
def r166_2 : List AOper := [oO 1 (.box (.tmp 0)), oO 2 (.mv (.const (.complex Go.FloatKind.f64 0 0)))]
def r166_4 : List AOper := [oO 3 (.faddr 0 (.tmp 1)), oO 4 (.load false 1 (.tmp 3)), oO 5 (.pure (oB (.convert 3 117 (.tmp 4)) 117)), oO 6 (.faddr 1 (.tmp 1)), oO 7 (.load false 1 (.tmp 6)), oO 8 (.pure (oB (.convert 3 117 (.tmp 7)) 117)), oO 9 (.pure (oB (.call { callee := .builtin .complex, args := #[(.tmp 5), (.tmp 8)], argTypes := #[117, 117] }) 43)), oM 2 9]
def tr166 : List (Nat × Tidy) := [tT 0 [1], tT 1 [2]]
def tl166 : List (Nat × Tidy) := []
def rs166 : List AResV := [.tmp 2]
def pr166_0_0 : PT (List RV) := pRs [pR false [rD (dX .f64)]]
def ur166_0_0 {β : Type} (g : List RV → β) : Nat → Nat → β := pr166_0_0.unc g
def E166_0g  : EnvK := EnvK.of [] noSeq
noncomputable def E166_0 : EnvK := E166_0g 
theorem eo166_0 : E166_0.Ok Tryz.prog := EnvK.of_ok noSeq_ok trivial
abbrev Tf166_0 : Type 1 := (α : Type) → Int → Int → (Nat → Nat → Option α) → Option α
def f166_0g  (α : Type) (x1 x2 : Int) (k1 : Nat → Nat → Option α) : Option α :=
 k1 (FloatKind.nearest .f64 x1) (FloatKind.nearest .f64 x2)
noncomputable def f166_0 (α : Type) (x1 x2 : Int) (k1 : Nat → Nat → Option α) : Option α := f166_0g  α x1 x2 k1
def pa166_0 : PT (List DV) := pA [pV true [(dI .i64), (dI .i64)]]
def Fn166_0 (v : Tf166_0) (α : Type) (k : List RV → Option α) : Int → Int → Option α := fun x1 x2 => v α x1 x2 (fun (y1 : Nat) (y2 : Nat) => ur166_0_0 k y1 y2)
noncomputable def cm166_0g  : MCode := (.seq (.region r166_2 [] (tO [1])) (.seq (.region r166_4 [] (tO [2])) .ret))
noncomputable def cm166_0 : MCode := cm166_0g 
theorem gm166_0 : cm166_0.Good Tryz.prog E166_0 sh166 := ⟨trivial, ⟨trivial, trivial⟩⟩
theorem fm166_0g   (α : Type) (k : List RV → Option α) : Fn166_0 (f166_0g ) α k = pa166_0.unc fun ds => fnM Tryz.prog (E166_0g ) sh166 (cm166_0g ) rs166 k ds := by kernel_rfl
theorem fm166_0 : ∀ (α : Type) (k : List RV → Option α), Fn166_0 f166_0 α k = pa166_0.unc fun ds => fnM Tryz.prog E166_0 sh166 cm166_0 rs166 k ds := fm166_0g 
theorem is166 : FnIs Tryz.prog 166 nt166 tr166 tl166 cm166_0.erase rs166 := ⟨Tryz.f166, Tryz.func166, rfl, by kernel_rfl, by kernel_rfl, by kernel_rfl⟩
theorem io166_0 : InstOk Tryz.prog 166 nt166 ⟨pa166_0, Fn166_0 f166_0⟩ := inst_ok eo166_0 followsTry is166 ⟨⟨sh166, cm166_0, by kernel_rfl, gm166_0, fm166_0⟩⟩
abbrev nt164 : Nat := 16
def sh164 : List (Nat × List Sh) := [(9, [.int .i64]), (12, [.int .i64]), (15, [.int .i64, .int .i64])]
def r164_2 : List AOper := [oO 2 (.box (.tmp 0)), oO 4 (.alloc [(cI 0), (cI 0)])]
def r164_5 : List AOper := [oM 5 1, oO 6 (.mv (kI 0))]
def td164_7 : Option Tidy := (tO [2, 4, 5, 6])
def r164_9 : List AOper := [oO 7 (.bin .lss 3 (.tmp 6) (.tmp 5))]
def r164_14 : List AOper := [oO 8 (.faddr 1 (.tmp 2)), oO 9 (.load false 1 (.tmp 8)), oO 10 (.pure (oB (.unOp .neg 3 (.tmp 9)) 3)), oO 11 (.faddr 0 (.tmp 2)), oO 12 (.load false 1 (.tmp 11)), oO 13 (.build [(cI 0), (cI 0)] [(0, 1, (.tmp 10)), (1, 1, (.tmp 12))]), oD (.store 2 (.tmp 2) (.tmp 13))]
def r164_15 : List AOper := [oO 14 (.bin .add 3 (.tmp 6) (kI 1)), oM 6 14]
def r164_17 : List AOper := [oO 15 (.load true 2 (.tmp 2)), oD (.store 2 (.tmp 4) (.tmp 15))]
def tr164 : List (Nat × Tidy) := [tT 0 [1, 2, 4], tT 1 [2, 4, 5, 6], tT 2 [2, 4, 5, 6, 7], tT 3 [2, 4, 5, 6], tT 4 [2, 4, 5, 6], tT 5 [4]]
def tl164 : List (Nat × Tidy) := [tT 2 [2, 4, 5, 6]]
def rs164 : List AResV := [.cell 4 true 2]
def p164_0_0 : PT St := pS [sl 2 (aV false [(cPtr 2 0)]), sl 4 (aV false [(cPtr 4 0)]), sl 5 (aV false [(cD (dI .i64))]), sl 6 (aV false [(cD (dI .i64))])] [eBox 2 [(cD (dI .i64)), (cD (dI .i64))], eBox 4 [(cD (dI .i64)), (cD (dI .i64))]]
def u164_0_0 {β : Type} (g : St → β) : Int → Int → Int → Int → Int → Int → β := p164_0_0.unc g
def p164_0_1 : PT St := pS [sl 2 (aV false [(cPtr 2 0)]), sl 4 (aV false [(cPtr 4 0)]), sl 5 (aV false [(cD (dI .i64))]), sl 6 (aV false [(cD (dI .i64))]), sl 7 (aV false [(cD dB)])] [eBox 2 [(cD (dI .i64)), (cD (dI .i64))], eBox 4 [(cD (dI .i64)), (cD (dI .i64))]]
def u164_0_1 {β : Type} (g : St → β) : Int → Int → Bool → Int → Int → Int → Int → β := p164_0_1.unc g
def pr164_0_0 : PT (List RV) := pRs [pR true [rD (dI .i64), rD (dI .i64)]]
def ur164_0_0 {β : Type} (g : List RV → β) : Int → Int → β := pr164_0_0.unc g
def E164_0g  : EnvK := EnvK.of [] noSeq
noncomputable def E164_0 : EnvK := E164_0g 
theorem eo164_0 : E164_0.Ok Tryz.prog := EnvK.of_ok noSeq_ok trivial
noncomputable def c164_0_7g  : MCode := (.seq (.region r164_9 [] (tO [2, 4, 5, 6, 7])) (.seq (.cond (.tmp 7) .skip (.exit 0)) (.seq (.block 1 (.region r164_14 [] (tO [2, 4, 5, 6]))) (.region r164_15 [] (tO [2, 4, 5, 6])))))
noncomputable def c164_0_7 : MCode := c164_0_7g 
theorem g164_0_7 : c164_0_7.Good Tryz.prog E164_0 sh164 := ⟨trivial, ⟨⟨trivial, trivial⟩, ⟨trivial, trivial⟩⟩⟩
--CODE 7 0
def S164_0_0g  (α : Type) (x4 x5 x6 x7 : Int) (kn : Int → Int → Int → Option α) (k1 : Int → Bool → Int → Int → Option α) : Option α :=
 cK (decide (x5 < x4))
 (kn (w64 (x5 + 1)) (w64 (0 - x7)) x6)
 (k1 x5 (decide (x5 < x4)) x6 x7)
noncomputable def S164_0_0 (α : Type) (x4 x5 x6 x7 : Int) (kn : Int → Int → Int → Option α) (k1 : Int → Bool → Int → Int → Option α) : Option α := S164_0_0g  α x4 x5 x6 x7 kn k1
noncomputable def R164_0_0 (α : Type) (x4 : Int) (k1 : Int → Bool → Int → Int → Option α) : Nat → Int → Int → Int → Option α
 | 0, _, _, _ => none
 | n + 1, x5, x6, x7 => S164_0_0 α x4 x5 x6 x7 (R164_0_0 α x4 k1 n) k1
noncomputable def L164_0_0 (α : Type) (x4 : Int) (k1 : Int → Bool → Int → Int → Option α) (x5 x6 x7 : Int) : Option α := R164_0_0 α x4 k1 fuel x5 x6 x7
abbrev TL164_0_0 : Type 1 := (α : Type) → Int → (Int → Bool → Int → Int → Option α) → Int → Int → Int → Option α
def F164_0_0 (v : TL164_0_0) (α : Type) (K : Exit → St → Option α) : Int → Int → Int → Int → Int → Int → Option α := fun x4 x5 x6 x7 x8 x9 => v α x4 (fun (y1 : Int) (y2 : Bool) (y3 : Int) (y4 : Int) => u164_0_1 (K (.exit 0)) x4 y1 y2 y3 y4 x8 x9) x5 x6 x7
theorem r164_0_0g   (α : Type) (K : Exit → St → Option α) (Kn : St → Option α) (x4 x5 x6 x7 x8 x9 : Int) : u164_0_0 (fun σ => runM Tryz.prog (E164_0g ) sh164 (c164_0_7g ) (thenK (fun σ => tidyK td164_7 σ Kn) K) σ) x4 x5 x6 x7 x8 x9 = S164_0_0g  α x4 x5 x6 x7 (fun x5 x6 x7 => u164_0_0 Kn x4 x5 x6 x7 x8 x9) (fun (y1 : Int) (y2 : Bool) (y3 : Int) (y4 : Int) => u164_0_1 (K (.exit 0)) x4 y1 y2 y3 y4 x8 x9) := by kernel_rfl
theorem r164_0_0 (α : Type) (K : Exit → St → Option α) (Kn : St → Option α) (x4 x5 x6 x7 x8 x9 : Int) : u164_0_0 (fun σ => runM Tryz.prog E164_0 sh164 c164_0_7 (thenK (fun σ => tidyK td164_7 σ Kn) K) σ) x4 x5 x6 x7 x8 x9 = S164_0_0 α x4 x5 x6 x7 (fun x5 x6 x7 => u164_0_0 Kn x4 x5 x6 x7 x8 x9) (fun (y1 : Int) (y2 : Bool) (y3 : Int) (y4 : Int) => u164_0_1 (K (.exit 0)) x4 y1 y2 y3 y4 x8 x9) := r164_0_0g  α K Kn x4 x5 x6 x7 x8 x9
theorem t164_0_0 (α : Type) (K : Exit → St → Option α) : ∀ (n : Nat) (x4 x5 x6 x7 x8 x9 : Int), R164_0_0 α x4 (fun (y1 : Int) (y2 : Bool) (y3 : Int) (y4 : Int) => u164_0_1 (K (.exit 0)) x4 y1 y2 y3 y4 x8 x9) n x5 x6 x7 = u164_0_0 (loopT (runM Tryz.prog E164_0 sh164 c164_0_7) td164_7 K n) x4 x5 x6 x7 x8 x9 := by
 intro n
 induction n with
 | zero => intros; rfl
 | succ n ih => intro x4 x5 x6 x7 x8 x9; exact (congrArg (fun kn => S164_0_0 α x4 x5 x6 x7 kn (fun (y1 : Int) (y2 : Bool) (y3 : Int) (y4 : Int) => u164_0_1 (K (.exit 0)) x4 y1 y2 y3 y4 x8 x9)) (funext fun x5 => funext fun x6 => funext fun x7 => ih x4 x5 x6 x7 x8 x9)).trans (r164_0_0 α K (loopT (runM Tryz.prog E164_0 sh164 c164_0_7) td164_7 K n) x4 x5 x6 x7 x8 x9).symm
theorem m164_0_0 : ∀ (α : Type) (K : Exit → St → Option α), F164_0_0 L164_0_0 α K = p164_0_0.unc fun σ => loopT (runM Tryz.prog E164_0 sh164 c164_0_7) td164_7 K fuel σ := fun α K => funext fun x4 => funext fun x5 => funext fun x6 => funext fun x7 => funext fun x8 => funext fun x9 => t164_0_0 α K fuel x4 x5 x6 x7 x8 x9
abbrev Tf164_0 : Type 1 := (α : Type) → Int → Int → Int → (Int → Int → Option α) → Option α
def f164_0g (vL164_0_0 : TL164_0_0) (α : Type) (x1 x2 x3 : Int) (k1 : Int → Int → Option α) : Option α :=
 vL164_0_0 α x3
 (fun x11 x12 x13 x14 => k1 x13 x14) 0 x1 x2
noncomputable def f164_0 (α : Type) (x1 x2 x3 : Int) (k1 : Int → Int → Option α) : Option α := f164_0g L164_0_0 α x1 x2 x3 k1
def pa164_0 : PT (List DV) := pA [pV true [(dI .i64), (dI .i64)], pV false [(dI .i64)]]
def Fn164_0 (v : Tf164_0) (α : Type) (k : List RV → Option α) : Int → Int → Int → Option α := fun x1 x2 x3 => v α x1 x2 x3 (fun (y1 : Int) (y2 : Int) => ur164_0_0 k y1 y2)
noncomputable def cm164_0g (vL164_0_0 : TL164_0_0) : MCode := (.seq (.region r164_2 [] (tO [1, 2, 4])) (.seq (.seq (.region r164_5 [] (tO [2, 4, 5, 6])) (.block 0 (.loop td164_7 [⟨p164_0_0, F164_0_0 vL164_0_0⟩] c164_0_7))) (.seq (.region r164_17 [] (tO [4])) .ret)))
noncomputable def cm164_0 : MCode := cm164_0g L164_0_0
theorem gm164_0 : cm164_0.Good Tryz.prog E164_0 sh164 := ⟨trivial, ⟨⟨trivial, ⟨g164_0_7, m164_0_0, trivial⟩⟩, ⟨trivial, trivial⟩⟩⟩
theorem fm164_0g  (vL164_0_0 : TL164_0_0) (α : Type) (k : List RV → Option α) : Fn164_0 (f164_0g vL164_0_0) α k = pa164_0.unc fun ds => fnM Tryz.prog (E164_0g ) sh164 (cm164_0g vL164_0_0) rs164 k ds := by kernel_rfl
theorem fm164_0 : ∀ (α : Type) (k : List RV → Option α), Fn164_0 f164_0 α k = pa164_0.unc fun ds => fnM Tryz.prog E164_0 sh164 cm164_0 rs164 k ds := fm164_0g L164_0_0
theorem is164 : FnIs Tryz.prog 164 nt164 tr164 tl164 cm164_0.erase rs164 := ⟨Tryz.f164, Tryz.func164, rfl, by kernel_rfl, by kernel_rfl, by kernel_rfl⟩
theorem io164_0 : InstOk Tryz.prog 164 nt164 ⟨pa164_0, Fn164_0 f164_0⟩ := inst_ok eo164_0 followsTry is164 ⟨⟨sh164, cm164_0, by kernel_rfl, gm164_0, fm164_0⟩⟩
abbrev nt131 : Nat := 14
def sh131 : List (Nat × List Sh) := [(4, [.int .i64]), (6, [.int .i64]), (9, [.int .i64]), (11, [.int .i64])]
def r131_2 : List AOper := [oO 1 (.box (.tmp 0)), oO 2 (.mv (kI 0))]
def r131_4 : List AOper := [oO 3 (.faddr 0 (.tmp 1)), oO 4 (.load false 1 (.tmp 3)), oO 5 (.faddr 0 (.tmp 1)), oO 6 (.load false 1 (.tmp 5)), oO 7 (.bin .mul 3 (.tmp 4) (.tmp 6)), oO 8 (.faddr 1 (.tmp 1)), oO 9 (.load false 1 (.tmp 8)), oO 10 (.faddr 1 (.tmp 1)), oO 11 (.load false 1 (.tmp 10)), oO 12 (.bin .mul 3 (.tmp 9) (.tmp 11)), oO 13 (.bin .add 3 (.tmp 7) (.tmp 12)), oM 2 13]
def tr131 : List (Nat × Tidy) := [tT 0 [1], tT 1 [2]]
def tl131 : List (Nat × Tidy) := []
def rs131 : List AResV := [.tmp 2]
def pr131_0_0 : PT (List RV) := pRs [pR false [rD (dI .i64)]]
def ur131_0_0 {β : Type} (g : List RV → β) : Int → β := pr131_0_0.unc g
def E131_0g  : EnvK := EnvK.of [] noSeq
noncomputable def E131_0 : EnvK := E131_0g 
theorem eo131_0 : E131_0.Ok Tryz.prog := EnvK.of_ok noSeq_ok trivial
abbrev Tf131_0 : Type 1 := (α : Type) → Int → Int → (Int → Option α) → Option α
def f131_0g  (α : Type) (x1 x2 : Int) (k1 : Int → Option α) : Option α :=
 k1 (w64 ((w64 (x1 * x1)) + (w64 (x2 * x2))))
noncomputable def f131_0 (α : Type) (x1 x2 : Int) (k1 : Int → Option α) : Option α := f131_0g  α x1 x2 k1
def pa131_0 : PT (List DV) := pA [pV true [(dI .i64), (dI .i64)]]
def Fn131_0 (v : Tf131_0) (α : Type) (k : List RV → Option α) : Int → Int → Option α := fun x1 x2 => v α x1 x2 (fun (y1 : Int) => ur131_0_0 k y1)
noncomputable def cm131_0g  : MCode := (.seq (.region r131_2 [] (tO [1])) (.seq (.region r131_4 [] (tO [2])) .ret))
noncomputable def cm131_0 : MCode := cm131_0g 
theorem gm131_0 : cm131_0.Good Tryz.prog E131_0 sh131 := ⟨trivial, ⟨trivial, trivial⟩⟩
theorem fm131_0g   (α : Type) (k : List RV → Option α) : Fn131_0 (f131_0g ) α k = pa131_0.unc fun ds => fnM Tryz.prog (E131_0g ) sh131 (cm131_0g ) rs131 k ds := by kernel_rfl
theorem fm131_0 : ∀ (α : Type) (k : List RV → Option α), Fn131_0 f131_0 α k = pa131_0.unc fun ds => fnM Tryz.prog E131_0 sh131 cm131_0 rs131 k ds := fm131_0g 
theorem is131 : FnIs Tryz.prog 131 nt131 tr131 tl131 cm131_0.erase rs131 := ⟨Tryz.f131, Tryz.func131, rfl, by kernel_rfl, by kernel_rfl, by kernel_rfl⟩
theorem io131_0 : InstOk Tryz.prog 131 nt131 ⟨pa131_0, Fn131_0 f131_0⟩ := inst_ok eo131_0 followsTry is131 ⟨⟨sh131, cm131_0, by kernel_rfl, gm131_0, fm131_0⟩⟩
abbrev nt155 : Nat := 16
def sh155 : List (Nat × List Sh) := [(6, [.int .i64]), (8, [.int .i64]), (11, [.int .i64]), (13, [.int .i64])]
def r155_2 : List AOper := [oO 2 (.box (.tmp 0)), oO 3 (.box (.tmp 1)), oO 4 (.alloc [(cI 0), (cI 0)])]
def r155_4 : List AOper := [oO 5 (.faddr 0 (.tmp 2)), oO 6 (.load false 1 (.tmp 5)), oO 7 (.faddr 0 (.tmp 3)), oO 8 (.load false 1 (.tmp 7)), oO 9 (.bin .add 3 (.tmp 6) (.tmp 8)), oO 10 (.faddr 1 (.tmp 2)), oO 11 (.load false 1 (.tmp 10)), oO 12 (.faddr 1 (.tmp 3)), oO 13 (.load false 1 (.tmp 12)), oO 14 (.bin .add 3 (.tmp 11) (.tmp 13)), oO 15 (.build [(cI 0), (cI 0)] [(0, 1, (.tmp 9)), (1, 1, (.tmp 14))]), oD (.store 2 (.tmp 4) (.tmp 15))]
def tr155 : List (Nat × Tidy) := [tT 0 [2, 3, 4], tT 1 [4]]
def tl155 : List (Nat × Tidy) := []
def rs155 : List AResV := [.cell 4 true 2]
def pr155_0_0 : PT (List RV) := pRs [pR true [rD (dI .i64), rD (dI .i64)]]
def ur155_0_0 {β : Type} (g : List RV → β) : Int → Int → β := pr155_0_0.unc g
def E155_0g  : EnvK := EnvK.of [] noSeq
noncomputable def E155_0 : EnvK := E155_0g 
theorem eo155_0 : E155_0.Ok Tryz.prog := EnvK.of_ok noSeq_ok trivial
abbrev Tf155_0 : Type 1 := (α : Type) → Int → Int → Int → Int → (Int → Int → Option α) → Option α
def f155_0g  (α : Type) (x1 x2 x3 x4 : Int) (k1 : Int → Int → Option α) : Option α :=
 k1 (w64 (x1 + x3)) (w64 (x2 + x4))
noncomputable def f155_0 (α : Type) (x1 x2 x3 x4 : Int) (k1 : Int → Int → Option α) : Option α := f155_0g  α x1 x2 x3 x4 k1
def pa155_0 : PT (List DV) := pA [pV true [(dI .i64), (dI .i64)], pV true [(dI .i64), (dI .i64)]]
def Fn155_0 (v : Tf155_0) (α : Type) (k : List RV → Option α) : Int → Int → Int → Int → Option α := fun x1 x2 x3 x4 => v α x1 x2 x3 x4 (fun (y1 : Int) (y2 : Int) => ur155_0_0 k y1 y2)
noncomputable def cm155_0g  : MCode := (.seq (.region r155_2 [] (tO [2, 3, 4])) (.seq (.region r155_4 [] (tO [4])) .ret))
noncomputable def cm155_0 : MCode := cm155_0g 
theorem gm155_0 : cm155_0.Good Tryz.prog E155_0 sh155 := ⟨trivial, ⟨trivial, trivial⟩⟩
theorem fm155_0g   (α : Type) (k : List RV → Option α) : Fn155_0 (f155_0g ) α k = pa155_0.unc fun ds => fnM Tryz.prog (E155_0g ) sh155 (cm155_0g ) rs155 k ds := by kernel_rfl
theorem fm155_0 : ∀ (α : Type) (k : List RV → Option α), Fn155_0 f155_0 α k = pa155_0.unc fun ds => fnM Tryz.prog E155_0 sh155 cm155_0 rs155 k ds := fm155_0g 
theorem is155 : FnIs Tryz.prog 155 nt155 tr155 tl155 cm155_0.erase rs155 := ⟨Tryz.f155, Tryz.func155, rfl, by kernel_rfl, by kernel_rfl, by kernel_rfl⟩
theorem io155_0 : InstOk Tryz.prog 155 nt155 ⟨pa155_0, Fn155_0 f155_0⟩ := inst_ok eo155_0 followsTry is155 ⟨⟨sh155, cm155_0, by kernel_rfl, gm155_0, fm155_0⟩⟩
abbrev nt139 : Nat := 16
def sh139 : List (Nat × List Sh) := []
def r139_2 : List AOper := [oO 4 (.mv (kI 0))]
def r139_4 : List AOper := [oM 6 0, oM 7 1, oO 8 (.bin .quo 3 (.tmp 6) (.tmp 7)), oM 5 8]
def r139_7 : List AOper := [oM 9 0, oM 10 1, oO 11 (.bin .rem 3 (.tmp 9) (.tmp 10)), oO 12 (.bin .lss 3 (.tmp 11) (kI 0))]
def r139_9 : List AOper := [oM 13 5, oO 14 (.bin .sub 3 (.tmp 13) (kI 1)), oM 5 14]
def r139_11 : List AOper := [oM 15 5, oM 4 15]
def tr139 : List (Nat × Tidy) := [tT 0 [0, 1], tT 1 [0, 1, 5], tT 2 [5, 12], tT 3 [5], tT 4 [4]]
def tl139 : List (Nat × Tidy) := []
def rs139 : List AResV := [.tmp 4]
def pr139_0_0 : PT (List RV) := pRs [pR false [rD (dI .i64)]]
def ur139_0_0 {β : Type} (g : List RV → β) : Int → β := pr139_0_0.unc g
def E139_0g  : EnvK := EnvK.of [] noSeq
noncomputable def E139_0 : EnvK := E139_0g 
theorem eo139_0 : E139_0.Ok Tryz.prog := EnvK.of_ok noSeq_ok trivial
abbrev Tf139_0 : Type 1 := (α : Type) → Int → Int → (Int → Option α) → Option α
def f139_0g  (α : Type) (x1 x2 : Int) (k1 : Int → Option α) : Option α :=
 gK (x2 != 0) (gK (x2 != 0) (cK (decide ((Int.tmod x1 x2) < 0))
 (k1 (w64 ((w64 (Int.tdiv x1 x2)) - 1)))
 (k1 (w64 (Int.tdiv x1 x2)))))
noncomputable def f139_0 (α : Type) (x1 x2 : Int) (k1 : Int → Option α) : Option α := f139_0g  α x1 x2 k1
def pa139_0 : PT (List DV) := pA [pV false [(dI .i64)], pV false [(dI .i64)]]
def Fn139_0 (v : Tf139_0) (α : Type) (k : List RV → Option α) : Int → Int → Option α := fun x1 x2 => v α x1 x2 (fun (y1 : Int) => ur139_0_0 k y1)
noncomputable def cm139_0g  : MCode := (.seq (.region r139_2 [] (tO [0, 1])) (.seq (.region r139_4 [] (tO [0, 1, 5])) (.seq (.seq (.region r139_7 [] (tO [5, 12])) (.cond (.tmp 12) (.region r139_9 [] (tO [5])) .skip)) (.seq (.region r139_11 [] (tO [4])) .ret))))
noncomputable def cm139_0 : MCode := cm139_0g 
theorem gm139_0 : cm139_0.Good Tryz.prog E139_0 sh139 := ⟨trivial, ⟨trivial, ⟨⟨trivial, ⟨trivial, trivial⟩⟩, ⟨trivial, trivial⟩⟩⟩⟩
theorem fm139_0g   (α : Type) (k : List RV → Option α) : Fn139_0 (f139_0g ) α k = pa139_0.unc fun ds => fnM Tryz.prog (E139_0g ) sh139 (cm139_0g ) rs139 k ds := by kernel_rfl
theorem fm139_0 : ∀ (α : Type) (k : List RV → Option α), Fn139_0 f139_0 α k = pa139_0.unc fun ds => fnM Tryz.prog E139_0 sh139 cm139_0 rs139 k ds := fm139_0g 
theorem is139 : FnIs Tryz.prog 139 nt139 tr139 tl139 cm139_0.erase rs139 := ⟨Tryz.f139, Tryz.func139, rfl, by kernel_rfl, by kernel_rfl, by kernel_rfl⟩
theorem io139_0 : InstOk Tryz.prog 139 nt139 ⟨pa139_0, Fn139_0 f139_0⟩ := inst_ok eo139_0 followsTry is139 ⟨⟨sh139, cm139_0, by kernel_rfl, gm139_0, fm139_0⟩⟩
abbrev nt127 : Nat := 15
def sh127 : List (Nat × List Sh) := []
def r127_2 : List AOper := [oO 6 (.mv (.const (.bool false)))]
def r127_4 : List AOper := [oM 7 1, oM 8 0, oO 9 (.bin .leq 3 (.tmp 7) (.tmp 8)), oM 10 9, oG 11 (.mv (.tmp 0)) 10 true, oG 12 (.mv (.tmp 2)) 10 true, oG 13 (.bin .leq 3 (.tmp 11) (.tmp 12)) 10 true, oO 14 (.pick (.tmp 10) (.tmp 13) (.const (.bool false))), oM 6 14]
def tr127 : List (Nat × Tidy) := [tT 0 [0, 1, 2], tT 1 [6]]
def tl127 : List (Nat × Tidy) := []
def rs127 : List AResV := [.tmp 6]
def pr127_0_0 : PT (List RV) := pRs [pR false [rD dB]]
def ur127_0_0 {β : Type} (g : List RV → β) : Bool → β := pr127_0_0.unc g
def E127_0g  : EnvK := EnvK.of [] noSeq
noncomputable def E127_0 : EnvK := E127_0g 
theorem eo127_0 : E127_0.Ok Tryz.prog := EnvK.of_ok noSeq_ok trivial
abbrev Tf127_0 : Type 1 := (α : Type) → Int → Int → Int → (Bool → Option α) → Option α
def f127_0g  (α : Type) (x1 x2 x3 : Int) (k1 : Bool → Option α) : Option α :=
 cK (decide (x2 ≤ x1))
 (k1 (decide (x1 ≤ x3)))
 (k1 false)
noncomputable def f127_0 (α : Type) (x1 x2 x3 : Int) (k1 : Bool → Option α) : Option α := f127_0g  α x1 x2 x3 k1
def pa127_0 : PT (List DV) := pA [pV false [(dI .i64)], pV false [(dI .i64)], pV false [(dI .i64)]]
def Fn127_0 (v : Tf127_0) (α : Type) (k : List RV → Option α) : Int → Int → Int → Option α := fun x1 x2 x3 => v α x1 x2 x3 (fun (y1 : Bool) => ur127_0_0 k y1)
noncomputable def cm127_0g  : MCode := (.seq (.region r127_2 [] (tO [0, 1, 2])) (.seq (.region r127_4 [] (tO [6])) .ret))
noncomputable def cm127_0 : MCode := cm127_0g 
theorem gm127_0 : cm127_0.Good Tryz.prog E127_0 sh127 := ⟨trivial, ⟨trivial, trivial⟩⟩
theorem fm127_0g   (α : Type) (k : List RV → Option α) : Fn127_0 (f127_0g ) α k = pa127_0.unc fun ds => fnM Tryz.prog (E127_0g ) sh127 (cm127_0g ) rs127 k ds := by kernel_rfl
theorem fm127_0 : ∀ (α : Type) (k : List RV → Option α), Fn127_0 f127_0 α k = pa127_0.unc fun ds => fnM Tryz.prog E127_0 sh127 cm127_0 rs127 k ds := fm127_0g 
theorem is127 : FnIs Tryz.prog 127 nt127 tr127 tl127 cm127_0.erase rs127 := ⟨Tryz.f127, Tryz.func127, rfl, by kernel_rfl, by kernel_rfl, by kernel_rfl⟩
theorem io127_0 : InstOk Tryz.prog 127 nt127 ⟨pa127_0, Fn127_0 f127_0⟩ := inst_ok eo127_0 followsTry is127 ⟨⟨sh127, cm127_0, by kernel_rfl, gm127_0, fm127_0⟩⟩
abbrev nt51 : Nat := 15
def sh51 : List (Nat × List Sh) := []
def r51_2 : List AOper := [oO 6 (.mv (.const (.bool false)))]
def r51_4 : List AOper := [oM 7 0, oM 8 1, oO 9 (.bin .geq 3 (.tmp 7) (.tmp 8)), oM 10 9, oG 11 (.mv (.tmp 0)) 10 true, oG 12 (.mv (.tmp 2)) 10 true, oG 13 (.bin .leq 3 (.tmp 11) (.tmp 12)) 10 true, oO 14 (.pick (.tmp 10) (.tmp 13) (.const (.bool false))), oM 6 14]
def tr51 : List (Nat × Tidy) := [tT 0 [0, 1, 2], tT 1 [6]]
def tl51 : List (Nat × Tidy) := []
def rs51 : List AResV := [.tmp 6]
def pr51_0_0 : PT (List RV) := pRs [pR false [rD dB]]
def ur51_0_0 {β : Type} (g : List RV → β) : Bool → β := pr51_0_0.unc g
def E51_0g  : EnvK := EnvK.of [] noSeq
noncomputable def E51_0 : EnvK := E51_0g 
theorem eo51_0 : E51_0.Ok Tryz.prog := EnvK.of_ok noSeq_ok trivial
abbrev Tf51_0 : Type 1 := (α : Type) → Int → Int → Int → (Bool → Option α) → Option α
def f51_0g  (α : Type) (x1 x2 x3 : Int) (k1 : Bool → Option α) : Option α :=
 cK (decide (x2 ≤ x1))
 (k1 (decide (x1 ≤ x3)))
 (k1 false)
noncomputable def f51_0 (α : Type) (x1 x2 x3 : Int) (k1 : Bool → Option α) : Option α := f51_0g  α x1 x2 x3 k1
def pa51_0 : PT (List DV) := pA [pV false [(dI .i64)], pV false [(dI .i64)], pV false [(dI .i64)]]
def Fn51_0 (v : Tf51_0) (α : Type) (k : List RV → Option α) : Int → Int → Int → Option α := fun x1 x2 x3 => v α x1 x2 x3 (fun (y1 : Bool) => ur51_0_0 k y1)
noncomputable def cm51_0g  : MCode := (.seq (.region r51_2 [] (tO [0, 1, 2])) (.seq (.region r51_4 [] (tO [6])) .ret))
noncomputable def cm51_0 : MCode := cm51_0g 
theorem gm51_0 : cm51_0.Good Tryz.prog E51_0 sh51 := ⟨trivial, ⟨trivial, trivial⟩⟩
theorem fm51_0g   (α : Type) (k : List RV → Option α) : Fn51_0 (f51_0g ) α k = pa51_0.unc fun ds => fnM Tryz.prog (E51_0g ) sh51 (cm51_0g ) rs51 k ds := by kernel_rfl
theorem fm51_0 : ∀ (α : Type) (k : List RV → Option α), Fn51_0 f51_0 α k = pa51_0.unc fun ds => fnM Tryz.prog E51_0 sh51 cm51_0 rs51 k ds := fm51_0g 
theorem is51 : FnIs Tryz.prog 51 nt51 tr51 tl51 cm51_0.erase rs51 := ⟨Tryz.f51, Tryz.func51, rfl, by kernel_rfl, by kernel_rfl, by kernel_rfl⟩
theorem io51_0 : InstOk Tryz.prog 51 nt51 ⟨pa51_0, Fn51_0 f51_0⟩ := inst_ok eo51_0 followsTry is51 ⟨⟨sh51, cm51_0, by kernel_rfl, gm51_0, fm51_0⟩⟩
abbrev nt12 : Nat := 6
def sh12 : List (Nat × List Sh) := []
def r12_2 : List AOper := [oO 2 (.mv (.const (.slice none 0 0)))]
def r12_4 : List AOper := [oO 3 (.bslice 1 0 [(.v (.int .i64 0))] []), oM 4 0, oO 5 (.append 1 8 (.tmp 3) (.tmp 4)), oM 2 5]
def tr12 : List (Nat × Tidy) := [tT 0 [0], (1, ⟨[2], true, [⟨false, 2, 0, 20002, 1⟩], []⟩)]
def tl12 : List (Nat × Tidy) := []
def rs12 : List AResV := [.tmp 2]
def pr12_0_0 : PT (List RV) := pRs [pR false [rO 1]]
def ur12_0_0 {β : Type} (g : List RV → β) : Rows → β := pr12_0_0.unc g
def E12_0g  : EnvK := EnvK.of [] noSeq
noncomputable def E12_0 : EnvK := E12_0g 
theorem eo12_0 : E12_0.Ok Tryz.prog := EnvK.of_ok noSeq_ok trivial
abbrev Tf12_0 : Type 1 := (α : Type) → Rows → (Rows → Option α) → Option α
def f12_0g  (α : Type) (x1 : Rows) (k1 : Rows → Option α) : Option α :=
 gK (apOk 1 8 ([] : Rows) x1) (k1 (([] : Rows) ++ x1))
noncomputable def f12_0 (α : Type) (x1 : Rows) (k1 : Rows → Option α) : Option α := f12_0g  α x1 k1
def pa12_0 : PT (List DV) := pA [pV false [dL]]
def Fn12_0 (v : Tf12_0) (α : Type) (k : List RV → Option α) : Rows → Option α := fun x1 => v α x1 (fun (y1 : Rows) => ur12_0_0 k y1)
noncomputable def cm12_0g  : MCode := (.seq (.region r12_2 [] (tO [0])) (.seq (.region r12_4 [] (some ⟨[2], true, [⟨false, 2, 0, 20002, 1⟩], []⟩)) .ret))
noncomputable def cm12_0 : MCode := cm12_0g 
theorem gm12_0 : cm12_0.Good Tryz.prog E12_0 sh12 := ⟨trivial, ⟨trivial, trivial⟩⟩
theorem fm12_0g   (α : Type) (k : List RV → Option α) : Fn12_0 (f12_0g ) α k = pa12_0.unc fun ds => fnM Tryz.prog (E12_0g ) sh12 (cm12_0g ) rs12 k ds := by kernel_rfl
theorem fm12_0 : ∀ (α : Type) (k : List RV → Option α), Fn12_0 f12_0 α k = pa12_0.unc fun ds => fnM Tryz.prog E12_0 sh12 cm12_0 rs12 k ds := fm12_0g 
theorem is12 : FnIs Tryz.prog 12 nt12 tr12 tl12 cm12_0.erase rs12 := ⟨Tryz.f12, Tryz.func12, rfl, by kernel_rfl, by kernel_rfl, by kernel_rfl⟩
theorem io12_0 : InstOk Tryz.prog 12 nt12 ⟨pa12_0, Fn12_0 f12_0⟩ := inst_ok eo12_0 followsTry is12 ⟨⟨sh12, cm12_0, by kernel_rfl, gm12_0, fm12_0⟩⟩
abbrev nt10 : Nat := 13
def sh10 : List (Nat × List Sh) := []
def r10_2 : List AOper := [oO 2 (.mv (.const (.bool false)))]
def r10_4 : List AOper := [oM 3 0, oO 4 (.bin .leq 3 (.tmp 3) (kI 16)), oM 5 4, oG 6 (.mv (.tmp 0)) 5 false, oG 7 (.bin .gtr 3 (.tmp 6) (kI 32)) 5 false, oG 8 (.mv (.tmp 7)) 5 false, oG 9 (.mv (.tmp 0)) 8 true, oG 10 (.bin .leq 3 (.tmp 9) (kI 34)) 8 true, oG 11 (.pick (.tmp 8) (.tmp 10) (.const (.bool false))) 5 false, oO 12 (.pick (.tmp 5) (.const (.bool true)) (.tmp 11)), oM 2 12]
def tr10 : List (Nat × Tidy) := [tT 0 [0], tT 1 [2]]
def tl10 : List (Nat × Tidy) := []
def rs10 : List AResV := [.tmp 2]
def pr10_0_0 : PT (List RV) := pRs [pR false [rD dB]]
def ur10_0_0 {β : Type} (g : List RV → β) : Bool → β := pr10_0_0.unc g
def E10_0g  : EnvK := EnvK.of [] noSeq
noncomputable def E10_0 : EnvK := E10_0g 
theorem eo10_0 : E10_0.Ok Tryz.prog := EnvK.of_ok noSeq_ok trivial
abbrev Tf10_0 : Type 1 := (α : Type) → Int → (Bool → Option α) → Option α
def f10_0g  (α : Type) (x1 : Int) (k1 : Bool → Option α) : Option α :=
 cK (decide (x1 ≤ 16))
 (k1 true)
 (cK (decide (32 < x1))
 (k1 (decide (x1 ≤ 34)))
 (k1 false))
noncomputable def f10_0 (α : Type) (x1 : Int) (k1 : Bool → Option α) : Option α := f10_0g  α x1 k1
def pa10_0 : PT (List DV) := pA [pV false [(dI .i64)]]
def Fn10_0 (v : Tf10_0) (α : Type) (k : List RV → Option α) : Int → Option α := fun x1 => v α x1 (fun (y1 : Bool) => ur10_0_0 k y1)
noncomputable def cm10_0g  : MCode := (.seq (.region r10_2 [] (tO [0])) (.seq (.region r10_4 [] (tO [2])) .ret))
noncomputable def cm10_0 : MCode := cm10_0g 
theorem gm10_0 : cm10_0.Good Tryz.prog E10_0 sh10 := ⟨trivial, ⟨trivial, trivial⟩⟩
theorem fm10_0g   (α : Type) (k : List RV → Option α) : Fn10_0 (f10_0g ) α k = pa10_0.unc fun ds => fnM Tryz.prog (E10_0g ) sh10 (cm10_0g ) rs10 k ds := by kernel_rfl
theorem fm10_0 : ∀ (α : Type) (k : List RV → Option α), Fn10_0 f10_0 α k = pa10_0.unc fun ds => fnM Tryz.prog E10_0 sh10 cm10_0 rs10 k ds := fm10_0g 
theorem is10 : FnIs Tryz.prog 10 nt10 tr10 tl10 cm10_0.erase rs10 := ⟨Tryz.f10, Tryz.func10, rfl, by kernel_rfl, by kernel_rfl, by kernel_rfl⟩
theorem io10_0 : InstOk Tryz.prog 10 nt10 ⟨pa10_0, Fn10_0 f10_0⟩ := inst_ok eo10_0 followsTry is10 ⟨⟨sh10, cm10_0, by kernel_rfl, gm10_0, fm10_0⟩⟩
abbrev nt73 : Nat := 106
def sh73 : List (Nat × List Sh) := [(9, [.int .i64]), (13, [.int .i64]), (20, [.int .i64]), (29, [.str, .int .i64, .sl, .sl, .sl, .int .i64, .int .i64]), (33, [.sl]), (35, [.int .i64]), (36, [.int .i64]), (40, [.sl]), (42, [.flt .f32]), (43, [.flt .f32]), (47, [.sl]), (49, [.flt .f32]), (50, [.flt .f32]), (55, [.sl]), (58, [.int .i64]), (59, [.int .i64]), (61, [.sl]), (63, [.int .i64]), (64, [.int .i64]), (68, [.sl]), (70, [.int .i64]), (71, [.int .i64]), (74, [.sl]), (76, [.flt .f32]), (77, [.flt .f32]), (80, [.sl]), (83, [.flt .f32]), (84, [.flt .f32]), (90, [.sl]), (92, [.flt .f32]), (93, [.flt .f32]), (96, [.sl]), (99, [.flt .f32]), (100, [.flt .f32])]
def r73_2 : List AOper := [oO 2 (.box (.tmp 0)), oO 4 (.alloc [(cI 0), (cI 0), (cI 0), (cI 0)])]
def r73_5 : List AOper := [oO 8 (.faddr 1 (.tmp 2)), oO 9 (.load false 1 (.tmp 8)), oO 10 (.bin .eql 3 (.tmp 9) (kI 2))]
def r73_8 : List AOper := [oO 11 (.faddr 5 (.tmp 2)), oO 12 (.iaddr 1 (some 2) (.tmp 11) (kI 0)), oO 13 (.load false 1 (.tmp 12)), oM 14 1, oO 15 (.bin .mul 3 (.tmp 13) (.tmp 14)), oM 16 1, oO 17 (.bin .mul 3 (.tmp 15) (.tmp 16)), oO 18 (.faddr 5 (.tmp 2)), oO 19 (.iaddr 1 (some 2) (.tmp 18) (kI 1)), oO 20 (.load false 1 (.tmp 19)), oO 21 (.bin .mul 3 (.tmp 20) (kI 1000000)), oO 22 (.bin .add 3 (.tmp 17) (.tmp 21)), oM 23 1, oM 24 1, oO 25 (.bin .mul 3 (.tmp 23) (.tmp 24)), oO 26 (.build [(cI 0), (cI 0)] [(0, 1, (.tmp 22)), (1, 1, (.tmp 25))]), oO 27 (.build [(cI 0), (cI 0)] [(0, 1, (kI 0)), (1, 1, (kI 1))]), oO 28 (.build [(cI 0), (cI 0), (cI 0), (cI 0)] [(0, 2, (.tmp 26)), (2, 2, (.tmp 27))]), oD (.store 4 (.tmp 4) (.tmp 28))]
def r73_10 : List AOper := [oO 29 (.load true 7 (.tmp 2)), oM 30 1, oO 31 (.call 75 [(.tmp 29), (.tmp 30)]), oM 5 31]
def r73_13 : List AOper := [oO 32 (.faddr 2 (.tmp 2)), oO 33 (.load false 1 (.tmp 32)), oM 34 5, oO 35 (.iaddr 1 none (.tmp 33) (.tmp 34)), oO 36 (.load false 1 (.tmp 35)), oM 37 1, oO 38 (.bin .eql 3 (.tmp 36) (.tmp 37))]
def r73_16 : List AOper := [oO 39 (.faddr 3 (.tmp 2)), oO 40 (.load false 1 (.tmp 39)), oM 41 5, oO 42 (.iaddr 1 none (.tmp 40) (.tmp 41)), oO 43 (.load false 1 (.tmp 42)), oO 44 (.pure (oB (.convert 125 3 (.tmp 43)) 3)), oO 45 (.build [(cI 0), (cI 0)] [(0, 1, (.tmp 44)), (1, 1, (kI 1))]), oO 46 (.faddr 4 (.tmp 2)), oO 47 (.load false 1 (.tmp 46)), oM 48 5, oO 49 (.iaddr 1 none (.tmp 47) (.tmp 48)), oO 50 (.load false 1 (.tmp 49)), oO 51 (.pure (oB (.convert 125 3 (.tmp 50)) 3)), oO 52 (.build [(cI 0), (cI 0)] [(0, 1, (.tmp 51)), (1, 1, (kI 1))]), oO 53 (.build [(cI 0), (cI 0), (cI 0), (cI 0)] [(0, 2, (.tmp 45)), (2, 2, (.tmp 52))]), oD (.store 4 (.tmp 4) (.tmp 53))]
def r73_18 : List AOper := [oO 54 (.faddr 2 (.tmp 2)), oO 55 (.load false 1 (.tmp 54)), oM 56 5, oO 57 (.bin .add 3 (.tmp 56) (kI 1)), oO 58 (.iaddr 1 none (.tmp 55) (.tmp 57)), oO 59 (.load false 1 (.tmp 58)), oO 60 (.faddr 2 (.tmp 2)), oO 61 (.load false 1 (.tmp 60)), oM 62 5, oO 63 (.iaddr 1 none (.tmp 61) (.tmp 62)), oO 64 (.load false 1 (.tmp 63)), oO 65 (.bin .sub 3 (.tmp 59) (.tmp 64)), oM 66 1, oO 67 (.faddr 2 (.tmp 2)), oO 68 (.load false 1 (.tmp 67)), oM 69 5, oO 70 (.iaddr 1 none (.tmp 68) (.tmp 69)), oO 71 (.load false 1 (.tmp 70)), oO 72 (.bin .sub 3 (.tmp 66) (.tmp 71)), oM 6 65, oM 7 72]
def r73_20 : List AOper := [oO 73 (.faddr 3 (.tmp 2)), oO 74 (.load false 1 (.tmp 73)), oM 75 5, oO 76 (.iaddr 1 none (.tmp 74) (.tmp 75)), oO 77 (.load false 1 (.tmp 76)), oO 78 (.pure (oB (.convert 125 3 (.tmp 77)) 3)), oO 79 (.faddr 3 (.tmp 2)), oO 80 (.load false 1 (.tmp 79)), oM 81 5, oO 82 (.bin .add 3 (.tmp 81) (kI 1)), oO 83 (.iaddr 1 none (.tmp 80) (.tmp 82)), oO 84 (.load false 1 (.tmp 83)), oO 85 (.pure (oB (.convert 125 3 (.tmp 84)) 3)), oM 86 7, oM 87 6, oO 88 (.call 111 [(.tmp 78), (.tmp 85), (.tmp 86), (.tmp 87)]), oO 89 (.faddr 4 (.tmp 2)), oO 90 (.load false 1 (.tmp 89)), oM 91 5, oO 92 (.iaddr 1 none (.tmp 90) (.tmp 91)), oO 93 (.load false 1 (.tmp 92)), oO 94 (.pure (oB (.convert 125 3 (.tmp 93)) 3)), oO 95 (.faddr 4 (.tmp 2)), oO 96 (.load false 1 (.tmp 95)), oM 97 5, oO 98 (.bin .add 3 (.tmp 97) (kI 1)), oO 99 (.iaddr 1 none (.tmp 96) (.tmp 98)), oO 100 (.load false 1 (.tmp 99)), oO 101 (.pure (oB (.convert 125 3 (.tmp 100)) 3)), oM 102 7, oM 103 6, oO 104 (.call 111 [(.tmp 94), (.tmp 101), (.tmp 102), (.tmp 103)]), oO 105 (.build [(cI 0), (cI 0), (cI 0), (cI 0)] [(0, 2, (.tmp 88)), (2, 2, (.tmp 104))]), oD (.store 4 (.tmp 4) (.tmp 105))]
def tr73 : List (Nat × Tidy) := [tT 0 [1, 2, 4], tT 1 [1, 2, 4, 10], tT 2 [4], tT 3 [1, 2, 4, 5], tT 4 [1, 2, 4, 5, 38], tT 5 [4], tT 6 [2, 4, 5, 6, 7], tT 7 [4]]
def tl73 : List (Nat × Tidy) := []
def rs73 : List AResV := [.cell 4 true 4]
def pr73_0_0 : PT (List RV) := pRs [pR true [rD (dI .i64), rD (dI .i64), rD (dI .i64), rD (dI .i64)]]
def ur73_0_0 {β : Type} (g : List RV → β) : Int → Int → Int → Int → β := pr73_0_0.unc g
def E73_0g (vf75_0 : Tf75_0) (vf111_0 : Tf111_0) : EnvK := EnvK.of [⟨75, nt75, [⟨pa75_0, Fn75_0 vf75_0⟩]⟩, ⟨111, nt111, [⟨pa111_0, Fn111_0 vf111_0⟩]⟩] noSeq
noncomputable def E73_0 : EnvK := E73_0g f75_0 f111_0
theorem eo73_0 : E73_0.Ok Tryz.prog := EnvK.of_ok noSeq_ok ⟨⟨io75_0, trivial⟩, ⟨io111_0, trivial⟩, trivial⟩
abbrev Tf73_0 : Type 1 := (α : Type) → ByteArray → Int → Rows → Rows → Rows → Int → Int → Int → (Int → Int → Int → Int → Option α) → Option α
def f73_0g (vf111_0 : Tf111_0) (vf75_0 : Tf75_0) (α : Type) (x1 : ByteArray) (x2 : Int) (x3 x4 x5 : Rows) (x6 x7 x8 : Int) (k1 : Int → Int → Int → Int → Option α) : Option α :=
 cK (x2 == 2)
 (k1 (w64 ((w64 ((w64 (x6 * x8)) * x8)) + (w64 (x7 * 1000000)))) (w64 (x8 * x8)) 0 1)
 (vf75_0 α x1 x2 x3 x4 x5 x6 x7 x8
 (fun x9 => rowK x3 x9 [.int .i64]
 (fun x10 => cK (x10 == x8)
 (rowK x4 x9 [.flt .f32]
 (fun x11 => ivK (f2i .f32 x11 .i64)
 (fun x12 => rowK x5 x9 [.flt .f32]
 (fun x13 => ivK (f2i .f32 x13 .i64)
 (fun x14 => k1 x12 1 x14 1)))))
 (rowK x3 (w64 (x9 + 1)) [.int .i64]
 (fun x15 => rowK x3 x9 [.int .i64]
 (fun x16 => rowK x3 x9 [.int .i64]
 (fun x17 => rowK x4 x9 [.flt .f32]
 (fun x18 => ivK (f2i .f32 x18 .i64)
 (fun x19 => rowK x4 (w64 (x9 + 1)) [.flt .f32]
 (fun x20 => ivK (f2i .f32 x20 .i64)
 (fun x21 => vf111_0 α x19 x21 (w64 (x8 - x17)) (w64 (x15 - x16))
 (fun x22 x23 => rowK x5 x9 [.flt .f32]
 (fun x24 => ivK (f2i .f32 x24 .i64)
 (fun x25 => rowK x5 (w64 (x9 + 1)) [.flt .f32]
 (fun x26 => ivK (f2i .f32 x26 .i64)
 (fun x27 => vf111_0 α x25 x27 (w64 (x8 - x17)) (w64 (x15 - x16))
 (fun x28 x29 => k1 x22 x23 x28 x29)))))))))))))))))
noncomputable def f73_0 (α : Type) (x1 : ByteArray) (x2 : Int) (x3 x4 x5 : Rows) (x6 x7 x8 : Int) (k1 : Int → Int → Int → Int → Option α) : Option α := f73_0g f111_0 f75_0 α x1 x2 x3 x4 x5 x6 x7 x8 k1
def pa73_0 : PT (List DV) := pA [pV true [dS, (dI .i64), dL, dL, dL, (dI .i64), (dI .i64)], pV false [(dI .i64)]]
def Fn73_0 (v : Tf73_0) (α : Type) (k : List RV → Option α) : ByteArray → Int → Rows → Rows → Rows → Int → Int → Int → Option α := fun x1 x2 x3 x4 x5 x6 x7 x8 => v α x1 x2 x3 x4 x5 x6 x7 x8 (fun (y1 : Int) (y2 : Int) (y3 : Int) (y4 : Int) => ur73_0_0 k y1 y2 y3 y4)
noncomputable def cm73_0g  : MCode := (.seq (.region r73_2 [] (tO [1, 2, 4])) (.seq (.seq (.region r73_5 [] (tO [1, 2, 4, 10])) (.cond (.tmp 10) (.seq (.region r73_8 [] (tO [4])) .ret) .skip)) (.seq (.region r73_10 [] (tO [1, 2, 4, 5])) (.seq (.seq (.region r73_13 [] (tO [1, 2, 4, 5, 38])) (.cond (.tmp 38) (.seq (.region r73_16 [] (tO [4])) .ret) .skip)) (.seq (.region r73_18 [] (tO [2, 4, 5, 6, 7])) (.seq (.region r73_20 [(15, 17), (15, 19), (15, 20), (15, 23), (15, 26), (15, 27)] (tO [4])) .ret))))))
noncomputable def cm73_0 : MCode := cm73_0g 
theorem gm73_0 : cm73_0.Good Tryz.prog E73_0 sh73 := ⟨trivial, ⟨⟨trivial, ⟨⟨trivial, trivial⟩, trivial⟩⟩, ⟨trivial, ⟨⟨trivial, ⟨⟨trivial, trivial⟩, trivial⟩⟩, ⟨trivial, ⟨trivial, trivial⟩⟩⟩⟩⟩⟩
theorem fm73_0g (vf75_0 : Tf75_0) (vf111_0 : Tf111_0)  (α : Type) (k : List RV → Option α) : Fn73_0 (f73_0g vf111_0 vf75_0) α k = pa73_0.unc fun ds => fnM Tryz.prog (E73_0g vf75_0 vf111_0) sh73 (cm73_0g ) rs73 k ds := by kernel_rfl
theorem fm73_0 : ∀ (α : Type) (k : List RV → Option α), Fn73_0 f73_0 α k = pa73_0.unc fun ds => fnM Tryz.prog E73_0 sh73 cm73_0 rs73 k ds := fm73_0g f75_0 f111_0
theorem is73 : FnIs Tryz.prog 73 nt73 tr73 tl73 cm73_0.erase rs73 := ⟨Tryz.f73, Tryz.func73, rfl, by kernel_rfl, by kernel_rfl, by kernel_rfl⟩
theorem io73_0 : InstOk Tryz.prog 73 nt73 ⟨pa73_0, Fn73_0 f73_0⟩ := inst_ok eo73_0 followsTry is73 ⟨⟨sh73, cm73_0, by kernel_rfl, gm73_0, fm73_0⟩⟩
abbrev nt23 : Nat := 17
def sh23 : List (Nat × List Sh) := [(6, [.cpx .f64]), (8, [.cpx .f64]), (12, [.int .i64]), (14, [.int .i64])]
def r23_2 : List AOper := [oO 2 (.box (.tmp 0)), oO 3 (.box (.tmp 1)), oO 4 (.mv (.const (.bool false)))]
def r23_4 : List AOper := [oO 5 (.faddr 0 (.tmp 2)), oO 6 (.load false 1 (.tmp 5)), oO 7 (.faddr 0 (.tmp 3)), oO 8 (.load false 1 (.tmp 7)), oO 9 (.call 71 [(.tmp 6), (.tmp 8)]), oM 10 9, oG 11 (.faddr 1 (.tmp 2)) 10 true, oG 12 (.load false 1 (.tmp 11)) 10 true, oG 13 (.faddr 1 (.tmp 3)) 10 true, oG 14 (.load false 1 (.tmp 13)) 10 true, oG 15 (.bin .eql 3 (.tmp 12) (.tmp 14)) 10 true, oO 16 (.pick (.tmp 10) (.tmp 15) (.const (.bool false))), oM 4 16]
def tr23 : List (Nat × Tidy) := [tT 0 [2, 3], tT 1 [4]]
def tl23 : List (Nat × Tidy) := []
def rs23 : List AResV := [.tmp 4]
def pr23_0_0 : PT (List RV) := pRs [pR false [rD dB]]
def ur23_0_0 {β : Type} (g : List RV → β) : Bool → β := pr23_0_0.unc g
def E23_0g (vf71_0 : Tf71_0) : EnvK := EnvK.of [⟨71, nt71, [⟨pa71_0, Fn71_0 vf71_0⟩]⟩] noSeq
noncomputable def E23_0 : EnvK := E23_0g f71_0
theorem eo23_0 : E23_0.Ok Tryz.prog := EnvK.of_ok noSeq_ok ⟨⟨io71_0, trivial⟩, trivial⟩
abbrev Tf23_0 : Type 1 := (α : Type) → Nat → Nat → Int → Nat → Nat → Int → (Bool → Option α) → Option α
def f23_0g (vf71_0 : Tf71_0) (α : Type) (x1 x2 : Nat) (x3 : Int) (x4 x5 : Nat) (x6 : Int) (k1 : Bool → Option α) : Option α :=
 vf71_0 α x1 x2 x4 x5
 (fun x7 => cK x7
 (k1 (x3 == x6))
 (k1 false))
noncomputable def f23_0 (α : Type) (x1 x2 : Nat) (x3 : Int) (x4 x5 : Nat) (x6 : Int) (k1 : Bool → Option α) : Option α := f23_0g f71_0 α x1 x2 x3 x4 x5 x6 k1
def pa23_0 : PT (List DV) := pA [pV true [(dX .f64), (dI .i64)], pV true [(dX .f64), (dI .i64)]]
def Fn23_0 (v : Tf23_0) (α : Type) (k : List RV → Option α) : Nat → Nat → Int → Nat → Nat → Int → Option α := fun x1 x2 x3 x4 x5 x6 => v α x1 x2 x3 x4 x5 x6 (fun (y1 : Bool) => ur23_0_0 k y1)
noncomputable def cm23_0g  : MCode := (.seq (.region r23_2 [] (tO [2, 3])) (.seq (.region r23_4 [] (tO [4])) .ret))
noncomputable def cm23_0 : MCode := cm23_0g 
theorem gm23_0 : cm23_0.Good Tryz.prog E23_0 sh23 := ⟨trivial, ⟨trivial, trivial⟩⟩
theorem fm23_0g (vf71_0 : Tf71_0)  (α : Type) (k : List RV → Option α) : Fn23_0 (f23_0g vf71_0) α k = pa23_0.unc fun ds => fnM Tryz.prog (E23_0g vf71_0) sh23 (cm23_0g ) rs23 k ds := by kernel_rfl
theorem fm23_0 : ∀ (α : Type) (k : List RV → Option α), Fn23_0 f23_0 α k = pa23_0.unc fun ds => fnM Tryz.prog E23_0 sh23 cm23_0 rs23 k ds := fm23_0g f71_0
theorem is23 : FnIs Tryz.prog 23 nt23 tr23 tl23 cm23_0.erase rs23 := ⟨Tryz.f23, Tryz.func23, rfl, by kernel_rfl, by kernel_rfl, by kernel_rfl⟩
theorem io23_0 : InstOk Tryz.prog 23 nt23 ⟨pa23_0, Fn23_0 f23_0⟩ := inst_ok eo23_0 followsTry is23 ⟨⟨sh23, cm23_0, by kernel_rfl, gm23_0, fm23_0⟩⟩
abbrev nt49 : Nat := 12
def sh49 : List (Nat × List Sh) := []
def r49_2 : List AOper := [oO 6 (.alloc [(.d (.v (.complex Go.FloatKind.f64 0 0))), (cI 0)])]
def r49_4 : List AOper := [oM 7 0, oM 8 1, oO 9 (.call 45 [(.tmp 7), (.tmp 8)]), oM 10 2, oO 11 (.build [(.d (.v (.complex Go.FloatKind.f64 0 0))), (cI 0)] [(0, 1, (.tmp 9)), (1, 1, (.tmp 10))]), oD (.store 2 (.tmp 6) (.tmp 11))]
def tr49 : List (Nat × Tidy) := [tT 0 [0, 1, 2, 6], tT 1 [6]]
def tl49 : List (Nat × Tidy) := []
def rs49 : List AResV := [.cell 6 true 2]
def pr49_0_0 : PT (List RV) := pRs [pR true [rD (dX .f64), rD (dI .i64)]]
def ur49_0_0 {β : Type} (g : List RV → β) : Nat → Nat → Int → β := pr49_0_0.unc g
def E49_0g (vf45_0 : Tf45_0) : EnvK := EnvK.of [⟨45, nt45, [⟨pa45_0, Fn45_0 vf45_0⟩]⟩] noSeq
noncomputable def E49_0 : EnvK := E49_0g f45_0
theorem eo49_0 : E49_0.Ok Tryz.prog := EnvK.of_ok noSeq_ok ⟨⟨io45_0, trivial⟩, trivial⟩
abbrev Tf49_0 : Type 1 := (α : Type) → Int → Int → Int → (Nat → Nat → Int → Option α) → Option α
def f49_0g (vf45_0 : Tf45_0) (α : Type) (x1 x2 x3 : Int) (k1 : Nat → Nat → Int → Option α) : Option α :=
 vf45_0 α x1 x2
 (fun x4 x5 => k1 x4 x5 x3)
noncomputable def f49_0 (α : Type) (x1 x2 x3 : Int) (k1 : Nat → Nat → Int → Option α) : Option α := f49_0g f45_0 α x1 x2 x3 k1
def pa49_0 : PT (List DV) := pA [pV false [(dI .i64)], pV false [(dI .i64)], pV false [(dI .i64)]]
def Fn49_0 (v : Tf49_0) (α : Type) (k : List RV → Option α) : Int → Int → Int → Option α := fun x1 x2 x3 => v α x1 x2 x3 (fun (y1 : Nat) (y2 : Nat) (y3 : Int) => ur49_0_0 k y1 y2 y3)
noncomputable def cm49_0g  : MCode := (.seq (.region r49_2 [] (tO [0, 1, 2, 6])) (.seq (.region r49_4 [] (tO [6])) .ret))
noncomputable def cm49_0 : MCode := cm49_0g 
theorem gm49_0 : cm49_0.Good Tryz.prog E49_0 sh49 := ⟨trivial, ⟨trivial, trivial⟩⟩
theorem fm49_0g (vf45_0 : Tf45_0)  (α : Type) (k : List RV → Option α) : Fn49_0 (f49_0g vf45_0) α k = pa49_0.unc fun ds => fnM Tryz.prog (E49_0g vf45_0) sh49 (cm49_0g ) rs49 k ds := by kernel_rfl
theorem fm49_0 : ∀ (α : Type) (k : List RV → Option α), Fn49_0 f49_0 α k = pa49_0.unc fun ds => fnM Tryz.prog E49_0 sh49 cm49_0 rs49 k ds := fm49_0g f45_0
theorem is49 : FnIs Tryz.prog 49 nt49 tr49 tl49 cm49_0.erase rs49 := ⟨Tryz.f49, Tryz.func49, rfl, by kernel_rfl, by kernel_rfl, by kernel_rfl⟩
theorem io49_0 : InstOk Tryz.prog 49 nt49 ⟨pa49_0, Fn49_0 f49_0⟩ := inst_ok eo49_0 followsTry is49 ⟨⟨sh49, cm49_0, by kernel_rfl, gm49_0, fm49_0⟩⟩
abbrev nt107 : Nat := 5
def sh107 : List (Nat × List Sh) := []
def r107_2 : List AOper := [oO 2 (.mv (.const (.bool false)))]
def r107_4 : List AOper := [oM 3 0, oO 4 (.call 57 [(.tmp 3), (kI (-67108864)), (kI 67108864)]), oM 2 4]
def tr107 : List (Nat × Tidy) := [tT 0 [0], tT 1 [2]]
def tl107 : List (Nat × Tidy) := []
def rs107 : List AResV := [.tmp 2]
def pr107_0_0 : PT (List RV) := pRs [pR false [rD dB]]
def ur107_0_0 {β : Type} (g : List RV → β) : Bool → β := pr107_0_0.unc g
def E107_0g (vf57_0 : Tf57_0) : EnvK := EnvK.of [⟨57, nt57, [⟨pa57_0, Fn57_0 vf57_0⟩]⟩] noSeq
noncomputable def E107_0 : EnvK := E107_0g f57_0
theorem eo107_0 : E107_0.Ok Tryz.prog := EnvK.of_ok noSeq_ok ⟨⟨io57_0, trivial⟩, trivial⟩
abbrev Tf107_0 : Type 1 := (α : Type) → Int → (Bool → Option α) → Option α
def f107_0g (vf57_0 : Tf57_0) (α : Type) (x1 : Int) (k1 : Bool → Option α) : Option α :=
 vf57_0 α x1 (-67108864) 67108864
 (fun x2 => k1 x2)
noncomputable def f107_0 (α : Type) (x1 : Int) (k1 : Bool → Option α) : Option α := f107_0g f57_0 α x1 k1
def pa107_0 : PT (List DV) := pA [pV false [(dI .i64)]]
def Fn107_0 (v : Tf107_0) (α : Type) (k : List RV → Option α) : Int → Option α := fun x1 => v α x1 (fun (y1 : Bool) => ur107_0_0 k y1)
noncomputable def cm107_0g  : MCode := (.seq (.region r107_2 [] (tO [0])) (.seq (.region r107_4 [] (tO [2])) .ret))
noncomputable def cm107_0 : MCode := cm107_0g 
theorem gm107_0 : cm107_0.Good Tryz.prog E107_0 sh107 := ⟨trivial, ⟨trivial, trivial⟩⟩
theorem fm107_0g (vf57_0 : Tf57_0)  (α : Type) (k : List RV → Option α) : Fn107_0 (f107_0g vf57_0) α k = pa107_0.unc fun ds => fnM Tryz.prog (E107_0g vf57_0) sh107 (cm107_0g ) rs107 k ds := by kernel_rfl
theorem fm107_0 : ∀ (α : Type) (k : List RV → Option α), Fn107_0 f107_0 α k = pa107_0.unc fun ds => fnM Tryz.prog E107_0 sh107 cm107_0 rs107 k ds := fm107_0g f57_0
theorem is107 : FnIs Tryz.prog 107 nt107 tr107 tl107 cm107_0.erase rs107 := ⟨Tryz.f107, Tryz.func107, rfl, by kernel_rfl, by kernel_rfl, by kernel_rfl⟩
theorem io107_0 : InstOk Tryz.prog 107 nt107 ⟨pa107_0, Fn107_0 f107_0⟩ := inst_ok eo107_0 followsTry is107 ⟨⟨sh107, cm107_0, by kernel_rfl, gm107_0, fm107_0⟩⟩
abbrev nt147 : Nat := 26
def sh147 : List (Nat × List Sh) := []
def r147_2 : List AOper := [oO 4 (.mv (kI 0)), oO 5 (.mv (.const (.bool false)))]
def r147_4 : List AOper := [oM 8 0, oM 9 1, oO 10 (.call 76 [(.tmp 8), (.tmp 9)]), oM 6 10]
def r147_6 : List AOper := [oM 11 0, oM 12 6, oM 13 1, oO 14 (.bin .mul 3 (.tmp 12) (.tmp 13)), oO 15 (.bin .sub 3 (.tmp 11) (.tmp 14)), oM 7 15]
def r147_9 : List AOper := [oM 16 7, oM 17 1, oM 18 7, oO 19 (.bin .sub 3 (.tmp 17) (.tmp 18)), oO 20 (.bin .geq 3 (.tmp 16) (.tmp 19))]
def r147_12 : List AOper := [oM 21 6, oO 22 (.bin .add 3 (.tmp 21) (kI 1)), oM 4 22, oO 5 (.mv (.const (.bool true)))]
def r147_14 : List AOper := [oM 23 6, oM 24 7, oO 25 (.bin .neq 3 (.tmp 24) (kI 0)), oM 4 23, oM 5 25]
def tr147 : List (Nat × Tidy) := [tT 0 [0, 1], tT 1 [0, 1, 6], tT 2 [1, 6, 7], tT 3 [6, 7, 20], tT 4 [4, 5], tT 5 [4, 5]]
def tl147 : List (Nat × Tidy) := []
def rs147 : List AResV := [.tmp 4, .tmp 5]
def pr147_0_0 : PT (List RV) := pRs [pR false [rD (dI .i64)], pR false [rD dB]]
def ur147_0_0 {β : Type} (g : List RV → β) : Int → Bool → β := pr147_0_0.unc g
def E147_0g (vf76_0 : Tf76_0) : EnvK := EnvK.of [⟨76, nt76, [⟨pa76_0, Fn76_0 vf76_0⟩]⟩] noSeq
noncomputable def E147_0 : EnvK := E147_0g f76_0
theorem eo147_0 : E147_0.Ok Tryz.prog := EnvK.of_ok noSeq_ok ⟨⟨io76_0, trivial⟩, trivial⟩
abbrev Tf147_0 : Type 1 := (α : Type) → Int → Int → (Int → Bool → Option α) → Option α
def f147_0g (vf76_0 : Tf76_0) (α : Type) (x1 x2 : Int) (k1 : Int → Bool → Option α) : Option α :=
 vf76_0 α x1 x2
 (fun x3 => cK (decide ((w64 (x2 - (w64 (x1 - (w64 (x3 * x2)))))) ≤ (w64 (x1 - (w64 (x3 * x2))))))
 (k1 (w64 (x3 + 1)) true)
 (k1 x3 ((w64 (x1 - (w64 (x3 * x2)))) != 0)))
noncomputable def f147_0 (α : Type) (x1 x2 : Int) (k1 : Int → Bool → Option α) : Option α := f147_0g f76_0 α x1 x2 k1
def pa147_0 : PT (List DV) := pA [pV false [(dI .i64)], pV false [(dI .i64)]]
def Fn147_0 (v : Tf147_0) (α : Type) (k : List RV → Option α) : Int → Int → Option α := fun x1 x2 => v α x1 x2 (fun (y1 : Int) (y2 : Bool) => ur147_0_0 k y1 y2)
noncomputable def cm147_0g  : MCode := (.seq (.region r147_2 [] (tO [0, 1])) (.seq (.region r147_4 [] (tO [0, 1, 6])) (.seq (.region r147_6 [] (tO [1, 6, 7])) (.seq (.seq (.region r147_9 [] (tO [6, 7, 20])) (.cond (.tmp 20) (.seq (.region r147_12 [] (tO [4, 5])) .ret) .skip)) (.seq (.region r147_14 [] (tO [4, 5])) .ret)))))
noncomputable def cm147_0 : MCode := cm147_0g 
theorem gm147_0 : cm147_0.Good Tryz.prog E147_0 sh147 := ⟨trivial, ⟨trivial, ⟨trivial, ⟨⟨trivial, ⟨⟨trivial, trivial⟩, trivial⟩⟩, ⟨trivial, trivial⟩⟩⟩⟩⟩
theorem fm147_0g (vf76_0 : Tf76_0)  (α : Type) (k : List RV → Option α) : Fn147_0 (f147_0g vf76_0) α k = pa147_0.unc fun ds => fnM Tryz.prog (E147_0g vf76_0) sh147 (cm147_0g ) rs147 k ds := by kernel_rfl
theorem fm147_0 : ∀ (α : Type) (k : List RV → Option α), Fn147_0 f147_0 α k = pa147_0.unc fun ds => fnM Tryz.prog E147_0 sh147 cm147_0 rs147 k ds := fm147_0g f76_0
theorem is147 : FnIs Tryz.prog 147 nt147 tr147 tl147 cm147_0.erase rs147 := ⟨Tryz.f147, Tryz.func147, rfl, by kernel_rfl, by kernel_rfl, by kernel_rfl⟩
theorem io147_0 : InstOk Tryz.prog 147 nt147 ⟨pa147_0, Fn147_0 f147_0⟩ := inst_ok eo147_0 followsTry is147 ⟨⟨sh147, cm147_0, by kernel_rfl, gm147_0, fm147_0⟩⟩
abbrev nt167 : Nat := 105
def sh167 : List (Nat × List Sh) := [(24, [.int .i64]), (27, [.int .i64]), (36, [.int .i64]), (39, [.int .i64]), (47, [.int .i64]), (49, [.int .i64]), (58, [.int .i64, .int .i64]), (67, [.int .i64]), (69, [.int .i64]), (72, [.int .i64]), (74, [.int .i64]), (96, [.int .i64, .int .i64]), (101, [.int .i64, .int .i64]), (103, [.int .i64, .int .i64]), (104, [.int .i64, .int .i64])]
def r167_2 : List AOper := [oO 2 (.alloc [(cI 0), (cI 0)])]
def r167_4 : List AOper := [oM 16 0, oO 17 (.call 91 [(.tmp 16), (kI 4194304)]), oM 0 17]
def r167_7 : List AOper := [oM 18 0, oO 19 (.bin .geq 3 (.tmp 18) (kI 2097152))]
def r167_10 : List AOper := [oM 20 0, oO 21 (.bin .sub 3 (.tmp 20) (kI 2097152)), oO 22 (.call 167 [(.tmp 21)]), oO 3 (.alloc [(cI 0), (cI 0)]), oD (.store 2 (.tmp 3) (.tmp 22))]
def r167_12 : List AOper := [oO 23 (.iaddr 1 (some 2) (.tmp 3) (kI 0)), oO 24 (.load false 1 (.tmp 23)), oO 25 (.pure (oB (.unOp .neg 3 (.tmp 24)) 3)), oO 26 (.iaddr 1 (some 2) (.tmp 3) (kI 1)), oO 27 (.load false 1 (.tmp 26)), oO 28 (.pure (oB (.unOp .neg 3 (.tmp 27)) 3)), oO 29 (.build [(cI 0), (cI 0)] [(0, 1, (.tmp 25)), (1, 1, (.tmp 28))]), oD (.store 2 (.tmp 2) (.tmp 29))]
def r167_15 : List AOper := [oM 30 0, oO 31 (.bin .geq 3 (.tmp 30) (kI 1048576))]
def r167_18 : List AOper := [oM 32 0, oO 33 (.bin .sub 3 (.tmp 32) (kI 1048576)), oO 34 (.call 167 [(.tmp 33)]), oO 4 (.alloc [(cI 0), (cI 0)]), oD (.store 2 (.tmp 4) (.tmp 34))]
def r167_20 : List AOper := [oO 35 (.iaddr 1 (some 2) (.tmp 4) (kI 1)), oO 36 (.load false 1 (.tmp 35)), oO 37 (.pure (oB (.unOp .neg 3 (.tmp 36)) 3)), oO 38 (.iaddr 1 (some 2) (.tmp 4) (kI 0)), oO 39 (.load false 1 (.tmp 38)), oO 40 (.build [(cI 0), (cI 0)] [(0, 1, (.tmp 37)), (1, 1, (.tmp 39))]), oD (.store 2 (.tmp 2) (.tmp 40))]
def r167_23 : List AOper := [oM 41 0, oO 42 (.bin .gtr 3 (.tmp 41) (kI 524288))]
def r167_26 : List AOper := [oM 43 0, oO 44 (.bin .sub 3 (kI 1048576) (.tmp 43)), oO 45 (.call 167 [(.tmp 44)]), oO 5 (.alloc [(cI 0), (cI 0)]), oD (.store 2 (.tmp 5) (.tmp 45))]
def r167_28 : List AOper := [oO 46 (.iaddr 1 (some 2) (.tmp 5) (kI 1)), oO 47 (.load false 1 (.tmp 46)), oO 48 (.iaddr 1 (some 2) (.tmp 5) (kI 0)), oO 49 (.load false 1 (.tmp 48)), oO 50 (.build [(cI 0), (cI 0)] [(0, 1, (.tmp 47)), (1, 1, (.tmp 49))]), oD (.store 2 (.tmp 2) (.tmp 50))]
def r167_30 : List AOper := [oO 51 (.call 171 [(kI 2251799813685248)]), oM 6 51]
def r167_32 : List AOper := [oO 7 (.mv (kI 0)), oO 8 (.mv (kI 524288))]
def r167_34 : List AOper := [oO 52 (.build [(cI 0), (cI 0)] [(0, 1, (kI 67108864)), (1, 1, (kI 0))]), oM 53 6, oM 54 6, oO 55 (.build [(cI 0), (cI 0)] [(0, 1, (.tmp 53)), (1, 1, (.tmp 54))]), oO 9 (.alloc [(cI 0), (cI 0)]), oO 10 (.alloc [(cI 0), (cI 0)]), oD (.store 2 (.tmp 9) (.tmp 52)), oD (.store 2 (.tmp 10) (.tmp 55))]
def r167_37 : List AOper := [oM 56 0, oO 57 (.bin .eql 3 (.tmp 56) (kI 0))]
def r167_40 : List AOper := [oO 58 (.load true 2 (.tmp 9)), oD (.store 2 (.tmp 2) (.tmp 58))]
def td167_43 : Option Tidy := (tO [0, 2, 7, 8, 9, 10])
def r167_46 : List AOper := [oM 59 0, oM 60 8, oO 61 (.bin .neq 3 (.tmp 59) (.tmp 60))]
def r167_50 : List AOper := [oM 62 7, oM 63 8, oO 64 (.bin .add 3 (.tmp 62) (.tmp 63)), oO 65 (.bin .quo 3 (.tmp 64) (kI 2)), oM 11 65]
def r167_52 : List AOper := [oO 66 (.iaddr 1 (some 2) (.tmp 9) (kI 0)), oO 67 (.load false 1 (.tmp 66)), oO 68 (.iaddr 1 (some 2) (.tmp 10) (kI 0)), oO 69 (.load false 1 (.tmp 68)), oO 70 (.bin .add 3 (.tmp 67) (.tmp 69)), oO 71 (.iaddr 1 (some 2) (.tmp 9) (kI 1)), oO 72 (.load false 1 (.tmp 71)), oO 73 (.iaddr 1 (some 2) (.tmp 10) (kI 1)), oO 74 (.load false 1 (.tmp 73)), oO 75 (.bin .add 3 (.tmp 72) (.tmp 74)), oM 12 70, oM 13 75]
def r167_54 : List AOper := [oM 76 12, oM 77 12, oO 78 (.bin .mul 3 (.tmp 76) (.tmp 77)), oM 79 13, oM 80 13, oO 81 (.bin .mul 3 (.tmp 79) (.tmp 80)), oO 82 (.bin .add 3 (.tmp 78) (.tmp 81)), oO 83 (.call 171 [(.tmp 82)]), oM 14 83]
def r167_56 : List AOper := [oM 84 12, oO 85 (.bin .mul 3 (.tmp 84) (kI 67108864)), oM 86 14, oO 87 (.bin .quo 3 (.tmp 85) (.tmp 86)), oM 88 13, oO 89 (.bin .mul 3 (.tmp 88) (kI 67108864)), oM 90 14, oO 91 (.bin .quo 3 (.tmp 89) (.tmp 90)), oO 92 (.build [(cI 0), (cI 0)] [(0, 1, (.tmp 87)), (1, 1, (.tmp 91))]), oO 15 (.alloc [(cI 0), (cI 0)]), oD (.store 2 (.tmp 15) (.tmp 92))]
def r167_59 : List AOper := [oM 93 11, oM 94 0, oO 95 (.bin .eql 3 (.tmp 93) (.tmp 94))]
def r167_62 : List AOper := [oO 96 (.load true 2 (.tmp 15)), oD (.store 2 (.tmp 2) (.tmp 96))]
def r167_64 : List AOper := [oM 97 0, oM 98 11, oO 99 (.bin .gtr 3 (.tmp 97) (.tmp 98))]
def r167_66 : List AOper := [oM 100 11, oO 101 (.load true 2 (.tmp 15)), oM 7 100, oD (.store 2 (.tmp 9) (.tmp 101))]
def r167_67 : List AOper := [oM 102 11, oO 103 (.load true 2 (.tmp 15)), oM 8 102, oD (.store 2 (.tmp 10) (.tmp 103))]
def r167_69 : List AOper := [oO 104 (.load true 2 (.tmp 10)), oD (.store 2 (.tmp 2) (.tmp 104))]
def tr167 : List (Nat × Tidy) := [tT 0 [0, 2], tT 1 [0, 2], tT 2 [0, 2, 19], tT 3 [2, 3], tT 4 [2], tT 5 [0, 2, 31], tT 6 [2, 4], tT 7 [2], tT 8 [0, 2, 42], tT 9 [2, 5], tT 10 [2], tT 11 [0, 2, 6], tT 12 [0, 2, 6, 7, 8], tT 13 [0, 2, 7, 8, 9, 10], tT 14 [0, 2, 7, 8, 9, 10, 57], tT 15 [2], tT 16 [0, 2, 7, 8, 9, 10, 61], tT 17 [0, 2, 7, 8, 9, 10, 11], tT 18 [0, 2, 7, 8, 9, 10, 11, 12, 13], tT 19 [0, 2, 7, 8, 9, 10, 11, 12, 13, 14], tT 20 [0, 2, 7, 8, 9, 10, 11, 15], tT 21 [0, 2, 7, 8, 9, 10, 11, 15, 95], tT 22 [2], tT 23 [0, 2, 7, 8, 9, 10, 11, 15, 99], tT 24 [0, 2, 7, 8, 9, 10], tT 25 [0, 2, 7, 8, 9, 10], tT 26 [2]]
def tl167 : List (Nat × Tidy) := [tT 16 [0, 2, 7, 8, 9, 10]]
def rs167 : List AResV := [.cell 2 true 2]
def p167_3_0 : PT St := pS [sl 0 (aV false [(cD (dI .i64))]), sl 2 (aV false [(cPtr 2 0)]), sl 7 (aV false [(cD (dI .i64))]), sl 8 (aV false [(cD (dI .i64))]), sl 9 (aV false [(cPtr 9 0)]), sl 10 (aV false [(cPtr 10 0)])] [eBox 2 [(cD (dI .i64)), (cD (dI .i64))], eBox 9 [(cD (dI .i64)), (cD (dI .i64))], eBox 10 [(cD (dI .i64)), (cD (dI .i64))]]
def u167_3_0 {β : Type} (g : St → β) : Int → Int → Int → Int → Int → Int → Int → Int → Int → β := p167_3_0.unc g
def p167_3_1 : PT St := pS [sl 2 (aV false [(cPtr 2 0)])] [eBox 2 [(cD (dI .i64)), (cD (dI .i64))]]
def u167_3_1 {β : Type} (g : St → β) : Int → Int → β := p167_3_1.unc g
def p167_3_2 : PT St := pS [sl 0 (aV false [(cD (dI .i64))]), sl 2 (aV false [(cPtr 2 0)]), sl 7 (aV false [(cD (dI .i64))]), sl 8 (aV false [(cD (dI .i64))]), sl 9 (aV false [(cPtr 9 0)]), sl 10 (aV false [(cPtr 10 0)]), sl 61 (aV false [(cD dB)])] [eBox 2 [(cD (dI .i64)), (cD (dI .i64))], eBox 9 [(cD (dI .i64)), (cD (dI .i64))], eBox 10 [(cD (dI .i64)), (cD (dI .i64))]]
def u167_3_2 {β : Type} (g : St → β) : Int → Int → Int → Bool → Int → Int → Int → Int → Int → Int → β := p167_3_2.unc g
def pr167_3_0 : PT (List RV) := pRs [pR true [rD (dI .i64), rD (dI .i64)]]
def ur167_3_0 {β : Type} (g : List RV → β) : Int → Int → β := pr167_3_0.unc g
def E167_3g (vf91_0 : Tf91_0) (vf171_0 : Tf171_0) : EnvK := EnvK.of [⟨91, nt91, [⟨pa91_0, Fn91_0 vf91_0⟩]⟩, ⟨171, nt171, [⟨pa171_0, Fn171_0 vf171_0⟩]⟩] noSeq
noncomputable def E167_3 : EnvK := E167_3g f91_0 f171_0
theorem eo167_3 : E167_3.Ok Tryz.prog := EnvK.of_ok noSeq_ok ⟨⟨io91_0, trivial⟩, ⟨io171_0, trivial⟩, trivial⟩
noncomputable def c167_3_43g  : MCode := (.seq (.seq (.region r167_46 [] (tO [0, 2, 7, 8, 9, 10, 61])) (.cond (.tmp 61) .skip (.exit 0))) (.block 1 (.seq (.region r167_50 [] (tO [0, 2, 7, 8, 9, 10, 11])) (.seq (.region r167_52 [] (tO [0, 2, 7, 8, 9, 10, 11, 12, 13])) (.seq (.region r167_54 [] (tO [0, 2, 7, 8, 9, 10, 11, 12, 13, 14])) (.seq (.region r167_56 [] (tO [0, 2, 7, 8, 9, 10, 11, 15])) (.seq (.seq (.region r167_59 [] (tO [0, 2, 7, 8, 9, 10, 11, 15, 95])) (.cond (.tmp 95) (.seq (.region r167_62 [] (tO [2])) .ret) .skip)) (.seq (.region r167_64 [] (tO [0, 2, 7, 8, 9, 10, 11, 15, 99])) (.cond (.tmp 99) (.region r167_66 [] (tO [0, 2, 7, 8, 9, 10])) (.region r167_67 [] (tO [0, 2, 7, 8, 9, 10])))))))))))
noncomputable def c167_3_43 : MCode := c167_3_43g 
theorem g167_3_43 : c167_3_43.Good Tryz.prog E167_3 sh167 := ⟨⟨trivial, ⟨trivial, trivial⟩⟩, ⟨trivial, ⟨trivial, ⟨trivial, ⟨trivial, ⟨⟨trivial, ⟨⟨trivial, trivial⟩, trivial⟩⟩, ⟨trivial, ⟨trivial, trivial⟩⟩⟩⟩⟩⟩⟩⟩
--CODE 43 0
def S167_3_0g (vf171_0 : Tf171_0) (α : Type) (x4 x5 x6 x9 x10 x11 x12 : Int) (kn : Int → Int → Int → Int → Int → Int → Option α) (k1 : Int → Int → Option α) (k2 : Int → Int → Bool → Int → Int → Int → Int → Option α) : Option α :=
 cK (x4 != x6)
 (vf171_0 α (w64 ((w64 ((w64 (x9 + x11)) * (w64 (x9 + x11)))) + (w64 ((w64 (x10 + x12)) * (w64 (x10 + x12))))))
 (fun x14 => gK (x14 != 0) (gK (x14 != 0) (cK ((w64 (Int.tdiv (w64 (x5 + x6)) 2)) == x4)
 (k1 (w64 (Int.tdiv (w64 ((w64 (x9 + x11)) * 67108864)) x14)) (w64 (Int.tdiv (w64 ((w64 (x10 + x12)) * 67108864)) x14)))
 (cK (decide ((w64 (Int.tdiv (w64 (x5 + x6)) 2)) < x4))
 (kn (w64 (Int.tdiv (w64 (x5 + x6)) 2)) x6 (w64 (Int.tdiv (w64 ((w64 (x9 + x11)) * 67108864)) x14)) (w64 (Int.tdiv (w64 ((w64 (x10 + x12)) * 67108864)) x14)) x11 x12)
 (kn x5 (w64 (Int.tdiv (w64 (x5 + x6)) 2)) x9 x10 (w64 (Int.tdiv (w64 ((w64 (x9 + x11)) * 67108864)) x14)) (w64 (Int.tdiv (w64 ((w64 (x10 + x12)) * 67108864)) x14))))))))
 (k2 x5 x6 (x4 != x6) x9 x10 x11 x12)
noncomputable def S167_3_0 (α : Type) (x4 x5 x6 x9 x10 x11 x12 : Int) (kn : Int → Int → Int → Int → Int → Int → Option α) (k1 : Int → Int → Option α) (k2 : Int → Int → Bool → Int → Int → Int → Int → Option α) : Option α := S167_3_0g f171_0 α x4 x5 x6 x9 x10 x11 x12 kn k1 k2
noncomputable def R167_3_0 (α : Type) (x4 : Int) (k1 : Int → Int → Option α) (k2 : Int → Int → Bool → Int → Int → Int → Int → Option α) : Nat → Int → Int → Int → Int → Int → Int → Option α
 | 0, _, _, _, _, _, _ => none
 | n + 1, x5, x6, x9, x10, x11, x12 => S167_3_0 α x4 x5 x6 x9 x10 x11 x12 (R167_3_0 α x4 k1 k2 n) k1 k2
noncomputable def L167_3_0 (α : Type) (x4 : Int) (k1 : Int → Int → Option α) (k2 : Int → Int → Bool → Int → Int → Int → Int → Option α) (x5 x6 x9 x10 x11 x12 : Int) : Option α := R167_3_0 α x4 k1 k2 fuel x5 x6 x9 x10 x11 x12
abbrev TL167_3_0 : Type 1 := (α : Type) → Int → (Int → Int → Option α) → (Int → Int → Bool → Int → Int → Int → Int → Option α) → Int → Int → Int → Int → Int → Int → Option α
def F167_3_0 (v : TL167_3_0) (α : Type) (K : Exit → St → Option α) : Int → Int → Int → Int → Int → Int → Int → Int → Int → Option α := fun x4 x5 x6 x7 x8 x9 x10 x11 x12 => v α x4 (fun (y1 : Int) (y2 : Int) => u167_3_1 (K .ret) y1 y2) (fun (y1 : Int) (y2 : Int) (y3 : Bool) (y4 : Int) (y5 : Int) (y6 : Int) (y7 : Int) => u167_3_2 (K (.exit 0)) x4 y1 y2 y3 x7 x8 y4 y5 y6 y7) x5 x6 x9 x10 x11 x12
theorem r167_3_0g (vf91_0 : Tf91_0) (vf171_0 : Tf171_0)  (α : Type) (K : Exit → St → Option α) (Kn : St → Option α) (x4 x5 x6 x7 x8 x9 x10 x11 x12 : Int) : u167_3_0 (fun σ => runM Tryz.prog (E167_3g vf91_0 vf171_0) sh167 (c167_3_43g ) (thenK (fun σ => tidyK td167_43 σ Kn) K) σ) x4 x5 x6 x7 x8 x9 x10 x11 x12 = S167_3_0g vf171_0 α x4 x5 x6 x9 x10 x11 x12 (fun x5 x6 x9 x10 x11 x12 => u167_3_0 Kn x4 x5 x6 x7 x8 x9 x10 x11 x12) (fun (y1 : Int) (y2 : Int) => u167_3_1 (K .ret) y1 y2) (fun (y1 : Int) (y2 : Int) (y3 : Bool) (y4 : Int) (y5 : Int) (y6 : Int) (y7 : Int) => u167_3_2 (K (.exit 0)) x4 y1 y2 y3 x7 x8 y4 y5 y6 y7) := by kernel_rfl
theorem r167_3_0 (α : Type) (K : Exit → St → Option α) (Kn : St → Option α) (x4 x5 x6 x7 x8 x9 x10 x11 x12 : Int) : u167_3_0 (fun σ => runM Tryz.prog E167_3 sh167 c167_3_43 (thenK (fun σ => tidyK td167_43 σ Kn) K) σ) x4 x5 x6 x7 x8 x9 x10 x11 x12 = S167_3_0 α x4 x5 x6 x9 x10 x11 x12 (fun x5 x6 x9 x10 x11 x12 => u167_3_0 Kn x4 x5 x6 x7 x8 x9 x10 x11 x12) (fun (y1 : Int) (y2 : Int) => u167_3_1 (K .ret) y1 y2) (fun (y1 : Int) (y2 : Int) (y3 : Bool) (y4 : Int) (y5 : Int) (y6 : Int) (y7 : Int) => u167_3_2 (K (.exit 0)) x4 y1 y2 y3 x7 x8 y4 y5 y6 y7) := r167_3_0g f91_0 f171_0 α K Kn x4 x5 x6 x7 x8 x9 x10 x11 x12
theorem t167_3_0 (α : Type) (K : Exit → St → Option α) : ∀ (n : Nat) (x4 x5 x6 x7 x8 x9 x10 x11 x12 : Int), R167_3_0 α x4 (fun (y1 : Int) (y2 : Int) => u167_3_1 (K .ret) y1 y2) (fun (y1 : Int) (y2 : Int) (y3 : Bool) (y4 : Int) (y5 : Int) (y6 : Int) (y7 : Int) => u167_3_2 (K (.exit 0)) x4 y1 y2 y3 x7 x8 y4 y5 y6 y7) n x5 x6 x9 x10 x11 x12 = u167_3_0 (loopT (runM Tryz.prog E167_3 sh167 c167_3_43) td167_43 K n) x4 x5 x6 x7 x8 x9 x10 x11 x12 := by
 intro n
 induction n with
 | zero => intros; rfl
 | succ n ih => intro x4 x5 x6 x7 x8 x9 x10 x11 x12; exact (congrArg (fun kn => S167_3_0 α x4 x5 x6 x9 x10 x11 x12 kn (fun (y1 : Int) (y2 : Int) => u167_3_1 (K .ret) y1 y2) (fun (y1 : Int) (y2 : Int) (y3 : Bool) (y4 : Int) (y5 : Int) (y6 : Int) (y7 : Int) => u167_3_2 (K (.exit 0)) x4 y1 y2 y3 x7 x8 y4 y5 y6 y7)) (funext fun x5 => funext fun x6 => funext fun x9 => funext fun x10 => funext fun x11 => funext fun x12 => ih x4 x5 x6 x7 x8 x9 x10 x11 x12)).trans (r167_3_0 α K (loopT (runM Tryz.prog E167_3 sh167 c167_3_43) td167_43 K n) x4 x5 x6 x7 x8 x9 x10 x11 x12).symm
theorem m167_3_0 : ∀ (α : Type) (K : Exit → St → Option α), F167_3_0 L167_3_0 α K = p167_3_0.unc fun σ => loopT (runM Tryz.prog E167_3 sh167 c167_3_43) td167_43 K fuel σ := fun α K => funext fun x4 => funext fun x5 => funext fun x6 => funext fun x7 => funext fun x8 => funext fun x9 => funext fun x10 => funext fun x11 => funext fun x12 => t167_3_0 α K fuel x4 x5 x6 x7 x8 x9 x10 x11 x12
abbrev Tf167_3 : Type 1 := (α : Type) → Int → (Int → Int → Option α) → Option α
def f167_3g (vL167_3_0 : TL167_3_0) (vf171_0 : Tf171_0) (vf91_0 : Tf91_0) (α : Type) (x1 : Int) (k1 : Int → Int → Option α) : Option α :=
 vf91_0 α x1 4194304
 (fun x2 => cK (decide (2097152 ≤ x2))
 (none)
 (cK (decide (1048576 ≤ x2))
 (none)
 (cK (decide (524288 < x2))
 (none)
 (vf171_0 α 2251799813685248
 (fun x3 => cK (x2 == 0)
 (k1 67108864 0)
 (vL167_3_0 α x2
 (fun x15 x16 => k1 x15 x16)
 (fun x17 x18 x19 x20 x21 x22 x23 => k1 x22 x23) 0 524288 67108864 0 x3 x3))))))
noncomputable def f167_3 (α : Type) (x1 : Int) (k1 : Int → Int → Option α) : Option α := f167_3g L167_3_0 f171_0 f91_0 α x1 k1
def pa167_3 : PT (List DV) := pA [pV false [(dI .i64)]]
def Fn167_3 (v : Tf167_3) (α : Type) (k : List RV → Option α) : Int → Option α := fun x1 => v α x1 (fun (y1 : Int) (y2 : Int) => ur167_3_0 k y1 y2)
noncomputable def cm167_3g (vL167_3_0 : TL167_3_0) : MCode := (.seq (.region r167_2 [] (tO [0, 2])) (.seq (.region r167_4 [] (tO [0, 2])) (.seq (.seq (.region r167_7 [] (tO [0, 2, 19])) (.cond (.tmp 19) (.seq (.region r167_10 [] (tO [2, 3])) (.seq (.region r167_12 [] (tO [2])) .ret)) .skip)) (.seq (.seq (.region r167_15 [] (tO [0, 2, 31])) (.cond (.tmp 31) (.seq (.region r167_18 [] (tO [2, 4])) (.seq (.region r167_20 [] (tO [2])) .ret)) .skip)) (.seq (.seq (.region r167_23 [] (tO [0, 2, 42])) (.cond (.tmp 42) (.seq (.region r167_26 [] (tO [2, 5])) (.seq (.region r167_28 [] (tO [2])) .ret)) .skip)) (.seq (.region r167_30 [] (tO [0, 2, 6])) (.seq (.region r167_32 [] (tO [0, 2, 6, 7, 8])) (.seq (.region r167_34 [] (tO [0, 2, 7, 8, 9, 10])) (.seq (.seq (.region r167_37 [] (tO [0, 2, 7, 8, 9, 10, 57])) (.cond (.tmp 57) (.seq (.region r167_40 [] (tO [2])) .ret) .skip)) (.seq (.block 0 (.loop td167_43 [⟨p167_3_0, F167_3_0 vL167_3_0⟩] c167_3_43)) (.seq (.region r167_69 [] (tO [2])) .ret)))))))))))
noncomputable def cm167_3 : MCode := cm167_3g L167_3_0
theorem gm167_3 : cm167_3.Good Tryz.prog E167_3 sh167 := ⟨trivial, ⟨trivial, ⟨⟨trivial, ⟨⟨trivial, ⟨trivial, trivial⟩⟩, trivial⟩⟩, ⟨⟨trivial, ⟨⟨trivial, ⟨trivial, trivial⟩⟩, trivial⟩⟩, ⟨⟨trivial, ⟨⟨trivial, ⟨trivial, trivial⟩⟩, trivial⟩⟩, ⟨trivial, ⟨trivial, ⟨trivial, ⟨⟨trivial, ⟨⟨trivial, trivial⟩, trivial⟩⟩, ⟨⟨g167_3_43, m167_3_0, trivial⟩, ⟨trivial, trivial⟩⟩⟩⟩⟩⟩⟩⟩⟩⟩⟩
theorem fm167_3g (vf91_0 : Tf91_0) (vf171_0 : Tf171_0) (vL167_3_0 : TL167_3_0) (α : Type) (k : List RV → Option α) : Fn167_3 (f167_3g vL167_3_0 vf171_0 vf91_0) α k = pa167_3.unc fun ds => fnM Tryz.prog (E167_3g vf91_0 vf171_0) sh167 (cm167_3g vL167_3_0) rs167 k ds := by kernel_rfl
theorem fm167_3 : ∀ (α : Type) (k : List RV → Option α), Fn167_3 f167_3 α k = pa167_3.unc fun ds => fnM Tryz.prog E167_3 sh167 cm167_3 rs167 k ds := fm167_3g f91_0 f171_0 L167_3_0
theorem is167 : FnIs Tryz.prog 167 nt167 tr167 tl167 cm167_3.erase rs167 := ⟨Tryz.f167, Tryz.func167, rfl, by kernel_rfl, by kernel_rfl, by kernel_rfl⟩
theorem io167_3 : InstOk Tryz.prog 167 nt167 ⟨pa167_3, Fn167_3 f167_3⟩ := inst_ok eo167_3 followsTry is167 ⟨⟨sh167, cm167_3, by kernel_rfl, gm167_3, fm167_3⟩⟩
def p167_2_0 : PT St := pS [sl 0 (aV false [(cD (dI .i64))]), sl 2 (aV false [(cPtr 2 0)]), sl 7 (aV false [(cD (dI .i64))]), sl 8 (aV false [(cD (dI .i64))]), sl 9 (aV false [(cPtr 9 0)]), sl 10 (aV false [(cPtr 10 0)])] [eBox 2 [(cD (dI .i64)), (cD (dI .i64))], eBox 9 [(cD (dI .i64)), (cD (dI .i64))], eBox 10 [(cD (dI .i64)), (cD (dI .i64))]]
def u167_2_0 {β : Type} (g : St → β) : Int → Int → Int → Int → Int → Int → Int → Int → Int → β := p167_2_0.unc g
def p167_2_1 : PT St := pS [sl 2 (aV false [(cPtr 2 0)])] [eBox 2 [(cD (dI .i64)), (cD (dI .i64))]]
def u167_2_1 {β : Type} (g : St → β) : Int → Int → β := p167_2_1.unc g
def p167_2_2 : PT St := pS [sl 0 (aV false [(cD (dI .i64))]), sl 2 (aV false [(cPtr 2 0)]), sl 7 (aV false [(cD (dI .i64))]), sl 8 (aV false [(cD (dI .i64))]), sl 9 (aV false [(cPtr 9 0)]), sl 10 (aV false [(cPtr 10 0)]), sl 61 (aV false [(cD dB)])] [eBox 2 [(cD (dI .i64)), (cD (dI .i64))], eBox 9 [(cD (dI .i64)), (cD (dI .i64))], eBox 10 [(cD (dI .i64)), (cD (dI .i64))]]
def u167_2_2 {β : Type} (g : St → β) : Int → Int → Int → Bool → Int → Int → Int → Int → Int → Int → β := p167_2_2.unc g
def pr167_2_0 : PT (List RV) := pRs [pR true [rD (dI .i64), rD (dI .i64)]]
def ur167_2_0 {β : Type} (g : List RV → β) : Int → Int → β := pr167_2_0.unc g
def E167_2g (vf91_0 : Tf91_0) (vf167_3 : Tf167_3) (vf171_0 : Tf171_0) : EnvK := EnvK.of [⟨91, nt91, [⟨pa91_0, Fn91_0 vf91_0⟩]⟩, ⟨167, nt167, [⟨pa167_3, Fn167_3 vf167_3⟩]⟩, ⟨171, nt171, [⟨pa171_0, Fn171_0 vf171_0⟩]⟩] noSeq
noncomputable def E167_2 : EnvK := E167_2g f91_0 f167_3 f171_0
theorem eo167_2 : E167_2.Ok Tryz.prog := EnvK.of_ok noSeq_ok ⟨⟨io91_0, trivial⟩, ⟨io167_3, trivial⟩, ⟨io171_0, trivial⟩, trivial⟩
noncomputable def c167_2_43g  : MCode := (.seq (.seq (.region r167_46 [] (tO [0, 2, 7, 8, 9, 10, 61])) (.cond (.tmp 61) .skip (.exit 0))) (.block 1 (.seq (.region r167_50 [] (tO [0, 2, 7, 8, 9, 10, 11])) (.seq (.region r167_52 [] (tO [0, 2, 7, 8, 9, 10, 11, 12, 13])) (.seq (.region r167_54 [] (tO [0, 2, 7, 8, 9, 10, 11, 12, 13, 14])) (.seq (.region r167_56 [] (tO [0, 2, 7, 8, 9, 10, 11, 15])) (.seq (.seq (.region r167_59 [] (tO [0, 2, 7, 8, 9, 10, 11, 15, 95])) (.cond (.tmp 95) (.seq (.region r167_62 [] (tO [2])) .ret) .skip)) (.seq (.region r167_64 [] (tO [0, 2, 7, 8, 9, 10, 11, 15, 99])) (.cond (.tmp 99) (.region r167_66 [] (tO [0, 2, 7, 8, 9, 10])) (.region r167_67 [] (tO [0, 2, 7, 8, 9, 10])))))))))))
noncomputable def c167_2_43 : MCode := c167_2_43g 
theorem g167_2_43 : c167_2_43.Good Tryz.prog E167_2 sh167 := ⟨⟨trivial, ⟨trivial, trivial⟩⟩, ⟨trivial, ⟨trivial, ⟨trivial, ⟨trivial, ⟨⟨trivial, ⟨⟨trivial, trivial⟩, trivial⟩⟩, ⟨trivial, ⟨trivial, trivial⟩⟩⟩⟩⟩⟩⟩⟩
--CODE 43 0
def S167_2_0g (vf171_0 : Tf171_0) (α : Type) (x10 x11 x12 x15 x16 x17 x18 : Int) (kn : Int → Int → Int → Int → Int → Int → Option α) (k1 : Int → Int → Option α) (k2 : Int → Int → Bool → Int → Int → Int → Int → Option α) : Option α :=
 cK (x10 != x12)
 (vf171_0 α (w64 ((w64 ((w64 (x15 + x17)) * (w64 (x15 + x17)))) + (w64 ((w64 (x16 + x18)) * (w64 (x16 + x18))))))
 (fun x20 => gK (x20 != 0) (gK (x20 != 0) (cK ((w64 (Int.tdiv (w64 (x11 + x12)) 2)) == x10)
 (k1 (w64 (Int.tdiv (w64 ((w64 (x15 + x17)) * 67108864)) x20)) (w64 (Int.tdiv (w64 ((w64 (x16 + x18)) * 67108864)) x20)))
 (cK (decide ((w64 (Int.tdiv (w64 (x11 + x12)) 2)) < x10))
 (kn (w64 (Int.tdiv (w64 (x11 + x12)) 2)) x12 (w64 (Int.tdiv (w64 ((w64 (x15 + x17)) * 67108864)) x20)) (w64 (Int.tdiv (w64 ((w64 (x16 + x18)) * 67108864)) x20)) x17 x18)
 (kn x11 (w64 (Int.tdiv (w64 (x11 + x12)) 2)) x15 x16 (w64 (Int.tdiv (w64 ((w64 (x15 + x17)) * 67108864)) x20)) (w64 (Int.tdiv (w64 ((w64 (x16 + x18)) * 67108864)) x20))))))))
 (k2 x11 x12 (x10 != x12) x15 x16 x17 x18)
noncomputable def S167_2_0 (α : Type) (x10 x11 x12 x15 x16 x17 x18 : Int) (kn : Int → Int → Int → Int → Int → Int → Option α) (k1 : Int → Int → Option α) (k2 : Int → Int → Bool → Int → Int → Int → Int → Option α) : Option α := S167_2_0g f171_0 α x10 x11 x12 x15 x16 x17 x18 kn k1 k2
noncomputable def R167_2_0 (α : Type) (x10 : Int) (k1 : Int → Int → Option α) (k2 : Int → Int → Bool → Int → Int → Int → Int → Option α) : Nat → Int → Int → Int → Int → Int → Int → Option α
 | 0, _, _, _, _, _, _ => none
 | n + 1, x11, x12, x15, x16, x17, x18 => S167_2_0 α x10 x11 x12 x15 x16 x17 x18 (R167_2_0 α x10 k1 k2 n) k1 k2
noncomputable def L167_2_0 (α : Type) (x10 : Int) (k1 : Int → Int → Option α) (k2 : Int → Int → Bool → Int → Int → Int → Int → Option α) (x11 x12 x15 x16 x17 x18 : Int) : Option α := R167_2_0 α x10 k1 k2 fuel x11 x12 x15 x16 x17 x18
abbrev TL167_2_0 : Type 1 := (α : Type) → Int → (Int → Int → Option α) → (Int → Int → Bool → Int → Int → Int → Int → Option α) → Int → Int → Int → Int → Int → Int → Option α
def F167_2_0 (v : TL167_2_0) (α : Type) (K : Exit → St → Option α) : Int → Int → Int → Int → Int → Int → Int → Int → Int → Option α := fun x10 x11 x12 x13 x14 x15 x16 x17 x18 => v α x10 (fun (y1 : Int) (y2 : Int) => u167_2_1 (K .ret) y1 y2) (fun (y1 : Int) (y2 : Int) (y3 : Bool) (y4 : Int) (y5 : Int) (y6 : Int) (y7 : Int) => u167_2_2 (K (.exit 0)) x10 y1 y2 y3 x13 x14 y4 y5 y6 y7) x11 x12 x15 x16 x17 x18
theorem r167_2_0g (vf91_0 : Tf91_0) (vf167_3 : Tf167_3) (vf171_0 : Tf171_0)  (α : Type) (K : Exit → St → Option α) (Kn : St → Option α) (x10 x11 x12 x13 x14 x15 x16 x17 x18 : Int) : u167_2_0 (fun σ => runM Tryz.prog (E167_2g vf91_0 vf167_3 vf171_0) sh167 (c167_2_43g ) (thenK (fun σ => tidyK td167_43 σ Kn) K) σ) x10 x11 x12 x13 x14 x15 x16 x17 x18 = S167_2_0g vf171_0 α x10 x11 x12 x15 x16 x17 x18 (fun x11 x12 x15 x16 x17 x18 => u167_2_0 Kn x10 x11 x12 x13 x14 x15 x16 x17 x18) (fun (y1 : Int) (y2 : Int) => u167_2_1 (K .ret) y1 y2) (fun (y1 : Int) (y2 : Int) (y3 : Bool) (y4 : Int) (y5 : Int) (y6 : Int) (y7 : Int) => u167_2_2 (K (.exit 0)) x10 y1 y2 y3 x13 x14 y4 y5 y6 y7) := by kernel_rfl
theorem r167_2_0 (α : Type) (K : Exit → St → Option α) (Kn : St → Option α) (x10 x11 x12 x13 x14 x15 x16 x17 x18 : Int) : u167_2_0 (fun σ => runM Tryz.prog E167_2 sh167 c167_2_43 (thenK (fun σ => tidyK td167_43 σ Kn) K) σ) x10 x11 x12 x13 x14 x15 x16 x17 x18 = S167_2_0 α x10 x11 x12 x15 x16 x17 x18 (fun x11 x12 x15 x16 x17 x18 => u167_2_0 Kn x10 x11 x12 x13 x14 x15 x16 x17 x18) (fun (y1 : Int) (y2 : Int) => u167_2_1 (K .ret) y1 y2) (fun (y1 : Int) (y2 : Int) (y3 : Bool) (y4 : Int) (y5 : Int) (y6 : Int) (y7 : Int) => u167_2_2 (K (.exit 0)) x10 y1 y2 y3 x13 x14 y4 y5 y6 y7) := r167_2_0g f91_0 f167_3 f171_0 α K Kn x10 x11 x12 x13 x14 x15 x16 x17 x18
theorem t167_2_0 (α : Type) (K : Exit → St → Option α) : ∀ (n : Nat) (x10 x11 x12 x13 x14 x15 x16 x17 x18 : Int), R167_2_0 α x10 (fun (y1 : Int) (y2 : Int) => u167_2_1 (K .ret) y1 y2) (fun (y1 : Int) (y2 : Int) (y3 : Bool) (y4 : Int) (y5 : Int) (y6 : Int) (y7 : Int) => u167_2_2 (K (.exit 0)) x10 y1 y2 y3 x13 x14 y4 y5 y6 y7) n x11 x12 x15 x16 x17 x18 = u167_2_0 (loopT (runM Tryz.prog E167_2 sh167 c167_2_43) td167_43 K n) x10 x11 x12 x13 x14 x15 x16 x17 x18 := by
 intro n
 induction n with
 | zero => intros; rfl
 | succ n ih => intro x10 x11 x12 x13 x14 x15 x16 x17 x18; exact (congrArg (fun kn => S167_2_0 α x10 x11 x12 x15 x16 x17 x18 kn (fun (y1 : Int) (y2 : Int) => u167_2_1 (K .ret) y1 y2) (fun (y1 : Int) (y2 : Int) (y3 : Bool) (y4 : Int) (y5 : Int) (y6 : Int) (y7 : Int) => u167_2_2 (K (.exit 0)) x10 y1 y2 y3 x13 x14 y4 y5 y6 y7)) (funext fun x11 => funext fun x12 => funext fun x15 => funext fun x16 => funext fun x17 => funext fun x18 => ih x10 x11 x12 x13 x14 x15 x16 x17 x18)).trans (r167_2_0 α K (loopT (runM Tryz.prog E167_2 sh167 c167_2_43) td167_43 K n) x10 x11 x12 x13 x14 x15 x16 x17 x18).symm
theorem m167_2_0 : ∀ (α : Type) (K : Exit → St → Option α), F167_2_0 L167_2_0 α K = p167_2_0.unc fun σ => loopT (runM Tryz.prog E167_2 sh167 c167_2_43) td167_43 K fuel σ := fun α K => funext fun x10 => funext fun x11 => funext fun x12 => funext fun x13 => funext fun x14 => funext fun x15 => funext fun x16 => funext fun x17 => funext fun x18 => t167_2_0 α K fuel x10 x11 x12 x13 x14 x15 x16 x17 x18
abbrev Tf167_2 : Type 1 := (α : Type) → Int → (Int → Int → Option α) → Option α
def f167_2g (vL167_2_0 : TL167_2_0) (vf167_3 : Tf167_3) (vf171_0 : Tf171_0) (vf91_0 : Tf91_0) (α : Type) (x1 : Int) (k1 : Int → Int → Option α) : Option α :=
 vf91_0 α x1 4194304
 (fun x2 => cK (decide (2097152 ≤ x2))
 (vf167_3 α (w64 (x2 - 2097152))
 (fun x3 x4 => k1 (w64 (0 - x3)) (w64 (0 - x4))))
 (cK (decide (1048576 ≤ x2))
 (vf167_3 α (w64 (x2 - 1048576))
 (fun x5 x6 => k1 (w64 (0 - x6)) x5))
 (cK (decide (524288 < x2))
 (vf167_3 α (w64 (1048576 - x2))
 (fun x7 x8 => k1 x8 x7))
 (vf171_0 α 2251799813685248
 (fun x9 => cK (x2 == 0)
 (k1 67108864 0)
 (vL167_2_0 α x2
 (fun x21 x22 => k1 x21 x22)
 (fun x23 x24 x25 x26 x27 x28 x29 => k1 x28 x29) 0 524288 67108864 0 x9 x9))))))
noncomputable def f167_2 (α : Type) (x1 : Int) (k1 : Int → Int → Option α) : Option α := f167_2g L167_2_0 f167_3 f171_0 f91_0 α x1 k1
def pa167_2 : PT (List DV) := pA [pV false [(dI .i64)]]
def Fn167_2 (v : Tf167_2) (α : Type) (k : List RV → Option α) : Int → Option α := fun x1 => v α x1 (fun (y1 : Int) (y2 : Int) => ur167_2_0 k y1 y2)
noncomputable def cm167_2g (vL167_2_0 : TL167_2_0) : MCode := (.seq (.region r167_2 [] (tO [0, 2])) (.seq (.region r167_4 [] (tO [0, 2])) (.seq (.seq (.region r167_7 [] (tO [0, 2, 19])) (.cond (.tmp 19) (.seq (.region r167_10 [] (tO [2, 3])) (.seq (.region r167_12 [] (tO [2])) .ret)) .skip)) (.seq (.seq (.region r167_15 [] (tO [0, 2, 31])) (.cond (.tmp 31) (.seq (.region r167_18 [] (tO [2, 4])) (.seq (.region r167_20 [] (tO [2])) .ret)) .skip)) (.seq (.seq (.region r167_23 [] (tO [0, 2, 42])) (.cond (.tmp 42) (.seq (.region r167_26 [] (tO [2, 5])) (.seq (.region r167_28 [] (tO [2])) .ret)) .skip)) (.seq (.region r167_30 [] (tO [0, 2, 6])) (.seq (.region r167_32 [] (tO [0, 2, 6, 7, 8])) (.seq (.region r167_34 [] (tO [0, 2, 7, 8, 9, 10])) (.seq (.seq (.region r167_37 [] (tO [0, 2, 7, 8, 9, 10, 57])) (.cond (.tmp 57) (.seq (.region r167_40 [] (tO [2])) .ret) .skip)) (.seq (.block 0 (.loop td167_43 [⟨p167_2_0, F167_2_0 vL167_2_0⟩] c167_2_43)) (.seq (.region r167_69 [] (tO [2])) .ret)))))))))))
noncomputable def cm167_2 : MCode := cm167_2g L167_2_0
theorem gm167_2 : cm167_2.Good Tryz.prog E167_2 sh167 := ⟨trivial, ⟨trivial, ⟨⟨trivial, ⟨⟨trivial, ⟨trivial, trivial⟩⟩, trivial⟩⟩, ⟨⟨trivial, ⟨⟨trivial, ⟨trivial, trivial⟩⟩, trivial⟩⟩, ⟨⟨trivial, ⟨⟨trivial, ⟨trivial, trivial⟩⟩, trivial⟩⟩, ⟨trivial, ⟨trivial, ⟨trivial, ⟨⟨trivial, ⟨⟨trivial, trivial⟩, trivial⟩⟩, ⟨⟨g167_2_43, m167_2_0, trivial⟩, ⟨trivial, trivial⟩⟩⟩⟩⟩⟩⟩⟩⟩⟩⟩
theorem fm167_2g (vf91_0 : Tf91_0) (vf167_3 : Tf167_3) (vf171_0 : Tf171_0) (vL167_2_0 : TL167_2_0) (α : Type) (k : List RV → Option α) : Fn167_2 (f167_2g vL167_2_0 vf167_3 vf171_0 vf91_0) α k = pa167_2.unc fun ds => fnM Tryz.prog (E167_2g vf91_0 vf167_3 vf171_0) sh167 (cm167_2g vL167_2_0) rs167 k ds := by kernel_rfl
theorem fm167_2 : ∀ (α : Type) (k : List RV → Option α), Fn167_2 f167_2 α k = pa167_2.unc fun ds => fnM Tryz.prog E167_2 sh167 cm167_2 rs167 k ds := fm167_2g f91_0 f167_3 f171_0 L167_2_0
theorem io167_2 : InstOk Tryz.prog 167 nt167 ⟨pa167_2, Fn167_2 f167_2⟩ := inst_ok eo167_2 followsTry is167 ⟨⟨sh167, cm167_2, by kernel_rfl, gm167_2, fm167_2⟩⟩
def p167_1_0 : PT St := pS [sl 0 (aV false [(cD (dI .i64))]), sl 2 (aV false [(cPtr 2 0)]), sl 7 (aV false [(cD (dI .i64))]), sl 8 (aV false [(cD (dI .i64))]), sl 9 (aV false [(cPtr 9 0)]), sl 10 (aV false [(cPtr 10 0)])] [eBox 2 [(cD (dI .i64)), (cD (dI .i64))], eBox 9 [(cD (dI .i64)), (cD (dI .i64))], eBox 10 [(cD (dI .i64)), (cD (dI .i64))]]
def u167_1_0 {β : Type} (g : St → β) : Int → Int → Int → Int → Int → Int → Int → Int → Int → β := p167_1_0.unc g
def p167_1_1 : PT St := pS [sl 2 (aV false [(cPtr 2 0)])] [eBox 2 [(cD (dI .i64)), (cD (dI .i64))]]
def u167_1_1 {β : Type} (g : St → β) : Int → Int → β := p167_1_1.unc g
def p167_1_2 : PT St := pS [sl 0 (aV false [(cD (dI .i64))]), sl 2 (aV false [(cPtr 2 0)]), sl 7 (aV false [(cD (dI .i64))]), sl 8 (aV false [(cD (dI .i64))]), sl 9 (aV false [(cPtr 9 0)]), sl 10 (aV false [(cPtr 10 0)]), sl 61 (aV false [(cD dB)])] [eBox 2 [(cD (dI .i64)), (cD (dI .i64))], eBox 9 [(cD (dI .i64)), (cD (dI .i64))], eBox 10 [(cD (dI .i64)), (cD (dI .i64))]]
def u167_1_2 {β : Type} (g : St → β) : Int → Int → Int → Bool → Int → Int → Int → Int → Int → Int → β := p167_1_2.unc g
def pr167_1_0 : PT (List RV) := pRs [pR true [rD (dI .i64), rD (dI .i64)]]
def ur167_1_0 {β : Type} (g : List RV → β) : Int → Int → β := pr167_1_0.unc g
def E167_1g (vf91_0 : Tf91_0) (vf167_2 : Tf167_2) (vf171_0 : Tf171_0) : EnvK := EnvK.of [⟨91, nt91, [⟨pa91_0, Fn91_0 vf91_0⟩]⟩, ⟨167, nt167, [⟨pa167_2, Fn167_2 vf167_2⟩]⟩, ⟨171, nt171, [⟨pa171_0, Fn171_0 vf171_0⟩]⟩] noSeq
noncomputable def E167_1 : EnvK := E167_1g f91_0 f167_2 f171_0
theorem eo167_1 : E167_1.Ok Tryz.prog := EnvK.of_ok noSeq_ok ⟨⟨io91_0, trivial⟩, ⟨io167_2, trivial⟩, ⟨io171_0, trivial⟩, trivial⟩
noncomputable def c167_1_43g  : MCode := (.seq (.seq (.region r167_46 [] (tO [0, 2, 7, 8, 9, 10, 61])) (.cond (.tmp 61) .skip (.exit 0))) (.block 1 (.seq (.region r167_50 [] (tO [0, 2, 7, 8, 9, 10, 11])) (.seq (.region r167_52 [] (tO [0, 2, 7, 8, 9, 10, 11, 12, 13])) (.seq (.region r167_54 [] (tO [0, 2, 7, 8, 9, 10, 11, 12, 13, 14])) (.seq (.region r167_56 [] (tO [0, 2, 7, 8, 9, 10, 11, 15])) (.seq (.seq (.region r167_59 [] (tO [0, 2, 7, 8, 9, 10, 11, 15, 95])) (.cond (.tmp 95) (.seq (.region r167_62 [] (tO [2])) .ret) .skip)) (.seq (.region r167_64 [] (tO [0, 2, 7, 8, 9, 10, 11, 15, 99])) (.cond (.tmp 99) (.region r167_66 [] (tO [0, 2, 7, 8, 9, 10])) (.region r167_67 [] (tO [0, 2, 7, 8, 9, 10])))))))))))
noncomputable def c167_1_43 : MCode := c167_1_43g 
theorem g167_1_43 : c167_1_43.Good Tryz.prog E167_1 sh167 := ⟨⟨trivial, ⟨trivial, trivial⟩⟩, ⟨trivial, ⟨trivial, ⟨trivial, ⟨trivial, ⟨⟨trivial, ⟨⟨trivial, trivial⟩, trivial⟩⟩, ⟨trivial, ⟨trivial, trivial⟩⟩⟩⟩⟩⟩⟩⟩
--CODE 43 0
def S167_1_0g (vf171_0 : Tf171_0) (α : Type) (x10 x11 x12 x15 x16 x17 x18 : Int) (kn : Int → Int → Int → Int → Int → Int → Option α) (k1 : Int → Int → Option α) (k2 : Int → Int → Bool → Int → Int → Int → Int → Option α) : Option α :=
 cK (x10 != x12)
 (vf171_0 α (w64 ((w64 ((w64 (x15 + x17)) * (w64 (x15 + x17)))) + (w64 ((w64 (x16 + x18)) * (w64 (x16 + x18))))))
 (fun x20 => gK (x20 != 0) (gK (x20 != 0) (cK ((w64 (Int.tdiv (w64 (x11 + x12)) 2)) == x10)
 (k1 (w64 (Int.tdiv (w64 ((w64 (x15 + x17)) * 67108864)) x20)) (w64 (Int.tdiv (w64 ((w64 (x16 + x18)) * 67108864)) x20)))
 (cK (decide ((w64 (Int.tdiv (w64 (x11 + x12)) 2)) < x10))
 (kn (w64 (Int.tdiv (w64 (x11 + x12)) 2)) x12 (w64 (Int.tdiv (w64 ((w64 (x15 + x17)) * 67108864)) x20)) (w64 (Int.tdiv (w64 ((w64 (x16 + x18)) * 67108864)) x20)) x17 x18)
 (kn x11 (w64 (Int.tdiv (w64 (x11 + x12)) 2)) x15 x16 (w64 (Int.tdiv (w64 ((w64 (x15 + x17)) * 67108864)) x20)) (w64 (Int.tdiv (w64 ((w64 (x16 + x18)) * 67108864)) x20))))))))
 (k2 x11 x12 (x10 != x12) x15 x16 x17 x18)
noncomputable def S167_1_0 (α : Type) (x10 x11 x12 x15 x16 x17 x18 : Int) (kn : Int → Int → Int → Int → Int → Int → Option α) (k1 : Int → Int → Option α) (k2 : Int → Int → Bool → Int → Int → Int → Int → Option α) : Option α := S167_1_0g f171_0 α x10 x11 x12 x15 x16 x17 x18 kn k1 k2
noncomputable def R167_1_0 (α : Type) (x10 : Int) (k1 : Int → Int → Option α) (k2 : Int → Int → Bool → Int → Int → Int → Int → Option α) : Nat → Int → Int → Int → Int → Int → Int → Option α
 | 0, _, _, _, _, _, _ => none
 | n + 1, x11, x12, x15, x16, x17, x18 => S167_1_0 α x10 x11 x12 x15 x16 x17 x18 (R167_1_0 α x10 k1 k2 n) k1 k2
noncomputable def L167_1_0 (α : Type) (x10 : Int) (k1 : Int → Int → Option α) (k2 : Int → Int → Bool → Int → Int → Int → Int → Option α) (x11 x12 x15 x16 x17 x18 : Int) : Option α := R167_1_0 α x10 k1 k2 fuel x11 x12 x15 x16 x17 x18
abbrev TL167_1_0 : Type 1 := (α : Type) → Int → (Int → Int → Option α) → (Int → Int → Bool → Int → Int → Int → Int → Option α) → Int → Int → Int → Int → Int → Int → Option α
def F167_1_0 (v : TL167_1_0) (α : Type) (K : Exit → St → Option α) : Int → Int → Int → Int → Int → Int → Int → Int → Int → Option α := fun x10 x11 x12 x13 x14 x15 x16 x17 x18 => v α x10 (fun (y1 : Int) (y2 : Int) => u167_1_1 (K .ret) y1 y2) (fun (y1 : Int) (y2 : Int) (y3 : Bool) (y4 : Int) (y5 : Int) (y6 : Int) (y7 : Int) => u167_1_2 (K (.exit 0)) x10 y1 y2 y3 x13 x14 y4 y5 y6 y7) x11 x12 x15 x16 x17 x18
theorem r167_1_0g (vf91_0 : Tf91_0) (vf167_2 : Tf167_2) (vf171_0 : Tf171_0)  (α : Type) (K : Exit → St → Option α) (Kn : St → Option α) (x10 x11 x12 x13 x14 x15 x16 x17 x18 : Int) : u167_1_0 (fun σ => runM Tryz.prog (E167_1g vf91_0 vf167_2 vf171_0) sh167 (c167_1_43g ) (thenK (fun σ => tidyK td167_43 σ Kn) K) σ) x10 x11 x12 x13 x14 x15 x16 x17 x18 = S167_1_0g vf171_0 α x10 x11 x12 x15 x16 x17 x18 (fun x11 x12 x15 x16 x17 x18 => u167_1_0 Kn x10 x11 x12 x13 x14 x15 x16 x17 x18) (fun (y1 : Int) (y2 : Int) => u167_1_1 (K .ret) y1 y2) (fun (y1 : Int) (y2 : Int) (y3 : Bool) (y4 : Int) (y5 : Int) (y6 : Int) (y7 : Int) => u167_1_2 (K (.exit 0)) x10 y1 y2 y3 x13 x14 y4 y5 y6 y7) := by kernel_rfl
theorem r167_1_0 (α : Type) (K : Exit → St → Option α) (Kn : St → Option α) (x10 x11 x12 x13 x14 x15 x16 x17 x18 : Int) : u167_1_0 (fun σ => runM Tryz.prog E167_1 sh167 c167_1_43 (thenK (fun σ => tidyK td167_43 σ Kn) K) σ) x10 x11 x12 x13 x14 x15 x16 x17 x18 = S167_1_0 α x10 x11 x12 x15 x16 x17 x18 (fun x11 x12 x15 x16 x17 x18 => u167_1_0 Kn x10 x11 x12 x13 x14 x15 x16 x17 x18) (fun (y1 : Int) (y2 : Int) => u167_1_1 (K .ret) y1 y2) (fun (y1 : Int) (y2 : Int) (y3 : Bool) (y4 : Int) (y5 : Int) (y6 : Int) (y7 : Int) => u167_1_2 (K (.exit 0)) x10 y1 y2 y3 x13 x14 y4 y5 y6 y7) := r167_1_0g f91_0 f167_2 f171_0 α K Kn x10 x11 x12 x13 x14 x15 x16 x17 x18
theorem t167_1_0 (α : Type) (K : Exit → St → Option α) : ∀ (n : Nat) (x10 x11 x12 x13 x14 x15 x16 x17 x18 : Int), R167_1_0 α x10 (fun (y1 : Int) (y2 : Int) => u167_1_1 (K .ret) y1 y2) (fun (y1 : Int) (y2 : Int) (y3 : Bool) (y4 : Int) (y5 : Int) (y6 : Int) (y7 : Int) => u167_1_2 (K (.exit 0)) x10 y1 y2 y3 x13 x14 y4 y5 y6 y7) n x11 x12 x15 x16 x17 x18 = u167_1_0 (loopT (runM Tryz.prog E167_1 sh167 c167_1_43) td167_43 K n) x10 x11 x12 x13 x14 x15 x16 x17 x18 := by
 intro n
 induction n with
 | zero => intros; rfl
 | succ n ih => intro x10 x11 x12 x13 x14 x15 x16 x17 x18; exact (congrArg (fun kn => S167_1_0 α x10 x11 x12 x15 x16 x17 x18 kn (fun (y1 : Int) (y2 : Int) => u167_1_1 (K .ret) y1 y2) (fun (y1 : Int) (y2 : Int) (y3 : Bool) (y4 : Int) (y5 : Int) (y6 : Int) (y7 : Int) => u167_1_2 (K (.exit 0)) x10 y1 y2 y3 x13 x14 y4 y5 y6 y7)) (funext fun x11 => funext fun x12 => funext fun x15 => funext fun x16 => funext fun x17 => funext fun x18 => ih x10 x11 x12 x13 x14 x15 x16 x17 x18)).trans (r167_1_0 α K (loopT (runM Tryz.prog E167_1 sh167 c167_1_43) td167_43 K n) x10 x11 x12 x13 x14 x15 x16 x17 x18).symm
theorem m167_1_0 : ∀ (α : Type) (K : Exit → St → Option α), F167_1_0 L167_1_0 α K = p167_1_0.unc fun σ => loopT (runM Tryz.prog E167_1 sh167 c167_1_43) td167_43 K fuel σ := fun α K => funext fun x10 => funext fun x11 => funext fun x12 => funext fun x13 => funext fun x14 => funext fun x15 => funext fun x16 => funext fun x17 => funext fun x18 => t167_1_0 α K fuel x10 x11 x12 x13 x14 x15 x16 x17 x18
abbrev Tf167_1 : Type 1 := (α : Type) → Int → (Int → Int → Option α) → Option α
def f167_1g (vL167_1_0 : TL167_1_0) (vf167_2 : Tf167_2) (vf171_0 : Tf171_0) (vf91_0 : Tf91_0) (α : Type) (x1 : Int) (k1 : Int → Int → Option α) : Option α :=
 vf91_0 α x1 4194304
 (fun x2 => cK (decide (2097152 ≤ x2))
 (vf167_2 α (w64 (x2 - 2097152))
 (fun x3 x4 => k1 (w64 (0 - x3)) (w64 (0 - x4))))
 (cK (decide (1048576 ≤ x2))
 (vf167_2 α (w64 (x2 - 1048576))
 (fun x5 x6 => k1 (w64 (0 - x6)) x5))
 (cK (decide (524288 < x2))
 (vf167_2 α (w64 (1048576 - x2))
 (fun x7 x8 => k1 x8 x7))
 (vf171_0 α 2251799813685248
 (fun x9 => cK (x2 == 0)
 (k1 67108864 0)
 (vL167_1_0 α x2
 (fun x21 x22 => k1 x21 x22)
 (fun x23 x24 x25 x26 x27 x28 x29 => k1 x28 x29) 0 524288 67108864 0 x9 x9))))))
noncomputable def f167_1 (α : Type) (x1 : Int) (k1 : Int → Int → Option α) : Option α := f167_1g L167_1_0 f167_2 f171_0 f91_0 α x1 k1
def pa167_1 : PT (List DV) := pA [pV false [(dI .i64)]]
def Fn167_1 (v : Tf167_1) (α : Type) (k : List RV → Option α) : Int → Option α := fun x1 => v α x1 (fun (y1 : Int) (y2 : Int) => ur167_1_0 k y1 y2)
noncomputable def cm167_1g (vL167_1_0 : TL167_1_0) : MCode := (.seq (.region r167_2 [] (tO [0, 2])) (.seq (.region r167_4 [] (tO [0, 2])) (.seq (.seq (.region r167_7 [] (tO [0, 2, 19])) (.cond (.tmp 19) (.seq (.region r167_10 [] (tO [2, 3])) (.seq (.region r167_12 [] (tO [2])) .ret)) .skip)) (.seq (.seq (.region r167_15 [] (tO [0, 2, 31])) (.cond (.tmp 31) (.seq (.region r167_18 [] (tO [2, 4])) (.seq (.region r167_20 [] (tO [2])) .ret)) .skip)) (.seq (.seq (.region r167_23 [] (tO [0, 2, 42])) (.cond (.tmp 42) (.seq (.region r167_26 [] (tO [2, 5])) (.seq (.region r167_28 [] (tO [2])) .ret)) .skip)) (.seq (.region r167_30 [] (tO [0, 2, 6])) (.seq (.region r167_32 [] (tO [0, 2, 6, 7, 8])) (.seq (.region r167_34 [] (tO [0, 2, 7, 8, 9, 10])) (.seq (.seq (.region r167_37 [] (tO [0, 2, 7, 8, 9, 10, 57])) (.cond (.tmp 57) (.seq (.region r167_40 [] (tO [2])) .ret) .skip)) (.seq (.block 0 (.loop td167_43 [⟨p167_1_0, F167_1_0 vL167_1_0⟩] c167_1_43)) (.seq (.region r167_69 [] (tO [2])) .ret)))))))))))
noncomputable def cm167_1 : MCode := cm167_1g L167_1_0
theorem gm167_1 : cm167_1.Good Tryz.prog E167_1 sh167 := ⟨trivial, ⟨trivial, ⟨⟨trivial, ⟨⟨trivial, ⟨trivial, trivial⟩⟩, trivial⟩⟩, ⟨⟨trivial, ⟨⟨trivial, ⟨trivial, trivial⟩⟩, trivial⟩⟩, ⟨⟨trivial, ⟨⟨trivial, ⟨trivial, trivial⟩⟩, trivial⟩⟩, ⟨trivial, ⟨trivial, ⟨trivial, ⟨⟨trivial, ⟨⟨trivial, trivial⟩, trivial⟩⟩, ⟨⟨g167_1_43, m167_1_0, trivial⟩, ⟨trivial, trivial⟩⟩⟩⟩⟩⟩⟩⟩⟩⟩⟩
theorem fm167_1g (vf91_0 : Tf91_0) (vf167_2 : Tf167_2) (vf171_0 : Tf171_0) (vL167_1_0 : TL167_1_0) (α : Type) (k : List RV → Option α) : Fn167_1 (f167_1g vL167_1_0 vf167_2 vf171_0 vf91_0) α k = pa167_1.unc fun ds => fnM Tryz.prog (E167_1g vf91_0 vf167_2 vf171_0) sh167 (cm167_1g vL167_1_0) rs167 k ds := by kernel_rfl
theorem fm167_1 : ∀ (α : Type) (k : List RV → Option α), Fn167_1 f167_1 α k = pa167_1.unc fun ds => fnM Tryz.prog E167_1 sh167 cm167_1 rs167 k ds := fm167_1g f91_0 f167_2 f171_0 L167_1_0
theorem io167_1 : InstOk Tryz.prog 167 nt167 ⟨pa167_1, Fn167_1 f167_1⟩ := inst_ok eo167_1 followsTry is167 ⟨⟨sh167, cm167_1, by kernel_rfl, gm167_1, fm167_1⟩⟩
def p167_0_0 : PT St := pS [sl 0 (aV false [(cD (dI .i64))]), sl 2 (aV false [(cPtr 2 0)]), sl 7 (aV false [(cD (dI .i64))]), sl 8 (aV false [(cD (dI .i64))]), sl 9 (aV false [(cPtr 9 0)]), sl 10 (aV false [(cPtr 10 0)])] [eBox 2 [(cD (dI .i64)), (cD (dI .i64))], eBox 9 [(cD (dI .i64)), (cD (dI .i64))], eBox 10 [(cD (dI .i64)), (cD (dI .i64))]]
def u167_0_0 {β : Type} (g : St → β) : Int → Int → Int → Int → Int → Int → Int → Int → Int → β := p167_0_0.unc g
def p167_0_1 : PT St := pS [sl 2 (aV false [(cPtr 2 0)])] [eBox 2 [(cD (dI .i64)), (cD (dI .i64))]]
def u167_0_1 {β : Type} (g : St → β) : Int → Int → β := p167_0_1.unc g
def p167_0_2 : PT St := pS [sl 0 (aV false [(cD (dI .i64))]), sl 2 (aV false [(cPtr 2 0)]), sl 7 (aV false [(cD (dI .i64))]), sl 8 (aV false [(cD (dI .i64))]), sl 9 (aV false [(cPtr 9 0)]), sl 10 (aV false [(cPtr 10 0)]), sl 61 (aV false [(cD dB)])] [eBox 2 [(cD (dI .i64)), (cD (dI .i64))], eBox 9 [(cD (dI .i64)), (cD (dI .i64))], eBox 10 [(cD (dI .i64)), (cD (dI .i64))]]
def u167_0_2 {β : Type} (g : St → β) : Int → Int → Int → Bool → Int → Int → Int → Int → Int → Int → β := p167_0_2.unc g
def pr167_0_0 : PT (List RV) := pRs [pR true [rD (dI .i64), rD (dI .i64)]]
def ur167_0_0 {β : Type} (g : List RV → β) : Int → Int → β := pr167_0_0.unc g
def E167_0g (vf91_0 : Tf91_0) (vf167_1 : Tf167_1) (vf171_0 : Tf171_0) : EnvK := EnvK.of [⟨91, nt91, [⟨pa91_0, Fn91_0 vf91_0⟩]⟩, ⟨167, nt167, [⟨pa167_1, Fn167_1 vf167_1⟩]⟩, ⟨171, nt171, [⟨pa171_0, Fn171_0 vf171_0⟩]⟩] noSeq
noncomputable def E167_0 : EnvK := E167_0g f91_0 f167_1 f171_0
theorem eo167_0 : E167_0.Ok Tryz.prog := EnvK.of_ok noSeq_ok ⟨⟨io91_0, trivial⟩, ⟨io167_1, trivial⟩, ⟨io171_0, trivial⟩, trivial⟩
noncomputable def c167_0_43g  : MCode := (.seq (.seq (.region r167_46 [] (tO [0, 2, 7, 8, 9, 10, 61])) (.cond (.tmp 61) .skip (.exit 0))) (.block 1 (.seq (.region r167_50 [] (tO [0, 2, 7, 8, 9, 10, 11])) (.seq (.region r167_52 [] (tO [0, 2, 7, 8, 9, 10, 11, 12, 13])) (.seq (.region r167_54 [] (tO [0, 2, 7, 8, 9, 10, 11, 12, 13, 14])) (.seq (.region r167_56 [] (tO [0, 2, 7, 8, 9, 10, 11, 15])) (.seq (.seq (.region r167_59 [] (tO [0, 2, 7, 8, 9, 10, 11, 15, 95])) (.cond (.tmp 95) (.seq (.region r167_62 [] (tO [2])) .ret) .skip)) (.seq (.region r167_64 [] (tO [0, 2, 7, 8, 9, 10, 11, 15, 99])) (.cond (.tmp 99) (.region r167_66 [] (tO [0, 2, 7, 8, 9, 10])) (.region r167_67 [] (tO [0, 2, 7, 8, 9, 10])))))))))))
noncomputable def c167_0_43 : MCode := c167_0_43g 
theorem g167_0_43 : c167_0_43.Good Tryz.prog E167_0 sh167 := ⟨⟨trivial, ⟨trivial, trivial⟩⟩, ⟨trivial, ⟨trivial, ⟨trivial, ⟨trivial, ⟨⟨trivial, ⟨⟨trivial, trivial⟩, trivial⟩⟩, ⟨trivial, ⟨trivial, trivial⟩⟩⟩⟩⟩⟩⟩⟩
--CODE 43 0
def S167_0_0g (vf171_0 : Tf171_0) (α : Type) (x10 x11 x12 x15 x16 x17 x18 : Int) (kn : Int → Int → Int → Int → Int → Int → Option α) (k1 : Int → Int → Option α) (k2 : Int → Int → Bool → Int → Int → Int → Int → Option α) : Option α :=
 cK (x10 != x12)
 (vf171_0 α (w64 ((w64 ((w64 (x15 + x17)) * (w64 (x15 + x17)))) + (w64 ((w64 (x16 + x18)) * (w64 (x16 + x18))))))
 (fun x20 => gK (x20 != 0) (gK (x20 != 0) (cK ((w64 (Int.tdiv (w64 (x11 + x12)) 2)) == x10)
 (k1 (w64 (Int.tdiv (w64 ((w64 (x15 + x17)) * 67108864)) x20)) (w64 (Int.tdiv (w64 ((w64 (x16 + x18)) * 67108864)) x20)))
 (cK (decide ((w64 (Int.tdiv (w64 (x11 + x12)) 2)) < x10))
 (kn (w64 (Int.tdiv (w64 (x11 + x12)) 2)) x12 (w64 (Int.tdiv (w64 ((w64 (x15 + x17)) * 67108864)) x20)) (w64 (Int.tdiv (w64 ((w64 (x16 + x18)) * 67108864)) x20)) x17 x18)
 (kn x11 (w64 (Int.tdiv (w64 (x11 + x12)) 2)) x15 x16 (w64 (Int.tdiv (w64 ((w64 (x15 + x17)) * 67108864)) x20)) (w64 (Int.tdiv (w64 ((w64 (x16 + x18)) * 67108864)) x20))))))))
 (k2 x11 x12 (x10 != x12) x15 x16 x17 x18)
noncomputable def S167_0_0 (α : Type) (x10 x11 x12 x15 x16 x17 x18 : Int) (kn : Int → Int → Int → Int → Int → Int → Option α) (k1 : Int → Int → Option α) (k2 : Int → Int → Bool → Int → Int → Int → Int → Option α) : Option α := S167_0_0g f171_0 α x10 x11 x12 x15 x16 x17 x18 kn k1 k2
noncomputable def R167_0_0 (α : Type) (x10 : Int) (k1 : Int → Int → Option α) (k2 : Int → Int → Bool → Int → Int → Int → Int → Option α) : Nat → Int → Int → Int → Int → Int → Int → Option α
 | 0, _, _, _, _, _, _ => none
 | n + 1, x11, x12, x15, x16, x17, x18 => S167_0_0 α x10 x11 x12 x15 x16 x17 x18 (R167_0_0 α x10 k1 k2 n) k1 k2
noncomputable def L167_0_0 (α : Type) (x10 : Int) (k1 : Int → Int → Option α) (k2 : Int → Int → Bool → Int → Int → Int → Int → Option α) (x11 x12 x15 x16 x17 x18 : Int) : Option α := R167_0_0 α x10 k1 k2 fuel x11 x12 x15 x16 x17 x18
abbrev TL167_0_0 : Type 1 := (α : Type) → Int → (Int → Int → Option α) → (Int → Int → Bool → Int → Int → Int → Int → Option α) → Int → Int → Int → Int → Int → Int → Option α
def F167_0_0 (v : TL167_0_0) (α : Type) (K : Exit → St → Option α) : Int → Int → Int → Int → Int → Int → Int → Int → Int → Option α := fun x10 x11 x12 x13 x14 x15 x16 x17 x18 => v α x10 (fun (y1 : Int) (y2 : Int) => u167_0_1 (K .ret) y1 y2) (fun (y1 : Int) (y2 : Int) (y3 : Bool) (y4 : Int) (y5 : Int) (y6 : Int) (y7 : Int) => u167_0_2 (K (.exit 0)) x10 y1 y2 y3 x13 x14 y4 y5 y6 y7) x11 x12 x15 x16 x17 x18
theorem r167_0_0g (vf91_0 : Tf91_0) (vf167_1 : Tf167_1) (vf171_0 : Tf171_0)  (α : Type) (K : Exit → St → Option α) (Kn : St → Option α) (x10 x11 x12 x13 x14 x15 x16 x17 x18 : Int) : u167_0_0 (fun σ => runM Tryz.prog (E167_0g vf91_0 vf167_1 vf171_0) sh167 (c167_0_43g ) (thenK (fun σ => tidyK td167_43 σ Kn) K) σ) x10 x11 x12 x13 x14 x15 x16 x17 x18 = S167_0_0g vf171_0 α x10 x11 x12 x15 x16 x17 x18 (fun x11 x12 x15 x16 x17 x18 => u167_0_0 Kn x10 x11 x12 x13 x14 x15 x16 x17 x18) (fun (y1 : Int) (y2 : Int) => u167_0_1 (K .ret) y1 y2) (fun (y1 : Int) (y2 : Int) (y3 : Bool) (y4 : Int) (y5 : Int) (y6 : Int) (y7 : Int) => u167_0_2 (K (.exit 0)) x10 y1 y2 y3 x13 x14 y4 y5 y6 y7) := by kernel_rfl
theorem r167_0_0 (α : Type) (K : Exit → St → Option α) (Kn : St → Option α) (x10 x11 x12 x13 x14 x15 x16 x17 x18 : Int) : u167_0_0 (fun σ => runM Tryz.prog E167_0 sh167 c167_0_43 (thenK (fun σ => tidyK td167_43 σ Kn) K) σ) x10 x11 x12 x13 x14 x15 x16 x17 x18 = S167_0_0 α x10 x11 x12 x15 x16 x17 x18 (fun x11 x12 x15 x16 x17 x18 => u167_0_0 Kn x10 x11 x12 x13 x14 x15 x16 x17 x18) (fun (y1 : Int) (y2 : Int) => u167_0_1 (K .ret) y1 y2) (fun (y1 : Int) (y2 : Int) (y3 : Bool) (y4 : Int) (y5 : Int) (y6 : Int) (y7 : Int) => u167_0_2 (K (.exit 0)) x10 y1 y2 y3 x13 x14 y4 y5 y6 y7) := r167_0_0g f91_0 f167_1 f171_0 α K Kn x10 x11 x12 x13 x14 x15 x16 x17 x18
theorem t167_0_0 (α : Type) (K : Exit → St → Option α) : ∀ (n : Nat) (x10 x11 x12 x13 x14 x15 x16 x17 x18 : Int), R167_0_0 α x10 (fun (y1 : Int) (y2 : Int) => u167_0_1 (K .ret) y1 y2) (fun (y1 : Int) (y2 : Int) (y3 : Bool) (y4 : Int) (y5 : Int) (y6 : Int) (y7 : Int) => u167_0_2 (K (.exit 0)) x10 y1 y2 y3 x13 x14 y4 y5 y6 y7) n x11 x12 x15 x16 x17 x18 = u167_0_0 (loopT (runM Tryz.prog E167_0 sh167 c167_0_43) td167_43 K n) x10 x11 x12 x13 x14 x15 x16 x17 x18 := by
 intro n
 induction n with
 | zero => intros; rfl
 | succ n ih => intro x10 x11 x12 x13 x14 x15 x16 x17 x18; exact (congrArg (fun kn => S167_0_0 α x10 x11 x12 x15 x16 x17 x18 kn (fun (y1 : Int) (y2 : Int) => u167_0_1 (K .ret) y1 y2) (fun (y1 : Int) (y2 : Int) (y3 : Bool) (y4 : Int) (y5 : Int) (y6 : Int) (y7 : Int) => u167_0_2 (K (.exit 0)) x10 y1 y2 y3 x13 x14 y4 y5 y6 y7)) (funext fun x11 => funext fun x12 => funext fun x15 => funext fun x16 => funext fun x17 => funext fun x18 => ih x10 x11 x12 x13 x14 x15 x16 x17 x18)).trans (r167_0_0 α K (loopT (runM Tryz.prog E167_0 sh167 c167_0_43) td167_43 K n) x10 x11 x12 x13 x14 x15 x16 x17 x18).symm
theorem m167_0_0 : ∀ (α : Type) (K : Exit → St → Option α), F167_0_0 L167_0_0 α K = p167_0_0.unc fun σ => loopT (runM Tryz.prog E167_0 sh167 c167_0_43) td167_43 K fuel σ := fun α K => funext fun x10 => funext fun x11 => funext fun x12 => funext fun x13 => funext fun x14 => funext fun x15 => funext fun x16 => funext fun x17 => funext fun x18 => t167_0_0 α K fuel x10 x11 x12 x13 x14 x15 x16 x17 x18
abbrev Tf167_0 : Type 1 := (α : Type) → Int → (Int → Int → Option α) → Option α
def f167_0g (vL167_0_0 : TL167_0_0) (vf167_1 : Tf167_1) (vf171_0 : Tf171_0) (vf91_0 : Tf91_0) (α : Type) (x1 : Int) (k1 : Int → Int → Option α) : Option α :=
 vf91_0 α x1 4194304
 (fun x2 => cK (decide (2097152 ≤ x2))
 (vf167_1 α (w64 (x2 - 2097152))
 (fun x3 x4 => k1 (w64 (0 - x3)) (w64 (0 - x4))))
 (cK (decide (1048576 ≤ x2))
 (vf167_1 α (w64 (x2 - 1048576))
 (fun x5 x6 => k1 (w64 (0 - x6)) x5))
 (cK (decide (524288 < x2))
 (vf167_1 α (w64 (1048576 - x2))
 (fun x7 x8 => k1 x8 x7))
 (vf171_0 α 2251799813685248
 (fun x9 => cK (x2 == 0)
 (k1 67108864 0)
 (vL167_0_0 α x2
 (fun x21 x22 => k1 x21 x22)
 (fun x23 x24 x25 x26 x27 x28 x29 => k1 x28 x29) 0 524288 67108864 0 x9 x9))))))
noncomputable def f167_0 (α : Type) (x1 : Int) (k1 : Int → Int → Option α) : Option α := f167_0g L167_0_0 f167_1 f171_0 f91_0 α x1 k1
def pa167_0 : PT (List DV) := pA [pV false [(dI .i64)]]
def Fn167_0 (v : Tf167_0) (α : Type) (k : List RV → Option α) : Int → Option α := fun x1 => v α x1 (fun (y1 : Int) (y2 : Int) => ur167_0_0 k y1 y2)
noncomputable def cm167_0g (vL167_0_0 : TL167_0_0) : MCode := (.seq (.region r167_2 [] (tO [0, 2])) (.seq (.region r167_4 [] (tO [0, 2])) (.seq (.seq (.region r167_7 [] (tO [0, 2, 19])) (.cond (.tmp 19) (.seq (.region r167_10 [] (tO [2, 3])) (.seq (.region r167_12 [] (tO [2])) .ret)) .skip)) (.seq (.seq (.region r167_15 [] (tO [0, 2, 31])) (.cond (.tmp 31) (.seq (.region r167_18 [] (tO [2, 4])) (.seq (.region r167_20 [] (tO [2])) .ret)) .skip)) (.seq (.seq (.region r167_23 [] (tO [0, 2, 42])) (.cond (.tmp 42) (.seq (.region r167_26 [] (tO [2, 5])) (.seq (.region r167_28 [] (tO [2])) .ret)) .skip)) (.seq (.region r167_30 [] (tO [0, 2, 6])) (.seq (.region r167_32 [] (tO [0, 2, 6, 7, 8])) (.seq (.region r167_34 [] (tO [0, 2, 7, 8, 9, 10])) (.seq (.seq (.region r167_37 [] (tO [0, 2, 7, 8, 9, 10, 57])) (.cond (.tmp 57) (.seq (.region r167_40 [] (tO [2])) .ret) .skip)) (.seq (.block 0 (.loop td167_43 [⟨p167_0_0, F167_0_0 vL167_0_0⟩] c167_0_43)) (.seq (.region r167_69 [] (tO [2])) .ret)))))))))))
noncomputable def cm167_0 : MCode := cm167_0g L167_0_0
theorem gm167_0 : cm167_0.Good Tryz.prog E167_0 sh167 := ⟨trivial, ⟨trivial, ⟨⟨trivial, ⟨⟨trivial, ⟨trivial, trivial⟩⟩, trivial⟩⟩, ⟨⟨trivial, ⟨⟨trivial, ⟨trivial, trivial⟩⟩, trivial⟩⟩, ⟨⟨trivial, ⟨⟨trivial, ⟨trivial, trivial⟩⟩, trivial⟩⟩, ⟨trivial, ⟨trivial, ⟨trivial, ⟨⟨trivial, ⟨⟨trivial, trivial⟩, trivial⟩⟩, ⟨⟨g167_0_43, m167_0_0, trivial⟩, ⟨trivial, trivial⟩⟩⟩⟩⟩⟩⟩⟩⟩⟩⟩
theorem fm167_0g (vf91_0 : Tf91_0) (vf167_1 : Tf167_1) (vf171_0 : Tf171_0) (vL167_0_0 : TL167_0_0) (α : Type) (k : List RV → Option α) : Fn167_0 (f167_0g vL167_0_0 vf167_1 vf171_0 vf91_0) α k = pa167_0.unc fun ds => fnM Tryz.prog (E167_0g vf91_0 vf167_1 vf171_0) sh167 (cm167_0g vL167_0_0) rs167 k ds := by kernel_rfl
theorem fm167_0 : ∀ (α : Type) (k : List RV → Option α), Fn167_0 f167_0 α k = pa167_0.unc fun ds => fnM Tryz.prog E167_0 sh167 cm167_0 rs167 k ds := fm167_0g f91_0 f167_1 f171_0 L167_0_0
theorem io167_0 : InstOk Tryz.prog 167 nt167 ⟨pa167_0, Fn167_0 f167_0⟩ := inst_ok eo167_0 followsTry is167 ⟨⟨sh167, cm167_0, by kernel_rfl, gm167_0, fm167_0⟩⟩
abbrev nt77 : Nat := 10
def sh77 : List (Nat × List Sh) := []
def r77_2 : List AOper := [oO 4 (.mv (kI 0))]
def r77_4 : List AOper := [oM 5 0, oO 6 (.pure (oB (.unOp .neg 3 (.tmp 5)) 3)), oM 7 1, oO 8 (.call 76 [(.tmp 6), (.tmp 7)]), oO 9 (.pure (oB (.unOp .neg 3 (.tmp 8)) 3)), oM 4 9]
def tr77 : List (Nat × Tidy) := [tT 0 [0, 1], tT 1 [4]]
def tl77 : List (Nat × Tidy) := []
def rs77 : List AResV := [.tmp 4]
def pr77_0_0 : PT (List RV) := pRs [pR false [rD (dI .i64)]]
def ur77_0_0 {β : Type} (g : List RV → β) : Int → β := pr77_0_0.unc g
def E77_0g (vf76_0 : Tf76_0) : EnvK := EnvK.of [⟨76, nt76, [⟨pa76_0, Fn76_0 vf76_0⟩]⟩] noSeq
noncomputable def E77_0 : EnvK := E77_0g f76_0
theorem eo77_0 : E77_0.Ok Tryz.prog := EnvK.of_ok noSeq_ok ⟨⟨io76_0, trivial⟩, trivial⟩
abbrev Tf77_0 : Type 1 := (α : Type) → Int → Int → (Int → Option α) → Option α
def f77_0g (vf76_0 : Tf76_0) (α : Type) (x1 x2 : Int) (k1 : Int → Option α) : Option α :=
 vf76_0 α (w64 (0 - x1)) x2
 (fun x3 => k1 (w64 (0 - x3)))
noncomputable def f77_0 (α : Type) (x1 x2 : Int) (k1 : Int → Option α) : Option α := f77_0g f76_0 α x1 x2 k1
def pa77_0 : PT (List DV) := pA [pV false [(dI .i64)], pV false [(dI .i64)]]
def Fn77_0 (v : Tf77_0) (α : Type) (k : List RV → Option α) : Int → Int → Option α := fun x1 x2 => v α x1 x2 (fun (y1 : Int) => ur77_0_0 k y1)
noncomputable def cm77_0g  : MCode := (.seq (.region r77_2 [] (tO [0, 1])) (.seq (.region r77_4 [] (tO [4])) .ret))
noncomputable def cm77_0 : MCode := cm77_0g 
theorem gm77_0 : cm77_0.Good Tryz.prog E77_0 sh77 := ⟨trivial, ⟨trivial, trivial⟩⟩
theorem fm77_0g (vf76_0 : Tf76_0)  (α : Type) (k : List RV → Option α) : Fn77_0 (f77_0g vf76_0) α k = pa77_0.unc fun ds => fnM Tryz.prog (E77_0g vf76_0) sh77 (cm77_0g ) rs77 k ds := by kernel_rfl
theorem fm77_0 : ∀ (α : Type) (k : List RV → Option α), Fn77_0 f77_0 α k = pa77_0.unc fun ds => fnM Tryz.prog E77_0 sh77 cm77_0 rs77 k ds := fm77_0g f76_0
theorem is77 : FnIs Tryz.prog 77 nt77 tr77 tl77 cm77_0.erase rs77 := ⟨Tryz.f77, Tryz.func77, rfl, by kernel_rfl, by kernel_rfl, by kernel_rfl⟩
theorem io77_0 : InstOk Tryz.prog 77 nt77 ⟨pa77_0, Fn77_0 f77_0⟩ := inst_ok eo77_0 followsTry is77 ⟨⟨sh77, cm77_0, by kernel_rfl, gm77_0, fm77_0⟩⟩
abbrev nt13 : Nat := 20
def sh13 : List (Nat × List Sh) := [(16, [.int .i64]), (17, [.int .i64])]
def r13_2 : List AOper := [oO 2 (.mv (kI 0))]
def r13_5 : List AOper := [oM 4 0, oO 5 (.len (.tmp 4)), oO 6 (.call 56 [(.tmp 5)]), oO 7 (.pure (oB (.unOp .not 4 (.tmp 6)) 4))]
def r13_8 : List AOper := [oO 2 (.mv (kI 12))]
def r13_11 : List AOper := [oO 3 (.mv (kI 0))]
def td13_13 : Option Tidy := (tO [0, 3])
def r13_16 : List AOper := [oM 8 3, oM 9 0, oO 10 (.len (.tmp 9)), oO 11 (.bin .lss 3 (.tmp 8) (.tmp 10))]
def r13_21 : List AOper := [oM 14 0, oM 15 3, oO 16 (.iaddr 1 none (.tmp 14) (.tmp 15)), oO 17 (.load false 1 (.tmp 16)), oO 18 (.call 57 [(.tmp 17), (kI (-1000)), (kI 1000)]), oO 19 (.pure (oB (.unOp .not 4 (.tmp 18)) 4))]
def r13_24 : List AOper := [oO 2 (.mv (kI 2))]
def r13_25 : List AOper := [oM 12 3, oO 13 (.bin .add 3 (.tmp 12) (kI 1)), oM 3 13]
def r13_27 : List AOper := [oO 2 (.mv (kI 0))]
def tr13 : List (Nat × Tidy) := [tT 0 [0], tT 1 [0, 7], tT 2 [2], tT 3 [0, 3], tT 4 [0, 3, 11], tT 6 [0, 3, 19], tT 7 [2], tT 5 [0, 3], tT 8 [2]]
def tl13 : List (Nat × Tidy) := [tT 4 [0, 3]]
def rs13 : List AResV := [.tmp 2]
def p13_0_0 : PT St := pS [sl 0 (aV false [(cD dL)]), sl 3 (aV false [(cD (dI .i64))])] []
def u13_0_0 {β : Type} (g : St → β) : Rows → Int → β := p13_0_0.unc g
def p13_0_1 : PT St := pS [sl 2 (aV false [(cD (dI .i64))])] []
def u13_0_1 {β : Type} (g : St → β) : Int → β := p13_0_1.unc g
def p13_0_2 : PT St := pS [sl 0 (aV false [(cD dL)]), sl 3 (aV false [(cD (dI .i64))]), sl 11 (aV false [(cD dB)])] []
def u13_0_2 {β : Type} (g : St → β) : Rows → Int → Bool → β := p13_0_2.unc g
def pr13_0_0 : PT (List RV) := pRs [pR false [rD (dI .i64)]]
def ur13_0_0 {β : Type} (g : List RV → β) : Int → β := pr13_0_0.unc g
def E13_0g (vf56_0 : Tf56_0) (vf57_0 : Tf57_0) : EnvK := EnvK.of [⟨56, nt56, [⟨pa56_0, Fn56_0 vf56_0⟩]⟩, ⟨57, nt57, [⟨pa57_0, Fn57_0 vf57_0⟩]⟩] noSeq
noncomputable def E13_0 : EnvK := E13_0g f56_0 f57_0
theorem eo13_0 : E13_0.Ok Tryz.prog := EnvK.of_ok noSeq_ok ⟨⟨io56_0, trivial⟩, ⟨io57_0, trivial⟩, trivial⟩
noncomputable def c13_0_13g  : MCode := (.seq (.seq (.region r13_16 [] (tO [0, 3, 11])) (.cond (.tmp 11) .skip (.exit 0))) (.seq (.block 1 (.seq (.region r13_21 [] (tO [0, 3, 19])) (.cond (.tmp 19) (.seq (.region r13_24 [] (tO [2])) .ret) .skip))) (.region r13_25 [] (tO [0, 3]))))
noncomputable def c13_0_13 : MCode := c13_0_13g 
theorem g13_0_13 : c13_0_13.Good Tryz.prog E13_0 sh13 := ⟨⟨trivial, ⟨trivial, trivial⟩⟩, ⟨⟨trivial, ⟨⟨trivial, trivial⟩, trivial⟩⟩, trivial⟩⟩
--CODE 13 0
def S13_0_0g (vf57_0 : Tf57_0) (α : Type) (x3 : Rows) (x4 : Int) (kn : Int → Option α) (k1 : Option α) (k2 : Int → Bool → Option α) : Option α :=
 cK (decide (x4 < ((List.length x3 : Nat) : Int)))
 (rowK x3 x4 [.int .i64]
 (fun x6 => vf57_0 α x6 (-1000) 1000
 (fun x7 => cK (!x7)
 (k1)
 (kn (w64 (x4 + 1))))))
 (k2 x4 (decide (x4 < ((List.length x3 : Nat) : Int))))
noncomputable def S13_0_0 (α : Type) (x3 : Rows) (x4 : Int) (kn : Int → Option α) (k1 : Option α) (k2 : Int → Bool → Option α) : Option α := S13_0_0g f57_0 α x3 x4 kn k1 k2
noncomputable def R13_0_0 (α : Type) (x3 : Rows) (k1 : Option α) (k2 : Int → Bool → Option α) : Nat → Int → Option α
 | 0, _ => none
 | n + 1, x4 => S13_0_0 α x3 x4 (R13_0_0 α x3 k1 k2 n) k1 k2
noncomputable def L13_0_0 (α : Type) (x3 : Rows) (k1 : Option α) (k2 : Int → Bool → Option α) (x4 : Int) : Option α := R13_0_0 α x3 k1 k2 fuel x4
abbrev TL13_0_0 : Type 1 := (α : Type) → Rows → (Option α) → (Int → Bool → Option α) → Int → Option α
def F13_0_0 (v : TL13_0_0) (α : Type) (K : Exit → St → Option α) : Rows → Int → Option α := fun x3 x4 => v α x3 (u13_0_1 (K .ret) 2) (fun (y1 : Int) (y2 : Bool) => u13_0_2 (K (.exit 0)) x3 y1 y2) x4
theorem r13_0_0g (vf56_0 : Tf56_0) (vf57_0 : Tf57_0)  (α : Type) (K : Exit → St → Option α) (Kn : St → Option α) (x3 : Rows) (x4 : Int) : u13_0_0 (fun σ => runM Tryz.prog (E13_0g vf56_0 vf57_0) sh13 (c13_0_13g ) (thenK (fun σ => tidyK td13_13 σ Kn) K) σ) x3 x4 = S13_0_0g vf57_0 α x3 x4 (fun x4 => u13_0_0 Kn x3 x4) (u13_0_1 (K .ret) 2) (fun (y1 : Int) (y2 : Bool) => u13_0_2 (K (.exit 0)) x3 y1 y2) := by kernel_rfl
theorem r13_0_0 (α : Type) (K : Exit → St → Option α) (Kn : St → Option α) (x3 : Rows) (x4 : Int) : u13_0_0 (fun σ => runM Tryz.prog E13_0 sh13 c13_0_13 (thenK (fun σ => tidyK td13_13 σ Kn) K) σ) x3 x4 = S13_0_0 α x3 x4 (fun x4 => u13_0_0 Kn x3 x4) (u13_0_1 (K .ret) 2) (fun (y1 : Int) (y2 : Bool) => u13_0_2 (K (.exit 0)) x3 y1 y2) := r13_0_0g f56_0 f57_0 α K Kn x3 x4
theorem t13_0_0 (α : Type) (K : Exit → St → Option α) : ∀ (n : Nat) (x3 : Rows) (x4 : Int), R13_0_0 α x3 (u13_0_1 (K .ret) 2) (fun (y1 : Int) (y2 : Bool) => u13_0_2 (K (.exit 0)) x3 y1 y2) n x4 = u13_0_0 (loopT (runM Tryz.prog E13_0 sh13 c13_0_13) td13_13 K n) x3 x4 := by
 intro n
 induction n with
 | zero => intros; rfl
 | succ n ih => intro x3 x4; exact (congrArg (fun kn => S13_0_0 α x3 x4 kn (u13_0_1 (K .ret) 2) (fun (y1 : Int) (y2 : Bool) => u13_0_2 (K (.exit 0)) x3 y1 y2)) (funext fun x4 => ih x3 x4)).trans (r13_0_0 α K (loopT (runM Tryz.prog E13_0 sh13 c13_0_13) td13_13 K n) x3 x4).symm
theorem m13_0_0 : ∀ (α : Type) (K : Exit → St → Option α), F13_0_0 L13_0_0 α K = p13_0_0.unc fun σ => loopT (runM Tryz.prog E13_0 sh13 c13_0_13) td13_13 K fuel σ := fun α K => funext fun x3 => funext fun x4 => t13_0_0 α K fuel x3 x4
abbrev Tf13_0 : Type 1 := (α : Type) → Rows → (Int → Option α) → Option α
def f13_0g (vL13_0_0 : TL13_0_0) (vf56_0 : Tf56_0) (α : Type) (x1 : Rows) (k1 : Int → Option α) : Option α :=
 vf56_0 α ((List.length x1 : Nat) : Int)
 (fun x2 => cK (!x2)
 (k1 12)
 (vL13_0_0 α x1
 (k1 2)
 (fun x8 x9 => k1 0) 0))
noncomputable def f13_0 (α : Type) (x1 : Rows) (k1 : Int → Option α) : Option α := f13_0g L13_0_0 f56_0 α x1 k1
def pa13_0 : PT (List DV) := pA [pV false [dL]]
def Fn13_0 (v : Tf13_0) (α : Type) (k : List RV → Option α) : Rows → Option α := fun x1 => v α x1 (fun (y1 : Int) => ur13_0_0 k y1)
noncomputable def cm13_0g (vL13_0_0 : TL13_0_0) : MCode := (.seq (.region r13_2 [] (tO [0])) (.seq (.seq (.region r13_5 [] (tO [0, 7])) (.cond (.tmp 7) (.seq (.region r13_8 [] (tO [2])) .ret) .skip)) (.seq (.seq (.region r13_11 [] (tO [0, 3])) (.block 0 (.loop td13_13 [⟨p13_0_0, F13_0_0 vL13_0_0⟩] c13_0_13))) (.seq (.region r13_27 [] (tO [2])) .ret))))
noncomputable def cm13_0 : MCode := cm13_0g L13_0_0
theorem gm13_0 : cm13_0.Good Tryz.prog E13_0 sh13 := ⟨trivial, ⟨⟨trivial, ⟨⟨trivial, trivial⟩, trivial⟩⟩, ⟨⟨trivial, ⟨g13_0_13, m13_0_0, trivial⟩⟩, ⟨trivial, trivial⟩⟩⟩⟩
theorem fm13_0g (vf56_0 : Tf56_0) (vf57_0 : Tf57_0) (vL13_0_0 : TL13_0_0) (α : Type) (k : List RV → Option α) : Fn13_0 (f13_0g vL13_0_0 vf56_0) α k = pa13_0.unc fun ds => fnM Tryz.prog (E13_0g vf56_0 vf57_0) sh13 (cm13_0g vL13_0_0) rs13 k ds := by kernel_rfl
theorem fm13_0 : ∀ (α : Type) (k : List RV → Option α), Fn13_0 f13_0 α k = pa13_0.unc fun ds => fnM Tryz.prog E13_0 sh13 cm13_0 rs13 k ds := fm13_0g f56_0 f57_0 L13_0_0
theorem is13 : FnIs Tryz.prog 13 nt13 tr13 tl13 cm13_0.erase rs13 := ⟨Tryz.f13, Tryz.func13, rfl, by kernel_rfl, by kernel_rfl, by kernel_rfl⟩
theorem io13_0 : InstOk Tryz.prog 13 nt13 ⟨pa13_0, Fn13_0 f13_0⟩ := inst_ok eo13_0 followsTry is13 ⟨⟨sh13, cm13_0, by kernel_rfl, gm13_0, fm13_0⟩⟩
abbrev nt154 : Nat := 17
def sh154 : List (Nat × List Sh) := [(7, [.int .i64, .int .i64]), (9, [.int .i64, .int .i64]), (12, [.int .i64]), (14, [.int .i64])]
def r154_2 : List AOper := [oO 2 (.box (.tmp 0)), oO 3 (.box (.tmp 1)), oO 4 (.alloc [(cI 0), (cI 0), (cI 0)]), oO 5 (.mv (kI 0))]
def r154_4 : List AOper := [oO 6 (.faddr 0 (.tmp 2)), oO 7 (.load true 2 (.tmp 6)), oO 8 (.faddr 0 (.tmp 3)), oO 9 (.load true 2 (.tmp 8)), oO 10 (.call 155 [(.tmp 7), (.tmp 9)]), oO 11 (.faddr 2 (.tmp 2)), oO 12 (.load false 1 (.tmp 11)), oO 13 (.faddr 2 (.tmp 3)), oO 14 (.load false 1 (.tmp 13)), oO 15 (.bin .add 3 (.tmp 12) (.tmp 14)), oO 16 (.build [(cI 0), (cI 0), (cI 0)] [(0, 2, (.tmp 10)), (2, 1, (.tmp 15))]), oD (.store 3 (.tmp 4) (.tmp 16)), oO 5 (.mv (kI 0))]
def tr154 : List (Nat × Tidy) := [tT 0 [2, 3, 4], tT 1 [4, 5]]
def tl154 : List (Nat × Tidy) := []
def rs154 : List AResV := [.cell 4 true 3, .tmp 5]
def pr154_0_0 : PT (List RV) := pRs [pR true [rD (dI .i64), rD (dI .i64), rD (dI .i64)], pR false [rD (dI .i64)]]
def ur154_0_0 {β : Type} (g : List RV → β) : Int → Int → Int → Int → β := pr154_0_0.unc g
def E154_0g (vf155_0 : Tf155_0) : EnvK := EnvK.of [⟨155, nt155, [⟨pa155_0, Fn155_0 vf155_0⟩]⟩] noSeq
noncomputable def E154_0 : EnvK := E154_0g f155_0
theorem eo154_0 : E154_0.Ok Tryz.prog := EnvK.of_ok noSeq_ok ⟨⟨io155_0, trivial⟩, trivial⟩
abbrev Tf154_0 : Type 1 := (α : Type) → Int → Int → Int → Int → Int → Int → (Int → Int → Int → Option α) → Option α
def f154_0g (vf155_0 : Tf155_0) (α : Type) (x1 x2 x3 x4 x5 x6 : Int) (k1 : Int → Int → Int → Option α) : Option α :=
 vf155_0 α x1 x2 x4 x5
 (fun x7 x8 => k1 x7 x8 (w64 (x3 + x6)))
noncomputable def f154_0 (α : Type) (x1 x2 x3 x4 x5 x6 : Int) (k1 : Int → Int → Int → Option α) : Option α := f154_0g f155_0 α x1 x2 x3 x4 x5 x6 k1
def pa154_0 : PT (List DV) := pA [pV true [(dI .i64), (dI .i64), (dI .i64)], pV true [(dI .i64), (dI .i64), (dI .i64)]]
def Fn154_0 (v : Tf154_0) (α : Type) (k : List RV → Option α) : Int → Int → Int → Int → Int → Int → Option α := fun x1 x2 x3 x4 x5 x6 => v α x1 x2 x3 x4 x5 x6 (fun (y1 : Int) (y2 : Int) (y3 : Int) => ur154_0_0 k y1 y2 y3 0)
noncomputable def cm154_0g  : MCode := (.seq (.region r154_2 [] (tO [2, 3, 4])) (.seq (.region r154_4 [(4, 6), (4, 8)] (tO [4, 5])) .ret))
noncomputable def cm154_0 : MCode := cm154_0g 
theorem gm154_0 : cm154_0.Good Tryz.prog E154_0 sh154 := ⟨trivial, ⟨trivial, trivial⟩⟩
theorem fm154_0g (vf155_0 : Tf155_0)  (α : Type) (k : List RV → Option α) : Fn154_0 (f154_0g vf155_0) α k = pa154_0.unc fun ds => fnM Tryz.prog (E154_0g vf155_0) sh154 (cm154_0g ) rs154 k ds := by kernel_rfl
theorem fm154_0 : ∀ (α : Type) (k : List RV → Option α), Fn154_0 f154_0 α k = pa154_0.unc fun ds => fnM Tryz.prog E154_0 sh154 cm154_0 rs154 k ds := fm154_0g f155_0
theorem is154 : FnIs Tryz.prog 154 nt154 tr154 tl154 cm154_0.erase rs154 := ⟨Tryz.f154, Tryz.func154, rfl, by kernel_rfl, by kernel_rfl, by kernel_rfl⟩
theorem io154_0 : InstOk Tryz.prog 154 nt154 ⟨pa154_0, Fn154_0 f154_0⟩ := inst_ok eo154_0 followsTry is154 ⟨⟨sh154, cm154_0, by kernel_rfl, gm154_0, fm154_0⟩⟩
abbrev nt151 : Nat := 15
def sh151 : List (Nat × List Sh) := []
def r151_2 : List AOper := [oO 4 (.mv (.const (.bool false)))]
def r151_5 : List AOper := [oM 5 1, oO 6 (.bin .eql 3 (.tmp 5) (kI 0))]
def r151_7 : List AOper := [oM 7 0, oO 8 (.call 129 [(.tmp 7)]), oM 0 8]
def r151_9 : List AOper := [oM 9 1, oO 10 (.bin .lss 3 (.tmp 9) (kI 0))]
def r151_11 : List AOper := [oM 11 0, oO 12 (.pure (oB (.unOp .neg 117 (.tmp 11)) 117)), oM 0 12]
def r151_13 : List AOper := [oM 13 0, oO 14 (.bin .gtr 117 (.tmp 13) (.const (.float Go.FloatKind.f64 9218868437227405311))), oM 4 14]
def tr151 : List (Nat × Tidy) := [tT 0 [0, 1], tT 1 [0, 1, 6], tT 2 [0], tT 3 [0, 10], tT 4 [0], tT 5 [4]]
def tl151 : List (Nat × Tidy) := []
def rs151 : List AResV := [.tmp 4]
def pr151_0_0 : PT (List RV) := pRs [pR false [rD dB]]
def ur151_0_0 {β : Type} (g : List RV → β) : Bool → β := pr151_0_0.unc g
def E151_0g (vf129_0 : Tf129_0) : EnvK := EnvK.of [⟨129, nt129, [⟨pa129_0, Fn129_0 vf129_0⟩]⟩] noSeq
noncomputable def E151_0 : EnvK := E151_0g f129_0
theorem eo151_0 : E151_0.Ok Tryz.prog := EnvK.of_ok noSeq_ok ⟨⟨io129_0, trivial⟩, trivial⟩
abbrev Tf151_0 : Type 1 := (α : Type) → Nat → Int → (Bool → Option α) → Option α
def f151_0g (vf129_0 : Tf129_0) (α : Type) (x1 : Nat) (x2 : Int) (k1 : Bool → Option α) : Option α :=
 cK (x2 == 0)
 (vf129_0 α x1
 (fun x3 => k1 ((FloatKind.format .f64).order x3 9218868437227405311 == some Ordering.gt)))
 (cK (decide (x2 < 0))
 (k1 ((FloatKind.format .f64).order (Op.negFloat .f64 x1) 9218868437227405311 == some Ordering.gt))
 (k1 ((FloatKind.format .f64).order x1 9218868437227405311 == some Ordering.gt)))
noncomputable def f151_0 (α : Type) (x1 : Nat) (x2 : Int) (k1 : Bool → Option α) : Option α := f151_0g f129_0 α x1 x2 k1
def pa151_0 : PT (List DV) := pA [pV false [(dF .f64)], pV false [(dI .i64)]]
def Fn151_0 (v : Tf151_0) (α : Type) (k : List RV → Option α) : Nat → Int → Option α := fun x1 x2 => v α x1 x2 (fun (y1 : Bool) => ur151_0_0 k y1)
noncomputable def cm151_0g  : MCode := (.seq (.region r151_2 [] (tO [0, 1])) (.seq (.seq (.region r151_5 [] (tO [0, 1, 6])) (.cond (.tmp 6) (.region r151_7 [] (tO [0])) (.seq (.region r151_9 [] (tO [0, 10])) (.cond (.tmp 10) (.region r151_11 [] (tO [0])) .skip)))) (.seq (.region r151_13 [] (tO [4])) .ret)))
noncomputable def cm151_0 : MCode := cm151_0g 
theorem gm151_0 : cm151_0.Good Tryz.prog E151_0 sh151 := ⟨trivial, ⟨⟨trivial, ⟨trivial, ⟨trivial, ⟨trivial, trivial⟩⟩⟩⟩, ⟨trivial, trivial⟩⟩⟩
theorem fm151_0g (vf129_0 : Tf129_0)  (α : Type) (k : List RV → Option α) : Fn151_0 (f151_0g vf129_0) α k = pa151_0.unc fun ds => fnM Tryz.prog (E151_0g vf129_0) sh151 (cm151_0g ) rs151 k ds := by kernel_rfl
theorem fm151_0 : ∀ (α : Type) (k : List RV → Option α), Fn151_0 f151_0 α k = pa151_0.unc fun ds => fnM Tryz.prog E151_0 sh151 cm151_0 rs151 k ds := fm151_0g f129_0
theorem is151 : FnIs Tryz.prog 151 nt151 tr151 tl151 cm151_0.erase rs151 := ⟨Tryz.f151, Tryz.func151, rfl, by kernel_rfl, by kernel_rfl, by kernel_rfl⟩
theorem io151_0 : InstOk Tryz.prog 151 nt151 ⟨pa151_0, Fn151_0 f151_0⟩ := inst_ok eo151_0 followsTry is151 ⟨⟨sh151, cm151_0, by kernel_rfl, gm151_0, fm151_0⟩⟩
abbrev nt117 : Nat := 17
def sh117 : List (Nat × List Sh) := []
def r117_2 : List AOper := [oO 4 (.mv (kI 0)), oO 5 (.mv (.const (.bool false)))]
def r117_4 : List AOper := [oM 6 0, oO 7 (.bin .mul 3 (kI 2) (.tmp 6)), oM 8 1, oO 9 (.bin .add 3 (.tmp 7) (.tmp 8)), oM 10 1, oO 11 (.bin .mul 3 (kI 2) (.tmp 10)), oO 12 (.call 139 [(.tmp 9), (.tmp 11)]), oM 13 0, oM 14 1, oO 15 (.bin .rem 3 (.tmp 13) (.tmp 14)), oO 16 (.bin .neq 3 (.tmp 15) (kI 0)), oM 4 12, oM 5 16]
def tr117 : List (Nat × Tidy) := [tT 0 [0, 1], tT 1 [4, 5]]
def tl117 : List (Nat × Tidy) := []
def rs117 : List AResV := [.tmp 4, .tmp 5]
def pr117_0_0 : PT (List RV) := pRs [pR false [rD (dI .i64)], pR false [rD dB]]
def ur117_0_0 {β : Type} (g : List RV → β) : Int → Bool → β := pr117_0_0.unc g
def E117_0g (vf139_0 : Tf139_0) : EnvK := EnvK.of [⟨139, nt139, [⟨pa139_0, Fn139_0 vf139_0⟩]⟩] noSeq
noncomputable def E117_0 : EnvK := E117_0g f139_0
theorem eo117_0 : E117_0.Ok Tryz.prog := EnvK.of_ok noSeq_ok ⟨⟨io139_0, trivial⟩, trivial⟩
abbrev Tf117_0 : Type 1 := (α : Type) → Int → Int → (Int → Bool → Option α) → Option α
def f117_0g (vf139_0 : Tf139_0) (α : Type) (x1 x2 : Int) (k1 : Int → Bool → Option α) : Option α :=
 vf139_0 α (w64 ((w64 (2 * x1)) + x2)) (w64 (2 * x2))
 (fun x3 => gK (x2 != 0) (k1 x3 ((Int.tmod x1 x2) != 0)))
noncomputable def f117_0 (α : Type) (x1 x2 : Int) (k1 : Int → Bool → Option α) : Option α := f117_0g f139_0 α x1 x2 k1
def pa117_0 : PT (List DV) := pA [pV false [(dI .i64)], pV false [(dI .i64)]]
def Fn117_0 (v : Tf117_0) (α : Type) (k : List RV → Option α) : Int → Int → Option α := fun x1 x2 => v α x1 x2 (fun (y1 : Int) (y2 : Bool) => ur117_0_0 k y1 y2)
noncomputable def cm117_0g  : MCode := (.seq (.region r117_2 [] (tO [0, 1])) (.seq (.region r117_4 [] (tO [4, 5])) .ret))
noncomputable def cm117_0 : MCode := cm117_0g 
theorem gm117_0 : cm117_0.Good Tryz.prog E117_0 sh117 := ⟨trivial, ⟨trivial, trivial⟩⟩
theorem fm117_0g (vf139_0 : Tf139_0)  (α : Type) (k : List RV → Option α) : Fn117_0 (f117_0g vf139_0) α k = pa117_0.unc fun ds => fnM Tryz.prog (E117_0g vf139_0) sh117 (cm117_0g ) rs117 k ds := by kernel_rfl
theorem fm117_0 : ∀ (α : Type) (k : List RV → Option α), Fn117_0 f117_0 α k = pa117_0.unc fun ds => fnM Tryz.prog E117_0 sh117 cm117_0 rs117 k ds := fm117_0g f139_0
theorem is117 : FnIs Tryz.prog 117 nt117 tr117 tl117 cm117_0.erase rs117 := ⟨Tryz.f117, Tryz.func117, rfl, by kernel_rfl, by kernel_rfl, by kernel_rfl⟩
theorem io117_0 : InstOk Tryz.prog 117 nt117 ⟨pa117_0, Fn117_0 f117_0⟩ := inst_ok eo117_0 followsTry is117 ⟨⟨sh117, cm117_0, by kernel_rfl, gm117_0, fm117_0⟩⟩
abbrev nt118 : Nat := 10
def sh118 : List (Nat × List Sh) := []
def r118_2 : List AOper := [oO 4 (.mv (kI 0))]
def r118_4 : List AOper := [oM 5 0, oO 6 (.pure (oB (.unOp .neg 3 (.tmp 5)) 3)), oM 7 1, oO 8 (.call 139 [(.tmp 6), (.tmp 7)]), oO 9 (.pure (oB (.unOp .neg 3 (.tmp 8)) 3)), oM 4 9]
def tr118 : List (Nat × Tidy) := [tT 0 [0, 1], tT 1 [4]]
def tl118 : List (Nat × Tidy) := []
def rs118 : List AResV := [.tmp 4]
def pr118_0_0 : PT (List RV) := pRs [pR false [rD (dI .i64)]]
def ur118_0_0 {β : Type} (g : List RV → β) : Int → β := pr118_0_0.unc g
def E118_0g (vf139_0 : Tf139_0) : EnvK := EnvK.of [⟨139, nt139, [⟨pa139_0, Fn139_0 vf139_0⟩]⟩] noSeq
noncomputable def E118_0 : EnvK := E118_0g f139_0
theorem eo118_0 : E118_0.Ok Tryz.prog := EnvK.of_ok noSeq_ok ⟨⟨io139_0, trivial⟩, trivial⟩
abbrev Tf118_0 : Type 1 := (α : Type) → Int → Int → (Int → Option α) → Option α
def f118_0g (vf139_0 : Tf139_0) (α : Type) (x1 x2 : Int) (k1 : Int → Option α) : Option α :=
 vf139_0 α (w64 (0 - x1)) x2
 (fun x3 => k1 (w64 (0 - x3)))
noncomputable def f118_0 (α : Type) (x1 x2 : Int) (k1 : Int → Option α) : Option α := f118_0g f139_0 α x1 x2 k1
def pa118_0 : PT (List DV) := pA [pV false [(dI .i64)], pV false [(dI .i64)]]
def Fn118_0 (v : Tf118_0) (α : Type) (k : List RV → Option α) : Int → Int → Option α := fun x1 x2 => v α x1 x2 (fun (y1 : Int) => ur118_0_0 k y1)
noncomputable def cm118_0g  : MCode := (.seq (.region r118_2 [] (tO [0, 1])) (.seq (.region r118_4 [] (tO [4])) .ret))
noncomputable def cm118_0 : MCode := cm118_0g 
theorem gm118_0 : cm118_0.Good Tryz.prog E118_0 sh118 := ⟨trivial, ⟨trivial, trivial⟩⟩
theorem fm118_0g (vf139_0 : Tf139_0)  (α : Type) (k : List RV → Option α) : Fn118_0 (f118_0g vf139_0) α k = pa118_0.unc fun ds => fnM Tryz.prog (E118_0g vf139_0) sh118 (cm118_0g ) rs118 k ds := by kernel_rfl
theorem fm118_0 : ∀ (α : Type) (k : List RV → Option α), Fn118_0 f118_0 α k = pa118_0.unc fun ds => fnM Tryz.prog E118_0 sh118 cm118_0 rs118 k ds := fm118_0g f139_0
theorem is118 : FnIs Tryz.prog 118 nt118 tr118 tl118 cm118_0.erase rs118 := ⟨Tryz.f118, Tryz.func118, rfl, by kernel_rfl, by kernel_rfl, by kernel_rfl⟩
theorem io118_0 : InstOk Tryz.prog 118 nt118 ⟨pa118_0, Fn118_0 f118_0⟩ := inst_ok eo118_0 followsTry is118 ⟨⟨sh118, cm118_0, by kernel_rfl, gm118_0, fm118_0⟩⟩
abbrev nt137 : Nat := 10
def sh137 : List (Nat × List Sh) := []
def r137_2 : List AOper := [oO 4 (.mv (.const (.bool false)))]
def r137_4 : List AOper := [oM 5 0, oM 6 1, oO 7 (.pure (oB (.unOp .neg 3 (.tmp 6)) 3)), oM 8 1, oO 9 (.call 127 [(.tmp 5), (.tmp 7), (.tmp 8)]), oM 4 9]
def tr137 : List (Nat × Tidy) := [tT 0 [0, 1], tT 1 [4]]
def tl137 : List (Nat × Tidy) := []
def rs137 : List AResV := [.tmp 4]
def pr137_0_0 : PT (List RV) := pRs [pR false [rD dB]]
def ur137_0_0 {β : Type} (g : List RV → β) : Bool → β := pr137_0_0.unc g
def E137_0g (vf127_0 : Tf127_0) : EnvK := EnvK.of [⟨127, nt127, [⟨pa127_0, Fn127_0 vf127_0⟩]⟩] noSeq
noncomputable def E137_0 : EnvK := E137_0g f127_0
theorem eo137_0 : E137_0.Ok Tryz.prog := EnvK.of_ok noSeq_ok ⟨⟨io127_0, trivial⟩, trivial⟩
abbrev Tf137_0 : Type 1 := (α : Type) → Int → Int → (Bool → Option α) → Option α
def f137_0g (vf127_0 : Tf127_0) (α : Type) (x1 x2 : Int) (k1 : Bool → Option α) : Option α :=
 vf127_0 α x1 (w64 (0 - x2)) x2
 (fun x3 => k1 x3)
noncomputable def f137_0 (α : Type) (x1 x2 : Int) (k1 : Bool → Option α) : Option α := f137_0g f127_0 α x1 x2 k1
def pa137_0 : PT (List DV) := pA [pV false [(dI .i64)], pV false [(dI .i64)]]
def Fn137_0 (v : Tf137_0) (α : Type) (k : List RV → Option α) : Int → Int → Option α := fun x1 x2 => v α x1 x2 (fun (y1 : Bool) => ur137_0_0 k y1)
noncomputable def cm137_0g  : MCode := (.seq (.region r137_2 [] (tO [0, 1])) (.seq (.region r137_4 [] (tO [4])) .ret))
noncomputable def cm137_0 : MCode := cm137_0g 
theorem gm137_0 : cm137_0.Good Tryz.prog E137_0 sh137 := ⟨trivial, ⟨trivial, trivial⟩⟩
theorem fm137_0g (vf127_0 : Tf127_0)  (α : Type) (k : List RV → Option α) : Fn137_0 (f137_0g vf127_0) α k = pa137_0.unc fun ds => fnM Tryz.prog (E137_0g vf127_0) sh137 (cm137_0g ) rs137 k ds := by kernel_rfl
theorem fm137_0 : ∀ (α : Type) (k : List RV → Option α), Fn137_0 f137_0 α k = pa137_0.unc fun ds => fnM Tryz.prog E137_0 sh137 cm137_0 rs137 k ds := fm137_0g f127_0
theorem is137 : FnIs Tryz.prog 137 nt137 tr137 tl137 cm137_0.erase rs137 := ⟨Tryz.f137, Tryz.func137, rfl, by kernel_rfl, by kernel_rfl, by kernel_rfl⟩
theorem io137_0 : InstOk Tryz.prog 137 nt137 ⟨pa137_0, Fn137_0 f137_0⟩ := inst_ok eo137_0 followsTry is137 ⟨⟨sh137, cm137_0, by kernel_rfl, gm137_0, fm137_0⟩⟩
abbrev nt50 : Nat := 13
def sh50 : List (Nat × List Sh) := []
def r50_2 : List AOper := [oO 2 (.mv (kI 0))]
def r50_5 : List AOper := [oM 3 0, oO 4 (.call 51 [(.tmp 3), (kI 2), (kI 32)]), oO 5 (.pure (oB (.unOp .not 4 (.tmp 4)) 4)), oM 6 5, oG 7 (.mv (.tmp 0)) 6 false, oG 8 (.mv (.tmp 0)) 6 false, oG 9 (.bin .sub 3 (.tmp 8) (kI 1)) 6 false, oG 10 (.bin .and 3 (.tmp 7) (.tmp 9)) 6 false, oG 11 (.bin .neq 3 (.tmp 10) (kI 0)) 6 false, oO 12 (.pick (.tmp 6) (.const (.bool true)) (.tmp 11))]
def r50_8 : List AOper := [oO 2 (.mv (kI 12))]
def r50_10 : List AOper := [oO 2 (.mv (kI 0))]
def tr50 : List (Nat × Tidy) := [tT 0 [0], tT 1 [12], tT 2 [2], tT 3 [2]]
def tl50 : List (Nat × Tidy) := []
def rs50 : List AResV := [.tmp 2]
def pr50_0_0 : PT (List RV) := pRs [pR false [rD (dI .i64)]]
def ur50_0_0 {β : Type} (g : List RV → β) : Int → β := pr50_0_0.unc g
def E50_0g (vf51_0 : Tf51_0) : EnvK := EnvK.of [⟨51, nt51, [⟨pa51_0, Fn51_0 vf51_0⟩]⟩] noSeq
noncomputable def E50_0 : EnvK := E50_0g f51_0
theorem eo50_0 : E50_0.Ok Tryz.prog := EnvK.of_ok noSeq_ok ⟨⟨io51_0, trivial⟩, trivial⟩
abbrev Tf50_0 : Type 1 := (α : Type) → Int → (Int → Option α) → Option α
def f50_0g (vf51_0 : Tf51_0) (α : Type) (x1 : Int) (k1 : Int → Option α) : Option α :=
 vf51_0 α x1 2 32
 (fun x2 => cK (!x2)
 (k1 12)
 (cK ((iAnd .i64 x1 (w64 (x1 - 1))) != 0)
 (k1 12)
 (k1 0)))
noncomputable def f50_0 (α : Type) (x1 : Int) (k1 : Int → Option α) : Option α := f50_0g f51_0 α x1 k1
def pa50_0 : PT (List DV) := pA [pV false [(dI .i64)]]
def Fn50_0 (v : Tf50_0) (α : Type) (k : List RV → Option α) : Int → Option α := fun x1 => v α x1 (fun (y1 : Int) => ur50_0_0 k y1)
noncomputable def cm50_0g  : MCode := (.seq (.region r50_2 [] (tO [0])) (.seq (.seq (.region r50_5 [] (tO [12])) (.cond (.tmp 12) (.seq (.region r50_8 [] (tO [2])) .ret) .skip)) (.seq (.region r50_10 [] (tO [2])) .ret)))
noncomputable def cm50_0 : MCode := cm50_0g 
theorem gm50_0 : cm50_0.Good Tryz.prog E50_0 sh50 := ⟨trivial, ⟨⟨trivial, ⟨⟨trivial, trivial⟩, trivial⟩⟩, ⟨trivial, trivial⟩⟩⟩
theorem fm50_0g (vf51_0 : Tf51_0)  (α : Type) (k : List RV → Option α) : Fn50_0 (f50_0g vf51_0) α k = pa50_0.unc fun ds => fnM Tryz.prog (E50_0g vf51_0) sh50 (cm50_0g ) rs50 k ds := by kernel_rfl
theorem fm50_0 : ∀ (α : Type) (k : List RV → Option α), Fn50_0 f50_0 α k = pa50_0.unc fun ds => fnM Tryz.prog E50_0 sh50 cm50_0 rs50 k ds := fm50_0g f51_0
theorem is50 : FnIs Tryz.prog 50 nt50 tr50 tl50 cm50_0.erase rs50 := ⟨Tryz.f50, Tryz.func50, rfl, by kernel_rfl, by kernel_rfl, by kernel_rfl⟩
theorem io50_0 : InstOk Tryz.prog 50 nt50 ⟨pa50_0, Fn50_0 f50_0⟩ := inst_ok eo50_0 followsTry is50 ⟨⟨sh50, cm50_0, by kernel_rfl, gm50_0, fm50_0⟩⟩
abbrev nt15 : Nat := 27
def sh15 : List (Nat × List Sh) := [(19, [.cpx .f64, .int .i64]), (20, [.cpx .f64, .int .i64]), (23, [.cpx .f64, .int .i64]), (24, [.cpx .f64, .int .i64])]
def r15_2 : List AOper := [oO 4 (.mv (.const (.bool false)))]
def r15_5 : List AOper := [oM 6 0, oO 7 (.len (.tmp 6)), oM 8 1, oO 9 (.len (.tmp 8)), oO 10 (.bin .neq 3 (.tmp 7) (.tmp 9))]
def r15_8 : List AOper := [oO 4 (.mv (.const (.bool false)))]
def r15_11 : List AOper := [oO 5 (.mv (kI 0))]
def td15_13 : Option Tidy := (tO [0, 1, 5])
def r15_16 : List AOper := [oM 11 5, oM 12 0, oO 13 (.len (.tmp 12)), oO 14 (.bin .lss 3 (.tmp 11) (.tmp 13))]
def r15_21 : List AOper := [oM 17 0, oM 18 5, oO 19 (.iaddr 2 none (.tmp 17) (.tmp 18)), oO 20 (.load true 2 (.tmp 19)), oM 21 1, oM 22 5, oO 23 (.iaddr 2 none (.tmp 21) (.tmp 22)), oO 24 (.load true 2 (.tmp 23)), oO 25 (.call 23 [(.tmp 20), (.tmp 24)]), oO 26 (.pure (oB (.unOp .not 4 (.tmp 25)) 4))]
def r15_24 : List AOper := [oO 4 (.mv (.const (.bool false)))]
def r15_25 : List AOper := [oM 15 5, oO 16 (.bin .add 3 (.tmp 15) (kI 1)), oM 5 16]
def r15_27 : List AOper := [oO 4 (.mv (.const (.bool true)))]
def tr15 : List (Nat × Tidy) := [tT 0 [0, 1], tT 1 [0, 1, 10], tT 2 [4], tT 3 [0, 1, 5], tT 4 [0, 1, 5, 14], tT 6 [0, 1, 5, 26], tT 7 [4], tT 5 [0, 1, 5], tT 8 [4]]
def tl15 : List (Nat × Tidy) := [tT 4 [0, 1, 5]]
def rs15 : List AResV := [.tmp 4]
def p15_0_0 : PT St := pS [sl 0 (aV false [(cD dL)]), sl 1 (aV false [(cD dL)]), sl 5 (aV false [(cD (dI .i64))])] []
def u15_0_0 {β : Type} (g : St → β) : Rows → Rows → Int → β := p15_0_0.unc g
def p15_0_1 : PT St := pS [sl 4 (aV false [(cD dB)])] []
def u15_0_1 {β : Type} (g : St → β) : Bool → β := p15_0_1.unc g
def p15_0_2 : PT St := pS [sl 0 (aV false [(cD dL)]), sl 1 (aV false [(cD dL)]), sl 5 (aV false [(cD (dI .i64))]), sl 14 (aV false [(cD dB)])] []
def u15_0_2 {β : Type} (g : St → β) : Rows → Rows → Int → Bool → β := p15_0_2.unc g
def pr15_0_0 : PT (List RV) := pRs [pR false [rD dB]]
def ur15_0_0 {β : Type} (g : List RV → β) : Bool → β := pr15_0_0.unc g
def E15_0g (vf23_0 : Tf23_0) : EnvK := EnvK.of [⟨23, nt23, [⟨pa23_0, Fn23_0 vf23_0⟩]⟩] noSeq
noncomputable def E15_0 : EnvK := E15_0g f23_0
theorem eo15_0 : E15_0.Ok Tryz.prog := EnvK.of_ok noSeq_ok ⟨⟨io23_0, trivial⟩, trivial⟩
noncomputable def c15_0_13g  : MCode := (.seq (.seq (.region r15_16 [] (tO [0, 1, 5, 14])) (.cond (.tmp 14) .skip (.exit 0))) (.seq (.block 1 (.seq (.region r15_21 [] (tO [0, 1, 5, 26])) (.cond (.tmp 26) (.seq (.region r15_24 [] (tO [4])) .ret) .skip))) (.region r15_25 [] (tO [0, 1, 5]))))
noncomputable def c15_0_13 : MCode := c15_0_13g 
theorem g15_0_13 : c15_0_13.Good Tryz.prog E15_0 sh15 := ⟨⟨trivial, ⟨trivial, trivial⟩⟩, ⟨⟨trivial, ⟨⟨trivial, trivial⟩, trivial⟩⟩, trivial⟩⟩
--CODE 13 0
def S15_0_0g (vf23_0 : Tf23_0) (α : Type) (x3 x4 : Rows) (x5 : Int) (kn : Int → Option α) (k1 : Option α) (k2 : Int → Bool → Option α) : Option α :=
 cK (decide (x5 < ((List.length x3 : Nat) : Int)))
 (rowK x3 x5 [.cpx .f64, .int .i64]
 (fun x7 x8 x9 => rowK x4 x5 [.cpx .f64, .int .i64]
 (fun x10 x11 x12 => vf23_0 α x7 x8 x9 x10 x11 x12
 (fun x13 => cK (!x13)
 (k1)
 (kn (w64 (x5 + 1)))))))
 (k2 x5 (decide (x5 < ((List.length x3 : Nat) : Int))))
noncomputable def S15_0_0 (α : Type) (x3 x4 : Rows) (x5 : Int) (kn : Int → Option α) (k1 : Option α) (k2 : Int → Bool → Option α) : Option α := S15_0_0g f23_0 α x3 x4 x5 kn k1 k2
noncomputable def R15_0_0 (α : Type) (x3 x4 : Rows) (k1 : Option α) (k2 : Int → Bool → Option α) : Nat → Int → Option α
 | 0, _ => none
 | n + 1, x5 => S15_0_0 α x3 x4 x5 (R15_0_0 α x3 x4 k1 k2 n) k1 k2
noncomputable def L15_0_0 (α : Type) (x3 x4 : Rows) (k1 : Option α) (k2 : Int → Bool → Option α) (x5 : Int) : Option α := R15_0_0 α x3 x4 k1 k2 fuel x5
abbrev TL15_0_0 : Type 1 := (α : Type) → Rows → Rows → (Option α) → (Int → Bool → Option α) → Int → Option α
def F15_0_0 (v : TL15_0_0) (α : Type) (K : Exit → St → Option α) : Rows → Rows → Int → Option α := fun x3 x4 x5 => v α x3 x4 (u15_0_1 (K .ret) false) (fun (y1 : Int) (y2 : Bool) => u15_0_2 (K (.exit 0)) x3 x4 y1 y2) x5
theorem r15_0_0g (vf23_0 : Tf23_0)  (α : Type) (K : Exit → St → Option α) (Kn : St → Option α) (x3 x4 : Rows) (x5 : Int) : u15_0_0 (fun σ => runM Tryz.prog (E15_0g vf23_0) sh15 (c15_0_13g ) (thenK (fun σ => tidyK td15_13 σ Kn) K) σ) x3 x4 x5 = S15_0_0g vf23_0 α x3 x4 x5 (fun x5 => u15_0_0 Kn x3 x4 x5) (u15_0_1 (K .ret) false) (fun (y1 : Int) (y2 : Bool) => u15_0_2 (K (.exit 0)) x3 x4 y1 y2) := by kernel_rfl
theorem r15_0_0 (α : Type) (K : Exit → St → Option α) (Kn : St → Option α) (x3 x4 : Rows) (x5 : Int) : u15_0_0 (fun σ => runM Tryz.prog E15_0 sh15 c15_0_13 (thenK (fun σ => tidyK td15_13 σ Kn) K) σ) x3 x4 x5 = S15_0_0 α x3 x4 x5 (fun x5 => u15_0_0 Kn x3 x4 x5) (u15_0_1 (K .ret) false) (fun (y1 : Int) (y2 : Bool) => u15_0_2 (K (.exit 0)) x3 x4 y1 y2) := r15_0_0g f23_0 α K Kn x3 x4 x5
theorem t15_0_0 (α : Type) (K : Exit → St → Option α) : ∀ (n : Nat) (x3 x4 : Rows) (x5 : Int), R15_0_0 α x3 x4 (u15_0_1 (K .ret) false) (fun (y1 : Int) (y2 : Bool) => u15_0_2 (K (.exit 0)) x3 x4 y1 y2) n x5 = u15_0_0 (loopT (runM Tryz.prog E15_0 sh15 c15_0_13) td15_13 K n) x3 x4 x5 := by
 intro n
 induction n with
 | zero => intros; rfl
 | succ n ih => intro x3 x4 x5; exact (congrArg (fun kn => S15_0_0 α x3 x4 x5 kn (u15_0_1 (K .ret) false) (fun (y1 : Int) (y2 : Bool) => u15_0_2 (K (.exit 0)) x3 x4 y1 y2)) (funext fun x5 => ih x3 x4 x5)).trans (r15_0_0 α K (loopT (runM Tryz.prog E15_0 sh15 c15_0_13) td15_13 K n) x3 x4 x5).symm
theorem m15_0_0 : ∀ (α : Type) (K : Exit → St → Option α), F15_0_0 L15_0_0 α K = p15_0_0.unc fun σ => loopT (runM Tryz.prog E15_0 sh15 c15_0_13) td15_13 K fuel σ := fun α K => funext fun x3 => funext fun x4 => funext fun x5 => t15_0_0 α K fuel x3 x4 x5
abbrev Tf15_0 : Type 1 := (α : Type) → Rows → Rows → (Bool → Option α) → Option α
def f15_0g (vL15_0_0 : TL15_0_0) (α : Type) (x1 x2 : Rows) (k1 : Bool → Option α) : Option α :=
 cK (((List.length x1 : Nat) : Int) != ((List.length x2 : Nat) : Int))
 (k1 false)
 (vL15_0_0 α x1 x2
 (k1 false)
 (fun x14 x15 => k1 true) 0)
noncomputable def f15_0 (α : Type) (x1 x2 : Rows) (k1 : Bool → Option α) : Option α := f15_0g L15_0_0 α x1 x2 k1
def pa15_0 : PT (List DV) := pA [pV false [dL], pV false [dL]]
def Fn15_0 (v : Tf15_0) (α : Type) (k : List RV → Option α) : Rows → Rows → Option α := fun x1 x2 => v α x1 x2 (fun (y1 : Bool) => ur15_0_0 k y1)
noncomputable def cm15_0g (vL15_0_0 : TL15_0_0) : MCode := (.seq (.region r15_2 [] (tO [0, 1])) (.seq (.seq (.region r15_5 [] (tO [0, 1, 10])) (.cond (.tmp 10) (.seq (.region r15_8 [] (tO [4])) .ret) .skip)) (.seq (.seq (.region r15_11 [] (tO [0, 1, 5])) (.block 0 (.loop td15_13 [⟨p15_0_0, F15_0_0 vL15_0_0⟩] c15_0_13))) (.seq (.region r15_27 [] (tO [4])) .ret))))
noncomputable def cm15_0 : MCode := cm15_0g L15_0_0
theorem gm15_0 : cm15_0.Good Tryz.prog E15_0 sh15 := ⟨trivial, ⟨⟨trivial, ⟨⟨trivial, trivial⟩, trivial⟩⟩, ⟨⟨trivial, ⟨g15_0_13, m15_0_0, trivial⟩⟩, ⟨trivial, trivial⟩⟩⟩⟩
theorem fm15_0g (vf23_0 : Tf23_0) (vL15_0_0 : TL15_0_0) (α : Type) (k : List RV → Option α) : Fn15_0 (f15_0g vL15_0_0) α k = pa15_0.unc fun ds => fnM Tryz.prog (E15_0g vf23_0) sh15 (cm15_0g vL15_0_0) rs15 k ds := by kernel_rfl
theorem fm15_0 : ∀ (α : Type) (k : List RV → Option α), Fn15_0 f15_0 α k = pa15_0.unc fun ds => fnM Tryz.prog E15_0 sh15 cm15_0 rs15 k ds := fm15_0g f23_0 L15_0_0
theorem is15 : FnIs Tryz.prog 15 nt15 tr15 tl15 cm15_0.erase rs15 := ⟨Tryz.f15, Tryz.func15, rfl, by kernel_rfl, by kernel_rfl, by kernel_rfl⟩
theorem io15_0 : InstOk Tryz.prog 15 nt15 ⟨pa15_0, Fn15_0 f15_0⟩ := inst_ok eo15_0 followsTry is15 ⟨⟨sh15, cm15_0, by kernel_rfl, gm15_0, fm15_0⟩⟩
abbrev nt27 : Nat := 10
def sh27 : List (Nat × List Sh) := [(4, [.int .i64]), (6, [.int .i64]), (8, [.int .i64])]
def r27_2 : List AOper := [oO 1 (.box (.tmp 0)), oO 2 (.alloc [(.d (.v (.complex Go.FloatKind.f64 0 0))), (cI 0)])]
def r27_4 : List AOper := [oO 3 (.faddr 0 (.tmp 1)), oO 4 (.load false 1 (.tmp 3)), oO 5 (.faddr 1 (.tmp 1)), oO 6 (.load false 1 (.tmp 5)), oO 7 (.faddr 2 (.tmp 1)), oO 8 (.load false 1 (.tmp 7)), oO 9 (.call 49 [(.tmp 4), (.tmp 6), (.tmp 8)]), oD (.store 2 (.tmp 2) (.tmp 9))]
def tr27 : List (Nat × Tidy) := [tT 0 [1, 2], tT 1 [2]]
def tl27 : List (Nat × Tidy) := []
def rs27 : List AResV := [.cell 2 true 2]
def pr27_0_0 : PT (List RV) := pRs [pR true [rD (dX .f64), rD (dI .i64)]]
def ur27_0_0 {β : Type} (g : List RV → β) : Nat → Nat → Int → β := pr27_0_0.unc g
def E27_0g (vf49_0 : Tf49_0) : EnvK := EnvK.of [⟨49, nt49, [⟨pa49_0, Fn49_0 vf49_0⟩]⟩] noSeq
noncomputable def E27_0 : EnvK := E27_0g f49_0
theorem eo27_0 : E27_0.Ok Tryz.prog := EnvK.of_ok noSeq_ok ⟨⟨io49_0, trivial⟩, trivial⟩
abbrev Tf27_0 : Type 1 := (α : Type) → Int → Int → Int → (Nat → Nat → Int → Option α) → Option α
def f27_0g (vf49_0 : Tf49_0) (α : Type) (x1 x2 x3 : Int) (k1 : Nat → Nat → Int → Option α) : Option α :=
 vf49_0 α x1 x2 x3
 (fun x4 x5 x6 => k1 x4 x5 x6)
noncomputable def f27_0 (α : Type) (x1 x2 x3 : Int) (k1 : Nat → Nat → Int → Option α) : Option α := f27_0g f49_0 α x1 x2 x3 k1
def pa27_0 : PT (List DV) := pA [pV true [(dI .i64), (dI .i64), (dI .i64)]]
def Fn27_0 (v : Tf27_0) (α : Type) (k : List RV → Option α) : Int → Int → Int → Option α := fun x1 x2 x3 => v α x1 x2 x3 (fun (y1 : Nat) (y2 : Nat) (y3 : Int) => ur27_0_0 k y1 y2 y3)
noncomputable def cm27_0g  : MCode := (.seq (.region r27_2 [] (tO [1, 2])) (.seq (.region r27_4 [] (tO [2])) .ret))
noncomputable def cm27_0 : MCode := cm27_0g 
theorem gm27_0 : cm27_0.Good Tryz.prog E27_0 sh27 := ⟨trivial, ⟨trivial, trivial⟩⟩
theorem fm27_0g (vf49_0 : Tf49_0)  (α : Type) (k : List RV → Option α) : Fn27_0 (f27_0g vf49_0) α k = pa27_0.unc fun ds => fnM Tryz.prog (E27_0g vf49_0) sh27 (cm27_0g ) rs27 k ds := by kernel_rfl
theorem fm27_0 : ∀ (α : Type) (k : List RV → Option α), Fn27_0 f27_0 α k = pa27_0.unc fun ds => fnM Tryz.prog E27_0 sh27 cm27_0 rs27 k ds := fm27_0g f49_0
theorem is27 : FnIs Tryz.prog 27 nt27 tr27 tl27 cm27_0.erase rs27 := ⟨Tryz.f27, Tryz.func27, rfl, by kernel_rfl, by kernel_rfl, by kernel_rfl⟩
theorem io27_0 : InstOk Tryz.prog 27 nt27 ⟨pa27_0, Fn27_0 f27_0⟩ := inst_ok eo27_0 followsTry is27 ⟨⟨sh27, cm27_0, by kernel_rfl, gm27_0, fm27_0⟩⟩
end Go.AM.K
