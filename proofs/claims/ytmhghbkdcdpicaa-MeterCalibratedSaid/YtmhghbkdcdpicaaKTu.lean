/- Printed by KGen. -/
import Derived.Test.YtmhghbkdcdpicaaProg
import Derived.Test.YtmhghbkdcdpicaaKMa
namespace Go.AM.K
open Go.Proofs
set_option maxRecDepth 100000
set_option linter.unusedVariables false
theorem followsTry : Try.prog.follows .mixedOrders = true := by kernel_rfl
abbrev nt80 : Nat := 13
def sh80 : List (Nat × List Sh) := [(6, [.int .i64]), (10, [.int .i64])]
def r80_2 : List AOper := [oO 3 (.alloc [(cI 0), (cI 0)])]
def r80_4 : List AOper := [oM 4 0, oO 5 (.faddr 2 (.tmp 1)), oO 6 (.load false 1 (.tmp 5)), oO 7 (.bin .sub 3 (.tmp 4) (.tmp 6)), oM 8 0, oO 9 (.faddr 2 (.tmp 1)), oO 10 (.load false 1 (.tmp 9)), oO 11 (.bin .add 3 (.tmp 8) (.tmp 10)), oO 12 (.build [(cI 0), (cI 0)] [(0, 1, (.tmp 7)), (1, 1, (.tmp 11))]), oD (.store 2 (.tmp 3) (.tmp 12))]
def tr80 : List (Nat × Tidy) := [tT 0 [0, 1, 3], tT 1 [3]]
def tl80 : List (Nat × Tidy) := []
def rs80 : List AResV := [.cell 3 true 2]
def pr80_0_0 : PT (List RV) := pRs [pR true [rD (dI .i64), rD (dI .i64)]]
def ur80_0_0 {β : Type} (g : List RV → β) : Int → Int → β := pr80_0_0.unc g
def E80_0g  : EnvK := EnvK.of [] noSeq
noncomputable def E80_0 : EnvK := E80_0g 
theorem eo80_0 : E80_0.Ok Try.prog := EnvK.of_ok noSeq_ok trivial
abbrev Tf80_0 : Type 1 := (α : Type) → Int → Int → Int → Int → (Int → Int → Option α) → Option α
def f80_0g  (α : Type) (x1 x2 x3 x4 : Int) (k1 : Int → Int → Option α) : Option α :=
 k1 (w64 (x1 - x4)) (w64 (x1 + x4))
noncomputable def f80_0 (α : Type) (x1 x2 x3 x4 : Int) (k1 : Int → Int → Option α) : Option α := f80_0g  α x1 x2 x3 x4 k1
def pa80_0 : PT (List DV) := pA [pV false [(dI .i64)], pV false [(dP [(dI .i64), (dI .i64), (dI .i64)] 0)]]
def Fn80_0 (v : Tf80_0) (α : Type) (k : List RV → Option α) : Int → Int → Int → Int → Option α := fun x1 x2 x3 x4 => v α x1 x2 x3 x4 (fun (y1 : Int) (y2 : Int) => ur80_0_0 k y1 y2)
noncomputable def cm80_0g  : MCode := (.seq (.region r80_2 [] (tO [0, 1, 3])) (.seq (.region r80_4 [] (tO [3])) .ret))
noncomputable def cm80_0 : MCode := cm80_0g 
theorem gm80_0 : cm80_0.Good Try.prog E80_0 sh80 := ⟨trivial, ⟨trivial, trivial⟩⟩
theorem fm80_0g   (α : Type) (k : List RV → Option α) : Fn80_0 (f80_0g ) α k = pa80_0.unc fun ds => fnM Try.prog (E80_0g ) sh80 (cm80_0g ) rs80 k ds := by kernel_rfl
theorem fm80_0 : ∀ (α : Type) (k : List RV → Option α), Fn80_0 f80_0 α k = pa80_0.unc fun ds => fnM Try.prog E80_0 sh80 cm80_0 rs80 k ds := fm80_0g 
theorem is80 : FnIs Try.prog 80 nt80 tr80 tl80 cm80_0.erase rs80 := ⟨Try.f80, Try.func80, rfl, by kernel_rfl, by kernel_rfl, by kernel_rfl⟩
theorem io80_0 : InstOk Try.prog 80 nt80 ⟨pa80_0, Fn80_0 f80_0⟩ := inst_ok eo80_0 followsTry is80 ⟨⟨sh80, cm80_0, by kernel_rfl, gm80_0, fm80_0⟩⟩
abbrev nt90 : Nat := 10
def sh90 : List (Nat × List Sh) := []
def r90_2 : List AOper := [oO 2 (.alloc [(cI 0), (cI 0)])]
def r90_4 : List AOper := [oM 3 0, oO 4 (.pure (oB (.call { callee := .builtin .real, args := #[(.tmp 3)], argTypes := #[48] }) 118)), oO 5 (.pure (oB (.convert 118 3 (.tmp 4)) 3)), oM 6 0, oO 7 (.pure (oB (.call { callee := .builtin .imag, args := #[(.tmp 6)], argTypes := #[48] }) 118)), oO 8 (.pure (oB (.convert 118 3 (.tmp 7)) 3)), oO 9 (.build [(cI 0), (cI 0)] [(0, 1, (.tmp 5)), (1, 1, (.tmp 8))]), oD (.store 2 (.tmp 2) (.tmp 9))]
def tr90 : List (Nat × Tidy) := [tT 0 [0, 2], tT 1 [2]]
def tl90 : List (Nat × Tidy) := []
def rs90 : List AResV := [.cell 2 true 2]
def pr90_0_0 : PT (List RV) := pRs [pR true [rD (dI .i64), rD (dI .i64)]]
def ur90_0_0 {β : Type} (g : List RV → β) : Int → Int → β := pr90_0_0.unc g
def E90_0g  : EnvK := EnvK.of [] noSeq
noncomputable def E90_0 : EnvK := E90_0g 
theorem eo90_0 : E90_0.Ok Try.prog := EnvK.of_ok noSeq_ok trivial
abbrev Tf90_0 : Type 1 := (α : Type) → Nat → Nat → (Int → Int → Option α) → Option α
def f90_0g  (α : Type) (x1 x2 : Nat) (k1 : Int → Int → Option α) : Option α :=
 ivK (f2i .f64 x1 .i64)
 (fun x3 => ivK (f2i .f64 x2 .i64)
 (fun x4 => k1 x3 x4))
noncomputable def f90_0 (α : Type) (x1 x2 : Nat) (k1 : Int → Int → Option α) : Option α := f90_0g  α x1 x2 k1
def pa90_0 : PT (List DV) := pA [pV false [(dX .f64)]]
def Fn90_0 (v : Tf90_0) (α : Type) (k : List RV → Option α) : Nat → Nat → Option α := fun x1 x2 => v α x1 x2 (fun (y1 : Int) (y2 : Int) => ur90_0_0 k y1 y2)
noncomputable def cm90_0g  : MCode := (.seq (.region r90_2 [] (tO [0, 2])) (.seq (.region r90_4 [] (tO [2])) .ret))
noncomputable def cm90_0 : MCode := cm90_0g 
theorem gm90_0 : cm90_0.Good Try.prog E90_0 sh90 := ⟨trivial, ⟨trivial, trivial⟩⟩
theorem fm90_0g   (α : Type) (k : List RV → Option α) : Fn90_0 (f90_0g ) α k = pa90_0.unc fun ds => fnM Try.prog (E90_0g ) sh90 (cm90_0g ) rs90 k ds := by kernel_rfl
theorem fm90_0 : ∀ (α : Type) (k : List RV → Option α), Fn90_0 f90_0 α k = pa90_0.unc fun ds => fnM Try.prog E90_0 sh90 cm90_0 rs90 k ds := fm90_0g 
theorem is90 : FnIs Try.prog 90 nt90 tr90 tl90 cm90_0.erase rs90 := ⟨Try.f90, Try.func90, rfl, by kernel_rfl, by kernel_rfl, by kernel_rfl⟩
theorem io90_0 : InstOk Try.prog 90 nt90 ⟨pa90_0, Fn90_0 f90_0⟩ := inst_ok eo90_0 followsTry is90 ⟨⟨sh90, cm90_0, by kernel_rfl, gm90_0, fm90_0⟩⟩
abbrev nt89 : Nat := 7
def sh89 : List (Nat × List Sh) := []
def r89_2 : List AOper := [oO 2 (.mv (.const (.float Go.FloatKind.f64 0)))]
def r89_4 : List AOper := [oM 3 0, oO 4 (.pure (oB (.call { callee := .value (.func 72), args := #[(.tmp 3)], argTypes := #[118] }) 127)), oO 5 (.bin .andNot 127 (.tmp 4) (.const (.int .u64 9223372036854775808))), oO 6 (.pure (oB (.call { callee := .value (.func 95), args := #[(.tmp 5)], argTypes := #[127] }) 118)), oM 2 6]
def tr89 : List (Nat × Tidy) := [tT 0 [0], tT 1 [2]]
def tl89 : List (Nat × Tidy) := []
def rs89 : List AResV := [.tmp 2]
def pr89_0_0 : PT (List RV) := pRs [pR false [rD (dF .f64)]]
def ur89_0_0 {β : Type} (g : List RV → β) : Nat → β := pr89_0_0.unc g
def E89_0g  : EnvK := EnvK.of [] noSeq
noncomputable def E89_0 : EnvK := E89_0g 
theorem eo89_0 : E89_0.Ok Try.prog := EnvK.of_ok noSeq_ok trivial
abbrev Tf89_0 : Type 1 := (α : Type) → Nat → (Nat → Option α) → Option α
def f89_0g  (α : Type) (x1 : Nat) (k1 : Nat → Option α) : Option α :=
 k1 (Int.toNat (iAndNot .u64 ((x1 : Nat) : Int) 9223372036854775808))
noncomputable def f89_0 (α : Type) (x1 : Nat) (k1 : Nat → Option α) : Option α := f89_0g  α x1 k1
def pa89_0 : PT (List DV) := pA [pV false [(dF .f64)]]
def Fn89_0 (v : Tf89_0) (α : Type) (k : List RV → Option α) : Nat → Option α := fun x1 => v α x1 (fun (y1 : Nat) => ur89_0_0 k y1)
noncomputable def cm89_0g  : MCode := (.seq (.region r89_2 [] (tO [0])) (.seq (.region r89_4 [] (tO [2])) .ret))
noncomputable def cm89_0 : MCode := cm89_0g 
theorem gm89_0 : cm89_0.Good Try.prog E89_0 sh89 := ⟨trivial, ⟨trivial, trivial⟩⟩
theorem fm89_0g   (α : Type) (k : List RV → Option α) : Fn89_0 (f89_0g ) α k = pa89_0.unc fun ds => fnM Try.prog (E89_0g ) sh89 (cm89_0g ) rs89 k ds := by kernel_rfl
theorem fm89_0 : ∀ (α : Type) (k : List RV → Option α), Fn89_0 f89_0 α k = pa89_0.unc fun ds => fnM Try.prog E89_0 sh89 cm89_0 rs89 k ds := fm89_0g 
theorem is89 : FnIs Try.prog 89 nt89 tr89 tl89 cm89_0.erase rs89 := ⟨Try.f89, Try.func89, rfl, by kernel_rfl, by kernel_rfl, by kernel_rfl⟩
theorem io89_0 : InstOk Try.prog 89 nt89 ⟨pa89_0, Fn89_0 f89_0⟩ := inst_ok eo89_0 followsTry is89 ⟨⟨sh89, cm89_0, by kernel_rfl, gm89_0, fm89_0⟩⟩
abbrev nt93 : Nat := 7
def sh93 : List (Nat × List Sh) := []
def r93_2 : List AOper := [oO 2 (.mv (.const (.float Go.FloatKind.f64 0)))]
def r93_6 : List AOper := [oM 3 0, oO 4 (.pure (oB (.call { callee := .value (.func 99), args := #[(.tmp 3)], argTypes := #[118] }) 118)), oM 2 4]
def r93_8 : List AOper := [oM 5 0, oO 6 (.call 100 [(.tmp 5)]), oM 2 6]
def tr93 : List (Nat × Tidy) := [tT 0 [0], tT 1 [2], tT 2 [2]]
def tl93 : List (Nat × Tidy) := []
def rs93 : List AResV := [.tmp 2]
def pr93_0_0 : PT (List RV) := pRs [pR false [rD (dNan .f64)]]
def ur93_0_0 {β : Type} (g : List RV → β) : β := pr93_0_0.unc g
def pr93_0_1 : PT (List RV) := pRs [pR false [rD (dF .f64)]]
def ur93_0_1 {β : Type} (g : List RV → β) : Nat → β := pr93_0_1.unc g
def E93_0g  : EnvK := EnvK.of [] noSeq
noncomputable def E93_0 : EnvK := E93_0g 
theorem eo93_0 : E93_0.Ok Try.prog := EnvK.of_ok noSeq_ok trivial
abbrev Tf93_0 : Type 1 := (α : Type) → Nat → (Option α) → (Nat → Option α) → Option α
def f93_0g  (α : Type) (x1 : Nat) (k1 : Option α) (k2 : Nat → Option α) : Option α :=
 cK (isNaNb .f64 x1)
 (k1)
 (k2 (truncF x1))
noncomputable def f93_0 (α : Type) (x1 : Nat) (k1 : Option α) (k2 : Nat → Option α) : Option α := f93_0g  α x1 k1 k2
def pa93_0 : PT (List DV) := pA [pV false [(dF .f64)]]
def Fn93_0 (v : Tf93_0) (α : Type) (k : List RV → Option α) : Nat → Option α := fun x1 => v α x1 (ur93_0_0 k ) (fun (y1 : Nat) => ur93_0_1 k y1)
noncomputable def cm93_0g  : MCode := (.seq (.region r93_2 [] (tO [0])) (.seq (.cond (.const (.bool true)) (.seq (.region r93_6 [] (tO [2])) .ret) .skip) (.seq (.region r93_8 [] (tO [2])) .ret)))
noncomputable def cm93_0 : MCode := cm93_0g 
theorem gm93_0 : cm93_0.Good Try.prog E93_0 sh93 := ⟨trivial, ⟨⟨⟨trivial, trivial⟩, trivial⟩, ⟨trivial, trivial⟩⟩⟩
theorem fm93_0g   (α : Type) (k : List RV → Option α) : Fn93_0 (f93_0g ) α k = pa93_0.unc fun ds => fnM Try.prog (E93_0g ) sh93 (cm93_0g ) rs93 k ds := by kernel_rfl
theorem fm93_0 : ∀ (α : Type) (k : List RV → Option α), Fn93_0 f93_0 α k = pa93_0.unc fun ds => fnM Try.prog E93_0 sh93 cm93_0 rs93 k ds := fm93_0g 
theorem is93 : FnIs Try.prog 93 nt93 tr93 tl93 cm93_0.erase rs93 := ⟨Try.f93, Try.func93, rfl, by kernel_rfl, by kernel_rfl, by kernel_rfl⟩
theorem io93_0 : InstOk Try.prog 93 nt93 ⟨pa93_0, Fn93_0 f93_0⟩ := inst_ok eo93_0 followsTry is93 ⟨⟨sh93, cm93_0, by kernel_rfl, gm93_0, fm93_0⟩⟩
abbrev nt87 : Nat := 10
def sh87 : List (Nat × List Sh) := [(4, [.int .i64]), (7, [.int .i64])]
def r87_2 : List AOper := [oO 1 (.box (.tmp 0)), oO 2 (.mv (.const (.complex Go.FloatKind.f64 0 0)))]
def r87_4 : List AOper := [oO 3 (.faddr 0 (.tmp 1)), oO 4 (.load false 1 (.tmp 3)), oO 5 (.pure (oB (.convert 3 118 (.tmp 4)) 118)), oO 6 (.faddr 1 (.tmp 1)), oO 7 (.load false 1 (.tmp 6)), oO 8 (.pure (oB (.convert 3 118 (.tmp 7)) 118)), oO 9 (.pure (oB (.call { callee := .builtin .complex, args := #[(.tmp 5), (.tmp 8)], argTypes := #[118, 118] }) 48)), oM 2 9]
def tr87 : List (Nat × Tidy) := [tT 0 [1], tT 1 [2]]
def tl87 : List (Nat × Tidy) := []
def rs87 : List AResV := [.tmp 2]
def pr87_0_0 : PT (List RV) := pRs [pR false [rD (dX .f64)]]
def ur87_0_0 {β : Type} (g : List RV → β) : Nat → Nat → β := pr87_0_0.unc g
def E87_0g  : EnvK := EnvK.of [] noSeq
noncomputable def E87_0 : EnvK := E87_0g 
theorem eo87_0 : E87_0.Ok Try.prog := EnvK.of_ok noSeq_ok trivial
abbrev Tf87_0 : Type 1 := (α : Type) → Int → Int → (Nat → Nat → Option α) → Option α
def f87_0g  (α : Type) (x1 x2 : Int) (k1 : Nat → Nat → Option α) : Option α :=
 k1 (FloatKind.nearest .f64 x1) (FloatKind.nearest .f64 x2)
noncomputable def f87_0 (α : Type) (x1 x2 : Int) (k1 : Nat → Nat → Option α) : Option α := f87_0g  α x1 x2 k1
def pa87_0 : PT (List DV) := pA [pV true [(dI .i64), (dI .i64)]]
def Fn87_0 (v : Tf87_0) (α : Type) (k : List RV → Option α) : Int → Int → Option α := fun x1 x2 => v α x1 x2 (fun (y1 : Nat) (y2 : Nat) => ur87_0_0 k y1 y2)
noncomputable def cm87_0g  : MCode := (.seq (.region r87_2 [] (tO [1])) (.seq (.region r87_4 [] (tO [2])) .ret))
noncomputable def cm87_0 : MCode := cm87_0g 
theorem gm87_0 : cm87_0.Good Try.prog E87_0 sh87 := ⟨trivial, ⟨trivial, trivial⟩⟩
theorem fm87_0g   (α : Type) (k : List RV → Option α) : Fn87_0 (f87_0g ) α k = pa87_0.unc fun ds => fnM Try.prog (E87_0g ) sh87 (cm87_0g ) rs87 k ds := by kernel_rfl
theorem fm87_0 : ∀ (α : Type) (k : List RV → Option α), Fn87_0 f87_0 α k = pa87_0.unc fun ds => fnM Try.prog E87_0 sh87 cm87_0 rs87 k ds := fm87_0g 
theorem is87 : FnIs Try.prog 87 nt87 tr87 tl87 cm87_0.erase rs87 := ⟨Try.f87, Try.func87, rfl, by kernel_rfl, by kernel_rfl, by kernel_rfl⟩
theorem io87_0 : InstOk Try.prog 87 nt87 ⟨pa87_0, Fn87_0 f87_0⟩ := inst_ok eo87_0 followsTry is87 ⟨⟨sh87, cm87_0, by kernel_rfl, gm87_0, fm87_0⟩⟩
abbrev nt85 : Nat := 16
def sh85 : List (Nat × List Sh) := [(9, [.int .i64]), (12, [.int .i64]), (15, [.int .i64, .int .i64])]
def r85_2 : List AOper := [oO 2 (.box (.tmp 0)), oO 4 (.alloc [(cI 0), (cI 0)])]
def r85_5 : List AOper := [oM 5 1, oO 6 (.mv (kI 0))]
def td85_7 : Option Tidy := (tO [2, 4, 5, 6])
def r85_9 : List AOper := [oO 7 (.bin .lss 3 (.tmp 6) (.tmp 5))]
def r85_14 : List AOper := [oO 8 (.faddr 1 (.tmp 2)), oO 9 (.load false 1 (.tmp 8)), oO 10 (.pure (oB (.unOp .neg 3 (.tmp 9)) 3)), oO 11 (.faddr 0 (.tmp 2)), oO 12 (.load false 1 (.tmp 11)), oO 13 (.build [(cI 0), (cI 0)] [(0, 1, (.tmp 10)), (1, 1, (.tmp 12))]), oD (.store 2 (.tmp 2) (.tmp 13))]
def r85_15 : List AOper := [oO 14 (.bin .add 3 (.tmp 6) (kI 1)), oM 6 14]
def r85_17 : List AOper := [oO 15 (.load true 2 (.tmp 2)), oD (.store 2 (.tmp 4) (.tmp 15))]
def tr85 : List (Nat × Tidy) := [tT 0 [1, 2, 4], tT 1 [2, 4, 5, 6], tT 2 [2, 4, 5, 6, 7], tT 3 [2, 4, 5, 6], tT 4 [2, 4, 5, 6], tT 5 [4]]
def tl85 : List (Nat × Tidy) := [tT 2 [2, 4, 5, 6]]
def rs85 : List AResV := [.cell 4 true 2]
def p85_0_0 : PT St := pS [sl 2 (aV false [(cPtr 2 0)]), sl 4 (aV false [(cPtr 4 0)]), sl 5 (aV false [(cD (dI .i64))]), sl 6 (aV false [(cD (dI .i64))])] [eBox 2 [(cD (dI .i64)), (cD (dI .i64))], eBox 4 [(cD (dI .i64)), (cD (dI .i64))]]
def u85_0_0 {β : Type} (g : St → β) : Int → Int → Int → Int → Int → Int → β := p85_0_0.unc g
def p85_0_1 : PT St := pS [sl 2 (aV false [(cPtr 2 0)]), sl 4 (aV false [(cPtr 4 0)]), sl 5 (aV false [(cD (dI .i64))]), sl 6 (aV false [(cD (dI .i64))]), sl 7 (aV false [(cD dB)])] [eBox 2 [(cD (dI .i64)), (cD (dI .i64))], eBox 4 [(cD (dI .i64)), (cD (dI .i64))]]
def u85_0_1 {β : Type} (g : St → β) : Int → Int → Bool → Int → Int → Int → Int → β := p85_0_1.unc g
def pr85_0_0 : PT (List RV) := pRs [pR true [rD (dI .i64), rD (dI .i64)]]
def ur85_0_0 {β : Type} (g : List RV → β) : Int → Int → β := pr85_0_0.unc g
def E85_0g  : EnvK := EnvK.of [] noSeq
noncomputable def E85_0 : EnvK := E85_0g 
theorem eo85_0 : E85_0.Ok Try.prog := EnvK.of_ok noSeq_ok trivial
noncomputable def c85_0_7g  : MCode := (.seq (.region r85_9 [] (tO [2, 4, 5, 6, 7])) (.seq (.cond (.tmp 7) .skip (.exit 0)) (.seq (.block 1 (.region r85_14 [] (tO [2, 4, 5, 6]))) (.region r85_15 [] (tO [2, 4, 5, 6])))))
noncomputable def c85_0_7 : MCode := c85_0_7g 
theorem g85_0_7 : c85_0_7.Good Try.prog E85_0 sh85 := ⟨trivial, ⟨⟨trivial, trivial⟩, ⟨trivial, trivial⟩⟩⟩
--CODE 7 0
def S85_0_0g  (α : Type) (x4 x5 x6 x7 : Int) (kn : Int → Int → Int → Option α) (k1 : Int → Bool → Int → Int → Option α) : Option α :=
 cK (decide (x5 < x4))
 (kn (w64 (x5 + 1)) (w64 (0 - x7)) x6)
 (k1 x5 (decide (x5 < x4)) x6 x7)
noncomputable def S85_0_0 (α : Type) (x4 x5 x6 x7 : Int) (kn : Int → Int → Int → Option α) (k1 : Int → Bool → Int → Int → Option α) : Option α := S85_0_0g  α x4 x5 x6 x7 kn k1
noncomputable def R85_0_0 (α : Type) (x4 : Int) (k1 : Int → Bool → Int → Int → Option α) : Nat → Int → Int → Int → Option α
 | 0, _, _, _ => none
 | n + 1, x5, x6, x7 => S85_0_0 α x4 x5 x6 x7 (R85_0_0 α x4 k1 n) k1
noncomputable def L85_0_0 (α : Type) (x4 : Int) (k1 : Int → Bool → Int → Int → Option α) (x5 x6 x7 : Int) : Option α := R85_0_0 α x4 k1 fuel x5 x6 x7
abbrev TL85_0_0 : Type 1 := (α : Type) → Int → (Int → Bool → Int → Int → Option α) → Int → Int → Int → Option α
def F85_0_0 (v : TL85_0_0) (α : Type) (K : Exit → St → Option α) : Int → Int → Int → Int → Int → Int → Option α := fun x4 x5 x6 x7 x8 x9 => v α x4 (fun (y1 : Int) (y2 : Bool) (y3 : Int) (y4 : Int) => u85_0_1 (K (.exit 0)) x4 y1 y2 y3 y4 x8 x9) x5 x6 x7
theorem r85_0_0g   (α : Type) (K : Exit → St → Option α) (Kn : St → Option α) (x4 x5 x6 x7 x8 x9 : Int) : u85_0_0 (fun σ => runM Try.prog (E85_0g ) sh85 (c85_0_7g ) (thenK (fun σ => tidyK td85_7 σ Kn) K) σ) x4 x5 x6 x7 x8 x9 = S85_0_0g  α x4 x5 x6 x7 (fun x5 x6 x7 => u85_0_0 Kn x4 x5 x6 x7 x8 x9) (fun (y1 : Int) (y2 : Bool) (y3 : Int) (y4 : Int) => u85_0_1 (K (.exit 0)) x4 y1 y2 y3 y4 x8 x9) := by kernel_rfl
theorem r85_0_0 (α : Type) (K : Exit → St → Option α) (Kn : St → Option α) (x4 x5 x6 x7 x8 x9 : Int) : u85_0_0 (fun σ => runM Try.prog E85_0 sh85 c85_0_7 (thenK (fun σ => tidyK td85_7 σ Kn) K) σ) x4 x5 x6 x7 x8 x9 = S85_0_0 α x4 x5 x6 x7 (fun x5 x6 x7 => u85_0_0 Kn x4 x5 x6 x7 x8 x9) (fun (y1 : Int) (y2 : Bool) (y3 : Int) (y4 : Int) => u85_0_1 (K (.exit 0)) x4 y1 y2 y3 y4 x8 x9) := r85_0_0g  α K Kn x4 x5 x6 x7 x8 x9
theorem t85_0_0 (α : Type) (K : Exit → St → Option α) : ∀ (n : Nat) (x4 x5 x6 x7 x8 x9 : Int), R85_0_0 α x4 (fun (y1 : Int) (y2 : Bool) (y3 : Int) (y4 : Int) => u85_0_1 (K (.exit 0)) x4 y1 y2 y3 y4 x8 x9) n x5 x6 x7 = u85_0_0 (loopT (runM Try.prog E85_0 sh85 c85_0_7) td85_7 K n) x4 x5 x6 x7 x8 x9 := by
 intro n
 induction n with
 | zero => intros; rfl
 | succ n ih => intro x4 x5 x6 x7 x8 x9; exact (congrArg (fun kn => S85_0_0 α x4 x5 x6 x7 kn (fun (y1 : Int) (y2 : Bool) (y3 : Int) (y4 : Int) => u85_0_1 (K (.exit 0)) x4 y1 y2 y3 y4 x8 x9)) (funext fun x5 => funext fun x6 => funext fun x7 => ih x4 x5 x6 x7 x8 x9)).trans (r85_0_0 α K (loopT (runM Try.prog E85_0 sh85 c85_0_7) td85_7 K n) x4 x5 x6 x7 x8 x9).symm
theorem m85_0_0 : ∀ (α : Type) (K : Exit → St → Option α), F85_0_0 L85_0_0 α K = p85_0_0.unc fun σ => loopT (runM Try.prog E85_0 sh85 c85_0_7) td85_7 K fuel σ := fun α K => funext fun x4 => funext fun x5 => funext fun x6 => funext fun x7 => funext fun x8 => funext fun x9 => t85_0_0 α K fuel x4 x5 x6 x7 x8 x9
abbrev Tf85_0 : Type 1 := (α : Type) → Int → Int → Int → (Int → Int → Option α) → Option α
def f85_0g (vL85_0_0 : TL85_0_0) (α : Type) (x1 x2 x3 : Int) (k1 : Int → Int → Option α) : Option α :=
 vL85_0_0 α x3
 (fun x11 x12 x13 x14 => k1 x13 x14) 0 x1 x2
noncomputable def f85_0 (α : Type) (x1 x2 x3 : Int) (k1 : Int → Int → Option α) : Option α := f85_0g L85_0_0 α x1 x2 x3 k1
def pa85_0 : PT (List DV) := pA [pV true [(dI .i64), (dI .i64)], pV false [(dI .i64)]]
def Fn85_0 (v : Tf85_0) (α : Type) (k : List RV → Option α) : Int → Int → Int → Option α := fun x1 x2 x3 => v α x1 x2 x3 (fun (y1 : Int) (y2 : Int) => ur85_0_0 k y1 y2)
noncomputable def cm85_0g (vL85_0_0 : TL85_0_0) : MCode := (.seq (.region r85_2 [] (tO [1, 2, 4])) (.seq (.seq (.region r85_5 [] (tO [2, 4, 5, 6])) (.block 0 (.loop td85_7 [⟨p85_0_0, F85_0_0 vL85_0_0⟩] c85_0_7))) (.seq (.region r85_17 [] (tO [4])) .ret)))
noncomputable def cm85_0 : MCode := cm85_0g L85_0_0
theorem gm85_0 : cm85_0.Good Try.prog E85_0 sh85 := ⟨trivial, ⟨⟨trivial, ⟨g85_0_7, m85_0_0, trivial⟩⟩, ⟨trivial, trivial⟩⟩⟩
theorem fm85_0g  (vL85_0_0 : TL85_0_0) (α : Type) (k : List RV → Option α) : Fn85_0 (f85_0g vL85_0_0) α k = pa85_0.unc fun ds => fnM Try.prog (E85_0g ) sh85 (cm85_0g vL85_0_0) rs85 k ds := by kernel_rfl
theorem fm85_0 : ∀ (α : Type) (k : List RV → Option α), Fn85_0 f85_0 α k = pa85_0.unc fun ds => fnM Try.prog E85_0 sh85 cm85_0 rs85 k ds := fm85_0g L85_0_0
theorem is85 : FnIs Try.prog 85 nt85 tr85 tl85 cm85_0.erase rs85 := ⟨Try.f85, Try.func85, rfl, by kernel_rfl, by kernel_rfl, by kernel_rfl⟩
theorem io85_0 : InstOk Try.prog 85 nt85 ⟨pa85_0, Fn85_0 f85_0⟩ := inst_ok eo85_0 followsTry is85 ⟨⟨sh85, cm85_0, by kernel_rfl, gm85_0, fm85_0⟩⟩
abbrev nt98 : Nat := 14
def sh98 : List (Nat × List Sh) := [(4, [.int .i64]), (6, [.int .i64]), (9, [.int .i64]), (11, [.int .i64])]
def r98_2 : List AOper := [oO 1 (.box (.tmp 0)), oO 2 (.mv (kI 0))]
def r98_4 : List AOper := [oO 3 (.faddr 0 (.tmp 1)), oO 4 (.load false 1 (.tmp 3)), oO 5 (.faddr 0 (.tmp 1)), oO 6 (.load false 1 (.tmp 5)), oO 7 (.bin .mul 3 (.tmp 4) (.tmp 6)), oO 8 (.faddr 1 (.tmp 1)), oO 9 (.load false 1 (.tmp 8)), oO 10 (.faddr 1 (.tmp 1)), oO 11 (.load false 1 (.tmp 10)), oO 12 (.bin .mul 3 (.tmp 9) (.tmp 11)), oO 13 (.bin .add 3 (.tmp 7) (.tmp 12)), oM 2 13]
def tr98 : List (Nat × Tidy) := [tT 0 [1], tT 1 [2]]
def tl98 : List (Nat × Tidy) := []
def rs98 : List AResV := [.tmp 2]
def pr98_0_0 : PT (List RV) := pRs [pR false [rD (dI .i64)]]
def ur98_0_0 {β : Type} (g : List RV → β) : Int → β := pr98_0_0.unc g
def E98_0g  : EnvK := EnvK.of [] noSeq
noncomputable def E98_0 : EnvK := E98_0g 
theorem eo98_0 : E98_0.Ok Try.prog := EnvK.of_ok noSeq_ok trivial
abbrev Tf98_0 : Type 1 := (α : Type) → Int → Int → (Int → Option α) → Option α
def f98_0g  (α : Type) (x1 x2 : Int) (k1 : Int → Option α) : Option α :=
 k1 (w64 ((w64 (x1 * x1)) + (w64 (x2 * x2))))
noncomputable def f98_0 (α : Type) (x1 x2 : Int) (k1 : Int → Option α) : Option α := f98_0g  α x1 x2 k1
def pa98_0 : PT (List DV) := pA [pV true [(dI .i64), (dI .i64)]]
def Fn98_0 (v : Tf98_0) (α : Type) (k : List RV → Option α) : Int → Int → Option α := fun x1 x2 => v α x1 x2 (fun (y1 : Int) => ur98_0_0 k y1)
noncomputable def cm98_0g  : MCode := (.seq (.region r98_2 [] (tO [1])) (.seq (.region r98_4 [] (tO [2])) .ret))
noncomputable def cm98_0 : MCode := cm98_0g 
theorem gm98_0 : cm98_0.Good Try.prog E98_0 sh98 := ⟨trivial, ⟨trivial, trivial⟩⟩
theorem fm98_0g   (α : Type) (k : List RV → Option α) : Fn98_0 (f98_0g ) α k = pa98_0.unc fun ds => fnM Try.prog (E98_0g ) sh98 (cm98_0g ) rs98 k ds := by kernel_rfl
theorem fm98_0 : ∀ (α : Type) (k : List RV → Option α), Fn98_0 f98_0 α k = pa98_0.unc fun ds => fnM Try.prog E98_0 sh98 cm98_0 rs98 k ds := fm98_0g 
theorem is98 : FnIs Try.prog 98 nt98 tr98 tl98 cm98_0.erase rs98 := ⟨Try.f98, Try.func98, rfl, by kernel_rfl, by kernel_rfl, by kernel_rfl⟩
theorem io98_0 : InstOk Try.prog 98 nt98 ⟨pa98_0, Fn98_0 f98_0⟩ := inst_ok eo98_0 followsTry is98 ⟨⟨sh98, cm98_0, by kernel_rfl, gm98_0, fm98_0⟩⟩
abbrev nt97 : Nat := 16
def sh97 : List (Nat × List Sh) := [(6, [.int .i64]), (8, [.int .i64]), (11, [.int .i64]), (13, [.int .i64])]
def r97_2 : List AOper := [oO 2 (.box (.tmp 0)), oO 3 (.box (.tmp 1)), oO 4 (.alloc [(cI 0), (cI 0)])]
def r97_4 : List AOper := [oO 5 (.faddr 0 (.tmp 2)), oO 6 (.load false 1 (.tmp 5)), oO 7 (.faddr 0 (.tmp 3)), oO 8 (.load false 1 (.tmp 7)), oO 9 (.bin .add 3 (.tmp 6) (.tmp 8)), oO 10 (.faddr 1 (.tmp 2)), oO 11 (.load false 1 (.tmp 10)), oO 12 (.faddr 1 (.tmp 3)), oO 13 (.load false 1 (.tmp 12)), oO 14 (.bin .add 3 (.tmp 11) (.tmp 13)), oO 15 (.build [(cI 0), (cI 0)] [(0, 1, (.tmp 9)), (1, 1, (.tmp 14))]), oD (.store 2 (.tmp 4) (.tmp 15))]
def tr97 : List (Nat × Tidy) := [tT 0 [2, 3, 4], tT 1 [4]]
def tl97 : List (Nat × Tidy) := []
def rs97 : List AResV := [.cell 4 true 2]
def pr97_0_0 : PT (List RV) := pRs [pR true [rD (dI .i64), rD (dI .i64)]]
def ur97_0_0 {β : Type} (g : List RV → β) : Int → Int → β := pr97_0_0.unc g
def E97_0g  : EnvK := EnvK.of [] noSeq
noncomputable def E97_0 : EnvK := E97_0g 
theorem eo97_0 : E97_0.Ok Try.prog := EnvK.of_ok noSeq_ok trivial
abbrev Tf97_0 : Type 1 := (α : Type) → Int → Int → Int → Int → (Int → Int → Option α) → Option α
def f97_0g  (α : Type) (x1 x2 x3 x4 : Int) (k1 : Int → Int → Option α) : Option α :=
 k1 (w64 (x1 + x3)) (w64 (x2 + x4))
noncomputable def f97_0 (α : Type) (x1 x2 x3 x4 : Int) (k1 : Int → Int → Option α) : Option α := f97_0g  α x1 x2 x3 x4 k1
def pa97_0 : PT (List DV) := pA [pV true [(dI .i64), (dI .i64)], pV true [(dI .i64), (dI .i64)]]
def Fn97_0 (v : Tf97_0) (α : Type) (k : List RV → Option α) : Int → Int → Int → Int → Option α := fun x1 x2 x3 x4 => v α x1 x2 x3 x4 (fun (y1 : Int) (y2 : Int) => ur97_0_0 k y1 y2)
noncomputable def cm97_0g  : MCode := (.seq (.region r97_2 [] (tO [2, 3, 4])) (.seq (.region r97_4 [] (tO [4])) .ret))
noncomputable def cm97_0 : MCode := cm97_0g 
theorem gm97_0 : cm97_0.Good Try.prog E97_0 sh97 := ⟨trivial, ⟨trivial, trivial⟩⟩
theorem fm97_0g   (α : Type) (k : List RV → Option α) : Fn97_0 (f97_0g ) α k = pa97_0.unc fun ds => fnM Try.prog (E97_0g ) sh97 (cm97_0g ) rs97 k ds := by kernel_rfl
theorem fm97_0 : ∀ (α : Type) (k : List RV → Option α), Fn97_0 f97_0 α k = pa97_0.unc fun ds => fnM Try.prog E97_0 sh97 cm97_0 rs97 k ds := fm97_0g 
theorem is97 : FnIs Try.prog 97 nt97 tr97 tl97 cm97_0.erase rs97 := ⟨Try.f97, Try.func97, rfl, by kernel_rfl, by kernel_rfl, by kernel_rfl⟩
theorem io97_0 : InstOk Try.prog 97 nt97 ⟨pa97_0, Fn97_0 f97_0⟩ := inst_ok eo97_0 followsTry is97 ⟨⟨sh97, cm97_0, by kernel_rfl, gm97_0, fm97_0⟩⟩
abbrev nt96 : Nat := 5
def sh96 : List (Nat × List Sh) := []
def r96_2 : List AOper := [oO 2 (.mv (.const (.float Go.FloatKind.f64 0)))]
def r96_4 : List AOper := [oM 3 0, oO 4 (.pure (oB (.call { callee := .value (.func 101), args := #[(.tmp 3)], argTypes := #[118] }) 118)), oM 2 4]
def tr96 : List (Nat × Tidy) := [tT 0 [0], tT 1 [2]]
def tl96 : List (Nat × Tidy) := []
def rs96 : List AResV := [.tmp 2]
def pr96_0_0 : PT (List RV) := pRs [pR false [rD (dF .f64)]]
def ur96_0_0 {β : Type} (g : List RV → β) : Nat → β := pr96_0_0.unc g
def E96_0g  : EnvK := EnvK.of [] noSeq
noncomputable def E96_0 : EnvK := E96_0g 
theorem eo96_0 : E96_0.Ok Try.prog := EnvK.of_ok noSeq_ok trivial
abbrev Tf96_0 : Type 1 := (α : Type) → Nat → (Nat → Option α) → Option α
def f96_0g  (α : Type) (x1 : Nat) (k1 : Nat → Option α) : Option α :=
 flK ((FloatKind.format .f64).sqrt x1)
 (fun x2 => k1 x2)
noncomputable def f96_0 (α : Type) (x1 : Nat) (k1 : Nat → Option α) : Option α := f96_0g  α x1 k1
def pa96_0 : PT (List DV) := pA [pV false [(dF .f64)]]
def Fn96_0 (v : Tf96_0) (α : Type) (k : List RV → Option α) : Nat → Option α := fun x1 => v α x1 (fun (y1 : Nat) => ur96_0_0 k y1)
noncomputable def cm96_0g  : MCode := (.seq (.region r96_2 [] (tO [0])) (.seq (.region r96_4 [] (tO [2])) .ret))
noncomputable def cm96_0 : MCode := cm96_0g 
theorem gm96_0 : cm96_0.Good Try.prog E96_0 sh96 := ⟨trivial, ⟨trivial, trivial⟩⟩
theorem fm96_0g   (α : Type) (k : List RV → Option α) : Fn96_0 (f96_0g ) α k = pa96_0.unc fun ds => fnM Try.prog (E96_0g ) sh96 (cm96_0g ) rs96 k ds := by kernel_rfl
theorem fm96_0 : ∀ (α : Type) (k : List RV → Option α), Fn96_0 f96_0 α k = pa96_0.unc fun ds => fnM Try.prog E96_0 sh96 cm96_0 rs96 k ds := fm96_0g 
theorem is96 : FnIs Try.prog 96 nt96 tr96 tl96 cm96_0.erase rs96 := ⟨Try.f96, Try.func96, rfl, by kernel_rfl, by kernel_rfl, by kernel_rfl⟩
theorem io96_0 : InstOk Try.prog 96 nt96 ⟨pa96_0, Fn96_0 f96_0⟩ := inst_ok eo96_0 followsTry is96 ⟨⟨sh96, cm96_0, by kernel_rfl, gm96_0, fm96_0⟩⟩
abbrev nt77 : Nat := 16
def sh77 : List (Nat × List Sh) := []
def r77_2 : List AOper := [oO 4 (.mv (kI 0))]
def r77_4 : List AOper := [oM 6 0, oM 7 1, oO 8 (.bin .quo 3 (.tmp 6) (.tmp 7)), oM 5 8]
def r77_7 : List AOper := [oM 9 0, oM 10 1, oO 11 (.bin .rem 3 (.tmp 9) (.tmp 10)), oO 12 (.bin .lss 3 (.tmp 11) (kI 0))]
def r77_9 : List AOper := [oM 13 5, oO 14 (.bin .sub 3 (.tmp 13) (kI 1)), oM 5 14]
def r77_11 : List AOper := [oM 15 5, oM 4 15]
def tr77 : List (Nat × Tidy) := [tT 0 [0, 1], tT 1 [0, 1, 5], tT 2 [5, 12], tT 3 [5], tT 4 [4]]
def tl77 : List (Nat × Tidy) := []
def rs77 : List AResV := [.tmp 4]
def pr77_0_0 : PT (List RV) := pRs [pR false [rD (dI .i64)]]
def ur77_0_0 {β : Type} (g : List RV → β) : Int → β := pr77_0_0.unc g
def E77_0g  : EnvK := EnvK.of [] noSeq
noncomputable def E77_0 : EnvK := E77_0g 
theorem eo77_0 : E77_0.Ok Try.prog := EnvK.of_ok noSeq_ok trivial
abbrev Tf77_0 : Type 1 := (α : Type) → Int → Int → (Int → Option α) → Option α
def f77_0g  (α : Type) (x1 x2 : Int) (k1 : Int → Option α) : Option α :=
 gK (x2 != 0) (gK (x2 != 0) (cK (decide ((Int.tmod x1 x2) < 0))
 (k1 (w64 ((w64 (Int.tdiv x1 x2)) - 1)))
 (k1 (w64 (Int.tdiv x1 x2)))))
noncomputable def f77_0 (α : Type) (x1 x2 : Int) (k1 : Int → Option α) : Option α := f77_0g  α x1 x2 k1
def pa77_0 : PT (List DV) := pA [pV false [(dI .i64)], pV false [(dI .i64)]]
def Fn77_0 (v : Tf77_0) (α : Type) (k : List RV → Option α) : Int → Int → Option α := fun x1 x2 => v α x1 x2 (fun (y1 : Int) => ur77_0_0 k y1)
noncomputable def cm77_0g  : MCode := (.seq (.region r77_2 [] (tO [0, 1])) (.seq (.region r77_4 [] (tO [0, 1, 5])) (.seq (.seq (.region r77_7 [] (tO [5, 12])) (.cond (.tmp 12) (.region r77_9 [] (tO [5])) .skip)) (.seq (.region r77_11 [] (tO [4])) .ret))))
noncomputable def cm77_0 : MCode := cm77_0g 
theorem gm77_0 : cm77_0.Good Try.prog E77_0 sh77 := ⟨trivial, ⟨trivial, ⟨⟨trivial, ⟨trivial, trivial⟩⟩, ⟨trivial, trivial⟩⟩⟩⟩
theorem fm77_0g   (α : Type) (k : List RV → Option α) : Fn77_0 (f77_0g ) α k = pa77_0.unc fun ds => fnM Try.prog (E77_0g ) sh77 (cm77_0g ) rs77 k ds := by kernel_rfl
theorem fm77_0 : ∀ (α : Type) (k : List RV → Option α), Fn77_0 f77_0 α k = pa77_0.unc fun ds => fnM Try.prog E77_0 sh77 cm77_0 rs77 k ds := fm77_0g 
theorem is77 : FnIs Try.prog 77 nt77 tr77 tl77 cm77_0.erase rs77 := ⟨Try.f77, Try.func77, rfl, by kernel_rfl, by kernel_rfl, by kernel_rfl⟩
theorem io77_0 : InstOk Try.prog 77 nt77 ⟨pa77_0, Fn77_0 f77_0⟩ := inst_ok eo77_0 followsTry is77 ⟨⟨sh77, cm77_0, by kernel_rfl, gm77_0, fm77_0⟩⟩
abbrev nt75 : Nat := 15
def sh75 : List (Nat × List Sh) := []
def r75_2 : List AOper := [oO 6 (.mv (.const (.bool false)))]
def r75_4 : List AOper := [oM 7 1, oM 8 0, oO 9 (.bin .leq 3 (.tmp 7) (.tmp 8)), oM 10 9, oG 11 (.mv (.tmp 0)) 10 true, oG 12 (.mv (.tmp 2)) 10 true, oG 13 (.bin .leq 3 (.tmp 11) (.tmp 12)) 10 true, oO 14 (.pick (.tmp 10) (.tmp 13) (.const (.bool false))), oM 6 14]
def tr75 : List (Nat × Tidy) := [tT 0 [0, 1, 2], tT 1 [6]]
def tl75 : List (Nat × Tidy) := []
def rs75 : List AResV := [.tmp 6]
def pr75_0_0 : PT (List RV) := pRs [pR false [rD dB]]
def ur75_0_0 {β : Type} (g : List RV → β) : Bool → β := pr75_0_0.unc g
def E75_0g  : EnvK := EnvK.of [] noSeq
noncomputable def E75_0 : EnvK := E75_0g 
theorem eo75_0 : E75_0.Ok Try.prog := EnvK.of_ok noSeq_ok trivial
abbrev Tf75_0 : Type 1 := (α : Type) → Int → Int → Int → (Bool → Option α) → Option α
def f75_0g  (α : Type) (x1 x2 x3 : Int) (k1 : Bool → Option α) : Option α :=
 cK (decide (x2 ≤ x1))
 (k1 (decide (x1 ≤ x3)))
 (k1 false)
noncomputable def f75_0 (α : Type) (x1 x2 x3 : Int) (k1 : Bool → Option α) : Option α := f75_0g  α x1 x2 x3 k1
def pa75_0 : PT (List DV) := pA [pV false [(dI .i64)], pV false [(dI .i64)], pV false [(dI .i64)]]
def Fn75_0 (v : Tf75_0) (α : Type) (k : List RV → Option α) : Int → Int → Int → Option α := fun x1 x2 x3 => v α x1 x2 x3 (fun (y1 : Bool) => ur75_0_0 k y1)
noncomputable def cm75_0g  : MCode := (.seq (.region r75_2 [] (tO [0, 1, 2])) (.seq (.region r75_4 [] (tO [6])) .ret))
noncomputable def cm75_0 : MCode := cm75_0g 
theorem gm75_0 : cm75_0.Good Try.prog E75_0 sh75 := ⟨trivial, ⟨trivial, trivial⟩⟩
theorem fm75_0g   (α : Type) (k : List RV → Option α) : Fn75_0 (f75_0g ) α k = pa75_0.unc fun ds => fnM Try.prog (E75_0g ) sh75 (cm75_0g ) rs75 k ds := by kernel_rfl
theorem fm75_0 : ∀ (α : Type) (k : List RV → Option α), Fn75_0 f75_0 α k = pa75_0.unc fun ds => fnM Try.prog E75_0 sh75 cm75_0 rs75 k ds := fm75_0g 
theorem is75 : FnIs Try.prog 75 nt75 tr75 tl75 cm75_0.erase rs75 := ⟨Try.f75, Try.func75, rfl, by kernel_rfl, by kernel_rfl, by kernel_rfl⟩
theorem io75_0 : InstOk Try.prog 75 nt75 ⟨pa75_0, Fn75_0 f75_0⟩ := inst_ok eo75_0 followsTry is75 ⟨⟨sh75, cm75_0, by kernel_rfl, gm75_0, fm75_0⟩⟩
abbrev nt94 : Nat := 15
def sh94 : List (Nat × List Sh) := []
def r94_2 : List AOper := [oO 4 (.mv (.const (.bool false)))]
def r94_5 : List AOper := [oM 5 1, oO 6 (.bin .eql 3 (.tmp 5) (kI 0))]
def r94_7 : List AOper := [oM 7 0, oO 8 (.call 89 [(.tmp 7)]), oM 0 8]
def r94_9 : List AOper := [oM 9 1, oO 10 (.bin .lss 3 (.tmp 9) (kI 0))]
def r94_11 : List AOper := [oM 11 0, oO 12 (.pure (oB (.unOp .neg 118 (.tmp 11)) 118)), oM 0 12]
def r94_13 : List AOper := [oM 13 0, oO 14 (.bin .gtr 118 (.tmp 13) (.const (.float Go.FloatKind.f64 9218868437227405311))), oM 4 14]
def tr94 : List (Nat × Tidy) := [tT 0 [0, 1], tT 1 [0, 1, 6], tT 2 [0], tT 3 [0, 10], tT 4 [0], tT 5 [4]]
def tl94 : List (Nat × Tidy) := []
def rs94 : List AResV := [.tmp 4]
def pr94_0_0 : PT (List RV) := pRs [pR false [rD dB]]
def ur94_0_0 {β : Type} (g : List RV → β) : Bool → β := pr94_0_0.unc g
def E94_0g (vf89_0 : Tf89_0) : EnvK := EnvK.of [⟨89, nt89, [⟨pa89_0, Fn89_0 vf89_0⟩]⟩] noSeq
noncomputable def E94_0 : EnvK := E94_0g f89_0
theorem eo94_0 : E94_0.Ok Try.prog := EnvK.of_ok noSeq_ok ⟨⟨io89_0, trivial⟩, trivial⟩
abbrev Tf94_0 : Type 1 := (α : Type) → Nat → Int → (Bool → Option α) → Option α
def f94_0g (vf89_0 : Tf89_0) (α : Type) (x1 : Nat) (x2 : Int) (k1 : Bool → Option α) : Option α :=
 cK (x2 == 0)
 (vf89_0 α x1
 (fun x3 => k1 ((FloatKind.format .f64).order x3 9218868437227405311 == some Ordering.gt)))
 (cK (decide (x2 < 0))
 (k1 ((FloatKind.format .f64).order (Op.negFloat .f64 x1) 9218868437227405311 == some Ordering.gt))
 (k1 ((FloatKind.format .f64).order x1 9218868437227405311 == some Ordering.gt)))
noncomputable def f94_0 (α : Type) (x1 : Nat) (x2 : Int) (k1 : Bool → Option α) : Option α := f94_0g f89_0 α x1 x2 k1
def pa94_0 : PT (List DV) := pA [pV false [(dF .f64)], pV false [(dI .i64)]]
def Fn94_0 (v : Tf94_0) (α : Type) (k : List RV → Option α) : Nat → Int → Option α := fun x1 x2 => v α x1 x2 (fun (y1 : Bool) => ur94_0_0 k y1)
noncomputable def cm94_0g  : MCode := (.seq (.region r94_2 [] (tO [0, 1])) (.seq (.seq (.region r94_5 [] (tO [0, 1, 6])) (.cond (.tmp 6) (.region r94_7 [] (tO [0])) (.seq (.region r94_9 [] (tO [0, 10])) (.cond (.tmp 10) (.region r94_11 [] (tO [0])) .skip)))) (.seq (.region r94_13 [] (tO [4])) .ret)))
noncomputable def cm94_0 : MCode := cm94_0g 
theorem gm94_0 : cm94_0.Good Try.prog E94_0 sh94 := ⟨trivial, ⟨⟨trivial, ⟨trivial, ⟨trivial, ⟨trivial, trivial⟩⟩⟩⟩, ⟨trivial, trivial⟩⟩⟩
theorem fm94_0g (vf89_0 : Tf89_0)  (α : Type) (k : List RV → Option α) : Fn94_0 (f94_0g vf89_0) α k = pa94_0.unc fun ds => fnM Try.prog (E94_0g vf89_0) sh94 (cm94_0g ) rs94 k ds := by kernel_rfl
theorem fm94_0 : ∀ (α : Type) (k : List RV → Option α), Fn94_0 f94_0 α k = pa94_0.unc fun ds => fnM Try.prog E94_0 sh94 cm94_0 rs94 k ds := fm94_0g f89_0
theorem is94 : FnIs Try.prog 94 nt94 tr94 tl94 cm94_0.erase rs94 := ⟨Try.f94, Try.func94, rfl, by kernel_rfl, by kernel_rfl, by kernel_rfl⟩
theorem io94_0 : InstOk Try.prog 94 nt94 ⟨pa94_0, Fn94_0 f94_0⟩ := inst_ok eo94_0 followsTry is94 ⟨⟨sh94, cm94_0, by kernel_rfl, gm94_0, fm94_0⟩⟩
abbrev nt82 : Nat := 17
def sh82 : List (Nat × List Sh) := []
def r82_2 : List AOper := [oO 4 (.mv (kI 0)), oO 5 (.mv (.const (.bool false)))]
def r82_4 : List AOper := [oM 6 0, oO 7 (.bin .mul 3 (kI 2) (.tmp 6)), oM 8 1, oO 9 (.bin .add 3 (.tmp 7) (.tmp 8)), oM 10 1, oO 11 (.bin .mul 3 (kI 2) (.tmp 10)), oO 12 (.call 77 [(.tmp 9), (.tmp 11)]), oM 13 0, oM 14 1, oO 15 (.bin .rem 3 (.tmp 13) (.tmp 14)), oO 16 (.bin .neq 3 (.tmp 15) (kI 0)), oM 4 12, oM 5 16]
def tr82 : List (Nat × Tidy) := [tT 0 [0, 1], tT 1 [4, 5]]
def tl82 : List (Nat × Tidy) := []
def rs82 : List AResV := [.tmp 4, .tmp 5]
def pr82_0_0 : PT (List RV) := pRs [pR false [rD (dI .i64)], pR false [rD dB]]
def ur82_0_0 {β : Type} (g : List RV → β) : Int → Bool → β := pr82_0_0.unc g
def E82_0g (vf77_0 : Tf77_0) : EnvK := EnvK.of [⟨77, nt77, [⟨pa77_0, Fn77_0 vf77_0⟩]⟩] noSeq
noncomputable def E82_0 : EnvK := E82_0g f77_0
theorem eo82_0 : E82_0.Ok Try.prog := EnvK.of_ok noSeq_ok ⟨⟨io77_0, trivial⟩, trivial⟩
abbrev Tf82_0 : Type 1 := (α : Type) → Int → Int → (Int → Bool → Option α) → Option α
def f82_0g (vf77_0 : Tf77_0) (α : Type) (x1 x2 : Int) (k1 : Int → Bool → Option α) : Option α :=
 vf77_0 α (w64 ((w64 (2 * x1)) + x2)) (w64 (2 * x2))
 (fun x3 => gK (x2 != 0) (k1 x3 ((Int.tmod x1 x2) != 0)))
noncomputable def f82_0 (α : Type) (x1 x2 : Int) (k1 : Int → Bool → Option α) : Option α := f82_0g f77_0 α x1 x2 k1
def pa82_0 : PT (List DV) := pA [pV false [(dI .i64)], pV false [(dI .i64)]]
def Fn82_0 (v : Tf82_0) (α : Type) (k : List RV → Option α) : Int → Int → Option α := fun x1 x2 => v α x1 x2 (fun (y1 : Int) (y2 : Bool) => ur82_0_0 k y1 y2)
noncomputable def cm82_0g  : MCode := (.seq (.region r82_2 [] (tO [0, 1])) (.seq (.region r82_4 [] (tO [4, 5])) .ret))
noncomputable def cm82_0 : MCode := cm82_0g 
theorem gm82_0 : cm82_0.Good Try.prog E82_0 sh82 := ⟨trivial, ⟨trivial, trivial⟩⟩
theorem fm82_0g (vf77_0 : Tf77_0)  (α : Type) (k : List RV → Option α) : Fn82_0 (f82_0g vf77_0) α k = pa82_0.unc fun ds => fnM Try.prog (E82_0g vf77_0) sh82 (cm82_0g ) rs82 k ds := by kernel_rfl
theorem fm82_0 : ∀ (α : Type) (k : List RV → Option α), Fn82_0 f82_0 α k = pa82_0.unc fun ds => fnM Try.prog E82_0 sh82 cm82_0 rs82 k ds := fm82_0g f77_0
theorem is82 : FnIs Try.prog 82 nt82 tr82 tl82 cm82_0.erase rs82 := ⟨Try.f82, Try.func82, rfl, by kernel_rfl, by kernel_rfl, by kernel_rfl⟩
theorem io82_0 : InstOk Try.prog 82 nt82 ⟨pa82_0, Fn82_0 f82_0⟩ := inst_ok eo82_0 followsTry is82 ⟨⟨sh82, cm82_0, by kernel_rfl, gm82_0, fm82_0⟩⟩
abbrev nt91 : Nat := 25
def sh91 : List (Nat × List Sh) := []
def r91_2 : List AOper := [oO 2 (.mv (kI 0))]
def r91_4 : List AOper := [oM 4 0, oO 5 (.pure (oB (.convert 3 118 (.tmp 4)) 118)), oO 6 (.call 96 [(.tmp 5)]), oO 7 (.pure (oB (.convert 118 3 (.tmp 6)) 3)), oM 3 7]
def td91_7 : Option Tidy := (tO [0, 3])
def r91_10 : List AOper := [oM 8 3, oM 9 3, oO 10 (.bin .mul 3 (.tmp 8) (.tmp 9)), oM 11 0, oO 12 (.bin .gtr 3 (.tmp 10) (.tmp 11))]
def r91_13 : List AOper := [oM 13 3, oO 14 (.bin .sub 3 (.tmp 13) (kI 1)), oM 3 14]
def td91_16 : Option Tidy := (tO [0, 3])
def r91_19 : List AOper := [oM 15 3, oO 16 (.bin .add 3 (.tmp 15) (kI 1)), oM 17 3, oO 18 (.bin .add 3 (.tmp 17) (kI 1)), oO 19 (.bin .mul 3 (.tmp 16) (.tmp 18)), oM 20 0, oO 21 (.bin .leq 3 (.tmp 19) (.tmp 20))]
def r91_22 : List AOper := [oM 22 3, oO 23 (.bin .add 3 (.tmp 22) (kI 1)), oM 3 23]
def r91_24 : List AOper := [oM 24 3, oM 2 24]
def tr91 : List (Nat × Tidy) := [tT 0 [0], tT 1 [0, 3], tT 2 [0, 3, 12], tT 3 [0, 3], tT 4 [0, 3, 21], tT 5 [0, 3], tT 6 [2]]
def tl91 : List (Nat × Tidy) := [tT 2 [0, 3], tT 4 [0, 3]]
def rs91 : List AResV := [.tmp 2]
def p91_0_0 : PT St := pS [sl 0 (aV false [(cD (dI .i64))]), sl 3 (aV false [(cD (dI .i64))])] []
def u91_0_0 {β : Type} (g : St → β) : Int → Int → β := p91_0_0.unc g
def p91_0_1 : PT St := pS [sl 0 (aV false [(cD (dI .i64))]), sl 3 (aV false [(cD (dI .i64))]), sl 12 (aV false [(cD dB)])] []
def u91_0_1 {β : Type} (g : St → β) : Int → Int → Bool → β := p91_0_1.unc g
def p91_0_2 : PT St := pS [sl 0 (aV false [(cD (dI .i64))]), sl 3 (aV false [(cD (dI .i64))]), sl 21 (aV false [(cD dB)])] []
def u91_0_2 {β : Type} (g : St → β) : Int → Int → Bool → β := p91_0_2.unc g
def pr91_0_0 : PT (List RV) := pRs [pR false [rD (dI .i64)]]
def ur91_0_0 {β : Type} (g : List RV → β) : Int → β := pr91_0_0.unc g
def E91_0g (vf96_0 : Tf96_0) : EnvK := EnvK.of [⟨96, nt96, [⟨pa96_0, Fn96_0 vf96_0⟩]⟩] noSeq
noncomputable def E91_0 : EnvK := E91_0g f96_0
theorem eo91_0 : E91_0.Ok Try.prog := EnvK.of_ok noSeq_ok ⟨⟨io96_0, trivial⟩, trivial⟩
noncomputable def c91_0_16g  : MCode := (.seq (.seq (.region r91_19 [] (tO [0, 3, 21])) (.cond (.tmp 21) .skip (.exit 2))) (.block 3 (.region r91_22 [] (tO [0, 3]))))
noncomputable def c91_0_16 : MCode := c91_0_16g 
theorem g91_0_16 : c91_0_16.Good Try.prog E91_0 sh91 := ⟨⟨trivial, ⟨trivial, trivial⟩⟩, trivial⟩
--CODE 16 0
def S91_0_1g  (α : Type) (x10 x11 : Int) (kn : Int → Option α) (k1 : Int → Bool → Option α) : Option α :=
 cK (decide ((w64 ((w64 (x11 + 1)) * (w64 (x11 + 1)))) ≤ x10))
 (kn (w64 (x11 + 1)))
 (k1 x11 (decide ((w64 ((w64 (x11 + 1)) * (w64 (x11 + 1)))) ≤ x10)))
noncomputable def S91_0_1 (α : Type) (x10 x11 : Int) (kn : Int → Option α) (k1 : Int → Bool → Option α) : Option α := S91_0_1g  α x10 x11 kn k1
noncomputable def R91_0_1 (α : Type) (x10 : Int) (k1 : Int → Bool → Option α) : Nat → Int → Option α
 | 0, _ => none
 | n + 1, x11 => S91_0_1 α x10 x11 (R91_0_1 α x10 k1 n) k1
noncomputable def L91_0_1 (α : Type) (x10 : Int) (k1 : Int → Bool → Option α) (x11 : Int) : Option α := R91_0_1 α x10 k1 fuel x11
abbrev TL91_0_1 : Type 1 := (α : Type) → Int → (Int → Bool → Option α) → Int → Option α
def F91_0_1 (v : TL91_0_1) (α : Type) (K : Exit → St → Option α) : Int → Int → Option α := fun x10 x11 => v α x10 (fun (y1 : Int) (y2 : Bool) => u91_0_2 (K (.exit 2)) x10 y1 y2) x11
theorem r91_0_1g (vf96_0 : Tf96_0)  (α : Type) (K : Exit → St → Option α) (Kn : St → Option α) (x10 x11 : Int) : u91_0_0 (fun σ => runM Try.prog (E91_0g vf96_0) sh91 (c91_0_16g ) (thenK (fun σ => tidyK td91_16 σ Kn) K) σ) x10 x11 = S91_0_1g  α x10 x11 (fun x11 => u91_0_0 Kn x10 x11) (fun (y1 : Int) (y2 : Bool) => u91_0_2 (K (.exit 2)) x10 y1 y2) := by kernel_rfl
theorem r91_0_1 (α : Type) (K : Exit → St → Option α) (Kn : St → Option α) (x10 x11 : Int) : u91_0_0 (fun σ => runM Try.prog E91_0 sh91 c91_0_16 (thenK (fun σ => tidyK td91_16 σ Kn) K) σ) x10 x11 = S91_0_1 α x10 x11 (fun x11 => u91_0_0 Kn x10 x11) (fun (y1 : Int) (y2 : Bool) => u91_0_2 (K (.exit 2)) x10 y1 y2) := r91_0_1g f96_0 α K Kn x10 x11
theorem t91_0_1 (α : Type) (K : Exit → St → Option α) : ∀ (n : Nat) (x10 x11 : Int), R91_0_1 α x10 (fun (y1 : Int) (y2 : Bool) => u91_0_2 (K (.exit 2)) x10 y1 y2) n x11 = u91_0_0 (loopT (runM Try.prog E91_0 sh91 c91_0_16) td91_16 K n) x10 x11 := by
 intro n
 induction n with
 | zero => intros; rfl
 | succ n ih => intro x10 x11; exact (congrArg (fun kn => S91_0_1 α x10 x11 kn (fun (y1 : Int) (y2 : Bool) => u91_0_2 (K (.exit 2)) x10 y1 y2)) (funext fun x11 => ih x10 x11)).trans (r91_0_1 α K (loopT (runM Try.prog E91_0 sh91 c91_0_16) td91_16 K n) x10 x11).symm
theorem m91_0_1 : ∀ (α : Type) (K : Exit → St → Option α), F91_0_1 L91_0_1 α K = p91_0_0.unc fun σ => loopT (runM Try.prog E91_0 sh91 c91_0_16) td91_16 K fuel σ := fun α K => funext fun x10 => funext fun x11 => t91_0_1 α K fuel x10 x11
noncomputable def c91_0_7g  : MCode := (.seq (.seq (.region r91_10 [] (tO [0, 3, 12])) (.cond (.tmp 12) .skip (.exit 0))) (.block 1 (.region r91_13 [] (tO [0, 3]))))
noncomputable def c91_0_7 : MCode := c91_0_7g 
theorem g91_0_7 : c91_0_7.Good Try.prog E91_0 sh91 := ⟨⟨trivial, ⟨trivial, trivial⟩⟩, trivial⟩
--CODE 7 0
def S91_0_0g  (α : Type) (x4 x5 : Int) (kn : Int → Option α) (k1 : Int → Bool → Option α) : Option α :=
 cK (decide (x4 < (w64 (x5 * x5))))
 (kn (w64 (x5 - 1)))
 (k1 x5 (decide (x4 < (w64 (x5 * x5)))))
noncomputable def S91_0_0 (α : Type) (x4 x5 : Int) (kn : Int → Option α) (k1 : Int → Bool → Option α) : Option α := S91_0_0g  α x4 x5 kn k1
noncomputable def R91_0_0 (α : Type) (x4 : Int) (k1 : Int → Bool → Option α) : Nat → Int → Option α
 | 0, _ => none
 | n + 1, x5 => S91_0_0 α x4 x5 (R91_0_0 α x4 k1 n) k1
noncomputable def L91_0_0 (α : Type) (x4 : Int) (k1 : Int → Bool → Option α) (x5 : Int) : Option α := R91_0_0 α x4 k1 fuel x5
abbrev TL91_0_0 : Type 1 := (α : Type) → Int → (Int → Bool → Option α) → Int → Option α
def F91_0_0 (v : TL91_0_0) (α : Type) (K : Exit → St → Option α) : Int → Int → Option α := fun x4 x5 => v α x4 (fun (y1 : Int) (y2 : Bool) => u91_0_1 (K (.exit 0)) x4 y1 y2) x5
theorem r91_0_0g (vf96_0 : Tf96_0)  (α : Type) (K : Exit → St → Option α) (Kn : St → Option α) (x4 x5 : Int) : u91_0_0 (fun σ => runM Try.prog (E91_0g vf96_0) sh91 (c91_0_7g ) (thenK (fun σ => tidyK td91_7 σ Kn) K) σ) x4 x5 = S91_0_0g  α x4 x5 (fun x5 => u91_0_0 Kn x4 x5) (fun (y1 : Int) (y2 : Bool) => u91_0_1 (K (.exit 0)) x4 y1 y2) := by kernel_rfl
theorem r91_0_0 (α : Type) (K : Exit → St → Option α) (Kn : St → Option α) (x4 x5 : Int) : u91_0_0 (fun σ => runM Try.prog E91_0 sh91 c91_0_7 (thenK (fun σ => tidyK td91_7 σ Kn) K) σ) x4 x5 = S91_0_0 α x4 x5 (fun x5 => u91_0_0 Kn x4 x5) (fun (y1 : Int) (y2 : Bool) => u91_0_1 (K (.exit 0)) x4 y1 y2) := r91_0_0g f96_0 α K Kn x4 x5
theorem t91_0_0 (α : Type) (K : Exit → St → Option α) : ∀ (n : Nat) (x4 x5 : Int), R91_0_0 α x4 (fun (y1 : Int) (y2 : Bool) => u91_0_1 (K (.exit 0)) x4 y1 y2) n x5 = u91_0_0 (loopT (runM Try.prog E91_0 sh91 c91_0_7) td91_7 K n) x4 x5 := by
 intro n
 induction n with
 | zero => intros; rfl
 | succ n ih => intro x4 x5; exact (congrArg (fun kn => S91_0_0 α x4 x5 kn (fun (y1 : Int) (y2 : Bool) => u91_0_1 (K (.exit 0)) x4 y1 y2)) (funext fun x5 => ih x4 x5)).trans (r91_0_0 α K (loopT (runM Try.prog E91_0 sh91 c91_0_7) td91_7 K n) x4 x5).symm
theorem m91_0_0 : ∀ (α : Type) (K : Exit → St → Option α), F91_0_0 L91_0_0 α K = p91_0_0.unc fun σ => loopT (runM Try.prog E91_0 sh91 c91_0_7) td91_7 K fuel σ := fun α K => funext fun x4 => funext fun x5 => t91_0_0 α K fuel x4 x5
abbrev Tf91_0 : Type 1 := (α : Type) → Int → (Int → Option α) → Option α
def f91_0g (vL91_0_0 : TL91_0_0) (vL91_0_1 : TL91_0_1) (vf96_0 : Tf96_0) (α : Type) (x1 : Int) (k1 : Int → Option α) : Option α :=
 vf96_0 α (FloatKind.nearest .f64 x1)
 (fun x2 => ivK (f2i .f64 x2 .i64)
 (fun x3 => vL91_0_0 α x1
 (fun x7 x8 => vL91_0_1 α x1
 (fun x13 x14 => k1 x13) x7) x3))
noncomputable def f91_0 (α : Type) (x1 : Int) (k1 : Int → Option α) : Option α := f91_0g L91_0_0 L91_0_1 f96_0 α x1 k1
def pa91_0 : PT (List DV) := pA [pV false [(dI .i64)]]
def Fn91_0 (v : Tf91_0) (α : Type) (k : List RV → Option α) : Int → Option α := fun x1 => v α x1 (fun (y1 : Int) => ur91_0_0 k y1)
noncomputable def cm91_0g (vL91_0_0 : TL91_0_0) (vL91_0_1 : TL91_0_1) : MCode := (.seq (.region r91_2 [] (tO [0])) (.seq (.region r91_4 [] (tO [0, 3])) (.seq (.block 0 (.loop td91_7 [⟨p91_0_0, F91_0_0 vL91_0_0⟩] c91_0_7)) (.seq (.block 2 (.loop td91_16 [⟨p91_0_0, F91_0_1 vL91_0_1⟩] c91_0_16)) (.seq (.region r91_24 [] (tO [2])) .ret)))))
noncomputable def cm91_0 : MCode := cm91_0g L91_0_0 L91_0_1
theorem gm91_0 : cm91_0.Good Try.prog E91_0 sh91 := ⟨trivial, ⟨trivial, ⟨⟨g91_0_7, m91_0_0, trivial⟩, ⟨⟨g91_0_16, m91_0_1, trivial⟩, ⟨trivial, trivial⟩⟩⟩⟩⟩
theorem fm91_0g (vf96_0 : Tf96_0) (vL91_0_0 : TL91_0_0) (vL91_0_1 : TL91_0_1) (α : Type) (k : List RV → Option α) : Fn91_0 (f91_0g vL91_0_0 vL91_0_1 vf96_0) α k = pa91_0.unc fun ds => fnM Try.prog (E91_0g vf96_0) sh91 (cm91_0g vL91_0_0 vL91_0_1) rs91 k ds := by kernel_rfl
theorem fm91_0 : ∀ (α : Type) (k : List RV → Option α), Fn91_0 f91_0 α k = pa91_0.unc fun ds => fnM Try.prog E91_0 sh91 cm91_0 rs91 k ds := fm91_0g f96_0 L91_0_0 L91_0_1
theorem is91 : FnIs Try.prog 91 nt91 tr91 tl91 cm91_0.erase rs91 := ⟨Try.f91, Try.func91, rfl, by kernel_rfl, by kernel_rfl, by kernel_rfl⟩
theorem io91_0 : InstOk Try.prog 91 nt91 ⟨pa91_0, Fn91_0 f91_0⟩ := inst_ok eo91_0 followsTry is91 ⟨⟨sh91, cm91_0, by kernel_rfl, gm91_0, fm91_0⟩⟩
abbrev nt78 : Nat := 10
def sh78 : List (Nat × List Sh) := []
def r78_2 : List AOper := [oO 4 (.mv (kI 0))]
def r78_4 : List AOper := [oM 5 0, oO 6 (.pure (oB (.unOp .neg 3 (.tmp 5)) 3)), oM 7 1, oO 8 (.call 77 [(.tmp 6), (.tmp 7)]), oO 9 (.pure (oB (.unOp .neg 3 (.tmp 8)) 3)), oM 4 9]
def tr78 : List (Nat × Tidy) := [tT 0 [0, 1], tT 1 [4]]
def tl78 : List (Nat × Tidy) := []
def rs78 : List AResV := [.tmp 4]
def pr78_0_0 : PT (List RV) := pRs [pR false [rD (dI .i64)]]
def ur78_0_0 {β : Type} (g : List RV → β) : Int → β := pr78_0_0.unc g
def E78_0g (vf77_0 : Tf77_0) : EnvK := EnvK.of [⟨77, nt77, [⟨pa77_0, Fn77_0 vf77_0⟩]⟩] noSeq
noncomputable def E78_0 : EnvK := E78_0g f77_0
theorem eo78_0 : E78_0.Ok Try.prog := EnvK.of_ok noSeq_ok ⟨⟨io77_0, trivial⟩, trivial⟩
abbrev Tf78_0 : Type 1 := (α : Type) → Int → Int → (Int → Option α) → Option α
def f78_0g (vf77_0 : Tf77_0) (α : Type) (x1 x2 : Int) (k1 : Int → Option α) : Option α :=
 vf77_0 α (w64 (0 - x1)) x2
 (fun x3 => k1 (w64 (0 - x3)))
noncomputable def f78_0 (α : Type) (x1 x2 : Int) (k1 : Int → Option α) : Option α := f78_0g f77_0 α x1 x2 k1
def pa78_0 : PT (List DV) := pA [pV false [(dI .i64)], pV false [(dI .i64)]]
def Fn78_0 (v : Tf78_0) (α : Type) (k : List RV → Option α) : Int → Int → Option α := fun x1 x2 => v α x1 x2 (fun (y1 : Int) => ur78_0_0 k y1)
noncomputable def cm78_0g  : MCode := (.seq (.region r78_2 [] (tO [0, 1])) (.seq (.region r78_4 [] (tO [4])) .ret))
noncomputable def cm78_0 : MCode := cm78_0g 
theorem gm78_0 : cm78_0.Good Try.prog E78_0 sh78 := ⟨trivial, ⟨trivial, trivial⟩⟩
theorem fm78_0g (vf77_0 : Tf77_0)  (α : Type) (k : List RV → Option α) : Fn78_0 (f78_0g vf77_0) α k = pa78_0.unc fun ds => fnM Try.prog (E78_0g vf77_0) sh78 (cm78_0g ) rs78 k ds := by kernel_rfl
theorem fm78_0 : ∀ (α : Type) (k : List RV → Option α), Fn78_0 f78_0 α k = pa78_0.unc fun ds => fnM Try.prog E78_0 sh78 cm78_0 rs78 k ds := fm78_0g f77_0
theorem is78 : FnIs Try.prog 78 nt78 tr78 tl78 cm78_0.erase rs78 := ⟨Try.f78, Try.func78, rfl, by kernel_rfl, by kernel_rfl, by kernel_rfl⟩
theorem io78_0 : InstOk Try.prog 78 nt78 ⟨pa78_0, Fn78_0 f78_0⟩ := inst_ok eo78_0 followsTry is78 ⟨⟨sh78, cm78_0, by kernel_rfl, gm78_0, fm78_0⟩⟩
abbrev nt74 : Nat := 10
def sh74 : List (Nat × List Sh) := []
def r74_2 : List AOper := [oO 4 (.mv (.const (.bool false)))]
def r74_4 : List AOper := [oM 5 0, oM 6 1, oO 7 (.pure (oB (.unOp .neg 3 (.tmp 6)) 3)), oM 8 1, oO 9 (.call 75 [(.tmp 5), (.tmp 7), (.tmp 8)]), oM 4 9]
def tr74 : List (Nat × Tidy) := [tT 0 [0, 1], tT 1 [4]]
def tl74 : List (Nat × Tidy) := []
def rs74 : List AResV := [.tmp 4]
def pr74_0_0 : PT (List RV) := pRs [pR false [rD dB]]
def ur74_0_0 {β : Type} (g : List RV → β) : Bool → β := pr74_0_0.unc g
def E74_0g (vf75_0 : Tf75_0) : EnvK := EnvK.of [⟨75, nt75, [⟨pa75_0, Fn75_0 vf75_0⟩]⟩] noSeq
noncomputable def E74_0 : EnvK := E74_0g f75_0
theorem eo74_0 : E74_0.Ok Try.prog := EnvK.of_ok noSeq_ok ⟨⟨io75_0, trivial⟩, trivial⟩
abbrev Tf74_0 : Type 1 := (α : Type) → Int → Int → (Bool → Option α) → Option α
def f74_0g (vf75_0 : Tf75_0) (α : Type) (x1 x2 : Int) (k1 : Bool → Option α) : Option α :=
 vf75_0 α x1 (w64 (0 - x2)) x2
 (fun x3 => k1 x3)
noncomputable def f74_0 (α : Type) (x1 x2 : Int) (k1 : Bool → Option α) : Option α := f74_0g f75_0 α x1 x2 k1
def pa74_0 : PT (List DV) := pA [pV false [(dI .i64)], pV false [(dI .i64)]]
def Fn74_0 (v : Tf74_0) (α : Type) (k : List RV → Option α) : Int → Int → Option α := fun x1 x2 => v α x1 x2 (fun (y1 : Bool) => ur74_0_0 k y1)
noncomputable def cm74_0g  : MCode := (.seq (.region r74_2 [] (tO [0, 1])) (.seq (.region r74_4 [] (tO [4])) .ret))
noncomputable def cm74_0 : MCode := cm74_0g 
theorem gm74_0 : cm74_0.Good Try.prog E74_0 sh74 := ⟨trivial, ⟨trivial, trivial⟩⟩
theorem fm74_0g (vf75_0 : Tf75_0)  (α : Type) (k : List RV → Option α) : Fn74_0 (f74_0g vf75_0) α k = pa74_0.unc fun ds => fnM Try.prog (E74_0g vf75_0) sh74 (cm74_0g ) rs74 k ds := by kernel_rfl
theorem fm74_0 : ∀ (α : Type) (k : List RV → Option α), Fn74_0 f74_0 α k = pa74_0.unc fun ds => fnM Try.prog E74_0 sh74 cm74_0 rs74 k ds := fm74_0g f75_0
theorem is74 : FnIs Try.prog 74 nt74 tr74 tl74 cm74_0.erase rs74 := ⟨Try.f74, Try.func74, rfl, by kernel_rfl, by kernel_rfl, by kernel_rfl⟩
theorem io74_0 : InstOk Try.prog 74 nt74 ⟨pa74_0, Fn74_0 f74_0⟩ := inst_ok eo74_0 followsTry is74 ⟨⟨sh74, cm74_0, by kernel_rfl, gm74_0, fm74_0⟩⟩
abbrev nt88 : Nat := 12
def sh88 : List (Nat × List Sh) := []
def r88_2 : List AOper := [oO 2 (.mv (.const (.bool false)))]
def r88_4 : List AOper := [oM 3 0, oO 4 (.call 93 [(.tmp 3)]), oM 5 0, oO 6 (.bin .eql 118 (.tmp 4) (.tmp 5)), oM 7 6, oG 8 (.mv (.tmp 0)) 7 true, oG 9 (.call 94 [(.tmp 8), (kI 0)]) 7 true, oG 10 (.pure (oB (.unOp .not 4 (.tmp 9)) 4)) 7 true, oO 11 (.pick (.tmp 7) (.tmp 10) (.const (.bool false))), oM 2 11]
def tr88 : List (Nat × Tidy) := [tT 0 [0], tT 1 [2]]
def tl88 : List (Nat × Tidy) := []
def rs88 : List AResV := [.tmp 2]
def pr88_0_0 : PT (List RV) := pRs [pR false [rD dB]]
def ur88_0_0 {β : Type} (g : List RV → β) : Bool → β := pr88_0_0.unc g
def E88_0g (vf93_0 : Tf93_0) (vf94_0 : Tf94_0) : EnvK := EnvK.of [⟨93, nt93, [⟨pa93_0, Fn93_0 vf93_0⟩]⟩, ⟨94, nt94, [⟨pa94_0, Fn94_0 vf94_0⟩]⟩] noSeq
noncomputable def E88_0 : EnvK := E88_0g f93_0 f94_0
theorem eo88_0 : E88_0.Ok Try.prog := EnvK.of_ok noSeq_ok ⟨⟨io93_0, trivial⟩, ⟨io94_0, trivial⟩, trivial⟩
abbrev Tf88_0 : Type 1 := (α : Type) → Nat → (Bool → Option α) → Option α
def f88_0g (vf93_0 : Tf93_0) (vf94_0 : Tf94_0) (α : Type) (x1 : Nat) (k1 : Bool → Option α) : Option α :=
 vf93_0 α x1
 (k1 false)
 (fun x2 => cK ((FloatKind.format .f64).order x2 x1 == some Ordering.eq)
 (vf94_0 α x1 0
 (fun x3 => k1 (!x3)))
 (k1 false))
noncomputable def f88_0 (α : Type) (x1 : Nat) (k1 : Bool → Option α) : Option α := f88_0g f93_0 f94_0 α x1 k1
def pa88_0 : PT (List DV) := pA [pV false [(dF .f64)]]
def Fn88_0 (v : Tf88_0) (α : Type) (k : List RV → Option α) : Nat → Option α := fun x1 => v α x1 (fun (y1 : Bool) => ur88_0_0 k y1)
noncomputable def cm88_0g  : MCode := (.seq (.region r88_2 [] (tO [0])) (.seq (.region r88_4 [] (tO [2])) .ret))
noncomputable def cm88_0 : MCode := cm88_0g 
theorem gm88_0 : cm88_0.Good Try.prog E88_0 sh88 := ⟨trivial, ⟨trivial, trivial⟩⟩
theorem fm88_0g (vf93_0 : Tf93_0) (vf94_0 : Tf94_0)  (α : Type) (k : List RV → Option α) : Fn88_0 (f88_0g vf93_0 vf94_0) α k = pa88_0.unc fun ds => fnM Try.prog (E88_0g vf93_0 vf94_0) sh88 (cm88_0g ) rs88 k ds := by kernel_rfl
theorem fm88_0 : ∀ (α : Type) (k : List RV → Option α), Fn88_0 f88_0 α k = pa88_0.unc fun ds => fnM Try.prog E88_0 sh88 cm88_0 rs88 k ds := fm88_0g f93_0 f94_0
theorem is88 : FnIs Try.prog 88 nt88 tr88 tl88 cm88_0.erase rs88 := ⟨Try.f88, Try.func88, rfl, by kernel_rfl, by kernel_rfl, by kernel_rfl⟩
theorem io88_0 : InstOk Try.prog 88 nt88 ⟨pa88_0, Fn88_0 f88_0⟩ := inst_ok eo88_0 followsTry is88 ⟨⟨sh88, cm88_0, by kernel_rfl, gm88_0, fm88_0⟩⟩
abbrev nt83 : Nat := 29
def sh83 : List (Nat × List Sh) := [(6, [.int .i64]), (12, [.int .i64]), (18, [.int .i64]), (24, [.int .i64, .int .i64]), (27, [.int .i64])]
def r83_2 : List AOper := [oO 1 (.box (.tmp 0)), oO 2 (.alloc [(.d (.v (.complex Go.FloatKind.f64 0 0))), (cI 0)]), oO 3 (.mv (kI 0))]
def r83_5 : List AOper := [oO 4 (.faddr 0 (.tmp 1)), oO 5 (.faddr 0 (.tmp 4)), oO 6 (.load false 1 (.tmp 5)), oO 7 (.call 74 [(.tmp 6), (kI 67108864)]), oO 8 (.pure (oB (.unOp .not 4 (.tmp 7)) 4)), oM 9 8, oG 10 (.faddr 0 (.tmp 1)) 9 false, oG 11 (.faddr 1 (.tmp 10)) 9 false, oG 12 (.load false 1 (.tmp 11)) 9 false, oG 13 (.call 74 [(.tmp 12), (kI 67108864)]) 9 false, oG 14 (.pure (oB (.unOp .not 4 (.tmp 13)) 4)) 9 false, oO 15 (.pick (.tmp 9) (.const (.bool true)) (.tmp 14)), oM 16 15, oG 17 (.faddr 2 (.tmp 1)) 16 false, oG 18 (.load false 1 (.tmp 17)) 16 false, oG 19 (.call 75 [(.tmp 18), (kI 0), (kI 67108864)]) 16 false, oG 20 (.pure (oB (.unOp .not 4 (.tmp 19)) 4)) 16 false, oO 21 (.pick (.tmp 16) (.const (.bool true)) (.tmp 20))]
def r83_8 : List AOper := [oO 22 (.build [(.d (.v (.complex Go.FloatKind.f64 0 0))), (cI 0)] []), oD (.store 2 (.tmp 2) (.tmp 22)), oO 3 (.mv (kI 8))]
def r83_10 : List AOper := [oO 23 (.faddr 0 (.tmp 1)), oO 24 (.load true 2 (.tmp 23)), oO 25 (.call 87 [(.tmp 24)]), oO 26 (.faddr 2 (.tmp 1)), oO 27 (.load false 1 (.tmp 26)), oO 28 (.build [(.d (.v (.complex Go.FloatKind.f64 0 0))), (cI 0)] [(0, 1, (.tmp 25)), (1, 1, (.tmp 27))]), oD (.store 2 (.tmp 2) (.tmp 28)), oO 3 (.mv (kI 0))]
def tr83 : List (Nat × Tidy) := [tT 0 [1, 2], tT 1 [1, 2, 21], tT 2 [2, 3], tT 3 [2, 3]]
def tl83 : List (Nat × Tidy) := []
def rs83 : List AResV := [.cell 2 true 2, .tmp 3]
def p83_0_0 : PT St := pS [sl 1 (aV false [(cPtr 1 0)]), sl 2 (aV false [(cPtr 2 0)])] [eBox 1 [(cD (dI .i64)), (cD (dI .i64)), (cD (dI .i64))], eBox 2 [(cD (dX .f64)), (cD (dI .i64))]]
def u83_0_0 {β : Type} (g : St → β) : Int → Int → Int → Nat → Nat → Int → β := p83_0_0.unc g
def p83_0_1 : PT St := pS [sl 1 (aV false [(cPtr 1 0)]), sl 2 (aV false [(cPtr 2 0)]), sl 21 (aV false [(cD dB)])] [eBox 1 [(cD (dI .i64)), (cD (dI .i64)), (cD (dI .i64))], eBox 2 [(cD (dX .f64)), (cD (dI .i64))]]
def u83_0_1 {β : Type} (g : St → β) : Bool → Int → Int → Int → Nat → Nat → Int → β := p83_0_1.unc g
def pr83_0_0 : PT (List RV) := pRs [pR true [rD (dX .f64), rD (dI .i64)], pR false [rD (dI .i64)]]
def ur83_0_0 {β : Type} (g : List RV → β) : Nat → Nat → Int → Int → β := pr83_0_0.unc g
def E83_0g (vf74_0 : Tf74_0) (vf75_0 : Tf75_0) (vf87_0 : Tf87_0) : EnvK := EnvK.of [⟨74, nt74, [⟨pa74_0, Fn74_0 vf74_0⟩]⟩, ⟨75, nt75, [⟨pa75_0, Fn75_0 vf75_0⟩]⟩, ⟨87, nt87, [⟨pa87_0, Fn87_0 vf87_0⟩]⟩] noSeq
noncomputable def E83_0 : EnvK := E83_0g f74_0 f75_0 f87_0
theorem eo83_0 : E83_0.Ok Try.prog := EnvK.of_ok noSeq_ok ⟨⟨io74_0, trivial⟩, ⟨io75_0, trivial⟩, ⟨io87_0, trivial⟩, trivial⟩
noncomputable def c83_0_4g  : MCode := (.region r83_5 [] (tO [1, 2, 21]))
noncomputable def c83_0_4 : MCode := c83_0_4g 
theorem g83_0_4 : c83_0_4.Good Try.prog E83_0 sh83 := trivial
--CODE 4 0
abbrev TJ83_0_0 : Type 1 := (α : Type) → Int → Int → Int → (Bool → Option α) → Option α
def J83_0_0g (vf74_0 : Tf74_0) (vf75_0 : Tf75_0) (α : Type) (x4 x5 x6 : Int) (k1 : Bool → Option α) : Option α :=
 vf74_0 α x4 67108864
 (fun x11 => cK (!x11)
 (k1 true)
 (vf74_0 α x5 67108864
 (fun x12 => cK (!x12)
 (k1 true)
 (vf75_0 α x6 0 67108864
 (fun x13 => k1 (!x13))))))
noncomputable def J83_0_0 (α : Type) (x4 x5 x6 : Int) (k1 : Bool → Option α) : Option α := J83_0_0g f74_0 f75_0 α x4 x5 x6 k1
def F83_0_0 (v : TJ83_0_0) (α : Type) (K : Exit → St → Option α) : Int → Int → Int → Nat → Nat → Int → Option α := fun x4 x5 x6 x7 x8 x9 => v α x4 x5 x6 (fun (y1 : Bool) => u83_0_1 (K .normal) y1 x4 x5 x6 x7 x8 x9) 
theorem m83_0_0g (vf74_0 : Tf74_0) (vf75_0 : Tf75_0) (vf87_0 : Tf87_0)  (α : Type) (K : Exit → St → Option α) : F83_0_0 (J83_0_0g vf74_0 vf75_0) α K = p83_0_0.unc fun σ => runM Try.prog (E83_0g vf74_0 vf75_0 vf87_0) sh83 (c83_0_4g ) K σ := by kernel_rfl
theorem m83_0_0 : ∀ (α : Type) (K : Exit → St → Option α), F83_0_0 J83_0_0 α K = p83_0_0.unc fun σ => runM Try.prog E83_0 sh83 c83_0_4 K σ := m83_0_0g f74_0 f75_0 f87_0
abbrev Tf83_0 : Type 1 := (α : Type) → Int → Int → Int → (Nat → Nat → Int → Int → Option α) → Option α
def f83_0g (vJ83_0_0 : TJ83_0_0) (vf87_0 : Tf87_0) (α : Type) (x1 x2 x3 : Int) (k1 : Nat → Nat → Int → Int → Option α) : Option α :=
 vJ83_0_0 α x1 x2 x3
 (fun x14 => cK x14
 (k1 0 0 0 8)
 (vf87_0 α x1 x2
 (fun x16 x17 => k1 x16 x17 x3 0)))
noncomputable def f83_0 (α : Type) (x1 x2 x3 : Int) (k1 : Nat → Nat → Int → Int → Option α) : Option α := f83_0g J83_0_0 f87_0 α x1 x2 x3 k1
def pa83_0 : PT (List DV) := pA [pV true [(dI .i64), (dI .i64), (dI .i64)]]
def Fn83_0 (v : Tf83_0) (α : Type) (k : List RV → Option α) : Int → Int → Int → Option α := fun x1 x2 x3 => v α x1 x2 x3 (fun (y1 : Nat) (y2 : Nat) (y3 : Int) (y4 : Int) => ur83_0_0 k y1 y2 y3 y4)
noncomputable def cm83_0g (vJ83_0_0 : TJ83_0_0) : MCode := (.seq (.region r83_2 [] (tO [1, 2])) (.seq (.seq (.mark [⟨p83_0_0, F83_0_0 vJ83_0_0⟩] c83_0_4) (.cond (.tmp 21) (.seq (.region r83_8 [] (tO [2, 3])) .ret) .skip)) (.seq (.region r83_10 [(2, 4)] (tO [2, 3])) .ret)))
noncomputable def cm83_0 : MCode := cm83_0g J83_0_0
theorem gm83_0 : cm83_0.Good Try.prog E83_0 sh83 := ⟨trivial, ⟨⟨⟨g83_0_4, m83_0_0, trivial⟩, ⟨⟨trivial, trivial⟩, trivial⟩⟩, ⟨trivial, trivial⟩⟩⟩
theorem fm83_0g (vf74_0 : Tf74_0) (vf75_0 : Tf75_0) (vf87_0 : Tf87_0) (vJ83_0_0 : TJ83_0_0) (α : Type) (k : List RV → Option α) : Fn83_0 (f83_0g vJ83_0_0 vf87_0) α k = pa83_0.unc fun ds => fnM Try.prog (E83_0g vf74_0 vf75_0 vf87_0) sh83 (cm83_0g vJ83_0_0) rs83 k ds := by kernel_rfl
theorem fm83_0 : ∀ (α : Type) (k : List RV → Option α), Fn83_0 f83_0 α k = pa83_0.unc fun ds => fnM Try.prog E83_0 sh83 cm83_0 rs83 k ds := fm83_0g f74_0 f75_0 f87_0 J83_0_0
theorem is83 : FnIs Try.prog 83 nt83 tr83 tl83 cm83_0.erase rs83 := ⟨Try.f83, Try.func83, rfl, by kernel_rfl, by kernel_rfl, by kernel_rfl⟩
theorem io83_0 : InstOk Try.prog 83 nt83 ⟨pa83_0, Fn83_0 f83_0⟩ := inst_ok eo83_0 followsTry is83 ⟨⟨sh83, cm83_0, by kernel_rfl, gm83_0, fm83_0⟩⟩
abbrev nt92 : Nat := 24
def sh92 : List (Nat × List Sh) := [(7, [.int .i64, .int .i64]), (8, [.int .i64, .int .i64]), (10, [.int .i64, .int .i64]), (14, [.int .i64]), (19, [.int .i64])]
def r92_2 : List AOper := [oO 2 (.box (.tmp 0)), oO 3 (.box (.tmp 1)), oO 4 (.alloc [(cI 0), (cI 0)])]
def r92_4 : List AOper := [oO 7 (.load true 2 (.tmp 2)), oO 8 (.load true 2 (.tmp 3)), oO 9 (.call 97 [(.tmp 7), (.tmp 8)]), oO 5 (.alloc [(cI 0), (cI 0)]), oD (.store 2 (.tmp 5) (.tmp 9))]
def r92_6 : List AOper := [oO 10 (.load true 2 (.tmp 5)), oO 11 (.call 98 [(.tmp 10)]), oO 12 (.call 91 [(.tmp 11)]), oM 6 12]
def r92_8 : List AOper := [oO 13 (.faddr 0 (.tmp 5)), oO 14 (.load false 1 (.tmp 13)), oO 15 (.bin .mul 3 (.tmp 14) (kI 67108864)), oM 16 6, oO 17 (.bin .quo 3 (.tmp 15) (.tmp 16)), oO 18 (.faddr 1 (.tmp 5)), oO 19 (.load false 1 (.tmp 18)), oO 20 (.bin .mul 3 (.tmp 19) (kI 67108864)), oM 21 6, oO 22 (.bin .quo 3 (.tmp 20) (.tmp 21)), oO 23 (.build [(cI 0), (cI 0)] [(0, 1, (.tmp 17)), (1, 1, (.tmp 22))]), oD (.store 2 (.tmp 4) (.tmp 23))]
def tr92 : List (Nat × Tidy) := [tT 0 [2, 3, 4], tT 1 [4, 5], tT 2 [4, 5, 6], tT 3 [4]]
def tl92 : List (Nat × Tidy) := []
def rs92 : List AResV := [.cell 4 true 2]
def pr92_0_0 : PT (List RV) := pRs [pR true [rD (dI .i64), rD (dI .i64)]]
def ur92_0_0 {β : Type} (g : List RV → β) : Int → Int → β := pr92_0_0.unc g
def E92_0g (vf97_0 : Tf97_0) (vf98_0 : Tf98_0) (vf91_0 : Tf91_0) : EnvK := EnvK.of [⟨97, nt97, [⟨pa97_0, Fn97_0 vf97_0⟩]⟩, ⟨98, nt98, [⟨pa98_0, Fn98_0 vf98_0⟩]⟩, ⟨91, nt91, [⟨pa91_0, Fn91_0 vf91_0⟩]⟩] noSeq
noncomputable def E92_0 : EnvK := E92_0g f97_0 f98_0 f91_0
theorem eo92_0 : E92_0.Ok Try.prog := EnvK.of_ok noSeq_ok ⟨⟨io97_0, trivial⟩, ⟨io98_0, trivial⟩, ⟨io91_0, trivial⟩, trivial⟩
abbrev Tf92_0 : Type 1 := (α : Type) → Int → Int → Int → Int → (Int → Int → Option α) → Option α
def f92_0g (vf91_0 : Tf91_0) (vf97_0 : Tf97_0) (vf98_0 : Tf98_0) (α : Type) (x1 x2 x3 x4 : Int) (k1 : Int → Int → Option α) : Option α :=
 vf97_0 α x1 x2 x3 x4
 (fun x5 x6 => vf98_0 α x5 x6
 (fun x7 => vf91_0 α x7
 (fun x8 => gK (x8 != 0) (gK (x8 != 0) (k1 (w64 (Int.tdiv (w64 (x5 * 67108864)) x8)) (w64 (Int.tdiv (w64 (x6 * 67108864)) x8)))))))
noncomputable def f92_0 (α : Type) (x1 x2 x3 x4 : Int) (k1 : Int → Int → Option α) : Option α := f92_0g f91_0 f97_0 f98_0 α x1 x2 x3 x4 k1
def pa92_0 : PT (List DV) := pA [pV true [(dI .i64), (dI .i64)], pV true [(dI .i64), (dI .i64)]]
def Fn92_0 (v : Tf92_0) (α : Type) (k : List RV → Option α) : Int → Int → Int → Int → Option α := fun x1 x2 x3 x4 => v α x1 x2 x3 x4 (fun (y1 : Int) (y2 : Int) => ur92_0_0 k y1 y2)
noncomputable def cm92_0g  : MCode := (.seq (.region r92_2 [] (tO [2, 3, 4])) (.seq (.region r92_4 [] (tO [4, 5])) (.seq (.region r92_6 [] (tO [4, 5, 6])) (.seq (.region r92_8 [] (tO [4])) .ret))))
noncomputable def cm92_0 : MCode := cm92_0g 
theorem gm92_0 : cm92_0.Good Try.prog E92_0 sh92 := ⟨trivial, ⟨trivial, ⟨trivial, ⟨trivial, trivial⟩⟩⟩⟩
theorem fm92_0g (vf97_0 : Tf97_0) (vf98_0 : Tf98_0) (vf91_0 : Tf91_0)  (α : Type) (k : List RV → Option α) : Fn92_0 (f92_0g vf91_0 vf97_0 vf98_0) α k = pa92_0.unc fun ds => fnM Try.prog (E92_0g vf97_0 vf98_0 vf91_0) sh92 (cm92_0g ) rs92 k ds := by kernel_rfl
theorem fm92_0 : ∀ (α : Type) (k : List RV → Option α), Fn92_0 f92_0 α k = pa92_0.unc fun ds => fnM Try.prog E92_0 sh92 cm92_0 rs92 k ds := fm92_0g f97_0 f98_0 f91_0
theorem is92 : FnIs Try.prog 92 nt92 tr92 tl92 cm92_0.erase rs92 := ⟨Try.f92, Try.func92, rfl, by kernel_rfl, by kernel_rfl, by kernel_rfl⟩
theorem io92_0 : InstOk Try.prog 92 nt92 ⟨pa92_0, Fn92_0 f92_0⟩ := inst_ok eo92_0 followsTry is92 ⟨⟨sh92, cm92_0, by kernel_rfl, gm92_0, fm92_0⟩⟩
abbrev nt84 : Nat := 37
def sh84 : List (Nat × List Sh) := [(16, [.flt .f64, .flt .f64]), (25, [.flt .f64, .flt .f64])]
def r84_2 : List AOper := [oO 4 (.alloc [(cI 0), (cI 0)]), oO 5 (.mv (kI 0))]
def r84_4 : List AOper := [oM 11 0, oO 12 (.pure (oB (.call { callee := .builtin .real, args := #[(.tmp 11)], argTypes := #[48] }) 118)), oM 13 0, oO 14 (.pure (oB (.call { callee := .builtin .imag, args := #[(.tmp 13)], argTypes := #[48] }) 118)), oO 15 (.build [(.d (.v (.float Go.FloatKind.f64 0))), (.d (.v (.float Go.FloatKind.f64 0)))] [(0, 1, (.tmp 12)), (1, 1, (.tmp 14))]), oO 6 (.alloc [(.d (.v (.float Go.FloatKind.f64 0))), (.d (.v (.float Go.FloatKind.f64 0)))]), oD (.store 2 (.tmp 6) (.tmp 15))]
def r84_7 : List AOper := [oO 16 (.load true 2 (.tmp 6)), oO 17 (.mv (kI 0))]
def td84_9 : Option Tidy := (tO [0, 1, 4, 6, 16, 17])
def r84_11 : List AOper := [oO 18 (.bin .lss 3 (.tmp 17) (kI 2))]
def r84_17 : List AOper := [oO 19 (.index false 2 1 (.tmp 16) (.tmp 17)), oM 8 19]
def r84_19 : List AOper := [oM 20 8, oO 21 (.call 88 [(.tmp 20)]), oO 22 (.pure (oB (.unOp .not 4 (.tmp 21)) 4))]
def r84_22 : List AOper := [oO 23 (.build [(cI 0), (cI 0)] []), oD (.store 2 (.tmp 4) (.tmp 23)), oO 5 (.mv (kI 27))]
def r84_23 : List AOper := [oO 24 (.bin .add 3 (.tmp 17) (kI 1)), oM 17 24]
def r84_26 : List AOper := [oO 25 (.load true 2 (.tmp 6)), oO 26 (.mv (kI 0))]
def td84_28 : Option Tidy := (tO [0, 1, 4, 25, 26])
def r84_30 : List AOper := [oO 27 (.bin .lss 3 (.tmp 26) (kI 2))]
def r84_36 : List AOper := [oO 28 (.index false 2 1 (.tmp 25) (.tmp 26)), oM 10 28]
def r84_38 : List AOper := [oM 29 10, oO 30 (.call 89 [(.tmp 29)]), oM 31 1, oO 32 (.bin .gtr 118 (.tmp 30) (.tmp 31))]
def r84_41 : List AOper := [oO 33 (.build [(cI 0), (cI 0)] []), oD (.store 2 (.tmp 4) (.tmp 33)), oO 5 (.mv (kI 2))]
def r84_42 : List AOper := [oO 34 (.bin .add 3 (.tmp 26) (kI 1)), oM 26 34]
def r84_44 : List AOper := [oM 35 0, oO 36 (.call 90 [(.tmp 35)]), oD (.store 2 (.tmp 4) (.tmp 36)), oO 5 (.mv (kI 0))]
def tr84 : List (Nat × Tidy) := [tT 0 [0, 1, 4], tT 1 [0, 1, 4, 6], tT 2 [0, 1, 4, 6, 16, 17], tT 3 [0, 1, 4, 6, 16, 17, 18], tT 4 [0, 1, 4, 6, 8, 16, 17], tT 5 [0, 1, 4, 6, 16, 17, 22], tT 6 [4, 5], tT 7 [0, 1, 4, 6, 16, 17], tT 8 [0, 1, 4, 25, 26], tT 9 [0, 1, 4, 25, 26, 27], tT 10 [0, 1, 4, 10, 25, 26], tT 11 [0, 1, 4, 25, 26, 32], tT 12 [4, 5], tT 13 [0, 1, 4, 25, 26], tT 14 [4, 5]]
def tl84 : List (Nat × Tidy) := [tT 3 [0, 1, 4, 6, 16, 17], tT 9 [0, 1, 4, 25, 26]]
def rs84 : List AResV := [.cell 4 true 2, .tmp 5]
def p84_0_0 : PT St := pS [sl 0 (aV false [(cD (dX .f64))]), sl 1 (aV false [(cD (dF .f64))]), sl 4 (aV false [(cPtr 4 0)]), sl 6 (aV false [(cPtr 6 0)]), sl 16 (aV true [(cD (dF .f64)), (cD (dF .f64))]), sl 17 (aV false [(cD (dI .i64))]), sl 18 (aV false [(cD dB)])] [eBox 4 [(cD (dI .i64)), (cD (dI .i64))], eBox 6 [(cD (dF .f64)), (cD (dF .f64))]]
def u84_0_0 {β : Type} (g : St → β) : Nat → Nat → Nat → Nat → Nat → Int → Bool → Int → Int → Nat → Nat → β := p84_0_0.unc g
def p84_0_1 : PT St := pS [sl 0 (aV false [(cD (dX .f64))]), sl 1 (aV false [(cD (dF .f64))]), sl 4 (aV false [(cPtr 4 0)]), sl 6 (aV false [(cPtr 6 0)]), sl 8 (aV false [(cD (dF .f64))]), sl 16 (aV true [(cD (dF .f64)), (cD (dF .f64))]), sl 17 (aV false [(cD (dI .i64))])] [eBox 4 [(cD (dI .i64)), (cD (dI .i64))], eBox 6 [(cD (dF .f64)), (cD (dF .f64))]]
def u84_0_1 {β : Type} (g : St → β) : Nat → Nat → Nat → Nat → Nat → Nat → Int → Int → Int → Nat → Nat → β := p84_0_1.unc g
def p84_0_2 : PT St := pS [sl 0 (aV false [(cD (dX .f64))]), sl 1 (aV false [(cD (dF .f64))]), sl 4 (aV false [(cPtr 4 0)]), sl 6 (aV false [(cPtr 6 0)]), sl 16 (aV true [(cD (dF .f64)), (cD (dF .f64))]), sl 17 (aV false [(cD (dI .i64))])] [eBox 4 [(cD (dI .i64)), (cD (dI .i64))], eBox 6 [(cD (dF .f64)), (cD (dF .f64))]]
def u84_0_2 {β : Type} (g : St → β) : Nat → Nat → Nat → Nat → Nat → Int → Int → Int → Nat → Nat → β := p84_0_2.unc g
def p84_0_3 : PT St := pS [sl 4 (aV false [(cPtr 4 0)]), sl 5 (aV false [(cD (dI .i64))])] [eBox 4 [(cD (dI .i64)), (cD (dI .i64))]]
def u84_0_3 {β : Type} (g : St → β) : Int → Int → Int → β := p84_0_3.unc g
def p84_0_4 : PT St := pS [sl 0 (aV false [(cD (dX .f64))]), sl 1 (aV false [(cD (dF .f64))]), sl 4 (aV false [(cPtr 4 0)]), sl 25 (aV true [(cD (dF .f64)), (cD (dF .f64))]), sl 26 (aV false [(cD (dI .i64))]), sl 27 (aV false [(cD dB)])] [eBox 4 [(cD (dI .i64)), (cD (dI .i64))]]
def u84_0_4 {β : Type} (g : St → β) : Nat → Nat → Nat → Nat → Nat → Int → Bool → Int → Int → β := p84_0_4.unc g
def p84_0_5 : PT St := pS [sl 0 (aV false [(cD (dX .f64))]), sl 1 (aV false [(cD (dF .f64))]), sl 4 (aV false [(cPtr 4 0)]), sl 10 (aV false [(cD (dF .f64))]), sl 25 (aV true [(cD (dF .f64)), (cD (dF .f64))]), sl 26 (aV false [(cD (dI .i64))])] [eBox 4 [(cD (dI .i64)), (cD (dI .i64))]]
def u84_0_5 {β : Type} (g : St → β) : Nat → Nat → Nat → Nat → Nat → Nat → Int → Int → Int → β := p84_0_5.unc g
def p84_0_6 : PT St := pS [sl 0 (aV false [(cD (dX .f64))]), sl 1 (aV false [(cD (dF .f64))]), sl 4 (aV false [(cPtr 4 0)]), sl 25 (aV true [(cD (dF .f64)), (cD (dF .f64))]), sl 26 (aV false [(cD (dI .i64))])] [eBox 4 [(cD (dI .i64)), (cD (dI .i64))]]
def u84_0_6 {β : Type} (g : St → β) : Nat → Nat → Nat → Nat → Nat → Int → Int → Int → β := p84_0_6.unc g
def pr84_0_0 : PT (List RV) := pRs [pR true [rD (dI .i64), rD (dI .i64)], pR false [rD (dI .i64)]]
def ur84_0_0 {β : Type} (g : List RV → β) : Int → Int → Int → β := pr84_0_0.unc g
def E84_0g (vf88_0 : Tf88_0) (vf89_0 : Tf89_0) (vf90_0 : Tf90_0) : EnvK := EnvK.of [⟨88, nt88, [⟨pa88_0, Fn88_0 vf88_0⟩]⟩, ⟨89, nt89, [⟨pa89_0, Fn89_0 vf89_0⟩]⟩, ⟨90, nt90, [⟨pa90_0, Fn90_0 vf90_0⟩]⟩] noSeq
noncomputable def E84_0 : EnvK := E84_0g f88_0 f89_0 f90_0
theorem eo84_0 : E84_0.Ok Try.prog := EnvK.of_ok noSeq_ok ⟨⟨io88_0, trivial⟩, ⟨io89_0, trivial⟩, ⟨io90_0, trivial⟩, trivial⟩
noncomputable def c84_0_35g  : MCode := (.region r84_36 [] (tO [0, 1, 4, 10, 25, 26]))
noncomputable def c84_0_35 : MCode := c84_0_35g 
theorem g84_0_35 : c84_0_35.Good Try.prog E84_0 sh84 := trivial
--CODE 35 0
abbrev TJ84_0_2 : Type 1 := (α : Type) → Nat → Nat → Int → (Nat → Option α) → Option α
def J84_0_2g  (α : Type) (x45 x46 : Nat) (x47 : Int) (k1 : Nat → Option α) : Option α :=
 cK (x47 == 1)
 (k1 x46)
 (cK (x47 == 0)
 (k1 x45)
 (none))
noncomputable def J84_0_2 (α : Type) (x45 x46 : Nat) (x47 : Int) (k1 : Nat → Option α) : Option α := J84_0_2g  α x45 x46 x47 k1
def F84_0_2 (v : TJ84_0_2) (α : Type) (K : Exit → St → Option α) : Nat → Nat → Nat → Nat → Nat → Int → Bool → Int → Int → Option α := fun x42 x43 x44 x45 x46 x47 x48 x49 x50 => v α x45 x46 x47 (fun (y1 : Nat) => u84_0_5 (K .normal) x42 x43 x44 y1 x45 x46 x47 x49 x50) 
theorem m84_0_2g (vf88_0 : Tf88_0) (vf89_0 : Tf89_0) (vf90_0 : Tf90_0)  (α : Type) (K : Exit → St → Option α) : F84_0_2 (J84_0_2g ) α K = p84_0_4.unc fun σ => runM Try.prog (E84_0g vf88_0 vf89_0 vf90_0) sh84 (c84_0_35g ) K σ := by kernel_rfl
theorem m84_0_2 : ∀ (α : Type) (K : Exit → St → Option α), F84_0_2 J84_0_2 α K = p84_0_4.unc fun σ => runM Try.prog E84_0 sh84 c84_0_35 K σ := m84_0_2g f88_0 f89_0 f90_0
noncomputable def c84_0_28g (vJ84_0_2 : TJ84_0_2) : MCode := (.seq (.region r84_30 [] (tO [0, 1, 4, 25, 26, 27])) (.seq (.cond (.tmp 27) .skip (.exit 2)) (.seq (.block 3 (.seq (.mark [⟨p84_0_4, F84_0_2 vJ84_0_2⟩] c84_0_35) (.seq (.region r84_38 [] (tO [0, 1, 4, 25, 26, 32])) (.cond (.tmp 32) (.seq (.region r84_41 [] (tO [4, 5])) .ret) .skip)))) (.region r84_42 [] (tO [0, 1, 4, 25, 26])))))
noncomputable def c84_0_28 : MCode := c84_0_28g J84_0_2
theorem g84_0_28 : c84_0_28.Good Try.prog E84_0 sh84 := ⟨trivial, ⟨⟨trivial, trivial⟩, ⟨⟨⟨g84_0_35, m84_0_2, trivial⟩, ⟨trivial, ⟨⟨trivial, trivial⟩, trivial⟩⟩⟩, trivial⟩⟩⟩
--CODE 28 0
def S84_0_3g (vJ84_0_2 : TJ84_0_2) (vf89_0 : Tf89_0) (α : Type) (x35 x36 x37 : Nat) (x38 : Int) (kn : Int → Option α) (k1 : Option α) (k2 : Int → Bool → Option α) : Option α :=
 cK (decide (x38 < 2))
 (vJ84_0_2 α x36 x37 x38
 (fun x52 => vf89_0 α x52
 (fun x54 => cK ((FloatKind.format .f64).order x54 x35 == some Ordering.gt)
 (k1)
 (kn (w64 (x38 + 1))))))
 (k2 x38 (decide (x38 < 2)))
noncomputable def S84_0_3 (α : Type) (x35 x36 x37 : Nat) (x38 : Int) (kn : Int → Option α) (k1 : Option α) (k2 : Int → Bool → Option α) : Option α := S84_0_3g J84_0_2 f89_0 α x35 x36 x37 x38 kn k1 k2
noncomputable def R84_0_3 (α : Type) (x35 x36 x37 : Nat) (k1 : Option α) (k2 : Int → Bool → Option α) : Nat → Int → Option α
 | 0, _ => none
 | n + 1, x38 => S84_0_3 α x35 x36 x37 x38 (R84_0_3 α x35 x36 x37 k1 k2 n) k1 k2
noncomputable def L84_0_3 (α : Type) (x35 x36 x37 : Nat) (k1 : Option α) (k2 : Int → Bool → Option α) (x38 : Int) : Option α := R84_0_3 α x35 x36 x37 k1 k2 fuel x38
abbrev TL84_0_3 : Type 1 := (α : Type) → Nat → Nat → Nat → (Option α) → (Int → Bool → Option α) → Int → Option α
def F84_0_3 (v : TL84_0_3) (α : Type) (K : Exit → St → Option α) : Nat → Nat → Nat → Nat → Nat → Int → Int → Int → Option α := fun x33 x34 x35 x36 x37 x38 x39 x40 => v α x35 x36 x37 (u84_0_3 (K .ret) 2 0 0) (fun (y1 : Int) (y2 : Bool) => u84_0_4 (K (.exit 2)) x33 x34 x35 x36 x37 y1 y2 x39 x40) x38
theorem r84_0_3g (vf88_0 : Tf88_0) (vf89_0 : Tf89_0) (vf90_0 : Tf90_0) (vJ84_0_2 : TJ84_0_2) (α : Type) (K : Exit → St → Option α) (Kn : St → Option α) (x33 x34 x35 x36 x37 : Nat) (x38 x39 x40 : Int) : u84_0_6 (fun σ => runM Try.prog (E84_0g vf88_0 vf89_0 vf90_0) sh84 (c84_0_28g vJ84_0_2) (thenK (fun σ => tidyK td84_28 σ Kn) K) σ) x33 x34 x35 x36 x37 x38 x39 x40 = S84_0_3g vJ84_0_2 vf89_0 α x35 x36 x37 x38 (fun x38 => u84_0_6 Kn x33 x34 x35 x36 x37 x38 x39 x40) (u84_0_3 (K .ret) 2 0 0) (fun (y1 : Int) (y2 : Bool) => u84_0_4 (K (.exit 2)) x33 x34 x35 x36 x37 y1 y2 x39 x40) := by kernel_rfl
theorem r84_0_3 (α : Type) (K : Exit → St → Option α) (Kn : St → Option α) (x33 x34 x35 x36 x37 : Nat) (x38 x39 x40 : Int) : u84_0_6 (fun σ => runM Try.prog E84_0 sh84 c84_0_28 (thenK (fun σ => tidyK td84_28 σ Kn) K) σ) x33 x34 x35 x36 x37 x38 x39 x40 = S84_0_3 α x35 x36 x37 x38 (fun x38 => u84_0_6 Kn x33 x34 x35 x36 x37 x38 x39 x40) (u84_0_3 (K .ret) 2 0 0) (fun (y1 : Int) (y2 : Bool) => u84_0_4 (K (.exit 2)) x33 x34 x35 x36 x37 y1 y2 x39 x40) := r84_0_3g f88_0 f89_0 f90_0 J84_0_2 α K Kn x33 x34 x35 x36 x37 x38 x39 x40
theorem t84_0_3 (α : Type) (K : Exit → St → Option α) : ∀ (n : Nat) (x33 x34 x35 x36 x37 : Nat) (x38 x39 x40 : Int), R84_0_3 α x35 x36 x37 (u84_0_3 (K .ret) 2 0 0) (fun (y1 : Int) (y2 : Bool) => u84_0_4 (K (.exit 2)) x33 x34 x35 x36 x37 y1 y2 x39 x40) n x38 = u84_0_6 (loopT (runM Try.prog E84_0 sh84 c84_0_28) td84_28 K n) x33 x34 x35 x36 x37 x38 x39 x40 := by
 intro n
 induction n with
 | zero => intros; rfl
 | succ n ih => intro x33 x34 x35 x36 x37 x38 x39 x40; exact (congrArg (fun kn => S84_0_3 α x35 x36 x37 x38 kn (u84_0_3 (K .ret) 2 0 0) (fun (y1 : Int) (y2 : Bool) => u84_0_4 (K (.exit 2)) x33 x34 x35 x36 x37 y1 y2 x39 x40)) (funext fun x38 => ih x33 x34 x35 x36 x37 x38 x39 x40)).trans (r84_0_3 α K (loopT (runM Try.prog E84_0 sh84 c84_0_28) td84_28 K n) x33 x34 x35 x36 x37 x38 x39 x40).symm
theorem m84_0_3 : ∀ (α : Type) (K : Exit → St → Option α), F84_0_3 L84_0_3 α K = p84_0_6.unc fun σ => loopT (runM Try.prog E84_0 sh84 c84_0_28) td84_28 K fuel σ := fun α K => funext fun x33 => funext fun x34 => funext fun x35 => funext fun x36 => funext fun x37 => funext fun x38 => funext fun x39 => funext fun x40 => t84_0_3 α K fuel x33 x34 x35 x36 x37 x38 x39 x40
noncomputable def c84_0_16g  : MCode := (.region r84_17 [] (tO [0, 1, 4, 6, 8, 16, 17]))
noncomputable def c84_0_16 : MCode := c84_0_16g 
theorem g84_0_16 : c84_0_16.Good Try.prog E84_0 sh84 := trivial
--CODE 16 0
abbrev TJ84_0_0 : Type 1 := (α : Type) → Nat → Nat → Int → (Nat → Option α) → Option α
def J84_0_0g  (α : Type) (x18 x19 : Nat) (x20 : Int) (k1 : Nat → Option α) : Option α :=
 cK (x20 == 1)
 (k1 x19)
 (cK (x20 == 0)
 (k1 x18)
 (none))
noncomputable def J84_0_0 (α : Type) (x18 x19 : Nat) (x20 : Int) (k1 : Nat → Option α) : Option α := J84_0_0g  α x18 x19 x20 k1
def F84_0_0 (v : TJ84_0_0) (α : Type) (K : Exit → St → Option α) : Nat → Nat → Nat → Nat → Nat → Int → Bool → Int → Int → Nat → Nat → Option α := fun x15 x16 x17 x18 x19 x20 x21 x22 x23 x24 x25 => v α x18 x19 x20 (fun (y1 : Nat) => u84_0_1 (K .normal) x15 x16 x17 y1 x18 x19 x20 x22 x23 x24 x25) 
theorem m84_0_0g (vf88_0 : Tf88_0) (vf89_0 : Tf89_0) (vf90_0 : Tf90_0)  (α : Type) (K : Exit → St → Option α) : F84_0_0 (J84_0_0g ) α K = p84_0_0.unc fun σ => runM Try.prog (E84_0g vf88_0 vf89_0 vf90_0) sh84 (c84_0_16g ) K σ := by kernel_rfl
theorem m84_0_0 : ∀ (α : Type) (K : Exit → St → Option α), F84_0_0 J84_0_0 α K = p84_0_0.unc fun σ => runM Try.prog E84_0 sh84 c84_0_16 K σ := m84_0_0g f88_0 f89_0 f90_0
noncomputable def c84_0_9g (vJ84_0_0 : TJ84_0_0) : MCode := (.seq (.region r84_11 [] (tO [0, 1, 4, 6, 16, 17, 18])) (.seq (.cond (.tmp 18) .skip (.exit 0)) (.seq (.block 1 (.seq (.mark [⟨p84_0_0, F84_0_0 vJ84_0_0⟩] c84_0_16) (.seq (.region r84_19 [] (tO [0, 1, 4, 6, 16, 17, 22])) (.cond (.tmp 22) (.seq (.region r84_22 [] (tO [4, 5])) .ret) .skip)))) (.region r84_23 [] (tO [0, 1, 4, 6, 16, 17])))))
noncomputable def c84_0_9 : MCode := c84_0_9g J84_0_0
theorem g84_0_9 : c84_0_9.Good Try.prog E84_0 sh84 := ⟨trivial, ⟨⟨trivial, trivial⟩, ⟨⟨⟨g84_0_16, m84_0_0, trivial⟩, ⟨trivial, ⟨⟨trivial, trivial⟩, trivial⟩⟩⟩, trivial⟩⟩⟩
--CODE 9 0
def S84_0_1g (vJ84_0_0 : TJ84_0_0) (vf88_0 : Tf88_0) (α : Type) (x7 x8 : Nat) (x9 : Int) (kn : Int → Option α) (k1 : Option α) (k2 : Int → Bool → Option α) : Option α :=
 cK (decide (x9 < 2))
 (vJ84_0_0 α x7 x8 x9
 (fun x27 => vf88_0 α x27
 (fun x29 => cK (!x29)
 (k1)
 (kn (w64 (x9 + 1))))))
 (k2 x9 (decide (x9 < 2)))
noncomputable def S84_0_1 (α : Type) (x7 x8 : Nat) (x9 : Int) (kn : Int → Option α) (k1 : Option α) (k2 : Int → Bool → Option α) : Option α := S84_0_1g J84_0_0 f88_0 α x7 x8 x9 kn k1 k2
noncomputable def R84_0_1 (α : Type) (x7 x8 : Nat) (k1 : Option α) (k2 : Int → Bool → Option α) : Nat → Int → Option α
 | 0, _ => none
 | n + 1, x9 => S84_0_1 α x7 x8 x9 (R84_0_1 α x7 x8 k1 k2 n) k1 k2
noncomputable def L84_0_1 (α : Type) (x7 x8 : Nat) (k1 : Option α) (k2 : Int → Bool → Option α) (x9 : Int) : Option α := R84_0_1 α x7 x8 k1 k2 fuel x9
abbrev TL84_0_1 : Type 1 := (α : Type) → Nat → Nat → (Option α) → (Int → Bool → Option α) → Int → Option α
def F84_0_1 (v : TL84_0_1) (α : Type) (K : Exit → St → Option α) : Nat → Nat → Nat → Nat → Nat → Int → Int → Int → Nat → Nat → Option α := fun x4 x5 x6 x7 x8 x9 x10 x11 x12 x13 => v α x7 x8 (u84_0_3 (K .ret) 27 0 0) (fun (y1 : Int) (y2 : Bool) => u84_0_0 (K (.exit 0)) x4 x5 x6 x7 x8 y1 y2 x10 x11 x12 x13) x9
theorem r84_0_1g (vf88_0 : Tf88_0) (vf89_0 : Tf89_0) (vf90_0 : Tf90_0) (vJ84_0_0 : TJ84_0_0) (α : Type) (K : Exit → St → Option α) (Kn : St → Option α) (x4 x5 x6 x7 x8 : Nat) (x9 x10 x11 : Int) (x12 x13 : Nat) : u84_0_2 (fun σ => runM Try.prog (E84_0g vf88_0 vf89_0 vf90_0) sh84 (c84_0_9g vJ84_0_0) (thenK (fun σ => tidyK td84_9 σ Kn) K) σ) x4 x5 x6 x7 x8 x9 x10 x11 x12 x13 = S84_0_1g vJ84_0_0 vf88_0 α x7 x8 x9 (fun x9 => u84_0_2 Kn x4 x5 x6 x7 x8 x9 x10 x11 x12 x13) (u84_0_3 (K .ret) 27 0 0) (fun (y1 : Int) (y2 : Bool) => u84_0_0 (K (.exit 0)) x4 x5 x6 x7 x8 y1 y2 x10 x11 x12 x13) := by kernel_rfl
theorem r84_0_1 (α : Type) (K : Exit → St → Option α) (Kn : St → Option α) (x4 x5 x6 x7 x8 : Nat) (x9 x10 x11 : Int) (x12 x13 : Nat) : u84_0_2 (fun σ => runM Try.prog E84_0 sh84 c84_0_9 (thenK (fun σ => tidyK td84_9 σ Kn) K) σ) x4 x5 x6 x7 x8 x9 x10 x11 x12 x13 = S84_0_1 α x7 x8 x9 (fun x9 => u84_0_2 Kn x4 x5 x6 x7 x8 x9 x10 x11 x12 x13) (u84_0_3 (K .ret) 27 0 0) (fun (y1 : Int) (y2 : Bool) => u84_0_0 (K (.exit 0)) x4 x5 x6 x7 x8 y1 y2 x10 x11 x12 x13) := r84_0_1g f88_0 f89_0 f90_0 J84_0_0 α K Kn x4 x5 x6 x7 x8 x9 x10 x11 x12 x13
theorem t84_0_1 (α : Type) (K : Exit → St → Option α) : ∀ (n : Nat) (x4 x5 x6 x7 x8 : Nat) (x9 x10 x11 : Int) (x12 x13 : Nat), R84_0_1 α x7 x8 (u84_0_3 (K .ret) 27 0 0) (fun (y1 : Int) (y2 : Bool) => u84_0_0 (K (.exit 0)) x4 x5 x6 x7 x8 y1 y2 x10 x11 x12 x13) n x9 = u84_0_2 (loopT (runM Try.prog E84_0 sh84 c84_0_9) td84_9 K n) x4 x5 x6 x7 x8 x9 x10 x11 x12 x13 := by
 intro n
 induction n with
 | zero => intros; rfl
 | succ n ih => intro x4 x5 x6 x7 x8 x9 x10 x11 x12 x13; exact (congrArg (fun kn => S84_0_1 α x7 x8 x9 kn (u84_0_3 (K .ret) 27 0 0) (fun (y1 : Int) (y2 : Bool) => u84_0_0 (K (.exit 0)) x4 x5 x6 x7 x8 y1 y2 x10 x11 x12 x13)) (funext fun x9 => ih x4 x5 x6 x7 x8 x9 x10 x11 x12 x13)).trans (r84_0_1 α K (loopT (runM Try.prog E84_0 sh84 c84_0_9) td84_9 K n) x4 x5 x6 x7 x8 x9 x10 x11 x12 x13).symm
theorem m84_0_1 : ∀ (α : Type) (K : Exit → St → Option α), F84_0_1 L84_0_1 α K = p84_0_2.unc fun σ => loopT (runM Try.prog E84_0 sh84 c84_0_9) td84_9 K fuel σ := fun α K => funext fun x4 => funext fun x5 => funext fun x6 => funext fun x7 => funext fun x8 => funext fun x9 => funext fun x10 => funext fun x11 => funext fun x12 => funext fun x13 => t84_0_1 α K fuel x4 x5 x6 x7 x8 x9 x10 x11 x12 x13
abbrev Tf84_0 : Type 1 := (α : Type) → Nat → Nat → Nat → (Int → Int → Int → Option α) → Option α
def f84_0g (vL84_0_1 : TL84_0_1) (vL84_0_3 : TL84_0_3) (vf90_0 : Tf90_0) (α : Type) (x1 x2 x3 : Nat) (k1 : Int → Int → Int → Option α) : Option α :=
 vL84_0_1 α x1 x2
 (k1 0 0 27)
 (fun x30 x31 => vL84_0_3 α x3 x1 x2
 (k1 0 0 2)
 (fun x55 x56 => vf90_0 α x1 x2
 (fun x58 x59 => k1 x58 x59 0)) 0) 0
noncomputable def f84_0 (α : Type) (x1 x2 x3 : Nat) (k1 : Int → Int → Int → Option α) : Option α := f84_0g L84_0_1 L84_0_3 f90_0 α x1 x2 x3 k1
def pa84_0 : PT (List DV) := pA [pV false [(dX .f64)], pV false [(dF .f64)]]
def Fn84_0 (v : Tf84_0) (α : Type) (k : List RV → Option α) : Nat → Nat → Nat → Option α := fun x1 x2 x3 => v α x1 x2 x3 (fun (y1 : Int) (y2 : Int) (y3 : Int) => ur84_0_0 k y1 y2 y3)
noncomputable def cm84_0g (vL84_0_1 : TL84_0_1) (vL84_0_3 : TL84_0_3) : MCode := (.seq (.region r84_2 [] (tO [0, 1, 4])) (.seq (.region r84_4 [] (tO [0, 1, 4, 6])) (.seq (.seq (.region r84_7 [] (tO [0, 1, 4, 6, 16, 17])) (.block 0 (.loop td84_9 [⟨p84_0_2, F84_0_1 vL84_0_1⟩] c84_0_9))) (.seq (.seq (.region r84_26 [] (tO [0, 1, 4, 25, 26])) (.block 2 (.loop td84_28 [⟨p84_0_6, F84_0_3 vL84_0_3⟩] c84_0_28))) (.seq (.region r84_44 [] (tO [4, 5])) .ret)))))
noncomputable def cm84_0 : MCode := cm84_0g L84_0_1 L84_0_3
theorem gm84_0 : cm84_0.Good Try.prog E84_0 sh84 := ⟨trivial, ⟨trivial, ⟨⟨trivial, ⟨g84_0_9, m84_0_1, trivial⟩⟩, ⟨⟨trivial, ⟨g84_0_28, m84_0_3, trivial⟩⟩, ⟨trivial, trivial⟩⟩⟩⟩⟩
theorem fm84_0g (vf88_0 : Tf88_0) (vf89_0 : Tf89_0) (vf90_0 : Tf90_0) (vL84_0_1 : TL84_0_1) (vL84_0_3 : TL84_0_3) (α : Type) (k : List RV → Option α) : Fn84_0 (f84_0g vL84_0_1 vL84_0_3 vf90_0) α k = pa84_0.unc fun ds => fnM Try.prog (E84_0g vf88_0 vf89_0 vf90_0) sh84 (cm84_0g vL84_0_1 vL84_0_3) rs84 k ds := by kernel_rfl
theorem fm84_0 : ∀ (α : Type) (k : List RV → Option α), Fn84_0 f84_0 α k = pa84_0.unc fun ds => fnM Try.prog E84_0 sh84 cm84_0 rs84 k ds := fm84_0g f88_0 f89_0 f90_0 L84_0_1 L84_0_3
theorem is84 : FnIs Try.prog 84 nt84 tr84 tl84 cm84_0.erase rs84 := ⟨Try.f84, Try.func84, rfl, by kernel_rfl, by kernel_rfl, by kernel_rfl⟩
theorem io84_0 : InstOk Try.prog 84 nt84 ⟨pa84_0, Fn84_0 f84_0⟩ := inst_ok eo84_0 followsTry is84 ⟨⟨sh84, cm84_0, by kernel_rfl, gm84_0, fm84_0⟩⟩
abbrev nt86 : Nat := 42
def sh86 : List (Nat × List Sh) := [(27, [.int .i64, .int .i64]), (28, [.int .i64, .int .i64]), (34, [.int .i64, .int .i64]), (36, [.int .i64, .int .i64]), (40, [.int .i64, .int .i64]), (41, [.int .i64, .int .i64])]
def r86_2 : List AOper := [oO 2 (.alloc [(cI 0), (cI 0)])]
def r86_4 : List AOper := [oO 10 (.call 91 [(kI 2251799813685248)]), oM 3 10]
def r86_6 : List AOper := [oO 11 (.build [(cI 0), (cI 0)] [(0, 1, (kI 67108864))]), oM 12 3, oM 13 3, oO 14 (.build [(cI 0), (cI 0)] [(0, 1, (.tmp 12)), (1, 1, (.tmp 13))]), oO 4 (.alloc [(cI 0), (cI 0)]), oO 5 (.alloc [(cI 0), (cI 0)]), oD (.store 2 (.tmp 4) (.tmp 11)), oD (.store 2 (.tmp 5) (.tmp 14))]
def r86_8 : List AOper := [oO 6 (.mv (kI 0)), oO 7 (.mv (kI 524288))]
def td86_11 : Option Tidy := (tO [0, 2, 4, 5, 6, 7])
def r86_14 : List AOper := [oM 15 0, oM 16 6, oO 17 (.bin .neq 3 (.tmp 15) (.tmp 16)), oM 18 17, oG 19 (.mv (.tmp 0)) 18 true, oG 20 (.mv (.tmp 7)) 18 true, oG 21 (.bin .neq 3 (.tmp 19) (.tmp 20)) 18 true, oO 22 (.pick (.tmp 18) (.tmp 21) (.const (.bool false)))]
def r86_18 : List AOper := [oM 23 6, oM 24 7, oO 25 (.bin .add 3 (.tmp 23) (.tmp 24)), oO 26 (.bin .quo 3 (.tmp 25) (kI 2)), oM 8 26]
def r86_20 : List AOper := [oO 27 (.load true 2 (.tmp 4)), oO 28 (.load true 2 (.tmp 5)), oO 29 (.call 92 [(.tmp 27), (.tmp 28)]), oO 9 (.alloc [(cI 0), (cI 0)]), oD (.store 2 (.tmp 9) (.tmp 29))]
def r86_22 : List AOper := [oM 30 0, oM 31 8, oO 32 (.bin .geq 3 (.tmp 30) (.tmp 31))]
def r86_24 : List AOper := [oM 33 8, oO 34 (.load true 2 (.tmp 9)), oM 6 33, oD (.store 2 (.tmp 4) (.tmp 34))]
def r86_25 : List AOper := [oM 35 8, oO 36 (.load true 2 (.tmp 9)), oM 7 35, oD (.store 2 (.tmp 5) (.tmp 36))]
def r86_28 : List AOper := [oM 37 0, oM 38 6, oO 39 (.bin .eql 3 (.tmp 37) (.tmp 38))]
def r86_31 : List AOper := [oO 40 (.load true 2 (.tmp 4)), oD (.store 2 (.tmp 2) (.tmp 40))]
def r86_33 : List AOper := [oO 41 (.load true 2 (.tmp 5)), oD (.store 2 (.tmp 2) (.tmp 41))]
def tr86 : List (Nat × Tidy) := [tT 0 [0, 2], tT 1 [0, 2, 3], tT 2 [0, 2, 4, 5], tT 3 [0, 2, 4, 5, 6, 7], tT 4 [0, 2, 4, 5, 6, 7, 22], tT 5 [0, 2, 4, 5, 6, 7, 8], tT 6 [0, 2, 4, 5, 6, 7, 8, 9], tT 7 [0, 2, 4, 5, 6, 7, 8, 9, 32], tT 8 [0, 2, 4, 5, 6, 7], tT 9 [0, 2, 4, 5, 6, 7], tT 10 [2, 4, 5, 39], tT 11 [2], tT 12 [2]]
def tl86 : List (Nat × Tidy) := [tT 4 [0, 2, 4, 5, 6, 7]]
def rs86 : List AResV := [.cell 2 true 2]
def p86_0_0 : PT St := pS [sl 0 (aV false [(cD (dI .i64))]), sl 2 (aV false [(cPtr 2 0)]), sl 4 (aV false [(cPtr 4 0)]), sl 5 (aV false [(cPtr 5 0)]), sl 6 (aV false [(cD (dI .i64))]), sl 7 (aV false [(cD (dI .i64))])] [eBox 2 [(cD (dI .i64)), (cD (dI .i64))], eBox 4 [(cD (dI .i64)), (cD (dI .i64))], eBox 5 [(cD (dI .i64)), (cD (dI .i64))]]
def u86_0_0 {β : Type} (g : St → β) : Int → Int → Int → Int → Int → Int → Int → Int → Int → β := p86_0_0.unc g
def p86_0_1 : PT St := pS [sl 0 (aV false [(cD (dI .i64))]), sl 2 (aV false [(cPtr 2 0)]), sl 4 (aV false [(cPtr 4 0)]), sl 5 (aV false [(cPtr 5 0)]), sl 6 (aV false [(cD (dI .i64))]), sl 7 (aV false [(cD (dI .i64))]), sl 22 (aV false [(cD dB)])] [eBox 2 [(cD (dI .i64)), (cD (dI .i64))], eBox 4 [(cD (dI .i64)), (cD (dI .i64))], eBox 5 [(cD (dI .i64)), (cD (dI .i64))]]
def u86_0_1 {β : Type} (g : St → β) : Int → Int → Int → Bool → Int → Int → Int → Int → Int → Int → β := p86_0_1.unc g
def pr86_0_0 : PT (List RV) := pRs [pR true [rD (dI .i64), rD (dI .i64)]]
def ur86_0_0 {β : Type} (g : List RV → β) : Int → Int → β := pr86_0_0.unc g
def E86_0g (vf91_0 : Tf91_0) (vf92_0 : Tf92_0) : EnvK := EnvK.of [⟨91, nt91, [⟨pa91_0, Fn91_0 vf91_0⟩]⟩, ⟨92, nt92, [⟨pa92_0, Fn92_0 vf92_0⟩]⟩] noSeq
noncomputable def E86_0 : EnvK := E86_0g f91_0 f92_0
theorem eo86_0 : E86_0.Ok Try.prog := EnvK.of_ok noSeq_ok ⟨⟨io91_0, trivial⟩, ⟨io92_0, trivial⟩, trivial⟩
noncomputable def c86_0_11g  : MCode := (.seq (.seq (.region r86_14 [] (tO [0, 2, 4, 5, 6, 7, 22])) (.cond (.tmp 22) .skip (.exit 0))) (.block 1 (.seq (.region r86_18 [] (tO [0, 2, 4, 5, 6, 7, 8])) (.seq (.region r86_20 [] (tO [0, 2, 4, 5, 6, 7, 8, 9])) (.seq (.region r86_22 [] (tO [0, 2, 4, 5, 6, 7, 8, 9, 32])) (.cond (.tmp 32) (.region r86_24 [] (tO [0, 2, 4, 5, 6, 7])) (.region r86_25 [] (tO [0, 2, 4, 5, 6, 7]))))))))
noncomputable def c86_0_11 : MCode := c86_0_11g 
theorem g86_0_11 : c86_0_11.Good Try.prog E86_0 sh86 := ⟨⟨trivial, ⟨trivial, trivial⟩⟩, ⟨trivial, ⟨trivial, ⟨trivial, ⟨trivial, trivial⟩⟩⟩⟩⟩
--CODE 11 0
def S86_0_0g (vf92_0 : Tf92_0) (α : Type) (x3 x4 x5 x8 x9 x10 x11 : Int) (kn : Int → Int → Int → Int → Int → Int → Option α) (k1 : Int → Int → Bool → Int → Int → Int → Int → Option α) : Option α :=
 cK (x3 != x4)
 (cK (x3 != x5)
 (vf92_0 α x8 x9 x10 x11
 (fun x13 x14 => cK (decide ((w64 (Int.tdiv (w64 (x4 + x5)) 2)) ≤ x3))
 (kn (w64 (Int.tdiv (w64 (x4 + x5)) 2)) x5 x13 x14 x10 x11)
 (kn x4 (w64 (Int.tdiv (w64 (x4 + x5)) 2)) x8 x9 x13 x14)))
 (k1 x4 x5 (x3 != x5) x8 x9 x10 x11))
 (k1 x4 x5 false x8 x9 x10 x11)
noncomputable def S86_0_0 (α : Type) (x3 x4 x5 x8 x9 x10 x11 : Int) (kn : Int → Int → Int → Int → Int → Int → Option α) (k1 : Int → Int → Bool → Int → Int → Int → Int → Option α) : Option α := S86_0_0g f92_0 α x3 x4 x5 x8 x9 x10 x11 kn k1
noncomputable def R86_0_0 (α : Type) (x3 : Int) (k1 : Int → Int → Bool → Int → Int → Int → Int → Option α) : Nat → Int → Int → Int → Int → Int → Int → Option α
 | 0, _, _, _, _, _, _ => none
 | n + 1, x4, x5, x8, x9, x10, x11 => S86_0_0 α x3 x4 x5 x8 x9 x10 x11 (R86_0_0 α x3 k1 n) k1
noncomputable def L86_0_0 (α : Type) (x3 : Int) (k1 : Int → Int → Bool → Int → Int → Int → Int → Option α) (x4 x5 x8 x9 x10 x11 : Int) : Option α := R86_0_0 α x3 k1 fuel x4 x5 x8 x9 x10 x11
abbrev TL86_0_0 : Type 1 := (α : Type) → Int → (Int → Int → Bool → Int → Int → Int → Int → Option α) → Int → Int → Int → Int → Int → Int → Option α
def F86_0_0 (v : TL86_0_0) (α : Type) (K : Exit → St → Option α) : Int → Int → Int → Int → Int → Int → Int → Int → Int → Option α := fun x3 x4 x5 x6 x7 x8 x9 x10 x11 => v α x3 (fun (y1 : Int) (y2 : Int) (y3 : Bool) (y4 : Int) (y5 : Int) (y6 : Int) (y7 : Int) => u86_0_1 (K (.exit 0)) x3 y1 y2 y3 x6 x7 y4 y5 y6 y7) x4 x5 x8 x9 x10 x11
theorem r86_0_0g (vf91_0 : Tf91_0) (vf92_0 : Tf92_0)  (α : Type) (K : Exit → St → Option α) (Kn : St → Option α) (x3 x4 x5 x6 x7 x8 x9 x10 x11 : Int) : u86_0_0 (fun σ => runM Try.prog (E86_0g vf91_0 vf92_0) sh86 (c86_0_11g ) (thenK (fun σ => tidyK td86_11 σ Kn) K) σ) x3 x4 x5 x6 x7 x8 x9 x10 x11 = S86_0_0g vf92_0 α x3 x4 x5 x8 x9 x10 x11 (fun x4 x5 x8 x9 x10 x11 => u86_0_0 Kn x3 x4 x5 x6 x7 x8 x9 x10 x11) (fun (y1 : Int) (y2 : Int) (y3 : Bool) (y4 : Int) (y5 : Int) (y6 : Int) (y7 : Int) => u86_0_1 (K (.exit 0)) x3 y1 y2 y3 x6 x7 y4 y5 y6 y7) := by kernel_rfl
theorem r86_0_0 (α : Type) (K : Exit → St → Option α) (Kn : St → Option α) (x3 x4 x5 x6 x7 x8 x9 x10 x11 : Int) : u86_0_0 (fun σ => runM Try.prog E86_0 sh86 c86_0_11 (thenK (fun σ => tidyK td86_11 σ Kn) K) σ) x3 x4 x5 x6 x7 x8 x9 x10 x11 = S86_0_0 α x3 x4 x5 x8 x9 x10 x11 (fun x4 x5 x8 x9 x10 x11 => u86_0_0 Kn x3 x4 x5 x6 x7 x8 x9 x10 x11) (fun (y1 : Int) (y2 : Int) (y3 : Bool) (y4 : Int) (y5 : Int) (y6 : Int) (y7 : Int) => u86_0_1 (K (.exit 0)) x3 y1 y2 y3 x6 x7 y4 y5 y6 y7) := r86_0_0g f91_0 f92_0 α K Kn x3 x4 x5 x6 x7 x8 x9 x10 x11
theorem t86_0_0 (α : Type) (K : Exit → St → Option α) : ∀ (n : Nat) (x3 x4 x5 x6 x7 x8 x9 x10 x11 : Int), R86_0_0 α x3 (fun (y1 : Int) (y2 : Int) (y3 : Bool) (y4 : Int) (y5 : Int) (y6 : Int) (y7 : Int) => u86_0_1 (K (.exit 0)) x3 y1 y2 y3 x6 x7 y4 y5 y6 y7) n x4 x5 x8 x9 x10 x11 = u86_0_0 (loopT (runM Try.prog E86_0 sh86 c86_0_11) td86_11 K n) x3 x4 x5 x6 x7 x8 x9 x10 x11 := by
 intro n
 induction n with
 | zero => intros; rfl
 | succ n ih => intro x3 x4 x5 x6 x7 x8 x9 x10 x11; exact (congrArg (fun kn => S86_0_0 α x3 x4 x5 x8 x9 x10 x11 kn (fun (y1 : Int) (y2 : Int) (y3 : Bool) (y4 : Int) (y5 : Int) (y6 : Int) (y7 : Int) => u86_0_1 (K (.exit 0)) x3 y1 y2 y3 x6 x7 y4 y5 y6 y7)) (funext fun x4 => funext fun x5 => funext fun x8 => funext fun x9 => funext fun x10 => funext fun x11 => ih x3 x4 x5 x6 x7 x8 x9 x10 x11)).trans (r86_0_0 α K (loopT (runM Try.prog E86_0 sh86 c86_0_11) td86_11 K n) x3 x4 x5 x6 x7 x8 x9 x10 x11).symm
theorem m86_0_0 : ∀ (α : Type) (K : Exit → St → Option α), F86_0_0 L86_0_0 α K = p86_0_0.unc fun σ => loopT (runM Try.prog E86_0 sh86 c86_0_11) td86_11 K fuel σ := fun α K => funext fun x3 => funext fun x4 => funext fun x5 => funext fun x6 => funext fun x7 => funext fun x8 => funext fun x9 => funext fun x10 => funext fun x11 => t86_0_0 α K fuel x3 x4 x5 x6 x7 x8 x9 x10 x11
abbrev Tf86_0 : Type 1 := (α : Type) → Int → (Int → Int → Option α) → Option α
def f86_0g (vL86_0_0 : TL86_0_0) (vf91_0 : Tf91_0) (α : Type) (x1 : Int) (k1 : Int → Int → Option α) : Option α :=
 vf91_0 α 2251799813685248
 (fun x2 => vL86_0_0 α x1
 (fun x15 x16 x17 x18 x19 x20 x21 => cK (x1 == x15)
 (k1 x18 x19)
 (k1 x20 x21)) 0 524288 67108864 0 x2 x2)
noncomputable def f86_0 (α : Type) (x1 : Int) (k1 : Int → Int → Option α) : Option α := f86_0g L86_0_0 f91_0 α x1 k1
def pa86_0 : PT (List DV) := pA [pV false [(dI .i64)]]
def Fn86_0 (v : Tf86_0) (α : Type) (k : List RV → Option α) : Int → Option α := fun x1 => v α x1 (fun (y1 : Int) (y2 : Int) => ur86_0_0 k y1 y2)
noncomputable def cm86_0g (vL86_0_0 : TL86_0_0) : MCode := (.seq (.region r86_2 [] (tO [0, 2])) (.seq (.region r86_4 [] (tO [0, 2, 3])) (.seq (.region r86_6 [] (tO [0, 2, 4, 5])) (.seq (.region r86_8 [] (tO [0, 2, 4, 5, 6, 7])) (.seq (.block 0 (.loop td86_11 [⟨p86_0_0, F86_0_0 vL86_0_0⟩] c86_0_11)) (.seq (.seq (.region r86_28 [] (tO [2, 4, 5, 39])) (.cond (.tmp 39) (.seq (.region r86_31 [] (tO [2])) .ret) .skip)) (.seq (.region r86_33 [] (tO [2])) .ret)))))))
noncomputable def cm86_0 : MCode := cm86_0g L86_0_0
theorem gm86_0 : cm86_0.Good Try.prog E86_0 sh86 := ⟨trivial, ⟨trivial, ⟨trivial, ⟨trivial, ⟨⟨g86_0_11, m86_0_0, trivial⟩, ⟨⟨trivial, ⟨⟨trivial, trivial⟩, trivial⟩⟩, ⟨trivial, trivial⟩⟩⟩⟩⟩⟩⟩
theorem fm86_0g (vf91_0 : Tf91_0) (vf92_0 : Tf92_0) (vL86_0_0 : TL86_0_0) (α : Type) (k : List RV → Option α) : Fn86_0 (f86_0g vL86_0_0 vf91_0) α k = pa86_0.unc fun ds => fnM Try.prog (E86_0g vf91_0 vf92_0) sh86 (cm86_0g vL86_0_0) rs86 k ds := by kernel_rfl
theorem fm86_0 : ∀ (α : Type) (k : List RV → Option α), Fn86_0 f86_0 α k = pa86_0.unc fun ds => fnM Try.prog E86_0 sh86 cm86_0 rs86 k ds := fm86_0g f91_0 f92_0 L86_0_0
theorem is86 : FnIs Try.prog 86 nt86 tr86 tl86 cm86_0.erase rs86 := ⟨Try.f86, Try.func86, rfl, by kernel_rfl, by kernel_rfl, by kernel_rfl⟩
theorem io86_0 : InstOk Try.prog 86 nt86 ⟨pa86_0, Fn86_0 f86_0⟩ := inst_ok eo86_0 followsTry is86 ⟨⟨sh86, cm86_0, by kernel_rfl, gm86_0, fm86_0⟩⟩
abbrev nt79 : Nat := 25
def sh79 : List (Nat × List Sh) := [(8, [.cpx .f64]), (16, [.int .i64]), (20, [.int .i64, .int .i64]), (22, [.int .i64])]
def r79_2 : List AOper := [oO 1 (.box (.tmp 0)), oO 2 (.alloc [(cI 0), (cI 0), (cI 0)]), oO 3 (.mv (kI 0))]
def r79_4 : List AOper := [oO 7 (.faddr 0 (.tmp 1)), oO 8 (.load false 1 (.tmp 7)), oO 9 (.call 84 [(.tmp 8), (.const (.float Go.FloatKind.f64 4724276009111650304))]), oM 6 9, oO 10 (.extract 0 (.tmp 6)), oO 11 (.extract 1 (.tmp 6)), oO 4 (.alloc [(cI 0), (cI 0)]), oD (.store 2 (.tmp 4) (.tmp 10)), oM 5 11]
def r79_7 : List AOper := [oM 12 5, oO 13 (.bin .eql 30 (.tmp 12) (kI 0)), oM 14 13, oG 15 (.faddr 1 (.tmp 1)) 14 true, oG 16 (.load false 1 (.tmp 15)) 14 true, oG 17 (.call 75 [(.tmp 16), (kI 0), (kI 67108864)]) 14 true, oG 18 (.pure (oB (.unOp .not 4 (.tmp 17)) 4)) 14 true, oO 19 (.pick (.tmp 14) (.tmp 18) (.const (.bool false)))]
def r79_9 : List AOper := [oO 5 (.mv (kI 2))]
def r79_11 : List AOper := [oO 20 (.load true 2 (.tmp 4)), oO 21 (.faddr 1 (.tmp 1)), oO 22 (.load false 1 (.tmp 21)), oO 23 (.build [(cI 0), (cI 0), (cI 0)] [(0, 2, (.tmp 20)), (2, 1, (.tmp 22))]), oM 24 5, oD (.store 3 (.tmp 2) (.tmp 23)), oM 3 24]
def tr79 : List (Nat × Tidy) := [tT 0 [1, 2], tT 1 [1, 2, 4, 5], tT 2 [1, 2, 4, 5, 19], tT 3 [1, 2, 4, 5], tT 4 [2, 3]]
def tl79 : List (Nat × Tidy) := []
def rs79 : List AResV := [.cell 2 true 3, .tmp 3]
def p79_0_0 : PT St := pS [sl 1 (aV false [(cPtr 1 0)]), sl 2 (aV false [(cPtr 2 0)]), sl 4 (aV false [(cPtr 4 0)]), sl 5 (aV false [(cD (dI .i64))])] [eBox 1 [(cD (dX .f64)), (cD (dI .i64))], eBox 2 [(cD (dI .i64)), (cD (dI .i64)), (cD (dI .i64))], eBox 4 [(cD (dI .i64)), (cD (dI .i64))]]
def u79_0_0 {β : Type} (g : St → β) : Int → Nat → Nat → Int → Int → Int → Int → Int → Int → β := p79_0_0.unc g
def p79_0_1 : PT St := pS [sl 1 (aV false [(cPtr 1 0)]), sl 2 (aV false [(cPtr 2 0)]), sl 4 (aV false [(cPtr 4 0)]), sl 5 (aV false [(cD (dI .i64))]), sl 19 (aV false [(cD dB)])] [eBox 1 [(cD (dX .f64)), (cD (dI .i64))], eBox 2 [(cD (dI .i64)), (cD (dI .i64)), (cD (dI .i64))], eBox 4 [(cD (dI .i64)), (cD (dI .i64))]]
def u79_0_1 {β : Type} (g : St → β) : Int → Bool → Nat → Nat → Int → Int → Int → Int → Int → Int → β := p79_0_1.unc g
def pr79_0_0 : PT (List RV) := pRs [pR true [rD (dI .i64), rD (dI .i64), rD (dI .i64)], pR false [rD (dI .i64)]]
def ur79_0_0 {β : Type} (g : List RV → β) : Int → Int → Int → Int → β := pr79_0_0.unc g
def E79_0g (vf84_0 : Tf84_0) (vf75_0 : Tf75_0) : EnvK := EnvK.of [⟨84, nt84, [⟨pa84_0, Fn84_0 vf84_0⟩]⟩, ⟨75, nt75, [⟨pa75_0, Fn75_0 vf75_0⟩]⟩] noSeq
noncomputable def E79_0 : EnvK := E79_0g f84_0 f75_0
theorem eo79_0 : E79_0.Ok Try.prog := EnvK.of_ok noSeq_ok ⟨⟨io84_0, trivial⟩, ⟨io75_0, trivial⟩, trivial⟩
noncomputable def c79_0_5g  : MCode := (.seq (.region r79_7 [] (tO [1, 2, 4, 5, 19])) (.cond (.tmp 19) (.region r79_9 [] (tO [1, 2, 4, 5])) .skip))
noncomputable def c79_0_5 : MCode := c79_0_5g 
theorem g79_0_5 : c79_0_5.Good Try.prog E79_0 sh79 := ⟨trivial, ⟨trivial, trivial⟩⟩
--CODE 5 0
abbrev TJ79_0_0 : Type 1 := (α : Type) → Int → Int → (Option α) → (Bool → Option α) → Option α
def J79_0_0g (vf75_0 : Tf75_0) (α : Type) (x7 x10 : Int) (k1 : Option α) (k2 : Bool → Option α) : Option α :=
 cK (x7 == 0)
 (vf75_0 α x10 0 67108864
 (fun x17 => cK (!x17)
 (k1)
 (k2 (!x17))))
 (k2 false)
noncomputable def J79_0_0 (α : Type) (x7 x10 : Int) (k1 : Option α) (k2 : Bool → Option α) : Option α := J79_0_0g f75_0 α x7 x10 k1 k2
def F79_0_0 (v : TJ79_0_0) (α : Type) (K : Exit → St → Option α) : Int → Nat → Nat → Int → Int → Int → Int → Int → Int → Option α := fun x7 x8 x9 x10 x11 x12 x13 x14 x15 => v α x7 x10 (u79_0_0 (K .normal) 2 x8 x9 x10 x11 x12 x13 x14 x15) (fun (y1 : Bool) => u79_0_1 (K .normal) x7 y1 x8 x9 x10 x11 x12 x13 x14 x15) 
theorem m79_0_0g (vf84_0 : Tf84_0) (vf75_0 : Tf75_0)  (α : Type) (K : Exit → St → Option α) : F79_0_0 (J79_0_0g vf75_0) α K = p79_0_0.unc fun σ => runM Try.prog (E79_0g vf84_0 vf75_0) sh79 (c79_0_5g ) K σ := by kernel_rfl
theorem m79_0_0 : ∀ (α : Type) (K : Exit → St → Option α), F79_0_0 J79_0_0 α K = p79_0_0.unc fun σ => runM Try.prog E79_0 sh79 c79_0_5 K σ := m79_0_0g f84_0 f75_0
abbrev Tf79_0 : Type 1 := (α : Type) → Nat → Nat → Int → (Int → Int → Int → Int → Option α) → Option α
def f79_0g (vJ79_0_0 : TJ79_0_0) (vf84_0 : Tf84_0) (α : Type) (x1 x2 : Nat) (x3 : Int) (k1 : Int → Int → Int → Int → Option α) : Option α :=
 vf84_0 α x1 x2 4724276009111650304
 (fun x4 x5 x6 => vJ79_0_0 α x6 x3
 (k1 x4 x5 x3 2)
 (fun x18 => k1 x4 x5 x3 x6))
noncomputable def f79_0 (α : Type) (x1 x2 : Nat) (x3 : Int) (k1 : Int → Int → Int → Int → Option α) : Option α := f79_0g J79_0_0 f84_0 α x1 x2 x3 k1
def pa79_0 : PT (List DV) := pA [pV true [(dX .f64), (dI .i64)]]
def Fn79_0 (v : Tf79_0) (α : Type) (k : List RV → Option α) : Nat → Nat → Int → Option α := fun x1 x2 x3 => v α x1 x2 x3 (fun (y1 : Int) (y2 : Int) (y3 : Int) (y4 : Int) => ur79_0_0 k y1 y2 y3 y4)
noncomputable def cm79_0g (vJ79_0_0 : TJ79_0_0) : MCode := (.seq (.region r79_2 [] (tO [1, 2])) (.seq (.region r79_4 [] (tO [1, 2, 4, 5])) (.seq (.mark [⟨p79_0_0, F79_0_0 vJ79_0_0⟩] c79_0_5) (.seq (.region r79_11 [] (tO [2, 3])) .ret))))
noncomputable def cm79_0 : MCode := cm79_0g J79_0_0
theorem gm79_0 : cm79_0.Good Try.prog E79_0 sh79 := ⟨trivial, ⟨trivial, ⟨⟨g79_0_5, m79_0_0, trivial⟩, ⟨trivial, trivial⟩⟩⟩⟩
theorem fm79_0g (vf84_0 : Tf84_0) (vf75_0 : Tf75_0) (vJ79_0_0 : TJ79_0_0) (α : Type) (k : List RV → Option α) : Fn79_0 (f79_0g vJ79_0_0 vf84_0) α k = pa79_0.unc fun ds => fnM Try.prog (E79_0g vf84_0 vf75_0) sh79 (cm79_0g vJ79_0_0) rs79 k ds := by kernel_rfl
theorem fm79_0 : ∀ (α : Type) (k : List RV → Option α), Fn79_0 f79_0 α k = pa79_0.unc fun ds => fnM Try.prog E79_0 sh79 cm79_0 rs79 k ds := fm79_0g f84_0 f75_0 J79_0_0
theorem is79 : FnIs Try.prog 79 nt79 tr79 tl79 cm79_0.erase rs79 := ⟨Try.f79, Try.func79, rfl, by kernel_rfl, by kernel_rfl, by kernel_rfl⟩
theorem io79_0 : InstOk Try.prog 79 nt79 ⟨pa79_0, Fn79_0 f79_0⟩ := inst_ok eo79_0 followsTry is79 ⟨⟨sh79, cm79_0, by kernel_rfl, gm79_0, fm79_0⟩⟩
abbrev nt81 : Nat := 36
def sh81 : List (Nat × List Sh) := [(30, [.int .i64]), (32, [.int .i64])]
def r81_2 : List AOper := [oO 2 (.alloc [(cI 0), (cI 0)])]
def r81_4 : List AOper := [oM 4 0, oM 5 0, oO 6 (.call 77 [(.tmp 5), (kI 4194304)]), oO 7 (.bin .mul 3 (kI 4194304) (.tmp 6)), oO 8 (.bin .sub 3 (.tmp 4) (.tmp 7)), oM 0 8]
def r81_8 : List AOper := [oM 10 0, oO 11 (.bin .geq 3 (.tmp 10) (kI 2097152)), oM 9 11]
def r81_11 : List AOper := [oM 12 0, oO 13 (.bin .sub 3 (.tmp 12) (kI 2097152)), oO 14 (.call 81 [(.tmp 13)]), oO 15 (.call 85 [(.tmp 14), (kI 2)]), oD (.store 2 (.tmp 2) (.tmp 15))]
def r81_13 : List AOper := [oM 17 0, oO 18 (.bin .geq 3 (.tmp 17) (kI 1048576)), oM 16 18]
def r81_16 : List AOper := [oM 19 0, oO 20 (.bin .sub 3 (.tmp 19) (kI 1048576)), oO 21 (.call 81 [(.tmp 20)]), oO 22 (.call 85 [(.tmp 21), (kI 1)]), oD (.store 2 (.tmp 2) (.tmp 22))]
def r81_18 : List AOper := [oM 24 0, oO 25 (.bin .gtr 3 (.tmp 24) (kI 524288)), oM 23 25]
def r81_21 : List AOper := [oM 26 0, oO 27 (.bin .sub 3 (kI 1048576) (.tmp 26)), oO 28 (.call 86 [(.tmp 27)]), oO 3 (.alloc [(cI 0), (cI 0)]), oD (.store 2 (.tmp 3) (.tmp 28))]
def r81_23 : List AOper := [oO 29 (.faddr 1 (.tmp 3)), oO 30 (.load false 1 (.tmp 29)), oO 31 (.faddr 0 (.tmp 3)), oO 32 (.load false 1 (.tmp 31)), oO 33 (.build [(cI 0), (cI 0)] [(0, 1, (.tmp 30)), (1, 1, (.tmp 32))]), oD (.store 2 (.tmp 2) (.tmp 33))]
def r81_25 : List AOper := [oM 34 0, oO 35 (.call 86 [(.tmp 34)]), oD (.store 2 (.tmp 2) (.tmp 35))]
def tr81 : List (Nat × Tidy) := [tT 0 [0, 2], tT 1 [0, 2], tT 2 [0, 2, 9], tT 3 [2], tT 4 [0, 2, 16], tT 5 [2], tT 6 [0, 2, 23], tT 7 [2, 3], tT 8 [2], tT 9 [2]]
def tl81 : List (Nat × Tidy) := []
def rs81 : List AResV := [.cell 2 true 2]
def pr81_2_0 : PT (List RV) := pRs [pR true [rD (dI .i64), rD (dI .i64)]]
def ur81_2_0 {β : Type} (g : List RV → β) : Int → Int → β := pr81_2_0.unc g
def E81_2g (vf77_0 : Tf77_0) (vf86_0 : Tf86_0) : EnvK := EnvK.of [⟨77, nt77, [⟨pa77_0, Fn77_0 vf77_0⟩]⟩, ⟨86, nt86, [⟨pa86_0, Fn86_0 vf86_0⟩]⟩] noSeq
noncomputable def E81_2 : EnvK := E81_2g f77_0 f86_0
theorem eo81_2 : E81_2.Ok Try.prog := EnvK.of_ok noSeq_ok ⟨⟨io77_0, trivial⟩, ⟨io86_0, trivial⟩, trivial⟩
abbrev Tf81_2 : Type 1 := (α : Type) → Int → (Int → Int → Option α) → Option α
def f81_2g (vf77_0 : Tf77_0) (vf86_0 : Tf86_0) (α : Type) (x1 : Int) (k1 : Int → Int → Option α) : Option α :=
 vf77_0 α x1 4194304
 (fun x2 => cK (decide (2097152 ≤ (w64 (x1 - (w64 (4194304 * x2))))))
 (none)
 (cK (decide (1048576 ≤ (w64 (x1 - (w64 (4194304 * x2))))))
 (none)
 (cK (decide (524288 < (w64 (x1 - (w64 (4194304 * x2))))))
 (vf86_0 α (w64 (1048576 - (w64 (x1 - (w64 (4194304 * x2))))))
 (fun x3 x4 => k1 x4 x3))
 (vf86_0 α (w64 (x1 - (w64 (4194304 * x2))))
 (fun x5 x6 => k1 x5 x6)))))
noncomputable def f81_2 (α : Type) (x1 : Int) (k1 : Int → Int → Option α) : Option α := f81_2g f77_0 f86_0 α x1 k1
def pa81_2 : PT (List DV) := pA [pV false [(dI .i64)]]
def Fn81_2 (v : Tf81_2) (α : Type) (k : List RV → Option α) : Int → Option α := fun x1 => v α x1 (fun (y1 : Int) (y2 : Int) => ur81_2_0 k y1 y2)
noncomputable def cm81_2g  : MCode := (.seq (.region r81_2 [] (tO [0, 2])) (.seq (.region r81_4 [] (tO [0, 2])) (.seq (.block 0 (.seq (.region r81_8 [] (tO [0, 2, 9])) (.cond (.tmp 9) (.seq (.region r81_11 [] (tO [2])) .ret) (.seq (.region r81_13 [] (tO [0, 2, 16])) (.cond (.tmp 16) (.seq (.region r81_16 [] (tO [2])) .ret) (.seq (.region r81_18 [] (tO [0, 2, 23])) (.cond (.tmp 23) (.seq (.region r81_21 [] (tO [2, 3])) (.seq (.region r81_23 [] (tO [2])) .ret)) .skip))))))) (.seq (.region r81_25 [] (tO [2])) .ret))))
noncomputable def cm81_2 : MCode := cm81_2g 
theorem gm81_2 : cm81_2.Good Try.prog E81_2 sh81 := ⟨trivial, ⟨trivial, ⟨⟨trivial, ⟨⟨trivial, trivial⟩, ⟨trivial, ⟨⟨trivial, trivial⟩, ⟨trivial, ⟨⟨trivial, ⟨trivial, trivial⟩⟩, trivial⟩⟩⟩⟩⟩⟩, ⟨trivial, trivial⟩⟩⟩⟩
theorem fm81_2g (vf77_0 : Tf77_0) (vf86_0 : Tf86_0)  (α : Type) (k : List RV → Option α) : Fn81_2 (f81_2g vf77_0 vf86_0) α k = pa81_2.unc fun ds => fnM Try.prog (E81_2g vf77_0 vf86_0) sh81 (cm81_2g ) rs81 k ds := by kernel_rfl
theorem fm81_2 : ∀ (α : Type) (k : List RV → Option α), Fn81_2 f81_2 α k = pa81_2.unc fun ds => fnM Try.prog E81_2 sh81 cm81_2 rs81 k ds := fm81_2g f77_0 f86_0
theorem is81 : FnIs Try.prog 81 nt81 tr81 tl81 cm81_2.erase rs81 := ⟨Try.f81, Try.func81, rfl, by kernel_rfl, by kernel_rfl, by kernel_rfl⟩
theorem io81_2 : InstOk Try.prog 81 nt81 ⟨pa81_2, Fn81_2 f81_2⟩ := inst_ok eo81_2 followsTry is81 ⟨⟨sh81, cm81_2, by kernel_rfl, gm81_2, fm81_2⟩⟩
def pr81_1_0 : PT (List RV) := pRs [pR true [rD (dI .i64), rD (dI .i64)]]
def ur81_1_0 {β : Type} (g : List RV → β) : Int → Int → β := pr81_1_0.unc g
def E81_1g (vf77_0 : Tf77_0) (vf81_2 : Tf81_2) (vf85_0 : Tf85_0) (vf86_0 : Tf86_0) : EnvK := EnvK.of [⟨77, nt77, [⟨pa77_0, Fn77_0 vf77_0⟩]⟩, ⟨81, nt81, [⟨pa81_2, Fn81_2 vf81_2⟩]⟩, ⟨85, nt85, [⟨pa85_0, Fn85_0 vf85_0⟩]⟩, ⟨86, nt86, [⟨pa86_0, Fn86_0 vf86_0⟩]⟩] noSeq
noncomputable def E81_1 : EnvK := E81_1g f77_0 f81_2 f85_0 f86_0
theorem eo81_1 : E81_1.Ok Try.prog := EnvK.of_ok noSeq_ok ⟨⟨io77_0, trivial⟩, ⟨io81_2, trivial⟩, ⟨io85_0, trivial⟩, ⟨io86_0, trivial⟩, trivial⟩
abbrev Tf81_1 : Type 1 := (α : Type) → Int → (Int → Int → Option α) → Option α
def f81_1g (vf77_0 : Tf77_0) (vf81_2 : Tf81_2) (vf85_0 : Tf85_0) (vf86_0 : Tf86_0) (α : Type) (x1 : Int) (k1 : Int → Int → Option α) : Option α :=
 vf77_0 α x1 4194304
 (fun x2 => cK (decide (2097152 ≤ (w64 (x1 - (w64 (4194304 * x2))))))
 (vf81_2 α (w64 ((w64 (x1 - (w64 (4194304 * x2)))) - 2097152))
 (fun x3 x4 => vf85_0 α x3 x4 2
 (fun x5 x6 => k1 x5 x6)))
 (cK (decide (1048576 ≤ (w64 (x1 - (w64 (4194304 * x2))))))
 (vf81_2 α (w64 ((w64 (x1 - (w64 (4194304 * x2)))) - 1048576))
 (fun x7 x8 => vf85_0 α x7 x8 1
 (fun x9 x10 => k1 x9 x10)))
 (cK (decide (524288 < (w64 (x1 - (w64 (4194304 * x2))))))
 (vf86_0 α (w64 (1048576 - (w64 (x1 - (w64 (4194304 * x2))))))
 (fun x11 x12 => k1 x12 x11))
 (vf86_0 α (w64 (x1 - (w64 (4194304 * x2))))
 (fun x13 x14 => k1 x13 x14)))))
noncomputable def f81_1 (α : Type) (x1 : Int) (k1 : Int → Int → Option α) : Option α := f81_1g f77_0 f81_2 f85_0 f86_0 α x1 k1
def pa81_1 : PT (List DV) := pA [pV false [(dI .i64)]]
def Fn81_1 (v : Tf81_1) (α : Type) (k : List RV → Option α) : Int → Option α := fun x1 => v α x1 (fun (y1 : Int) (y2 : Int) => ur81_1_0 k y1 y2)
noncomputable def cm81_1g  : MCode := (.seq (.region r81_2 [] (tO [0, 2])) (.seq (.region r81_4 [] (tO [0, 2])) (.seq (.block 0 (.seq (.region r81_8 [] (tO [0, 2, 9])) (.cond (.tmp 9) (.seq (.region r81_11 [] (tO [2])) .ret) (.seq (.region r81_13 [] (tO [0, 2, 16])) (.cond (.tmp 16) (.seq (.region r81_16 [] (tO [2])) .ret) (.seq (.region r81_18 [] (tO [0, 2, 23])) (.cond (.tmp 23) (.seq (.region r81_21 [] (tO [2, 3])) (.seq (.region r81_23 [] (tO [2])) .ret)) .skip))))))) (.seq (.region r81_25 [] (tO [2])) .ret))))
noncomputable def cm81_1 : MCode := cm81_1g 
theorem gm81_1 : cm81_1.Good Try.prog E81_1 sh81 := ⟨trivial, ⟨trivial, ⟨⟨trivial, ⟨⟨trivial, trivial⟩, ⟨trivial, ⟨⟨trivial, trivial⟩, ⟨trivial, ⟨⟨trivial, ⟨trivial, trivial⟩⟩, trivial⟩⟩⟩⟩⟩⟩, ⟨trivial, trivial⟩⟩⟩⟩
theorem fm81_1g (vf77_0 : Tf77_0) (vf81_2 : Tf81_2) (vf85_0 : Tf85_0) (vf86_0 : Tf86_0)  (α : Type) (k : List RV → Option α) : Fn81_1 (f81_1g vf77_0 vf81_2 vf85_0 vf86_0) α k = pa81_1.unc fun ds => fnM Try.prog (E81_1g vf77_0 vf81_2 vf85_0 vf86_0) sh81 (cm81_1g ) rs81 k ds := by kernel_rfl
theorem fm81_1 : ∀ (α : Type) (k : List RV → Option α), Fn81_1 f81_1 α k = pa81_1.unc fun ds => fnM Try.prog E81_1 sh81 cm81_1 rs81 k ds := fm81_1g f77_0 f81_2 f85_0 f86_0
theorem io81_1 : InstOk Try.prog 81 nt81 ⟨pa81_1, Fn81_1 f81_1⟩ := inst_ok eo81_1 followsTry is81 ⟨⟨sh81, cm81_1, by kernel_rfl, gm81_1, fm81_1⟩⟩
def pr81_0_0 : PT (List RV) := pRs [pR true [rD (dI .i64), rD (dI .i64)]]
def ur81_0_0 {β : Type} (g : List RV → β) : Int → Int → β := pr81_0_0.unc g
def E81_0g (vf77_0 : Tf77_0) (vf81_1 : Tf81_1) (vf85_0 : Tf85_0) (vf86_0 : Tf86_0) : EnvK := EnvK.of [⟨77, nt77, [⟨pa77_0, Fn77_0 vf77_0⟩]⟩, ⟨81, nt81, [⟨pa81_1, Fn81_1 vf81_1⟩]⟩, ⟨85, nt85, [⟨pa85_0, Fn85_0 vf85_0⟩]⟩, ⟨86, nt86, [⟨pa86_0, Fn86_0 vf86_0⟩]⟩] noSeq
noncomputable def E81_0 : EnvK := E81_0g f77_0 f81_1 f85_0 f86_0
theorem eo81_0 : E81_0.Ok Try.prog := EnvK.of_ok noSeq_ok ⟨⟨io77_0, trivial⟩, ⟨io81_1, trivial⟩, ⟨io85_0, trivial⟩, ⟨io86_0, trivial⟩, trivial⟩
abbrev Tf81_0 : Type 1 := (α : Type) → Int → (Int → Int → Option α) → Option α
def f81_0g (vf77_0 : Tf77_0) (vf81_1 : Tf81_1) (vf85_0 : Tf85_0) (vf86_0 : Tf86_0) (α : Type) (x1 : Int) (k1 : Int → Int → Option α) : Option α :=
 vf77_0 α x1 4194304
 (fun x2 => cK (decide (2097152 ≤ (w64 (x1 - (w64 (4194304 * x2))))))
 (vf81_1 α (w64 ((w64 (x1 - (w64 (4194304 * x2)))) - 2097152))
 (fun x3 x4 => vf85_0 α x3 x4 2
 (fun x5 x6 => k1 x5 x6)))
 (cK (decide (1048576 ≤ (w64 (x1 - (w64 (4194304 * x2))))))
 (vf81_1 α (w64 ((w64 (x1 - (w64 (4194304 * x2)))) - 1048576))
 (fun x7 x8 => vf85_0 α x7 x8 1
 (fun x9 x10 => k1 x9 x10)))
 (cK (decide (524288 < (w64 (x1 - (w64 (4194304 * x2))))))
 (vf86_0 α (w64 (1048576 - (w64 (x1 - (w64 (4194304 * x2))))))
 (fun x11 x12 => k1 x12 x11))
 (vf86_0 α (w64 (x1 - (w64 (4194304 * x2))))
 (fun x13 x14 => k1 x13 x14)))))
noncomputable def f81_0 (α : Type) (x1 : Int) (k1 : Int → Int → Option α) : Option α := f81_0g f77_0 f81_1 f85_0 f86_0 α x1 k1
def pa81_0 : PT (List DV) := pA [pV false [(dI .i64)]]
def Fn81_0 (v : Tf81_0) (α : Type) (k : List RV → Option α) : Int → Option α := fun x1 => v α x1 (fun (y1 : Int) (y2 : Int) => ur81_0_0 k y1 y2)
noncomputable def cm81_0g  : MCode := (.seq (.region r81_2 [] (tO [0, 2])) (.seq (.region r81_4 [] (tO [0, 2])) (.seq (.block 0 (.seq (.region r81_8 [] (tO [0, 2, 9])) (.cond (.tmp 9) (.seq (.region r81_11 [] (tO [2])) .ret) (.seq (.region r81_13 [] (tO [0, 2, 16])) (.cond (.tmp 16) (.seq (.region r81_16 [] (tO [2])) .ret) (.seq (.region r81_18 [] (tO [0, 2, 23])) (.cond (.tmp 23) (.seq (.region r81_21 [] (tO [2, 3])) (.seq (.region r81_23 [] (tO [2])) .ret)) .skip))))))) (.seq (.region r81_25 [] (tO [2])) .ret))))
noncomputable def cm81_0 : MCode := cm81_0g 
theorem gm81_0 : cm81_0.Good Try.prog E81_0 sh81 := ⟨trivial, ⟨trivial, ⟨⟨trivial, ⟨⟨trivial, trivial⟩, ⟨trivial, ⟨⟨trivial, trivial⟩, ⟨trivial, ⟨⟨trivial, ⟨trivial, trivial⟩⟩, trivial⟩⟩⟩⟩⟩⟩, ⟨trivial, trivial⟩⟩⟩⟩
theorem fm81_0g (vf77_0 : Tf77_0) (vf81_1 : Tf81_1) (vf85_0 : Tf85_0) (vf86_0 : Tf86_0)  (α : Type) (k : List RV → Option α) : Fn81_0 (f81_0g vf77_0 vf81_1 vf85_0 vf86_0) α k = pa81_0.unc fun ds => fnM Try.prog (E81_0g vf77_0 vf81_1 vf85_0 vf86_0) sh81 (cm81_0g ) rs81 k ds := by kernel_rfl
theorem fm81_0 : ∀ (α : Type) (k : List RV → Option α), Fn81_0 f81_0 α k = pa81_0.unc fun ds => fnM Try.prog E81_0 sh81 cm81_0 rs81 k ds := fm81_0g f77_0 f81_1 f85_0 f86_0
theorem io81_0 : InstOk Try.prog 81 nt81 ⟨pa81_0, Fn81_0 f81_0⟩ := inst_ok eo81_0 followsTry is81 ⟨⟨sh81, cm81_0, by kernel_rfl, gm81_0, fm81_0⟩⟩
abbrev nt71 : Nat := 28
def sh71 : List (Nat × List Sh) := [(8, [.cpx .f64, .int .i64]), (20, [.int .i64]), (25, [.int .i64])]
def r71_2 : List AOper := [oO 1 (.box (.tmp 0)), oO 2 (.alloc [(cI 0), (cI 0), (cI 0), (cI 0)]), oO 3 (.mv (kI 0))]
def r71_4 : List AOper := [oO 8 (.load true 2 (.tmp 1)), oO 9 (.call 79 [(.tmp 8)]), oM 7 9, oO 10 (.extract 0 (.tmp 7)), oO 11 (.extract 1 (.tmp 7)), oO 4 (.alloc [(cI 0), (cI 0), (cI 0)]), oD (.store 3 (.tmp 4) (.tmp 10)), oM 5 11]
def r71_7 : List AOper := [oM 12 5, oO 13 (.bin .neq 30 (.tmp 12) (kI 0))]
def r71_10 : List AOper := [oO 14 (.build [(cI 0), (cI 0), (cI 0), (cI 0)] []), oM 15 5, oD (.store 4 (.tmp 2) (.tmp 14)), oM 3 15]
def r71_12 : List AOper := [oO 16 (.mkfn 80 [(.tmp 4)]), oM 6 16]
def r71_14 : List AOper := [oM 17 6, oO 18 (.faddr 0 (.tmp 4)), oO 19 (.faddr 0 (.tmp 18)), oO 20 (.load false 1 (.tmp 19)), oO 21 (.calld (.tmp 17) [(.tmp 20)]), oM 22 6, oO 23 (.faddr 0 (.tmp 4)), oO 24 (.faddr 1 (.tmp 23)), oO 25 (.load false 1 (.tmp 24)), oO 26 (.calld (.tmp 22) [(.tmp 25)]), oO 27 (.build [(cI 0), (cI 0), (cI 0), (cI 0)] [(0, 2, (.tmp 21)), (2, 2, (.tmp 26))]), oD (.store 4 (.tmp 2) (.tmp 27)), oO 3 (.mv (kI 0))]
def tr71 : List (Nat × Tidy) := [tT 0 [1, 2], tT 1 [2, 4, 5], tT 2 [2, 4, 5, 13], tT 3 [2, 3], tT 4 [2, 4, 6], tT 5 [2, 3]]
def tl71 : List (Nat × Tidy) := []
def rs71 : List AResV := [.cell 2 true 4, .tmp 3]
def pr71_0_0 : PT (List RV) := pRs [pR true [rD (dI .i64), rD (dI .i64), rD (dI .i64), rD (dI .i64)], pR false [rD (dI .i64)]]
def ur71_0_0 {β : Type} (g : List RV → β) : Int → Int → Int → Int → Int → β := pr71_0_0.unc g
def E71_0g (vf79_0 : Tf79_0) (vf80_0 : Tf80_0) : EnvK := EnvK.of [⟨79, nt79, [⟨pa79_0, Fn79_0 vf79_0⟩]⟩, ⟨80, nt80, [⟨pa80_0, Fn80_0 vf80_0⟩]⟩] noSeq
noncomputable def E71_0 : EnvK := E71_0g f79_0 f80_0
theorem eo71_0 : E71_0.Ok Try.prog := EnvK.of_ok noSeq_ok ⟨⟨io79_0, trivial⟩, ⟨io80_0, trivial⟩, trivial⟩
abbrev Tf71_0 : Type 1 := (α : Type) → Nat → Nat → Int → (Int → Int → Int → Int → Int → Option α) → Option α
def f71_0g (vf79_0 : Tf79_0) (vf80_0 : Tf80_0) (α : Type) (x1 x2 : Nat) (x3 : Int) (k1 : Int → Int → Int → Int → Int → Option α) : Option α :=
 vf79_0 α x1 x2 x3
 (fun x4 x5 x6 x7 => cK (x7 != 0)
 (k1 0 0 0 0 x7)
 (vf80_0 α x4 x4 x5 x6
 (fun x8 x9 => vf80_0 α x5 x4 x5 x6
 (fun x10 x11 => k1 x8 x9 x10 x11 0))))
noncomputable def f71_0 (α : Type) (x1 x2 : Nat) (x3 : Int) (k1 : Int → Int → Int → Int → Int → Option α) : Option α := f71_0g f79_0 f80_0 α x1 x2 x3 k1
def pa71_0 : PT (List DV) := pA [pV true [(dX .f64), (dI .i64)]]
def Fn71_0 (v : Tf71_0) (α : Type) (k : List RV → Option α) : Nat → Nat → Int → Option α := fun x1 x2 x3 => v α x1 x2 x3 (fun (y1 : Int) (y2 : Int) (y3 : Int) (y4 : Int) (y5 : Int) => ur71_0_0 k y1 y2 y3 y4 y5)
noncomputable def cm71_0g  : MCode := (.seq (.region r71_2 [] (tO [1, 2])) (.seq (.region r71_4 [] (tO [2, 4, 5])) (.seq (.seq (.region r71_7 [] (tO [2, 4, 5, 13])) (.cond (.tmp 13) (.seq (.region r71_10 [] (tO [2, 3])) .ret) .skip)) (.seq (.region r71_12 [] (tO [2, 4, 6])) (.seq (.region r71_14 [(4, 8)] (tO [2, 3])) .ret)))))
noncomputable def cm71_0 : MCode := cm71_0g 
theorem gm71_0 : cm71_0.Good Try.prog E71_0 sh71 := ⟨trivial, ⟨trivial, ⟨⟨trivial, ⟨⟨trivial, trivial⟩, trivial⟩⟩, ⟨trivial, ⟨trivial, trivial⟩⟩⟩⟩⟩
theorem fm71_0g (vf79_0 : Tf79_0) (vf80_0 : Tf80_0)  (α : Type) (k : List RV → Option α) : Fn71_0 (f71_0g vf79_0 vf80_0) α k = pa71_0.unc fun ds => fnM Try.prog (E71_0g vf79_0 vf80_0) sh71 (cm71_0g ) rs71 k ds := by kernel_rfl
theorem fm71_0 : ∀ (α : Type) (k : List RV → Option α), Fn71_0 f71_0 α k = pa71_0.unc fun ds => fnM Try.prog E71_0 sh71 cm71_0 rs71 k ds := fm71_0g f79_0 f80_0
theorem is71 : FnIs Try.prog 71 nt71 tr71 tl71 cm71_0.erase rs71 := ⟨Try.f71, Try.func71, rfl, by kernel_rfl, by kernel_rfl, by kernel_rfl⟩
theorem io71_0 : InstOk Try.prog 71 nt71 ⟨pa71_0, Fn71_0 f71_0⟩ := inst_ok eo71_0 followsTry is71 ⟨⟨sh71, cm71_0, by kernel_rfl, gm71_0, fm71_0⟩⟩
abbrev nt76 : Nat := 54
def sh76 : List (Nat × List Sh) := [(21, [.int .i64]), (27, [.int .i64]), (50, [.int .i64, .int .i64, .int .i64])]
def r76_2 : List AOper := [oO 4 (.alloc [(.d (.v (.complex Go.FloatKind.f64 0 0))), (cI 0)]), oO 5 (.mv (kI 0))]
def r76_4 : List AOper := [oM 13 0, oM 14 1, oO 15 (.bin .add 3 (.tmp 13) (.tmp 14)), oO 16 (.call 77 [(.tmp 15), (kI 2)]), oM 6 16]
def r76_6 : List AOper := [oM 17 6, oO 18 (.call 81 [(.tmp 17)]), oO 7 (.alloc [(cI 0), (cI 0)]), oD (.store 2 (.tmp 7) (.tmp 18))]
def r76_8 : List AOper := [oO 20 (.faddr 0 (.tmp 7)), oO 21 (.load false 1 (.tmp 20)), oO 22 (.call 82 [(.tmp 21), (kI 64)]), oM 19 22, oO 23 (.extract 0 (.tmp 19)), oO 24 (.extract 1 (.tmp 19)), oM 8 23, oM 9 24]
def r76_10 : List AOper := [oO 26 (.faddr 1 (.tmp 7)), oO 27 (.load false 1 (.tmp 26)), oO 28 (.call 82 [(.tmp 27), (kI 64)]), oM 25 28, oO 29 (.extract 0 (.tmp 25)), oO 30 (.extract 1 (.tmp 25)), oM 10 29, oM 11 30]
def r76_12 : List AOper := [oM 31 8, oM 32 10, oO 33 (.build [(cI 0), (cI 0)] [(0, 1, (.tmp 31)), (1, 1, (.tmp 32))]), oM 34 1, oM 35 6, oO 36 (.bin .sub 3 (.tmp 34) (.tmp 35)), oO 37 (.bin .mul 3 (kI 11) (.tmp 36)), oO 38 (.call 78 [(.tmp 37), (kI 7)]), oO 39 (.bin .add 3 (kI 2) (.tmp 38)), oO 40 (.build [(cI 0), (cI 0), (cI 0)] [(0, 2, (.tmp 33)), (2, 1, (.tmp 39))]), oO 12 (.alloc [(cI 0), (cI 0), (cI 0)]), oD (.store 3 (.tmp 12) (.tmp 40))]
def r76_15 : List AOper := [oM 41 0, oM 42 1, oO 43 (.bin .eql 3 (.tmp 41) (.tmp 42)), oM 44 43, oG 45 (.mv (.tmp 0)) 44 true, oG 46 (.bin .rem 3 (.tmp 45) (kI 1048576)) 44 true, oG 47 (.bin .eql 3 (.tmp 46) (kI 0)) 44 true, oO 48 (.pick (.tmp 44) (.tmp 47) (.const (.bool false)))]
def r76_17 : List AOper := [oO 49 (.faddr 2 (.tmp 12)), oD (.store 1 (.tmp 49) (kI 0))]
def r76_19 : List AOper := [oO 50 (.load true 3 (.tmp 12)), oO 51 (.call 83 [(.tmp 50)]), oO 52 (.extract 0 (.tmp 51)), oO 53 (.extract 1 (.tmp 51)), oD (.store 2 (.tmp 4) (.tmp 52)), oM 5 53]
def tr76 : List (Nat × Tidy) := [tT 0 [0, 1, 4], tT 1 [0, 1, 4, 6], tT 2 [0, 1, 4, 6, 7], tT 3 [0, 1, 4, 6, 7, 8], tT 4 [0, 1, 4, 6, 8, 10], tT 5 [0, 1, 4, 12], tT 6 [4, 12, 48], tT 7 [4, 12], tT 8 [4, 5]]
def tl76 : List (Nat × Tidy) := []
def rs76 : List AResV := [.cell 4 true 2, .tmp 5]
def p76_0_0 : PT St := pS [sl 0 (aV false [(cD (dI .i64))]), sl 1 (aV false [(cD (dI .i64))]), sl 4 (aV false [(cPtr 4 0)]), sl 12 (aV false [(cPtr 12 0)])] [eBox 4 [(cD (dX .f64)), (cD (dI .i64))], eBox 12 [(cD (dI .i64)), (cD (dI .i64)), (cD (dI .i64))]]
def u76_0_0 {β : Type} (g : St → β) : Int → Int → Nat → Nat → Int → Int → Int → Int → β := p76_0_0.unc g
def p76_0_1 : PT St := pS [sl 4 (aV false [(cPtr 4 0)]), sl 12 (aV false [(cPtr 12 0)])] [eBox 4 [(cD (dX .f64)), (cD (dI .i64))], eBox 12 [(cD (dI .i64)), (cD (dI .i64)), (cD (dI .i64))]]
def u76_0_1 {β : Type} (g : St → β) : Nat → Nat → Int → Int → Int → Int → β := p76_0_1.unc g
def p76_0_2 : PT St := pS [sl 4 (aV false [(cPtr 4 0)]), sl 12 (aV false [(cPtr 12 0)]), sl 48 (aV false [(cD dB)])] [eBox 4 [(cD (dX .f64)), (cD (dI .i64))], eBox 12 [(cD (dI .i64)), (cD (dI .i64)), (cD (dI .i64))]]
def u76_0_2 {β : Type} (g : St → β) : Bool → Nat → Nat → Int → Int → Int → Int → β := p76_0_2.unc g
def pr76_0_0 : PT (List RV) := pRs [pR true [rD (dX .f64), rD (dI .i64)], pR false [rD (dI .i64)]]
def ur76_0_0 {β : Type} (g : List RV → β) : Nat → Nat → Int → Int → β := pr76_0_0.unc g
def E76_0g (vf77_0 : Tf77_0) (vf81_0 : Tf81_0) (vf82_0 : Tf82_0) (vf78_0 : Tf78_0) (vf83_0 : Tf83_0) : EnvK := EnvK.of [⟨77, nt77, [⟨pa77_0, Fn77_0 vf77_0⟩]⟩, ⟨81, nt81, [⟨pa81_0, Fn81_0 vf81_0⟩]⟩, ⟨82, nt82, [⟨pa82_0, Fn82_0 vf82_0⟩]⟩, ⟨78, nt78, [⟨pa78_0, Fn78_0 vf78_0⟩]⟩, ⟨83, nt83, [⟨pa83_0, Fn83_0 vf83_0⟩]⟩] noSeq
noncomputable def E76_0 : EnvK := E76_0g f77_0 f81_0 f82_0 f78_0 f83_0
theorem eo76_0 : E76_0.Ok Try.prog := EnvK.of_ok noSeq_ok ⟨⟨io77_0, trivial⟩, ⟨io81_0, trivial⟩, ⟨io82_0, trivial⟩, ⟨io78_0, trivial⟩, ⟨io83_0, trivial⟩, trivial⟩
noncomputable def c76_0_13g  : MCode := (.seq (.region r76_15 [] (tO [4, 12, 48])) (.cond (.tmp 48) (.region r76_17 [] (tO [4, 12])) .skip))
noncomputable def c76_0_13 : MCode := c76_0_13g 
theorem g76_0_13 : c76_0_13.Good Try.prog E76_0 sh76 := ⟨trivial, ⟨trivial, trivial⟩⟩
--CODE 13 0
abbrev TJ76_0_0 : Type 1 := (α : Type) → Int → Int → (Option α) → (Bool → Option α) → Option α
def J76_0_0g  (α : Type) (x11 x12 : Int) (k1 : Option α) (k2 : Bool → Option α) : Option α :=
 cK (x11 == x12)
 (cK ((Int.tmod x11 1048576) == 0)
 (k1)
 (k2 ((Int.tmod x11 1048576) == 0)))
 (k2 false)
noncomputable def J76_0_0 (α : Type) (x11 x12 : Int) (k1 : Option α) (k2 : Bool → Option α) : Option α := J76_0_0g  α x11 x12 k1 k2
def F76_0_0 (v : TJ76_0_0) (α : Type) (K : Exit → St → Option α) : Int → Int → Nat → Nat → Int → Int → Int → Int → Option α := fun x11 x12 x13 x14 x15 x16 x17 x18 => v α x11 x12 (u76_0_1 (K .normal) x13 x14 x15 x16 x17 0) (fun (y1 : Bool) => u76_0_2 (K .normal) y1 x13 x14 x15 x16 x17 x18) 
theorem m76_0_0g (vf77_0 : Tf77_0) (vf81_0 : Tf81_0) (vf82_0 : Tf82_0) (vf78_0 : Tf78_0) (vf83_0 : Tf83_0)  (α : Type) (K : Exit → St → Option α) : F76_0_0 (J76_0_0g ) α K = p76_0_0.unc fun σ => runM Try.prog (E76_0g vf77_0 vf81_0 vf82_0 vf78_0 vf83_0) sh76 (c76_0_13g ) K σ := by kernel_rfl
theorem m76_0_0 : ∀ (α : Type) (K : Exit → St → Option α), F76_0_0 J76_0_0 α K = p76_0_0.unc fun σ => runM Try.prog E76_0 sh76 c76_0_13 K σ := m76_0_0g f77_0 f81_0 f82_0 f78_0 f83_0
abbrev Tf76_0 : Type 1 := (α : Type) → Int → Int → (Nat → Nat → Int → Int → Option α) → Option α
def f76_0g (vJ76_0_0 : TJ76_0_0) (vf77_0 : Tf77_0) (vf78_0 : Tf78_0) (vf81_0 : Tf81_0) (vf82_0 : Tf82_0) (vf83_0 : Tf83_0) (α : Type) (x1 x2 : Int) (k1 : Nat → Nat → Int → Int → Option α) : Option α :=
 vf77_0 α (w64 (x1 + x2)) 2
 (fun x3 => vf81_0 α x3
 (fun x4 x5 => vf82_0 α x4 64
 (fun x6 x7 => vf82_0 α x5 64
 (fun x8 x9 => vf78_0 α (w64 (11 * (w64 (x2 - x3)))) 7
 (fun x10 => vJ76_0_0 α x1 x2
 (vf83_0 α x6 x8 0
 (fun x22 x23 x24 x25 => k1 x22 x23 x24 x25))
 (fun x20 => vf83_0 α x6 x8 (w64 (2 + x10))
 (fun x26 x27 x28 x29 => k1 x26 x27 x28 x29)))))))
noncomputable def f76_0 (α : Type) (x1 x2 : Int) (k1 : Nat → Nat → Int → Int → Option α) : Option α := f76_0g J76_0_0 f77_0 f78_0 f81_0 f82_0 f83_0 α x1 x2 k1
def pa76_0 : PT (List DV) := pA [pV false [(dI .i64)], pV false [(dI .i64)]]
def Fn76_0 (v : Tf76_0) (α : Type) (k : List RV → Option α) : Int → Int → Option α := fun x1 x2 => v α x1 x2 (fun (y1 : Nat) (y2 : Nat) (y3 : Int) (y4 : Int) => ur76_0_0 k y1 y2 y3 y4)
noncomputable def cm76_0g (vJ76_0_0 : TJ76_0_0) : MCode := (.seq (.region r76_2 [] (tO [0, 1, 4])) (.seq (.region r76_4 [] (tO [0, 1, 4, 6])) (.seq (.region r76_6 [] (tO [0, 1, 4, 6, 7])) (.seq (.region r76_8 [] (tO [0, 1, 4, 6, 7, 8])) (.seq (.region r76_10 [] (tO [0, 1, 4, 6, 8, 10])) (.seq (.region r76_12 [] (tO [0, 1, 4, 12])) (.seq (.mark [⟨p76_0_0, F76_0_0 vJ76_0_0⟩] c76_0_13) (.seq (.region r76_19 [] (tO [4, 5])) .ret))))))))
noncomputable def cm76_0 : MCode := cm76_0g J76_0_0
theorem gm76_0 : cm76_0.Good Try.prog E76_0 sh76 := ⟨trivial, ⟨trivial, ⟨trivial, ⟨trivial, ⟨trivial, ⟨trivial, ⟨⟨g76_0_13, m76_0_0, trivial⟩, ⟨trivial, trivial⟩⟩⟩⟩⟩⟩⟩⟩
theorem fm76_0g (vf77_0 : Tf77_0) (vf81_0 : Tf81_0) (vf82_0 : Tf82_0) (vf78_0 : Tf78_0) (vf83_0 : Tf83_0) (vJ76_0_0 : TJ76_0_0) (α : Type) (k : List RV → Option α) : Fn76_0 (f76_0g vJ76_0_0 vf77_0 vf78_0 vf81_0 vf82_0 vf83_0) α k = pa76_0.unc fun ds => fnM Try.prog (E76_0g vf77_0 vf81_0 vf82_0 vf78_0 vf83_0) sh76 (cm76_0g vJ76_0_0) rs76 k ds := by kernel_rfl
theorem fm76_0 : ∀ (α : Type) (k : List RV → Option α), Fn76_0 f76_0 α k = pa76_0.unc fun ds => fnM Try.prog E76_0 sh76 cm76_0 rs76 k ds := fm76_0g f77_0 f81_0 f82_0 f78_0 f83_0 J76_0_0
theorem is76 : FnIs Try.prog 76 nt76 tr76 tl76 cm76_0.erase rs76 := ⟨Try.f76, Try.func76, rfl, by kernel_rfl, by kernel_rfl, by kernel_rfl⟩
theorem io76_0 : InstOk Try.prog 76 nt76 ⟨pa76_0, Fn76_0 f76_0⟩ := inst_ok eo76_0 followsTry is76 ⟨⟨sh76, cm76_0, by kernel_rfl, gm76_0, fm76_0⟩⟩
abbrev nt70 : Nat := 26
def sh70 : List (Nat × List Sh) := []
def r70_2 : List AOper := [oO 4 (.alloc [(.d (.v (.complex Go.FloatKind.f64 0 0))), (cI 0)]), oO 5 (.mv (kI 0))]
def r70_5 : List AOper := [oM 6 0, oO 7 (.call 74 [(.tmp 6), (kI 1000000000)]), oO 8 (.pure (oB (.unOp .not 4 (.tmp 7)) 4)), oM 9 8, oG 10 (.mv (.tmp 1)) 9 false, oG 11 (.call 75 [(.tmp 10), (kI 1), (kI 1000000000)]) 9 false, oG 12 (.pure (oB (.unOp .not 4 (.tmp 11)) 4)) 9 false, oO 13 (.pick (.tmp 9) (.const (.bool true)) (.tmp 12))]
def r70_8 : List AOper := [oO 14 (.build [(.d (.v (.complex Go.FloatKind.f64 0 0))), (cI 0)] []), oD (.store 2 (.tmp 4) (.tmp 14)), oO 5 (.mv (kI 2))]
def r70_10 : List AOper := [oM 15 0, oO 16 (.bin .mul 3 (.tmp 15) (kI 4194304)), oM 17 1, oO 18 (.call 77 [(.tmp 16), (.tmp 17)]), oM 19 0, oO 20 (.bin .mul 3 (.tmp 19) (kI 4194304)), oM 21 1, oO 22 (.call 78 [(.tmp 20), (.tmp 21)]), oO 23 (.call 76 [(.tmp 18), (.tmp 22)]), oO 24 (.extract 0 (.tmp 23)), oO 25 (.extract 1 (.tmp 23)), oD (.store 2 (.tmp 4) (.tmp 24)), oM 5 25]
def tr70 : List (Nat × Tidy) := [tT 0 [0, 1, 4], tT 1 [0, 1, 4, 13], tT 2 [4, 5], tT 3 [4, 5]]
def tl70 : List (Nat × Tidy) := []
def rs70 : List AResV := [.cell 4 true 2, .tmp 5]
def pr70_0_0 : PT (List RV) := pRs [pR true [rD (dX .f64), rD (dI .i64)], pR false [rD (dI .i64)]]
def ur70_0_0 {β : Type} (g : List RV → β) : Nat → Nat → Int → Int → β := pr70_0_0.unc g
def E70_0g (vf74_0 : Tf74_0) (vf75_0 : Tf75_0) (vf77_0 : Tf77_0) (vf78_0 : Tf78_0) (vf76_0 : Tf76_0) : EnvK := EnvK.of [⟨74, nt74, [⟨pa74_0, Fn74_0 vf74_0⟩]⟩, ⟨75, nt75, [⟨pa75_0, Fn75_0 vf75_0⟩]⟩, ⟨77, nt77, [⟨pa77_0, Fn77_0 vf77_0⟩]⟩, ⟨78, nt78, [⟨pa78_0, Fn78_0 vf78_0⟩]⟩, ⟨76, nt76, [⟨pa76_0, Fn76_0 vf76_0⟩]⟩] noSeq
noncomputable def E70_0 : EnvK := E70_0g f74_0 f75_0 f77_0 f78_0 f76_0
theorem eo70_0 : E70_0.Ok Try.prog := EnvK.of_ok noSeq_ok ⟨⟨io74_0, trivial⟩, ⟨io75_0, trivial⟩, ⟨io77_0, trivial⟩, ⟨io78_0, trivial⟩, ⟨io76_0, trivial⟩, trivial⟩
abbrev Tf70_0 : Type 1 := (α : Type) → Int → Int → (Nat → Nat → Int → Int → Option α) → Option α
def f70_0g (vf74_0 : Tf74_0) (vf75_0 : Tf75_0) (vf76_0 : Tf76_0) (vf77_0 : Tf77_0) (vf78_0 : Tf78_0) (α : Type) (x1 x2 : Int) (k1 : Nat → Nat → Int → Int → Option α) : Option α :=
 vf74_0 α x1 1000000000
 (fun x3 => cK (!x3)
 (k1 0 0 0 2)
 (vf75_0 α x2 1 1000000000
 (fun x4 => cK (!x4)
 (k1 0 0 0 2)
 (vf77_0 α (w64 (x1 * 4194304)) x2
 (fun x5 => vf78_0 α (w64 (x1 * 4194304)) x2
 (fun x6 => vf76_0 α x5 x6
 (fun x7 x8 x9 x10 => k1 x7 x8 x9 x10)))))))
noncomputable def f70_0 (α : Type) (x1 x2 : Int) (k1 : Nat → Nat → Int → Int → Option α) : Option α := f70_0g f74_0 f75_0 f76_0 f77_0 f78_0 α x1 x2 k1
def pa70_0 : PT (List DV) := pA [pV false [(dI .i64)], pV false [(dI .i64)]]
def Fn70_0 (v : Tf70_0) (α : Type) (k : List RV → Option α) : Int → Int → Option α := fun x1 x2 => v α x1 x2 (fun (y1 : Nat) (y2 : Nat) (y3 : Int) (y4 : Int) => ur70_0_0 k y1 y2 y3 y4)
noncomputable def cm70_0g  : MCode := (.seq (.region r70_2 [] (tO [0, 1, 4])) (.seq (.seq (.region r70_5 [] (tO [0, 1, 4, 13])) (.cond (.tmp 13) (.seq (.region r70_8 [] (tO [4, 5])) .ret) .skip)) (.seq (.region r70_10 [] (tO [4, 5])) .ret)))
noncomputable def cm70_0 : MCode := cm70_0g 
theorem gm70_0 : cm70_0.Good Try.prog E70_0 sh70 := ⟨trivial, ⟨⟨trivial, ⟨⟨trivial, trivial⟩, trivial⟩⟩, ⟨trivial, trivial⟩⟩⟩
theorem fm70_0g (vf74_0 : Tf74_0) (vf75_0 : Tf75_0) (vf77_0 : Tf77_0) (vf78_0 : Tf78_0) (vf76_0 : Tf76_0)  (α : Type) (k : List RV → Option α) : Fn70_0 (f70_0g vf74_0 vf75_0 vf76_0 vf77_0 vf78_0) α k = pa70_0.unc fun ds => fnM Try.prog (E70_0g vf74_0 vf75_0 vf77_0 vf78_0 vf76_0) sh70 (cm70_0g ) rs70 k ds := by kernel_rfl
theorem fm70_0 : ∀ (α : Type) (k : List RV → Option α), Fn70_0 f70_0 α k = pa70_0.unc fun ds => fnM Try.prog E70_0 sh70 cm70_0 rs70 k ds := fm70_0g f74_0 f75_0 f77_0 f78_0 f76_0
theorem is70 : FnIs Try.prog 70 nt70 tr70 tl70 cm70_0.erase rs70 := ⟨Try.f70, Try.func70, rfl, by kernel_rfl, by kernel_rfl, by kernel_rfl⟩
theorem io70_0 : InstOk Try.prog 70 nt70 ⟨pa70_0, Fn70_0 f70_0⟩ := inst_ok eo70_0 followsTry is70 ⟨⟨sh70, cm70_0, by kernel_rfl, gm70_0, fm70_0⟩⟩
end Go.AM.K
