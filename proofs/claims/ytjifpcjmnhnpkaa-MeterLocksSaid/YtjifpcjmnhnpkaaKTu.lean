/- Printed by KGen. -/
import Derived.Test.YtjifpcjmnhnpkaaProg
import Derived.Test.YtjifpcjmnhnpkaaKMa
namespace Go.AM.K
open Go.Proofs
set_option maxRecDepth 100000
set_option linter.unusedVariables false
theorem followsTry : Try.prog.follows .mixedOrders = true := by kernel_rfl
abbrev nt137 : Nat := 13
def sh137 : List (Nat × List Sh) := [(6, [.int .i64]), (10, [.int .i64])]
def r137_2 : List AOper := [oO 3 (.alloc [(cI 0), (cI 0)])]
def r137_4 : List AOper := [oM 4 0, oO 5 (.faddr 2 (.tmp 1)), oO 6 (.load false 1 (.tmp 5)), oO 7 (.bin .sub 3 (.tmp 4) (.tmp 6)), oM 8 0, oO 9 (.faddr 2 (.tmp 1)), oO 10 (.load false 1 (.tmp 9)), oO 11 (.bin .add 3 (.tmp 8) (.tmp 10)), oO 12 (.build [(cI 0), (cI 0)] [(0, 1, (.tmp 7)), (1, 1, (.tmp 11))]), oD (.store 2 (.tmp 3) (.tmp 12))]
def tr137 : List (Nat × Tidy) := [tT 0 [0, 1, 3], tT 1 [3]]
def tl137 : List (Nat × Tidy) := []
def rs137 : List AResV := [.cell 3 true 2]
def pr137_0_0 : PT (List RV) := pRs [pR true [rD (dI .i64), rD (dI .i64)]]
def ur137_0_0 {β : Type} (g : List RV → β) : Int → Int → β := pr137_0_0.unc g
def E137_0g  : EnvK := EnvK.of [] noSeq
noncomputable def E137_0 : EnvK := E137_0g 
theorem eo137_0 : E137_0.Ok Try.prog := EnvK.of_ok noSeq_ok trivial
abbrev Tf137_0 : Type 1 := (α : Type) → Int → Int → Int → Int → (Int → Int → Option α) → Option α
def f137_0g  (α : Type) (x1 x2 x3 x4 : Int) (k1 : Int → Int → Option α) : Option α :=
 k1 (w64 (x1 - x4)) (w64 (x1 + x4))
noncomputable def f137_0 (α : Type) (x1 x2 x3 x4 : Int) (k1 : Int → Int → Option α) : Option α := f137_0g  α x1 x2 x3 x4 k1
def pa137_0 : PT (List DV) := pA [pV false [(dI .i64)], pV false [(dP [(dI .i64), (dI .i64), (dI .i64)] 0)]]
def Fn137_0 (v : Tf137_0) (α : Type) (k : List RV → Option α) : Int → Int → Int → Int → Option α := fun x1 x2 x3 x4 => v α x1 x2 x3 x4 (fun (y1 : Int) (y2 : Int) => ur137_0_0 k y1 y2)
noncomputable def cm137_0g  : MCode := (.seq (.region r137_2 [] (tO [0, 1, 3])) (.seq (.region r137_4 [] (tO [3])) .ret))
noncomputable def cm137_0 : MCode := cm137_0g 
theorem gm137_0 : cm137_0.Good Try.prog E137_0 sh137 := ⟨trivial, ⟨trivial, trivial⟩⟩
theorem fm137_0g   (α : Type) (k : List RV → Option α) : Fn137_0 (f137_0g ) α k = pa137_0.unc fun ds => fnM Try.prog (E137_0g ) sh137 (cm137_0g ) rs137 k ds := by kernel_rfl
theorem fm137_0 : ∀ (α : Type) (k : List RV → Option α), Fn137_0 f137_0 α k = pa137_0.unc fun ds => fnM Try.prog E137_0 sh137 cm137_0 rs137 k ds := fm137_0g 
theorem is137 : FnIs Try.prog 137 nt137 tr137 tl137 cm137_0.erase rs137 := ⟨Try.f137, Try.func137, rfl, by kernel_rfl, by kernel_rfl, by kernel_rfl⟩
theorem io137_0 : InstOk Try.prog 137 nt137 ⟨pa137_0, Fn137_0 f137_0⟩ := inst_ok eo137_0 followsTry is137 ⟨⟨sh137, cm137_0, by kernel_rfl, gm137_0, fm137_0⟩⟩
abbrev nt151 : Nat := 10
def sh151 : List (Nat × List Sh) := []
def r151_2 : List AOper := [oO 2 (.alloc [(cI 0), (cI 0)])]
def r151_4 : List AOper := [oM 3 0, oO 4 (.pure (oB (.call { callee := .builtin .real, args := #[(.tmp 3)], argTypes := #[26] }) 112)), oO 5 (.pure (oB (.convert 112 3 (.tmp 4)) 3)), oM 6 0, oO 7 (.pure (oB (.call { callee := .builtin .imag, args := #[(.tmp 6)], argTypes := #[26] }) 112)), oO 8 (.pure (oB (.convert 112 3 (.tmp 7)) 3)), oO 9 (.build [(cI 0), (cI 0)] [(0, 1, (.tmp 5)), (1, 1, (.tmp 8))]), oD (.store 2 (.tmp 2) (.tmp 9))]
def tr151 : List (Nat × Tidy) := [tT 0 [0, 2], tT 1 [2]]
def tl151 : List (Nat × Tidy) := []
def rs151 : List AResV := [.cell 2 true 2]
def pr151_0_0 : PT (List RV) := pRs [pR true [rD (dI .i64), rD (dI .i64)]]
def ur151_0_0 {β : Type} (g : List RV → β) : Int → Int → β := pr151_0_0.unc g
def E151_0g  : EnvK := EnvK.of [] noSeq
noncomputable def E151_0 : EnvK := E151_0g 
theorem eo151_0 : E151_0.Ok Try.prog := EnvK.of_ok noSeq_ok trivial
abbrev Tf151_0 : Type 1 := (α : Type) → Nat → Nat → (Int → Int → Option α) → Option α
def f151_0g  (α : Type) (x1 x2 : Nat) (k1 : Int → Int → Option α) : Option α :=
 ivK (f2i .f64 x1 .i64)
 (fun x3 => ivK (f2i .f64 x2 .i64)
 (fun x4 => k1 x3 x4))
noncomputable def f151_0 (α : Type) (x1 x2 : Nat) (k1 : Int → Int → Option α) : Option α := f151_0g  α x1 x2 k1
def pa151_0 : PT (List DV) := pA [pV false [(dX .f64)]]
def Fn151_0 (v : Tf151_0) (α : Type) (k : List RV → Option α) : Nat → Nat → Option α := fun x1 x2 => v α x1 x2 (fun (y1 : Int) (y2 : Int) => ur151_0_0 k y1 y2)
noncomputable def cm151_0g  : MCode := (.seq (.region r151_2 [] (tO [0, 2])) (.seq (.region r151_4 [] (tO [2])) .ret))
noncomputable def cm151_0 : MCode := cm151_0g 
theorem gm151_0 : cm151_0.Good Try.prog E151_0 sh151 := ⟨trivial, ⟨trivial, trivial⟩⟩
theorem fm151_0g   (α : Type) (k : List RV → Option α) : Fn151_0 (f151_0g ) α k = pa151_0.unc fun ds => fnM Try.prog (E151_0g ) sh151 (cm151_0g ) rs151 k ds := by kernel_rfl
theorem fm151_0 : ∀ (α : Type) (k : List RV → Option α), Fn151_0 f151_0 α k = pa151_0.unc fun ds => fnM Try.prog E151_0 sh151 cm151_0 rs151 k ds := fm151_0g 
theorem is151 : FnIs Try.prog 151 nt151 tr151 tl151 cm151_0.erase rs151 := ⟨Try.f151, Try.func151, rfl, by kernel_rfl, by kernel_rfl, by kernel_rfl⟩
theorem io151_0 : InstOk Try.prog 151 nt151 ⟨pa151_0, Fn151_0 f151_0⟩ := inst_ok eo151_0 followsTry is151 ⟨⟨sh151, cm151_0, by kernel_rfl, gm151_0, fm151_0⟩⟩
abbrev nt150 : Nat := 7
def sh150 : List (Nat × List Sh) := []
def r150_2 : List AOper := [oO 2 (.mv (.const (.float Go.FloatKind.f64 0)))]
def r150_4 : List AOper := [oM 3 0, oO 4 (.pure (oB (.call { callee := .value (.func 110), args := #[(.tmp 3)], argTypes := #[112] }) 191)), oO 5 (.bin .andNot 191 (.tmp 4) (.const (.int .u64 9223372036854775808))), oO 6 (.pure (oB (.call { callee := .value (.func 158), args := #[(.tmp 5)], argTypes := #[191] }) 112)), oM 2 6]
def tr150 : List (Nat × Tidy) := [tT 0 [0], tT 1 [2]]
def tl150 : List (Nat × Tidy) := []
def rs150 : List AResV := [.tmp 2]
def pr150_0_0 : PT (List RV) := pRs [pR false [rD (dF .f64)]]
def ur150_0_0 {β : Type} (g : List RV → β) : Nat → β := pr150_0_0.unc g
def E150_0g  : EnvK := EnvK.of [] noSeq
noncomputable def E150_0 : EnvK := E150_0g 
theorem eo150_0 : E150_0.Ok Try.prog := EnvK.of_ok noSeq_ok trivial
abbrev Tf150_0 : Type 1 := (α : Type) → Nat → (Nat → Option α) → Option α
def f150_0g  (α : Type) (x1 : Nat) (k1 : Nat → Option α) : Option α :=
 k1 (Int.toNat (iAndNot .u64 ((x1 : Nat) : Int) 9223372036854775808))
noncomputable def f150_0 (α : Type) (x1 : Nat) (k1 : Nat → Option α) : Option α := f150_0g  α x1 k1
def pa150_0 : PT (List DV) := pA [pV false [(dF .f64)]]
def Fn150_0 (v : Tf150_0) (α : Type) (k : List RV → Option α) : Nat → Option α := fun x1 => v α x1 (fun (y1 : Nat) => ur150_0_0 k y1)
noncomputable def cm150_0g  : MCode := (.seq (.region r150_2 [] (tO [0])) (.seq (.region r150_4 [] (tO [2])) .ret))
noncomputable def cm150_0 : MCode := cm150_0g 
theorem gm150_0 : cm150_0.Good Try.prog E150_0 sh150 := ⟨trivial, ⟨trivial, trivial⟩⟩
theorem fm150_0g   (α : Type) (k : List RV → Option α) : Fn150_0 (f150_0g ) α k = pa150_0.unc fun ds => fnM Try.prog (E150_0g ) sh150 (cm150_0g ) rs150 k ds := by kernel_rfl
theorem fm150_0 : ∀ (α : Type) (k : List RV → Option α), Fn150_0 f150_0 α k = pa150_0.unc fun ds => fnM Try.prog E150_0 sh150 cm150_0 rs150 k ds := fm150_0g 
theorem is150 : FnIs Try.prog 150 nt150 tr150 tl150 cm150_0.erase rs150 := ⟨Try.f150, Try.func150, rfl, by kernel_rfl, by kernel_rfl, by kernel_rfl⟩
theorem io150_0 : InstOk Try.prog 150 nt150 ⟨pa150_0, Fn150_0 f150_0⟩ := inst_ok eo150_0 followsTry is150 ⟨⟨sh150, cm150_0, by kernel_rfl, gm150_0, fm150_0⟩⟩
abbrev nt156 : Nat := 7
def sh156 : List (Nat × List Sh) := []
def r156_2 : List AOper := [oO 2 (.mv (.const (.float Go.FloatKind.f64 0)))]
def r156_6 : List AOper := [oM 3 0, oO 4 (.pure (oB (.call { callee := .value (.func 162), args := #[(.tmp 3)], argTypes := #[112] }) 112)), oM 2 4]
def r156_8 : List AOper := [oM 5 0, oO 6 (.call 163 [(.tmp 5)]), oM 2 6]
def tr156 : List (Nat × Tidy) := [tT 0 [0], tT 1 [2], tT 2 [2]]
def tl156 : List (Nat × Tidy) := []
def rs156 : List AResV := [.tmp 2]
def pr156_0_0 : PT (List RV) := pRs [pR false [rD (dNan .f64)]]
def ur156_0_0 {β : Type} (g : List RV → β) : β := pr156_0_0.unc g
def pr156_0_1 : PT (List RV) := pRs [pR false [rD (dF .f64)]]
def ur156_0_1 {β : Type} (g : List RV → β) : Nat → β := pr156_0_1.unc g
def E156_0g  : EnvK := EnvK.of [] noSeq
noncomputable def E156_0 : EnvK := E156_0g 
theorem eo156_0 : E156_0.Ok Try.prog := EnvK.of_ok noSeq_ok trivial
abbrev Tf156_0 : Type 1 := (α : Type) → Nat → (Option α) → (Nat → Option α) → Option α
def f156_0g  (α : Type) (x1 : Nat) (k1 : Option α) (k2 : Nat → Option α) : Option α :=
 cK (isNaNb .f64 x1)
 (k1)
 (k2 (truncF x1))
noncomputable def f156_0 (α : Type) (x1 : Nat) (k1 : Option α) (k2 : Nat → Option α) : Option α := f156_0g  α x1 k1 k2
def pa156_0 : PT (List DV) := pA [pV false [(dF .f64)]]
def Fn156_0 (v : Tf156_0) (α : Type) (k : List RV → Option α) : Nat → Option α := fun x1 => v α x1 (ur156_0_0 k ) (fun (y1 : Nat) => ur156_0_1 k y1)
noncomputable def cm156_0g  : MCode := (.seq (.region r156_2 [] (tO [0])) (.seq (.cond (.const (.bool true)) (.seq (.region r156_6 [] (tO [2])) .ret) .skip) (.seq (.region r156_8 [] (tO [2])) .ret)))
noncomputable def cm156_0 : MCode := cm156_0g 
theorem gm156_0 : cm156_0.Good Try.prog E156_0 sh156 := ⟨trivial, ⟨⟨⟨trivial, trivial⟩, trivial⟩, ⟨trivial, trivial⟩⟩⟩
theorem fm156_0g   (α : Type) (k : List RV → Option α) : Fn156_0 (f156_0g ) α k = pa156_0.unc fun ds => fnM Try.prog (E156_0g ) sh156 (cm156_0g ) rs156 k ds := by kernel_rfl
theorem fm156_0 : ∀ (α : Type) (k : List RV → Option α), Fn156_0 f156_0 α k = pa156_0.unc fun ds => fnM Try.prog E156_0 sh156 cm156_0 rs156 k ds := fm156_0g 
theorem is156 : FnIs Try.prog 156 nt156 tr156 tl156 cm156_0.erase rs156 := ⟨Try.f156, Try.func156, rfl, by kernel_rfl, by kernel_rfl, by kernel_rfl⟩
theorem io156_0 : InstOk Try.prog 156 nt156 ⟨pa156_0, Fn156_0 f156_0⟩ := inst_ok eo156_0 followsTry is156 ⟨⟨sh156, cm156_0, by kernel_rfl, gm156_0, fm156_0⟩⟩
abbrev nt148 : Nat := 10
def sh148 : List (Nat × List Sh) := [(4, [.int .i64]), (7, [.int .i64])]
def r148_2 : List AOper := [oO 1 (.box (.tmp 0)), oO 2 (.mv (.const (.complex Go.FloatKind.f64 0 0)))]
def r148_4 : List AOper := [oO 3 (.faddr 0 (.tmp 1)), oO 4 (.load false 1 (.tmp 3)), oO 5 (.pure (oB (.convert 3 112 (.tmp 4)) 112)), oO 6 (.faddr 1 (.tmp 1)), oO 7 (.load false 1 (.tmp 6)), oO 8 (.pure (oB (.convert 3 112 (.tmp 7)) 112)), oO 9 (.pure (oB (.call { callee := .builtin .complex, args := #[(.tmp 5), (.tmp 8)], argTypes := #[112, 112] }) 26)), oM 2 9]
def tr148 : List (Nat × Tidy) := [tT 0 [1], tT 1 [2]]
def tl148 : List (Nat × Tidy) := []
def rs148 : List AResV := [.tmp 2]
def pr148_0_0 : PT (List RV) := pRs [pR false [rD (dX .f64)]]
def ur148_0_0 {β : Type} (g : List RV → β) : Nat → Nat → β := pr148_0_0.unc g
def E148_0g  : EnvK := EnvK.of [] noSeq
noncomputable def E148_0 : EnvK := E148_0g 
theorem eo148_0 : E148_0.Ok Try.prog := EnvK.of_ok noSeq_ok trivial
abbrev Tf148_0 : Type 1 := (α : Type) → Int → Int → (Nat → Nat → Option α) → Option α
def f148_0g  (α : Type) (x1 x2 : Int) (k1 : Nat → Nat → Option α) : Option α :=
 k1 (FloatKind.nearest .f64 x1) (FloatKind.nearest .f64 x2)
noncomputable def f148_0 (α : Type) (x1 x2 : Int) (k1 : Nat → Nat → Option α) : Option α := f148_0g  α x1 x2 k1
def pa148_0 : PT (List DV) := pA [pV true [(dI .i64), (dI .i64)]]
def Fn148_0 (v : Tf148_0) (α : Type) (k : List RV → Option α) : Int → Int → Option α := fun x1 x2 => v α x1 x2 (fun (y1 : Nat) (y2 : Nat) => ur148_0_0 k y1 y2)
noncomputable def cm148_0g  : MCode := (.seq (.region r148_2 [] (tO [1])) (.seq (.region r148_4 [] (tO [2])) .ret))
noncomputable def cm148_0 : MCode := cm148_0g 
theorem gm148_0 : cm148_0.Good Try.prog E148_0 sh148 := ⟨trivial, ⟨trivial, trivial⟩⟩
theorem fm148_0g   (α : Type) (k : List RV → Option α) : Fn148_0 (f148_0g ) α k = pa148_0.unc fun ds => fnM Try.prog (E148_0g ) sh148 (cm148_0g ) rs148 k ds := by kernel_rfl
theorem fm148_0 : ∀ (α : Type) (k : List RV → Option α), Fn148_0 f148_0 α k = pa148_0.unc fun ds => fnM Try.prog E148_0 sh148 cm148_0 rs148 k ds := fm148_0g 
theorem is148 : FnIs Try.prog 148 nt148 tr148 tl148 cm148_0.erase rs148 := ⟨Try.f148, Try.func148, rfl, by kernel_rfl, by kernel_rfl, by kernel_rfl⟩
theorem io148_0 : InstOk Try.prog 148 nt148 ⟨pa148_0, Fn148_0 f148_0⟩ := inst_ok eo148_0 followsTry is148 ⟨⟨sh148, cm148_0, by kernel_rfl, gm148_0, fm148_0⟩⟩
abbrev nt146 : Nat := 16
def sh146 : List (Nat × List Sh) := [(9, [.int .i64]), (12, [.int .i64]), (15, [.int .i64, .int .i64])]
def r146_2 : List AOper := [oO 2 (.box (.tmp 0)), oO 4 (.alloc [(cI 0), (cI 0)])]
def r146_5 : List AOper := [oM 5 1, oO 6 (.mv (kI 0))]
def td146_7 : Option Tidy := (tO [2, 4, 5, 6])
def r146_9 : List AOper := [oO 7 (.bin .lss 3 (.tmp 6) (.tmp 5))]
def r146_14 : List AOper := [oO 8 (.faddr 1 (.tmp 2)), oO 9 (.load false 1 (.tmp 8)), oO 10 (.pure (oB (.unOp .neg 3 (.tmp 9)) 3)), oO 11 (.faddr 0 (.tmp 2)), oO 12 (.load false 1 (.tmp 11)), oO 13 (.build [(cI 0), (cI 0)] [(0, 1, (.tmp 10)), (1, 1, (.tmp 12))]), oD (.store 2 (.tmp 2) (.tmp 13))]
def r146_15 : List AOper := [oO 14 (.bin .add 3 (.tmp 6) (kI 1)), oM 6 14]
def r146_17 : List AOper := [oO 15 (.load true 2 (.tmp 2)), oD (.store 2 (.tmp 4) (.tmp 15))]
def tr146 : List (Nat × Tidy) := [tT 0 [1, 2, 4], tT 1 [2, 4, 5, 6], tT 2 [2, 4, 5, 6, 7], tT 3 [2, 4, 5, 6], tT 4 [2, 4, 5, 6], tT 5 [4]]
def tl146 : List (Nat × Tidy) := [tT 2 [2, 4, 5, 6]]
def rs146 : List AResV := [.cell 4 true 2]
def p146_0_0 : PT St := pS [sl 2 (aV false [(cPtr 2 0)]), sl 4 (aV false [(cPtr 4 0)]), sl 5 (aV false [(cD (dI .i64))]), sl 6 (aV false [(cD (dI .i64))])] [eBox 2 [(cD (dI .i64)), (cD (dI .i64))], eBox 4 [(cD (dI .i64)), (cD (dI .i64))]]
def u146_0_0 {β : Type} (g : St → β) : Int → Int → Int → Int → Int → Int → β := p146_0_0.unc g
def p146_0_1 : PT St := pS [sl 2 (aV false [(cPtr 2 0)]), sl 4 (aV false [(cPtr 4 0)]), sl 5 (aV false [(cD (dI .i64))]), sl 6 (aV false [(cD (dI .i64))]), sl 7 (aV false [(cD dB)])] [eBox 2 [(cD (dI .i64)), (cD (dI .i64))], eBox 4 [(cD (dI .i64)), (cD (dI .i64))]]
def u146_0_1 {β : Type} (g : St → β) : Int → Int → Bool → Int → Int → Int → Int → β := p146_0_1.unc g
def pr146_0_0 : PT (List RV) := pRs [pR true [rD (dI .i64), rD (dI .i64)]]
def ur146_0_0 {β : Type} (g : List RV → β) : Int → Int → β := pr146_0_0.unc g
def E146_0g  : EnvK := EnvK.of [] noSeq
noncomputable def E146_0 : EnvK := E146_0g 
theorem eo146_0 : E146_0.Ok Try.prog := EnvK.of_ok noSeq_ok trivial
noncomputable def c146_0_7g  : MCode := (.seq (.region r146_9 [] (tO [2, 4, 5, 6, 7])) (.seq (.cond (.tmp 7) .skip (.exit 0)) (.seq (.block 1 (.region r146_14 [] (tO [2, 4, 5, 6]))) (.region r146_15 [] (tO [2, 4, 5, 6])))))
noncomputable def c146_0_7 : MCode := c146_0_7g 
theorem g146_0_7 : c146_0_7.Good Try.prog E146_0 sh146 := ⟨trivial, ⟨⟨trivial, trivial⟩, ⟨trivial, trivial⟩⟩⟩
--CODE 7 0
def S146_0_0g  (α : Type) (x4 x5 x6 x7 : Int) (kn : Int → Int → Int → Option α) (k1 : Int → Bool → Int → Int → Option α) : Option α :=
 cK (decide (x5 < x4))
 (kn (w64 (x5 + 1)) (w64 (0 - x7)) x6)
 (k1 x5 (decide (x5 < x4)) x6 x7)
noncomputable def S146_0_0 (α : Type) (x4 x5 x6 x7 : Int) (kn : Int → Int → Int → Option α) (k1 : Int → Bool → Int → Int → Option α) : Option α := S146_0_0g  α x4 x5 x6 x7 kn k1
noncomputable def R146_0_0 (α : Type) (x4 : Int) (k1 : Int → Bool → Int → Int → Option α) : Nat → Int → Int → Int → Option α
 | 0, _, _, _ => none
 | n + 1, x5, x6, x7 => S146_0_0 α x4 x5 x6 x7 (R146_0_0 α x4 k1 n) k1
noncomputable def L146_0_0 (α : Type) (x4 : Int) (k1 : Int → Bool → Int → Int → Option α) (x5 x6 x7 : Int) : Option α := R146_0_0 α x4 k1 fuel x5 x6 x7
abbrev TL146_0_0 : Type 1 := (α : Type) → Int → (Int → Bool → Int → Int → Option α) → Int → Int → Int → Option α
def F146_0_0 (v : TL146_0_0) (α : Type) (K : Exit → St → Option α) : Int → Int → Int → Int → Int → Int → Option α := fun x4 x5 x6 x7 x8 x9 => v α x4 (fun (y1 : Int) (y2 : Bool) (y3 : Int) (y4 : Int) => u146_0_1 (K (.exit 0)) x4 y1 y2 y3 y4 x8 x9) x5 x6 x7
theorem r146_0_0g   (α : Type) (K : Exit → St → Option α) (Kn : St → Option α) (x4 x5 x6 x7 x8 x9 : Int) : u146_0_0 (fun σ => runM Try.prog (E146_0g ) sh146 (c146_0_7g ) (thenK (fun σ => tidyK td146_7 σ Kn) K) σ) x4 x5 x6 x7 x8 x9 = S146_0_0g  α x4 x5 x6 x7 (fun x5 x6 x7 => u146_0_0 Kn x4 x5 x6 x7 x8 x9) (fun (y1 : Int) (y2 : Bool) (y3 : Int) (y4 : Int) => u146_0_1 (K (.exit 0)) x4 y1 y2 y3 y4 x8 x9) := by kernel_rfl
theorem r146_0_0 (α : Type) (K : Exit → St → Option α) (Kn : St → Option α) (x4 x5 x6 x7 x8 x9 : Int) : u146_0_0 (fun σ => runM Try.prog E146_0 sh146 c146_0_7 (thenK (fun σ => tidyK td146_7 σ Kn) K) σ) x4 x5 x6 x7 x8 x9 = S146_0_0 α x4 x5 x6 x7 (fun x5 x6 x7 => u146_0_0 Kn x4 x5 x6 x7 x8 x9) (fun (y1 : Int) (y2 : Bool) (y3 : Int) (y4 : Int) => u146_0_1 (K (.exit 0)) x4 y1 y2 y3 y4 x8 x9) := r146_0_0g  α K Kn x4 x5 x6 x7 x8 x9
theorem t146_0_0 (α : Type) (K : Exit → St → Option α) : ∀ (n : Nat) (x4 x5 x6 x7 x8 x9 : Int), R146_0_0 α x4 (fun (y1 : Int) (y2 : Bool) (y3 : Int) (y4 : Int) => u146_0_1 (K (.exit 0)) x4 y1 y2 y3 y4 x8 x9) n x5 x6 x7 = u146_0_0 (loopT (runM Try.prog E146_0 sh146 c146_0_7) td146_7 K n) x4 x5 x6 x7 x8 x9 := by
 intro n
 induction n with
 | zero => intros; rfl
 | succ n ih => intro x4 x5 x6 x7 x8 x9; exact (congrArg (fun kn => S146_0_0 α x4 x5 x6 x7 kn (fun (y1 : Int) (y2 : Bool) (y3 : Int) (y4 : Int) => u146_0_1 (K (.exit 0)) x4 y1 y2 y3 y4 x8 x9)) (funext fun x5 => funext fun x6 => funext fun x7 => ih x4 x5 x6 x7 x8 x9)).trans (r146_0_0 α K (loopT (runM Try.prog E146_0 sh146 c146_0_7) td146_7 K n) x4 x5 x6 x7 x8 x9).symm
theorem m146_0_0 : ∀ (α : Type) (K : Exit → St → Option α), F146_0_0 L146_0_0 α K = p146_0_0.unc fun σ => loopT (runM Try.prog E146_0 sh146 c146_0_7) td146_7 K fuel σ := fun α K => funext fun x4 => funext fun x5 => funext fun x6 => funext fun x7 => funext fun x8 => funext fun x9 => t146_0_0 α K fuel x4 x5 x6 x7 x8 x9
abbrev Tf146_0 : Type 1 := (α : Type) → Int → Int → Int → (Int → Int → Option α) → Option α
def f146_0g (vL146_0_0 : TL146_0_0) (α : Type) (x1 x2 x3 : Int) (k1 : Int → Int → Option α) : Option α :=
 vL146_0_0 α x3
 (fun x11 x12 x13 x14 => k1 x13 x14) 0 x1 x2
noncomputable def f146_0 (α : Type) (x1 x2 x3 : Int) (k1 : Int → Int → Option α) : Option α := f146_0g L146_0_0 α x1 x2 x3 k1
def pa146_0 : PT (List DV) := pA [pV true [(dI .i64), (dI .i64)], pV false [(dI .i64)]]
def Fn146_0 (v : Tf146_0) (α : Type) (k : List RV → Option α) : Int → Int → Int → Option α := fun x1 x2 x3 => v α x1 x2 x3 (fun (y1 : Int) (y2 : Int) => ur146_0_0 k y1 y2)
noncomputable def cm146_0g (vL146_0_0 : TL146_0_0) : MCode := (.seq (.region r146_2 [] (tO [1, 2, 4])) (.seq (.seq (.region r146_5 [] (tO [2, 4, 5, 6])) (.block 0 (.loop td146_7 [⟨p146_0_0, F146_0_0 vL146_0_0⟩] c146_0_7))) (.seq (.region r146_17 [] (tO [4])) .ret)))
noncomputable def cm146_0 : MCode := cm146_0g L146_0_0
theorem gm146_0 : cm146_0.Good Try.prog E146_0 sh146 := ⟨trivial, ⟨⟨trivial, ⟨g146_0_7, m146_0_0, trivial⟩⟩, ⟨trivial, trivial⟩⟩⟩
theorem fm146_0g  (vL146_0_0 : TL146_0_0) (α : Type) (k : List RV → Option α) : Fn146_0 (f146_0g vL146_0_0) α k = pa146_0.unc fun ds => fnM Try.prog (E146_0g ) sh146 (cm146_0g vL146_0_0) rs146 k ds := by kernel_rfl
theorem fm146_0 : ∀ (α : Type) (k : List RV → Option α), Fn146_0 f146_0 α k = pa146_0.unc fun ds => fnM Try.prog E146_0 sh146 cm146_0 rs146 k ds := fm146_0g L146_0_0
theorem is146 : FnIs Try.prog 146 nt146 tr146 tl146 cm146_0.erase rs146 := ⟨Try.f146, Try.func146, rfl, by kernel_rfl, by kernel_rfl, by kernel_rfl⟩
theorem io146_0 : InstOk Try.prog 146 nt146 ⟨pa146_0, Fn146_0 f146_0⟩ := inst_ok eo146_0 followsTry is146 ⟨⟨sh146, cm146_0, by kernel_rfl, gm146_0, fm146_0⟩⟩
abbrev nt161 : Nat := 14
def sh161 : List (Nat × List Sh) := [(4, [.int .i64]), (6, [.int .i64]), (9, [.int .i64]), (11, [.int .i64])]
def r161_2 : List AOper := [oO 1 (.box (.tmp 0)), oO 2 (.mv (kI 0))]
def r161_4 : List AOper := [oO 3 (.faddr 0 (.tmp 1)), oO 4 (.load false 1 (.tmp 3)), oO 5 (.faddr 0 (.tmp 1)), oO 6 (.load false 1 (.tmp 5)), oO 7 (.bin .mul 3 (.tmp 4) (.tmp 6)), oO 8 (.faddr 1 (.tmp 1)), oO 9 (.load false 1 (.tmp 8)), oO 10 (.faddr 1 (.tmp 1)), oO 11 (.load false 1 (.tmp 10)), oO 12 (.bin .mul 3 (.tmp 9) (.tmp 11)), oO 13 (.bin .add 3 (.tmp 7) (.tmp 12)), oM 2 13]
def tr161 : List (Nat × Tidy) := [tT 0 [1], tT 1 [2]]
def tl161 : List (Nat × Tidy) := []
def rs161 : List AResV := [.tmp 2]
def pr161_0_0 : PT (List RV) := pRs [pR false [rD (dI .i64)]]
def ur161_0_0 {β : Type} (g : List RV → β) : Int → β := pr161_0_0.unc g
def E161_0g  : EnvK := EnvK.of [] noSeq
noncomputable def E161_0 : EnvK := E161_0g 
theorem eo161_0 : E161_0.Ok Try.prog := EnvK.of_ok noSeq_ok trivial
abbrev Tf161_0 : Type 1 := (α : Type) → Int → Int → (Int → Option α) → Option α
def f161_0g  (α : Type) (x1 x2 : Int) (k1 : Int → Option α) : Option α :=
 k1 (w64 ((w64 (x1 * x1)) + (w64 (x2 * x2))))
noncomputable def f161_0 (α : Type) (x1 x2 : Int) (k1 : Int → Option α) : Option α := f161_0g  α x1 x2 k1
def pa161_0 : PT (List DV) := pA [pV true [(dI .i64), (dI .i64)]]
def Fn161_0 (v : Tf161_0) (α : Type) (k : List RV → Option α) : Int → Int → Option α := fun x1 x2 => v α x1 x2 (fun (y1 : Int) => ur161_0_0 k y1)
noncomputable def cm161_0g  : MCode := (.seq (.region r161_2 [] (tO [1])) (.seq (.region r161_4 [] (tO [2])) .ret))
noncomputable def cm161_0 : MCode := cm161_0g 
theorem gm161_0 : cm161_0.Good Try.prog E161_0 sh161 := ⟨trivial, ⟨trivial, trivial⟩⟩
theorem fm161_0g   (α : Type) (k : List RV → Option α) : Fn161_0 (f161_0g ) α k = pa161_0.unc fun ds => fnM Try.prog (E161_0g ) sh161 (cm161_0g ) rs161 k ds := by kernel_rfl
theorem fm161_0 : ∀ (α : Type) (k : List RV → Option α), Fn161_0 f161_0 α k = pa161_0.unc fun ds => fnM Try.prog E161_0 sh161 cm161_0 rs161 k ds := fm161_0g 
theorem is161 : FnIs Try.prog 161 nt161 tr161 tl161 cm161_0.erase rs161 := ⟨Try.f161, Try.func161, rfl, by kernel_rfl, by kernel_rfl, by kernel_rfl⟩
theorem io161_0 : InstOk Try.prog 161 nt161 ⟨pa161_0, Fn161_0 f161_0⟩ := inst_ok eo161_0 followsTry is161 ⟨⟨sh161, cm161_0, by kernel_rfl, gm161_0, fm161_0⟩⟩
abbrev nt160 : Nat := 16
def sh160 : List (Nat × List Sh) := [(6, [.int .i64]), (8, [.int .i64]), (11, [.int .i64]), (13, [.int .i64])]
def r160_2 : List AOper := [oO 2 (.box (.tmp 0)), oO 3 (.box (.tmp 1)), oO 4 (.alloc [(cI 0), (cI 0)])]
def r160_4 : List AOper := [oO 5 (.faddr 0 (.tmp 2)), oO 6 (.load false 1 (.tmp 5)), oO 7 (.faddr 0 (.tmp 3)), oO 8 (.load false 1 (.tmp 7)), oO 9 (.bin .add 3 (.tmp 6) (.tmp 8)), oO 10 (.faddr 1 (.tmp 2)), oO 11 (.load false 1 (.tmp 10)), oO 12 (.faddr 1 (.tmp 3)), oO 13 (.load false 1 (.tmp 12)), oO 14 (.bin .add 3 (.tmp 11) (.tmp 13)), oO 15 (.build [(cI 0), (cI 0)] [(0, 1, (.tmp 9)), (1, 1, (.tmp 14))]), oD (.store 2 (.tmp 4) (.tmp 15))]
def tr160 : List (Nat × Tidy) := [tT 0 [2, 3, 4], tT 1 [4]]
def tl160 : List (Nat × Tidy) := []
def rs160 : List AResV := [.cell 4 true 2]
def pr160_0_0 : PT (List RV) := pRs [pR true [rD (dI .i64), rD (dI .i64)]]
def ur160_0_0 {β : Type} (g : List RV → β) : Int → Int → β := pr160_0_0.unc g
def E160_0g  : EnvK := EnvK.of [] noSeq
noncomputable def E160_0 : EnvK := E160_0g 
theorem eo160_0 : E160_0.Ok Try.prog := EnvK.of_ok noSeq_ok trivial
abbrev Tf160_0 : Type 1 := (α : Type) → Int → Int → Int → Int → (Int → Int → Option α) → Option α
def f160_0g  (α : Type) (x1 x2 x3 x4 : Int) (k1 : Int → Int → Option α) : Option α :=
 k1 (w64 (x1 + x3)) (w64 (x2 + x4))
noncomputable def f160_0 (α : Type) (x1 x2 x3 x4 : Int) (k1 : Int → Int → Option α) : Option α := f160_0g  α x1 x2 x3 x4 k1
def pa160_0 : PT (List DV) := pA [pV true [(dI .i64), (dI .i64)], pV true [(dI .i64), (dI .i64)]]
def Fn160_0 (v : Tf160_0) (α : Type) (k : List RV → Option α) : Int → Int → Int → Int → Option α := fun x1 x2 x3 x4 => v α x1 x2 x3 x4 (fun (y1 : Int) (y2 : Int) => ur160_0_0 k y1 y2)
noncomputable def cm160_0g  : MCode := (.seq (.region r160_2 [] (tO [2, 3, 4])) (.seq (.region r160_4 [] (tO [4])) .ret))
noncomputable def cm160_0 : MCode := cm160_0g 
theorem gm160_0 : cm160_0.Good Try.prog E160_0 sh160 := ⟨trivial, ⟨trivial, trivial⟩⟩
theorem fm160_0g   (α : Type) (k : List RV → Option α) : Fn160_0 (f160_0g ) α k = pa160_0.unc fun ds => fnM Try.prog (E160_0g ) sh160 (cm160_0g ) rs160 k ds := by kernel_rfl
theorem fm160_0 : ∀ (α : Type) (k : List RV → Option α), Fn160_0 f160_0 α k = pa160_0.unc fun ds => fnM Try.prog E160_0 sh160 cm160_0 rs160 k ds := fm160_0g 
theorem is160 : FnIs Try.prog 160 nt160 tr160 tl160 cm160_0.erase rs160 := ⟨Try.f160, Try.func160, rfl, by kernel_rfl, by kernel_rfl, by kernel_rfl⟩
theorem io160_0 : InstOk Try.prog 160 nt160 ⟨pa160_0, Fn160_0 f160_0⟩ := inst_ok eo160_0 followsTry is160 ⟨⟨sh160, cm160_0, by kernel_rfl, gm160_0, fm160_0⟩⟩
abbrev nt159 : Nat := 5
def sh159 : List (Nat × List Sh) := []
def r159_2 : List AOper := [oO 2 (.mv (.const (.float Go.FloatKind.f64 0)))]
def r159_4 : List AOper := [oM 3 0, oO 4 (.pure (oB (.call { callee := .value (.func 164), args := #[(.tmp 3)], argTypes := #[112] }) 112)), oM 2 4]
def tr159 : List (Nat × Tidy) := [tT 0 [0], tT 1 [2]]
def tl159 : List (Nat × Tidy) := []
def rs159 : List AResV := [.tmp 2]
def pr159_0_0 : PT (List RV) := pRs [pR false [rD (dF .f64)]]
def ur159_0_0 {β : Type} (g : List RV → β) : Nat → β := pr159_0_0.unc g
def E159_0g  : EnvK := EnvK.of [] noSeq
noncomputable def E159_0 : EnvK := E159_0g 
theorem eo159_0 : E159_0.Ok Try.prog := EnvK.of_ok noSeq_ok trivial
abbrev Tf159_0 : Type 1 := (α : Type) → Nat → (Nat → Option α) → Option α
def f159_0g  (α : Type) (x1 : Nat) (k1 : Nat → Option α) : Option α :=
 flK ((FloatKind.format .f64).sqrt x1)
 (fun x2 => k1 x2)
noncomputable def f159_0 (α : Type) (x1 : Nat) (k1 : Nat → Option α) : Option α := f159_0g  α x1 k1
def pa159_0 : PT (List DV) := pA [pV false [(dF .f64)]]
def Fn159_0 (v : Tf159_0) (α : Type) (k : List RV → Option α) : Nat → Option α := fun x1 => v α x1 (fun (y1 : Nat) => ur159_0_0 k y1)
noncomputable def cm159_0g  : MCode := (.seq (.region r159_2 [] (tO [0])) (.seq (.region r159_4 [] (tO [2])) .ret))
noncomputable def cm159_0 : MCode := cm159_0g 
theorem gm159_0 : cm159_0.Good Try.prog E159_0 sh159 := ⟨trivial, ⟨trivial, trivial⟩⟩
theorem fm159_0g   (α : Type) (k : List RV → Option α) : Fn159_0 (f159_0g ) α k = pa159_0.unc fun ds => fnM Try.prog (E159_0g ) sh159 (cm159_0g ) rs159 k ds := by kernel_rfl
theorem fm159_0 : ∀ (α : Type) (k : List RV → Option α), Fn159_0 f159_0 α k = pa159_0.unc fun ds => fnM Try.prog E159_0 sh159 cm159_0 rs159 k ds := fm159_0g 
theorem is159 : FnIs Try.prog 159 nt159 tr159 tl159 cm159_0.erase rs159 := ⟨Try.f159, Try.func159, rfl, by kernel_rfl, by kernel_rfl, by kernel_rfl⟩
theorem io159_0 : InstOk Try.prog 159 nt159 ⟨pa159_0, Fn159_0 f159_0⟩ := inst_ok eo159_0 followsTry is159 ⟨⟨sh159, cm159_0, by kernel_rfl, gm159_0, fm159_0⟩⟩
abbrev nt134 : Nat := 16
def sh134 : List (Nat × List Sh) := []
def r134_2 : List AOper := [oO 4 (.mv (kI 0))]
def r134_4 : List AOper := [oM 6 0, oM 7 1, oO 8 (.bin .quo 3 (.tmp 6) (.tmp 7)), oM 5 8]
def r134_7 : List AOper := [oM 9 0, oM 10 1, oO 11 (.bin .rem 3 (.tmp 9) (.tmp 10)), oO 12 (.bin .lss 3 (.tmp 11) (kI 0))]
def r134_9 : List AOper := [oM 13 5, oO 14 (.bin .sub 3 (.tmp 13) (kI 1)), oM 5 14]
def r134_11 : List AOper := [oM 15 5, oM 4 15]
def tr134 : List (Nat × Tidy) := [tT 0 [0, 1], tT 1 [0, 1, 5], tT 2 [5, 12], tT 3 [5], tT 4 [4]]
def tl134 : List (Nat × Tidy) := []
def rs134 : List AResV := [.tmp 4]
def pr134_0_0 : PT (List RV) := pRs [pR false [rD (dI .i64)]]
def ur134_0_0 {β : Type} (g : List RV → β) : Int → β := pr134_0_0.unc g
def E134_0g  : EnvK := EnvK.of [] noSeq
noncomputable def E134_0 : EnvK := E134_0g 
theorem eo134_0 : E134_0.Ok Try.prog := EnvK.of_ok noSeq_ok trivial
abbrev Tf134_0 : Type 1 := (α : Type) → Int → Int → (Int → Option α) → Option α
def f134_0g  (α : Type) (x1 x2 : Int) (k1 : Int → Option α) : Option α :=
 gK (x2 != 0) (gK (x2 != 0) (cK (decide ((Int.tmod x1 x2) < 0))
 (k1 (w64 ((w64 (Int.tdiv x1 x2)) - 1)))
 (k1 (w64 (Int.tdiv x1 x2)))))
noncomputable def f134_0 (α : Type) (x1 x2 : Int) (k1 : Int → Option α) : Option α := f134_0g  α x1 x2 k1
def pa134_0 : PT (List DV) := pA [pV false [(dI .i64)], pV false [(dI .i64)]]
def Fn134_0 (v : Tf134_0) (α : Type) (k : List RV → Option α) : Int → Int → Option α := fun x1 x2 => v α x1 x2 (fun (y1 : Int) => ur134_0_0 k y1)
noncomputable def cm134_0g  : MCode := (.seq (.region r134_2 [] (tO [0, 1])) (.seq (.region r134_4 [] (tO [0, 1, 5])) (.seq (.seq (.region r134_7 [] (tO [5, 12])) (.cond (.tmp 12) (.region r134_9 [] (tO [5])) .skip)) (.seq (.region r134_11 [] (tO [4])) .ret))))
noncomputable def cm134_0 : MCode := cm134_0g 
theorem gm134_0 : cm134_0.Good Try.prog E134_0 sh134 := ⟨trivial, ⟨trivial, ⟨⟨trivial, ⟨trivial, trivial⟩⟩, ⟨trivial, trivial⟩⟩⟩⟩
theorem fm134_0g   (α : Type) (k : List RV → Option α) : Fn134_0 (f134_0g ) α k = pa134_0.unc fun ds => fnM Try.prog (E134_0g ) sh134 (cm134_0g ) rs134 k ds := by kernel_rfl
theorem fm134_0 : ∀ (α : Type) (k : List RV → Option α), Fn134_0 f134_0 α k = pa134_0.unc fun ds => fnM Try.prog E134_0 sh134 cm134_0 rs134 k ds := fm134_0g 
theorem is134 : FnIs Try.prog 134 nt134 tr134 tl134 cm134_0.erase rs134 := ⟨Try.f134, Try.func134, rfl, by kernel_rfl, by kernel_rfl, by kernel_rfl⟩
theorem io134_0 : InstOk Try.prog 134 nt134 ⟨pa134_0, Fn134_0 f134_0⟩ := inst_ok eo134_0 followsTry is134 ⟨⟨sh134, cm134_0, by kernel_rfl, gm134_0, fm134_0⟩⟩
abbrev nt132 : Nat := 15
def sh132 : List (Nat × List Sh) := []
def r132_2 : List AOper := [oO 6 (.mv (.const (.bool false)))]
def r132_4 : List AOper := [oM 7 1, oM 8 0, oO 9 (.bin .leq 3 (.tmp 7) (.tmp 8)), oM 10 9, oG 11 (.mv (.tmp 0)) 10 true, oG 12 (.mv (.tmp 2)) 10 true, oG 13 (.bin .leq 3 (.tmp 11) (.tmp 12)) 10 true, oO 14 (.pick (.tmp 10) (.tmp 13) (.const (.bool false))), oM 6 14]
def tr132 : List (Nat × Tidy) := [tT 0 [0, 1, 2], tT 1 [6]]
def tl132 : List (Nat × Tidy) := []
def rs132 : List AResV := [.tmp 6]
def pr132_0_0 : PT (List RV) := pRs [pR false [rD dB]]
def ur132_0_0 {β : Type} (g : List RV → β) : Bool → β := pr132_0_0.unc g
def E132_0g  : EnvK := EnvK.of [] noSeq
noncomputable def E132_0 : EnvK := E132_0g 
theorem eo132_0 : E132_0.Ok Try.prog := EnvK.of_ok noSeq_ok trivial
abbrev Tf132_0 : Type 1 := (α : Type) → Int → Int → Int → (Bool → Option α) → Option α
def f132_0g  (α : Type) (x1 x2 x3 : Int) (k1 : Bool → Option α) : Option α :=
 cK (decide (x2 ≤ x1))
 (k1 (decide (x1 ≤ x3)))
 (k1 false)
noncomputable def f132_0 (α : Type) (x1 x2 x3 : Int) (k1 : Bool → Option α) : Option α := f132_0g  α x1 x2 x3 k1
def pa132_0 : PT (List DV) := pA [pV false [(dI .i64)], pV false [(dI .i64)], pV false [(dI .i64)]]
def Fn132_0 (v : Tf132_0) (α : Type) (k : List RV → Option α) : Int → Int → Int → Option α := fun x1 x2 x3 => v α x1 x2 x3 (fun (y1 : Bool) => ur132_0_0 k y1)
noncomputable def cm132_0g  : MCode := (.seq (.region r132_2 [] (tO [0, 1, 2])) (.seq (.region r132_4 [] (tO [6])) .ret))
noncomputable def cm132_0 : MCode := cm132_0g 
theorem gm132_0 : cm132_0.Good Try.prog E132_0 sh132 := ⟨trivial, ⟨trivial, trivial⟩⟩
theorem fm132_0g   (α : Type) (k : List RV → Option α) : Fn132_0 (f132_0g ) α k = pa132_0.unc fun ds => fnM Try.prog (E132_0g ) sh132 (cm132_0g ) rs132 k ds := by kernel_rfl
theorem fm132_0 : ∀ (α : Type) (k : List RV → Option α), Fn132_0 f132_0 α k = pa132_0.unc fun ds => fnM Try.prog E132_0 sh132 cm132_0 rs132 k ds := fm132_0g 
theorem is132 : FnIs Try.prog 132 nt132 tr132 tl132 cm132_0.erase rs132 := ⟨Try.f132, Try.func132, rfl, by kernel_rfl, by kernel_rfl, by kernel_rfl⟩
theorem io132_0 : InstOk Try.prog 132 nt132 ⟨pa132_0, Fn132_0 f132_0⟩ := inst_ok eo132_0 followsTry is132 ⟨⟨sh132, cm132_0, by kernel_rfl, gm132_0, fm132_0⟩⟩
abbrev nt157 : Nat := 15
def sh157 : List (Nat × List Sh) := []
def r157_2 : List AOper := [oO 4 (.mv (.const (.bool false)))]
def r157_5 : List AOper := [oM 5 1, oO 6 (.bin .eql 3 (.tmp 5) (kI 0))]
def r157_7 : List AOper := [oM 7 0, oO 8 (.call 150 [(.tmp 7)]), oM 0 8]
def r157_9 : List AOper := [oM 9 1, oO 10 (.bin .lss 3 (.tmp 9) (kI 0))]
def r157_11 : List AOper := [oM 11 0, oO 12 (.pure (oB (.unOp .neg 112 (.tmp 11)) 112)), oM 0 12]
def r157_13 : List AOper := [oM 13 0, oO 14 (.bin .gtr 112 (.tmp 13) (.const (.float Go.FloatKind.f64 9218868437227405311))), oM 4 14]
def tr157 : List (Nat × Tidy) := [tT 0 [0, 1], tT 1 [0, 1, 6], tT 2 [0], tT 3 [0, 10], tT 4 [0], tT 5 [4]]
def tl157 : List (Nat × Tidy) := []
def rs157 : List AResV := [.tmp 4]
def pr157_0_0 : PT (List RV) := pRs [pR false [rD dB]]
def ur157_0_0 {β : Type} (g : List RV → β) : Bool → β := pr157_0_0.unc g
def E157_0g (vf150_0 : Tf150_0) : EnvK := EnvK.of [⟨150, nt150, [⟨pa150_0, Fn150_0 vf150_0⟩]⟩] noSeq
noncomputable def E157_0 : EnvK := E157_0g f150_0
theorem eo157_0 : E157_0.Ok Try.prog := EnvK.of_ok noSeq_ok ⟨⟨io150_0, trivial⟩, trivial⟩
abbrev Tf157_0 : Type 1 := (α : Type) → Nat → Int → (Bool → Option α) → Option α
def f157_0g (vf150_0 : Tf150_0) (α : Type) (x1 : Nat) (x2 : Int) (k1 : Bool → Option α) : Option α :=
 cK (x2 == 0)
 (vf150_0 α x1
 (fun x3 => k1 ((FloatKind.format .f64).order x3 9218868437227405311 == some Ordering.gt)))
 (cK (decide (x2 < 0))
 (k1 ((FloatKind.format .f64).order (Op.negFloat .f64 x1) 9218868437227405311 == some Ordering.gt))
 (k1 ((FloatKind.format .f64).order x1 9218868437227405311 == some Ordering.gt)))
noncomputable def f157_0 (α : Type) (x1 : Nat) (x2 : Int) (k1 : Bool → Option α) : Option α := f157_0g f150_0 α x1 x2 k1
def pa157_0 : PT (List DV) := pA [pV false [(dF .f64)], pV false [(dI .i64)]]
def Fn157_0 (v : Tf157_0) (α : Type) (k : List RV → Option α) : Nat → Int → Option α := fun x1 x2 => v α x1 x2 (fun (y1 : Bool) => ur157_0_0 k y1)
noncomputable def cm157_0g  : MCode := (.seq (.region r157_2 [] (tO [0, 1])) (.seq (.seq (.region r157_5 [] (tO [0, 1, 6])) (.cond (.tmp 6) (.region r157_7 [] (tO [0])) (.seq (.region r157_9 [] (tO [0, 10])) (.cond (.tmp 10) (.region r157_11 [] (tO [0])) .skip)))) (.seq (.region r157_13 [] (tO [4])) .ret)))
noncomputable def cm157_0 : MCode := cm157_0g 
theorem gm157_0 : cm157_0.Good Try.prog E157_0 sh157 := ⟨trivial, ⟨⟨trivial, ⟨trivial, ⟨trivial, ⟨trivial, trivial⟩⟩⟩⟩, ⟨trivial, trivial⟩⟩⟩
theorem fm157_0g (vf150_0 : Tf150_0)  (α : Type) (k : List RV → Option α) : Fn157_0 (f157_0g vf150_0) α k = pa157_0.unc fun ds => fnM Try.prog (E157_0g vf150_0) sh157 (cm157_0g ) rs157 k ds := by kernel_rfl
theorem fm157_0 : ∀ (α : Type) (k : List RV → Option α), Fn157_0 f157_0 α k = pa157_0.unc fun ds => fnM Try.prog E157_0 sh157 cm157_0 rs157 k ds := fm157_0g f150_0
theorem is157 : FnIs Try.prog 157 nt157 tr157 tl157 cm157_0.erase rs157 := ⟨Try.f157, Try.func157, rfl, by kernel_rfl, by kernel_rfl, by kernel_rfl⟩
theorem io157_0 : InstOk Try.prog 157 nt157 ⟨pa157_0, Fn157_0 f157_0⟩ := inst_ok eo157_0 followsTry is157 ⟨⟨sh157, cm157_0, by kernel_rfl, gm157_0, fm157_0⟩⟩
abbrev nt140 : Nat := 17
def sh140 : List (Nat × List Sh) := []
def r140_2 : List AOper := [oO 4 (.mv (kI 0)), oO 5 (.mv (.const (.bool false)))]
def r140_4 : List AOper := [oM 6 0, oO 7 (.bin .mul 3 (kI 2) (.tmp 6)), oM 8 1, oO 9 (.bin .add 3 (.tmp 7) (.tmp 8)), oM 10 1, oO 11 (.bin .mul 3 (kI 2) (.tmp 10)), oO 12 (.call 134 [(.tmp 9), (.tmp 11)]), oM 13 0, oM 14 1, oO 15 (.bin .rem 3 (.tmp 13) (.tmp 14)), oO 16 (.bin .neq 3 (.tmp 15) (kI 0)), oM 4 12, oM 5 16]
def tr140 : List (Nat × Tidy) := [tT 0 [0, 1], tT 1 [4, 5]]
def tl140 : List (Nat × Tidy) := []
def rs140 : List AResV := [.tmp 4, .tmp 5]
def pr140_0_0 : PT (List RV) := pRs [pR false [rD (dI .i64)], pR false [rD dB]]
def ur140_0_0 {β : Type} (g : List RV → β) : Int → Bool → β := pr140_0_0.unc g
def E140_0g (vf134_0 : Tf134_0) : EnvK := EnvK.of [⟨134, nt134, [⟨pa134_0, Fn134_0 vf134_0⟩]⟩] noSeq
noncomputable def E140_0 : EnvK := E140_0g f134_0
theorem eo140_0 : E140_0.Ok Try.prog := EnvK.of_ok noSeq_ok ⟨⟨io134_0, trivial⟩, trivial⟩
abbrev Tf140_0 : Type 1 := (α : Type) → Int → Int → (Int → Bool → Option α) → Option α
def f140_0g (vf134_0 : Tf134_0) (α : Type) (x1 x2 : Int) (k1 : Int → Bool → Option α) : Option α :=
 vf134_0 α (w64 ((w64 (2 * x1)) + x2)) (w64 (2 * x2))
 (fun x3 => gK (x2 != 0) (k1 x3 ((Int.tmod x1 x2) != 0)))
noncomputable def f140_0 (α : Type) (x1 x2 : Int) (k1 : Int → Bool → Option α) : Option α := f140_0g f134_0 α x1 x2 k1
def pa140_0 : PT (List DV) := pA [pV false [(dI .i64)], pV false [(dI .i64)]]
def Fn140_0 (v : Tf140_0) (α : Type) (k : List RV → Option α) : Int → Int → Option α := fun x1 x2 => v α x1 x2 (fun (y1 : Int) (y2 : Bool) => ur140_0_0 k y1 y2)
noncomputable def cm140_0g  : MCode := (.seq (.region r140_2 [] (tO [0, 1])) (.seq (.region r140_4 [] (tO [4, 5])) .ret))
noncomputable def cm140_0 : MCode := cm140_0g 
theorem gm140_0 : cm140_0.Good Try.prog E140_0 sh140 := ⟨trivial, ⟨trivial, trivial⟩⟩
theorem fm140_0g (vf134_0 : Tf134_0)  (α : Type) (k : List RV → Option α) : Fn140_0 (f140_0g vf134_0) α k = pa140_0.unc fun ds => fnM Try.prog (E140_0g vf134_0) sh140 (cm140_0g ) rs140 k ds := by kernel_rfl
theorem fm140_0 : ∀ (α : Type) (k : List RV → Option α), Fn140_0 f140_0 α k = pa140_0.unc fun ds => fnM Try.prog E140_0 sh140 cm140_0 rs140 k ds := fm140_0g f134_0
theorem is140 : FnIs Try.prog 140 nt140 tr140 tl140 cm140_0.erase rs140 := ⟨Try.f140, Try.func140, rfl, by kernel_rfl, by kernel_rfl, by kernel_rfl⟩
theorem io140_0 : InstOk Try.prog 140 nt140 ⟨pa140_0, Fn140_0 f140_0⟩ := inst_ok eo140_0 followsTry is140 ⟨⟨sh140, cm140_0, by kernel_rfl, gm140_0, fm140_0⟩⟩
abbrev nt154 : Nat := 25
def sh154 : List (Nat × List Sh) := []
def r154_2 : List AOper := [oO 2 (.mv (kI 0))]
def r154_4 : List AOper := [oM 4 0, oO 5 (.pure (oB (.convert 3 112 (.tmp 4)) 112)), oO 6 (.call 159 [(.tmp 5)]), oO 7 (.pure (oB (.convert 112 3 (.tmp 6)) 3)), oM 3 7]
def td154_7 : Option Tidy := (tO [0, 3])
def r154_10 : List AOper := [oM 8 3, oM 9 3, oO 10 (.bin .mul 3 (.tmp 8) (.tmp 9)), oM 11 0, oO 12 (.bin .gtr 3 (.tmp 10) (.tmp 11))]
def r154_13 : List AOper := [oM 13 3, oO 14 (.bin .sub 3 (.tmp 13) (kI 1)), oM 3 14]
def td154_16 : Option Tidy := (tO [0, 3])
def r154_19 : List AOper := [oM 15 3, oO 16 (.bin .add 3 (.tmp 15) (kI 1)), oM 17 3, oO 18 (.bin .add 3 (.tmp 17) (kI 1)), oO 19 (.bin .mul 3 (.tmp 16) (.tmp 18)), oM 20 0, oO 21 (.bin .leq 3 (.tmp 19) (.tmp 20))]
def r154_22 : List AOper := [oM 22 3, oO 23 (.bin .add 3 (.tmp 22) (kI 1)), oM 3 23]
def r154_24 : List AOper := [oM 24 3, oM 2 24]
def tr154 : List (Nat × Tidy) := [tT 0 [0], tT 1 [0, 3], tT 2 [0, 3, 12], tT 3 [0, 3], tT 4 [0, 3, 21], tT 5 [0, 3], tT 6 [2]]
def tl154 : List (Nat × Tidy) := [tT 2 [0, 3], tT 4 [0, 3]]
def rs154 : List AResV := [.tmp 2]
def p154_0_0 : PT St := pS [sl 0 (aV false [(cD (dI .i64))]), sl 3 (aV false [(cD (dI .i64))])] []
def u154_0_0 {β : Type} (g : St → β) : Int → Int → β := p154_0_0.unc g
def p154_0_1 : PT St := pS [sl 0 (aV false [(cD (dI .i64))]), sl 3 (aV false [(cD (dI .i64))]), sl 12 (aV false [(cD dB)])] []
def u154_0_1 {β : Type} (g : St → β) : Int → Int → Bool → β := p154_0_1.unc g
def p154_0_2 : PT St := pS [sl 0 (aV false [(cD (dI .i64))]), sl 3 (aV false [(cD (dI .i64))]), sl 21 (aV false [(cD dB)])] []
def u154_0_2 {β : Type} (g : St → β) : Int → Int → Bool → β := p154_0_2.unc g
def pr154_0_0 : PT (List RV) := pRs [pR false [rD (dI .i64)]]
def ur154_0_0 {β : Type} (g : List RV → β) : Int → β := pr154_0_0.unc g
def E154_0g (vf159_0 : Tf159_0) : EnvK := EnvK.of [⟨159, nt159, [⟨pa159_0, Fn159_0 vf159_0⟩]⟩] noSeq
noncomputable def E154_0 : EnvK := E154_0g f159_0
theorem eo154_0 : E154_0.Ok Try.prog := EnvK.of_ok noSeq_ok ⟨⟨io159_0, trivial⟩, trivial⟩
noncomputable def c154_0_16g  : MCode := (.seq (.seq (.region r154_19 [] (tO [0, 3, 21])) (.cond (.tmp 21) .skip (.exit 2))) (.block 3 (.region r154_22 [] (tO [0, 3]))))
noncomputable def c154_0_16 : MCode := c154_0_16g 
theorem g154_0_16 : c154_0_16.Good Try.prog E154_0 sh154 := ⟨⟨trivial, ⟨trivial, trivial⟩⟩, trivial⟩
--CODE 16 0
def S154_0_1g  (α : Type) (x10 x11 : Int) (kn : Int → Option α) (k1 : Int → Bool → Option α) : Option α :=
 cK (decide ((w64 ((w64 (x11 + 1)) * (w64 (x11 + 1)))) ≤ x10))
 (kn (w64 (x11 + 1)))
 (k1 x11 (decide ((w64 ((w64 (x11 + 1)) * (w64 (x11 + 1)))) ≤ x10)))
noncomputable def S154_0_1 (α : Type) (x10 x11 : Int) (kn : Int → Option α) (k1 : Int → Bool → Option α) : Option α := S154_0_1g  α x10 x11 kn k1
noncomputable def R154_0_1 (α : Type) (x10 : Int) (k1 : Int → Bool → Option α) : Nat → Int → Option α
 | 0, _ => none
 | n + 1, x11 => S154_0_1 α x10 x11 (R154_0_1 α x10 k1 n) k1
noncomputable def L154_0_1 (α : Type) (x10 : Int) (k1 : Int → Bool → Option α) (x11 : Int) : Option α := R154_0_1 α x10 k1 fuel x11
abbrev TL154_0_1 : Type 1 := (α : Type) → Int → (Int → Bool → Option α) → Int → Option α
def F154_0_1 (v : TL154_0_1) (α : Type) (K : Exit → St → Option α) : Int → Int → Option α := fun x10 x11 => v α x10 (fun (y1 : Int) (y2 : Bool) => u154_0_2 (K (.exit 2)) x10 y1 y2) x11
theorem r154_0_1g (vf159_0 : Tf159_0)  (α : Type) (K : Exit → St → Option α) (Kn : St → Option α) (x10 x11 : Int) : u154_0_0 (fun σ => runM Try.prog (E154_0g vf159_0) sh154 (c154_0_16g ) (thenK (fun σ => tidyK td154_16 σ Kn) K) σ) x10 x11 = S154_0_1g  α x10 x11 (fun x11 => u154_0_0 Kn x10 x11) (fun (y1 : Int) (y2 : Bool) => u154_0_2 (K (.exit 2)) x10 y1 y2) := by kernel_rfl
theorem r154_0_1 (α : Type) (K : Exit → St → Option α) (Kn : St → Option α) (x10 x11 : Int) : u154_0_0 (fun σ => runM Try.prog E154_0 sh154 c154_0_16 (thenK (fun σ => tidyK td154_16 σ Kn) K) σ) x10 x11 = S154_0_1 α x10 x11 (fun x11 => u154_0_0 Kn x10 x11) (fun (y1 : Int) (y2 : Bool) => u154_0_2 (K (.exit 2)) x10 y1 y2) := r154_0_1g f159_0 α K Kn x10 x11
theorem t154_0_1 (α : Type) (K : Exit → St → Option α) : ∀ (n : Nat) (x10 x11 : Int), R154_0_1 α x10 (fun (y1 : Int) (y2 : Bool) => u154_0_2 (K (.exit 2)) x10 y1 y2) n x11 = u154_0_0 (loopT (runM Try.prog E154_0 sh154 c154_0_16) td154_16 K n) x10 x11 := by
 intro n
 induction n with
 | zero => intros; rfl
 | succ n ih => intro x10 x11; exact (congrArg (fun kn => S154_0_1 α x10 x11 kn (fun (y1 : Int) (y2 : Bool) => u154_0_2 (K (.exit 2)) x10 y1 y2)) (funext fun x11 => ih x10 x11)).trans (r154_0_1 α K (loopT (runM Try.prog E154_0 sh154 c154_0_16) td154_16 K n) x10 x11).symm
theorem m154_0_1 : ∀ (α : Type) (K : Exit → St → Option α), F154_0_1 L154_0_1 α K = p154_0_0.unc fun σ => loopT (runM Try.prog E154_0 sh154 c154_0_16) td154_16 K fuel σ := fun α K => funext fun x10 => funext fun x11 => t154_0_1 α K fuel x10 x11
noncomputable def c154_0_7g  : MCode := (.seq (.seq (.region r154_10 [] (tO [0, 3, 12])) (.cond (.tmp 12) .skip (.exit 0))) (.block 1 (.region r154_13 [] (tO [0, 3]))))
noncomputable def c154_0_7 : MCode := c154_0_7g 
theorem g154_0_7 : c154_0_7.Good Try.prog E154_0 sh154 := ⟨⟨trivial, ⟨trivial, trivial⟩⟩, trivial⟩
--CODE 7 0
def S154_0_0g  (α : Type) (x4 x5 : Int) (kn : Int → Option α) (k1 : Int → Bool → Option α) : Option α :=
 cK (decide (x4 < (w64 (x5 * x5))))
 (kn (w64 (x5 - 1)))
 (k1 x5 (decide (x4 < (w64 (x5 * x5)))))
noncomputable def S154_0_0 (α : Type) (x4 x5 : Int) (kn : Int → Option α) (k1 : Int → Bool → Option α) : Option α := S154_0_0g  α x4 x5 kn k1
noncomputable def R154_0_0 (α : Type) (x4 : Int) (k1 : Int → Bool → Option α) : Nat → Int → Option α
 | 0, _ => none
 | n + 1, x5 => S154_0_0 α x4 x5 (R154_0_0 α x4 k1 n) k1
noncomputable def L154_0_0 (α : Type) (x4 : Int) (k1 : Int → Bool → Option α) (x5 : Int) : Option α := R154_0_0 α x4 k1 fuel x5
abbrev TL154_0_0 : Type 1 := (α : Type) → Int → (Int → Bool → Option α) → Int → Option α
def F154_0_0 (v : TL154_0_0) (α : Type) (K : Exit → St → Option α) : Int → Int → Option α := fun x4 x5 => v α x4 (fun (y1 : Int) (y2 : Bool) => u154_0_1 (K (.exit 0)) x4 y1 y2) x5
theorem r154_0_0g (vf159_0 : Tf159_0)  (α : Type) (K : Exit → St → Option α) (Kn : St → Option α) (x4 x5 : Int) : u154_0_0 (fun σ => runM Try.prog (E154_0g vf159_0) sh154 (c154_0_7g ) (thenK (fun σ => tidyK td154_7 σ Kn) K) σ) x4 x5 = S154_0_0g  α x4 x5 (fun x5 => u154_0_0 Kn x4 x5) (fun (y1 : Int) (y2 : Bool) => u154_0_1 (K (.exit 0)) x4 y1 y2) := by kernel_rfl
theorem r154_0_0 (α : Type) (K : Exit → St → Option α) (Kn : St → Option α) (x4 x5 : Int) : u154_0_0 (fun σ => runM Try.prog E154_0 sh154 c154_0_7 (thenK (fun σ => tidyK td154_7 σ Kn) K) σ) x4 x5 = S154_0_0 α x4 x5 (fun x5 => u154_0_0 Kn x4 x5) (fun (y1 : Int) (y2 : Bool) => u154_0_1 (K (.exit 0)) x4 y1 y2) := r154_0_0g f159_0 α K Kn x4 x5
theorem t154_0_0 (α : Type) (K : Exit → St → Option α) : ∀ (n : Nat) (x4 x5 : Int), R154_0_0 α x4 (fun (y1 : Int) (y2 : Bool) => u154_0_1 (K (.exit 0)) x4 y1 y2) n x5 = u154_0_0 (loopT (runM Try.prog E154_0 sh154 c154_0_7) td154_7 K n) x4 x5 := by
 intro n
 induction n with
 | zero => intros; rfl
 | succ n ih => intro x4 x5; exact (congrArg (fun kn => S154_0_0 α x4 x5 kn (fun (y1 : Int) (y2 : Bool) => u154_0_1 (K (.exit 0)) x4 y1 y2)) (funext fun x5 => ih x4 x5)).trans (r154_0_0 α K (loopT (runM Try.prog E154_0 sh154 c154_0_7) td154_7 K n) x4 x5).symm
theorem m154_0_0 : ∀ (α : Type) (K : Exit → St → Option α), F154_0_0 L154_0_0 α K = p154_0_0.unc fun σ => loopT (runM Try.prog E154_0 sh154 c154_0_7) td154_7 K fuel σ := fun α K => funext fun x4 => funext fun x5 => t154_0_0 α K fuel x4 x5
abbrev Tf154_0 : Type 1 := (α : Type) → Int → (Int → Option α) → Option α
def f154_0g (vL154_0_0 : TL154_0_0) (vL154_0_1 : TL154_0_1) (vf159_0 : Tf159_0) (α : Type) (x1 : Int) (k1 : Int → Option α) : Option α :=
 vf159_0 α (FloatKind.nearest .f64 x1)
 (fun x2 => ivK (f2i .f64 x2 .i64)
 (fun x3 => vL154_0_0 α x1
 (fun x7 x8 => vL154_0_1 α x1
 (fun x13 x14 => k1 x13) x7) x3))
noncomputable def f154_0 (α : Type) (x1 : Int) (k1 : Int → Option α) : Option α := f154_0g L154_0_0 L154_0_1 f159_0 α x1 k1
def pa154_0 : PT (List DV) := pA [pV false [(dI .i64)]]
def Fn154_0 (v : Tf154_0) (α : Type) (k : List RV → Option α) : Int → Option α := fun x1 => v α x1 (fun (y1 : Int) => ur154_0_0 k y1)
noncomputable def cm154_0g (vL154_0_0 : TL154_0_0) (vL154_0_1 : TL154_0_1) : MCode := (.seq (.region r154_2 [] (tO [0])) (.seq (.region r154_4 [] (tO [0, 3])) (.seq (.block 0 (.loop td154_7 [⟨p154_0_0, F154_0_0 vL154_0_0⟩] c154_0_7)) (.seq (.block 2 (.loop td154_16 [⟨p154_0_0, F154_0_1 vL154_0_1⟩] c154_0_16)) (.seq (.region r154_24 [] (tO [2])) .ret)))))
noncomputable def cm154_0 : MCode := cm154_0g L154_0_0 L154_0_1
theorem gm154_0 : cm154_0.Good Try.prog E154_0 sh154 := ⟨trivial, ⟨trivial, ⟨⟨g154_0_7, m154_0_0, trivial⟩, ⟨⟨g154_0_16, m154_0_1, trivial⟩, ⟨trivial, trivial⟩⟩⟩⟩⟩
theorem fm154_0g (vf159_0 : Tf159_0) (vL154_0_0 : TL154_0_0) (vL154_0_1 : TL154_0_1) (α : Type) (k : List RV → Option α) : Fn154_0 (f154_0g vL154_0_0 vL154_0_1 vf159_0) α k = pa154_0.unc fun ds => fnM Try.prog (E154_0g vf159_0) sh154 (cm154_0g vL154_0_0 vL154_0_1) rs154 k ds := by kernel_rfl
theorem fm154_0 : ∀ (α : Type) (k : List RV → Option α), Fn154_0 f154_0 α k = pa154_0.unc fun ds => fnM Try.prog E154_0 sh154 cm154_0 rs154 k ds := fm154_0g f159_0 L154_0_0 L154_0_1
theorem is154 : FnIs Try.prog 154 nt154 tr154 tl154 cm154_0.erase rs154 := ⟨Try.f154, Try.func154, rfl, by kernel_rfl, by kernel_rfl, by kernel_rfl⟩
theorem io154_0 : InstOk Try.prog 154 nt154 ⟨pa154_0, Fn154_0 f154_0⟩ := inst_ok eo154_0 followsTry is154 ⟨⟨sh154, cm154_0, by kernel_rfl, gm154_0, fm154_0⟩⟩
abbrev nt135 : Nat := 10
def sh135 : List (Nat × List Sh) := []
def r135_2 : List AOper := [oO 4 (.mv (kI 0))]
def r135_4 : List AOper := [oM 5 0, oO 6 (.pure (oB (.unOp .neg 3 (.tmp 5)) 3)), oM 7 1, oO 8 (.call 134 [(.tmp 6), (.tmp 7)]), oO 9 (.pure (oB (.unOp .neg 3 (.tmp 8)) 3)), oM 4 9]
def tr135 : List (Nat × Tidy) := [tT 0 [0, 1], tT 1 [4]]
def tl135 : List (Nat × Tidy) := []
def rs135 : List AResV := [.tmp 4]
def pr135_0_0 : PT (List RV) := pRs [pR false [rD (dI .i64)]]
def ur135_0_0 {β : Type} (g : List RV → β) : Int → β := pr135_0_0.unc g
def E135_0g (vf134_0 : Tf134_0) : EnvK := EnvK.of [⟨134, nt134, [⟨pa134_0, Fn134_0 vf134_0⟩]⟩] noSeq
noncomputable def E135_0 : EnvK := E135_0g f134_0
theorem eo135_0 : E135_0.Ok Try.prog := EnvK.of_ok noSeq_ok ⟨⟨io134_0, trivial⟩, trivial⟩
abbrev Tf135_0 : Type 1 := (α : Type) → Int → Int → (Int → Option α) → Option α
def f135_0g (vf134_0 : Tf134_0) (α : Type) (x1 x2 : Int) (k1 : Int → Option α) : Option α :=
 vf134_0 α (w64 (0 - x1)) x2
 (fun x3 => k1 (w64 (0 - x3)))
noncomputable def f135_0 (α : Type) (x1 x2 : Int) (k1 : Int → Option α) : Option α := f135_0g f134_0 α x1 x2 k1
def pa135_0 : PT (List DV) := pA [pV false [(dI .i64)], pV false [(dI .i64)]]
def Fn135_0 (v : Tf135_0) (α : Type) (k : List RV → Option α) : Int → Int → Option α := fun x1 x2 => v α x1 x2 (fun (y1 : Int) => ur135_0_0 k y1)
noncomputable def cm135_0g  : MCode := (.seq (.region r135_2 [] (tO [0, 1])) (.seq (.region r135_4 [] (tO [4])) .ret))
noncomputable def cm135_0 : MCode := cm135_0g 
theorem gm135_0 : cm135_0.Good Try.prog E135_0 sh135 := ⟨trivial, ⟨trivial, trivial⟩⟩
theorem fm135_0g (vf134_0 : Tf134_0)  (α : Type) (k : List RV → Option α) : Fn135_0 (f135_0g vf134_0) α k = pa135_0.unc fun ds => fnM Try.prog (E135_0g vf134_0) sh135 (cm135_0g ) rs135 k ds := by kernel_rfl
theorem fm135_0 : ∀ (α : Type) (k : List RV → Option α), Fn135_0 f135_0 α k = pa135_0.unc fun ds => fnM Try.prog E135_0 sh135 cm135_0 rs135 k ds := fm135_0g f134_0
theorem is135 : FnIs Try.prog 135 nt135 tr135 tl135 cm135_0.erase rs135 := ⟨Try.f135, Try.func135, rfl, by kernel_rfl, by kernel_rfl, by kernel_rfl⟩
theorem io135_0 : InstOk Try.prog 135 nt135 ⟨pa135_0, Fn135_0 f135_0⟩ := inst_ok eo135_0 followsTry is135 ⟨⟨sh135, cm135_0, by kernel_rfl, gm135_0, fm135_0⟩⟩
abbrev nt131 : Nat := 10
def sh131 : List (Nat × List Sh) := []
def r131_2 : List AOper := [oO 4 (.mv (.const (.bool false)))]
def r131_4 : List AOper := [oM 5 0, oM 6 1, oO 7 (.pure (oB (.unOp .neg 3 (.tmp 6)) 3)), oM 8 1, oO 9 (.call 132 [(.tmp 5), (.tmp 7), (.tmp 8)]), oM 4 9]
def tr131 : List (Nat × Tidy) := [tT 0 [0, 1], tT 1 [4]]
def tl131 : List (Nat × Tidy) := []
def rs131 : List AResV := [.tmp 4]
def pr131_0_0 : PT (List RV) := pRs [pR false [rD dB]]
def ur131_0_0 {β : Type} (g : List RV → β) : Bool → β := pr131_0_0.unc g
def E131_0g (vf132_0 : Tf132_0) : EnvK := EnvK.of [⟨132, nt132, [⟨pa132_0, Fn132_0 vf132_0⟩]⟩] noSeq
noncomputable def E131_0 : EnvK := E131_0g f132_0
theorem eo131_0 : E131_0.Ok Try.prog := EnvK.of_ok noSeq_ok ⟨⟨io132_0, trivial⟩, trivial⟩
abbrev Tf131_0 : Type 1 := (α : Type) → Int → Int → (Bool → Option α) → Option α
def f131_0g (vf132_0 : Tf132_0) (α : Type) (x1 x2 : Int) (k1 : Bool → Option α) : Option α :=
 vf132_0 α x1 (w64 (0 - x2)) x2
 (fun x3 => k1 x3)
noncomputable def f131_0 (α : Type) (x1 x2 : Int) (k1 : Bool → Option α) : Option α := f131_0g f132_0 α x1 x2 k1
def pa131_0 : PT (List DV) := pA [pV false [(dI .i64)], pV false [(dI .i64)]]
def Fn131_0 (v : Tf131_0) (α : Type) (k : List RV → Option α) : Int → Int → Option α := fun x1 x2 => v α x1 x2 (fun (y1 : Bool) => ur131_0_0 k y1)
noncomputable def cm131_0g  : MCode := (.seq (.region r131_2 [] (tO [0, 1])) (.seq (.region r131_4 [] (tO [4])) .ret))
noncomputable def cm131_0 : MCode := cm131_0g 
theorem gm131_0 : cm131_0.Good Try.prog E131_0 sh131 := ⟨trivial, ⟨trivial, trivial⟩⟩
theorem fm131_0g (vf132_0 : Tf132_0)  (α : Type) (k : List RV → Option α) : Fn131_0 (f131_0g vf132_0) α k = pa131_0.unc fun ds => fnM Try.prog (E131_0g vf132_0) sh131 (cm131_0g ) rs131 k ds := by kernel_rfl
theorem fm131_0 : ∀ (α : Type) (k : List RV → Option α), Fn131_0 f131_0 α k = pa131_0.unc fun ds => fnM Try.prog E131_0 sh131 cm131_0 rs131 k ds := fm131_0g f132_0
theorem is131 : FnIs Try.prog 131 nt131 tr131 tl131 cm131_0.erase rs131 := ⟨Try.f131, Try.func131, rfl, by kernel_rfl, by kernel_rfl, by kernel_rfl⟩
theorem io131_0 : InstOk Try.prog 131 nt131 ⟨pa131_0, Fn131_0 f131_0⟩ := inst_ok eo131_0 followsTry is131 ⟨⟨sh131, cm131_0, by kernel_rfl, gm131_0, fm131_0⟩⟩
abbrev nt149 : Nat := 12
def sh149 : List (Nat × List Sh) := []
def r149_2 : List AOper := [oO 2 (.mv (.const (.bool false)))]
def r149_4 : List AOper := [oM 3 0, oO 4 (.call 156 [(.tmp 3)]), oM 5 0, oO 6 (.bin .eql 112 (.tmp 4) (.tmp 5)), oM 7 6, oG 8 (.mv (.tmp 0)) 7 true, oG 9 (.call 157 [(.tmp 8), (kI 0)]) 7 true, oG 10 (.pure (oB (.unOp .not 4 (.tmp 9)) 4)) 7 true, oO 11 (.pick (.tmp 7) (.tmp 10) (.const (.bool false))), oM 2 11]
def tr149 : List (Nat × Tidy) := [tT 0 [0], tT 1 [2]]
def tl149 : List (Nat × Tidy) := []
def rs149 : List AResV := [.tmp 2]
def pr149_0_0 : PT (List RV) := pRs [pR false [rD dB]]
def ur149_0_0 {β : Type} (g : List RV → β) : Bool → β := pr149_0_0.unc g
def E149_0g (vf156_0 : Tf156_0) (vf157_0 : Tf157_0) : EnvK := EnvK.of [⟨156, nt156, [⟨pa156_0, Fn156_0 vf156_0⟩]⟩, ⟨157, nt157, [⟨pa157_0, Fn157_0 vf157_0⟩]⟩] noSeq
noncomputable def E149_0 : EnvK := E149_0g f156_0 f157_0
theorem eo149_0 : E149_0.Ok Try.prog := EnvK.of_ok noSeq_ok ⟨⟨io156_0, trivial⟩, ⟨io157_0, trivial⟩, trivial⟩
abbrev Tf149_0 : Type 1 := (α : Type) → Nat → (Bool → Option α) → Option α
def f149_0g (vf156_0 : Tf156_0) (vf157_0 : Tf157_0) (α : Type) (x1 : Nat) (k1 : Bool → Option α) : Option α :=
 vf156_0 α x1
 (k1 false)
 (fun x2 => cK ((FloatKind.format .f64).order x2 x1 == some Ordering.eq)
 (vf157_0 α x1 0
 (fun x3 => k1 (!x3)))
 (k1 false))
noncomputable def f149_0 (α : Type) (x1 : Nat) (k1 : Bool → Option α) : Option α := f149_0g f156_0 f157_0 α x1 k1
def pa149_0 : PT (List DV) := pA [pV false [(dF .f64)]]
def Fn149_0 (v : Tf149_0) (α : Type) (k : List RV → Option α) : Nat → Option α := fun x1 => v α x1 (fun (y1 : Bool) => ur149_0_0 k y1)
noncomputable def cm149_0g  : MCode := (.seq (.region r149_2 [] (tO [0])) (.seq (.region r149_4 [] (tO [2])) .ret))
noncomputable def cm149_0 : MCode := cm149_0g 
theorem gm149_0 : cm149_0.Good Try.prog E149_0 sh149 := ⟨trivial, ⟨trivial, trivial⟩⟩
theorem fm149_0g (vf156_0 : Tf156_0) (vf157_0 : Tf157_0)  (α : Type) (k : List RV → Option α) : Fn149_0 (f149_0g vf156_0 vf157_0) α k = pa149_0.unc fun ds => fnM Try.prog (E149_0g vf156_0 vf157_0) sh149 (cm149_0g ) rs149 k ds := by kernel_rfl
theorem fm149_0 : ∀ (α : Type) (k : List RV → Option α), Fn149_0 f149_0 α k = pa149_0.unc fun ds => fnM Try.prog E149_0 sh149 cm149_0 rs149 k ds := fm149_0g f156_0 f157_0
theorem is149 : FnIs Try.prog 149 nt149 tr149 tl149 cm149_0.erase rs149 := ⟨Try.f149, Try.func149, rfl, by kernel_rfl, by kernel_rfl, by kernel_rfl⟩
theorem io149_0 : InstOk Try.prog 149 nt149 ⟨pa149_0, Fn149_0 f149_0⟩ := inst_ok eo149_0 followsTry is149 ⟨⟨sh149, cm149_0, by kernel_rfl, gm149_0, fm149_0⟩⟩
abbrev nt141 : Nat := 29
def sh141 : List (Nat × List Sh) := [(6, [.int .i64]), (12, [.int .i64]), (18, [.int .i64]), (24, [.int .i64, .int .i64]), (27, [.int .i64])]
def r141_2 : List AOper := [oO 1 (.box (.tmp 0)), oO 2 (.alloc [(.d (.v (.complex Go.FloatKind.f64 0 0))), (cI 0)]), oO 3 (.mv (kI 0))]
def r141_5 : List AOper := [oO 4 (.faddr 0 (.tmp 1)), oO 5 (.faddr 0 (.tmp 4)), oO 6 (.load false 1 (.tmp 5)), oO 7 (.call 131 [(.tmp 6), (kI 67108864)]), oO 8 (.pure (oB (.unOp .not 4 (.tmp 7)) 4)), oM 9 8, oG 10 (.faddr 0 (.tmp 1)) 9 false, oG 11 (.faddr 1 (.tmp 10)) 9 false, oG 12 (.load false 1 (.tmp 11)) 9 false, oG 13 (.call 131 [(.tmp 12), (kI 67108864)]) 9 false, oG 14 (.pure (oB (.unOp .not 4 (.tmp 13)) 4)) 9 false, oO 15 (.pick (.tmp 9) (.const (.bool true)) (.tmp 14)), oM 16 15, oG 17 (.faddr 2 (.tmp 1)) 16 false, oG 18 (.load false 1 (.tmp 17)) 16 false, oG 19 (.call 132 [(.tmp 18), (kI 0), (kI 67108864)]) 16 false, oG 20 (.pure (oB (.unOp .not 4 (.tmp 19)) 4)) 16 false, oO 21 (.pick (.tmp 16) (.const (.bool true)) (.tmp 20))]
def r141_8 : List AOper := [oO 22 (.build [(.d (.v (.complex Go.FloatKind.f64 0 0))), (cI 0)] []), oD (.store 2 (.tmp 2) (.tmp 22)), oO 3 (.mv (kI 8))]
def r141_10 : List AOper := [oO 23 (.faddr 0 (.tmp 1)), oO 24 (.load true 2 (.tmp 23)), oO 25 (.call 148 [(.tmp 24)]), oO 26 (.faddr 2 (.tmp 1)), oO 27 (.load false 1 (.tmp 26)), oO 28 (.build [(.d (.v (.complex Go.FloatKind.f64 0 0))), (cI 0)] [(0, 1, (.tmp 25)), (1, 1, (.tmp 27))]), oD (.store 2 (.tmp 2) (.tmp 28)), oO 3 (.mv (kI 0))]
def tr141 : List (Nat × Tidy) := [tT 0 [1, 2], tT 1 [1, 2, 21], tT 2 [2, 3], tT 3 [2, 3]]
def tl141 : List (Nat × Tidy) := []
def rs141 : List AResV := [.cell 2 true 2, .tmp 3]
def p141_0_0 : PT St := pS [sl 1 (aV false [(cPtr 1 0)]), sl 2 (aV false [(cPtr 2 0)])] [eBox 1 [(cD (dI .i64)), (cD (dI .i64)), (cD (dI .i64))], eBox 2 [(cD (dX .f64)), (cD (dI .i64))]]
def u141_0_0 {β : Type} (g : St → β) : Int → Int → Int → Nat → Nat → Int → β := p141_0_0.unc g
def p141_0_1 : PT St := pS [sl 1 (aV false [(cPtr 1 0)]), sl 2 (aV false [(cPtr 2 0)]), sl 21 (aV false [(cD dB)])] [eBox 1 [(cD (dI .i64)), (cD (dI .i64)), (cD (dI .i64))], eBox 2 [(cD (dX .f64)), (cD (dI .i64))]]
def u141_0_1 {β : Type} (g : St → β) : Bool → Int → Int → Int → Nat → Nat → Int → β := p141_0_1.unc g
def pr141_0_0 : PT (List RV) := pRs [pR true [rD (dX .f64), rD (dI .i64)], pR false [rD (dI .i64)]]
def ur141_0_0 {β : Type} (g : List RV → β) : Nat → Nat → Int → Int → β := pr141_0_0.unc g
def E141_0g (vf131_0 : Tf131_0) (vf132_0 : Tf132_0) (vf148_0 : Tf148_0) : EnvK := EnvK.of [⟨131, nt131, [⟨pa131_0, Fn131_0 vf131_0⟩]⟩, ⟨132, nt132, [⟨pa132_0, Fn132_0 vf132_0⟩]⟩, ⟨148, nt148, [⟨pa148_0, Fn148_0 vf148_0⟩]⟩] noSeq
noncomputable def E141_0 : EnvK := E141_0g f131_0 f132_0 f148_0
theorem eo141_0 : E141_0.Ok Try.prog := EnvK.of_ok noSeq_ok ⟨⟨io131_0, trivial⟩, ⟨io132_0, trivial⟩, ⟨io148_0, trivial⟩, trivial⟩
noncomputable def c141_0_4g  : MCode := (.region r141_5 [] (tO [1, 2, 21]))
noncomputable def c141_0_4 : MCode := c141_0_4g 
theorem g141_0_4 : c141_0_4.Good Try.prog E141_0 sh141 := trivial
--CODE 4 0
abbrev TJ141_0_0 : Type 1 := (α : Type) → Int → Int → Int → (Bool → Option α) → Option α
def J141_0_0g (vf131_0 : Tf131_0) (vf132_0 : Tf132_0) (α : Type) (x4 x5 x6 : Int) (k1 : Bool → Option α) : Option α :=
 vf131_0 α x4 67108864
 (fun x11 => cK (!x11)
 (k1 true)
 (vf131_0 α x5 67108864
 (fun x12 => cK (!x12)
 (k1 true)
 (vf132_0 α x6 0 67108864
 (fun x13 => k1 (!x13))))))
noncomputable def J141_0_0 (α : Type) (x4 x5 x6 : Int) (k1 : Bool → Option α) : Option α := J141_0_0g f131_0 f132_0 α x4 x5 x6 k1
def F141_0_0 (v : TJ141_0_0) (α : Type) (K : Exit → St → Option α) : Int → Int → Int → Nat → Nat → Int → Option α := fun x4 x5 x6 x7 x8 x9 => v α x4 x5 x6 (fun (y1 : Bool) => u141_0_1 (K .normal) y1 x4 x5 x6 x7 x8 x9) 
theorem m141_0_0g (vf131_0 : Tf131_0) (vf132_0 : Tf132_0) (vf148_0 : Tf148_0)  (α : Type) (K : Exit → St → Option α) : F141_0_0 (J141_0_0g vf131_0 vf132_0) α K = p141_0_0.unc fun σ => runM Try.prog (E141_0g vf131_0 vf132_0 vf148_0) sh141 (c141_0_4g ) K σ := by kernel_rfl
theorem m141_0_0 : ∀ (α : Type) (K : Exit → St → Option α), F141_0_0 J141_0_0 α K = p141_0_0.unc fun σ => runM Try.prog E141_0 sh141 c141_0_4 K σ := m141_0_0g f131_0 f132_0 f148_0
abbrev Tf141_0 : Type 1 := (α : Type) → Int → Int → Int → (Nat → Nat → Int → Int → Option α) → Option α
def f141_0g (vJ141_0_0 : TJ141_0_0) (vf148_0 : Tf148_0) (α : Type) (x1 x2 x3 : Int) (k1 : Nat → Nat → Int → Int → Option α) : Option α :=
 vJ141_0_0 α x1 x2 x3
 (fun x14 => cK x14
 (k1 0 0 0 8)
 (vf148_0 α x1 x2
 (fun x16 x17 => k1 x16 x17 x3 0)))
noncomputable def f141_0 (α : Type) (x1 x2 x3 : Int) (k1 : Nat → Nat → Int → Int → Option α) : Option α := f141_0g J141_0_0 f148_0 α x1 x2 x3 k1
def pa141_0 : PT (List DV) := pA [pV true [(dI .i64), (dI .i64), (dI .i64)]]
def Fn141_0 (v : Tf141_0) (α : Type) (k : List RV → Option α) : Int → Int → Int → Option α := fun x1 x2 x3 => v α x1 x2 x3 (fun (y1 : Nat) (y2 : Nat) (y3 : Int) (y4 : Int) => ur141_0_0 k y1 y2 y3 y4)
noncomputable def cm141_0g (vJ141_0_0 : TJ141_0_0) : MCode := (.seq (.region r141_2 [] (tO [1, 2])) (.seq (.seq (.mark [⟨p141_0_0, F141_0_0 vJ141_0_0⟩] c141_0_4) (.cond (.tmp 21) (.seq (.region r141_8 [] (tO [2, 3])) .ret) .skip)) (.seq (.region r141_10 [(2, 4)] (tO [2, 3])) .ret)))
noncomputable def cm141_0 : MCode := cm141_0g J141_0_0
theorem gm141_0 : cm141_0.Good Try.prog E141_0 sh141 := ⟨trivial, ⟨⟨⟨g141_0_4, m141_0_0, trivial⟩, ⟨⟨trivial, trivial⟩, trivial⟩⟩, ⟨trivial, trivial⟩⟩⟩
theorem fm141_0g (vf131_0 : Tf131_0) (vf132_0 : Tf132_0) (vf148_0 : Tf148_0) (vJ141_0_0 : TJ141_0_0) (α : Type) (k : List RV → Option α) : Fn141_0 (f141_0g vJ141_0_0 vf148_0) α k = pa141_0.unc fun ds => fnM Try.prog (E141_0g vf131_0 vf132_0 vf148_0) sh141 (cm141_0g vJ141_0_0) rs141 k ds := by kernel_rfl
theorem fm141_0 : ∀ (α : Type) (k : List RV → Option α), Fn141_0 f141_0 α k = pa141_0.unc fun ds => fnM Try.prog E141_0 sh141 cm141_0 rs141 k ds := fm141_0g f131_0 f132_0 f148_0 J141_0_0
theorem is141 : FnIs Try.prog 141 nt141 tr141 tl141 cm141_0.erase rs141 := ⟨Try.f141, Try.func141, rfl, by kernel_rfl, by kernel_rfl, by kernel_rfl⟩
theorem io141_0 : InstOk Try.prog 141 nt141 ⟨pa141_0, Fn141_0 f141_0⟩ := inst_ok eo141_0 followsTry is141 ⟨⟨sh141, cm141_0, by kernel_rfl, gm141_0, fm141_0⟩⟩
abbrev nt155 : Nat := 24
def sh155 : List (Nat × List Sh) := [(7, [.int .i64, .int .i64]), (8, [.int .i64, .int .i64]), (10, [.int .i64, .int .i64]), (14, [.int .i64]), (19, [.int .i64])]
def r155_2 : List AOper := [oO 2 (.box (.tmp 0)), oO 3 (.box (.tmp 1)), oO 4 (.alloc [(cI 0), (cI 0)])]
def r155_4 : List AOper := [oO 7 (.load true 2 (.tmp 2)), oO 8 (.load true 2 (.tmp 3)), oO 9 (.call 160 [(.tmp 7), (.tmp 8)]), oO 5 (.alloc [(cI 0), (cI 0)]), oD (.store 2 (.tmp 5) (.tmp 9))]
def r155_6 : List AOper := [oO 10 (.load true 2 (.tmp 5)), oO 11 (.call 161 [(.tmp 10)]), oO 12 (.call 154 [(.tmp 11)]), oM 6 12]
def r155_8 : List AOper := [oO 13 (.faddr 0 (.tmp 5)), oO 14 (.load false 1 (.tmp 13)), oO 15 (.bin .mul 3 (.tmp 14) (kI 67108864)), oM 16 6, oO 17 (.bin .quo 3 (.tmp 15) (.tmp 16)), oO 18 (.faddr 1 (.tmp 5)), oO 19 (.load false 1 (.tmp 18)), oO 20 (.bin .mul 3 (.tmp 19) (kI 67108864)), oM 21 6, oO 22 (.bin .quo 3 (.tmp 20) (.tmp 21)), oO 23 (.build [(cI 0), (cI 0)] [(0, 1, (.tmp 17)), (1, 1, (.tmp 22))]), oD (.store 2 (.tmp 4) (.tmp 23))]
def tr155 : List (Nat × Tidy) := [tT 0 [2, 3, 4], tT 1 [4, 5], tT 2 [4, 5, 6], tT 3 [4]]
def tl155 : List (Nat × Tidy) := []
def rs155 : List AResV := [.cell 4 true 2]
def pr155_0_0 : PT (List RV) := pRs [pR true [rD (dI .i64), rD (dI .i64)]]
def ur155_0_0 {β : Type} (g : List RV → β) : Int → Int → β := pr155_0_0.unc g
def E155_0g (vf160_0 : Tf160_0) (vf161_0 : Tf161_0) (vf154_0 : Tf154_0) : EnvK := EnvK.of [⟨160, nt160, [⟨pa160_0, Fn160_0 vf160_0⟩]⟩, ⟨161, nt161, [⟨pa161_0, Fn161_0 vf161_0⟩]⟩, ⟨154, nt154, [⟨pa154_0, Fn154_0 vf154_0⟩]⟩] noSeq
noncomputable def E155_0 : EnvK := E155_0g f160_0 f161_0 f154_0
theorem eo155_0 : E155_0.Ok Try.prog := EnvK.of_ok noSeq_ok ⟨⟨io160_0, trivial⟩, ⟨io161_0, trivial⟩, ⟨io154_0, trivial⟩, trivial⟩
abbrev Tf155_0 : Type 1 := (α : Type) → Int → Int → Int → Int → (Int → Int → Option α) → Option α
def f155_0g (vf154_0 : Tf154_0) (vf160_0 : Tf160_0) (vf161_0 : Tf161_0) (α : Type) (x1 x2 x3 x4 : Int) (k1 : Int → Int → Option α) : Option α :=
 vf160_0 α x1 x2 x3 x4
 (fun x5 x6 => vf161_0 α x5 x6
 (fun x7 => vf154_0 α x7
 (fun x8 => gK (x8 != 0) (gK (x8 != 0) (k1 (w64 (Int.tdiv (w64 (x5 * 67108864)) x8)) (w64 (Int.tdiv (w64 (x6 * 67108864)) x8)))))))
noncomputable def f155_0 (α : Type) (x1 x2 x3 x4 : Int) (k1 : Int → Int → Option α) : Option α := f155_0g f154_0 f160_0 f161_0 α x1 x2 x3 x4 k1
def pa155_0 : PT (List DV) := pA [pV true [(dI .i64), (dI .i64)], pV true [(dI .i64), (dI .i64)]]
def Fn155_0 (v : Tf155_0) (α : Type) (k : List RV → Option α) : Int → Int → Int → Int → Option α := fun x1 x2 x3 x4 => v α x1 x2 x3 x4 (fun (y1 : Int) (y2 : Int) => ur155_0_0 k y1 y2)
noncomputable def cm155_0g  : MCode := (.seq (.region r155_2 [] (tO [2, 3, 4])) (.seq (.region r155_4 [] (tO [4, 5])) (.seq (.region r155_6 [] (tO [4, 5, 6])) (.seq (.region r155_8 [] (tO [4])) .ret))))
noncomputable def cm155_0 : MCode := cm155_0g 
theorem gm155_0 : cm155_0.Good Try.prog E155_0 sh155 := ⟨trivial, ⟨trivial, ⟨trivial, ⟨trivial, trivial⟩⟩⟩⟩
theorem fm155_0g (vf160_0 : Tf160_0) (vf161_0 : Tf161_0) (vf154_0 : Tf154_0)  (α : Type) (k : List RV → Option α) : Fn155_0 (f155_0g vf154_0 vf160_0 vf161_0) α k = pa155_0.unc fun ds => fnM Try.prog (E155_0g vf160_0 vf161_0 vf154_0) sh155 (cm155_0g ) rs155 k ds := by kernel_rfl
theorem fm155_0 : ∀ (α : Type) (k : List RV → Option α), Fn155_0 f155_0 α k = pa155_0.unc fun ds => fnM Try.prog E155_0 sh155 cm155_0 rs155 k ds := fm155_0g f160_0 f161_0 f154_0
theorem is155 : FnIs Try.prog 155 nt155 tr155 tl155 cm155_0.erase rs155 := ⟨Try.f155, Try.func155, rfl, by kernel_rfl, by kernel_rfl, by kernel_rfl⟩
theorem io155_0 : InstOk Try.prog 155 nt155 ⟨pa155_0, Fn155_0 f155_0⟩ := inst_ok eo155_0 followsTry is155 ⟨⟨sh155, cm155_0, by kernel_rfl, gm155_0, fm155_0⟩⟩
abbrev nt142 : Nat := 37
def sh142 : List (Nat × List Sh) := [(16, [.flt .f64, .flt .f64]), (25, [.flt .f64, .flt .f64])]
def r142_2 : List AOper := [oO 4 (.alloc [(cI 0), (cI 0)]), oO 5 (.mv (kI 0))]
def r142_4 : List AOper := [oM 11 0, oO 12 (.pure (oB (.call { callee := .builtin .real, args := #[(.tmp 11)], argTypes := #[26] }) 112)), oM 13 0, oO 14 (.pure (oB (.call { callee := .builtin .imag, args := #[(.tmp 13)], argTypes := #[26] }) 112)), oO 15 (.build [(.d (.v (.float Go.FloatKind.f64 0))), (.d (.v (.float Go.FloatKind.f64 0)))] [(0, 1, (.tmp 12)), (1, 1, (.tmp 14))]), oO 6 (.alloc [(.d (.v (.float Go.FloatKind.f64 0))), (.d (.v (.float Go.FloatKind.f64 0)))]), oD (.store 2 (.tmp 6) (.tmp 15))]
def r142_7 : List AOper := [oO 16 (.load true 2 (.tmp 6)), oO 17 (.mv (kI 0))]
def td142_9 : Option Tidy := (tO [0, 1, 4, 6, 16, 17])
def r142_11 : List AOper := [oO 18 (.bin .lss 3 (.tmp 17) (kI 2))]
def r142_17 : List AOper := [oO 19 (.index false 2 1 (.tmp 16) (.tmp 17)), oM 8 19]
def r142_19 : List AOper := [oM 20 8, oO 21 (.call 149 [(.tmp 20)]), oO 22 (.pure (oB (.unOp .not 4 (.tmp 21)) 4))]
def r142_22 : List AOper := [oO 23 (.build [(cI 0), (cI 0)] []), oD (.store 2 (.tmp 4) (.tmp 23)), oO 5 (.mv (kI 27))]
def r142_23 : List AOper := [oO 24 (.bin .add 3 (.tmp 17) (kI 1)), oM 17 24]
def r142_26 : List AOper := [oO 25 (.load true 2 (.tmp 6)), oO 26 (.mv (kI 0))]
def td142_28 : Option Tidy := (tO [0, 1, 4, 25, 26])
def r142_30 : List AOper := [oO 27 (.bin .lss 3 (.tmp 26) (kI 2))]
def r142_36 : List AOper := [oO 28 (.index false 2 1 (.tmp 25) (.tmp 26)), oM 10 28]
def r142_38 : List AOper := [oM 29 10, oO 30 (.call 150 [(.tmp 29)]), oM 31 1, oO 32 (.bin .gtr 112 (.tmp 30) (.tmp 31))]
def r142_41 : List AOper := [oO 33 (.build [(cI 0), (cI 0)] []), oD (.store 2 (.tmp 4) (.tmp 33)), oO 5 (.mv (kI 2))]
def r142_42 : List AOper := [oO 34 (.bin .add 3 (.tmp 26) (kI 1)), oM 26 34]
def r142_44 : List AOper := [oM 35 0, oO 36 (.call 151 [(.tmp 35)]), oD (.store 2 (.tmp 4) (.tmp 36)), oO 5 (.mv (kI 0))]
def tr142 : List (Nat × Tidy) := [tT 0 [0, 1, 4], tT 1 [0, 1, 4, 6], tT 2 [0, 1, 4, 6, 16, 17], tT 3 [0, 1, 4, 6, 16, 17, 18], tT 4 [0, 1, 4, 6, 8, 16, 17], tT 5 [0, 1, 4, 6, 16, 17, 22], tT 6 [4, 5], tT 7 [0, 1, 4, 6, 16, 17], tT 8 [0, 1, 4, 25, 26], tT 9 [0, 1, 4, 25, 26, 27], tT 10 [0, 1, 4, 10, 25, 26], tT 11 [0, 1, 4, 25, 26, 32], tT 12 [4, 5], tT 13 [0, 1, 4, 25, 26], tT 14 [4, 5]]
def tl142 : List (Nat × Tidy) := [tT 3 [0, 1, 4, 6, 16, 17], tT 9 [0, 1, 4, 25, 26]]
def rs142 : List AResV := [.cell 4 true 2, .tmp 5]
def p142_0_0 : PT St := pS [sl 0 (aV false [(cD (dX .f64))]), sl 1 (aV false [(cD (dF .f64))]), sl 4 (aV false [(cPtr 4 0)]), sl 6 (aV false [(cPtr 6 0)]), sl 16 (aV true [(cD (dF .f64)), (cD (dF .f64))]), sl 17 (aV false [(cD (dI .i64))]), sl 18 (aV false [(cD dB)])] [eBox 4 [(cD (dI .i64)), (cD (dI .i64))], eBox 6 [(cD (dF .f64)), (cD (dF .f64))]]
def u142_0_0 {β : Type} (g : St → β) : Nat → Nat → Nat → Nat → Nat → Int → Bool → Int → Int → Nat → Nat → β := p142_0_0.unc g
def p142_0_1 : PT St := pS [sl 0 (aV false [(cD (dX .f64))]), sl 1 (aV false [(cD (dF .f64))]), sl 4 (aV false [(cPtr 4 0)]), sl 6 (aV false [(cPtr 6 0)]), sl 8 (aV false [(cD (dF .f64))]), sl 16 (aV true [(cD (dF .f64)), (cD (dF .f64))]), sl 17 (aV false [(cD (dI .i64))])] [eBox 4 [(cD (dI .i64)), (cD (dI .i64))], eBox 6 [(cD (dF .f64)), (cD (dF .f64))]]
def u142_0_1 {β : Type} (g : St → β) : Nat → Nat → Nat → Nat → Nat → Nat → Int → Int → Int → Nat → Nat → β := p142_0_1.unc g
def p142_0_2 : PT St := pS [sl 0 (aV false [(cD (dX .f64))]), sl 1 (aV false [(cD (dF .f64))]), sl 4 (aV false [(cPtr 4 0)]), sl 6 (aV false [(cPtr 6 0)]), sl 16 (aV true [(cD (dF .f64)), (cD (dF .f64))]), sl 17 (aV false [(cD (dI .i64))])] [eBox 4 [(cD (dI .i64)), (cD (dI .i64))], eBox 6 [(cD (dF .f64)), (cD (dF .f64))]]
def u142_0_2 {β : Type} (g : St → β) : Nat → Nat → Nat → Nat → Nat → Int → Int → Int → Nat → Nat → β := p142_0_2.unc g
def p142_0_3 : PT St := pS [sl 4 (aV false [(cPtr 4 0)]), sl 5 (aV false [(cD (dI .i64))])] [eBox 4 [(cD (dI .i64)), (cD (dI .i64))]]
def u142_0_3 {β : Type} (g : St → β) : Int → Int → Int → β := p142_0_3.unc g
def p142_0_4 : PT St := pS [sl 0 (aV false [(cD (dX .f64))]), sl 1 (aV false [(cD (dF .f64))]), sl 4 (aV false [(cPtr 4 0)]), sl 25 (aV true [(cD (dF .f64)), (cD (dF .f64))]), sl 26 (aV false [(cD (dI .i64))]), sl 27 (aV false [(cD dB)])] [eBox 4 [(cD (dI .i64)), (cD (dI .i64))]]
def u142_0_4 {β : Type} (g : St → β) : Nat → Nat → Nat → Nat → Nat → Int → Bool → Int → Int → β := p142_0_4.unc g
def p142_0_5 : PT St := pS [sl 0 (aV false [(cD (dX .f64))]), sl 1 (aV false [(cD (dF .f64))]), sl 4 (aV false [(cPtr 4 0)]), sl 10 (aV false [(cD (dF .f64))]), sl 25 (aV true [(cD (dF .f64)), (cD (dF .f64))]), sl 26 (aV false [(cD (dI .i64))])] [eBox 4 [(cD (dI .i64)), (cD (dI .i64))]]
def u142_0_5 {β : Type} (g : St → β) : Nat → Nat → Nat → Nat → Nat → Nat → Int → Int → Int → β := p142_0_5.unc g
def p142_0_6 : PT St := pS [sl 0 (aV false [(cD (dX .f64))]), sl 1 (aV false [(cD (dF .f64))]), sl 4 (aV false [(cPtr 4 0)]), sl 25 (aV true [(cD (dF .f64)), (cD (dF .f64))]), sl 26 (aV false [(cD (dI .i64))])] [eBox 4 [(cD (dI .i64)), (cD (dI .i64))]]
def u142_0_6 {β : Type} (g : St → β) : Nat → Nat → Nat → Nat → Nat → Int → Int → Int → β := p142_0_6.unc g
def pr142_0_0 : PT (List RV) := pRs [pR true [rD (dI .i64), rD (dI .i64)], pR false [rD (dI .i64)]]
def ur142_0_0 {β : Type} (g : List RV → β) : Int → Int → Int → β := pr142_0_0.unc g
def E142_0g (vf149_0 : Tf149_0) (vf150_0 : Tf150_0) (vf151_0 : Tf151_0) : EnvK := EnvK.of [⟨149, nt149, [⟨pa149_0, Fn149_0 vf149_0⟩]⟩, ⟨150, nt150, [⟨pa150_0, Fn150_0 vf150_0⟩]⟩, ⟨151, nt151, [⟨pa151_0, Fn151_0 vf151_0⟩]⟩] noSeq
noncomputable def E142_0 : EnvK := E142_0g f149_0 f150_0 f151_0
theorem eo142_0 : E142_0.Ok Try.prog := EnvK.of_ok noSeq_ok ⟨⟨io149_0, trivial⟩, ⟨io150_0, trivial⟩, ⟨io151_0, trivial⟩, trivial⟩
noncomputable def c142_0_35g  : MCode := (.region r142_36 [] (tO [0, 1, 4, 10, 25, 26]))
noncomputable def c142_0_35 : MCode := c142_0_35g 
theorem g142_0_35 : c142_0_35.Good Try.prog E142_0 sh142 := trivial
--CODE 35 0
abbrev TJ142_0_2 : Type 1 := (α : Type) → Nat → Nat → Int → (Nat → Option α) → Option α
def J142_0_2g  (α : Type) (x45 x46 : Nat) (x47 : Int) (k1 : Nat → Option α) : Option α :=
 cK (x47 == 1)
 (k1 x46)
 (cK (x47 == 0)
 (k1 x45)
 (none))
noncomputable def J142_0_2 (α : Type) (x45 x46 : Nat) (x47 : Int) (k1 : Nat → Option α) : Option α := J142_0_2g  α x45 x46 x47 k1
def F142_0_2 (v : TJ142_0_2) (α : Type) (K : Exit → St → Option α) : Nat → Nat → Nat → Nat → Nat → Int → Bool → Int → Int → Option α := fun x42 x43 x44 x45 x46 x47 x48 x49 x50 => v α x45 x46 x47 (fun (y1 : Nat) => u142_0_5 (K .normal) x42 x43 x44 y1 x45 x46 x47 x49 x50) 
theorem m142_0_2g (vf149_0 : Tf149_0) (vf150_0 : Tf150_0) (vf151_0 : Tf151_0)  (α : Type) (K : Exit → St → Option α) : F142_0_2 (J142_0_2g ) α K = p142_0_4.unc fun σ => runM Try.prog (E142_0g vf149_0 vf150_0 vf151_0) sh142 (c142_0_35g ) K σ := by kernel_rfl
theorem m142_0_2 : ∀ (α : Type) (K : Exit → St → Option α), F142_0_2 J142_0_2 α K = p142_0_4.unc fun σ => runM Try.prog E142_0 sh142 c142_0_35 K σ := m142_0_2g f149_0 f150_0 f151_0
noncomputable def c142_0_28g (vJ142_0_2 : TJ142_0_2) : MCode := (.seq (.region r142_30 [] (tO [0, 1, 4, 25, 26, 27])) (.seq (.cond (.tmp 27) .skip (.exit 2)) (.seq (.block 3 (.seq (.mark [⟨p142_0_4, F142_0_2 vJ142_0_2⟩] c142_0_35) (.seq (.region r142_38 [] (tO [0, 1, 4, 25, 26, 32])) (.cond (.tmp 32) (.seq (.region r142_41 [] (tO [4, 5])) .ret) .skip)))) (.region r142_42 [] (tO [0, 1, 4, 25, 26])))))
noncomputable def c142_0_28 : MCode := c142_0_28g J142_0_2
theorem g142_0_28 : c142_0_28.Good Try.prog E142_0 sh142 := ⟨trivial, ⟨⟨trivial, trivial⟩, ⟨⟨⟨g142_0_35, m142_0_2, trivial⟩, ⟨trivial, ⟨⟨trivial, trivial⟩, trivial⟩⟩⟩, trivial⟩⟩⟩
--CODE 28 0
def S142_0_3g (vJ142_0_2 : TJ142_0_2) (vf150_0 : Tf150_0) (α : Type) (x35 x36 x37 : Nat) (x38 : Int) (kn : Int → Option α) (k1 : Option α) (k2 : Int → Bool → Option α) : Option α :=
 cK (decide (x38 < 2))
 (vJ142_0_2 α x36 x37 x38
 (fun x52 => vf150_0 α x52
 (fun x54 => cK ((FloatKind.format .f64).order x54 x35 == some Ordering.gt)
 (k1)
 (kn (w64 (x38 + 1))))))
 (k2 x38 (decide (x38 < 2)))
noncomputable def S142_0_3 (α : Type) (x35 x36 x37 : Nat) (x38 : Int) (kn : Int → Option α) (k1 : Option α) (k2 : Int → Bool → Option α) : Option α := S142_0_3g J142_0_2 f150_0 α x35 x36 x37 x38 kn k1 k2
noncomputable def R142_0_3 (α : Type) (x35 x36 x37 : Nat) (k1 : Option α) (k2 : Int → Bool → Option α) : Nat → Int → Option α
 | 0, _ => none
 | n + 1, x38 => S142_0_3 α x35 x36 x37 x38 (R142_0_3 α x35 x36 x37 k1 k2 n) k1 k2
noncomputable def L142_0_3 (α : Type) (x35 x36 x37 : Nat) (k1 : Option α) (k2 : Int → Bool → Option α) (x38 : Int) : Option α := R142_0_3 α x35 x36 x37 k1 k2 fuel x38
abbrev TL142_0_3 : Type 1 := (α : Type) → Nat → Nat → Nat → (Option α) → (Int → Bool → Option α) → Int → Option α
def F142_0_3 (v : TL142_0_3) (α : Type) (K : Exit → St → Option α) : Nat → Nat → Nat → Nat → Nat → Int → Int → Int → Option α := fun x33 x34 x35 x36 x37 x38 x39 x40 => v α x35 x36 x37 (u142_0_3 (K .ret) 2 0 0) (fun (y1 : Int) (y2 : Bool) => u142_0_4 (K (.exit 2)) x33 x34 x35 x36 x37 y1 y2 x39 x40) x38
theorem r142_0_3g (vf149_0 : Tf149_0) (vf150_0 : Tf150_0) (vf151_0 : Tf151_0) (vJ142_0_2 : TJ142_0_2) (α : Type) (K : Exit → St → Option α) (Kn : St → Option α) (x33 x34 x35 x36 x37 : Nat) (x38 x39 x40 : Int) : u142_0_6 (fun σ => runM Try.prog (E142_0g vf149_0 vf150_0 vf151_0) sh142 (c142_0_28g vJ142_0_2) (thenK (fun σ => tidyK td142_28 σ Kn) K) σ) x33 x34 x35 x36 x37 x38 x39 x40 = S142_0_3g vJ142_0_2 vf150_0 α x35 x36 x37 x38 (fun x38 => u142_0_6 Kn x33 x34 x35 x36 x37 x38 x39 x40) (u142_0_3 (K .ret) 2 0 0) (fun (y1 : Int) (y2 : Bool) => u142_0_4 (K (.exit 2)) x33 x34 x35 x36 x37 y1 y2 x39 x40) := by kernel_rfl
theorem r142_0_3 (α : Type) (K : Exit → St → Option α) (Kn : St → Option α) (x33 x34 x35 x36 x37 : Nat) (x38 x39 x40 : Int) : u142_0_6 (fun σ => runM Try.prog E142_0 sh142 c142_0_28 (thenK (fun σ => tidyK td142_28 σ Kn) K) σ) x33 x34 x35 x36 x37 x38 x39 x40 = S142_0_3 α x35 x36 x37 x38 (fun x38 => u142_0_6 Kn x33 x34 x35 x36 x37 x38 x39 x40) (u142_0_3 (K .ret) 2 0 0) (fun (y1 : Int) (y2 : Bool) => u142_0_4 (K (.exit 2)) x33 x34 x35 x36 x37 y1 y2 x39 x40) := r142_0_3g f149_0 f150_0 f151_0 J142_0_2 α K Kn x33 x34 x35 x36 x37 x38 x39 x40
theorem t142_0_3 (α : Type) (K : Exit → St → Option α) : ∀ (n : Nat) (x33 x34 x35 x36 x37 : Nat) (x38 x39 x40 : Int), R142_0_3 α x35 x36 x37 (u142_0_3 (K .ret) 2 0 0) (fun (y1 : Int) (y2 : Bool) => u142_0_4 (K (.exit 2)) x33 x34 x35 x36 x37 y1 y2 x39 x40) n x38 = u142_0_6 (loopT (runM Try.prog E142_0 sh142 c142_0_28) td142_28 K n) x33 x34 x35 x36 x37 x38 x39 x40 := by
 intro n
 induction n with
 | zero => intros; rfl
 | succ n ih => intro x33 x34 x35 x36 x37 x38 x39 x40; exact (congrArg (fun kn => S142_0_3 α x35 x36 x37 x38 kn (u142_0_3 (K .ret) 2 0 0) (fun (y1 : Int) (y2 : Bool) => u142_0_4 (K (.exit 2)) x33 x34 x35 x36 x37 y1 y2 x39 x40)) (funext fun x38 => ih x33 x34 x35 x36 x37 x38 x39 x40)).trans (r142_0_3 α K (loopT (runM Try.prog E142_0 sh142 c142_0_28) td142_28 K n) x33 x34 x35 x36 x37 x38 x39 x40).symm
theorem m142_0_3 : ∀ (α : Type) (K : Exit → St → Option α), F142_0_3 L142_0_3 α K = p142_0_6.unc fun σ => loopT (runM Try.prog E142_0 sh142 c142_0_28) td142_28 K fuel σ := fun α K => funext fun x33 => funext fun x34 => funext fun x35 => funext fun x36 => funext fun x37 => funext fun x38 => funext fun x39 => funext fun x40 => t142_0_3 α K fuel x33 x34 x35 x36 x37 x38 x39 x40
noncomputable def c142_0_16g  : MCode := (.region r142_17 [] (tO [0, 1, 4, 6, 8, 16, 17]))
noncomputable def c142_0_16 : MCode := c142_0_16g 
theorem g142_0_16 : c142_0_16.Good Try.prog E142_0 sh142 := trivial
--CODE 16 0
abbrev TJ142_0_0 : Type 1 := (α : Type) → Nat → Nat → Int → (Nat → Option α) → Option α
def J142_0_0g  (α : Type) (x18 x19 : Nat) (x20 : Int) (k1 : Nat → Option α) : Option α :=
 cK (x20 == 1)
 (k1 x19)
 (cK (x20 == 0)
 (k1 x18)
 (none))
noncomputable def J142_0_0 (α : Type) (x18 x19 : Nat) (x20 : Int) (k1 : Nat → Option α) : Option α := J142_0_0g  α x18 x19 x20 k1
def F142_0_0 (v : TJ142_0_0) (α : Type) (K : Exit → St → Option α) : Nat → Nat → Nat → Nat → Nat → Int → Bool → Int → Int → Nat → Nat → Option α := fun x15 x16 x17 x18 x19 x20 x21 x22 x23 x24 x25 => v α x18 x19 x20 (fun (y1 : Nat) => u142_0_1 (K .normal) x15 x16 x17 y1 x18 x19 x20 x22 x23 x24 x25) 
theorem m142_0_0g (vf149_0 : Tf149_0) (vf150_0 : Tf150_0) (vf151_0 : Tf151_0)  (α : Type) (K : Exit → St → Option α) : F142_0_0 (J142_0_0g ) α K = p142_0_0.unc fun σ => runM Try.prog (E142_0g vf149_0 vf150_0 vf151_0) sh142 (c142_0_16g ) K σ := by kernel_rfl
theorem m142_0_0 : ∀ (α : Type) (K : Exit → St → Option α), F142_0_0 J142_0_0 α K = p142_0_0.unc fun σ => runM Try.prog E142_0 sh142 c142_0_16 K σ := m142_0_0g f149_0 f150_0 f151_0
noncomputable def c142_0_9g (vJ142_0_0 : TJ142_0_0) : MCode := (.seq (.region r142_11 [] (tO [0, 1, 4, 6, 16, 17, 18])) (.seq (.cond (.tmp 18) .skip (.exit 0)) (.seq (.block 1 (.seq (.mark [⟨p142_0_0, F142_0_0 vJ142_0_0⟩] c142_0_16) (.seq (.region r142_19 [] (tO [0, 1, 4, 6, 16, 17, 22])) (.cond (.tmp 22) (.seq (.region r142_22 [] (tO [4, 5])) .ret) .skip)))) (.region r142_23 [] (tO [0, 1, 4, 6, 16, 17])))))
noncomputable def c142_0_9 : MCode := c142_0_9g J142_0_0
theorem g142_0_9 : c142_0_9.Good Try.prog E142_0 sh142 := ⟨trivial, ⟨⟨trivial, trivial⟩, ⟨⟨⟨g142_0_16, m142_0_0, trivial⟩, ⟨trivial, ⟨⟨trivial, trivial⟩, trivial⟩⟩⟩, trivial⟩⟩⟩
--CODE 9 0
def S142_0_1g (vJ142_0_0 : TJ142_0_0) (vf149_0 : Tf149_0) (α : Type) (x7 x8 : Nat) (x9 : Int) (kn : Int → Option α) (k1 : Option α) (k2 : Int → Bool → Option α) : Option α :=
 cK (decide (x9 < 2))
 (vJ142_0_0 α x7 x8 x9
 (fun x27 => vf149_0 α x27
 (fun x29 => cK (!x29)
 (k1)
 (kn (w64 (x9 + 1))))))
 (k2 x9 (decide (x9 < 2)))
noncomputable def S142_0_1 (α : Type) (x7 x8 : Nat) (x9 : Int) (kn : Int → Option α) (k1 : Option α) (k2 : Int → Bool → Option α) : Option α := S142_0_1g J142_0_0 f149_0 α x7 x8 x9 kn k1 k2
noncomputable def R142_0_1 (α : Type) (x7 x8 : Nat) (k1 : Option α) (k2 : Int → Bool → Option α) : Nat → Int → Option α
 | 0, _ => none
 | n + 1, x9 => S142_0_1 α x7 x8 x9 (R142_0_1 α x7 x8 k1 k2 n) k1 k2
noncomputable def L142_0_1 (α : Type) (x7 x8 : Nat) (k1 : Option α) (k2 : Int → Bool → Option α) (x9 : Int) : Option α := R142_0_1 α x7 x8 k1 k2 fuel x9
abbrev TL142_0_1 : Type 1 := (α : Type) → Nat → Nat → (Option α) → (Int → Bool → Option α) → Int → Option α
def F142_0_1 (v : TL142_0_1) (α : Type) (K : Exit → St → Option α) : Nat → Nat → Nat → Nat → Nat → Int → Int → Int → Nat → Nat → Option α := fun x4 x5 x6 x7 x8 x9 x10 x11 x12 x13 => v α x7 x8 (u142_0_3 (K .ret) 27 0 0) (fun (y1 : Int) (y2 : Bool) => u142_0_0 (K (.exit 0)) x4 x5 x6 x7 x8 y1 y2 x10 x11 x12 x13) x9
theorem r142_0_1g (vf149_0 : Tf149_0) (vf150_0 : Tf150_0) (vf151_0 : Tf151_0) (vJ142_0_0 : TJ142_0_0) (α : Type) (K : Exit → St → Option α) (Kn : St → Option α) (x4 x5 x6 x7 x8 : Nat) (x9 x10 x11 : Int) (x12 x13 : Nat) : u142_0_2 (fun σ => runM Try.prog (E142_0g vf149_0 vf150_0 vf151_0) sh142 (c142_0_9g vJ142_0_0) (thenK (fun σ => tidyK td142_9 σ Kn) K) σ) x4 x5 x6 x7 x8 x9 x10 x11 x12 x13 = S142_0_1g vJ142_0_0 vf149_0 α x7 x8 x9 (fun x9 => u142_0_2 Kn x4 x5 x6 x7 x8 x9 x10 x11 x12 x13) (u142_0_3 (K .ret) 27 0 0) (fun (y1 : Int) (y2 : Bool) => u142_0_0 (K (.exit 0)) x4 x5 x6 x7 x8 y1 y2 x10 x11 x12 x13) := by kernel_rfl
theorem r142_0_1 (α : Type) (K : Exit → St → Option α) (Kn : St → Option α) (x4 x5 x6 x7 x8 : Nat) (x9 x10 x11 : Int) (x12 x13 : Nat) : u142_0_2 (fun σ => runM Try.prog E142_0 sh142 c142_0_9 (thenK (fun σ => tidyK td142_9 σ Kn) K) σ) x4 x5 x6 x7 x8 x9 x10 x11 x12 x13 = S142_0_1 α x7 x8 x9 (fun x9 => u142_0_2 Kn x4 x5 x6 x7 x8 x9 x10 x11 x12 x13) (u142_0_3 (K .ret) 27 0 0) (fun (y1 : Int) (y2 : Bool) => u142_0_0 (K (.exit 0)) x4 x5 x6 x7 x8 y1 y2 x10 x11 x12 x13) := r142_0_1g f149_0 f150_0 f151_0 J142_0_0 α K Kn x4 x5 x6 x7 x8 x9 x10 x11 x12 x13
theorem t142_0_1 (α : Type) (K : Exit → St → Option α) : ∀ (n : Nat) (x4 x5 x6 x7 x8 : Nat) (x9 x10 x11 : Int) (x12 x13 : Nat), R142_0_1 α x7 x8 (u142_0_3 (K .ret) 27 0 0) (fun (y1 : Int) (y2 : Bool) => u142_0_0 (K (.exit 0)) x4 x5 x6 x7 x8 y1 y2 x10 x11 x12 x13) n x9 = u142_0_2 (loopT (runM Try.prog E142_0 sh142 c142_0_9) td142_9 K n) x4 x5 x6 x7 x8 x9 x10 x11 x12 x13 := by
 intro n
 induction n with
 | zero => intros; rfl
 | succ n ih => intro x4 x5 x6 x7 x8 x9 x10 x11 x12 x13; exact (congrArg (fun kn => S142_0_1 α x7 x8 x9 kn (u142_0_3 (K .ret) 27 0 0) (fun (y1 : Int) (y2 : Bool) => u142_0_0 (K (.exit 0)) x4 x5 x6 x7 x8 y1 y2 x10 x11 x12 x13)) (funext fun x9 => ih x4 x5 x6 x7 x8 x9 x10 x11 x12 x13)).trans (r142_0_1 α K (loopT (runM Try.prog E142_0 sh142 c142_0_9) td142_9 K n) x4 x5 x6 x7 x8 x9 x10 x11 x12 x13).symm
theorem m142_0_1 : ∀ (α : Type) (K : Exit → St → Option α), F142_0_1 L142_0_1 α K = p142_0_2.unc fun σ => loopT (runM Try.prog E142_0 sh142 c142_0_9) td142_9 K fuel σ := fun α K => funext fun x4 => funext fun x5 => funext fun x6 => funext fun x7 => funext fun x8 => funext fun x9 => funext fun x10 => funext fun x11 => funext fun x12 => funext fun x13 => t142_0_1 α K fuel x4 x5 x6 x7 x8 x9 x10 x11 x12 x13
abbrev Tf142_0 : Type 1 := (α : Type) → Nat → Nat → Nat → (Int → Int → Int → Option α) → Option α
def f142_0g (vL142_0_1 : TL142_0_1) (vL142_0_3 : TL142_0_3) (vf151_0 : Tf151_0) (α : Type) (x1 x2 x3 : Nat) (k1 : Int → Int → Int → Option α) : Option α :=
 vL142_0_1 α x1 x2
 (k1 0 0 27)
 (fun x30 x31 => vL142_0_3 α x3 x1 x2
 (k1 0 0 2)
 (fun x55 x56 => vf151_0 α x1 x2
 (fun x58 x59 => k1 x58 x59 0)) 0) 0
noncomputable def f142_0 (α : Type) (x1 x2 x3 : Nat) (k1 : Int → Int → Int → Option α) : Option α := f142_0g L142_0_1 L142_0_3 f151_0 α x1 x2 x3 k1
def pa142_0 : PT (List DV) := pA [pV false [(dX .f64)], pV false [(dF .f64)]]
def Fn142_0 (v : Tf142_0) (α : Type) (k : List RV → Option α) : Nat → Nat → Nat → Option α := fun x1 x2 x3 => v α x1 x2 x3 (fun (y1 : Int) (y2 : Int) (y3 : Int) => ur142_0_0 k y1 y2 y3)
noncomputable def cm142_0g (vL142_0_1 : TL142_0_1) (vL142_0_3 : TL142_0_3) : MCode := (.seq (.region r142_2 [] (tO [0, 1, 4])) (.seq (.region r142_4 [] (tO [0, 1, 4, 6])) (.seq (.seq (.region r142_7 [] (tO [0, 1, 4, 6, 16, 17])) (.block 0 (.loop td142_9 [⟨p142_0_2, F142_0_1 vL142_0_1⟩] c142_0_9))) (.seq (.seq (.region r142_26 [] (tO [0, 1, 4, 25, 26])) (.block 2 (.loop td142_28 [⟨p142_0_6, F142_0_3 vL142_0_3⟩] c142_0_28))) (.seq (.region r142_44 [] (tO [4, 5])) .ret)))))
noncomputable def cm142_0 : MCode := cm142_0g L142_0_1 L142_0_3
theorem gm142_0 : cm142_0.Good Try.prog E142_0 sh142 := ⟨trivial, ⟨trivial, ⟨⟨trivial, ⟨g142_0_9, m142_0_1, trivial⟩⟩, ⟨⟨trivial, ⟨g142_0_28, m142_0_3, trivial⟩⟩, ⟨trivial, trivial⟩⟩⟩⟩⟩
theorem fm142_0g (vf149_0 : Tf149_0) (vf150_0 : Tf150_0) (vf151_0 : Tf151_0) (vL142_0_1 : TL142_0_1) (vL142_0_3 : TL142_0_3) (α : Type) (k : List RV → Option α) : Fn142_0 (f142_0g vL142_0_1 vL142_0_3 vf151_0) α k = pa142_0.unc fun ds => fnM Try.prog (E142_0g vf149_0 vf150_0 vf151_0) sh142 (cm142_0g vL142_0_1 vL142_0_3) rs142 k ds := by kernel_rfl
theorem fm142_0 : ∀ (α : Type) (k : List RV → Option α), Fn142_0 f142_0 α k = pa142_0.unc fun ds => fnM Try.prog E142_0 sh142 cm142_0 rs142 k ds := fm142_0g f149_0 f150_0 f151_0 L142_0_1 L142_0_3
theorem is142 : FnIs Try.prog 142 nt142 tr142 tl142 cm142_0.erase rs142 := ⟨Try.f142, Try.func142, rfl, by kernel_rfl, by kernel_rfl, by kernel_rfl⟩
theorem io142_0 : InstOk Try.prog 142 nt142 ⟨pa142_0, Fn142_0 f142_0⟩ := inst_ok eo142_0 followsTry is142 ⟨⟨sh142, cm142_0, by kernel_rfl, gm142_0, fm142_0⟩⟩
abbrev nt147 : Nat := 42
def sh147 : List (Nat × List Sh) := [(27, [.int .i64, .int .i64]), (28, [.int .i64, .int .i64]), (34, [.int .i64, .int .i64]), (36, [.int .i64, .int .i64]), (40, [.int .i64, .int .i64]), (41, [.int .i64, .int .i64])]
def r147_2 : List AOper := [oO 2 (.alloc [(cI 0), (cI 0)])]
def r147_4 : List AOper := [oO 10 (.call 154 [(kI 2251799813685248)]), oM 3 10]
def r147_6 : List AOper := [oO 11 (.build [(cI 0), (cI 0)] [(0, 1, (kI 67108864))]), oM 12 3, oM 13 3, oO 14 (.build [(cI 0), (cI 0)] [(0, 1, (.tmp 12)), (1, 1, (.tmp 13))]), oO 4 (.alloc [(cI 0), (cI 0)]), oO 5 (.alloc [(cI 0), (cI 0)]), oD (.store 2 (.tmp 4) (.tmp 11)), oD (.store 2 (.tmp 5) (.tmp 14))]
def r147_8 : List AOper := [oO 6 (.mv (kI 0)), oO 7 (.mv (kI 524288))]
def td147_11 : Option Tidy := (tO [0, 2, 4, 5, 6, 7])
def r147_14 : List AOper := [oM 15 0, oM 16 6, oO 17 (.bin .neq 3 (.tmp 15) (.tmp 16)), oM 18 17, oG 19 (.mv (.tmp 0)) 18 true, oG 20 (.mv (.tmp 7)) 18 true, oG 21 (.bin .neq 3 (.tmp 19) (.tmp 20)) 18 true, oO 22 (.pick (.tmp 18) (.tmp 21) (.const (.bool false)))]
def r147_18 : List AOper := [oM 23 6, oM 24 7, oO 25 (.bin .add 3 (.tmp 23) (.tmp 24)), oO 26 (.bin .quo 3 (.tmp 25) (kI 2)), oM 8 26]
def r147_20 : List AOper := [oO 27 (.load true 2 (.tmp 4)), oO 28 (.load true 2 (.tmp 5)), oO 29 (.call 155 [(.tmp 27), (.tmp 28)]), oO 9 (.alloc [(cI 0), (cI 0)]), oD (.store 2 (.tmp 9) (.tmp 29))]
def r147_22 : List AOper := [oM 30 0, oM 31 8, oO 32 (.bin .geq 3 (.tmp 30) (.tmp 31))]
def r147_24 : List AOper := [oM 33 8, oO 34 (.load true 2 (.tmp 9)), oM 6 33, oD (.store 2 (.tmp 4) (.tmp 34))]
def r147_25 : List AOper := [oM 35 8, oO 36 (.load true 2 (.tmp 9)), oM 7 35, oD (.store 2 (.tmp 5) (.tmp 36))]
def r147_28 : List AOper := [oM 37 0, oM 38 6, oO 39 (.bin .eql 3 (.tmp 37) (.tmp 38))]
def r147_31 : List AOper := [oO 40 (.load true 2 (.tmp 4)), oD (.store 2 (.tmp 2) (.tmp 40))]
def r147_33 : List AOper := [oO 41 (.load true 2 (.tmp 5)), oD (.store 2 (.tmp 2) (.tmp 41))]
def tr147 : List (Nat × Tidy) := [tT 0 [0, 2], tT 1 [0, 2, 3], tT 2 [0, 2, 4, 5], tT 3 [0, 2, 4, 5, 6, 7], tT 4 [0, 2, 4, 5, 6, 7, 22], tT 5 [0, 2, 4, 5, 6, 7, 8], tT 6 [0, 2, 4, 5, 6, 7, 8, 9], tT 7 [0, 2, 4, 5, 6, 7, 8, 9, 32], tT 8 [0, 2, 4, 5, 6, 7], tT 9 [0, 2, 4, 5, 6, 7], tT 10 [2, 4, 5, 39], tT 11 [2], tT 12 [2]]
def tl147 : List (Nat × Tidy) := [tT 4 [0, 2, 4, 5, 6, 7]]
def rs147 : List AResV := [.cell 2 true 2]
def p147_0_0 : PT St := pS [sl 0 (aV false [(cD (dI .i64))]), sl 2 (aV false [(cPtr 2 0)]), sl 4 (aV false [(cPtr 4 0)]), sl 5 (aV false [(cPtr 5 0)]), sl 6 (aV false [(cD (dI .i64))]), sl 7 (aV false [(cD (dI .i64))])] [eBox 2 [(cD (dI .i64)), (cD (dI .i64))], eBox 4 [(cD (dI .i64)), (cD (dI .i64))], eBox 5 [(cD (dI .i64)), (cD (dI .i64))]]
def u147_0_0 {β : Type} (g : St → β) : Int → Int → Int → Int → Int → Int → Int → Int → Int → β := p147_0_0.unc g
def p147_0_1 : PT St := pS [sl 0 (aV false [(cD (dI .i64))]), sl 2 (aV false [(cPtr 2 0)]), sl 4 (aV false [(cPtr 4 0)]), sl 5 (aV false [(cPtr 5 0)]), sl 6 (aV false [(cD (dI .i64))]), sl 7 (aV false [(cD (dI .i64))]), sl 22 (aV false [(cD dB)])] [eBox 2 [(cD (dI .i64)), (cD (dI .i64))], eBox 4 [(cD (dI .i64)), (cD (dI .i64))], eBox 5 [(cD (dI .i64)), (cD (dI .i64))]]
def u147_0_1 {β : Type} (g : St → β) : Int → Int → Int → Bool → Int → Int → Int → Int → Int → Int → β := p147_0_1.unc g
def pr147_0_0 : PT (List RV) := pRs [pR true [rD (dI .i64), rD (dI .i64)]]
def ur147_0_0 {β : Type} (g : List RV → β) : Int → Int → β := pr147_0_0.unc g
def E147_0g (vf154_0 : Tf154_0) (vf155_0 : Tf155_0) : EnvK := EnvK.of [⟨154, nt154, [⟨pa154_0, Fn154_0 vf154_0⟩]⟩, ⟨155, nt155, [⟨pa155_0, Fn155_0 vf155_0⟩]⟩] noSeq
noncomputable def E147_0 : EnvK := E147_0g f154_0 f155_0
theorem eo147_0 : E147_0.Ok Try.prog := EnvK.of_ok noSeq_ok ⟨⟨io154_0, trivial⟩, ⟨io155_0, trivial⟩, trivial⟩
noncomputable def c147_0_11g  : MCode := (.seq (.seq (.region r147_14 [] (tO [0, 2, 4, 5, 6, 7, 22])) (.cond (.tmp 22) .skip (.exit 0))) (.block 1 (.seq (.region r147_18 [] (tO [0, 2, 4, 5, 6, 7, 8])) (.seq (.region r147_20 [] (tO [0, 2, 4, 5, 6, 7, 8, 9])) (.seq (.region r147_22 [] (tO [0, 2, 4, 5, 6, 7, 8, 9, 32])) (.cond (.tmp 32) (.region r147_24 [] (tO [0, 2, 4, 5, 6, 7])) (.region r147_25 [] (tO [0, 2, 4, 5, 6, 7]))))))))
noncomputable def c147_0_11 : MCode := c147_0_11g 
theorem g147_0_11 : c147_0_11.Good Try.prog E147_0 sh147 := ⟨⟨trivial, ⟨trivial, trivial⟩⟩, ⟨trivial, ⟨trivial, ⟨trivial, ⟨trivial, trivial⟩⟩⟩⟩⟩
--CODE 11 0
def S147_0_0g (vf155_0 : Tf155_0) (α : Type) (x3 x4 x5 x8 x9 x10 x11 : Int) (kn : Int → Int → Int → Int → Int → Int → Option α) (k1 : Int → Int → Bool → Int → Int → Int → Int → Option α) : Option α :=
 cK (x3 != x4)
 (cK (x3 != x5)
 (vf155_0 α x8 x9 x10 x11
 (fun x13 x14 => cK (decide ((w64 (Int.tdiv (w64 (x4 + x5)) 2)) ≤ x3))
 (kn (w64 (Int.tdiv (w64 (x4 + x5)) 2)) x5 x13 x14 x10 x11)
 (kn x4 (w64 (Int.tdiv (w64 (x4 + x5)) 2)) x8 x9 x13 x14)))
 (k1 x4 x5 (x3 != x5) x8 x9 x10 x11))
 (k1 x4 x5 false x8 x9 x10 x11)
noncomputable def S147_0_0 (α : Type) (x3 x4 x5 x8 x9 x10 x11 : Int) (kn : Int → Int → Int → Int → Int → Int → Option α) (k1 : Int → Int → Bool → Int → Int → Int → Int → Option α) : Option α := S147_0_0g f155_0 α x3 x4 x5 x8 x9 x10 x11 kn k1
noncomputable def R147_0_0 (α : Type) (x3 : Int) (k1 : Int → Int → Bool → Int → Int → Int → Int → Option α) : Nat → Int → Int → Int → Int → Int → Int → Option α
 | 0, _, _, _, _, _, _ => none
 | n + 1, x4, x5, x8, x9, x10, x11 => S147_0_0 α x3 x4 x5 x8 x9 x10 x11 (R147_0_0 α x3 k1 n) k1
noncomputable def L147_0_0 (α : Type) (x3 : Int) (k1 : Int → Int → Bool → Int → Int → Int → Int → Option α) (x4 x5 x8 x9 x10 x11 : Int) : Option α := R147_0_0 α x3 k1 fuel x4 x5 x8 x9 x10 x11
abbrev TL147_0_0 : Type 1 := (α : Type) → Int → (Int → Int → Bool → Int → Int → Int → Int → Option α) → Int → Int → Int → Int → Int → Int → Option α
def F147_0_0 (v : TL147_0_0) (α : Type) (K : Exit → St → Option α) : Int → Int → Int → Int → Int → Int → Int → Int → Int → Option α := fun x3 x4 x5 x6 x7 x8 x9 x10 x11 => v α x3 (fun (y1 : Int) (y2 : Int) (y3 : Bool) (y4 : Int) (y5 : Int) (y6 : Int) (y7 : Int) => u147_0_1 (K (.exit 0)) x3 y1 y2 y3 x6 x7 y4 y5 y6 y7) x4 x5 x8 x9 x10 x11
theorem r147_0_0g (vf154_0 : Tf154_0) (vf155_0 : Tf155_0)  (α : Type) (K : Exit → St → Option α) (Kn : St → Option α) (x3 x4 x5 x6 x7 x8 x9 x10 x11 : Int) : u147_0_0 (fun σ => runM Try.prog (E147_0g vf154_0 vf155_0) sh147 (c147_0_11g ) (thenK (fun σ => tidyK td147_11 σ Kn) K) σ) x3 x4 x5 x6 x7 x8 x9 x10 x11 = S147_0_0g vf155_0 α x3 x4 x5 x8 x9 x10 x11 (fun x4 x5 x8 x9 x10 x11 => u147_0_0 Kn x3 x4 x5 x6 x7 x8 x9 x10 x11) (fun (y1 : Int) (y2 : Int) (y3 : Bool) (y4 : Int) (y5 : Int) (y6 : Int) (y7 : Int) => u147_0_1 (K (.exit 0)) x3 y1 y2 y3 x6 x7 y4 y5 y6 y7) := by kernel_rfl
theorem r147_0_0 (α : Type) (K : Exit → St → Option α) (Kn : St → Option α) (x3 x4 x5 x6 x7 x8 x9 x10 x11 : Int) : u147_0_0 (fun σ => runM Try.prog E147_0 sh147 c147_0_11 (thenK (fun σ => tidyK td147_11 σ Kn) K) σ) x3 x4 x5 x6 x7 x8 x9 x10 x11 = S147_0_0 α x3 x4 x5 x8 x9 x10 x11 (fun x4 x5 x8 x9 x10 x11 => u147_0_0 Kn x3 x4 x5 x6 x7 x8 x9 x10 x11) (fun (y1 : Int) (y2 : Int) (y3 : Bool) (y4 : Int) (y5 : Int) (y6 : Int) (y7 : Int) => u147_0_1 (K (.exit 0)) x3 y1 y2 y3 x6 x7 y4 y5 y6 y7) := r147_0_0g f154_0 f155_0 α K Kn x3 x4 x5 x6 x7 x8 x9 x10 x11
theorem t147_0_0 (α : Type) (K : Exit → St → Option α) : ∀ (n : Nat) (x3 x4 x5 x6 x7 x8 x9 x10 x11 : Int), R147_0_0 α x3 (fun (y1 : Int) (y2 : Int) (y3 : Bool) (y4 : Int) (y5 : Int) (y6 : Int) (y7 : Int) => u147_0_1 (K (.exit 0)) x3 y1 y2 y3 x6 x7 y4 y5 y6 y7) n x4 x5 x8 x9 x10 x11 = u147_0_0 (loopT (runM Try.prog E147_0 sh147 c147_0_11) td147_11 K n) x3 x4 x5 x6 x7 x8 x9 x10 x11 := by
 intro n
 induction n with
 | zero => intros; rfl
 | succ n ih => intro x3 x4 x5 x6 x7 x8 x9 x10 x11; exact (congrArg (fun kn => S147_0_0 α x3 x4 x5 x8 x9 x10 x11 kn (fun (y1 : Int) (y2 : Int) (y3 : Bool) (y4 : Int) (y5 : Int) (y6 : Int) (y7 : Int) => u147_0_1 (K (.exit 0)) x3 y1 y2 y3 x6 x7 y4 y5 y6 y7)) (funext fun x4 => funext fun x5 => funext fun x8 => funext fun x9 => funext fun x10 => funext fun x11 => ih x3 x4 x5 x6 x7 x8 x9 x10 x11)).trans (r147_0_0 α K (loopT (runM Try.prog E147_0 sh147 c147_0_11) td147_11 K n) x3 x4 x5 x6 x7 x8 x9 x10 x11).symm
theorem m147_0_0 : ∀ (α : Type) (K : Exit → St → Option α), F147_0_0 L147_0_0 α K = p147_0_0.unc fun σ => loopT (runM Try.prog E147_0 sh147 c147_0_11) td147_11 K fuel σ := fun α K => funext fun x3 => funext fun x4 => funext fun x5 => funext fun x6 => funext fun x7 => funext fun x8 => funext fun x9 => funext fun x10 => funext fun x11 => t147_0_0 α K fuel x3 x4 x5 x6 x7 x8 x9 x10 x11
abbrev Tf147_0 : Type 1 := (α : Type) → Int → (Int → Int → Option α) → Option α
def f147_0g (vL147_0_0 : TL147_0_0) (vf154_0 : Tf154_0) (α : Type) (x1 : Int) (k1 : Int → Int → Option α) : Option α :=
 vf154_0 α 2251799813685248
 (fun x2 => vL147_0_0 α x1
 (fun x15 x16 x17 x18 x19 x20 x21 => cK (x1 == x15)
 (k1 x18 x19)
 (k1 x20 x21)) 0 524288 67108864 0 x2 x2)
noncomputable def f147_0 (α : Type) (x1 : Int) (k1 : Int → Int → Option α) : Option α := f147_0g L147_0_0 f154_0 α x1 k1
def pa147_0 : PT (List DV) := pA [pV false [(dI .i64)]]
def Fn147_0 (v : Tf147_0) (α : Type) (k : List RV → Option α) : Int → Option α := fun x1 => v α x1 (fun (y1 : Int) (y2 : Int) => ur147_0_0 k y1 y2)
noncomputable def cm147_0g (vL147_0_0 : TL147_0_0) : MCode := (.seq (.region r147_2 [] (tO [0, 2])) (.seq (.region r147_4 [] (tO [0, 2, 3])) (.seq (.region r147_6 [] (tO [0, 2, 4, 5])) (.seq (.region r147_8 [] (tO [0, 2, 4, 5, 6, 7])) (.seq (.block 0 (.loop td147_11 [⟨p147_0_0, F147_0_0 vL147_0_0⟩] c147_0_11)) (.seq (.seq (.region r147_28 [] (tO [2, 4, 5, 39])) (.cond (.tmp 39) (.seq (.region r147_31 [] (tO [2])) .ret) .skip)) (.seq (.region r147_33 [] (tO [2])) .ret)))))))
noncomputable def cm147_0 : MCode := cm147_0g L147_0_0
theorem gm147_0 : cm147_0.Good Try.prog E147_0 sh147 := ⟨trivial, ⟨trivial, ⟨trivial, ⟨trivial, ⟨⟨g147_0_11, m147_0_0, trivial⟩, ⟨⟨trivial, ⟨⟨trivial, trivial⟩, trivial⟩⟩, ⟨trivial, trivial⟩⟩⟩⟩⟩⟩⟩
theorem fm147_0g (vf154_0 : Tf154_0) (vf155_0 : Tf155_0) (vL147_0_0 : TL147_0_0) (α : Type) (k : List RV → Option α) : Fn147_0 (f147_0g vL147_0_0 vf154_0) α k = pa147_0.unc fun ds => fnM Try.prog (E147_0g vf154_0 vf155_0) sh147 (cm147_0g vL147_0_0) rs147 k ds := by kernel_rfl
theorem fm147_0 : ∀ (α : Type) (k : List RV → Option α), Fn147_0 f147_0 α k = pa147_0.unc fun ds => fnM Try.prog E147_0 sh147 cm147_0 rs147 k ds := fm147_0g f154_0 f155_0 L147_0_0
theorem is147 : FnIs Try.prog 147 nt147 tr147 tl147 cm147_0.erase rs147 := ⟨Try.f147, Try.func147, rfl, by kernel_rfl, by kernel_rfl, by kernel_rfl⟩
theorem io147_0 : InstOk Try.prog 147 nt147 ⟨pa147_0, Fn147_0 f147_0⟩ := inst_ok eo147_0 followsTry is147 ⟨⟨sh147, cm147_0, by kernel_rfl, gm147_0, fm147_0⟩⟩
abbrev nt136 : Nat := 25
def sh136 : List (Nat × List Sh) := [(8, [.cpx .f64]), (16, [.int .i64]), (20, [.int .i64, .int .i64]), (22, [.int .i64])]
def r136_2 : List AOper := [oO 1 (.box (.tmp 0)), oO 2 (.alloc [(cI 0), (cI 0), (cI 0)]), oO 3 (.mv (kI 0))]
def r136_4 : List AOper := [oO 7 (.faddr 0 (.tmp 1)), oO 8 (.load false 1 (.tmp 7)), oO 9 (.call 142 [(.tmp 8), (.const (.float Go.FloatKind.f64 4724276009111650304))]), oM 6 9, oO 10 (.extract 0 (.tmp 6)), oO 11 (.extract 1 (.tmp 6)), oO 4 (.alloc [(cI 0), (cI 0)]), oD (.store 2 (.tmp 4) (.tmp 10)), oM 5 11]
def r136_7 : List AOper := [oM 12 5, oO 13 (.bin .eql 28 (.tmp 12) (kI 0)), oM 14 13, oG 15 (.faddr 1 (.tmp 1)) 14 true, oG 16 (.load false 1 (.tmp 15)) 14 true, oG 17 (.call 132 [(.tmp 16), (kI 0), (kI 67108864)]) 14 true, oG 18 (.pure (oB (.unOp .not 4 (.tmp 17)) 4)) 14 true, oO 19 (.pick (.tmp 14) (.tmp 18) (.const (.bool false)))]
def r136_9 : List AOper := [oO 5 (.mv (kI 2))]
def r136_11 : List AOper := [oO 20 (.load true 2 (.tmp 4)), oO 21 (.faddr 1 (.tmp 1)), oO 22 (.load false 1 (.tmp 21)), oO 23 (.build [(cI 0), (cI 0), (cI 0)] [(0, 2, (.tmp 20)), (2, 1, (.tmp 22))]), oM 24 5, oD (.store 3 (.tmp 2) (.tmp 23)), oM 3 24]
def tr136 : List (Nat × Tidy) := [tT 0 [1, 2], tT 1 [1, 2, 4, 5], tT 2 [1, 2, 4, 5, 19], tT 3 [1, 2, 4, 5], tT 4 [2, 3]]
def tl136 : List (Nat × Tidy) := []
def rs136 : List AResV := [.cell 2 true 3, .tmp 3]
def p136_0_0 : PT St := pS [sl 1 (aV false [(cPtr 1 0)]), sl 2 (aV false [(cPtr 2 0)]), sl 4 (aV false [(cPtr 4 0)]), sl 5 (aV false [(cD (dI .i64))])] [eBox 1 [(cD (dX .f64)), (cD (dI .i64))], eBox 2 [(cD (dI .i64)), (cD (dI .i64)), (cD (dI .i64))], eBox 4 [(cD (dI .i64)), (cD (dI .i64))]]
def u136_0_0 {β : Type} (g : St → β) : Int → Nat → Nat → Int → Int → Int → Int → Int → Int → β := p136_0_0.unc g
def p136_0_1 : PT St := pS [sl 1 (aV false [(cPtr 1 0)]), sl 2 (aV false [(cPtr 2 0)]), sl 4 (aV false [(cPtr 4 0)]), sl 5 (aV false [(cD (dI .i64))]), sl 19 (aV false [(cD dB)])] [eBox 1 [(cD (dX .f64)), (cD (dI .i64))], eBox 2 [(cD (dI .i64)), (cD (dI .i64)), (cD (dI .i64))], eBox 4 [(cD (dI .i64)), (cD (dI .i64))]]
def u136_0_1 {β : Type} (g : St → β) : Int → Bool → Nat → Nat → Int → Int → Int → Int → Int → Int → β := p136_0_1.unc g
def pr136_0_0 : PT (List RV) := pRs [pR true [rD (dI .i64), rD (dI .i64), rD (dI .i64)], pR false [rD (dI .i64)]]
def ur136_0_0 {β : Type} (g : List RV → β) : Int → Int → Int → Int → β := pr136_0_0.unc g
def E136_0g (vf142_0 : Tf142_0) (vf132_0 : Tf132_0) : EnvK := EnvK.of [⟨142, nt142, [⟨pa142_0, Fn142_0 vf142_0⟩]⟩, ⟨132, nt132, [⟨pa132_0, Fn132_0 vf132_0⟩]⟩] noSeq
noncomputable def E136_0 : EnvK := E136_0g f142_0 f132_0
theorem eo136_0 : E136_0.Ok Try.prog := EnvK.of_ok noSeq_ok ⟨⟨io142_0, trivial⟩, ⟨io132_0, trivial⟩, trivial⟩
noncomputable def c136_0_5g  : MCode := (.seq (.region r136_7 [] (tO [1, 2, 4, 5, 19])) (.cond (.tmp 19) (.region r136_9 [] (tO [1, 2, 4, 5])) .skip))
noncomputable def c136_0_5 : MCode := c136_0_5g 
theorem g136_0_5 : c136_0_5.Good Try.prog E136_0 sh136 := ⟨trivial, ⟨trivial, trivial⟩⟩
--CODE 5 0
abbrev TJ136_0_0 : Type 1 := (α : Type) → Int → Int → (Option α) → (Bool → Option α) → Option α
def J136_0_0g (vf132_0 : Tf132_0) (α : Type) (x7 x10 : Int) (k1 : Option α) (k2 : Bool → Option α) : Option α :=
 cK (x7 == 0)
 (vf132_0 α x10 0 67108864
 (fun x17 => cK (!x17)
 (k1)
 (k2 (!x17))))
 (k2 false)
noncomputable def J136_0_0 (α : Type) (x7 x10 : Int) (k1 : Option α) (k2 : Bool → Option α) : Option α := J136_0_0g f132_0 α x7 x10 k1 k2
def F136_0_0 (v : TJ136_0_0) (α : Type) (K : Exit → St → Option α) : Int → Nat → Nat → Int → Int → Int → Int → Int → Int → Option α := fun x7 x8 x9 x10 x11 x12 x13 x14 x15 => v α x7 x10 (u136_0_0 (K .normal) 2 x8 x9 x10 x11 x12 x13 x14 x15) (fun (y1 : Bool) => u136_0_1 (K .normal) x7 y1 x8 x9 x10 x11 x12 x13 x14 x15) 
theorem m136_0_0g (vf142_0 : Tf142_0) (vf132_0 : Tf132_0)  (α : Type) (K : Exit → St → Option α) : F136_0_0 (J136_0_0g vf132_0) α K = p136_0_0.unc fun σ => runM Try.prog (E136_0g vf142_0 vf132_0) sh136 (c136_0_5g ) K σ := by kernel_rfl
theorem m136_0_0 : ∀ (α : Type) (K : Exit → St → Option α), F136_0_0 J136_0_0 α K = p136_0_0.unc fun σ => runM Try.prog E136_0 sh136 c136_0_5 K σ := m136_0_0g f142_0 f132_0
abbrev Tf136_0 : Type 1 := (α : Type) → Nat → Nat → Int → (Int → Int → Int → Int → Option α) → Option α
def f136_0g (vJ136_0_0 : TJ136_0_0) (vf142_0 : Tf142_0) (α : Type) (x1 x2 : Nat) (x3 : Int) (k1 : Int → Int → Int → Int → Option α) : Option α :=
 vf142_0 α x1 x2 4724276009111650304
 (fun x4 x5 x6 => vJ136_0_0 α x6 x3
 (k1 x4 x5 x3 2)
 (fun x18 => k1 x4 x5 x3 x6))
noncomputable def f136_0 (α : Type) (x1 x2 : Nat) (x3 : Int) (k1 : Int → Int → Int → Int → Option α) : Option α := f136_0g J136_0_0 f142_0 α x1 x2 x3 k1
def pa136_0 : PT (List DV) := pA [pV true [(dX .f64), (dI .i64)]]
def Fn136_0 (v : Tf136_0) (α : Type) (k : List RV → Option α) : Nat → Nat → Int → Option α := fun x1 x2 x3 => v α x1 x2 x3 (fun (y1 : Int) (y2 : Int) (y3 : Int) (y4 : Int) => ur136_0_0 k y1 y2 y3 y4)
noncomputable def cm136_0g (vJ136_0_0 : TJ136_0_0) : MCode := (.seq (.region r136_2 [] (tO [1, 2])) (.seq (.region r136_4 [] (tO [1, 2, 4, 5])) (.seq (.mark [⟨p136_0_0, F136_0_0 vJ136_0_0⟩] c136_0_5) (.seq (.region r136_11 [] (tO [2, 3])) .ret))))
noncomputable def cm136_0 : MCode := cm136_0g J136_0_0
theorem gm136_0 : cm136_0.Good Try.prog E136_0 sh136 := ⟨trivial, ⟨trivial, ⟨⟨g136_0_5, m136_0_0, trivial⟩, ⟨trivial, trivial⟩⟩⟩⟩
theorem fm136_0g (vf142_0 : Tf142_0) (vf132_0 : Tf132_0) (vJ136_0_0 : TJ136_0_0) (α : Type) (k : List RV → Option α) : Fn136_0 (f136_0g vJ136_0_0 vf142_0) α k = pa136_0.unc fun ds => fnM Try.prog (E136_0g vf142_0 vf132_0) sh136 (cm136_0g vJ136_0_0) rs136 k ds := by kernel_rfl
theorem fm136_0 : ∀ (α : Type) (k : List RV → Option α), Fn136_0 f136_0 α k = pa136_0.unc fun ds => fnM Try.prog E136_0 sh136 cm136_0 rs136 k ds := fm136_0g f142_0 f132_0 J136_0_0
theorem is136 : FnIs Try.prog 136 nt136 tr136 tl136 cm136_0.erase rs136 := ⟨Try.f136, Try.func136, rfl, by kernel_rfl, by kernel_rfl, by kernel_rfl⟩
theorem io136_0 : InstOk Try.prog 136 nt136 ⟨pa136_0, Fn136_0 f136_0⟩ := inst_ok eo136_0 followsTry is136 ⟨⟨sh136, cm136_0, by kernel_rfl, gm136_0, fm136_0⟩⟩
abbrev nt139 : Nat := 36
def sh139 : List (Nat × List Sh) := [(30, [.int .i64]), (32, [.int .i64])]
def r139_2 : List AOper := [oO 2 (.alloc [(cI 0), (cI 0)])]
def r139_4 : List AOper := [oM 4 0, oM 5 0, oO 6 (.call 134 [(.tmp 5), (kI 4194304)]), oO 7 (.bin .mul 3 (kI 4194304) (.tmp 6)), oO 8 (.bin .sub 3 (.tmp 4) (.tmp 7)), oM 0 8]
def r139_8 : List AOper := [oM 10 0, oO 11 (.bin .geq 3 (.tmp 10) (kI 2097152)), oM 9 11]
def r139_11 : List AOper := [oM 12 0, oO 13 (.bin .sub 3 (.tmp 12) (kI 2097152)), oO 14 (.call 139 [(.tmp 13)]), oO 15 (.call 146 [(.tmp 14), (kI 2)]), oD (.store 2 (.tmp 2) (.tmp 15))]
def r139_13 : List AOper := [oM 17 0, oO 18 (.bin .geq 3 (.tmp 17) (kI 1048576)), oM 16 18]
def r139_16 : List AOper := [oM 19 0, oO 20 (.bin .sub 3 (.tmp 19) (kI 1048576)), oO 21 (.call 139 [(.tmp 20)]), oO 22 (.call 146 [(.tmp 21), (kI 1)]), oD (.store 2 (.tmp 2) (.tmp 22))]
def r139_18 : List AOper := [oM 24 0, oO 25 (.bin .gtr 3 (.tmp 24) (kI 524288)), oM 23 25]
def r139_21 : List AOper := [oM 26 0, oO 27 (.bin .sub 3 (kI 1048576) (.tmp 26)), oO 28 (.call 147 [(.tmp 27)]), oO 3 (.alloc [(cI 0), (cI 0)]), oD (.store 2 (.tmp 3) (.tmp 28))]
def r139_23 : List AOper := [oO 29 (.faddr 1 (.tmp 3)), oO 30 (.load false 1 (.tmp 29)), oO 31 (.faddr 0 (.tmp 3)), oO 32 (.load false 1 (.tmp 31)), oO 33 (.build [(cI 0), (cI 0)] [(0, 1, (.tmp 30)), (1, 1, (.tmp 32))]), oD (.store 2 (.tmp 2) (.tmp 33))]
def r139_25 : List AOper := [oM 34 0, oO 35 (.call 147 [(.tmp 34)]), oD (.store 2 (.tmp 2) (.tmp 35))]
def tr139 : List (Nat × Tidy) := [tT 0 [0, 2], tT 1 [0, 2], tT 2 [0, 2, 9], tT 3 [2], tT 4 [0, 2, 16], tT 5 [2], tT 6 [0, 2, 23], tT 7 [2, 3], tT 8 [2], tT 9 [2]]
def tl139 : List (Nat × Tidy) := []
def rs139 : List AResV := [.cell 2 true 2]
def pr139_2_0 : PT (List RV) := pRs [pR true [rD (dI .i64), rD (dI .i64)]]
def ur139_2_0 {β : Type} (g : List RV → β) : Int → Int → β := pr139_2_0.unc g
def E139_2g (vf134_0 : Tf134_0) (vf147_0 : Tf147_0) : EnvK := EnvK.of [⟨134, nt134, [⟨pa134_0, Fn134_0 vf134_0⟩]⟩, ⟨147, nt147, [⟨pa147_0, Fn147_0 vf147_0⟩]⟩] noSeq
noncomputable def E139_2 : EnvK := E139_2g f134_0 f147_0
theorem eo139_2 : E139_2.Ok Try.prog := EnvK.of_ok noSeq_ok ⟨⟨io134_0, trivial⟩, ⟨io147_0, trivial⟩, trivial⟩
abbrev Tf139_2 : Type 1 := (α : Type) → Int → (Int → Int → Option α) → Option α
def f139_2g (vf134_0 : Tf134_0) (vf147_0 : Tf147_0) (α : Type) (x1 : Int) (k1 : Int → Int → Option α) : Option α :=
 vf134_0 α x1 4194304
 (fun x2 => cK (decide (2097152 ≤ (w64 (x1 - (w64 (4194304 * x2))))))
 (none)
 (cK (decide (1048576 ≤ (w64 (x1 - (w64 (4194304 * x2))))))
 (none)
 (cK (decide (524288 < (w64 (x1 - (w64 (4194304 * x2))))))
 (vf147_0 α (w64 (1048576 - (w64 (x1 - (w64 (4194304 * x2))))))
 (fun x3 x4 => k1 x4 x3))
 (vf147_0 α (w64 (x1 - (w64 (4194304 * x2))))
 (fun x5 x6 => k1 x5 x6)))))
noncomputable def f139_2 (α : Type) (x1 : Int) (k1 : Int → Int → Option α) : Option α := f139_2g f134_0 f147_0 α x1 k1
def pa139_2 : PT (List DV) := pA [pV false [(dI .i64)]]
def Fn139_2 (v : Tf139_2) (α : Type) (k : List RV → Option α) : Int → Option α := fun x1 => v α x1 (fun (y1 : Int) (y2 : Int) => ur139_2_0 k y1 y2)
noncomputable def cm139_2g  : MCode := (.seq (.region r139_2 [] (tO [0, 2])) (.seq (.region r139_4 [] (tO [0, 2])) (.seq (.block 0 (.seq (.region r139_8 [] (tO [0, 2, 9])) (.cond (.tmp 9) (.seq (.region r139_11 [] (tO [2])) .ret) (.seq (.region r139_13 [] (tO [0, 2, 16])) (.cond (.tmp 16) (.seq (.region r139_16 [] (tO [2])) .ret) (.seq (.region r139_18 [] (tO [0, 2, 23])) (.cond (.tmp 23) (.seq (.region r139_21 [] (tO [2, 3])) (.seq (.region r139_23 [] (tO [2])) .ret)) .skip))))))) (.seq (.region r139_25 [] (tO [2])) .ret))))
noncomputable def cm139_2 : MCode := cm139_2g 
theorem gm139_2 : cm139_2.Good Try.prog E139_2 sh139 := ⟨trivial, ⟨trivial, ⟨⟨trivial, ⟨⟨trivial, trivial⟩, ⟨trivial, ⟨⟨trivial, trivial⟩, ⟨trivial, ⟨⟨trivial, ⟨trivial, trivial⟩⟩, trivial⟩⟩⟩⟩⟩⟩, ⟨trivial, trivial⟩⟩⟩⟩
theorem fm139_2g (vf134_0 : Tf134_0) (vf147_0 : Tf147_0)  (α : Type) (k : List RV → Option α) : Fn139_2 (f139_2g vf134_0 vf147_0) α k = pa139_2.unc fun ds => fnM Try.prog (E139_2g vf134_0 vf147_0) sh139 (cm139_2g ) rs139 k ds := by kernel_rfl
theorem fm139_2 : ∀ (α : Type) (k : List RV → Option α), Fn139_2 f139_2 α k = pa139_2.unc fun ds => fnM Try.prog E139_2 sh139 cm139_2 rs139 k ds := fm139_2g f134_0 f147_0
theorem is139 : FnIs Try.prog 139 nt139 tr139 tl139 cm139_2.erase rs139 := ⟨Try.f139, Try.func139, rfl, by kernel_rfl, by kernel_rfl, by kernel_rfl⟩
theorem io139_2 : InstOk Try.prog 139 nt139 ⟨pa139_2, Fn139_2 f139_2⟩ := inst_ok eo139_2 followsTry is139 ⟨⟨sh139, cm139_2, by kernel_rfl, gm139_2, fm139_2⟩⟩
def pr139_1_0 : PT (List RV) := pRs [pR true [rD (dI .i64), rD (dI .i64)]]
def ur139_1_0 {β : Type} (g : List RV → β) : Int → Int → β := pr139_1_0.unc g
def E139_1g (vf134_0 : Tf134_0) (vf139_2 : Tf139_2) (vf146_0 : Tf146_0) (vf147_0 : Tf147_0) : EnvK := EnvK.of [⟨134, nt134, [⟨pa134_0, Fn134_0 vf134_0⟩]⟩, ⟨139, nt139, [⟨pa139_2, Fn139_2 vf139_2⟩]⟩, ⟨146, nt146, [⟨pa146_0, Fn146_0 vf146_0⟩]⟩, ⟨147, nt147, [⟨pa147_0, Fn147_0 vf147_0⟩]⟩] noSeq
noncomputable def E139_1 : EnvK := E139_1g f134_0 f139_2 f146_0 f147_0
theorem eo139_1 : E139_1.Ok Try.prog := EnvK.of_ok noSeq_ok ⟨⟨io134_0, trivial⟩, ⟨io139_2, trivial⟩, ⟨io146_0, trivial⟩, ⟨io147_0, trivial⟩, trivial⟩
abbrev Tf139_1 : Type 1 := (α : Type) → Int → (Int → Int → Option α) → Option α
def f139_1g (vf134_0 : Tf134_0) (vf139_2 : Tf139_2) (vf146_0 : Tf146_0) (vf147_0 : Tf147_0) (α : Type) (x1 : Int) (k1 : Int → Int → Option α) : Option α :=
 vf134_0 α x1 4194304
 (fun x2 => cK (decide (2097152 ≤ (w64 (x1 - (w64 (4194304 * x2))))))
 (vf139_2 α (w64 ((w64 (x1 - (w64 (4194304 * x2)))) - 2097152))
 (fun x3 x4 => vf146_0 α x3 x4 2
 (fun x5 x6 => k1 x5 x6)))
 (cK (decide (1048576 ≤ (w64 (x1 - (w64 (4194304 * x2))))))
 (vf139_2 α (w64 ((w64 (x1 - (w64 (4194304 * x2)))) - 1048576))
 (fun x7 x8 => vf146_0 α x7 x8 1
 (fun x9 x10 => k1 x9 x10)))
 (cK (decide (524288 < (w64 (x1 - (w64 (4194304 * x2))))))
 (vf147_0 α (w64 (1048576 - (w64 (x1 - (w64 (4194304 * x2))))))
 (fun x11 x12 => k1 x12 x11))
 (vf147_0 α (w64 (x1 - (w64 (4194304 * x2))))
 (fun x13 x14 => k1 x13 x14)))))
noncomputable def f139_1 (α : Type) (x1 : Int) (k1 : Int → Int → Option α) : Option α := f139_1g f134_0 f139_2 f146_0 f147_0 α x1 k1
def pa139_1 : PT (List DV) := pA [pV false [(dI .i64)]]
def Fn139_1 (v : Tf139_1) (α : Type) (k : List RV → Option α) : Int → Option α := fun x1 => v α x1 (fun (y1 : Int) (y2 : Int) => ur139_1_0 k y1 y2)
noncomputable def cm139_1g  : MCode := (.seq (.region r139_2 [] (tO [0, 2])) (.seq (.region r139_4 [] (tO [0, 2])) (.seq (.block 0 (.seq (.region r139_8 [] (tO [0, 2, 9])) (.cond (.tmp 9) (.seq (.region r139_11 [] (tO [2])) .ret) (.seq (.region r139_13 [] (tO [0, 2, 16])) (.cond (.tmp 16) (.seq (.region r139_16 [] (tO [2])) .ret) (.seq (.region r139_18 [] (tO [0, 2, 23])) (.cond (.tmp 23) (.seq (.region r139_21 [] (tO [2, 3])) (.seq (.region r139_23 [] (tO [2])) .ret)) .skip))))))) (.seq (.region r139_25 [] (tO [2])) .ret))))
noncomputable def cm139_1 : MCode := cm139_1g 
theorem gm139_1 : cm139_1.Good Try.prog E139_1 sh139 := ⟨trivial, ⟨trivial, ⟨⟨trivial, ⟨⟨trivial, trivial⟩, ⟨trivial, ⟨⟨trivial, trivial⟩, ⟨trivial, ⟨⟨trivial, ⟨trivial, trivial⟩⟩, trivial⟩⟩⟩⟩⟩⟩, ⟨trivial, trivial⟩⟩⟩⟩
theorem fm139_1g (vf134_0 : Tf134_0) (vf139_2 : Tf139_2) (vf146_0 : Tf146_0) (vf147_0 : Tf147_0)  (α : Type) (k : List RV → Option α) : Fn139_1 (f139_1g vf134_0 vf139_2 vf146_0 vf147_0) α k = pa139_1.unc fun ds => fnM Try.prog (E139_1g vf134_0 vf139_2 vf146_0 vf147_0) sh139 (cm139_1g ) rs139 k ds := by kernel_rfl
theorem fm139_1 : ∀ (α : Type) (k : List RV → Option α), Fn139_1 f139_1 α k = pa139_1.unc fun ds => fnM Try.prog E139_1 sh139 cm139_1 rs139 k ds := fm139_1g f134_0 f139_2 f146_0 f147_0
theorem io139_1 : InstOk Try.prog 139 nt139 ⟨pa139_1, Fn139_1 f139_1⟩ := inst_ok eo139_1 followsTry is139 ⟨⟨sh139, cm139_1, by kernel_rfl, gm139_1, fm139_1⟩⟩
def pr139_0_0 : PT (List RV) := pRs [pR true [rD (dI .i64), rD (dI .i64)]]
def ur139_0_0 {β : Type} (g : List RV → β) : Int → Int → β := pr139_0_0.unc g
def E139_0g (vf134_0 : Tf134_0) (vf139_1 : Tf139_1) (vf146_0 : Tf146_0) (vf147_0 : Tf147_0) : EnvK := EnvK.of [⟨134, nt134, [⟨pa134_0, Fn134_0 vf134_0⟩]⟩, ⟨139, nt139, [⟨pa139_1, Fn139_1 vf139_1⟩]⟩, ⟨146, nt146, [⟨pa146_0, Fn146_0 vf146_0⟩]⟩, ⟨147, nt147, [⟨pa147_0, Fn147_0 vf147_0⟩]⟩] noSeq
noncomputable def E139_0 : EnvK := E139_0g f134_0 f139_1 f146_0 f147_0
theorem eo139_0 : E139_0.Ok Try.prog := EnvK.of_ok noSeq_ok ⟨⟨io134_0, trivial⟩, ⟨io139_1, trivial⟩, ⟨io146_0, trivial⟩, ⟨io147_0, trivial⟩, trivial⟩
abbrev Tf139_0 : Type 1 := (α : Type) → Int → (Int → Int → Option α) → Option α
def f139_0g (vf134_0 : Tf134_0) (vf139_1 : Tf139_1) (vf146_0 : Tf146_0) (vf147_0 : Tf147_0) (α : Type) (x1 : Int) (k1 : Int → Int → Option α) : Option α :=
 vf134_0 α x1 4194304
 (fun x2 => cK (decide (2097152 ≤ (w64 (x1 - (w64 (4194304 * x2))))))
 (vf139_1 α (w64 ((w64 (x1 - (w64 (4194304 * x2)))) - 2097152))
 (fun x3 x4 => vf146_0 α x3 x4 2
 (fun x5 x6 => k1 x5 x6)))
 (cK (decide (1048576 ≤ (w64 (x1 - (w64 (4194304 * x2))))))
 (vf139_1 α (w64 ((w64 (x1 - (w64 (4194304 * x2)))) - 1048576))
 (fun x7 x8 => vf146_0 α x7 x8 1
 (fun x9 x10 => k1 x9 x10)))
 (cK (decide (524288 < (w64 (x1 - (w64 (4194304 * x2))))))
 (vf147_0 α (w64 (1048576 - (w64 (x1 - (w64 (4194304 * x2))))))
 (fun x11 x12 => k1 x12 x11))
 (vf147_0 α (w64 (x1 - (w64 (4194304 * x2))))
 (fun x13 x14 => k1 x13 x14)))))
noncomputable def f139_0 (α : Type) (x1 : Int) (k1 : Int → Int → Option α) : Option α := f139_0g f134_0 f139_1 f146_0 f147_0 α x1 k1
def pa139_0 : PT (List DV) := pA [pV false [(dI .i64)]]
def Fn139_0 (v : Tf139_0) (α : Type) (k : List RV → Option α) : Int → Option α := fun x1 => v α x1 (fun (y1 : Int) (y2 : Int) => ur139_0_0 k y1 y2)
noncomputable def cm139_0g  : MCode := (.seq (.region r139_2 [] (tO [0, 2])) (.seq (.region r139_4 [] (tO [0, 2])) (.seq (.block 0 (.seq (.region r139_8 [] (tO [0, 2, 9])) (.cond (.tmp 9) (.seq (.region r139_11 [] (tO [2])) .ret) (.seq (.region r139_13 [] (tO [0, 2, 16])) (.cond (.tmp 16) (.seq (.region r139_16 [] (tO [2])) .ret) (.seq (.region r139_18 [] (tO [0, 2, 23])) (.cond (.tmp 23) (.seq (.region r139_21 [] (tO [2, 3])) (.seq (.region r139_23 [] (tO [2])) .ret)) .skip))))))) (.seq (.region r139_25 [] (tO [2])) .ret))))
noncomputable def cm139_0 : MCode := cm139_0g 
theorem gm139_0 : cm139_0.Good Try.prog E139_0 sh139 := ⟨trivial, ⟨trivial, ⟨⟨trivial, ⟨⟨trivial, trivial⟩, ⟨trivial, ⟨⟨trivial, trivial⟩, ⟨trivial, ⟨⟨trivial, ⟨trivial, trivial⟩⟩, trivial⟩⟩⟩⟩⟩⟩, ⟨trivial, trivial⟩⟩⟩⟩
theorem fm139_0g (vf134_0 : Tf134_0) (vf139_1 : Tf139_1) (vf146_0 : Tf146_0) (vf147_0 : Tf147_0)  (α : Type) (k : List RV → Option α) : Fn139_0 (f139_0g vf134_0 vf139_1 vf146_0 vf147_0) α k = pa139_0.unc fun ds => fnM Try.prog (E139_0g vf134_0 vf139_1 vf146_0 vf147_0) sh139 (cm139_0g ) rs139 k ds := by kernel_rfl
theorem fm139_0 : ∀ (α : Type) (k : List RV → Option α), Fn139_0 f139_0 α k = pa139_0.unc fun ds => fnM Try.prog E139_0 sh139 cm139_0 rs139 k ds := fm139_0g f134_0 f139_1 f146_0 f147_0
theorem io139_0 : InstOk Try.prog 139 nt139 ⟨pa139_0, Fn139_0 f139_0⟩ := inst_ok eo139_0 followsTry is139 ⟨⟨sh139, cm139_0, by kernel_rfl, gm139_0, fm139_0⟩⟩
abbrev nt127 : Nat := 28
def sh127 : List (Nat × List Sh) := [(8, [.cpx .f64, .int .i64]), (20, [.int .i64]), (25, [.int .i64])]
def r127_2 : List AOper := [oO 1 (.box (.tmp 0)), oO 2 (.alloc [(cI 0), (cI 0), (cI 0), (cI 0)]), oO 3 (.mv (kI 0))]
def r127_4 : List AOper := [oO 8 (.load true 2 (.tmp 1)), oO 9 (.call 136 [(.tmp 8)]), oM 7 9, oO 10 (.extract 0 (.tmp 7)), oO 11 (.extract 1 (.tmp 7)), oO 4 (.alloc [(cI 0), (cI 0), (cI 0)]), oD (.store 3 (.tmp 4) (.tmp 10)), oM 5 11]
def r127_7 : List AOper := [oM 12 5, oO 13 (.bin .neq 28 (.tmp 12) (kI 0))]
def r127_10 : List AOper := [oO 14 (.build [(cI 0), (cI 0), (cI 0), (cI 0)] []), oM 15 5, oD (.store 4 (.tmp 2) (.tmp 14)), oM 3 15]
def r127_12 : List AOper := [oO 16 (.mkfn 137 [(.tmp 4)]), oM 6 16]
def r127_14 : List AOper := [oM 17 6, oO 18 (.faddr 0 (.tmp 4)), oO 19 (.faddr 0 (.tmp 18)), oO 20 (.load false 1 (.tmp 19)), oO 21 (.calld (.tmp 17) [(.tmp 20)]), oM 22 6, oO 23 (.faddr 0 (.tmp 4)), oO 24 (.faddr 1 (.tmp 23)), oO 25 (.load false 1 (.tmp 24)), oO 26 (.calld (.tmp 22) [(.tmp 25)]), oO 27 (.build [(cI 0), (cI 0), (cI 0), (cI 0)] [(0, 2, (.tmp 21)), (2, 2, (.tmp 26))]), oD (.store 4 (.tmp 2) (.tmp 27)), oO 3 (.mv (kI 0))]
def tr127 : List (Nat × Tidy) := [tT 0 [1, 2], tT 1 [2, 4, 5], tT 2 [2, 4, 5, 13], tT 3 [2, 3], tT 4 [2, 4, 6], tT 5 [2, 3]]
def tl127 : List (Nat × Tidy) := []
def rs127 : List AResV := [.cell 2 true 4, .tmp 3]
def pr127_0_0 : PT (List RV) := pRs [pR true [rD (dI .i64), rD (dI .i64), rD (dI .i64), rD (dI .i64)], pR false [rD (dI .i64)]]
def ur127_0_0 {β : Type} (g : List RV → β) : Int → Int → Int → Int → Int → β := pr127_0_0.unc g
def E127_0g (vf136_0 : Tf136_0) (vf137_0 : Tf137_0) : EnvK := EnvK.of [⟨136, nt136, [⟨pa136_0, Fn136_0 vf136_0⟩]⟩, ⟨137, nt137, [⟨pa137_0, Fn137_0 vf137_0⟩]⟩] noSeq
noncomputable def E127_0 : EnvK := E127_0g f136_0 f137_0
theorem eo127_0 : E127_0.Ok Try.prog := EnvK.of_ok noSeq_ok ⟨⟨io136_0, trivial⟩, ⟨io137_0, trivial⟩, trivial⟩
abbrev Tf127_0 : Type 1 := (α : Type) → Nat → Nat → Int → (Int → Int → Int → Int → Int → Option α) → Option α
def f127_0g (vf136_0 : Tf136_0) (vf137_0 : Tf137_0) (α : Type) (x1 x2 : Nat) (x3 : Int) (k1 : Int → Int → Int → Int → Int → Option α) : Option α :=
 vf136_0 α x1 x2 x3
 (fun x4 x5 x6 x7 => cK (x7 != 0)
 (k1 0 0 0 0 x7)
 (vf137_0 α x4 x4 x5 x6
 (fun x8 x9 => vf137_0 α x5 x4 x5 x6
 (fun x10 x11 => k1 x8 x9 x10 x11 0))))
noncomputable def f127_0 (α : Type) (x1 x2 : Nat) (x3 : Int) (k1 : Int → Int → Int → Int → Int → Option α) : Option α := f127_0g f136_0 f137_0 α x1 x2 x3 k1
def pa127_0 : PT (List DV) := pA [pV true [(dX .f64), (dI .i64)]]
def Fn127_0 (v : Tf127_0) (α : Type) (k : List RV → Option α) : Nat → Nat → Int → Option α := fun x1 x2 x3 => v α x1 x2 x3 (fun (y1 : Int) (y2 : Int) (y3 : Int) (y4 : Int) (y5 : Int) => ur127_0_0 k y1 y2 y3 y4 y5)
noncomputable def cm127_0g  : MCode := (.seq (.region r127_2 [] (tO [1, 2])) (.seq (.region r127_4 [] (tO [2, 4, 5])) (.seq (.seq (.region r127_7 [] (tO [2, 4, 5, 13])) (.cond (.tmp 13) (.seq (.region r127_10 [] (tO [2, 3])) .ret) .skip)) (.seq (.region r127_12 [] (tO [2, 4, 6])) (.seq (.region r127_14 [(4, 8)] (tO [2, 3])) .ret)))))
noncomputable def cm127_0 : MCode := cm127_0g 
theorem gm127_0 : cm127_0.Good Try.prog E127_0 sh127 := ⟨trivial, ⟨trivial, ⟨⟨trivial, ⟨⟨trivial, trivial⟩, trivial⟩⟩, ⟨trivial, ⟨trivial, trivial⟩⟩⟩⟩⟩
theorem fm127_0g (vf136_0 : Tf136_0) (vf137_0 : Tf137_0)  (α : Type) (k : List RV → Option α) : Fn127_0 (f127_0g vf136_0 vf137_0) α k = pa127_0.unc fun ds => fnM Try.prog (E127_0g vf136_0 vf137_0) sh127 (cm127_0g ) rs127 k ds := by kernel_rfl
theorem fm127_0 : ∀ (α : Type) (k : List RV → Option α), Fn127_0 f127_0 α k = pa127_0.unc fun ds => fnM Try.prog E127_0 sh127 cm127_0 rs127 k ds := fm127_0g f136_0 f137_0
theorem is127 : FnIs Try.prog 127 nt127 tr127 tl127 cm127_0.erase rs127 := ⟨Try.f127, Try.func127, rfl, by kernel_rfl, by kernel_rfl, by kernel_rfl⟩
theorem io127_0 : InstOk Try.prog 127 nt127 ⟨pa127_0, Fn127_0 f127_0⟩ := inst_ok eo127_0 followsTry is127 ⟨⟨sh127, cm127_0, by kernel_rfl, gm127_0, fm127_0⟩⟩
abbrev nt133 : Nat := 54
def sh133 : List (Nat × List Sh) := [(21, [.int .i64]), (27, [.int .i64]), (50, [.int .i64, .int .i64, .int .i64])]
def r133_2 : List AOper := [oO 4 (.alloc [(.d (.v (.complex Go.FloatKind.f64 0 0))), (cI 0)]), oO 5 (.mv (kI 0))]
def r133_4 : List AOper := [oM 13 0, oM 14 1, oO 15 (.bin .add 3 (.tmp 13) (.tmp 14)), oO 16 (.call 134 [(.tmp 15), (kI 2)]), oM 6 16]
def r133_6 : List AOper := [oM 17 6, oO 18 (.call 139 [(.tmp 17)]), oO 7 (.alloc [(cI 0), (cI 0)]), oD (.store 2 (.tmp 7) (.tmp 18))]
def r133_8 : List AOper := [oO 20 (.faddr 0 (.tmp 7)), oO 21 (.load false 1 (.tmp 20)), oO 22 (.call 140 [(.tmp 21), (kI 64)]), oM 19 22, oO 23 (.extract 0 (.tmp 19)), oO 24 (.extract 1 (.tmp 19)), oM 8 23, oM 9 24]
def r133_10 : List AOper := [oO 26 (.faddr 1 (.tmp 7)), oO 27 (.load false 1 (.tmp 26)), oO 28 (.call 140 [(.tmp 27), (kI 64)]), oM 25 28, oO 29 (.extract 0 (.tmp 25)), oO 30 (.extract 1 (.tmp 25)), oM 10 29, oM 11 30]
def r133_12 : List AOper := [oM 31 8, oM 32 10, oO 33 (.build [(cI 0), (cI 0)] [(0, 1, (.tmp 31)), (1, 1, (.tmp 32))]), oM 34 1, oM 35 6, oO 36 (.bin .sub 3 (.tmp 34) (.tmp 35)), oO 37 (.bin .mul 3 (kI 11) (.tmp 36)), oO 38 (.call 135 [(.tmp 37), (kI 7)]), oO 39 (.bin .add 3 (kI 2) (.tmp 38)), oO 40 (.build [(cI 0), (cI 0), (cI 0)] [(0, 2, (.tmp 33)), (2, 1, (.tmp 39))]), oO 12 (.alloc [(cI 0), (cI 0), (cI 0)]), oD (.store 3 (.tmp 12) (.tmp 40))]
def r133_15 : List AOper := [oM 41 0, oM 42 1, oO 43 (.bin .eql 3 (.tmp 41) (.tmp 42)), oM 44 43, oG 45 (.mv (.tmp 0)) 44 true, oG 46 (.bin .rem 3 (.tmp 45) (kI 1048576)) 44 true, oG 47 (.bin .eql 3 (.tmp 46) (kI 0)) 44 true, oO 48 (.pick (.tmp 44) (.tmp 47) (.const (.bool false)))]
def r133_17 : List AOper := [oO 49 (.faddr 2 (.tmp 12)), oD (.store 1 (.tmp 49) (kI 0))]
def r133_19 : List AOper := [oO 50 (.load true 3 (.tmp 12)), oO 51 (.call 141 [(.tmp 50)]), oO 52 (.extract 0 (.tmp 51)), oO 53 (.extract 1 (.tmp 51)), oD (.store 2 (.tmp 4) (.tmp 52)), oM 5 53]
def tr133 : List (Nat × Tidy) := [tT 0 [0, 1, 4], tT 1 [0, 1, 4, 6], tT 2 [0, 1, 4, 6, 7], tT 3 [0, 1, 4, 6, 7, 8], tT 4 [0, 1, 4, 6, 8, 10], tT 5 [0, 1, 4, 12], tT 6 [4, 12, 48], tT 7 [4, 12], tT 8 [4, 5]]
def tl133 : List (Nat × Tidy) := []
def rs133 : List AResV := [.cell 4 true 2, .tmp 5]
def p133_0_0 : PT St := pS [sl 0 (aV false [(cD (dI .i64))]), sl 1 (aV false [(cD (dI .i64))]), sl 4 (aV false [(cPtr 4 0)]), sl 12 (aV false [(cPtr 12 0)])] [eBox 4 [(cD (dX .f64)), (cD (dI .i64))], eBox 12 [(cD (dI .i64)), (cD (dI .i64)), (cD (dI .i64))]]
def u133_0_0 {β : Type} (g : St → β) : Int → Int → Nat → Nat → Int → Int → Int → Int → β := p133_0_0.unc g
def p133_0_1 : PT St := pS [sl 4 (aV false [(cPtr 4 0)]), sl 12 (aV false [(cPtr 12 0)])] [eBox 4 [(cD (dX .f64)), (cD (dI .i64))], eBox 12 [(cD (dI .i64)), (cD (dI .i64)), (cD (dI .i64))]]
def u133_0_1 {β : Type} (g : St → β) : Nat → Nat → Int → Int → Int → Int → β := p133_0_1.unc g
def p133_0_2 : PT St := pS [sl 4 (aV false [(cPtr 4 0)]), sl 12 (aV false [(cPtr 12 0)]), sl 48 (aV false [(cD dB)])] [eBox 4 [(cD (dX .f64)), (cD (dI .i64))], eBox 12 [(cD (dI .i64)), (cD (dI .i64)), (cD (dI .i64))]]
def u133_0_2 {β : Type} (g : St → β) : Bool → Nat → Nat → Int → Int → Int → Int → β := p133_0_2.unc g
def pr133_0_0 : PT (List RV) := pRs [pR true [rD (dX .f64), rD (dI .i64)], pR false [rD (dI .i64)]]
def ur133_0_0 {β : Type} (g : List RV → β) : Nat → Nat → Int → Int → β := pr133_0_0.unc g
def E133_0g (vf134_0 : Tf134_0) (vf139_0 : Tf139_0) (vf140_0 : Tf140_0) (vf135_0 : Tf135_0) (vf141_0 : Tf141_0) : EnvK := EnvK.of [⟨134, nt134, [⟨pa134_0, Fn134_0 vf134_0⟩]⟩, ⟨139, nt139, [⟨pa139_0, Fn139_0 vf139_0⟩]⟩, ⟨140, nt140, [⟨pa140_0, Fn140_0 vf140_0⟩]⟩, ⟨135, nt135, [⟨pa135_0, Fn135_0 vf135_0⟩]⟩, ⟨141, nt141, [⟨pa141_0, Fn141_0 vf141_0⟩]⟩] noSeq
noncomputable def E133_0 : EnvK := E133_0g f134_0 f139_0 f140_0 f135_0 f141_0
theorem eo133_0 : E133_0.Ok Try.prog := EnvK.of_ok noSeq_ok ⟨⟨io134_0, trivial⟩, ⟨io139_0, trivial⟩, ⟨io140_0, trivial⟩, ⟨io135_0, trivial⟩, ⟨io141_0, trivial⟩, trivial⟩
noncomputable def c133_0_13g  : MCode := (.seq (.region r133_15 [] (tO [4, 12, 48])) (.cond (.tmp 48) (.region r133_17 [] (tO [4, 12])) .skip))
noncomputable def c133_0_13 : MCode := c133_0_13g 
theorem g133_0_13 : c133_0_13.Good Try.prog E133_0 sh133 := ⟨trivial, ⟨trivial, trivial⟩⟩
--CODE 13 0
abbrev TJ133_0_0 : Type 1 := (α : Type) → Int → Int → (Option α) → (Bool → Option α) → Option α
def J133_0_0g  (α : Type) (x11 x12 : Int) (k1 : Option α) (k2 : Bool → Option α) : Option α :=
 cK (x11 == x12)
 (cK ((Int.tmod x11 1048576) == 0)
 (k1)
 (k2 ((Int.tmod x11 1048576) == 0)))
 (k2 false)
noncomputable def J133_0_0 (α : Type) (x11 x12 : Int) (k1 : Option α) (k2 : Bool → Option α) : Option α := J133_0_0g  α x11 x12 k1 k2
def F133_0_0 (v : TJ133_0_0) (α : Type) (K : Exit → St → Option α) : Int → Int → Nat → Nat → Int → Int → Int → Int → Option α := fun x11 x12 x13 x14 x15 x16 x17 x18 => v α x11 x12 (u133_0_1 (K .normal) x13 x14 x15 x16 x17 0) (fun (y1 : Bool) => u133_0_2 (K .normal) y1 x13 x14 x15 x16 x17 x18) 
theorem m133_0_0g (vf134_0 : Tf134_0) (vf139_0 : Tf139_0) (vf140_0 : Tf140_0) (vf135_0 : Tf135_0) (vf141_0 : Tf141_0)  (α : Type) (K : Exit → St → Option α) : F133_0_0 (J133_0_0g ) α K = p133_0_0.unc fun σ => runM Try.prog (E133_0g vf134_0 vf139_0 vf140_0 vf135_0 vf141_0) sh133 (c133_0_13g ) K σ := by kernel_rfl
theorem m133_0_0 : ∀ (α : Type) (K : Exit → St → Option α), F133_0_0 J133_0_0 α K = p133_0_0.unc fun σ => runM Try.prog E133_0 sh133 c133_0_13 K σ := m133_0_0g f134_0 f139_0 f140_0 f135_0 f141_0
abbrev Tf133_0 : Type 1 := (α : Type) → Int → Int → (Nat → Nat → Int → Int → Option α) → Option α
def f133_0g (vJ133_0_0 : TJ133_0_0) (vf134_0 : Tf134_0) (vf135_0 : Tf135_0) (vf139_0 : Tf139_0) (vf140_0 : Tf140_0) (vf141_0 : Tf141_0) (α : Type) (x1 x2 : Int) (k1 : Nat → Nat → Int → Int → Option α) : Option α :=
 vf134_0 α (w64 (x1 + x2)) 2
 (fun x3 => vf139_0 α x3
 (fun x4 x5 => vf140_0 α x4 64
 (fun x6 x7 => vf140_0 α x5 64
 (fun x8 x9 => vf135_0 α (w64 (11 * (w64 (x2 - x3)))) 7
 (fun x10 => vJ133_0_0 α x1 x2
 (vf141_0 α x6 x8 0
 (fun x22 x23 x24 x25 => k1 x22 x23 x24 x25))
 (fun x20 => vf141_0 α x6 x8 (w64 (2 + x10))
 (fun x26 x27 x28 x29 => k1 x26 x27 x28 x29)))))))
noncomputable def f133_0 (α : Type) (x1 x2 : Int) (k1 : Nat → Nat → Int → Int → Option α) : Option α := f133_0g J133_0_0 f134_0 f135_0 f139_0 f140_0 f141_0 α x1 x2 k1
def pa133_0 : PT (List DV) := pA [pV false [(dI .i64)], pV false [(dI .i64)]]
def Fn133_0 (v : Tf133_0) (α : Type) (k : List RV → Option α) : Int → Int → Option α := fun x1 x2 => v α x1 x2 (fun (y1 : Nat) (y2 : Nat) (y3 : Int) (y4 : Int) => ur133_0_0 k y1 y2 y3 y4)
noncomputable def cm133_0g (vJ133_0_0 : TJ133_0_0) : MCode := (.seq (.region r133_2 [] (tO [0, 1, 4])) (.seq (.region r133_4 [] (tO [0, 1, 4, 6])) (.seq (.region r133_6 [] (tO [0, 1, 4, 6, 7])) (.seq (.region r133_8 [] (tO [0, 1, 4, 6, 7, 8])) (.seq (.region r133_10 [] (tO [0, 1, 4, 6, 8, 10])) (.seq (.region r133_12 [] (tO [0, 1, 4, 12])) (.seq (.mark [⟨p133_0_0, F133_0_0 vJ133_0_0⟩] c133_0_13) (.seq (.region r133_19 [] (tO [4, 5])) .ret))))))))
noncomputable def cm133_0 : MCode := cm133_0g J133_0_0
theorem gm133_0 : cm133_0.Good Try.prog E133_0 sh133 := ⟨trivial, ⟨trivial, ⟨trivial, ⟨trivial, ⟨trivial, ⟨trivial, ⟨⟨g133_0_13, m133_0_0, trivial⟩, ⟨trivial, trivial⟩⟩⟩⟩⟩⟩⟩⟩
theorem fm133_0g (vf134_0 : Tf134_0) (vf139_0 : Tf139_0) (vf140_0 : Tf140_0) (vf135_0 : Tf135_0) (vf141_0 : Tf141_0) (vJ133_0_0 : TJ133_0_0) (α : Type) (k : List RV → Option α) : Fn133_0 (f133_0g vJ133_0_0 vf134_0 vf135_0 vf139_0 vf140_0 vf141_0) α k = pa133_0.unc fun ds => fnM Try.prog (E133_0g vf134_0 vf139_0 vf140_0 vf135_0 vf141_0) sh133 (cm133_0g vJ133_0_0) rs133 k ds := by kernel_rfl
theorem fm133_0 : ∀ (α : Type) (k : List RV → Option α), Fn133_0 f133_0 α k = pa133_0.unc fun ds => fnM Try.prog E133_0 sh133 cm133_0 rs133 k ds := fm133_0g f134_0 f139_0 f140_0 f135_0 f141_0 J133_0_0
theorem is133 : FnIs Try.prog 133 nt133 tr133 tl133 cm133_0.erase rs133 := ⟨Try.f133, Try.func133, rfl, by kernel_rfl, by kernel_rfl, by kernel_rfl⟩
theorem io133_0 : InstOk Try.prog 133 nt133 ⟨pa133_0, Fn133_0 f133_0⟩ := inst_ok eo133_0 followsTry is133 ⟨⟨sh133, cm133_0, by kernel_rfl, gm133_0, fm133_0⟩⟩
abbrev nt126 : Nat := 26
def sh126 : List (Nat × List Sh) := []
def r126_2 : List AOper := [oO 4 (.alloc [(.d (.v (.complex Go.FloatKind.f64 0 0))), (cI 0)]), oO 5 (.mv (kI 0))]
def r126_5 : List AOper := [oM 6 0, oO 7 (.call 131 [(.tmp 6), (kI 1000000000)]), oO 8 (.pure (oB (.unOp .not 4 (.tmp 7)) 4)), oM 9 8, oG 10 (.mv (.tmp 1)) 9 false, oG 11 (.call 132 [(.tmp 10), (kI 1), (kI 1000000000)]) 9 false, oG 12 (.pure (oB (.unOp .not 4 (.tmp 11)) 4)) 9 false, oO 13 (.pick (.tmp 9) (.const (.bool true)) (.tmp 12))]
def r126_8 : List AOper := [oO 14 (.build [(.d (.v (.complex Go.FloatKind.f64 0 0))), (cI 0)] []), oD (.store 2 (.tmp 4) (.tmp 14)), oO 5 (.mv (kI 2))]
def r126_10 : List AOper := [oM 15 0, oO 16 (.bin .mul 3 (.tmp 15) (kI 4194304)), oM 17 1, oO 18 (.call 134 [(.tmp 16), (.tmp 17)]), oM 19 0, oO 20 (.bin .mul 3 (.tmp 19) (kI 4194304)), oM 21 1, oO 22 (.call 135 [(.tmp 20), (.tmp 21)]), oO 23 (.call 133 [(.tmp 18), (.tmp 22)]), oO 24 (.extract 0 (.tmp 23)), oO 25 (.extract 1 (.tmp 23)), oD (.store 2 (.tmp 4) (.tmp 24)), oM 5 25]
def tr126 : List (Nat × Tidy) := [tT 0 [0, 1, 4], tT 1 [0, 1, 4, 13], tT 2 [4, 5], tT 3 [4, 5]]
def tl126 : List (Nat × Tidy) := []
def rs126 : List AResV := [.cell 4 true 2, .tmp 5]
def pr126_0_0 : PT (List RV) := pRs [pR true [rD (dX .f64), rD (dI .i64)], pR false [rD (dI .i64)]]
def ur126_0_0 {β : Type} (g : List RV → β) : Nat → Nat → Int → Int → β := pr126_0_0.unc g
def E126_0g (vf131_0 : Tf131_0) (vf132_0 : Tf132_0) (vf134_0 : Tf134_0) (vf135_0 : Tf135_0) (vf133_0 : Tf133_0) : EnvK := EnvK.of [⟨131, nt131, [⟨pa131_0, Fn131_0 vf131_0⟩]⟩, ⟨132, nt132, [⟨pa132_0, Fn132_0 vf132_0⟩]⟩, ⟨134, nt134, [⟨pa134_0, Fn134_0 vf134_0⟩]⟩, ⟨135, nt135, [⟨pa135_0, Fn135_0 vf135_0⟩]⟩, ⟨133, nt133, [⟨pa133_0, Fn133_0 vf133_0⟩]⟩] noSeq
noncomputable def E126_0 : EnvK := E126_0g f131_0 f132_0 f134_0 f135_0 f133_0
theorem eo126_0 : E126_0.Ok Try.prog := EnvK.of_ok noSeq_ok ⟨⟨io131_0, trivial⟩, ⟨io132_0, trivial⟩, ⟨io134_0, trivial⟩, ⟨io135_0, trivial⟩, ⟨io133_0, trivial⟩, trivial⟩
abbrev Tf126_0 : Type 1 := (α : Type) → Int → Int → (Nat → Nat → Int → Int → Option α) → Option α
def f126_0g (vf131_0 : Tf131_0) (vf132_0 : Tf132_0) (vf133_0 : Tf133_0) (vf134_0 : Tf134_0) (vf135_0 : Tf135_0) (α : Type) (x1 x2 : Int) (k1 : Nat → Nat → Int → Int → Option α) : Option α :=
 vf131_0 α x1 1000000000
 (fun x3 => cK (!x3)
 (k1 0 0 0 2)
 (vf132_0 α x2 1 1000000000
 (fun x4 => cK (!x4)
 (k1 0 0 0 2)
 (vf134_0 α (w64 (x1 * 4194304)) x2
 (fun x5 => vf135_0 α (w64 (x1 * 4194304)) x2
 (fun x6 => vf133_0 α x5 x6
 (fun x7 x8 x9 x10 => k1 x7 x8 x9 x10)))))))
noncomputable def f126_0 (α : Type) (x1 x2 : Int) (k1 : Nat → Nat → Int → Int → Option α) : Option α := f126_0g f131_0 f132_0 f133_0 f134_0 f135_0 α x1 x2 k1
def pa126_0 : PT (List DV) := pA [pV false [(dI .i64)], pV false [(dI .i64)]]
def Fn126_0 (v : Tf126_0) (α : Type) (k : List RV → Option α) : Int → Int → Option α := fun x1 x2 => v α x1 x2 (fun (y1 : Nat) (y2 : Nat) (y3 : Int) (y4 : Int) => ur126_0_0 k y1 y2 y3 y4)
noncomputable def cm126_0g  : MCode := (.seq (.region r126_2 [] (tO [0, 1, 4])) (.seq (.seq (.region r126_5 [] (tO [0, 1, 4, 13])) (.cond (.tmp 13) (.seq (.region r126_8 [] (tO [4, 5])) .ret) .skip)) (.seq (.region r126_10 [] (tO [4, 5])) .ret)))
noncomputable def cm126_0 : MCode := cm126_0g 
theorem gm126_0 : cm126_0.Good Try.prog E126_0 sh126 := ⟨trivial, ⟨⟨trivial, ⟨⟨trivial, trivial⟩, trivial⟩⟩, ⟨trivial, trivial⟩⟩⟩
theorem fm126_0g (vf131_0 : Tf131_0) (vf132_0 : Tf132_0) (vf134_0 : Tf134_0) (vf135_0 : Tf135_0) (vf133_0 : Tf133_0)  (α : Type) (k : List RV → Option α) : Fn126_0 (f126_0g vf131_0 vf132_0 vf133_0 vf134_0 vf135_0) α k = pa126_0.unc fun ds => fnM Try.prog (E126_0g vf131_0 vf132_0 vf134_0 vf135_0 vf133_0) sh126 (cm126_0g ) rs126 k ds := by kernel_rfl
theorem fm126_0 : ∀ (α : Type) (k : List RV → Option α), Fn126_0 f126_0 α k = pa126_0.unc fun ds => fnM Try.prog E126_0 sh126 cm126_0 rs126 k ds := fm126_0g f131_0 f132_0 f134_0 f135_0 f133_0
theorem is126 : FnIs Try.prog 126 nt126 tr126 tl126 cm126_0.erase rs126 := ⟨Try.f126, Try.func126, rfl, by kernel_rfl, by kernel_rfl, by kernel_rfl⟩
theorem io126_0 : InstOk Try.prog 126 nt126 ⟨pa126_0, Fn126_0 f126_0⟩ := inst_ok eo126_0 followsTry is126 ⟨⟨sh126, cm126_0, by kernel_rfl, gm126_0, fm126_0⟩⟩
end Go.AM.K
