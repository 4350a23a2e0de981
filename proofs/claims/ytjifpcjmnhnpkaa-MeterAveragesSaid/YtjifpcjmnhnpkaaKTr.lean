/- Printed by KGen. -/
import Derived.Test.YtjifpcjmnhnpkaaKTu
import Derived.Test.YtjifpcjmnhnpkaaMC1
namespace Go.AM.K
open Go.Proofs
set_option maxRecDepth 100000
set_option linter.unusedVariables false

/-! ### F45 etalon/etalonlaw06.inside -/
abbrev nt45 : Nat := 17
def sh45 : List (Nat × List Sh) := [(6, [.int .i64]), (8, [.int .i64]), (12, [.int .i64]), (14, [.int .i64])]
def r45_2 : List AOper := [oO 2 (.box (.tmp 0)), oO 3 (.box (.tmp 1)), oO 4 (.mv (.const (.bool false)))]
def r45_4 : List AOper := [oO 5 (.faddr 0 (.tmp 3)), oO 6 (.load false 1 (.tmp 5)), oO 7 (.faddr 0 (.tmp 2)), oO 8 (.load false 1 (.tmp 7)), oO 9 (.bin .leq 3 (.tmp 6) (.tmp 8)), oM 10 9, ⟨(some 11), (.faddr 1 (.tmp 2)), (some (10, true))⟩, ⟨(some 12), (.load false 1 (.tmp 11)), (some (10, true))⟩, ⟨(some 13), (.faddr 1 (.tmp 3)), (some (10, true))⟩, ⟨(some 14), (.load false 1 (.tmp 13)), (some (10, true))⟩, ⟨(some 15), (.bin .leq 3 (.tmp 12) (.tmp 14)), (some (10, true))⟩, oO 16 (.pick (.tmp 10) (.tmp 15) (.const (.bool false))), oM 4 16]
def tr45 : List (Nat × Tidy) := [(0, ⟨[2, 3], true, [], []⟩), (1, ⟨[4], true, [], []⟩)]
def tl45 : List (Nat × Tidy) := []
def rs45 : List AResV := [.tmp 4]
def pr45_0_0 : PT (List RV) := pRs [pR false [rD dB]]
def ur45_0_0 {β : Type} (g : List RV → β) : Bool → β := pr45_0_0.unc g

def E45_0g  : EnvK := EnvK.of [] noSeq
noncomputable def E45_0 : EnvK := E45_0g 
theorem eo45_0 : E45_0.Ok Try.prog := EnvK.of_ok noSeq_ok trivial

/-- etalon/etalonlaw06.inside -/
abbrev Tf45_0 : Type 1 := (α : Type) → Int → Int → Int → Int → (Bool → Option α) → Option α
def f45_0g  (α : Type) (x1 : Int) (x2 : Int) (x3 : Int) (x4 : Int) (k1 : Bool → Option α) : Option α :=
 cK (decide (x3 ≤ x1))
 (k1 (decide (x2 ≤ x4)))
 (k1 false)
noncomputable def f45_0 (α : Type) (x1 : Int) (x2 : Int) (x3 : Int) (x4 : Int) (k1 : Bool → Option α) : Option α := f45_0g  α x1 x2 x3 x4 k1
def pa45_0 : PT (List DV) := pA [pV true [(dI .i64), (dI .i64)], pV true [(dI .i64), (dI .i64)]]
def Fn45_0 (v : Tf45_0) (α : Type) (k : List RV → Option α) : Int → Int → Int → Int → Option α := fun x1 x2 x3 x4 => v α x1 x2 x3 x4 (fun (y1 : Bool) => ur45_0_0 k y1)
noncomputable def cm45_0g  : MCode := (.seq (.region r45_2 [] (some ⟨[2, 3], true, [], []⟩)) (.seq (.region r45_4 [] (some ⟨[4], true, [], []⟩)) .ret))
noncomputable def cm45_0 : MCode := cm45_0g 
theorem gm45_0 : cm45_0.Good Try.prog E45_0 sh45 := ⟨trivial, ⟨trivial, trivial⟩⟩
theorem fm45_0g   (α : Type) (k : List RV → Option α) : Fn45_0 (f45_0g ) α k = pa45_0.unc fun ds => fnM Try.prog (E45_0g ) sh45 (cm45_0g ) rs45 k ds := by kernel_rfl
theorem fm45_0 : ∀ (α : Type) (k : List RV → Option α), Fn45_0 f45_0 α k = pa45_0.unc fun ds => fnM Try.prog E45_0 sh45 cm45_0 rs45 k ds := fm45_0g 

theorem is45 : FnIs Try.prog 45 nt45 tr45 tl45 cm45_0.erase rs45 := ⟨Try.f45, Try.func45, rfl, by kernel_rfl, by kernel_rfl, by kernel_rfl⟩
theorem io45_0 : InstOk Try.prog 45 nt45 ⟨pa45_0, Fn45_0 f45_0⟩ := inst_ok eo45_0 followsTry is45 ⟨⟨sh45, cm45_0, by kernel_rfl, gm45_0, fm45_0⟩⟩

/-! ### F93 etalon/etalonref06.common -/
abbrev nt93 : Nat := 24
def sh93 : List (Nat × List Sh) := [(8, [.int .i64]), (10, [.int .i64]), (13, [.int .i64]), (15, [.int .i64]), (18, [.int .i64, .int .i64]), (20, [.int .i64]), (22, [.int .i64])]
def r93_2 : List AOper := [oO 2 (.box (.tmp 0)), oO 3 (.box (.tmp 1)), oO 4 (.alloc [(.d (.v (.int .i64 0))), (.d (.v (.int .i64 0)))]), oO 5 (.mv (.const (.bool false)))]
def r93_4 : List AOper := [oO 7 (.faddr 0 (.tmp 2)), oO 8 (.load false 1 (.tmp 7)), oO 9 (.faddr 0 (.tmp 3)), oO 10 (.load false 1 (.tmp 9)), oO 11 (.pure (oB (.call { callee := .builtin .max, args := #[(.tmp 8), (.tmp 10)], argTypes := #[3, 3] }) 3)), oO 12 (.faddr 1 (.tmp 2)), oO 13 (.load false 1 (.tmp 12)), oO 14 (.faddr 1 (.tmp 3)), oO 15 (.load false 1 (.tmp 14)), oO 16 (.pure (oB (.call { callee := .builtin .min, args := #[(.tmp 13), (.tmp 15)], argTypes := #[3, 3] }) 3)), oO 17 (.build [(.d (.v (.int .i64 0))), (.d (.v (.int .i64 0)))] [(0, 1, (.tmp 11)), (1, 1, (.tmp 16))]), oO 6 (.alloc [(.d (.v (.int .i64 0))), (.d (.v (.int .i64 0)))]), ⟨none, (.store 2 (.tmp 6) (.tmp 17)), none⟩]
def r93_6 : List AOper := [oO 18 (.load true 2 (.tmp 6)), oO 19 (.faddr 0 (.tmp 6)), oO 20 (.load false 1 (.tmp 19)), oO 21 (.faddr 1 (.tmp 6)), oO 22 (.load false 1 (.tmp 21)), oO 23 (.bin .leq 3 (.tmp 20) (.tmp 22)), ⟨none, (.store 2 (.tmp 4) (.tmp 18)), none⟩, oM 5 23]
def tr93 : List (Nat × Tidy) := [(0, ⟨[2, 3, 4], true, [], []⟩), (1, ⟨[4, 6], true, [], []⟩), (2, ⟨[4, 5], true, [], []⟩)]
def tl93 : List (Nat × Tidy) := []
def rs93 : List AResV := [.cell 4 true 2, .tmp 5]
def pr93_0_0 : PT (List RV) := pRs [pR true [rD (dI .i64), rD (dI .i64)], pR false [rD dB]]
def ur93_0_0 {β : Type} (g : List RV → β) : Int → Int → Bool → β := pr93_0_0.unc g

def E93_0g  : EnvK := EnvK.of [] noSeq
noncomputable def E93_0 : EnvK := E93_0g 
theorem eo93_0 : E93_0.Ok Try.prog := EnvK.of_ok noSeq_ok trivial

/-- etalon/etalonref06.common -/
abbrev Tf93_0 : Type 1 := (α : Type) → Int → Int → Int → Int → (Int → Int → Bool → Option α) → Option α
def f93_0g  (α : Type) (x1 : Int) (x2 : Int) (x3 : Int) (x4 : Int) (k1 : Int → Int → Bool → Option α) : Option α :=
 k1 (if x3 > x1 then x3 else x1) (if x4 < x2 then x4 else x2) (decide ((if x3 > x1 then x3 else x1) ≤ (if x4 < x2 then x4 else x2)))
noncomputable def f93_0 (α : Type) (x1 : Int) (x2 : Int) (x3 : Int) (x4 : Int) (k1 : Int → Int → Bool → Option α) : Option α := f93_0g  α x1 x2 x3 x4 k1
def pa93_0 : PT (List DV) := pA [pV true [(dI .i64), (dI .i64)], pV true [(dI .i64), (dI .i64)]]
def Fn93_0 (v : Tf93_0) (α : Type) (k : List RV → Option α) : Int → Int → Int → Int → Option α := fun x1 x2 x3 x4 => v α x1 x2 x3 x4 (fun (y1 : Int) (y2 : Int) (y3 : Bool) => ur93_0_0 k y1 y2 y3)
noncomputable def cm93_0g  : MCode := (.seq (.region r93_2 [] (some ⟨[2, 3, 4], true, [], []⟩)) (.seq (.region r93_4 [] (some ⟨[4, 6], true, [], []⟩)) (.seq (.region r93_6 [(2, 6), (4, 6)] (some ⟨[4, 5], true, [], []⟩)) .ret)))
noncomputable def cm93_0 : MCode := cm93_0g 
theorem gm93_0 : cm93_0.Good Try.prog E93_0 sh93 := ⟨trivial, ⟨trivial, ⟨trivial, trivial⟩⟩⟩
theorem fm93_0g   (α : Type) (k : List RV → Option α) : Fn93_0 (f93_0g ) α k = pa93_0.unc fun ds => fnM Try.prog (E93_0g ) sh93 (cm93_0g ) rs93 k ds := by kernel_rfl
theorem fm93_0 : ∀ (α : Type) (k : List RV → Option α), Fn93_0 f93_0 α k = pa93_0.unc fun ds => fnM Try.prog E93_0 sh93 cm93_0 rs93 k ds := fm93_0g 

theorem is93 : FnIs Try.prog 93 nt93 tr93 tl93 cm93_0.erase rs93 := ⟨Try.f93, Try.func93, rfl, by kernel_rfl, by kernel_rfl, by kernel_rfl⟩
theorem io93_0 : InstOk Try.prog 93 nt93 ⟨pa93_0, Fn93_0 f93_0⟩ := inst_ok eo93_0 followsTry is93 ⟨⟨sh93, cm93_0, by kernel_rfl, gm93_0, fm93_0⟩⟩

/-! ### F103 etalon/etalonref06.numbers -/
abbrev nt103 : Nat := 10
def sh103 : List (Nat × List Sh) := [(4, [.int .i64, .int .i64]), (6, [.int .i64, .int .i64]), (8, [.int .i64, .int .i64])]
def r103_2 : List AOper := [oO 1 (.box (.tmp 0)), oO 2 (.alloc [(.d (.v (.int .i64 0))), (.d (.v (.int .i64 0))), (.d (.v (.int .i64 0))), (.d (.v (.int .i64 0))), (.d (.v (.int .i64 0))), (.d (.v (.int .i64 0)))])]
def r103_4 : List AOper := [oO 3 (.faddr 4 (.tmp 1)), oO 4 (.load true 2 (.tmp 3)), oO 5 (.faddr 6 (.tmp 1)), oO 6 (.load true 2 (.tmp 5)), oO 7 (.faddr 8 (.tmp 1)), oO 8 (.load true 2 (.tmp 7)), oO 9 (.build [(.d (.v (.int .i64 0))), (.d (.v (.int .i64 0))), (.d (.v (.int .i64 0))), (.d (.v (.int .i64 0))), (.d (.v (.int .i64 0))), (.d (.v (.int .i64 0)))] [(0, 2, (.tmp 4)), (2, 2, (.tmp 6)), (4, 2, (.tmp 8))]), ⟨none, (.store 6 (.tmp 2) (.tmp 9)), none⟩]
def tr103 : List (Nat × Tidy) := [(0, ⟨[1, 2], true, [], []⟩), (1, ⟨[2], true, [], []⟩)]
def tl103 : List (Nat × Tidy) := []
def rs103 : List AResV := [.cell 2 true 6]
def pr103_0_0 : PT (List RV) := pRs [pR true [rD (dI .i64), rD (dI .i64), rD (dI .i64), rD (dI .i64), rD (dI .i64), rD (dI .i64)]]
def ur103_0_0 {β : Type} (g : List RV → β) : Int → Int → Int → Int → Int → Int → β := pr103_0_0.unc g

def E103_0g  : EnvK := EnvK.of [] noSeq
noncomputable def E103_0 : EnvK := E103_0g 
theorem eo103_0 : E103_0.Ok Try.prog := EnvK.of_ok noSeq_ok trivial

/-- etalon/etalonref06.numbers -/
abbrev Tf103_0 : Type 1 := (α : Type) → ByteArray → Int → Int → Int → Int → Int → Int → Int → Int → Int → (Int → Int → Int → Int → Int → Int → Option α) → Option α
def f103_0g  (α : Type) (x1 : ByteArray) (x2 : Int) (x3 : Int) (x4 : Int) (x5 : Int) (x6 : Int) (x7 : Int) (x8 : Int) (x9 : Int) (x10 : Int) (k1 : Int → Int → Int → Int → Int → Int → Option α) : Option α :=
 k1 x5 x6 x7 x8 x9 x10
noncomputable def f103_0 (α : Type) (x1 : ByteArray) (x2 : Int) (x3 : Int) (x4 : Int) (x5 : Int) (x6 : Int) (x7 : Int) (x8 : Int) (x9 : Int) (x10 : Int) (k1 : Int → Int → Int → Int → Int → Int → Option α) : Option α := f103_0g  α x1 x2 x3 x4 x5 x6 x7 x8 x9 x10 k1
def pa103_0 : PT (List DV) := pA [pV true [dS, (dI .i64), (dI .i64), (dI .i64), (dI .i64), (dI .i64), (dI .i64), (dI .i64), (dI .i64), (dI .i64)]]
def Fn103_0 (v : Tf103_0) (α : Type) (k : List RV → Option α) : ByteArray → Int → Int → Int → Int → Int → Int → Int → Int → Int → Option α := fun x1 x2 x3 x4 x5 x6 x7 x8 x9 x10 => v α x1 x2 x3 x4 x5 x6 x7 x8 x9 x10 (fun (y1 : Int) (y2 : Int) (y3 : Int) (y4 : Int) (y5 : Int) (y6 : Int) => ur103_0_0 k y1 y2 y3 y4 y5 y6)
noncomputable def cm103_0g  : MCode := (.seq (.region r103_2 [] (some ⟨[1, 2], true, [], []⟩)) (.seq (.region r103_4 [] (some ⟨[2], true, [], []⟩)) .ret))
noncomputable def cm103_0 : MCode := cm103_0g 
theorem gm103_0 : cm103_0.Good Try.prog E103_0 sh103 := ⟨trivial, ⟨trivial, trivial⟩⟩
theorem fm103_0g   (α : Type) (k : List RV → Option α) : Fn103_0 (f103_0g ) α k = pa103_0.unc fun ds => fnM Try.prog (E103_0g ) sh103 (cm103_0g ) rs103 k ds := by kernel_rfl
theorem fm103_0 : ∀ (α : Type) (k : List RV → Option α), Fn103_0 f103_0 α k = pa103_0.unc fun ds => fnM Try.prog E103_0 sh103 cm103_0 rs103 k ds := fm103_0g 

theorem is103 : FnIs Try.prog 103 nt103 tr103 tl103 cm103_0.erase rs103 := ⟨Try.f103, Try.func103, rfl, by kernel_rfl, by kernel_rfl, by kernel_rfl⟩
theorem io103_0 : InstOk Try.prog 103 nt103 ⟨pa103_0, Fn103_0 f103_0⟩ := inst_ok eo103_0 followsTry is103 ⟨⟨sh103, cm103_0, by kernel_rfl, gm103_0, fm103_0⟩⟩

/-! ### F123 etalon/etalonbase.IsName -/
abbrev nt123 : Nat := 55
def sh123 : List (Nat × List Sh) := []
def r123_2 : List AOper := [oO 2 (.mv (.const (.bool false)))]
def r123_5 : List AOper := [oM 6 0, oO 7 (.pure (oB (.call { callee := .builtin .len, args := #[(.tmp 6)], argTypes := #[9] }) 3)), oO 8 (.bin .lss 3 (.tmp 7) (.const (.int .i64 1))), oM 9 8, ⟨(some 10), (.mv (.tmp 0)), (some (9, false))⟩, ⟨(some 11), (.pure (oB (.call { callee := .builtin .len, args := #[(.tmp 10)], argTypes := #[9] }) 3)), (some (9, false))⟩, ⟨(some 12), (.bin .gtr 3 (.tmp 11) (.const (.int .i64 12))), (some (9, false))⟩, oO 13 (.pick (.tmp 9) (.const (.bool true)) (.tmp 12))]
def r123_8 : List AOper := [oO 2 (.mv (.const (.bool false)))]
def r123_11 : List AOper := [oO 3 (.mv (.const (.int .i64 0)))]
def td123_13 : Option Tidy := (some ⟨[0, 3], true, [], []⟩)
def r123_16 : List AOper := [oM 14 3, oM 15 0, oO 16 (.pure (oB (.call { callee := .builtin .len, args := #[(.tmp 15)], argTypes := #[9] }) 3)), oO 17 (.bin .lss 3 (.tmp 14) (.tmp 16))]
def r123_21 : List AOper := [oM 20 0, oM 21 3, oO 22 (.pure (oB (.index 9 (.tmp 20) (.tmp 21)) 5)), oM 4 22]
def r123_23 : List AOper := [oM 23 4, oO 24 (.bin .geq 5 (.tmp 23) (.const (.int .u8 97))), oM 25 24, ⟨(some 26), (.mv (.tmp 4)), (some (25, true))⟩, ⟨(some 27), (.bin .leq 5 (.tmp 26) (.const (.int .u8 122))), (some (25, true))⟩, oO 28 (.pick (.tmp 25) (.tmp 27) (.const (.bool false))), oM 29 28, ⟨(some 30), (.mv (.tmp 4)), (some (29, false))⟩, ⟨(some 31), (.bin .geq 5 (.tmp 30) (.const (.int .u8 65))), (some (29, false))⟩, ⟨(some 32), (.mv (.tmp 31)), (some (29, false))⟩, ⟨(some 33), (.mv (.tmp 4)), (some (32, true))⟩, ⟨(some 34), (.bin .leq 5 (.tmp 33) (.const (.int .u8 90))), (some (32, true))⟩, ⟨(some 35), (.pick (.tmp 32) (.tmp 34) (.const (.bool false))), (some (29, false))⟩, oO 36 (.pick (.tmp 29) (.const (.bool true)) (.tmp 35)), oM 5 36]
def r123_25 : List AOper := [oM 37 5, oO 38 (.pure (oB (.unOp .not 4 (.tmp 37)) 4)), oM 39 38, ⟨(some 40), (.mv (.tmp 3)), (some (39, true))⟩, ⟨(some 41), (.bin .eql 3 (.tmp 40) (.const (.int .i64 0))), (some (39, true))⟩, ⟨(some 42), (.mv (.tmp 41)), (some (39, true))⟩, ⟨(some 43), (.mv (.tmp 4)), (some (42, false))⟩, ⟨(some 44), (.bin .neq 5 (.tmp 43) (.const (.int .u8 45))), (some (42, false))⟩, ⟨(some 45), (.mv (.tmp 44)), (some (42, false))⟩, ⟨(some 46), (.mv (.tmp 4)), (some (45, true))⟩, ⟨(some 47), (.bin .lss 5 (.tmp 46) (.const (.int .u8 48))), (some (45, true))⟩, ⟨(some 48), (.mv (.tmp 47)), (some (45, true))⟩, ⟨(some 49), (.mv (.tmp 4)), (some (48, false))⟩, ⟨(some 50), (.bin .gtr 5 (.tmp 49) (.const (.int .u8 57))), (some (48, false))⟩, ⟨(some 51), (.pick (.tmp 48) (.const (.bool true)) (.tmp 50)), (some (45, true))⟩, ⟨(some 52), (.pick (.tmp 45) (.tmp 51) (.const (.bool false))), (some (42, false))⟩, ⟨(some 53), (.pick (.tmp 42) (.const (.bool true)) (.tmp 52)), (some (39, true))⟩, oO 54 (.pick (.tmp 39) (.tmp 53) (.const (.bool false)))]
def r123_28 : List AOper := [oO 2 (.mv (.const (.bool false)))]
def r123_29 : List AOper := [oM 18 3, oO 19 (.bin .add 3 (.tmp 18) (.const (.int .i64 1))), oM 3 19]
def r123_31 : List AOper := [oO 2 (.mv (.const (.bool true)))]
def tr123 : List (Nat × Tidy) := [(0, ⟨[0], true, [], []⟩), (1, ⟨[0, 13], true, [], []⟩), (2, ⟨[2], true, [], []⟩), (3, ⟨[0, 3], true, [], []⟩), (4, ⟨[0, 3, 17], true, [], []⟩), (6, ⟨[0, 3, 4], true, [], []⟩), (7, ⟨[0, 3, 4, 5], true, [], []⟩), (8, ⟨[0, 3, 54], true, [], []⟩), (9, ⟨[2], true, [], []⟩), (5, ⟨[0, 3], true, [], []⟩), (10, ⟨[2], true, [], []⟩)]
def tl123 : List (Nat × Tidy) := [(4, ⟨[0, 3], true, [], []⟩)]
def rs123 : List AResV := [.tmp 2]
def p123_0_0 : PT St := pS [sl 0 (aV false [(cD dS)]), sl 3 (aV false [(cD (dI .i64))]), sl 4 (aV false [(cD (dI .u8))])] []
def u123_0_0 {β : Type} (g : St → β) : ByteArray → Int → Int → β := p123_0_0.unc g

def p123_0_1 : PT St := pS [sl 0 (aV false [(cD dS)]), sl 3 (aV false [(cD (dI .i64))]), sl 4 (aV false [(cD (dI .u8))]), sl 5 (aV false [(cD dB)])] []
def u123_0_1 {β : Type} (g : St → β) : ByteArray → Int → Int → Bool → β := p123_0_1.unc g

def p123_0_2 : PT St := pS [sl 0 (aV false [(cD dS)]), sl 3 (aV false [(cD (dI .i64))]), sl 54 (aV false [(cD dB)])] []
def u123_0_2 {β : Type} (g : St → β) : ByteArray → Int → Bool → β := p123_0_2.unc g

def p123_0_3 : PT St := pS [sl 0 (aV false [(cD dS)]), sl 3 (aV false [(cD (dI .i64))])] []
def u123_0_3 {β : Type} (g : St → β) : ByteArray → Int → β := p123_0_3.unc g

def p123_0_4 : PT St := pS [sl 2 (aV false [(cD dB)])] []
def u123_0_4 {β : Type} (g : St → β) : Bool → β := p123_0_4.unc g

def p123_0_5 : PT St := pS [sl 0 (aV false [(cD dS)]), sl 3 (aV false [(cD (dI .i64))]), sl 17 (aV false [(cD dB)])] []
def u123_0_5 {β : Type} (g : St → β) : ByteArray → Int → Bool → β := p123_0_5.unc g

def pr123_0_0 : PT (List RV) := pRs [pR false [rD dB]]
def ur123_0_0 {β : Type} (g : List RV → β) : Bool → β := pr123_0_0.unc g

def E123_0g  : EnvK := EnvK.of [] noSeq
noncomputable def E123_0 : EnvK := E123_0g 
theorem eo123_0 : E123_0.Ok Try.prog := EnvK.of_ok noSeq_ok trivial

noncomputable def c123_0_24g  : MCode := (.region r123_25 [] (some ⟨[0, 3, 54], true, [], []⟩))
noncomputable def c123_0_24 : MCode := c123_0_24g 
theorem g123_0_24 : c123_0_24.Good Try.prog E123_0 sh123 := trivial
--CODE 24 0
abbrev TJ123_0_1 : Type 1 := (α : Type) → Int → Int → Bool → (Bool → Option α) → Option α
def J123_0_1g  (α : Type) (x13 : Int) (x14 : Int) (x15 : Bool) (k1 : Bool → Option α) : Option α :=
 cK (!x15)
 (cK (x13 == 0)
 (k1 true)
 (cK (x14 != 45)
 (cK (decide (x14 < 48))
 (k1 true)
 (k1 (decide (57 < x14))))
 (k1 false)))
 (k1 false)
noncomputable def J123_0_1 (α : Type) (x13 : Int) (x14 : Int) (x15 : Bool) (k1 : Bool → Option α) : Option α := J123_0_1g  α x13 x14 x15 k1
def F123_0_1 (v : TJ123_0_1) (α : Type) (K : Exit → St → Option α) : ByteArray → Int → Int → Bool → Option α := fun x12 x13 x14 x15 => v α x13 x14 x15 (fun (y1 : Bool) => u123_0_2 (K .normal) x12 x13 y1) 
theorem m123_0_1g   (α : Type) (K : Exit → St → Option α) : F123_0_1 (J123_0_1g ) α K = p123_0_1.unc fun σ => runM Try.prog (E123_0g ) sh123 (c123_0_24g ) K σ := by kernel_rfl
theorem m123_0_1 : ∀ (α : Type) (K : Exit → St → Option α), F123_0_1 J123_0_1 α K = p123_0_1.unc fun σ => runM Try.prog E123_0 sh123 c123_0_24 K σ := m123_0_1g 

noncomputable def c123_0_22g  : MCode := (.region r123_23 [] (some ⟨[0, 3, 4, 5], true, [], []⟩))
noncomputable def c123_0_22 : MCode := c123_0_22g 
theorem g123_0_22 : c123_0_22.Good Try.prog E123_0 sh123 := trivial
--CODE 22 0
abbrev TJ123_0_0 : Type 1 := (α : Type) → Int → (Bool → Option α) → Option α
def J123_0_0g  (α : Type) (x8 : Int) (k1 : Bool → Option α) : Option α :=
 cK (decide (97 ≤ x8))
 (cK (decide (x8 ≤ 122))
 (k1 true)
 (cK (decide (65 ≤ x8))
 (k1 (decide (x8 ≤ 90)))
 (k1 false)))
 (cK (decide (65 ≤ x8))
 (k1 (decide (x8 ≤ 90)))
 (k1 false))
noncomputable def J123_0_0 (α : Type) (x8 : Int) (k1 : Bool → Option α) : Option α := J123_0_0g  α x8 k1
def F123_0_0 (v : TJ123_0_0) (α : Type) (K : Exit → St → Option α) : ByteArray → Int → Int → Option α := fun x6 x7 x8 => v α x8 (fun (y1 : Bool) => u123_0_1 (K .normal) x6 x7 x8 y1) 
theorem m123_0_0g   (α : Type) (K : Exit → St → Option α) : F123_0_0 (J123_0_0g ) α K = p123_0_0.unc fun σ => runM Try.prog (E123_0g ) sh123 (c123_0_22g ) K σ := by kernel_rfl
theorem m123_0_0 : ∀ (α : Type) (K : Exit → St → Option α), F123_0_0 J123_0_0 α K = p123_0_0.unc fun σ => runM Try.prog E123_0 sh123 c123_0_22 K σ := m123_0_0g 

noncomputable def c123_0_13g (vJ123_0_0 : TJ123_0_0) (vJ123_0_1 : TJ123_0_1) : MCode := (.seq (.seq (.region r123_16 [] (some ⟨[0, 3, 17], true, [], []⟩)) (.cond (.tmp 17) .skip (.exit 0))) (.seq (.block 1 (.seq (.region r123_21 [] (some ⟨[0, 3, 4], true, [], []⟩)) (.seq (.mark [⟨p123_0_0, F123_0_0 vJ123_0_0⟩] c123_0_22) (.seq (.mark [⟨p123_0_1, F123_0_1 vJ123_0_1⟩] c123_0_24) (.cond (.tmp 54) (.seq (.region r123_28 [] (some ⟨[2], true, [], []⟩)) .ret) .skip))))) (.region r123_29 [] (some ⟨[0, 3], true, [], []⟩))))
noncomputable def c123_0_13 : MCode := c123_0_13g J123_0_0 J123_0_1
theorem g123_0_13 : c123_0_13.Good Try.prog E123_0 sh123 := ⟨⟨trivial, ⟨trivial, trivial⟩⟩, ⟨⟨trivial, ⟨⟨g123_0_22, m123_0_0, trivial⟩, ⟨⟨g123_0_24, m123_0_1, trivial⟩, ⟨⟨trivial, trivial⟩, trivial⟩⟩⟩⟩, trivial⟩⟩
--CODE 13 0
def S123_0_2g (vJ123_0_0 : TJ123_0_0) (vJ123_0_1 : TJ123_0_1) (α : Type) (x2 : ByteArray) (x3 : Int) (kn : Int → Option α) (k1 : Option α) (k2 : Int → Bool → Option α) : Option α :=
 cK (decide (x3 < ((ByteArray.size x2 : Nat) : Int)))
 (sixK x2 x3
 (fun (x5 : UInt8) => vJ123_0_0 α ((UInt8.toNat x5 : Nat) : Int)
 (fun (x10 : Bool) => vJ123_0_1 α x3 ((UInt8.toNat x5 : Nat) : Int) x10
 (fun (x17 : Bool) => cK x17
 (k1)
 (kn (w64 (x3 + 1)))))))
 (k2 x3 (decide (x3 < ((ByteArray.size x2 : Nat) : Int))))
noncomputable def S123_0_2 (α : Type) (x2 : ByteArray) (x3 : Int) (kn : Int → Option α) (k1 : Option α) (k2 : Int → Bool → Option α) : Option α := S123_0_2g J123_0_0 J123_0_1 α x2 x3 kn k1 k2
noncomputable def R123_0_2 (α : Type) (x2 : ByteArray) (k1 : Option α) (k2 : Int → Bool → Option α) : Nat → Int → Option α
 | 0, _ => none
 | n + 1, x3 => S123_0_2 α x2 x3 (R123_0_2 α x2 k1 k2 n) k1 k2
noncomputable def L123_0_2 (α : Type) (x2 : ByteArray) (k1 : Option α) (k2 : Int → Bool → Option α) (x3 : Int) : Option α := R123_0_2 α x2 k1 k2 fuel x3
abbrev TL123_0_2 : Type 1 := (α : Type) → ByteArray → (Option α) → (Int → Bool → Option α) → Int → Option α
def F123_0_2 (v : TL123_0_2) (α : Type) (K : Exit → St → Option α) : ByteArray → Int → Option α := fun x2 x3 => v α x2 (u123_0_4 (K .ret) false) (fun (y1 : Int) (y2 : Bool) => u123_0_5 (K (.exit 0)) x2 y1 y2) x3
theorem r123_0_2g  (vJ123_0_0 : TJ123_0_0) (vJ123_0_1 : TJ123_0_1) (α : Type) (K : Exit → St → Option α) (Kn : St → Option α) (x2 : ByteArray) (x3 : Int) : u123_0_3 (fun σ => runM Try.prog (E123_0g ) sh123 (c123_0_13g vJ123_0_0 vJ123_0_1) (thenK (fun σ => tidyK td123_13 σ Kn) K) σ) x2 x3 = S123_0_2g vJ123_0_0 vJ123_0_1 α x2 x3 (fun x3 => u123_0_3 Kn x2 x3) (u123_0_4 (K .ret) false) (fun (y1 : Int) (y2 : Bool) => u123_0_5 (K (.exit 0)) x2 y1 y2) := by kernel_rfl
theorem r123_0_2 (α : Type) (K : Exit → St → Option α) (Kn : St → Option α) (x2 : ByteArray) (x3 : Int) : u123_0_3 (fun σ => runM Try.prog E123_0 sh123 c123_0_13 (thenK (fun σ => tidyK td123_13 σ Kn) K) σ) x2 x3 = S123_0_2 α x2 x3 (fun x3 => u123_0_3 Kn x2 x3) (u123_0_4 (K .ret) false) (fun (y1 : Int) (y2 : Bool) => u123_0_5 (K (.exit 0)) x2 y1 y2) := r123_0_2g J123_0_0 J123_0_1 α K Kn x2 x3
theorem t123_0_2 (α : Type) (K : Exit → St → Option α) : ∀ (n : Nat) (x2 : ByteArray) (x3 : Int), R123_0_2 α x2 (u123_0_4 (K .ret) false) (fun (y1 : Int) (y2 : Bool) => u123_0_5 (K (.exit 0)) x2 y1 y2) n x3 = u123_0_3 (loopT (runM Try.prog E123_0 sh123 c123_0_13) td123_13 K n) x2 x3 := by
 intro n
 induction n with
 | zero => intros; rfl
 | succ n ih => intro x2 x3; exact (congrArg (fun kn => S123_0_2 α x2 x3 kn (u123_0_4 (K .ret) false) (fun (y1 : Int) (y2 : Bool) => u123_0_5 (K (.exit 0)) x2 y1 y2)) (funext fun x3 => ih x2 x3)).trans (r123_0_2 α K (loopT (runM Try.prog E123_0 sh123 c123_0_13) td123_13 K n) x2 x3).symm
theorem m123_0_2 : ∀ (α : Type) (K : Exit → St → Option α), F123_0_2 L123_0_2 α K = p123_0_3.unc fun σ => loopT (runM Try.prog E123_0 sh123 c123_0_13) td123_13 K fuel σ := fun α K => funext fun x2 => funext fun x3 => t123_0_2 α K fuel x2 x3

/-- etalon/etalonbase.IsName -/
abbrev Tf123_0 : Type 1 := (α : Type) → ByteArray → (Bool → Option α) → Option α
def f123_0g (vL123_0_2 : TL123_0_2) (α : Type) (x1 : ByteArray) (k1 : Bool → Option α) : Option α :=
 cK (decide (((ByteArray.size x1 : Nat) : Int) < 1))
 (k1 false)
 (cK (decide (12 < ((ByteArray.size x1 : Nat) : Int)))
 (k1 false)
 (vL123_0_2 α x1
 (k1 false)
 (fun (x19 : Int) (x20 : Bool) => k1 true) 0))
noncomputable def f123_0 (α : Type) (x1 : ByteArray) (k1 : Bool → Option α) : Option α := f123_0g L123_0_2 α x1 k1
def pa123_0 : PT (List DV) := pA [pV false [dS]]
def Fn123_0 (v : Tf123_0) (α : Type) (k : List RV → Option α) : ByteArray → Option α := fun x1 => v α x1 (fun (y1 : Bool) => ur123_0_0 k y1)
noncomputable def cm123_0g (vL123_0_2 : TL123_0_2) : MCode := (.seq (.region r123_2 [] (some ⟨[0], true, [], []⟩)) (.seq (.seq (.region r123_5 [] (some ⟨[0, 13], true, [], []⟩)) (.cond (.tmp 13) (.seq (.region r123_8 [] (some ⟨[2], true, [], []⟩)) .ret) .skip)) (.seq (.seq (.region r123_11 [] (some ⟨[0, 3], true, [], []⟩)) (.block 0 (.loop td123_13 [⟨p123_0_3, F123_0_2 vL123_0_2⟩] c123_0_13))) (.seq (.region r123_31 [] (some ⟨[2], true, [], []⟩)) .ret))))
noncomputable def cm123_0 : MCode := cm123_0g L123_0_2
theorem gm123_0 : cm123_0.Good Try.prog E123_0 sh123 := ⟨trivial, ⟨⟨trivial, ⟨⟨trivial, trivial⟩, trivial⟩⟩, ⟨⟨trivial, ⟨g123_0_13, m123_0_2, trivial⟩⟩, ⟨trivial, trivial⟩⟩⟩⟩
theorem fm123_0g  (vL123_0_2 : TL123_0_2) (α : Type) (k : List RV → Option α) : Fn123_0 (f123_0g vL123_0_2) α k = pa123_0.unc fun ds => fnM Try.prog (E123_0g ) sh123 (cm123_0g vL123_0_2) rs123 k ds := by kernel_rfl
theorem fm123_0 : ∀ (α : Type) (k : List RV → Option α), Fn123_0 f123_0 α k = pa123_0.unc fun ds => fnM Try.prog E123_0 sh123 cm123_0 rs123 k ds := fm123_0g L123_0_2

theorem is123 : FnIs Try.prog 123 nt123 tr123 tl123 cm123_0.erase rs123 := ⟨Try.f123, Try.func123, rfl, by kernel_rfl, by kernel_rfl, by kernel_rfl⟩
theorem io123_0 : InstOk Try.prog 123 nt123 ⟨pa123_0, Fn123_0 f123_0⟩ := inst_ok eo123_0 followsTry is123 ⟨⟨sh123, cm123_0, by kernel_rfl, gm123_0, fm123_0⟩⟩

/-! ### F88 etalon/meter.common -/
abbrev nt88 : Nat := 24
def sh88 : List (Nat × List Sh) := [(8, [.int .i64]), (10, [.int .i64]), (13, [.int .i64]), (15, [.int .i64]), (18, [.int .i64, .int .i64]), (20, [.int .i64]), (22, [.int .i64])]
def r88_2 : List AOper := [oO 2 (.box (.tmp 0)), oO 3 (.box (.tmp 1)), oO 4 (.alloc [(.d (.v (.int .i64 0))), (.d (.v (.int .i64 0)))]), oO 5 (.mv (.const (.bool false)))]
def r88_4 : List AOper := [oO 7 (.faddr 0 (.tmp 2)), oO 8 (.load false 1 (.tmp 7)), oO 9 (.faddr 0 (.tmp 3)), oO 10 (.load false 1 (.tmp 9)), oO 11 (.pure (oB (.call { callee := .builtin .max, args := #[(.tmp 8), (.tmp 10)], argTypes := #[3, 3] }) 3)), oO 12 (.faddr 1 (.tmp 2)), oO 13 (.load false 1 (.tmp 12)), oO 14 (.faddr 1 (.tmp 3)), oO 15 (.load false 1 (.tmp 14)), oO 16 (.pure (oB (.call { callee := .builtin .min, args := #[(.tmp 13), (.tmp 15)], argTypes := #[3, 3] }) 3)), oO 17 (.build [(.d (.v (.int .i64 0))), (.d (.v (.int .i64 0)))] [(0, 1, (.tmp 11)), (1, 1, (.tmp 16))]), oO 6 (.alloc [(.d (.v (.int .i64 0))), (.d (.v (.int .i64 0)))]), ⟨none, (.store 2 (.tmp 6) (.tmp 17)), none⟩]
def r88_6 : List AOper := [oO 18 (.load true 2 (.tmp 6)), oO 19 (.faddr 0 (.tmp 6)), oO 20 (.load false 1 (.tmp 19)), oO 21 (.faddr 1 (.tmp 6)), oO 22 (.load false 1 (.tmp 21)), oO 23 (.bin .leq 3 (.tmp 20) (.tmp 22)), ⟨none, (.store 2 (.tmp 4) (.tmp 18)), none⟩, oM 5 23]
def tr88 : List (Nat × Tidy) := [(0, ⟨[2, 3, 4], true, [], []⟩), (1, ⟨[4, 6], true, [], []⟩), (2, ⟨[4, 5], true, [], []⟩)]
def tl88 : List (Nat × Tidy) := []
def rs88 : List AResV := [.cell 4 true 2, .tmp 5]
def pr88_0_0 : PT (List RV) := pRs [pR true [rD (dI .i64), rD (dI .i64)], pR false [rD dB]]
def ur88_0_0 {β : Type} (g : List RV → β) : Int → Int → Bool → β := pr88_0_0.unc g

def E88_0g  : EnvK := EnvK.of [] noSeq
noncomputable def E88_0 : EnvK := E88_0g 
theorem eo88_0 : E88_0.Ok Try.prog := EnvK.of_ok noSeq_ok trivial

/-- etalon/meter.common -/
abbrev Tf88_0 : Type 1 := (α : Type) → Int → Int → Int → Int → (Int → Int → Bool → Option α) → Option α
def f88_0g  (α : Type) (x1 : Int) (x2 : Int) (x3 : Int) (x4 : Int) (k1 : Int → Int → Bool → Option α) : Option α :=
 k1 (if x3 > x1 then x3 else x1) (if x4 < x2 then x4 else x2) (decide ((if x3 > x1 then x3 else x1) ≤ (if x4 < x2 then x4 else x2)))
noncomputable def f88_0 (α : Type) (x1 : Int) (x2 : Int) (x3 : Int) (x4 : Int) (k1 : Int → Int → Bool → Option α) : Option α := f88_0g  α x1 x2 x3 x4 k1
def pa88_0 : PT (List DV) := pA [pV true [(dI .i64), (dI .i64)], pV true [(dI .i64), (dI .i64)]]
def Fn88_0 (v : Tf88_0) (α : Type) (k : List RV → Option α) : Int → Int → Int → Int → Option α := fun x1 x2 x3 x4 => v α x1 x2 x3 x4 (fun (y1 : Int) (y2 : Int) (y3 : Bool) => ur88_0_0 k y1 y2 y3)
noncomputable def cm88_0g  : MCode := (.seq (.region r88_2 [] (some ⟨[2, 3, 4], true, [], []⟩)) (.seq (.region r88_4 [] (some ⟨[4, 6], true, [], []⟩)) (.seq (.region r88_6 [(2, 6), (4, 6)] (some ⟨[4, 5], true, [], []⟩)) .ret)))
noncomputable def cm88_0 : MCode := cm88_0g 
theorem gm88_0 : cm88_0.Good Try.prog E88_0 sh88 := ⟨trivial, ⟨trivial, ⟨trivial, trivial⟩⟩⟩
theorem fm88_0g   (α : Type) (k : List RV → Option α) : Fn88_0 (f88_0g ) α k = pa88_0.unc fun ds => fnM Try.prog (E88_0g ) sh88 (cm88_0g ) rs88 k ds := by kernel_rfl
theorem fm88_0 : ∀ (α : Type) (k : List RV → Option α), Fn88_0 f88_0 α k = pa88_0.unc fun ds => fnM Try.prog E88_0 sh88 cm88_0 rs88 k ds := fm88_0g 

theorem is88 : FnIs Try.prog 88 nt88 tr88 tl88 cm88_0.erase rs88 := ⟨Try.f88, Try.func88, rfl, by kernel_rfl, by kernel_rfl, by kernel_rfl⟩
theorem io88_0 : InstOk Try.prog 88 nt88 ⟨pa88_0, Fn88_0 f88_0⟩ := inst_ok eo88_0 followsTry is88 ⟨⟨sh88, cm88_0, by kernel_rfl, gm88_0, fm88_0⟩⟩

/-! ### F120 etalon/etalonref06.cut -/
abbrev nt120 : Nat := 20
def sh120 : List (Nat × List Sh) := [(5, [.int .i64]), (9, [.int .i64]), (14, [.int .i64]), (17, [.int .i64])]
def r120_2 : List AOper := [oO 1 (.box (.tmp 0)), oO 2 (.alloc [(.d (.v (.int .i64 0))), (.d (.v (.int .i64 0)))]), oO 3 (.mv (.const (.int .i64 0)))]
def r120_5 : List AOper := [oO 4 (.faddr 0 (.tmp 1)), oO 5 (.load false 1 (.tmp 4)), oO 6 (.bin .gtr 3 (.tmp 5) (.const (.int .i64 1048576))), oM 7 6, ⟨(some 8), (.faddr 1 (.tmp 1)), (some (7, false))⟩, ⟨(some 9), (.load false 1 (.tmp 8)), (some (7, false))⟩, ⟨(some 10), (.bin .lss 3 (.tmp 9) (.const (.int .i64 (-1048576)))), (some (7, false))⟩, oO 11 (.pick (.tmp 7) (.const (.bool true)) (.tmp 10))]
def r120_8 : List AOper := [oO 12 (.build [(.d (.v (.int .i64 0))), (.d (.v (.int .i64 0)))] []), ⟨none, (.store 2 (.tmp 2) (.tmp 12)), none⟩, oO 3 (.mv (.const (.int .i64 24)))]
def r120_10 : List AOper := [oO 13 (.faddr 0 (.tmp 1)), oO 14 (.load false 1 (.tmp 13)), oO 15 (.pure (oB (.call { callee := .builtin .max, args := #[(.tmp 14), (.const (.int .i64 (-1048576)))], argTypes := #[3, 3] }) 3)), oO 16 (.faddr 1 (.tmp 1)), oO 17 (.load false 1 (.tmp 16)), oO 18 (.pure (oB (.call { callee := .builtin .min, args := #[(.tmp 17), (.const (.int .i64 1048576))], argTypes := #[3, 3] }) 3)), oO 19 (.build [(.d (.v (.int .i64 0))), (.d (.v (.int .i64 0)))] [(0, 1, (.tmp 15)), (1, 1, (.tmp 18))]), ⟨none, (.store 2 (.tmp 2) (.tmp 19)), none⟩, oO 3 (.mv (.const (.int .i64 0)))]
def tr120 : List (Nat × Tidy) := [(0, ⟨[1, 2], true, [], []⟩), (1, ⟨[1, 2, 11], true, [], []⟩), (2, ⟨[2, 3], true, [], []⟩), (3, ⟨[2, 3], true, [], []⟩)]
def tl120 : List (Nat × Tidy) := []
def rs120 : List AResV := [.cell 2 true 2, .tmp 3]
def pr120_0_0 : PT (List RV) := pRs [pR true [rD (dI .i64), rD (dI .i64)], pR false [rD (dI .i64)]]
def ur120_0_0 {β : Type} (g : List RV → β) : Int → Int → Int → β := pr120_0_0.unc g

def E120_0g  : EnvK := EnvK.of [] noSeq
noncomputable def E120_0 : EnvK := E120_0g 
theorem eo120_0 : E120_0.Ok Try.prog := EnvK.of_ok noSeq_ok trivial

/-- etalon/etalonref06.cut -/
abbrev Tf120_0 : Type 1 := (α : Type) → Int → Int → (Int → Int → Int → Option α) → Option α
def f120_0g  (α : Type) (x1 : Int) (x2 : Int) (k1 : Int → Int → Int → Option α) : Option α :=
 cK (decide (1048576 < x1))
 (k1 0 0 24)
 (cK (decide (x2 < (-1048576)))
 (k1 0 0 24)
 (k1 (if (-1048576) > x1 then (-1048576) else x1) (if 1048576 < x2 then 1048576 else x2) 0))
noncomputable def f120_0 (α : Type) (x1 : Int) (x2 : Int) (k1 : Int → Int → Int → Option α) : Option α := f120_0g  α x1 x2 k1
def pa120_0 : PT (List DV) := pA [pV true [(dI .i64), (dI .i64)]]
def Fn120_0 (v : Tf120_0) (α : Type) (k : List RV → Option α) : Int → Int → Option α := fun x1 x2 => v α x1 x2 (fun (y1 : Int) (y2 : Int) (y3 : Int) => ur120_0_0 k y1 y2 y3)
noncomputable def cm120_0g  : MCode := (.seq (.region r120_2 [] (some ⟨[1, 2], true, [], []⟩)) (.seq (.seq (.region r120_5 [] (some ⟨[1, 2, 11], true, [], []⟩)) (.cond (.tmp 11) (.seq (.region r120_8 [] (some ⟨[2, 3], true, [], []⟩)) .ret) .skip)) (.seq (.region r120_10 [] (some ⟨[2, 3], true, [], []⟩)) .ret)))
noncomputable def cm120_0 : MCode := cm120_0g 
theorem gm120_0 : cm120_0.Good Try.prog E120_0 sh120 := ⟨trivial, ⟨⟨trivial, ⟨⟨trivial, trivial⟩, trivial⟩⟩, ⟨trivial, trivial⟩⟩⟩
theorem fm120_0g   (α : Type) (k : List RV → Option α) : Fn120_0 (f120_0g ) α k = pa120_0.unc fun ds => fnM Try.prog (E120_0g ) sh120 (cm120_0g ) rs120 k ds := by kernel_rfl
theorem fm120_0 : ∀ (α : Type) (k : List RV → Option α), Fn120_0 f120_0 α k = pa120_0.unc fun ds => fnM Try.prog E120_0 sh120 cm120_0 rs120 k ds := fm120_0g 

theorem is120 : FnIs Try.prog 120 nt120 tr120 tl120 cm120_0.erase rs120 := ⟨Try.f120, Try.func120, rfl, by kernel_rfl, by kernel_rfl, by kernel_rfl⟩
theorem io120_0 : InstOk Try.prog 120 nt120 ⟨pa120_0, Fn120_0 f120_0⟩ := inst_ok eo120_0 followsTry is120 ⟨⟨sh120, cm120_0, by kernel_rfl, gm120_0, fm120_0⟩⟩

/-! ### F99 etalon/etalonbase.Floor -/
abbrev nt99 : Nat := 16
def sh99 : List (Nat × List Sh) := []
def r99_2 : List AOper := [oO 4 (.mv (.const (.int .i64 0)))]
def r99_4 : List AOper := [oM 6 0, oM 7 1, oO 8 (.bin .quo 3 (.tmp 6) (.tmp 7)), oM 5 8]
def r99_7 : List AOper := [oM 9 0, oM 10 1, oO 11 (.bin .rem 3 (.tmp 9) (.tmp 10)), oO 12 (.bin .lss 3 (.tmp 11) (.const (.int .i64 0)))]
def r99_9 : List AOper := [oM 13 5, oO 14 (.bin .sub 3 (.tmp 13) (.const (.int .i64 1))), oM 5 14]
def r99_11 : List AOper := [oM 15 5, oM 4 15]
def tr99 : List (Nat × Tidy) := [(0, ⟨[0, 1], true, [], []⟩), (1, ⟨[0, 1, 5], true, [], []⟩), (2, ⟨[5, 12], true, [], []⟩), (3, ⟨[5], true, [], []⟩), (4, ⟨[4], true, [], []⟩)]
def tl99 : List (Nat × Tidy) := []
def rs99 : List AResV := [.tmp 4]
def pr99_0_0 : PT (List RV) := pRs [pR false [rD (dI .i64)]]
def ur99_0_0 {β : Type} (g : List RV → β) : Int → β := pr99_0_0.unc g

def E99_0g  : EnvK := EnvK.of [] noSeq
noncomputable def E99_0 : EnvK := E99_0g 
theorem eo99_0 : E99_0.Ok Try.prog := EnvK.of_ok noSeq_ok trivial

/-- etalon/etalonbase.Floor -/
abbrev Tf99_0 : Type 1 := (α : Type) → Int → Int → (Int → Option α) → Option α
def f99_0g  (α : Type) (x1 : Int) (x2 : Int) (k1 : Int → Option α) : Option α :=
 gK (x2 != 0) (gK (x2 != 0) (cK (decide ((Int.tmod x1 x2) < 0))
 (k1 (w64 ((w64 (Int.tdiv x1 x2)) - 1)))
 (k1 (w64 (Int.tdiv x1 x2)))))
noncomputable def f99_0 (α : Type) (x1 : Int) (x2 : Int) (k1 : Int → Option α) : Option α := f99_0g  α x1 x2 k1
def pa99_0 : PT (List DV) := pA [pV false [(dI .i64)], pV false [(dI .i64)]]
def Fn99_0 (v : Tf99_0) (α : Type) (k : List RV → Option α) : Int → Int → Option α := fun x1 x2 => v α x1 x2 (fun (y1 : Int) => ur99_0_0 k y1)
noncomputable def cm99_0g  : MCode := (.seq (.region r99_2 [] (some ⟨[0, 1], true, [], []⟩)) (.seq (.region r99_4 [] (some ⟨[0, 1, 5], true, [], []⟩)) (.seq (.seq (.region r99_7 [] (some ⟨[5, 12], true, [], []⟩)) (.cond (.tmp 12) (.region r99_9 [] (some ⟨[5], true, [], []⟩)) .skip)) (.seq (.region r99_11 [] (some ⟨[4], true, [], []⟩)) .ret))))
noncomputable def cm99_0 : MCode := cm99_0g 
theorem gm99_0 : cm99_0.Good Try.prog E99_0 sh99 := ⟨trivial, ⟨trivial, ⟨⟨trivial, ⟨trivial, trivial⟩⟩, ⟨trivial, trivial⟩⟩⟩⟩
theorem fm99_0g   (α : Type) (k : List RV → Option α) : Fn99_0 (f99_0g ) α k = pa99_0.unc fun ds => fnM Try.prog (E99_0g ) sh99 (cm99_0g ) rs99 k ds := by kernel_rfl
theorem fm99_0 : ∀ (α : Type) (k : List RV → Option α), Fn99_0 f99_0 α k = pa99_0.unc fun ds => fnM Try.prog E99_0 sh99 cm99_0 rs99 k ds := fm99_0g 

theorem is99 : FnIs Try.prog 99 nt99 tr99 tl99 cm99_0.erase rs99 := ⟨Try.f99, Try.func99, rfl, by kernel_rfl, by kernel_rfl, by kernel_rfl⟩
theorem io99_0 : InstOk Try.prog 99 nt99 ⟨pa99_0, Fn99_0 f99_0⟩ := inst_ok eo99_0 followsTry is99 ⟨⟨sh99, cm99_0, by kernel_rfl, gm99_0, fm99_0⟩⟩

/-! ### F29 etalon/etalonbase.Within -/
abbrev nt29 : Nat := 15
def sh29 : List (Nat × List Sh) := []
def r29_2 : List AOper := [oO 6 (.mv (.const (.bool false)))]
def r29_4 : List AOper := [oM 7 1, oM 8 0, oO 9 (.bin .leq 3 (.tmp 7) (.tmp 8)), oM 10 9, ⟨(some 11), (.mv (.tmp 0)), (some (10, true))⟩, ⟨(some 12), (.mv (.tmp 2)), (some (10, true))⟩, ⟨(some 13), (.bin .leq 3 (.tmp 11) (.tmp 12)), (some (10, true))⟩, oO 14 (.pick (.tmp 10) (.tmp 13) (.const (.bool false))), oM 6 14]
def tr29 : List (Nat × Tidy) := [(0, ⟨[0, 1, 2], true, [], []⟩), (1, ⟨[6], true, [], []⟩)]
def tl29 : List (Nat × Tidy) := []
def rs29 : List AResV := [.tmp 6]
def pr29_0_0 : PT (List RV) := pRs [pR false [rD dB]]
def ur29_0_0 {β : Type} (g : List RV → β) : Bool → β := pr29_0_0.unc g

def E29_0g  : EnvK := EnvK.of [] noSeq
noncomputable def E29_0 : EnvK := E29_0g 
theorem eo29_0 : E29_0.Ok Try.prog := EnvK.of_ok noSeq_ok trivial

/-- etalon/etalonbase.Within -/
abbrev Tf29_0 : Type 1 := (α : Type) → Int → Int → Int → (Bool → Option α) → Option α
def f29_0g  (α : Type) (x1 : Int) (x2 : Int) (x3 : Int) (k1 : Bool → Option α) : Option α :=
 cK (decide (x2 ≤ x1))
 (k1 (decide (x1 ≤ x3)))
 (k1 false)
noncomputable def f29_0 (α : Type) (x1 : Int) (x2 : Int) (x3 : Int) (k1 : Bool → Option α) : Option α := f29_0g  α x1 x2 x3 k1
def pa29_0 : PT (List DV) := pA [pV false [(dI .i64)], pV false [(dI .i64)], pV false [(dI .i64)]]
def Fn29_0 (v : Tf29_0) (α : Type) (k : List RV → Option α) : Int → Int → Int → Option α := fun x1 x2 x3 => v α x1 x2 x3 (fun (y1 : Bool) => ur29_0_0 k y1)
noncomputable def cm29_0g  : MCode := (.seq (.region r29_2 [] (some ⟨[0, 1, 2], true, [], []⟩)) (.seq (.region r29_4 [] (some ⟨[6], true, [], []⟩)) .ret))
noncomputable def cm29_0 : MCode := cm29_0g 
theorem gm29_0 : cm29_0.Good Try.prog E29_0 sh29 := ⟨trivial, ⟨trivial, trivial⟩⟩
theorem fm29_0g   (α : Type) (k : List RV → Option α) : Fn29_0 (f29_0g ) α k = pa29_0.unc fun ds => fnM Try.prog (E29_0g ) sh29 (cm29_0g ) rs29 k ds := by kernel_rfl
theorem fm29_0 : ∀ (α : Type) (k : List RV → Option α), Fn29_0 f29_0 α k = pa29_0.unc fun ds => fnM Try.prog E29_0 sh29 cm29_0 rs29 k ds := fm29_0g 

theorem is29 : FnIs Try.prog 29 nt29 tr29 tl29 cm29_0.erase rs29 := ⟨Try.f29, Try.func29, rfl, by kernel_rfl, by kernel_rfl, by kernel_rfl⟩
theorem io29_0 : InstOk Try.prog 29 nt29 ⟨pa29_0, Fn29_0 f29_0⟩ := inst_ok eo29_0 followsTry is29 ⟨⟨sh29, cm29_0, by kernel_rfl, gm29_0, fm29_0⟩⟩

/-! ### F80 etalon/etalonref06.three -/
abbrev nt80 : Nat := 10
def sh80 : List (Nat × List Sh) := [(4, [.int .i64, .int .i64]), (6, [.int .i64, .int .i64]), (8, [.int .i64, .int .i64])]
def r80_2 : List AOper := [oO 1 (.box (.tmp 0)), oO 2 (.alloc [(.d (.v (.int .i64 0))), (.d (.v (.int .i64 0))), (.d (.v (.int .i64 0))), (.d (.v (.int .i64 0))), (.d (.v (.int .i64 0))), (.d (.v (.int .i64 0)))])]
def r80_4 : List AOper := [oO 3 (.faddr 0 (.tmp 1)), oO 4 (.load true 2 (.tmp 3)), oO 5 (.faddr 2 (.tmp 1)), oO 6 (.load true 2 (.tmp 5)), oO 7 (.faddr 4 (.tmp 1)), oO 8 (.load true 2 (.tmp 7)), oO 9 (.build [(.d (.v (.int .i64 0))), (.d (.v (.int .i64 0))), (.d (.v (.int .i64 0))), (.d (.v (.int .i64 0))), (.d (.v (.int .i64 0))), (.d (.v (.int .i64 0)))] [(0, 2, (.tmp 4)), (2, 2, (.tmp 6)), (4, 2, (.tmp 8))]), ⟨none, (.store 6 (.tmp 2) (.tmp 9)), none⟩]
def tr80 : List (Nat × Tidy) := [(0, ⟨[1, 2], true, [], []⟩), (1, ⟨[2], true, [], []⟩)]
def tl80 : List (Nat × Tidy) := []
def rs80 : List AResV := [.cell 2 true 6]
def pr80_0_0 : PT (List RV) := pRs [pR true [rD (dI .i64), rD (dI .i64), rD (dI .i64), rD (dI .i64), rD (dI .i64), rD (dI .i64)]]
def ur80_0_0 {β : Type} (g : List RV → β) : Int → Int → Int → Int → Int → Int → β := pr80_0_0.unc g

def E80_0g  : EnvK := EnvK.of [] noSeq
noncomputable def E80_0 : EnvK := E80_0g 
theorem eo80_0 : E80_0.Ok Try.prog := EnvK.of_ok noSeq_ok trivial

/-- etalon/etalonref06.three -/
abbrev Tf80_0 : Type 1 := (α : Type) → Int → Int → Int → Int → Int → Int → (Int → Int → Int → Int → Int → Int → Option α) → Option α
def f80_0g  (α : Type) (x1 : Int) (x2 : Int) (x3 : Int) (x4 : Int) (x5 : Int) (x6 : Int) (k1 : Int → Int → Int → Int → Int → Int → Option α) : Option α :=
 k1 x1 x2 x3 x4 x5 x6
noncomputable def f80_0 (α : Type) (x1 : Int) (x2 : Int) (x3 : Int) (x4 : Int) (x5 : Int) (x6 : Int) (k1 : Int → Int → Int → Int → Int → Int → Option α) : Option α := f80_0g  α x1 x2 x3 x4 x5 x6 k1
def pa80_0 : PT (List DV) := pA [pV true [(dI .i64), (dI .i64), (dI .i64), (dI .i64), (dI .i64), (dI .i64)]]
def Fn80_0 (v : Tf80_0) (α : Type) (k : List RV → Option α) : Int → Int → Int → Int → Int → Int → Option α := fun x1 x2 x3 x4 x5 x6 => v α x1 x2 x3 x4 x5 x6 (fun (y1 : Int) (y2 : Int) (y3 : Int) (y4 : Int) (y5 : Int) (y6 : Int) => ur80_0_0 k y1 y2 y3 y4 y5 y6)
noncomputable def cm80_0g  : MCode := (.seq (.region r80_2 [] (some ⟨[1, 2], true, [], []⟩)) (.seq (.region r80_4 [] (some ⟨[2], true, [], []⟩)) .ret))
noncomputable def cm80_0 : MCode := cm80_0g 
theorem gm80_0 : cm80_0.Good Try.prog E80_0 sh80 := ⟨trivial, ⟨trivial, trivial⟩⟩
theorem fm80_0g   (α : Type) (k : List RV → Option α) : Fn80_0 (f80_0g ) α k = pa80_0.unc fun ds => fnM Try.prog (E80_0g ) sh80 (cm80_0g ) rs80 k ds := by kernel_rfl
theorem fm80_0 : ∀ (α : Type) (k : List RV → Option α), Fn80_0 f80_0 α k = pa80_0.unc fun ds => fnM Try.prog E80_0 sh80 cm80_0 rs80 k ds := fm80_0g 

theorem is80 : FnIs Try.prog 80 nt80 tr80 tl80 cm80_0.erase rs80 := ⟨Try.f80, Try.func80, rfl, by kernel_rfl, by kernel_rfl, by kernel_rfl⟩
theorem io80_0 : InstOk Try.prog 80 nt80 ⟨pa80_0, Fn80_0 f80_0⟩ := inst_ok eo80_0 followsTry is80 ⟨⟨sh80, cm80_0, by kernel_rfl, gm80_0, fm80_0⟩⟩

/-! ### F77 etalon/meter.cut -/
abbrev nt77 : Nat := 20
def sh77 : List (Nat × List Sh) := [(5, [.int .i64]), (9, [.int .i64]), (14, [.int .i64]), (17, [.int .i64])]
def r77_2 : List AOper := [oO 1 (.box (.tmp 0)), oO 2 (.alloc [(.d (.v (.int .i64 0))), (.d (.v (.int .i64 0)))]), oO 3 (.mv (.const (.int .i64 0)))]
def r77_5 : List AOper := [oO 4 (.faddr 0 (.tmp 1)), oO 5 (.load false 1 (.tmp 4)), oO 6 (.bin .gtr 3 (.tmp 5) (.const (.int .i64 1048576))), oM 7 6, ⟨(some 8), (.faddr 1 (.tmp 1)), (some (7, false))⟩, ⟨(some 9), (.load false 1 (.tmp 8)), (some (7, false))⟩, ⟨(some 10), (.bin .lss 3 (.tmp 9) (.const (.int .i64 (-1048576)))), (some (7, false))⟩, oO 11 (.pick (.tmp 7) (.const (.bool true)) (.tmp 10))]
def r77_8 : List AOper := [oO 12 (.build [(.d (.v (.int .i64 0))), (.d (.v (.int .i64 0)))] []), ⟨none, (.store 2 (.tmp 2) (.tmp 12)), none⟩, oO 3 (.mv (.const (.int .i64 24)))]
def r77_10 : List AOper := [oO 13 (.faddr 0 (.tmp 1)), oO 14 (.load false 1 (.tmp 13)), oO 15 (.pure (oB (.call { callee := .builtin .max, args := #[(.tmp 14), (.const (.int .i64 (-1048576)))], argTypes := #[3, 3] }) 3)), oO 16 (.faddr 1 (.tmp 1)), oO 17 (.load false 1 (.tmp 16)), oO 18 (.pure (oB (.call { callee := .builtin .min, args := #[(.tmp 17), (.const (.int .i64 1048576))], argTypes := #[3, 3] }) 3)), oO 19 (.build [(.d (.v (.int .i64 0))), (.d (.v (.int .i64 0)))] [(0, 1, (.tmp 15)), (1, 1, (.tmp 18))]), ⟨none, (.store 2 (.tmp 2) (.tmp 19)), none⟩, oO 3 (.mv (.const (.int .i64 0)))]
def tr77 : List (Nat × Tidy) := [(0, ⟨[1, 2], true, [], []⟩), (1, ⟨[1, 2, 11], true, [], []⟩), (2, ⟨[2, 3], true, [], []⟩), (3, ⟨[2, 3], true, [], []⟩)]
def tl77 : List (Nat × Tidy) := []
def rs77 : List AResV := [.cell 2 true 2, .tmp 3]
def pr77_0_0 : PT (List RV) := pRs [pR true [rD (dI .i64), rD (dI .i64)], pR false [rD (dI .i64)]]
def ur77_0_0 {β : Type} (g : List RV → β) : Int → Int → Int → β := pr77_0_0.unc g

def E77_0g  : EnvK := EnvK.of [] noSeq
noncomputable def E77_0 : EnvK := E77_0g 
theorem eo77_0 : E77_0.Ok Try.prog := EnvK.of_ok noSeq_ok trivial

/-- etalon/meter.cut -/
abbrev Tf77_0 : Type 1 := (α : Type) → Int → Int → (Int → Int → Int → Option α) → Option α
def f77_0g  (α : Type) (x1 : Int) (x2 : Int) (k1 : Int → Int → Int → Option α) : Option α :=
 cK (decide (1048576 < x1))
 (k1 0 0 24)
 (cK (decide (x2 < (-1048576)))
 (k1 0 0 24)
 (k1 (if (-1048576) > x1 then (-1048576) else x1) (if 1048576 < x2 then 1048576 else x2) 0))
noncomputable def f77_0 (α : Type) (x1 : Int) (x2 : Int) (k1 : Int → Int → Int → Option α) : Option α := f77_0g  α x1 x2 k1
def pa77_0 : PT (List DV) := pA [pV true [(dI .i64), (dI .i64)]]
def Fn77_0 (v : Tf77_0) (α : Type) (k : List RV → Option α) : Int → Int → Option α := fun x1 x2 => v α x1 x2 (fun (y1 : Int) (y2 : Int) (y3 : Int) => ur77_0_0 k y1 y2 y3)
noncomputable def cm77_0g  : MCode := (.seq (.region r77_2 [] (some ⟨[1, 2], true, [], []⟩)) (.seq (.seq (.region r77_5 [] (some ⟨[1, 2, 11], true, [], []⟩)) (.cond (.tmp 11) (.seq (.region r77_8 [] (some ⟨[2, 3], true, [], []⟩)) .ret) .skip)) (.seq (.region r77_10 [] (some ⟨[2, 3], true, [], []⟩)) .ret)))
noncomputable def cm77_0 : MCode := cm77_0g 
theorem gm77_0 : cm77_0.Good Try.prog E77_0 sh77 := ⟨trivial, ⟨⟨trivial, ⟨⟨trivial, trivial⟩, trivial⟩⟩, ⟨trivial, trivial⟩⟩⟩
theorem fm77_0g   (α : Type) (k : List RV → Option α) : Fn77_0 (f77_0g ) α k = pa77_0.unc fun ds => fnM Try.prog (E77_0g ) sh77 (cm77_0g ) rs77 k ds := by kernel_rfl
theorem fm77_0 : ∀ (α : Type) (k : List RV → Option α), Fn77_0 f77_0 α k = pa77_0.unc fun ds => fnM Try.prog E77_0 sh77 cm77_0 rs77 k ds := fm77_0g 

theorem is77 : FnIs Try.prog 77 nt77 tr77 tl77 cm77_0.erase rs77 := ⟨Try.f77, Try.func77, rfl, by kernel_rfl, by kernel_rfl, by kernel_rfl⟩
theorem io77_0 : InstOk Try.prog 77 nt77 ⟨pa77_0, Fn77_0 f77_0⟩ := inst_ok eo77_0 followsTry is77 ⟨⟨sh77, cm77_0, by kernel_rfl, gm77_0, fm77_0⟩⟩

/-! ### F78 etalon/meter.floor -/
abbrev nt78 : Nat := 23
def sh78 : List (Nat × List Sh) := []
def r78_2 : List AOper := [oO 4 (.mv (.const (.int .i64 0)))]
def r78_4 : List AOper := [oM 6 0, oM 7 1, oO 8 (.bin .quo 3 (.tmp 6) (.tmp 7)), oM 5 8]
def r78_7 : List AOper := [oM 9 0, oM 10 1, oO 11 (.bin .rem 3 (.tmp 9) (.tmp 10)), oO 12 (.bin .neq 3 (.tmp 11) (.const (.int .i64 0))), oM 13 12, ⟨(some 14), (.mv (.tmp 0)), (some (13, true))⟩, ⟨(some 15), (.bin .lss 3 (.tmp 14) (.const (.int .i64 0))), (some (13, true))⟩, ⟨(some 16), (.mv (.tmp 1)), (some (13, true))⟩, ⟨(some 17), (.bin .lss 3 (.tmp 16) (.const (.int .i64 0))), (some (13, true))⟩, ⟨(some 18), (.bin .neq 4 (.tmp 15) (.tmp 17)), (some (13, true))⟩, oO 19 (.pick (.tmp 13) (.tmp 18) (.const (.bool false)))]
def r78_9 : List AOper := [oM 20 5, oO 21 (.bin .sub 3 (.tmp 20) (.const (.int .i64 1))), oM 5 21]
def r78_11 : List AOper := [oM 22 5, oM 4 22]
def tr78 : List (Nat × Tidy) := [(0, ⟨[0, 1], true, [], []⟩), (1, ⟨[0, 1, 5], true, [], []⟩), (2, ⟨[5, 19], true, [], []⟩), (3, ⟨[5], true, [], []⟩), (4, ⟨[4], true, [], []⟩)]
def tl78 : List (Nat × Tidy) := []
def rs78 : List AResV := [.tmp 4]
def pr78_0_0 : PT (List RV) := pRs [pR false [rD (dI .i64)]]
def ur78_0_0 {β : Type} (g : List RV → β) : Int → β := pr78_0_0.unc g

def E78_0g  : EnvK := EnvK.of [] noSeq
noncomputable def E78_0 : EnvK := E78_0g 
theorem eo78_0 : E78_0.Ok Try.prog := EnvK.of_ok noSeq_ok trivial

/-- etalon/meter.floor -/
abbrev Tf78_0 : Type 1 := (α : Type) → Int → Int → (Int → Option α) → Option α
def f78_0g  (α : Type) (x1 : Int) (x2 : Int) (k1 : Int → Option α) : Option α :=
 gK (x2 != 0) (gK (x2 != 0) (cK ((Int.tmod x1 x2) != 0)
 (cK (!((decide (x1 < 0)) == (decide (x2 < 0))))
 (k1 (w64 ((w64 (Int.tdiv x1 x2)) - 1)))
 (k1 (w64 (Int.tdiv x1 x2))))
 (k1 (w64 (Int.tdiv x1 x2)))))
noncomputable def f78_0 (α : Type) (x1 : Int) (x2 : Int) (k1 : Int → Option α) : Option α := f78_0g  α x1 x2 k1
def pa78_0 : PT (List DV) := pA [pV false [(dI .i64)], pV false [(dI .i64)]]
def Fn78_0 (v : Tf78_0) (α : Type) (k : List RV → Option α) : Int → Int → Option α := fun x1 x2 => v α x1 x2 (fun (y1 : Int) => ur78_0_0 k y1)
noncomputable def cm78_0g  : MCode := (.seq (.region r78_2 [] (some ⟨[0, 1], true, [], []⟩)) (.seq (.region r78_4 [] (some ⟨[0, 1, 5], true, [], []⟩)) (.seq (.seq (.region r78_7 [] (some ⟨[5, 19], true, [], []⟩)) (.cond (.tmp 19) (.region r78_9 [] (some ⟨[5], true, [], []⟩)) .skip)) (.seq (.region r78_11 [] (some ⟨[4], true, [], []⟩)) .ret))))
noncomputable def cm78_0 : MCode := cm78_0g 
theorem gm78_0 : cm78_0.Good Try.prog E78_0 sh78 := ⟨trivial, ⟨trivial, ⟨⟨trivial, ⟨trivial, trivial⟩⟩, ⟨trivial, trivial⟩⟩⟩⟩
theorem fm78_0g   (α : Type) (k : List RV → Option α) : Fn78_0 (f78_0g ) α k = pa78_0.unc fun ds => fnM Try.prog (E78_0g ) sh78 (cm78_0g ) rs78 k ds := by kernel_rfl
theorem fm78_0 : ∀ (α : Type) (k : List RV → Option α), Fn78_0 f78_0 α k = pa78_0.unc fun ds => fnM Try.prog E78_0 sh78 cm78_0 rs78 k ds := fm78_0g 

theorem is78 : FnIs Try.prog 78 nt78 tr78 tl78 cm78_0.erase rs78 := ⟨Try.f78, Try.func78, rfl, by kernel_rfl, by kernel_rfl, by kernel_rfl⟩
theorem io78_0 : InstOk Try.prog 78 nt78 ⟨pa78_0, Fn78_0 f78_0⟩ := inst_ok eo78_0 followsTry is78 ⟨⟨sh78, cm78_0, by kernel_rfl, gm78_0, fm78_0⟩⟩

/-! ### F98 etalon/meter.within -/
abbrev nt98 : Nat := 15
def sh98 : List (Nat × List Sh) := []
def r98_2 : List AOper := [oO 6 (.mv (.const (.bool false)))]
def r98_4 : List AOper := [oM 7 1, oM 8 0, oO 9 (.bin .leq 3 (.tmp 7) (.tmp 8)), oM 10 9, ⟨(some 11), (.mv (.tmp 0)), (some (10, true))⟩, ⟨(some 12), (.mv (.tmp 2)), (some (10, true))⟩, ⟨(some 13), (.bin .leq 3 (.tmp 11) (.tmp 12)), (some (10, true))⟩, oO 14 (.pick (.tmp 10) (.tmp 13) (.const (.bool false))), oM 6 14]
def tr98 : List (Nat × Tidy) := [(0, ⟨[0, 1, 2], true, [], []⟩), (1, ⟨[6], true, [], []⟩)]
def tl98 : List (Nat × Tidy) := []
def rs98 : List AResV := [.tmp 6]
def pr98_0_0 : PT (List RV) := pRs [pR false [rD dB]]
def ur98_0_0 {β : Type} (g : List RV → β) : Bool → β := pr98_0_0.unc g

def E98_0g  : EnvK := EnvK.of [] noSeq
noncomputable def E98_0 : EnvK := E98_0g 
theorem eo98_0 : E98_0.Ok Try.prog := EnvK.of_ok noSeq_ok trivial

/-- etalon/meter.within -/
abbrev Tf98_0 : Type 1 := (α : Type) → Int → Int → Int → (Bool → Option α) → Option α
def f98_0g  (α : Type) (x1 : Int) (x2 : Int) (x3 : Int) (k1 : Bool → Option α) : Option α :=
 cK (decide (x2 ≤ x1))
 (k1 (decide (x1 ≤ x3)))
 (k1 false)
noncomputable def f98_0 (α : Type) (x1 : Int) (x2 : Int) (x3 : Int) (k1 : Bool → Option α) : Option α := f98_0g  α x1 x2 x3 k1
def pa98_0 : PT (List DV) := pA [pV false [(dI .i64)], pV false [(dI .i64)], pV false [(dI .i64)]]
def Fn98_0 (v : Tf98_0) (α : Type) (k : List RV → Option α) : Int → Int → Int → Option α := fun x1 x2 x3 => v α x1 x2 x3 (fun (y1 : Bool) => ur98_0_0 k y1)
noncomputable def cm98_0g  : MCode := (.seq (.region r98_2 [] (some ⟨[0, 1, 2], true, [], []⟩)) (.seq (.region r98_4 [] (some ⟨[6], true, [], []⟩)) .ret))
noncomputable def cm98_0 : MCode := cm98_0g 
theorem gm98_0 : cm98_0.Good Try.prog E98_0 sh98 := ⟨trivial, ⟨trivial, trivial⟩⟩
theorem fm98_0g   (α : Type) (k : List RV → Option α) : Fn98_0 (f98_0g ) α k = pa98_0.unc fun ds => fnM Try.prog (E98_0g ) sh98 (cm98_0g ) rs98 k ds := by kernel_rfl
theorem fm98_0 : ∀ (α : Type) (k : List RV → Option α), Fn98_0 f98_0 α k = pa98_0.unc fun ds => fnM Try.prog E98_0 sh98 cm98_0 rs98 k ds := fm98_0g 

theorem is98 : FnIs Try.prog 98 nt98 tr98 tl98 cm98_0.erase rs98 := ⟨Try.f98, Try.func98, rfl, by kernel_rfl, by kernel_rfl, by kernel_rfl⟩
theorem io98_0 : InstOk Try.prog 98 nt98 ⟨pa98_0, Fn98_0 f98_0⟩ := inst_ok eo98_0 followsTry is98 ⟨⟨sh98, cm98_0, by kernel_rfl, gm98_0, fm98_0⟩⟩

/-! ### F121 etalon/meter.isName -/
abbrev nt121 : Nat := 54
def sh121 : List (Nat × List Sh) := [(12, [.int .u8]), (13, [.int .u8])]
def r121_2 : List AOper := [oO 2 (.mv (.const (.bool false)))]
def r121_5 : List AOper := [oM 6 0, oO 7 (.bytes (.tmp 6)), oO 8 (.len (.tmp 7)), oO 9 (.mv (.const (.int .i64 0)))]
def td121_7 : Option Tidy := (some ⟨[0, 7, 8, 9], true, [⟨false, 7, 0, 20007, 1⟩], []⟩)
def r121_9 : List AOper := [oO 10 (.bin .lss 3 (.tmp 9) (.tmp 8))]
def r121_15 : List AOper := [oM 11 9, oO 12 (.iaddr 1 none (.tmp 7) (.tmp 9)), oO 13 (.load false 1 (.tmp 12)), oM 3 11, oM 4 13]
def r121_17 : List AOper := [oM 14 4, oO 15 (.bin .geq 5 (.tmp 14) (.const (.int .u8 97))), oM 16 15, ⟨(some 17), (.mv (.tmp 4)), (some (16, true))⟩, ⟨(some 18), (.bin .leq 5 (.tmp 17) (.const (.int .u8 122))), (some (16, true))⟩, oO 19 (.pick (.tmp 16) (.tmp 18) (.const (.bool false))), oM 20 19, ⟨(some 21), (.mv (.tmp 4)), (some (20, false))⟩, ⟨(some 22), (.bin .geq 5 (.tmp 21) (.const (.int .u8 65))), (some (20, false))⟩, ⟨(some 23), (.mv (.tmp 22)), (some (20, false))⟩, ⟨(some 24), (.mv (.tmp 4)), (some (23, true))⟩, ⟨(some 25), (.bin .leq 5 (.tmp 24) (.const (.int .u8 90))), (some (23, true))⟩, ⟨(some 26), (.pick (.tmp 23) (.tmp 25) (.const (.bool false))), (some (20, false))⟩, oO 27 (.pick (.tmp 20) (.const (.bool true)) (.tmp 26)), oM 5 27]
def r121_19 : List AOper := [oM 28 5, oO 29 (.pure (oB (.unOp .not 4 (.tmp 28)) 4)), oM 30 29, ⟨(some 31), (.mv (.tmp 3)), (some (30, true))⟩, ⟨(some 32), (.bin .eql 3 (.tmp 31) (.const (.int .i64 0))), (some (30, true))⟩, ⟨(some 33), (.mv (.tmp 32)), (some (30, true))⟩, ⟨(some 34), (.mv (.tmp 4)), (some (33, false))⟩, ⟨(some 35), (.bin .neq 5 (.tmp 34) (.const (.int .u8 45))), (some (33, false))⟩, ⟨(some 36), (.mv (.tmp 35)), (some (33, false))⟩, ⟨(some 37), (.mv (.tmp 4)), (some (36, true))⟩, ⟨(some 38), (.bin .lss 5 (.tmp 37) (.const (.int .u8 48))), (some (36, true))⟩, ⟨(some 39), (.mv (.tmp 38)), (some (36, true))⟩, ⟨(some 40), (.mv (.tmp 4)), (some (39, false))⟩, ⟨(some 41), (.bin .gtr 5 (.tmp 40) (.const (.int .u8 57))), (some (39, false))⟩, ⟨(some 42), (.pick (.tmp 39) (.const (.bool true)) (.tmp 41)), (some (36, true))⟩, ⟨(some 43), (.pick (.tmp 36) (.tmp 42) (.const (.bool false))), (some (33, false))⟩, ⟨(some 44), (.pick (.tmp 33) (.const (.bool true)) (.tmp 43)), (some (30, true))⟩, oO 45 (.pick (.tmp 30) (.tmp 44) (.const (.bool false)))]
def r121_22 : List AOper := [oO 2 (.mv (.const (.bool false)))]
def r121_23 : List AOper := [oO 46 (.bin .add 3 (.tmp 9) (.const (.int .i64 1))), oM 9 46]
def r121_25 : List AOper := [oM 47 0, ⟨(some 48), (.bin .neq 9 (.tmp 47) (.const (.string ⟨#[]⟩))), none⟩, oM 49 48, ⟨(some 50), (.mv (.tmp 0)), (some (49, true))⟩, ⟨(some 51), (.pure (oB (.call { callee := .builtin .len, args := #[(.tmp 50)], argTypes := #[9] }) 3)), (some (49, true))⟩, ⟨(some 52), (.bin .leq 3 (.tmp 51) (.const (.int .i64 12))), (some (49, true))⟩, oO 53 (.pick (.tmp 49) (.tmp 52) (.const (.bool false))), oM 2 53]
def tr121 : List (Nat × Tidy) := [(0, ⟨[0], true, [], []⟩), (1, ⟨[0, 7, 8, 9], true, [], []⟩), (2, ⟨[0, 7, 8, 9, 10], true, [], []⟩), (3, ⟨[0, 3, 4, 7, 8, 9], true, [], []⟩), (4, ⟨[0, 3, 4, 5, 7, 8, 9], true, [], []⟩), (5, ⟨[0, 7, 8, 9, 45], true, [], []⟩), (6, ⟨[2], true, [], []⟩), (7, ⟨[0, 7, 8, 9], true, [], []⟩), (8, ⟨[2], true, [], []⟩)]
def tl121 : List (Nat × Tidy) := [(2, ⟨[0, 7, 8, 9], true, [⟨false, 7, 0, 20007, 1⟩], []⟩)]
def rs121 : List AResV := [.tmp 2]
def p121_0_0 : PT St := pS [sl 0 (aV false [(cD dS)]), sl 3 (aV false [(cD (dI .i64))]), sl 4 (aV false [(cD (dI .u8))]), sl 7 (aV false [(cRef 20007)]), sl 8 (aV false [(cD (dI .i64))]), sl 9 (aV false [(cD (dI .i64))])] [eOwn 20007 1]
def u121_0_0 {β : Type} (g : St → β) : ByteArray → Int → Int → Int → Int → Rows → β := p121_0_0.unc g

def p121_0_1 : PT St := pS [sl 0 (aV false [(cD dS)]), sl 3 (aV false [(cD (dI .i64))]), sl 4 (aV false [(cD (dI .u8))]), sl 5 (aV false [(cD dB)]), sl 7 (aV false [(cRef 20007)]), sl 8 (aV false [(cD (dI .i64))]), sl 9 (aV false [(cD (dI .i64))])] [eOwn 20007 1]
def u121_0_1 {β : Type} (g : St → β) : ByteArray → Int → Int → Bool → Int → Int → Rows → β := p121_0_1.unc g

def p121_0_2 : PT St := pS [sl 0 (aV false [(cD dS)]), sl 7 (aV false [(cRef 20007)]), sl 8 (aV false [(cD (dI .i64))]), sl 9 (aV false [(cD (dI .i64))]), sl 45 (aV false [(cD dB)])] [eOwn 20007 1]
def u121_0_2 {β : Type} (g : St → β) : ByteArray → Int → Int → Bool → Rows → β := p121_0_2.unc g

def p121_0_3 : PT St := pS [sl 0 (aV false [(cD dS)]), sl 7 (aV false [(cRef 20007)]), sl 8 (aV false [(cD (dI .i64))]), sl 9 (aV false [(cD (dI .i64))])] [eOwn 20007 1]
def u121_0_3 {β : Type} (g : St → β) : ByteArray → Int → Int → Rows → β := p121_0_3.unc g

def p121_0_4 : PT St := pS [sl 2 (aV false [(cD dB)])] []
def u121_0_4 {β : Type} (g : St → β) : Bool → β := p121_0_4.unc g

def p121_0_5 : PT St := pS [sl 0 (aV false [(cD dS)]), sl 7 (aV false [(cRef 20007)]), sl 8 (aV false [(cD (dI .i64))]), sl 9 (aV false [(cD (dI .i64))]), sl 10 (aV false [(cD dB)])] [eOwn 20007 1]
def u121_0_5 {β : Type} (g : St → β) : ByteArray → Int → Int → Bool → Rows → β := p121_0_5.unc g

def pr121_0_0 : PT (List RV) := pRs [pR false [rD dB]]
def ur121_0_0 {β : Type} (g : List RV → β) : Bool → β := pr121_0_0.unc g

def E121_0g  : EnvK := EnvK.of [] noSeq
noncomputable def E121_0 : EnvK := E121_0g 
theorem eo121_0 : E121_0.Ok Try.prog := EnvK.of_ok noSeq_ok trivial

noncomputable def c121_0_18g  : MCode := (.region r121_19 [] (some ⟨[0, 7, 8, 9, 45], true, [], []⟩))
noncomputable def c121_0_18 : MCode := c121_0_18g 
theorem g121_0_18 : c121_0_18.Good Try.prog E121_0 sh121 := trivial
--CODE 18 0
abbrev TJ121_0_1 : Type 1 := (α : Type) → Int → Int → Bool → (Bool → Option α) → Option α
def J121_0_1g  (α : Type) (x18 : Int) (x19 : Int) (x20 : Bool) (k1 : Bool → Option α) : Option α :=
 cK (!x20)
 (cK (x18 == 0)
 (k1 true)
 (cK (x19 != 45)
 (cK (decide (x19 < 48))
 (k1 true)
 (k1 (decide (57 < x19))))
 (k1 false)))
 (k1 false)
noncomputable def J121_0_1 (α : Type) (x18 : Int) (x19 : Int) (x20 : Bool) (k1 : Bool → Option α) : Option α := J121_0_1g  α x18 x19 x20 k1
def F121_0_1 (v : TJ121_0_1) (α : Type) (K : Exit → St → Option α) : ByteArray → Int → Int → Bool → Int → Int → Rows → Option α := fun x17 x18 x19 x20 x21 x22 x23 => v α x18 x19 x20 (fun (y1 : Bool) => u121_0_2 (K .normal) x17 x21 x22 y1 x23) 
theorem m121_0_1g   (α : Type) (K : Exit → St → Option α) : F121_0_1 (J121_0_1g ) α K = p121_0_1.unc fun σ => runM Try.prog (E121_0g ) sh121 (c121_0_18g ) K σ := by kernel_rfl
theorem m121_0_1 : ∀ (α : Type) (K : Exit → St → Option α), F121_0_1 J121_0_1 α K = p121_0_1.unc fun σ => runM Try.prog E121_0 sh121 c121_0_18 K σ := m121_0_1g 

noncomputable def c121_0_16g  : MCode := (.region r121_17 [] (some ⟨[0, 3, 4, 5, 7, 8, 9], true, [], []⟩))
noncomputable def c121_0_16 : MCode := c121_0_16g 
theorem g121_0_16 : c121_0_16.Good Try.prog E121_0 sh121 := trivial
--CODE 16 0
abbrev TJ121_0_0 : Type 1 := (α : Type) → Int → (Bool → Option α) → Option α
def J121_0_0g  (α : Type) (x10 : Int) (k1 : Bool → Option α) : Option α :=
 cK (decide (97 ≤ x10))
 (cK (decide (x10 ≤ 122))
 (k1 true)
 (cK (decide (65 ≤ x10))
 (k1 (decide (x10 ≤ 90)))
 (k1 false)))
 (cK (decide (65 ≤ x10))
 (k1 (decide (x10 ≤ 90)))
 (k1 false))
noncomputable def J121_0_0 (α : Type) (x10 : Int) (k1 : Bool → Option α) : Option α := J121_0_0g  α x10 k1
def F121_0_0 (v : TJ121_0_0) (α : Type) (K : Exit → St → Option α) : ByteArray → Int → Int → Int → Int → Rows → Option α := fun x8 x9 x10 x11 x12 x13 => v α x10 (fun (y1 : Bool) => u121_0_1 (K .normal) x8 x9 x10 y1 x11 x12 x13) 
theorem m121_0_0g   (α : Type) (K : Exit → St → Option α) : F121_0_0 (J121_0_0g ) α K = p121_0_0.unc fun σ => runM Try.prog (E121_0g ) sh121 (c121_0_16g ) K σ := by kernel_rfl
theorem m121_0_0 : ∀ (α : Type) (K : Exit → St → Option α), F121_0_0 J121_0_0 α K = p121_0_0.unc fun σ => runM Try.prog E121_0 sh121 c121_0_16 K σ := m121_0_0g 

noncomputable def c121_0_7g (vJ121_0_0 : TJ121_0_0) (vJ121_0_1 : TJ121_0_1) : MCode := (.seq (.region r121_9 [] (some ⟨[0, 7, 8, 9, 10], true, [], []⟩)) (.seq (.cond (.tmp 10) .skip (.exit 0)) (.seq (.block 1 (.seq (.region r121_15 [] (some ⟨[0, 3, 4, 7, 8, 9], true, [], []⟩)) (.seq (.mark [⟨p121_0_0, F121_0_0 vJ121_0_0⟩] c121_0_16) (.seq (.mark [⟨p121_0_1, F121_0_1 vJ121_0_1⟩] c121_0_18) (.cond (.tmp 45) (.seq (.region r121_22 [] (some ⟨[2], true, [], []⟩)) .ret) .skip))))) (.region r121_23 [] (some ⟨[0, 7, 8, 9], true, [], []⟩)))))
noncomputable def c121_0_7 : MCode := c121_0_7g J121_0_0 J121_0_1
theorem g121_0_7 : c121_0_7.Good Try.prog E121_0 sh121 := ⟨trivial, ⟨⟨trivial, trivial⟩, ⟨⟨trivial, ⟨⟨g121_0_16, m121_0_0, trivial⟩, ⟨⟨g121_0_18, m121_0_1, trivial⟩, ⟨⟨trivial, trivial⟩, trivial⟩⟩⟩⟩, trivial⟩⟩⟩
--CODE 7 0
def S121_0_2g (vJ121_0_0 : TJ121_0_0) (vJ121_0_1 : TJ121_0_1) (α : Type) (x3 : Int) (x5 : Rows) (x4 : Int) (kn : Int → Option α) (k1 : Option α) (k2 : Int → Bool → Option α) : Option α :=
 cK (decide (x4 < x3))
 (ixK x5 x4 1
 (ldK x5 (Int.toNat x4) 0 [.int .u8]
 (fun (x7 : Int) => vJ121_0_0 α x7
 (fun (x15 : Bool) => vJ121_0_1 α x4 x7 x15
 (fun (x25 : Bool) => cK x25
 (k1)
 (kn (w64 (x4 + 1))))))))
 (k2 x4 (decide (x4 < x3)))
noncomputable def S121_0_2 (α : Type) (x3 : Int) (x5 : Rows) (x4 : Int) (kn : Int → Option α) (k1 : Option α) (k2 : Int → Bool → Option α) : Option α := S121_0_2g J121_0_0 J121_0_1 α x3 x5 x4 kn k1 k2
noncomputable def R121_0_2 (α : Type) (x3 : Int) (x5 : Rows) (k1 : Option α) (k2 : Int → Bool → Option α) : Nat → Int → Option α
 | 0, _ => none
 | n + 1, x4 => S121_0_2 α x3 x5 x4 (R121_0_2 α x3 x5 k1 k2 n) k1 k2
noncomputable def L121_0_2 (α : Type) (x3 : Int) (x5 : Rows) (k1 : Option α) (k2 : Int → Bool → Option α) (x4 : Int) : Option α := R121_0_2 α x3 x5 k1 k2 fuel x4
abbrev TL121_0_2 : Type 1 := (α : Type) → Int → Rows → (Option α) → (Int → Bool → Option α) → Int → Option α
def F121_0_2 (v : TL121_0_2) (α : Type) (K : Exit → St → Option α) : ByteArray → Int → Int → Rows → Option α := fun x2 x3 x4 x5 => v α x3 x5 (u121_0_4 (K .ret) false) (fun (y1 : Int) (y2 : Bool) => u121_0_5 (K (.exit 0)) x2 x3 y1 y2 x5) x4
theorem r121_0_2g  (vJ121_0_0 : TJ121_0_0) (vJ121_0_1 : TJ121_0_1) (α : Type) (K : Exit → St → Option α) (Kn : St → Option α) (x2 : ByteArray) (x3 : Int) (x4 : Int) (x5 : Rows) : u121_0_3 (fun σ => runM Try.prog (E121_0g ) sh121 (c121_0_7g vJ121_0_0 vJ121_0_1) (thenK (fun σ => tidyK td121_7 σ Kn) K) σ) x2 x3 x4 x5 = S121_0_2g vJ121_0_0 vJ121_0_1 α x3 x5 x4 (fun x4 => u121_0_3 Kn x2 x3 x4 x5) (u121_0_4 (K .ret) false) (fun (y1 : Int) (y2 : Bool) => u121_0_5 (K (.exit 0)) x2 x3 y1 y2 x5) := by kernel_rfl
theorem r121_0_2 (α : Type) (K : Exit → St → Option α) (Kn : St → Option α) (x2 : ByteArray) (x3 : Int) (x4 : Int) (x5 : Rows) : u121_0_3 (fun σ => runM Try.prog E121_0 sh121 c121_0_7 (thenK (fun σ => tidyK td121_7 σ Kn) K) σ) x2 x3 x4 x5 = S121_0_2 α x3 x5 x4 (fun x4 => u121_0_3 Kn x2 x3 x4 x5) (u121_0_4 (K .ret) false) (fun (y1 : Int) (y2 : Bool) => u121_0_5 (K (.exit 0)) x2 x3 y1 y2 x5) := r121_0_2g J121_0_0 J121_0_1 α K Kn x2 x3 x4 x5
theorem t121_0_2 (α : Type) (K : Exit → St → Option α) : ∀ (n : Nat) (x2 : ByteArray) (x3 : Int) (x4 : Int) (x5 : Rows), R121_0_2 α x3 x5 (u121_0_4 (K .ret) false) (fun (y1 : Int) (y2 : Bool) => u121_0_5 (K (.exit 0)) x2 x3 y1 y2 x5) n x4 = u121_0_3 (loopT (runM Try.prog E121_0 sh121 c121_0_7) td121_7 K n) x2 x3 x4 x5 := by
 intro n
 induction n with
 | zero => intros; rfl
 | succ n ih => intro x2 x3 x4 x5; exact (congrArg (fun kn => S121_0_2 α x3 x5 x4 kn (u121_0_4 (K .ret) false) (fun (y1 : Int) (y2 : Bool) => u121_0_5 (K (.exit 0)) x2 x3 y1 y2 x5)) (funext fun x4 => ih x2 x3 x4 x5)).trans (r121_0_2 α K (loopT (runM Try.prog E121_0 sh121 c121_0_7) td121_7 K n) x2 x3 x4 x5).symm
theorem m121_0_2 : ∀ (α : Type) (K : Exit → St → Option α), F121_0_2 L121_0_2 α K = p121_0_3.unc fun σ => loopT (runM Try.prog E121_0 sh121 c121_0_7) td121_7 K fuel σ := fun α K => funext fun x2 => funext fun x3 => funext fun x4 => funext fun x5 => t121_0_2 α K fuel x2 x3 x4 x5

/-- etalon/meter.isName -/
abbrev Tf121_0 : Type 1 := (α : Type) → ByteArray → (Bool → Option α) → Option α
def f121_0g (vL121_0_2 : TL121_0_2) (α : Type) (x1 : ByteArray) (k1 : Bool → Option α) : Option α :=
 gK (decide (ByteArray.size x1 ≤ 9223372036854775807)) (vL121_0_2 α ((List.length (bytesR x1) : Nat) : Int) (bytesR x1)
 (k1 false)
 (fun (x27 : Int) (x28 : Bool) => cK (!(x1.toList == (⟨#[]⟩ : ByteArray).toList))
 (k1 (decide (((ByteArray.size x1 : Nat) : Int) ≤ 12)))
 (k1 false)) 0)
noncomputable def f121_0 (α : Type) (x1 : ByteArray) (k1 : Bool → Option α) : Option α := f121_0g L121_0_2 α x1 k1
def pa121_0 : PT (List DV) := pA [pV false [dS]]
def Fn121_0 (v : Tf121_0) (α : Type) (k : List RV → Option α) : ByteArray → Option α := fun x1 => v α x1 (fun (y1 : Bool) => ur121_0_0 k y1)
noncomputable def cm121_0g (vL121_0_2 : TL121_0_2) : MCode := (.seq (.region r121_2 [] (some ⟨[0], true, [], []⟩)) (.seq (.seq (.region r121_5 [] (some ⟨[0, 7, 8, 9], true, [], []⟩)) (.block 0 (.loop td121_7 [⟨p121_0_3, F121_0_2 vL121_0_2⟩] c121_0_7))) (.seq (.region r121_25 [] (some ⟨[2], true, [], []⟩)) .ret)))
noncomputable def cm121_0 : MCode := cm121_0g L121_0_2
theorem gm121_0 : cm121_0.Good Try.prog E121_0 sh121 := ⟨trivial, ⟨⟨trivial, ⟨g121_0_7, m121_0_2, trivial⟩⟩, ⟨trivial, trivial⟩⟩⟩
theorem fm121_0g  (vL121_0_2 : TL121_0_2) (α : Type) (k : List RV → Option α) : Fn121_0 (f121_0g vL121_0_2) α k = pa121_0.unc fun ds => fnM Try.prog (E121_0g ) sh121 (cm121_0g vL121_0_2) rs121 k ds := by kernel_rfl
theorem fm121_0 : ∀ (α : Type) (k : List RV → Option α), Fn121_0 f121_0 α k = pa121_0.unc fun ds => fnM Try.prog E121_0 sh121 cm121_0 rs121 k ds := fm121_0g L121_0_2

theorem is121 : FnIs Try.prog 121 nt121 tr121 tl121 cm121_0.erase rs121 := ⟨Try.f121, Try.func121, rfl, by kernel_rfl, by kernel_rfl, by kernel_rfl⟩
theorem io121_0 : InstOk Try.prog 121 nt121 ⟨pa121_0, Fn121_0 f121_0⟩ := inst_ok eo121_0 followsTry is121 ⟨⟨sh121, cm121_0, by kernel_rfl, gm121_0, fm121_0⟩⟩

/-! ### F91 etalon/etalonref06.settingErr -/
abbrev nt91 : Nat := 25
def sh91 : List (Nat × List Sh) := [(15, [.int .i64]), (21, [.int .i64])]
def r91_2 : List AOper := [oO 5 (.box (.tmp 2)), oO 6 (.mv (.const (.int .i64 0)))]
def r91_5 : List AOper := [oM 7 0, oO 8 (.call 123 [(.tmp 7)]), oO 9 (.pure (oB (.unOp .not 4 (.tmp 8)) 4))]
def r91_8 : List AOper := [oO 6 (.mv (.const (.int .i64 3)))]
def r91_11 : List AOper := [oM 10 1, oO 11 (.call 29 [(.tmp 10), (.const (.int .i64 1000)), (.const (.int .i64 200000))]), oO 12 (.pure (oB (.unOp .not 4 (.tmp 11)) 4)), oM 13 12, ⟨(some 14), (.faddr 0 (.tmp 5)), (some (13, false))⟩, ⟨(some 15), (.load false 1 (.tmp 14)), (some (13, false))⟩, ⟨(some 16), (.call 29 [(.tmp 15), (.const (.int .i64 5000)), (.const (.int .i64 80000))]), (some (13, false))⟩, ⟨(some 17), (.pure (oB (.unOp .not 4 (.tmp 16)) 4)), (some (13, false))⟩, oO 18 (.pick (.tmp 13) (.const (.bool true)) (.tmp 17)), oM 19 18, ⟨(some 20), (.faddr 1 (.tmp 5)), (some (19, false))⟩, ⟨(some 21), (.load false 1 (.tmp 20)), (some (19, false))⟩, ⟨(some 22), (.call 29 [(.tmp 21), (.const (.int .i64 0)), (.const (.int .i64 9999))]), (some (19, false))⟩, ⟨(some 23), (.pure (oB (.unOp .not 4 (.tmp 22)) 4)), (some (19, false))⟩, oO 24 (.pick (.tmp 19) (.const (.bool true)) (.tmp 23))]
def r91_14 : List AOper := [oO 6 (.mv (.const (.int .i64 2)))]
def r91_16 : List AOper := [oO 6 (.mv (.const (.int .i64 0)))]
def tr91 : List (Nat × Tidy) := [(0, ⟨[0, 1, 5], true, [], []⟩), (1, ⟨[1, 5, 9], true, [], []⟩), (2, ⟨[6], true, [], []⟩), (3, ⟨[24], true, [], []⟩), (4, ⟨[6], true, [], []⟩), (5, ⟨[6], true, [], []⟩)]
def tl91 : List (Nat × Tidy) := []
def rs91 : List AResV := [.tmp 6]
def pr91_0_0 : PT (List RV) := pRs [pR false [rD (dI .i64)]]
def ur91_0_0 {β : Type} (g : List RV → β) : Int → β := pr91_0_0.unc g

def E91_0g (vf123_0 : Tf123_0) (vf29_0 : Tf29_0) : EnvK := EnvK.of [⟨123, nt123, [⟨pa123_0, Fn123_0 vf123_0⟩]⟩, ⟨29, nt29, [⟨pa29_0, Fn29_0 vf29_0⟩]⟩] noSeq
noncomputable def E91_0 : EnvK := E91_0g f123_0 f29_0
theorem eo91_0 : E91_0.Ok Try.prog := EnvK.of_ok noSeq_ok ⟨⟨io123_0, trivial⟩, ⟨io29_0, trivial⟩, trivial⟩

/-- etalon/etalonref06.settingErr -/
abbrev Tf91_0 : Type 1 := (α : Type) → ByteArray → Int → Int → Int → (Int → Option α) → Option α
def f91_0g (vf123_0 : Tf123_0) (vf29_0 : Tf29_0) (α : Type) (x1 : ByteArray) (x2 : Int) (x3 : Int) (x4 : Int) (k1 : Int → Option α) : Option α :=
 vf123_0 α x1
 (fun (x5 : Bool) => cK (!x5)
 (k1 3)
 (vf29_0 α x2 1000 200000
 (fun (x6 : Bool) => cK (!x6)
 (k1 2)
 (vf29_0 α x3 5000 80000
 (fun (x7 : Bool) => cK (!x7)
 (k1 2)
 (vf29_0 α x4 0 9999
 (fun (x8 : Bool) => cK (!x8)
 (k1 2)
 (k1 0))))))))
noncomputable def f91_0 (α : Type) (x1 : ByteArray) (x2 : Int) (x3 : Int) (x4 : Int) (k1 : Int → Option α) : Option α := f91_0g f123_0 f29_0 α x1 x2 x3 x4 k1
def pa91_0 : PT (List DV) := pA [pV false [dS], pV false [(dI .i64)], pV true [(dI .i64), (dI .i64)]]
def Fn91_0 (v : Tf91_0) (α : Type) (k : List RV → Option α) : ByteArray → Int → Int → Int → Option α := fun x1 x2 x3 x4 => v α x1 x2 x3 x4 (fun (y1 : Int) => ur91_0_0 k y1)
noncomputable def cm91_0g  : MCode := (.seq (.region r91_2 [] (some ⟨[0, 1, 5], true, [], []⟩)) (.seq (.seq (.region r91_5 [] (some ⟨[1, 5, 9], true, [], []⟩)) (.cond (.tmp 9) (.seq (.region r91_8 [] (some ⟨[6], true, [], []⟩)) .ret) .skip)) (.seq (.seq (.region r91_11 [] (some ⟨[24], true, [], []⟩)) (.cond (.tmp 24) (.seq (.region r91_14 [] (some ⟨[6], true, [], []⟩)) .ret) .skip)) (.seq (.region r91_16 [] (some ⟨[6], true, [], []⟩)) .ret))))
noncomputable def cm91_0 : MCode := cm91_0g 
theorem gm91_0 : cm91_0.Good Try.prog E91_0 sh91 := ⟨trivial, ⟨⟨trivial, ⟨⟨trivial, trivial⟩, trivial⟩⟩, ⟨⟨trivial, ⟨⟨trivial, trivial⟩, trivial⟩⟩, ⟨trivial, trivial⟩⟩⟩⟩
theorem fm91_0g (vf123_0 : Tf123_0) (vf29_0 : Tf29_0)  (α : Type) (k : List RV → Option α) : Fn91_0 (f91_0g vf123_0 vf29_0) α k = pa91_0.unc fun ds => fnM Try.prog (E91_0g vf123_0 vf29_0) sh91 (cm91_0g ) rs91 k ds := by kernel_rfl
theorem fm91_0 : ∀ (α : Type) (k : List RV → Option α), Fn91_0 f91_0 α k = pa91_0.unc fun ds => fnM Try.prog E91_0 sh91 cm91_0 rs91 k ds := fm91_0g f123_0 f29_0

theorem is91 : FnIs Try.prog 91 nt91 tr91 tl91 cm91_0.erase rs91 := ⟨Try.f91, Try.func91, rfl, by kernel_rfl, by kernel_rfl, by kernel_rfl⟩
theorem io91_0 : InstOk Try.prog 91 nt91 ⟨pa91_0, Fn91_0 f91_0⟩ := inst_ok eo91_0 followsTry is91 ⟨⟨sh91, cm91_0, by kernel_rfl, gm91_0, fm91_0⟩⟩

/-! ### F42 etalon/etalonbase.Ceil -/
abbrev nt42 : Nat := 10
def sh42 : List (Nat × List Sh) := []
def r42_2 : List AOper := [oO 4 (.mv (.const (.int .i64 0)))]
def r42_4 : List AOper := [oM 5 0, oO 6 (.pure (oB (.unOp .neg 3 (.tmp 5)) 3)), oM 7 1, oO 8 (.call 99 [(.tmp 6), (.tmp 7)]), oO 9 (.pure (oB (.unOp .neg 3 (.tmp 8)) 3)), oM 4 9]
def tr42 : List (Nat × Tidy) := [(0, ⟨[0, 1], true, [], []⟩), (1, ⟨[4], true, [], []⟩)]
def tl42 : List (Nat × Tidy) := []
def rs42 : List AResV := [.tmp 4]
def pr42_0_0 : PT (List RV) := pRs [pR false [rD (dI .i64)]]
def ur42_0_0 {β : Type} (g : List RV → β) : Int → β := pr42_0_0.unc g

def E42_0g (vf99_0 : Tf99_0) : EnvK := EnvK.of [⟨99, nt99, [⟨pa99_0, Fn99_0 vf99_0⟩]⟩] noSeq
noncomputable def E42_0 : EnvK := E42_0g f99_0
theorem eo42_0 : E42_0.Ok Try.prog := EnvK.of_ok noSeq_ok ⟨⟨io99_0, trivial⟩, trivial⟩

/-- etalon/etalonbase.Ceil -/
abbrev Tf42_0 : Type 1 := (α : Type) → Int → Int → (Int → Option α) → Option α
def f42_0g (vf99_0 : Tf99_0) (α : Type) (x1 : Int) (x2 : Int) (k1 : Int → Option α) : Option α :=
 vf99_0 α (w64 (0 - x1)) x2
 (fun (x3 : Int) => k1 (w64 (0 - x3)))
noncomputable def f42_0 (α : Type) (x1 : Int) (x2 : Int) (k1 : Int → Option α) : Option α := f42_0g f99_0 α x1 x2 k1
def pa42_0 : PT (List DV) := pA [pV false [(dI .i64)], pV false [(dI .i64)]]
def Fn42_0 (v : Tf42_0) (α : Type) (k : List RV → Option α) : Int → Int → Option α := fun x1 x2 => v α x1 x2 (fun (y1 : Int) => ur42_0_0 k y1)
noncomputable def cm42_0g  : MCode := (.seq (.region r42_2 [] (some ⟨[0, 1], true, [], []⟩)) (.seq (.region r42_4 [] (some ⟨[4], true, [], []⟩)) .ret))
noncomputable def cm42_0 : MCode := cm42_0g 
theorem gm42_0 : cm42_0.Good Try.prog E42_0 sh42 := ⟨trivial, ⟨trivial, trivial⟩⟩
theorem fm42_0g (vf99_0 : Tf99_0)  (α : Type) (k : List RV → Option α) : Fn42_0 (f42_0g vf99_0) α k = pa42_0.unc fun ds => fnM Try.prog (E42_0g vf99_0) sh42 (cm42_0g ) rs42 k ds := by kernel_rfl
theorem fm42_0 : ∀ (α : Type) (k : List RV → Option α), Fn42_0 f42_0 α k = pa42_0.unc fun ds => fnM Try.prog E42_0 sh42 cm42_0 rs42 k ds := fm42_0g f99_0

theorem is42 : FnIs Try.prog 42 nt42 tr42 tl42 cm42_0.erase rs42 := ⟨Try.f42, Try.func42, rfl, by kernel_rfl, by kernel_rfl, by kernel_rfl⟩
theorem io42_0 : InstOk Try.prog 42 nt42 ⟨pa42_0, Fn42_0 f42_0⟩ := inst_ok eo42_0 followsTry is42 ⟨⟨sh42, cm42_0, by kernel_rfl, gm42_0, fm42_0⟩⟩

/-! ### F81 etalon/etalonref06.isSum -/
abbrev nt81 : Nat := 5
def sh81 : List (Nat × List Sh) := []
def r81_2 : List AOper := [oO 2 (.mv (.const (.bool false)))]
def r81_4 : List AOper := [oM 3 0, oO 4 (.call 29 [(.tmp 3), (.const (.int .i64 (-10000000))), (.const (.int .i64 10000000))]), oM 2 4]
def tr81 : List (Nat × Tidy) := [(0, ⟨[0], true, [], []⟩), (1, ⟨[2], true, [], []⟩)]
def tl81 : List (Nat × Tidy) := []
def rs81 : List AResV := [.tmp 2]
def pr81_0_0 : PT (List RV) := pRs [pR false [rD dB]]
def ur81_0_0 {β : Type} (g : List RV → β) : Bool → β := pr81_0_0.unc g

def E81_0g (vf29_0 : Tf29_0) : EnvK := EnvK.of [⟨29, nt29, [⟨pa29_0, Fn29_0 vf29_0⟩]⟩] noSeq
noncomputable def E81_0 : EnvK := E81_0g f29_0
theorem eo81_0 : E81_0.Ok Try.prog := EnvK.of_ok noSeq_ok ⟨⟨io29_0, trivial⟩, trivial⟩

/-- etalon/etalonref06.isSum -/
abbrev Tf81_0 : Type 1 := (α : Type) → Int → (Bool → Option α) → Option α
def f81_0g (vf29_0 : Tf29_0) (α : Type) (x1 : Int) (k1 : Bool → Option α) : Option α :=
 vf29_0 α x1 (-10000000) 10000000
 (fun (x2 : Bool) => k1 x2)
noncomputable def f81_0 (α : Type) (x1 : Int) (k1 : Bool → Option α) : Option α := f81_0g f29_0 α x1 k1
def pa81_0 : PT (List DV) := pA [pV false [(dI .i64)]]
def Fn81_0 (v : Tf81_0) (α : Type) (k : List RV → Option α) : Int → Option α := fun x1 => v α x1 (fun (y1 : Bool) => ur81_0_0 k y1)
noncomputable def cm81_0g  : MCode := (.seq (.region r81_2 [] (some ⟨[0], true, [], []⟩)) (.seq (.region r81_4 [] (some ⟨[2], true, [], []⟩)) .ret))
noncomputable def cm81_0 : MCode := cm81_0g 
theorem gm81_0 : cm81_0.Good Try.prog E81_0 sh81 := ⟨trivial, ⟨trivial, trivial⟩⟩
theorem fm81_0g (vf29_0 : Tf29_0)  (α : Type) (k : List RV → Option α) : Fn81_0 (f81_0g vf29_0) α k = pa81_0.unc fun ds => fnM Try.prog (E81_0g vf29_0) sh81 (cm81_0g ) rs81 k ds := by kernel_rfl
theorem fm81_0 : ∀ (α : Type) (k : List RV → Option α), Fn81_0 f81_0 α k = pa81_0.unc fun ds => fnM Try.prog E81_0 sh81 cm81_0 rs81 k ds := fm81_0g f29_0

theorem is81 : FnIs Try.prog 81 nt81 tr81 tl81 cm81_0.erase rs81 := ⟨Try.f81, Try.func81, rfl, by kernel_rfl, by kernel_rfl, by kernel_rfl⟩
theorem io81_0 : InstOk Try.prog 81 nt81 ⟨pa81_0, Fn81_0 f81_0⟩ := inst_ok eo81_0 followsTry is81 ⟨⟨sh81, cm81_0, by kernel_rfl, gm81_0, fm81_0⟩⟩

/-! ### F79 etalon/meter.ceil -/
abbrev nt79 : Nat := 10
def sh79 : List (Nat × List Sh) := []
def r79_2 : List AOper := [oO 4 (.mv (.const (.int .i64 0)))]
def r79_4 : List AOper := [oM 5 0, oO 6 (.pure (oB (.unOp .neg 3 (.tmp 5)) 3)), oM 7 1, oO 8 (.call 78 [(.tmp 6), (.tmp 7)]), oO 9 (.pure (oB (.unOp .neg 3 (.tmp 8)) 3)), oM 4 9]
def tr79 : List (Nat × Tidy) := [(0, ⟨[0, 1], true, [], []⟩), (1, ⟨[4], true, [], []⟩)]
def tl79 : List (Nat × Tidy) := []
def rs79 : List AResV := [.tmp 4]
def pr79_0_0 : PT (List RV) := pRs [pR false [rD (dI .i64)]]
def ur79_0_0 {β : Type} (g : List RV → β) : Int → β := pr79_0_0.unc g

def E79_0g (vf78_0 : Tf78_0) : EnvK := EnvK.of [⟨78, nt78, [⟨pa78_0, Fn78_0 vf78_0⟩]⟩] noSeq
noncomputable def E79_0 : EnvK := E79_0g f78_0
theorem eo79_0 : E79_0.Ok Try.prog := EnvK.of_ok noSeq_ok ⟨⟨io78_0, trivial⟩, trivial⟩

/-- etalon/meter.ceil -/
abbrev Tf79_0 : Type 1 := (α : Type) → Int → Int → (Int → Option α) → Option α
def f79_0g (vf78_0 : Tf78_0) (α : Type) (x1 : Int) (x2 : Int) (k1 : Int → Option α) : Option α :=
 vf78_0 α (w64 (0 - x1)) x2
 (fun (x3 : Int) => k1 (w64 (0 - x3)))
noncomputable def f79_0 (α : Type) (x1 : Int) (x2 : Int) (k1 : Int → Option α) : Option α := f79_0g f78_0 α x1 x2 k1
def pa79_0 : PT (List DV) := pA [pV false [(dI .i64)], pV false [(dI .i64)]]
def Fn79_0 (v : Tf79_0) (α : Type) (k : List RV → Option α) : Int → Int → Option α := fun x1 x2 => v α x1 x2 (fun (y1 : Int) => ur79_0_0 k y1)
noncomputable def cm79_0g  : MCode := (.seq (.region r79_2 [] (some ⟨[0, 1], true, [], []⟩)) (.seq (.region r79_4 [] (some ⟨[4], true, [], []⟩)) .ret))
noncomputable def cm79_0 : MCode := cm79_0g 
theorem gm79_0 : cm79_0.Good Try.prog E79_0 sh79 := ⟨trivial, ⟨trivial, trivial⟩⟩
theorem fm79_0g (vf78_0 : Tf78_0)  (α : Type) (k : List RV → Option α) : Fn79_0 (f79_0g vf78_0) α k = pa79_0.unc fun ds => fnM Try.prog (E79_0g vf78_0) sh79 (cm79_0g ) rs79 k ds := by kernel_rfl
theorem fm79_0 : ∀ (α : Type) (k : List RV → Option α), Fn79_0 f79_0 α k = pa79_0.unc fun ds => fnM Try.prog E79_0 sh79 cm79_0 rs79 k ds := fm79_0g f78_0

theorem is79 : FnIs Try.prog 79 nt79 tr79 tl79 cm79_0.erase rs79 := ⟨Try.f79, Try.func79, rfl, by kernel_rfl, by kernel_rfl, by kernel_rfl⟩
theorem io79_0 : InstOk Try.prog 79 nt79 ⟨pa79_0, Fn79_0 f79_0⟩ := inst_ok eo79_0 followsTry is79 ⟨⟨sh79, cm79_0, by kernel_rfl, gm79_0, fm79_0⟩⟩

/-! ### F109 etalon/meter.small -/
abbrev nt109 : Nat := 10
def sh109 : List (Nat × List Sh) := []
def r109_2 : List AOper := [oO 4 (.mv (.const (.bool false)))]
def r109_4 : List AOper := [oM 5 0, oM 6 1, oO 7 (.pure (oB (.unOp .neg 3 (.tmp 6)) 3)), oM 8 1, oO 9 (.call 98 [(.tmp 5), (.tmp 7), (.tmp 8)]), oM 4 9]
def tr109 : List (Nat × Tidy) := [(0, ⟨[0, 1], true, [], []⟩), (1, ⟨[4], true, [], []⟩)]
def tl109 : List (Nat × Tidy) := []
def rs109 : List AResV := [.tmp 4]
def pr109_0_0 : PT (List RV) := pRs [pR false [rD dB]]
def ur109_0_0 {β : Type} (g : List RV → β) : Bool → β := pr109_0_0.unc g

def E109_0g (vf98_0 : Tf98_0) : EnvK := EnvK.of [⟨98, nt98, [⟨pa98_0, Fn98_0 vf98_0⟩]⟩] noSeq
noncomputable def E109_0 : EnvK := E109_0g f98_0
theorem eo109_0 : E109_0.Ok Try.prog := EnvK.of_ok noSeq_ok ⟨⟨io98_0, trivial⟩, trivial⟩

/-- etalon/meter.small -/
abbrev Tf109_0 : Type 1 := (α : Type) → Int → Int → (Bool → Option α) → Option α
def f109_0g (vf98_0 : Tf98_0) (α : Type) (x1 : Int) (x2 : Int) (k1 : Bool → Option α) : Option α :=
 vf98_0 α x1 (w64 (0 - x2)) x2
 (fun (x3 : Bool) => k1 x3)
noncomputable def f109_0 (α : Type) (x1 : Int) (x2 : Int) (k1 : Bool → Option α) : Option α := f109_0g f98_0 α x1 x2 k1
def pa109_0 : PT (List DV) := pA [pV false [(dI .i64)], pV false [(dI .i64)]]
def Fn109_0 (v : Tf109_0) (α : Type) (k : List RV → Option α) : Int → Int → Option α := fun x1 x2 => v α x1 x2 (fun (y1 : Bool) => ur109_0_0 k y1)
noncomputable def cm109_0g  : MCode := (.seq (.region r109_2 [] (some ⟨[0, 1], true, [], []⟩)) (.seq (.region r109_4 [] (some ⟨[4], true, [], []⟩)) .ret))
noncomputable def cm109_0 : MCode := cm109_0g 
theorem gm109_0 : cm109_0.Good Try.prog E109_0 sh109 := ⟨trivial, ⟨trivial, trivial⟩⟩
theorem fm109_0g (vf98_0 : Tf98_0)  (α : Type) (k : List RV → Option α) : Fn109_0 (f109_0g vf98_0) α k = pa109_0.unc fun ds => fnM Try.prog (E109_0g vf98_0) sh109 (cm109_0g ) rs109 k ds := by kernel_rfl
theorem fm109_0 : ∀ (α : Type) (k : List RV → Option α), Fn109_0 f109_0 α k = pa109_0.unc fun ds => fnM Try.prog E109_0 sh109 cm109_0 rs109 k ds := fm109_0g f98_0

theorem is109 : FnIs Try.prog 109 nt109 tr109 tl109 cm109_0.erase rs109 := ⟨Try.f109, Try.func109, rfl, by kernel_rfl, by kernel_rfl, by kernel_rfl⟩
theorem io109_0 : InstOk Try.prog 109 nt109 ⟨pa109_0, Fn109_0 f109_0⟩ := inst_ok eo109_0 followsTry is109 ⟨⟨sh109, cm109_0, by kernel_rfl, gm109_0, fm109_0⟩⟩

/-! ### F83 etalon/meter.placeErr -/
abbrev nt83 : Nat := 27
def sh83 : List (Nat × List Sh) := [(17, [.int .i64]), (23, [.int .i64])]
def r83_2 : List AOper := [oO 5 (.box (.tmp 2)), oO 6 (.mv (.const (.int .i64 0)))]
def r83_6 : List AOper := [oM 8 0, oO 9 (.call 121 [(.tmp 8)]), oO 10 (.pure (oB (.unOp .not 4 (.tmp 9)) 4)), oM 7 10]
def r83_9 : List AOper := [oO 6 (.mv (.const (.int .i64 3)))]
def r83_11 : List AOper := [oM 12 1, oO 13 (.call 98 [(.tmp 12), (.const (.int .i64 1000)), (.const (.int .i64 200000))]), oO 14 (.pure (oB (.unOp .not 4 (.tmp 13)) 4)), oM 15 14, ⟨(some 16), (.faddr 0 (.tmp 5)), (some (15, false))⟩, ⟨(some 17), (.load false 1 (.tmp 16)), (some (15, false))⟩, ⟨(some 18), (.call 98 [(.tmp 17), (.const (.int .i64 5000)), (.const (.int .i64 80000))]), (some (15, false))⟩, ⟨(some 19), (.pure (oB (.unOp .not 4 (.tmp 18)) 4)), (some (15, false))⟩, oO 20 (.pick (.tmp 15) (.const (.bool true)) (.tmp 19)), oM 21 20, ⟨(some 22), (.faddr 1 (.tmp 5)), (some (21, false))⟩, ⟨(some 23), (.load false 1 (.tmp 22)), (some (21, false))⟩, ⟨(some 24), (.call 98 [(.tmp 23), (.const (.int .i64 0)), (.const (.int .i64 9999))]), (some (21, false))⟩, ⟨(some 25), (.pure (oB (.unOp .not 4 (.tmp 24)) 4)), (some (21, false))⟩, oO 26 (.pick (.tmp 21) (.const (.bool true)) (.tmp 25)), oM 11 26]
def r83_14 : List AOper := [oO 6 (.mv (.const (.int .i64 2)))]
def r83_16 : List AOper := [oO 6 (.mv (.const (.int .i64 0)))]
def tr83 : List (Nat × Tidy) := [(0, ⟨[0, 1, 5], true, [], []⟩), (1, ⟨[1, 5, 7], true, [], []⟩), (2, ⟨[6], true, [], []⟩), (3, ⟨[11], true, [], []⟩), (4, ⟨[6], true, [], []⟩), (5, ⟨[6], true, [], []⟩)]
def tl83 : List (Nat × Tidy) := []
def rs83 : List AResV := [.tmp 6]
def pr83_0_0 : PT (List RV) := pRs [pR false [rD (dI .i64)]]
def ur83_0_0 {β : Type} (g : List RV → β) : Int → β := pr83_0_0.unc g

def E83_0g (vf121_0 : Tf121_0) (vf98_0 : Tf98_0) : EnvK := EnvK.of [⟨121, nt121, [⟨pa121_0, Fn121_0 vf121_0⟩]⟩, ⟨98, nt98, [⟨pa98_0, Fn98_0 vf98_0⟩]⟩] noSeq
noncomputable def E83_0 : EnvK := E83_0g f121_0 f98_0
theorem eo83_0 : E83_0.Ok Try.prog := EnvK.of_ok noSeq_ok ⟨⟨io121_0, trivial⟩, ⟨io98_0, trivial⟩, trivial⟩

/-- etalon/meter.placeErr -/
abbrev Tf83_0 : Type 1 := (α : Type) → ByteArray → Int → Int → Int → (Int → Option α) → Option α
def f83_0g (vf121_0 : Tf121_0) (vf98_0 : Tf98_0) (α : Type) (x1 : ByteArray) (x2 : Int) (x3 : Int) (x4 : Int) (k1 : Int → Option α) : Option α :=
 vf121_0 α x1
 (fun (x5 : Bool) => cK (!x5)
 (k1 3)
 (vf98_0 α x2 1000 200000
 (fun (x6 : Bool) => cK (!x6)
 (k1 2)
 (vf98_0 α x3 5000 80000
 (fun (x7 : Bool) => cK (!x7)
 (k1 2)
 (vf98_0 α x4 0 9999
 (fun (x8 : Bool) => cK (!x8)
 (k1 2)
 (k1 0))))))))
noncomputable def f83_0 (α : Type) (x1 : ByteArray) (x2 : Int) (x3 : Int) (x4 : Int) (k1 : Int → Option α) : Option α := f83_0g f121_0 f98_0 α x1 x2 x3 x4 k1
def pa83_0 : PT (List DV) := pA [pV false [dS], pV false [(dI .i64)], pV true [(dI .i64), (dI .i64)]]
def Fn83_0 (v : Tf83_0) (α : Type) (k : List RV → Option α) : ByteArray → Int → Int → Int → Option α := fun x1 x2 x3 x4 => v α x1 x2 x3 x4 (fun (y1 : Int) => ur83_0_0 k y1)
noncomputable def cm83_0g  : MCode := (.seq (.region r83_2 [] (some ⟨[0, 1, 5], true, [], []⟩)) (.seq (.block 0 (.seq (.region r83_6 [] (some ⟨[1, 5, 7], true, [], []⟩)) (.cond (.tmp 7) (.seq (.region r83_9 [] (some ⟨[6], true, [], []⟩)) .ret) (.seq (.region r83_11 [] (some ⟨[11], true, [], []⟩)) (.cond (.tmp 11) (.seq (.region r83_14 [] (some ⟨[6], true, [], []⟩)) .ret) .skip))))) (.seq (.region r83_16 [] (some ⟨[6], true, [], []⟩)) .ret)))
noncomputable def cm83_0 : MCode := cm83_0g 
theorem gm83_0 : cm83_0.Good Try.prog E83_0 sh83 := ⟨trivial, ⟨⟨trivial, ⟨⟨trivial, trivial⟩, ⟨trivial, ⟨⟨trivial, trivial⟩, trivial⟩⟩⟩⟩, ⟨trivial, trivial⟩⟩⟩
theorem fm83_0g (vf121_0 : Tf121_0) (vf98_0 : Tf98_0)  (α : Type) (k : List RV → Option α) : Fn83_0 (f83_0g vf121_0 vf98_0) α k = pa83_0.unc fun ds => fnM Try.prog (E83_0g vf121_0 vf98_0) sh83 (cm83_0g ) rs83 k ds := by kernel_rfl
theorem fm83_0 : ∀ (α : Type) (k : List RV → Option α), Fn83_0 f83_0 α k = pa83_0.unc fun ds => fnM Try.prog E83_0 sh83 cm83_0 rs83 k ds := fm83_0g f121_0 f98_0

theorem is83 : FnIs Try.prog 83 nt83 tr83 tl83 cm83_0.erase rs83 := ⟨Try.f83, Try.func83, rfl, by kernel_rfl, by kernel_rfl, by kernel_rfl⟩
theorem io83_0 : InstOk Try.prog 83 nt83 ⟨pa83_0, Fn83_0 f83_0⟩ := inst_ok eo83_0 followsTry is83 ⟨⟨sh83, cm83_0, by kernel_rfl, gm83_0, fm83_0⟩⟩

/-! ### F49 etalon/etalonref06.CheckReading -/
abbrev nt49 : Nat := 45
def sh49 : List (Nat × List Sh) := [(7, [.str]), (9, [.int .i64]), (11, [.int .i64, .int .i64]), (16, [.str, .int .i64, .int .i64, .int .i64, .int .i64, .int .i64, .int .i64, .int .i64, .int .i64, .int .i64]), (25, [.int .i64]), (32, [.int .i64]), (39, [.int .i64]), (43, [.int .i64])]
def r49_2 : List AOper := [oO 1 (.box (.tmp 0)), oO 2 (.mv (.const (.int .i64 0)))]
def r49_5 : List AOper := [oO 6 (.faddr 0 (.tmp 1)), oO 7 (.load false 1 (.tmp 6)), oO 8 (.faddr 1 (.tmp 1)), oO 9 (.load false 1 (.tmp 8)), oO 10 (.faddr 2 (.tmp 1)), oO 11 (.load true 2 (.tmp 10)), oO 12 (.call 91 [(.tmp 7), (.tmp 9), (.tmp 11)]), oM 3 12]
def r49_7 : List AOper := [oM 13 3, oO 14 (.bin .neq 3 (.tmp 13) (.const (.int .i64 0)))]
def r49_10 : List AOper := [oM 15 3, oM 2 15]
def r49_12 : List AOper := [oO 16 (.load true 10 (.tmp 1)), oO 17 (.call 103 [(.tmp 16)]), oO 4 (.alloc [(.d (.v (.int .i64 0))), (.d (.v (.int .i64 0))), (.d (.v (.int .i64 0))), (.d (.v (.int .i64 0))), (.d (.v (.int .i64 0))), (.d (.v (.int .i64 0)))]), ⟨none, (.store 6 (.tmp 4) (.tmp 17)), none⟩]
def r49_15 : List AOper := [oO 5 (.mv (.const (.int .i64 0)))]
def td49_17 : Option Tidy := (some ⟨[4, 5], true, [], []⟩)
def r49_20 : List AOper := [oM 18 5, oO 19 (.bin .lss 3 (.tmp 18) (.const (.int .i64 3)))]
def r49_26 : List AOper := [oM 22 5, oO 23 (.iaddr 2 (some 3) (.tmp 4) (.tmp 22)), oO 24 (.faddr 0 (.tmp 23)), oO 25 (.load false 1 (.tmp 24)), oO 26 (.call 29 [(.tmp 25), (.const (.int .i64 (-1048576))), (.const (.int .i64 1048576))]), oO 27 (.pure (oB (.unOp .not 4 (.tmp 26)) 4)), oM 28 27, ⟨(some 29), (.mv (.tmp 5)), (some (28, false))⟩, ⟨(some 30), (.iaddr 2 (some 3) (.tmp 4) (.tmp 29)), (some (28, false))⟩, ⟨(some 31), (.faddr 1 (.tmp 30)), (some (28, false))⟩, ⟨(some 32), (.load false 1 (.tmp 31)), (some (28, false))⟩, ⟨(some 33), (.call 29 [(.tmp 32), (.const (.int .i64 (-1048576))), (.const (.int .i64 1048576))]), (some (28, false))⟩, ⟨(some 34), (.pure (oB (.unOp .not 4 (.tmp 33)) 4)), (some (28, false))⟩, oO 35 (.pick (.tmp 28) (.const (.bool true)) (.tmp 34))]
def r49_29 : List AOper := [oO 2 (.mv (.const (.int .i64 2)))]
def r49_31 : List AOper := [oM 36 5, oO 37 (.iaddr 2 (some 3) (.tmp 4) (.tmp 36)), oO 38 (.faddr 0 (.tmp 37)), oO 39 (.load false 1 (.tmp 38)), oM 40 5, oO 41 (.iaddr 2 (some 3) (.tmp 4) (.tmp 40)), oO 42 (.faddr 1 (.tmp 41)), oO 43 (.load false 1 (.tmp 42)), oO 44 (.bin .gtr 3 (.tmp 39) (.tmp 43))]
def r49_34 : List AOper := [oO 2 (.mv (.const (.int .i64 10)))]
def r49_35 : List AOper := [oM 20 5, oO 21 (.bin .add 3 (.tmp 20) (.const (.int .i64 1))), oM 5 21]
def r49_37 : List AOper := [oO 2 (.mv (.const (.int .i64 0)))]
def tr49 : List (Nat × Tidy) := [(0, ⟨[1], true, [], []⟩), (1, ⟨[1, 3], true, [], []⟩), (2, ⟨[1, 3, 14], true, [], []⟩), (3, ⟨[2], true, [], []⟩), (4, ⟨[4], true, [], []⟩), (5, ⟨[4, 5], true, [], []⟩), (6, ⟨[4, 5, 19], true, [], []⟩), (8, ⟨[4, 5, 35], true, [], []⟩), (9, ⟨[2], true, [], []⟩), (10, ⟨[4, 5, 44], true, [], []⟩), (11, ⟨[2], true, [], []⟩), (7, ⟨[4, 5], true, [], []⟩), (12, ⟨[2], true, [], []⟩)]
def tl49 : List (Nat × Tidy) := [(6, ⟨[4, 5], true, [], []⟩)]
def rs49 : List AResV := [.tmp 2]
def p49_0_0 : PT St := pS [sl 4 (aV false [(cPtr 4 0)]), sl 5 (aV false [(cD (dI .i64))]), sl 19 (aV false [(cD dB)])] [eBox 4 [(cD (dI .i64)), (cD (dI .i64)), (cD (dI .i64)), (cD (dI .i64)), (cD (dI .i64)), (cD (dI .i64))]]
def u49_0_0 {β : Type} (g : St → β) : Int → Bool → Int → Int → Int → Int → Int → Int → β := p49_0_0.unc g

def p49_0_1 : PT St := pS [sl 4 (aV false [(cPtr 4 0)]), sl 5 (aV false [(cD (dI .i64))]), sl 35 (aV false [(cD dB)])] [eBox 4 [(cD (dI .i64)), (cD (dI .i64)), (cD (dI .i64)), (cD (dI .i64)), (cD (dI .i64)), (cD (dI .i64))]]
def u49_0_1 {β : Type} (g : St → β) : Int → Bool → Int → Int → Int → Int → Int → Int → β := p49_0_1.unc g

def p49_0_2 : PT St := pS [sl 4 (aV false [(cPtr 4 0)]), sl 5 (aV false [(cD (dI .i64))]), sl 44 (aV false [(cD dB)])] [eBox 4 [(cD (dI .i64)), (cD (dI .i64)), (cD (dI .i64)), (cD (dI .i64)), (cD (dI .i64)), (cD (dI .i64))]]
def u49_0_2 {β : Type} (g : St → β) : Int → Bool → Int → Int → Int → Int → Int → Int → β := p49_0_2.unc g

def p49_0_3 : PT St := pS [sl 4 (aV false [(cPtr 4 0)]), sl 5 (aV false [(cD (dI .i64))])] [eBox 4 [(cD (dI .i64)), (cD (dI .i64)), (cD (dI .i64)), (cD (dI .i64)), (cD (dI .i64)), (cD (dI .i64))]]
def u49_0_3 {β : Type} (g : St → β) : Int → Int → Int → Int → Int → Int → Int → β := p49_0_3.unc g

def p49_0_4 : PT St := pS [sl 2 (aV false [(cD (dI .i64))])] []
def u49_0_4 {β : Type} (g : St → β) : Int → β := p49_0_4.unc g

def pr49_0_0 : PT (List RV) := pRs [pR false [rD (dI .i64)]]
def ur49_0_0 {β : Type} (g : List RV → β) : Int → β := pr49_0_0.unc g

def E49_0g (vf91_0 : Tf91_0) (vf103_0 : Tf103_0) (vf29_0 : Tf29_0) : EnvK := EnvK.of [⟨91, nt91, [⟨pa91_0, Fn91_0 vf91_0⟩]⟩, ⟨103, nt103, [⟨pa103_0, Fn103_0 vf103_0⟩]⟩, ⟨29, nt29, [⟨pa29_0, Fn29_0 vf29_0⟩]⟩] noSeq
noncomputable def E49_0 : EnvK := E49_0g f91_0 f103_0 f29_0
theorem eo49_0 : E49_0.Ok Try.prog := EnvK.of_ok noSeq_ok ⟨⟨io91_0, trivial⟩, ⟨io103_0, trivial⟩, ⟨io29_0, trivial⟩, trivial⟩

noncomputable def c49_0_30g  : MCode := (.region r49_31 [] (some ⟨[4, 5, 44], true, [], []⟩))
noncomputable def c49_0_30 : MCode := c49_0_30g 
theorem g49_0_30 : c49_0_30.Good Try.prog E49_0 sh49 := trivial
--CODE 30 0
abbrev TJ49_0_1 : Type 1 := (α : Type) → Int → Int → Int → Int → Int → Int → Int → (Bool → Option α) → Option α
def J49_0_1g  (α : Type) (x49 : Int) (x51 : Int) (x52 : Int) (x53 : Int) (x54 : Int) (x55 : Int) (x56 : Int) (k1 : Bool → Option α) : Option α :=
 cK (x49 == 2)
 (cK (x49 == 2)
 (k1 (decide (x56 < x55)))
 (cK (x49 == 1)
 (k1 (decide (x54 < x55)))
 (cK (x49 == 0)
 (k1 (decide (x52 < x55)))
 (none))))
 (cK (x49 == 1)
 (cK (x49 == 2)
 (k1 (decide (x56 < x53)))
 (cK (x49 == 1)
 (k1 (decide (x54 < x53)))
 (cK (x49 == 0)
 (k1 (decide (x52 < x53)))
 (none))))
 (cK (x49 == 0)
 (cK (x49 == 2)
 (k1 (decide (x56 < x51)))
 (cK (x49 == 1)
 (k1 (decide (x54 < x51)))
 (cK (x49 == 0)
 (k1 (decide (x52 < x51)))
 (none))))
 (none)))
noncomputable def J49_0_1 (α : Type) (x49 : Int) (x51 : Int) (x52 : Int) (x53 : Int) (x54 : Int) (x55 : Int) (x56 : Int) (k1 : Bool → Option α) : Option α := J49_0_1g  α x49 x51 x52 x53 x54 x55 x56 k1
def F49_0_1 (v : TJ49_0_1) (α : Type) (K : Exit → St → Option α) : Int → Bool → Int → Int → Int → Int → Int → Int → Option α := fun x49 x50 x51 x52 x53 x54 x55 x56 => v α x49 x51 x52 x53 x54 x55 x56 (fun (y1 : Bool) => u49_0_2 (K .normal) x49 y1 x51 x52 x53 x54 x55 x56) 
theorem m49_0_1g (vf91_0 : Tf91_0) (vf103_0 : Tf103_0) (vf29_0 : Tf29_0)  (α : Type) (K : Exit → St → Option α) : F49_0_1 (J49_0_1g ) α K = p49_0_1.unc fun σ => runM Try.prog (E49_0g vf91_0 vf103_0 vf29_0) sh49 (c49_0_30g ) K σ := by kernel_rfl
theorem m49_0_1 : ∀ (α : Type) (K : Exit → St → Option α), F49_0_1 J49_0_1 α K = p49_0_1.unc fun σ => runM Try.prog E49_0 sh49 c49_0_30 K σ := m49_0_1g f91_0 f103_0 f29_0

noncomputable def c49_0_25g  : MCode := (.region r49_26 [] (some ⟨[4, 5, 35], true, [], []⟩))
noncomputable def c49_0_25 : MCode := c49_0_25g 
theorem g49_0_25 : c49_0_25.Good Try.prog E49_0 sh49 := trivial
--CODE 25 0
abbrev TJ49_0_0 : Type 1 := (α : Type) → Int → Int → Int → Int → Int → Int → Int → (Bool → Option α) → Option α
def J49_0_0g (vf29_0 : Tf29_0) (α : Type) (x26 : Int) (x28 : Int) (x29 : Int) (x30 : Int) (x31 : Int) (x32 : Int) (x33 : Int) (k1 : Bool → Option α) : Option α :=
 cK (x26 == 2)
 (vf29_0 α x32 (-1048576) 1048576
 (fun (x35 : Bool) => cK (!x35)
 (k1 true)
 (cK (x26 == 2)
 (vf29_0 α x33 (-1048576) 1048576
 (fun (x36 : Bool) => k1 (!x36)))
 (cK (x26 == 1)
 (vf29_0 α x31 (-1048576) 1048576
 (fun (x37 : Bool) => k1 (!x37)))
 (cK (x26 == 0)
 (vf29_0 α x29 (-1048576) 1048576
 (fun (x38 : Bool) => k1 (!x38)))
 (none))))))
 (cK (x26 == 1)
 (vf29_0 α x30 (-1048576) 1048576
 (fun (x39 : Bool) => cK (!x39)
 (k1 true)
 (cK (x26 == 2)
 (vf29_0 α x33 (-1048576) 1048576
 (fun (x40 : Bool) => k1 (!x40)))
 (cK (x26 == 1)
 (vf29_0 α x31 (-1048576) 1048576
 (fun (x41 : Bool) => k1 (!x41)))
 (cK (x26 == 0)
 (vf29_0 α x29 (-1048576) 1048576
 (fun (x42 : Bool) => k1 (!x42)))
 (none))))))
 (cK (x26 == 0)
 (vf29_0 α x28 (-1048576) 1048576
 (fun (x43 : Bool) => cK (!x43)
 (k1 true)
 (cK (x26 == 2)
 (vf29_0 α x33 (-1048576) 1048576
 (fun (x44 : Bool) => k1 (!x44)))
 (cK (x26 == 1)
 (vf29_0 α x31 (-1048576) 1048576
 (fun (x45 : Bool) => k1 (!x45)))
 (cK (x26 == 0)
 (vf29_0 α x29 (-1048576) 1048576
 (fun (x46 : Bool) => k1 (!x46)))
 (none))))))
 (none)))
noncomputable def J49_0_0 (α : Type) (x26 : Int) (x28 : Int) (x29 : Int) (x30 : Int) (x31 : Int) (x32 : Int) (x33 : Int) (k1 : Bool → Option α) : Option α := J49_0_0g f29_0 α x26 x28 x29 x30 x31 x32 x33 k1
def F49_0_0 (v : TJ49_0_0) (α : Type) (K : Exit → St → Option α) : Int → Bool → Int → Int → Int → Int → Int → Int → Option α := fun x26 x27 x28 x29 x30 x31 x32 x33 => v α x26 x28 x29 x30 x31 x32 x33 (fun (y1 : Bool) => u49_0_1 (K .normal) x26 y1 x28 x29 x30 x31 x32 x33) 
theorem m49_0_0g (vf91_0 : Tf91_0) (vf103_0 : Tf103_0) (vf29_0 : Tf29_0)  (α : Type) (K : Exit → St → Option α) : F49_0_0 (J49_0_0g vf29_0) α K = p49_0_0.unc fun σ => runM Try.prog (E49_0g vf91_0 vf103_0 vf29_0) sh49 (c49_0_25g ) K σ := by kernel_rfl
theorem m49_0_0 : ∀ (α : Type) (K : Exit → St → Option α), F49_0_0 J49_0_0 α K = p49_0_0.unc fun σ => runM Try.prog E49_0 sh49 c49_0_25 K σ := m49_0_0g f91_0 f103_0 f29_0

noncomputable def c49_0_17g (vJ49_0_0 : TJ49_0_0) (vJ49_0_1 : TJ49_0_1) : MCode := (.seq (.seq (.region r49_20 [] (some ⟨[4, 5, 19], true, [], []⟩)) (.cond (.tmp 19) .skip (.exit 0))) (.seq (.block 1 (.seq (.seq (.mark [⟨p49_0_0, F49_0_0 vJ49_0_0⟩] c49_0_25) (.cond (.tmp 35) (.seq (.region r49_29 [] (some ⟨[2], true, [], []⟩)) .ret) .skip)) (.seq (.mark [⟨p49_0_1, F49_0_1 vJ49_0_1⟩] c49_0_30) (.cond (.tmp 44) (.seq (.region r49_34 [] (some ⟨[2], true, [], []⟩)) .ret) .skip)))) (.region r49_35 [] (some ⟨[4, 5], true, [], []⟩))))
noncomputable def c49_0_17 : MCode := c49_0_17g J49_0_0 J49_0_1
theorem g49_0_17 : c49_0_17.Good Try.prog E49_0 sh49 := ⟨⟨trivial, ⟨trivial, trivial⟩⟩, ⟨⟨⟨⟨g49_0_25, m49_0_0, trivial⟩, ⟨⟨trivial, trivial⟩, trivial⟩⟩, ⟨⟨g49_0_30, m49_0_1, trivial⟩, ⟨⟨trivial, trivial⟩, trivial⟩⟩⟩, trivial⟩⟩
--CODE 17 0
def S49_0_2g (vJ49_0_0 : TJ49_0_0) (vJ49_0_1 : TJ49_0_1) (α : Type) (x19 : Int) (x20 : Int) (x21 : Int) (x22 : Int) (x23 : Int) (x24 : Int) (x18 : Int) (kn : Int → Option α) (k1 : Int → Option α) (k2 : Int → Bool → Option α) : Option α :=
 cK (decide (x18 < 3))
 (vJ49_0_0 α x18 x19 x20 x21 x22 x23 x24
 (fun (x47 : Bool) => cK x47
 (k1 2)
 (vJ49_0_1 α x18 x19 x20 x21 x22 x23 x24
 (fun (x58 : Bool) => cK x58
 (k1 10)
 (kn (w64 (x18 + 1)))))))
 (k2 x18 (decide (x18 < 3)))
noncomputable def S49_0_2 (α : Type) (x19 : Int) (x20 : Int) (x21 : Int) (x22 : Int) (x23 : Int) (x24 : Int) (x18 : Int) (kn : Int → Option α) (k1 : Int → Option α) (k2 : Int → Bool → Option α) : Option α := S49_0_2g J49_0_0 J49_0_1 α x19 x20 x21 x22 x23 x24 x18 kn k1 k2
noncomputable def R49_0_2 (α : Type) (x19 : Int) (x20 : Int) (x21 : Int) (x22 : Int) (x23 : Int) (x24 : Int) (k1 : Int → Option α) (k2 : Int → Bool → Option α) : Nat → Int → Option α
 | 0, _ => none
 | n + 1, x18 => S49_0_2 α x19 x20 x21 x22 x23 x24 x18 (R49_0_2 α x19 x20 x21 x22 x23 x24 k1 k2 n) k1 k2
noncomputable def L49_0_2 (α : Type) (x19 : Int) (x20 : Int) (x21 : Int) (x22 : Int) (x23 : Int) (x24 : Int) (k1 : Int → Option α) (k2 : Int → Bool → Option α) (x18 : Int) : Option α := R49_0_2 α x19 x20 x21 x22 x23 x24 k1 k2 fuel x18
abbrev TL49_0_2 : Type 1 := (α : Type) → Int → Int → Int → Int → Int → Int → (Int → Option α) → (Int → Bool → Option α) → Int → Option α
def F49_0_2 (v : TL49_0_2) (α : Type) (K : Exit → St → Option α) : Int → Int → Int → Int → Int → Int → Int → Option α := fun x18 x19 x20 x21 x22 x23 x24 => v α x19 x20 x21 x22 x23 x24 (fun (y1 : Int) => u49_0_4 (K .ret) y1) (fun (y1 : Int) (y2 : Bool) => u49_0_0 (K (.exit 0)) y1 y2 x19 x20 x21 x22 x23 x24) x18
theorem r49_0_2g (vf91_0 : Tf91_0) (vf103_0 : Tf103_0) (vf29_0 : Tf29_0) (vJ49_0_0 : TJ49_0_0) (vJ49_0_1 : TJ49_0_1) (α : Type) (K : Exit → St → Option α) (Kn : St → Option α) (x18 : Int) (x19 : Int) (x20 : Int) (x21 : Int) (x22 : Int) (x23 : Int) (x24 : Int) : u49_0_3 (fun σ => runM Try.prog (E49_0g vf91_0 vf103_0 vf29_0) sh49 (c49_0_17g vJ49_0_0 vJ49_0_1) (thenK (fun σ => tidyK td49_17 σ Kn) K) σ) x18 x19 x20 x21 x22 x23 x24 = S49_0_2g vJ49_0_0 vJ49_0_1 α x19 x20 x21 x22 x23 x24 x18 (fun x18 => u49_0_3 Kn x18 x19 x20 x21 x22 x23 x24) (fun (y1 : Int) => u49_0_4 (K .ret) y1) (fun (y1 : Int) (y2 : Bool) => u49_0_0 (K (.exit 0)) y1 y2 x19 x20 x21 x22 x23 x24) := by kernel_rfl
theorem r49_0_2 (α : Type) (K : Exit → St → Option α) (Kn : St → Option α) (x18 : Int) (x19 : Int) (x20 : Int) (x21 : Int) (x22 : Int) (x23 : Int) (x24 : Int) : u49_0_3 (fun σ => runM Try.prog E49_0 sh49 c49_0_17 (thenK (fun σ => tidyK td49_17 σ Kn) K) σ) x18 x19 x20 x21 x22 x23 x24 = S49_0_2 α x19 x20 x21 x22 x23 x24 x18 (fun x18 => u49_0_3 Kn x18 x19 x20 x21 x22 x23 x24) (fun (y1 : Int) => u49_0_4 (K .ret) y1) (fun (y1 : Int) (y2 : Bool) => u49_0_0 (K (.exit 0)) y1 y2 x19 x20 x21 x22 x23 x24) := r49_0_2g f91_0 f103_0 f29_0 J49_0_0 J49_0_1 α K Kn x18 x19 x20 x21 x22 x23 x24
theorem t49_0_2 (α : Type) (K : Exit → St → Option α) : ∀ (n : Nat) (x18 : Int) (x19 : Int) (x20 : Int) (x21 : Int) (x22 : Int) (x23 : Int) (x24 : Int), R49_0_2 α x19 x20 x21 x22 x23 x24 (fun (y1 : Int) => u49_0_4 (K .ret) y1) (fun (y1 : Int) (y2 : Bool) => u49_0_0 (K (.exit 0)) y1 y2 x19 x20 x21 x22 x23 x24) n x18 = u49_0_3 (loopT (runM Try.prog E49_0 sh49 c49_0_17) td49_17 K n) x18 x19 x20 x21 x22 x23 x24 := by
 intro n
 induction n with
 | zero => intros; rfl
 | succ n ih => intro x18 x19 x20 x21 x22 x23 x24; exact (congrArg (fun kn => S49_0_2 α x19 x20 x21 x22 x23 x24 x18 kn (fun (y1 : Int) => u49_0_4 (K .ret) y1) (fun (y1 : Int) (y2 : Bool) => u49_0_0 (K (.exit 0)) y1 y2 x19 x20 x21 x22 x23 x24)) (funext fun x18 => ih x18 x19 x20 x21 x22 x23 x24)).trans (r49_0_2 α K (loopT (runM Try.prog E49_0 sh49 c49_0_17) td49_17 K n) x18 x19 x20 x21 x22 x23 x24).symm
theorem m49_0_2 : ∀ (α : Type) (K : Exit → St → Option α), F49_0_2 L49_0_2 α K = p49_0_3.unc fun σ => loopT (runM Try.prog E49_0 sh49 c49_0_17) td49_17 K fuel σ := fun α K => funext fun x18 => funext fun x19 => funext fun x20 => funext fun x21 => funext fun x22 => funext fun x23 => funext fun x24 => t49_0_2 α K fuel x18 x19 x20 x21 x22 x23 x24

/-- etalon/etalonref06.CheckReading -/
abbrev Tf49_0 : Type 1 := (α : Type) → ByteArray → Int → Int → Int → Int → Int → Int → Int → Int → Int → (Int → Option α) → Option α
def f49_0g (vL49_0_2 : TL49_0_2) (vf103_0 : Tf103_0) (vf91_0 : Tf91_0) (α : Type) (x1 : ByteArray) (x2 : Int) (x3 : Int) (x4 : Int) (x5 : Int) (x6 : Int) (x7 : Int) (x8 : Int) (x9 : Int) (x10 : Int) (k1 : Int → Option α) : Option α :=
 vf91_0 α x1 x2 x3 x4
 (fun (x11 : Int) => cK (x11 != 0)
 (k1 x11)
 (vf103_0 α x1 x2 x3 x4 x5 x6 x7 x8 x9 x10
 (fun (x12 : Int) (x13 : Int) (x14 : Int) (x15 : Int) (x16 : Int) (x17 : Int) => vL49_0_2 α x12 x13 x14 x15 x16 x17
 (fun (x60 : Int) => k1 x60)
 (fun (x61 : Int) (x62 : Bool) => k1 0) 0)))
noncomputable def f49_0 (α : Type) (x1 : ByteArray) (x2 : Int) (x3 : Int) (x4 : Int) (x5 : Int) (x6 : Int) (x7 : Int) (x8 : Int) (x9 : Int) (x10 : Int) (k1 : Int → Option α) : Option α := f49_0g L49_0_2 f103_0 f91_0 α x1 x2 x3 x4 x5 x6 x7 x8 x9 x10 k1
def pa49_0 : PT (List DV) := pA [pV true [dS, (dI .i64), (dI .i64), (dI .i64), (dI .i64), (dI .i64), (dI .i64), (dI .i64), (dI .i64), (dI .i64)]]
def Fn49_0 (v : Tf49_0) (α : Type) (k : List RV → Option α) : ByteArray → Int → Int → Int → Int → Int → Int → Int → Int → Int → Option α := fun x1 x2 x3 x4 x5 x6 x7 x8 x9 x10 => v α x1 x2 x3 x4 x5 x6 x7 x8 x9 x10 (fun (y1 : Int) => ur49_0_0 k y1)
noncomputable def cm49_0g (vL49_0_2 : TL49_0_2) : MCode := (.seq (.region r49_2 [] (some ⟨[1], true, [], []⟩)) (.seq (.seq (.region r49_5 [] (some ⟨[1, 3], true, [], []⟩)) (.seq (.region r49_7 [] (some ⟨[1, 3, 14], true, [], []⟩)) (.cond (.tmp 14) (.seq (.region r49_10 [] (some ⟨[2], true, [], []⟩)) .ret) .skip))) (.seq (.region r49_12 [] (some ⟨[4], true, [], []⟩)) (.seq (.seq (.region r49_15 [] (some ⟨[4, 5], true, [], []⟩)) (.block 0 (.loop td49_17 [⟨p49_0_3, F49_0_2 vL49_0_2⟩] c49_0_17))) (.seq (.region r49_37 [] (some ⟨[2], true, [], []⟩)) .ret)))))
noncomputable def cm49_0 : MCode := cm49_0g L49_0_2
theorem gm49_0 : cm49_0.Good Try.prog E49_0 sh49 := ⟨trivial, ⟨⟨trivial, ⟨trivial, ⟨⟨trivial, trivial⟩, trivial⟩⟩⟩, ⟨trivial, ⟨⟨trivial, ⟨g49_0_17, m49_0_2, trivial⟩⟩, ⟨trivial, trivial⟩⟩⟩⟩⟩
theorem fm49_0g (vf91_0 : Tf91_0) (vf103_0 : Tf103_0) (vf29_0 : Tf29_0) (vL49_0_2 : TL49_0_2) (α : Type) (k : List RV → Option α) : Fn49_0 (f49_0g vL49_0_2 vf103_0 vf91_0) α k = pa49_0.unc fun ds => fnM Try.prog (E49_0g vf91_0 vf103_0 vf29_0) sh49 (cm49_0g vL49_0_2) rs49 k ds := by kernel_rfl
theorem fm49_0 : ∀ (α : Type) (k : List RV → Option α), Fn49_0 f49_0 α k = pa49_0.unc fun ds => fnM Try.prog E49_0 sh49 cm49_0 rs49 k ds := fm49_0g f91_0 f103_0 f29_0 L49_0_2

theorem is49 : FnIs Try.prog 49 nt49 tr49 tl49 cm49_0.erase rs49 := ⟨Try.f49, Try.func49, rfl, by kernel_rfl, by kernel_rfl, by kernel_rfl⟩
theorem io49_0 : InstOk Try.prog 49 nt49 ⟨pa49_0, Fn49_0 f49_0⟩ := inst_ok eo49_0 followsTry is49 ⟨⟨sh49, cm49_0, by kernel_rfl, gm49_0, fm49_0⟩⟩

/-! ### F82 etalon/etalonref06.ratio -/
abbrev nt82 : Nat := 38
def sh82 : List (Nat × List Sh) := [(9, [.int .i64]), (11, [.int .i64]), (13, [.int .i64]), (16, [.int .i64]), (18, [.int .i64]), (21, [.int .i64]), (23, [.int .i64]), (29, [.int .i64])]
def r82_2 : List AOper := [oO 2 (.box (.tmp 0)), oO 3 (.box (.tmp 1)), oO 4 (.alloc [(.d (.v (.int .i64 0))), (.d (.v (.int .i64 0)))]), oO 5 (.mv (.const (.int .i64 0)))]
def r82_4 : List AOper := [oO 8 (.faddr 0 (.tmp 3)), oO 9 (.load false 1 (.tmp 8)), oO 10 (.faddr 1 (.tmp 3)), oO 11 (.load false 1 (.tmp 10)), oM 6 9, oM 7 11]
def r82_7 : List AOper := [oO 12 (.faddr 0 (.tmp 2)), oO 13 (.load false 1 (.tmp 12)), oO 14 (.bin .geq 3 (.tmp 13) (.const (.int .i64 0)))]
def r82_9 : List AOper := [oO 15 (.faddr 1 (.tmp 3)), oO 16 (.load false 1 (.tmp 15)), oM 6 16]
def r82_12 : List AOper := [oO 17 (.faddr 1 (.tmp 2)), oO 18 (.load false 1 (.tmp 17)), oO 19 (.bin .geq 3 (.tmp 18) (.const (.int .i64 0)))]
def r82_14 : List AOper := [oO 20 (.faddr 0 (.tmp 3)), oO 21 (.load false 1 (.tmp 20)), oM 7 21]
def r82_16 : List AOper := [oO 22 (.faddr 0 (.tmp 2)), oO 23 (.load false 1 (.tmp 22)), oO 24 (.bin .mul 3 (.const (.int .i64 2)) (.tmp 23)), oO 25 (.bin .mul 3 (.tmp 24) (.const (.int .i64 1048576))), oM 26 6, oO 27 (.call 99 [(.tmp 25), (.tmp 26)]), oO 28 (.faddr 1 (.tmp 2)), oO 29 (.load false 1 (.tmp 28)), oO 30 (.bin .mul 3 (.const (.int .i64 2)) (.tmp 29)), oO 31 (.bin .mul 3 (.tmp 30) (.const (.int .i64 1048576))), oM 32 7, oO 33 (.call 42 [(.tmp 31), (.tmp 32)]), oO 34 (.build [(.d (.v (.int .i64 0))), (.d (.v (.int .i64 0)))] [(0, 1, (.tmp 27)), (1, 1, (.tmp 33))]), oO 35 (.call 120 [(.tmp 34)]), oO 36 (.extract 0 (.tmp 35)), oO 37 (.extract 1 (.tmp 35)), ⟨none, (.store 2 (.tmp 4) (.tmp 36)), none⟩, oM 5 37]
def tr82 : List (Nat × Tidy) := [(0, ⟨[2, 3, 4], true, [], []⟩), (1, ⟨[2, 3, 4, 6, 7], true, [], []⟩), (2, ⟨[2, 3, 4, 6, 7, 14], true, [], []⟩), (3, ⟨[2, 3, 4, 6, 7], true, [], []⟩), (4, ⟨[2, 3, 4, 6, 7, 19], true, [], []⟩), (5, ⟨[2, 4, 6, 7], true, [], []⟩), (6, ⟨[4, 5], true, [], []⟩)]
def tl82 : List (Nat × Tidy) := []
def rs82 : List AResV := [.cell 4 true 2, .tmp 5]
def p82_0_0 : PT St := pS [sl 2 (aV false [(cPtr 2 0)]), sl 3 (aV false [(cPtr 3 0)]), sl 4 (aV false [(cPtr 4 0)]), sl 6 (aV false [(cD (dI .i64))]), sl 7 (aV false [(cD (dI .i64))])] [eBox 2 [(cD (dI .i64)), (cD (dI .i64))], eBox 3 [(cD (dI .i64)), (cD (dI .i64))], eBox 4 [(cD (dI .i64)), (cD (dI .i64))]]
def u82_0_0 {β : Type} (g : St → β) : Int → Int → Int → Int → Int → Int → Int → Int → β := p82_0_0.unc g

def p82_0_1 : PT St := pS [sl 2 (aV false [(cPtr 2 0)]), sl 3 (aV false [(cPtr 3 0)]), sl 4 (aV false [(cPtr 4 0)]), sl 6 (aV false [(cD (dI .i64))]), sl 7 (aV false [(cD (dI .i64))]), sl 14 (aV false [(cD dB)])] [eBox 2 [(cD (dI .i64)), (cD (dI .i64))], eBox 3 [(cD (dI .i64)), (cD (dI .i64))], eBox 4 [(cD (dI .i64)), (cD (dI .i64))]]
def u82_0_1 {β : Type} (g : St → β) : Int → Int → Bool → Int → Int → Int → Int → Int → Int → β := p82_0_1.unc g

def p82_0_2 : PT St := pS [sl 2 (aV false [(cPtr 2 0)]), sl 4 (aV false [(cPtr 4 0)]), sl 6 (aV false [(cD (dI .i64))]), sl 7 (aV false [(cD (dI .i64))])] [eBox 2 [(cD (dI .i64)), (cD (dI .i64))], eBox 4 [(cD (dI .i64)), (cD (dI .i64))]]
def u82_0_2 {β : Type} (g : St → β) : Int → Int → Int → Int → Int → Int → β := p82_0_2.unc g

def p82_0_3 : PT St := pS [sl 2 (aV false [(cPtr 2 0)]), sl 3 (aV false [(cPtr 3 0)]), sl 4 (aV false [(cPtr 4 0)]), sl 6 (aV false [(cD (dI .i64))]), sl 7 (aV false [(cD (dI .i64))]), sl 19 (aV false [(cD dB)])] [eBox 2 [(cD (dI .i64)), (cD (dI .i64))], eBox 3 [(cD (dI .i64)), (cD (dI .i64))], eBox 4 [(cD (dI .i64)), (cD (dI .i64))]]
def u82_0_3 {β : Type} (g : St → β) : Int → Int → Bool → Int → Int → Int → Int → Int → Int → β := p82_0_3.unc g

def pr82_0_0 : PT (List RV) := pRs [pR true [rD (dI .i64), rD (dI .i64)], pR false [rD (dI .i64)]]
def ur82_0_0 {β : Type} (g : List RV → β) : Int → Int → Int → β := pr82_0_0.unc g

def E82_0g (vf99_0 : Tf99_0) (vf42_0 : Tf42_0) (vf120_0 : Tf120_0) : EnvK := EnvK.of [⟨99, nt99, [⟨pa99_0, Fn99_0 vf99_0⟩]⟩, ⟨42, nt42, [⟨pa42_0, Fn42_0 vf42_0⟩]⟩, ⟨120, nt120, [⟨pa120_0, Fn120_0 vf120_0⟩]⟩] noSeq
noncomputable def E82_0 : EnvK := E82_0g f99_0 f42_0 f120_0
theorem eo82_0 : E82_0.Ok Try.prog := EnvK.of_ok noSeq_ok ⟨⟨io99_0, trivial⟩, ⟨io42_0, trivial⟩, ⟨io120_0, trivial⟩, trivial⟩

noncomputable def c82_0_10g  : MCode := (.seq (.region r82_12 [] (some ⟨[2, 3, 4, 6, 7, 19], true, [], []⟩)) (.cond (.tmp 19) (.region r82_14 [] (some ⟨[2, 4, 6, 7], true, [], []⟩)) .skip))
noncomputable def c82_0_10 : MCode := c82_0_10g 
theorem g82_0_10 : c82_0_10.Good Try.prog E82_0 sh82 := ⟨trivial, ⟨trivial, trivial⟩⟩
--CODE 10 0
abbrev TJ82_0_1 : Type 1 := (α : Type) → Int → (Option α) → (Bool → Option α) → Option α
def J82_0_1g  (α : Type) (x19 : Int) (k1 : Option α) (k2 : Bool → Option α) : Option α :=
 cK (decide (0 ≤ x19))
 (k1)
 (k2 (decide (0 ≤ x19)))
noncomputable def J82_0_1 (α : Type) (x19 : Int) (k1 : Option α) (k2 : Bool → Option α) : Option α := J82_0_1g  α x19 k1 k2
def F82_0_1 (v : TJ82_0_1) (α : Type) (K : Exit → St → Option α) : Int → Int → Int → Int → Int → Int → Int → Int → Option α := fun x16 x17 x18 x19 x20 x21 x22 x23 => v α x19 (u82_0_2 (K .normal) x16 x20 x18 x19 x22 x23) (fun (y1 : Bool) => u82_0_3 (K .normal) x16 x17 y1 x18 x19 x20 x21 x22 x23) 
theorem m82_0_1g (vf99_0 : Tf99_0) (vf42_0 : Tf42_0) (vf120_0 : Tf120_0)  (α : Type) (K : Exit → St → Option α) : F82_0_1 (J82_0_1g ) α K = p82_0_0.unc fun σ => runM Try.prog (E82_0g vf99_0 vf42_0 vf120_0) sh82 (c82_0_10g ) K σ := by kernel_rfl
theorem m82_0_1 : ∀ (α : Type) (K : Exit → St → Option α), F82_0_1 J82_0_1 α K = p82_0_0.unc fun σ => runM Try.prog E82_0 sh82 c82_0_10 K σ := m82_0_1g f99_0 f42_0 f120_0
--CODE 10 0
abbrev TJ82_0_2 : Type 1 := (α : Type) → Int → (Option α) → (Bool → Option α) → Option α
def J82_0_2g  (α : Type) (x41 : Int) (k1 : Option α) (k2 : Bool → Option α) : Option α :=
 cK (decide (0 ≤ x41))
 (k1)
 (k2 (decide (0 ≤ x41)))
noncomputable def J82_0_2 (α : Type) (x41 : Int) (k1 : Option α) (k2 : Bool → Option α) : Option α := J82_0_2g  α x41 k1 k2
def F82_0_2 (v : TJ82_0_2) (α : Type) (K : Exit → St → Option α) : Int → Int → Bool → Int → Int → Int → Int → Int → Int → Option α := fun x37 x38 x39 x40 x41 x42 x43 x44 x45 => v α x41 (u82_0_2 (K .normal) x37 x42 x40 x41 x44 x45) (fun (y1 : Bool) => u82_0_3 (K .normal) x37 x38 y1 x40 x41 x42 x43 x44 x45) 
theorem m82_0_2g (vf99_0 : Tf99_0) (vf42_0 : Tf42_0) (vf120_0 : Tf120_0)  (α : Type) (K : Exit → St → Option α) : F82_0_2 (J82_0_2g ) α K = p82_0_1.unc fun σ => runM Try.prog (E82_0g vf99_0 vf42_0 vf120_0) sh82 (c82_0_10g ) K σ := by kernel_rfl
theorem m82_0_2 : ∀ (α : Type) (K : Exit → St → Option α), F82_0_2 J82_0_2 α K = p82_0_1.unc fun σ => runM Try.prog E82_0 sh82 c82_0_10 K σ := m82_0_2g f99_0 f42_0 f120_0

noncomputable def c82_0_5g  : MCode := (.seq (.region r82_7 [] (some ⟨[2, 3, 4, 6, 7, 14], true, [], []⟩)) (.cond (.tmp 14) (.region r82_9 [] (some ⟨[2, 3, 4, 6, 7], true, [], []⟩)) .skip))
noncomputable def c82_0_5 : MCode := c82_0_5g 
theorem g82_0_5 : c82_0_5.Good Try.prog E82_0 sh82 := ⟨trivial, ⟨trivial, trivial⟩⟩
--CODE 5 0
abbrev TJ82_0_0 : Type 1 := (α : Type) → Int → (Option α) → (Bool → Option α) → Option α
def J82_0_0g  (α : Type) (x7 : Int) (k1 : Option α) (k2 : Bool → Option α) : Option α :=
 cK (decide (0 ≤ x7))
 (k1)
 (k2 (decide (0 ≤ x7)))
noncomputable def J82_0_0 (α : Type) (x7 : Int) (k1 : Option α) (k2 : Bool → Option α) : Option α := J82_0_0g  α x7 k1 k2
def F82_0_0 (v : TJ82_0_0) (α : Type) (K : Exit → St → Option α) : Int → Int → Int → Int → Int → Int → Int → Int → Option α := fun x5 x6 x7 x8 x9 x10 x11 x12 => v α x7 (u82_0_0 (K .normal) x10 x6 x7 x8 x9 x10 x11 x12) (fun (y1 : Bool) => u82_0_1 (K .normal) x5 x6 y1 x7 x8 x9 x10 x11 x12) 
theorem m82_0_0g (vf99_0 : Tf99_0) (vf42_0 : Tf42_0) (vf120_0 : Tf120_0)  (α : Type) (K : Exit → St → Option α) : F82_0_0 (J82_0_0g ) α K = p82_0_0.unc fun σ => runM Try.prog (E82_0g vf99_0 vf42_0 vf120_0) sh82 (c82_0_5g ) K σ := by kernel_rfl
theorem m82_0_0 : ∀ (α : Type) (K : Exit → St → Option α), F82_0_0 J82_0_0 α K = p82_0_0.unc fun σ => runM Try.prog E82_0 sh82 c82_0_5 K σ := m82_0_0g f99_0 f42_0 f120_0

/-- etalon/etalonref06.ratio -/
abbrev Tf82_0 : Type 1 := (α : Type) → Int → Int → Int → Int → (Int → Int → Int → Option α) → Option α
def f82_0g (vJ82_0_0 : TJ82_0_0) (vJ82_0_1 : TJ82_0_1) (vJ82_0_2 : TJ82_0_2) (vf120_0 : Tf120_0) (vf42_0 : Tf42_0) (vf99_0 : Tf99_0) (α : Type) (x1 : Int) (x2 : Int) (x3 : Int) (x4 : Int) (k1 : Int → Int → Int → Option α) : Option α :=
 vJ82_0_0 α x1
 (vJ82_0_1 α x2
 (vf99_0 α (w64 ((w64 (2 * x1)) * 1048576)) x4
 (fun (x27 : Int) => vf42_0 α (w64 ((w64 (2 * x2)) * 1048576)) x3
 (fun (x28 : Int) => vf120_0 α x27 x28
 (fun (x29 : Int) (x30 : Int) (x31 : Int) => k1 x29 x30 x31))))
 (fun (x25 : Bool) => vf99_0 α (w64 ((w64 (2 * x1)) * 1048576)) x4
 (fun (x32 : Int) => vf42_0 α (w64 ((w64 (2 * x2)) * 1048576)) x4
 (fun (x33 : Int) => vf120_0 α x32 x33
 (fun (x34 : Int) (x35 : Int) (x36 : Int) => k1 x34 x35 x36)))))
 (fun (x14 : Bool) => vJ82_0_2 α x2
 (vf99_0 α (w64 ((w64 (2 * x1)) * 1048576)) x3
 (fun (x49 : Int) => vf42_0 α (w64 ((w64 (2 * x2)) * 1048576)) x3
 (fun (x50 : Int) => vf120_0 α x49 x50
 (fun (x51 : Int) (x52 : Int) (x53 : Int) => k1 x51 x52 x53))))
 (fun (x47 : Bool) => vf99_0 α (w64 ((w64 (2 * x1)) * 1048576)) x3
 (fun (x54 : Int) => vf42_0 α (w64 ((w64 (2 * x2)) * 1048576)) x4
 (fun (x55 : Int) => vf120_0 α x54 x55
 (fun (x56 : Int) (x57 : Int) (x58 : Int) => k1 x56 x57 x58)))))
noncomputable def f82_0 (α : Type) (x1 : Int) (x2 : Int) (x3 : Int) (x4 : Int) (k1 : Int → Int → Int → Option α) : Option α := f82_0g J82_0_0 J82_0_1 J82_0_2 f120_0 f42_0 f99_0 α x1 x2 x3 x4 k1
def pa82_0 : PT (List DV) := pA [pV true [(dI .i64), (dI .i64)], pV true [(dI .i64), (dI .i64)]]
def Fn82_0 (v : Tf82_0) (α : Type) (k : List RV → Option α) : Int → Int → Int → Int → Option α := fun x1 x2 x3 x4 => v α x1 x2 x3 x4 (fun (y1 : Int) (y2 : Int) (y3 : Int) => ur82_0_0 k y1 y2 y3)
noncomputable def cm82_0g (vJ82_0_0 : TJ82_0_0) (vJ82_0_1 : TJ82_0_1) (vJ82_0_2 : TJ82_0_2) : MCode := (.seq (.region r82_2 [] (some ⟨[2, 3, 4], true, [], []⟩)) (.seq (.region r82_4 [] (some ⟨[2, 3, 4, 6, 7], true, [], []⟩)) (.seq (.mark [⟨p82_0_0, F82_0_0 vJ82_0_0⟩] c82_0_5) (.seq (.mark [⟨p82_0_0, F82_0_1 vJ82_0_1⟩, ⟨p82_0_1, F82_0_2 vJ82_0_2⟩] c82_0_10) (.seq (.region r82_16 [(5, 7)] (some ⟨[4, 5], true, [], []⟩)) .ret)))))
noncomputable def cm82_0 : MCode := cm82_0g J82_0_0 J82_0_1 J82_0_2
theorem gm82_0 : cm82_0.Good Try.prog E82_0 sh82 := ⟨trivial, ⟨trivial, ⟨⟨g82_0_5, m82_0_0, trivial⟩, ⟨⟨g82_0_10, m82_0_1, m82_0_2, trivial⟩, ⟨trivial, trivial⟩⟩⟩⟩⟩
theorem fm82_0g (vf99_0 : Tf99_0) (vf42_0 : Tf42_0) (vf120_0 : Tf120_0) (vJ82_0_0 : TJ82_0_0) (vJ82_0_1 : TJ82_0_1) (vJ82_0_2 : TJ82_0_2) (α : Type) (k : List RV → Option α) : Fn82_0 (f82_0g vJ82_0_0 vJ82_0_1 vJ82_0_2 vf120_0 vf42_0 vf99_0) α k = pa82_0.unc fun ds => fnM Try.prog (E82_0g vf99_0 vf42_0 vf120_0) sh82 (cm82_0g vJ82_0_0 vJ82_0_1 vJ82_0_2) rs82 k ds := by kernel_rfl
theorem fm82_0 : ∀ (α : Type) (k : List RV → Option α), Fn82_0 f82_0 α k = pa82_0.unc fun ds => fnM Try.prog E82_0 sh82 cm82_0 rs82 k ds := fm82_0g f99_0 f42_0 f120_0 J82_0_0 J82_0_1 J82_0_2

theorem is82 : FnIs Try.prog 82 nt82 tr82 tl82 cm82_0.erase rs82 := ⟨Try.f82, Try.func82, rfl, by kernel_rfl, by kernel_rfl, by kernel_rfl⟩
theorem io82_0 : InstOk Try.prog 82 nt82 ⟨pa82_0, Fn82_0 f82_0⟩ := inst_ok eo82_0 followsTry is82 ⟨⟨sh82, cm82_0, by kernel_rfl, gm82_0, fm82_0⟩⟩

/-! ### F24 etalon/etalonref06.CheckSums -/
abbrev nt24 : Nat := 34
def sh24 : List (Nat × List Sh) := [(5, [.int .i64, .int .i64, .int .i64, .int .i64, .int .i64, .int .i64]), (14, [.int .i64]), (21, [.int .i64]), (28, [.int .i64]), (32, [.int .i64])]
def r24_2 : List AOper := [oO 1 (.box (.tmp 0)), oO 2 (.mv (.const (.int .i64 0)))]
def r24_4 : List AOper := [oO 5 (.load true 6 (.tmp 1)), oO 6 (.call 80 [(.tmp 5)]), oO 3 (.alloc [(.d (.v (.int .i64 0))), (.d (.v (.int .i64 0))), (.d (.v (.int .i64 0))), (.d (.v (.int .i64 0))), (.d (.v (.int .i64 0))), (.d (.v (.int .i64 0)))]), ⟨none, (.store 6 (.tmp 3) (.tmp 6)), none⟩]
def r24_7 : List AOper := [oO 4 (.mv (.const (.int .i64 0)))]
def td24_9 : Option Tidy := (some ⟨[3, 4], true, [], []⟩)
def r24_12 : List AOper := [oM 7 4, oO 8 (.bin .lss 3 (.tmp 7) (.const (.int .i64 3)))]
def r24_18 : List AOper := [oM 11 4, oO 12 (.iaddr 2 (some 3) (.tmp 3) (.tmp 11)), oO 13 (.faddr 0 (.tmp 12)), oO 14 (.load false 1 (.tmp 13)), oO 15 (.call 81 [(.tmp 14)]), oO 16 (.pure (oB (.unOp .not 4 (.tmp 15)) 4)), oM 17 16, ⟨(some 18), (.mv (.tmp 4)), (some (17, false))⟩, ⟨(some 19), (.iaddr 2 (some 3) (.tmp 3) (.tmp 18)), (some (17, false))⟩, ⟨(some 20), (.faddr 1 (.tmp 19)), (some (17, false))⟩, ⟨(some 21), (.load false 1 (.tmp 20)), (some (17, false))⟩, ⟨(some 22), (.call 81 [(.tmp 21)]), (some (17, false))⟩, ⟨(some 23), (.pure (oB (.unOp .not 4 (.tmp 22)) 4)), (some (17, false))⟩, oO 24 (.pick (.tmp 17) (.const (.bool true)) (.tmp 23))]
def r24_21 : List AOper := [oO 2 (.mv (.const (.int .i64 2)))]
def r24_23 : List AOper := [oM 25 4, oO 26 (.iaddr 2 (some 3) (.tmp 3) (.tmp 25)), oO 27 (.faddr 0 (.tmp 26)), oO 28 (.load false 1 (.tmp 27)), oM 29 4, oO 30 (.iaddr 2 (some 3) (.tmp 3) (.tmp 29)), oO 31 (.faddr 1 (.tmp 30)), oO 32 (.load false 1 (.tmp 31)), oO 33 (.bin .gtr 3 (.tmp 28) (.tmp 32))]
def r24_26 : List AOper := [oO 2 (.mv (.const (.int .i64 10)))]
def r24_27 : List AOper := [oM 9 4, oO 10 (.bin .add 3 (.tmp 9) (.const (.int .i64 1))), oM 4 10]
def r24_29 : List AOper := [oO 2 (.mv (.const (.int .i64 0)))]
def tr24 : List (Nat × Tidy) := [(0, ⟨[1], true, [], []⟩), (1, ⟨[3], true, [], []⟩), (2, ⟨[3, 4], true, [], []⟩), (3, ⟨[3, 4, 8], true, [], []⟩), (5, ⟨[3, 4, 24], true, [], []⟩), (6, ⟨[2], true, [], []⟩), (7, ⟨[3, 4, 33], true, [], []⟩), (8, ⟨[2], true, [], []⟩), (4, ⟨[3, 4], true, [], []⟩), (9, ⟨[2], true, [], []⟩)]
def tl24 : List (Nat × Tidy) := [(3, ⟨[3, 4], true, [], []⟩)]
def rs24 : List AResV := [.tmp 2]
def p24_0_0 : PT St := pS [sl 3 (aV false [(cPtr 3 0)]), sl 4 (aV false [(cD (dI .i64))]), sl 8 (aV false [(cD dB)])] [eBox 3 [(cD (dI .i64)), (cD (dI .i64)), (cD (dI .i64)), (cD (dI .i64)), (cD (dI .i64)), (cD (dI .i64))]]
def u24_0_0 {β : Type} (g : St → β) : Int → Bool → Int → Int → Int → Int → Int → Int → β := p24_0_0.unc g

def p24_0_1 : PT St := pS [sl 3 (aV false [(cPtr 3 0)]), sl 4 (aV false [(cD (dI .i64))]), sl 24 (aV false [(cD dB)])] [eBox 3 [(cD (dI .i64)), (cD (dI .i64)), (cD (dI .i64)), (cD (dI .i64)), (cD (dI .i64)), (cD (dI .i64))]]
def u24_0_1 {β : Type} (g : St → β) : Int → Bool → Int → Int → Int → Int → Int → Int → β := p24_0_1.unc g

def p24_0_2 : PT St := pS [sl 3 (aV false [(cPtr 3 0)]), sl 4 (aV false [(cD (dI .i64))]), sl 33 (aV false [(cD dB)])] [eBox 3 [(cD (dI .i64)), (cD (dI .i64)), (cD (dI .i64)), (cD (dI .i64)), (cD (dI .i64)), (cD (dI .i64))]]
def u24_0_2 {β : Type} (g : St → β) : Int → Bool → Int → Int → Int → Int → Int → Int → β := p24_0_2.unc g

def p24_0_3 : PT St := pS [sl 3 (aV false [(cPtr 3 0)]), sl 4 (aV false [(cD (dI .i64))])] [eBox 3 [(cD (dI .i64)), (cD (dI .i64)), (cD (dI .i64)), (cD (dI .i64)), (cD (dI .i64)), (cD (dI .i64))]]
def u24_0_3 {β : Type} (g : St → β) : Int → Int → Int → Int → Int → Int → Int → β := p24_0_3.unc g

def p24_0_4 : PT St := pS [sl 2 (aV false [(cD (dI .i64))])] []
def u24_0_4 {β : Type} (g : St → β) : Int → β := p24_0_4.unc g

def pr24_0_0 : PT (List RV) := pRs [pR false [rD (dI .i64)]]
def ur24_0_0 {β : Type} (g : List RV → β) : Int → β := pr24_0_0.unc g

def E24_0g (vf80_0 : Tf80_0) (vf81_0 : Tf81_0) : EnvK := EnvK.of [⟨80, nt80, [⟨pa80_0, Fn80_0 vf80_0⟩]⟩, ⟨81, nt81, [⟨pa81_0, Fn81_0 vf81_0⟩]⟩] noSeq
noncomputable def E24_0 : EnvK := E24_0g f80_0 f81_0
theorem eo24_0 : E24_0.Ok Try.prog := EnvK.of_ok noSeq_ok ⟨⟨io80_0, trivial⟩, ⟨io81_0, trivial⟩, trivial⟩

noncomputable def c24_0_22g  : MCode := (.region r24_23 [] (some ⟨[3, 4, 33], true, [], []⟩))
noncomputable def c24_0_22 : MCode := c24_0_22g 
theorem g24_0_22 : c24_0_22.Good Try.prog E24_0 sh24 := trivial
--CODE 22 0
abbrev TJ24_0_1 : Type 1 := (α : Type) → Int → Int → Int → Int → Int → Int → Int → (Bool → Option α) → Option α
def J24_0_1g  (α : Type) (x44 : Int) (x46 : Int) (x47 : Int) (x48 : Int) (x49 : Int) (x50 : Int) (x51 : Int) (k1 : Bool → Option α) : Option α :=
 cK (x44 == 2)
 (cK (x44 == 2)
 (k1 (decide (x51 < x50)))
 (cK (x44 == 1)
 (k1 (decide (x49 < x50)))
 (cK (x44 == 0)
 (k1 (decide (x47 < x50)))
 (none))))
 (cK (x44 == 1)
 (cK (x44 == 2)
 (k1 (decide (x51 < x48)))
 (cK (x44 == 1)
 (k1 (decide (x49 < x48)))
 (cK (x44 == 0)
 (k1 (decide (x47 < x48)))
 (none))))
 (cK (x44 == 0)
 (cK (x44 == 2)
 (k1 (decide (x51 < x46)))
 (cK (x44 == 1)
 (k1 (decide (x49 < x46)))
 (cK (x44 == 0)
 (k1 (decide (x47 < x46)))
 (none))))
 (none)))
noncomputable def J24_0_1 (α : Type) (x44 : Int) (x46 : Int) (x47 : Int) (x48 : Int) (x49 : Int) (x50 : Int) (x51 : Int) (k1 : Bool → Option α) : Option α := J24_0_1g  α x44 x46 x47 x48 x49 x50 x51 k1
def F24_0_1 (v : TJ24_0_1) (α : Type) (K : Exit → St → Option α) : Int → Bool → Int → Int → Int → Int → Int → Int → Option α := fun x44 x45 x46 x47 x48 x49 x50 x51 => v α x44 x46 x47 x48 x49 x50 x51 (fun (y1 : Bool) => u24_0_2 (K .normal) x44 y1 x46 x47 x48 x49 x50 x51) 
theorem m24_0_1g (vf80_0 : Tf80_0) (vf81_0 : Tf81_0)  (α : Type) (K : Exit → St → Option α) : F24_0_1 (J24_0_1g ) α K = p24_0_1.unc fun σ => runM Try.prog (E24_0g vf80_0 vf81_0) sh24 (c24_0_22g ) K σ := by kernel_rfl
theorem m24_0_1 : ∀ (α : Type) (K : Exit → St → Option α), F24_0_1 J24_0_1 α K = p24_0_1.unc fun σ => runM Try.prog E24_0 sh24 c24_0_22 K σ := m24_0_1g f80_0 f81_0

noncomputable def c24_0_17g  : MCode := (.region r24_18 [] (some ⟨[3, 4, 24], true, [], []⟩))
noncomputable def c24_0_17 : MCode := c24_0_17g 
theorem g24_0_17 : c24_0_17.Good Try.prog E24_0 sh24 := trivial
--CODE 17 0
abbrev TJ24_0_0 : Type 1 := (α : Type) → Int → Int → Int → Int → Int → Int → Int → (Bool → Option α) → Option α
def J24_0_0g (vf81_0 : Tf81_0) (α : Type) (x21 : Int) (x23 : Int) (x24 : Int) (x25 : Int) (x26 : Int) (x27 : Int) (x28 : Int) (k1 : Bool → Option α) : Option α :=
 cK (x21 == 2)
 (vf81_0 α x27
 (fun (x30 : Bool) => cK (!x30)
 (k1 true)
 (cK (x21 == 2)
 (vf81_0 α x28
 (fun (x31 : Bool) => k1 (!x31)))
 (cK (x21 == 1)
 (vf81_0 α x26
 (fun (x32 : Bool) => k1 (!x32)))
 (cK (x21 == 0)
 (vf81_0 α x24
 (fun (x33 : Bool) => k1 (!x33)))
 (none))))))
 (cK (x21 == 1)
 (vf81_0 α x25
 (fun (x34 : Bool) => cK (!x34)
 (k1 true)
 (cK (x21 == 2)
 (vf81_0 α x28
 (fun (x35 : Bool) => k1 (!x35)))
 (cK (x21 == 1)
 (vf81_0 α x26
 (fun (x36 : Bool) => k1 (!x36)))
 (cK (x21 == 0)
 (vf81_0 α x24
 (fun (x37 : Bool) => k1 (!x37)))
 (none))))))
 (cK (x21 == 0)
 (vf81_0 α x23
 (fun (x38 : Bool) => cK (!x38)
 (k1 true)
 (cK (x21 == 2)
 (vf81_0 α x28
 (fun (x39 : Bool) => k1 (!x39)))
 (cK (x21 == 1)
 (vf81_0 α x26
 (fun (x40 : Bool) => k1 (!x40)))
 (cK (x21 == 0)
 (vf81_0 α x24
 (fun (x41 : Bool) => k1 (!x41)))
 (none))))))
 (none)))
noncomputable def J24_0_0 (α : Type) (x21 : Int) (x23 : Int) (x24 : Int) (x25 : Int) (x26 : Int) (x27 : Int) (x28 : Int) (k1 : Bool → Option α) : Option α := J24_0_0g f81_0 α x21 x23 x24 x25 x26 x27 x28 k1
def F24_0_0 (v : TJ24_0_0) (α : Type) (K : Exit → St → Option α) : Int → Bool → Int → Int → Int → Int → Int → Int → Option α := fun x21 x22 x23 x24 x25 x26 x27 x28 => v α x21 x23 x24 x25 x26 x27 x28 (fun (y1 : Bool) => u24_0_1 (K .normal) x21 y1 x23 x24 x25 x26 x27 x28) 
theorem m24_0_0g (vf80_0 : Tf80_0) (vf81_0 : Tf81_0)  (α : Type) (K : Exit → St → Option α) : F24_0_0 (J24_0_0g vf81_0) α K = p24_0_0.unc fun σ => runM Try.prog (E24_0g vf80_0 vf81_0) sh24 (c24_0_17g ) K σ := by kernel_rfl
theorem m24_0_0 : ∀ (α : Type) (K : Exit → St → Option α), F24_0_0 J24_0_0 α K = p24_0_0.unc fun σ => runM Try.prog E24_0 sh24 c24_0_17 K σ := m24_0_0g f80_0 f81_0

noncomputable def c24_0_9g (vJ24_0_0 : TJ24_0_0) (vJ24_0_1 : TJ24_0_1) : MCode := (.seq (.seq (.region r24_12 [] (some ⟨[3, 4, 8], true, [], []⟩)) (.cond (.tmp 8) .skip (.exit 0))) (.seq (.block 1 (.seq (.seq (.mark [⟨p24_0_0, F24_0_0 vJ24_0_0⟩] c24_0_17) (.cond (.tmp 24) (.seq (.region r24_21 [] (some ⟨[2], true, [], []⟩)) .ret) .skip)) (.seq (.mark [⟨p24_0_1, F24_0_1 vJ24_0_1⟩] c24_0_22) (.cond (.tmp 33) (.seq (.region r24_26 [] (some ⟨[2], true, [], []⟩)) .ret) .skip)))) (.region r24_27 [] (some ⟨[3, 4], true, [], []⟩))))
noncomputable def c24_0_9 : MCode := c24_0_9g J24_0_0 J24_0_1
theorem g24_0_9 : c24_0_9.Good Try.prog E24_0 sh24 := ⟨⟨trivial, ⟨trivial, trivial⟩⟩, ⟨⟨⟨⟨g24_0_17, m24_0_0, trivial⟩, ⟨⟨trivial, trivial⟩, trivial⟩⟩, ⟨⟨g24_0_22, m24_0_1, trivial⟩, ⟨⟨trivial, trivial⟩, trivial⟩⟩⟩, trivial⟩⟩
--CODE 9 0
def S24_0_2g (vJ24_0_0 : TJ24_0_0) (vJ24_0_1 : TJ24_0_1) (α : Type) (x14 : Int) (x15 : Int) (x16 : Int) (x17 : Int) (x18 : Int) (x19 : Int) (x13 : Int) (kn : Int → Option α) (k1 : Int → Option α) (k2 : Int → Bool → Option α) : Option α :=
 cK (decide (x13 < 3))
 (vJ24_0_0 α x13 x14 x15 x16 x17 x18 x19
 (fun (x42 : Bool) => cK x42
 (k1 2)
 (vJ24_0_1 α x13 x14 x15 x16 x17 x18 x19
 (fun (x53 : Bool) => cK x53
 (k1 10)
 (kn (w64 (x13 + 1)))))))
 (k2 x13 (decide (x13 < 3)))
noncomputable def S24_0_2 (α : Type) (x14 : Int) (x15 : Int) (x16 : Int) (x17 : Int) (x18 : Int) (x19 : Int) (x13 : Int) (kn : Int → Option α) (k1 : Int → Option α) (k2 : Int → Bool → Option α) : Option α := S24_0_2g J24_0_0 J24_0_1 α x14 x15 x16 x17 x18 x19 x13 kn k1 k2
noncomputable def R24_0_2 (α : Type) (x14 : Int) (x15 : Int) (x16 : Int) (x17 : Int) (x18 : Int) (x19 : Int) (k1 : Int → Option α) (k2 : Int → Bool → Option α) : Nat → Int → Option α
 | 0, _ => none
 | n + 1, x13 => S24_0_2 α x14 x15 x16 x17 x18 x19 x13 (R24_0_2 α x14 x15 x16 x17 x18 x19 k1 k2 n) k1 k2
noncomputable def L24_0_2 (α : Type) (x14 : Int) (x15 : Int) (x16 : Int) (x17 : Int) (x18 : Int) (x19 : Int) (k1 : Int → Option α) (k2 : Int → Bool → Option α) (x13 : Int) : Option α := R24_0_2 α x14 x15 x16 x17 x18 x19 k1 k2 fuel x13
abbrev TL24_0_2 : Type 1 := (α : Type) → Int → Int → Int → Int → Int → Int → (Int → Option α) → (Int → Bool → Option α) → Int → Option α
def F24_0_2 (v : TL24_0_2) (α : Type) (K : Exit → St → Option α) : Int → Int → Int → Int → Int → Int → Int → Option α := fun x13 x14 x15 x16 x17 x18 x19 => v α x14 x15 x16 x17 x18 x19 (fun (y1 : Int) => u24_0_4 (K .ret) y1) (fun (y1 : Int) (y2 : Bool) => u24_0_0 (K (.exit 0)) y1 y2 x14 x15 x16 x17 x18 x19) x13
theorem r24_0_2g (vf80_0 : Tf80_0) (vf81_0 : Tf81_0) (vJ24_0_0 : TJ24_0_0) (vJ24_0_1 : TJ24_0_1) (α : Type) (K : Exit → St → Option α) (Kn : St → Option α) (x13 : Int) (x14 : Int) (x15 : Int) (x16 : Int) (x17 : Int) (x18 : Int) (x19 : Int) : u24_0_3 (fun σ => runM Try.prog (E24_0g vf80_0 vf81_0) sh24 (c24_0_9g vJ24_0_0 vJ24_0_1) (thenK (fun σ => tidyK td24_9 σ Kn) K) σ) x13 x14 x15 x16 x17 x18 x19 = S24_0_2g vJ24_0_0 vJ24_0_1 α x14 x15 x16 x17 x18 x19 x13 (fun x13 => u24_0_3 Kn x13 x14 x15 x16 x17 x18 x19) (fun (y1 : Int) => u24_0_4 (K .ret) y1) (fun (y1 : Int) (y2 : Bool) => u24_0_0 (K (.exit 0)) y1 y2 x14 x15 x16 x17 x18 x19) := by kernel_rfl
theorem r24_0_2 (α : Type) (K : Exit → St → Option α) (Kn : St → Option α) (x13 : Int) (x14 : Int) (x15 : Int) (x16 : Int) (x17 : Int) (x18 : Int) (x19 : Int) : u24_0_3 (fun σ => runM Try.prog E24_0 sh24 c24_0_9 (thenK (fun σ => tidyK td24_9 σ Kn) K) σ) x13 x14 x15 x16 x17 x18 x19 = S24_0_2 α x14 x15 x16 x17 x18 x19 x13 (fun x13 => u24_0_3 Kn x13 x14 x15 x16 x17 x18 x19) (fun (y1 : Int) => u24_0_4 (K .ret) y1) (fun (y1 : Int) (y2 : Bool) => u24_0_0 (K (.exit 0)) y1 y2 x14 x15 x16 x17 x18 x19) := r24_0_2g f80_0 f81_0 J24_0_0 J24_0_1 α K Kn x13 x14 x15 x16 x17 x18 x19
theorem t24_0_2 (α : Type) (K : Exit → St → Option α) : ∀ (n : Nat) (x13 : Int) (x14 : Int) (x15 : Int) (x16 : Int) (x17 : Int) (x18 : Int) (x19 : Int), R24_0_2 α x14 x15 x16 x17 x18 x19 (fun (y1 : Int) => u24_0_4 (K .ret) y1) (fun (y1 : Int) (y2 : Bool) => u24_0_0 (K (.exit 0)) y1 y2 x14 x15 x16 x17 x18 x19) n x13 = u24_0_3 (loopT (runM Try.prog E24_0 sh24 c24_0_9) td24_9 K n) x13 x14 x15 x16 x17 x18 x19 := by
 intro n
 induction n with
 | zero => intros; rfl
 | succ n ih => intro x13 x14 x15 x16 x17 x18 x19; exact (congrArg (fun kn => S24_0_2 α x14 x15 x16 x17 x18 x19 x13 kn (fun (y1 : Int) => u24_0_4 (K .ret) y1) (fun (y1 : Int) (y2 : Bool) => u24_0_0 (K (.exit 0)) y1 y2 x14 x15 x16 x17 x18 x19)) (funext fun x13 => ih x13 x14 x15 x16 x17 x18 x19)).trans (r24_0_2 α K (loopT (runM Try.prog E24_0 sh24 c24_0_9) td24_9 K n) x13 x14 x15 x16 x17 x18 x19).symm
theorem m24_0_2 : ∀ (α : Type) (K : Exit → St → Option α), F24_0_2 L24_0_2 α K = p24_0_3.unc fun σ => loopT (runM Try.prog E24_0 sh24 c24_0_9) td24_9 K fuel σ := fun α K => funext fun x13 => funext fun x14 => funext fun x15 => funext fun x16 => funext fun x17 => funext fun x18 => funext fun x19 => t24_0_2 α K fuel x13 x14 x15 x16 x17 x18 x19

/-- etalon/etalonref06.CheckSums -/
abbrev Tf24_0 : Type 1 := (α : Type) → Int → Int → Int → Int → Int → Int → (Int → Option α) → Option α
def f24_0g (vL24_0_2 : TL24_0_2) (vf80_0 : Tf80_0) (α : Type) (x1 : Int) (x2 : Int) (x3 : Int) (x4 : Int) (x5 : Int) (x6 : Int) (k1 : Int → Option α) : Option α :=
 vf80_0 α x1 x2 x3 x4 x5 x6
 (fun (x7 : Int) (x8 : Int) (x9 : Int) (x10 : Int) (x11 : Int) (x12 : Int) => vL24_0_2 α x7 x8 x9 x10 x11 x12
 (fun (x55 : Int) => k1 x55)
 (fun (x56 : Int) (x57 : Bool) => k1 0) 0)
noncomputable def f24_0 (α : Type) (x1 : Int) (x2 : Int) (x3 : Int) (x4 : Int) (x5 : Int) (x6 : Int) (k1 : Int → Option α) : Option α := f24_0g L24_0_2 f80_0 α x1 x2 x3 x4 x5 x6 k1
def pa24_0 : PT (List DV) := pA [pV true [(dI .i64), (dI .i64), (dI .i64), (dI .i64), (dI .i64), (dI .i64)]]
def Fn24_0 (v : Tf24_0) (α : Type) (k : List RV → Option α) : Int → Int → Int → Int → Int → Int → Option α := fun x1 x2 x3 x4 x5 x6 => v α x1 x2 x3 x4 x5 x6 (fun (y1 : Int) => ur24_0_0 k y1)
noncomputable def cm24_0g (vL24_0_2 : TL24_0_2) : MCode := (.seq (.region r24_2 [] (some ⟨[1], true, [], []⟩)) (.seq (.region r24_4 [] (some ⟨[3], true, [], []⟩)) (.seq (.seq (.region r24_7 [] (some ⟨[3, 4], true, [], []⟩)) (.block 0 (.loop td24_9 [⟨p24_0_3, F24_0_2 vL24_0_2⟩] c24_0_9))) (.seq (.region r24_29 [] (some ⟨[2], true, [], []⟩)) .ret))))
noncomputable def cm24_0 : MCode := cm24_0g L24_0_2
theorem gm24_0 : cm24_0.Good Try.prog E24_0 sh24 := ⟨trivial, ⟨trivial, ⟨⟨trivial, ⟨g24_0_9, m24_0_2, trivial⟩⟩, ⟨trivial, trivial⟩⟩⟩⟩
theorem fm24_0g (vf80_0 : Tf80_0) (vf81_0 : Tf81_0) (vL24_0_2 : TL24_0_2) (α : Type) (k : List RV → Option α) : Fn24_0 (f24_0g vL24_0_2 vf80_0) α k = pa24_0.unc fun ds => fnM Try.prog (E24_0g vf80_0 vf81_0) sh24 (cm24_0g vL24_0_2) rs24 k ds := by kernel_rfl
theorem fm24_0 : ∀ (α : Type) (k : List RV → Option α), Fn24_0 f24_0 α k = pa24_0.unc fun ds => fnM Try.prog E24_0 sh24 cm24_0 rs24 k ds := fm24_0g f80_0 f81_0 L24_0_2

theorem is24 : FnIs Try.prog 24 nt24 tr24 tl24 cm24_0.erase rs24 := ⟨Try.f24, Try.func24, rfl, by kernel_rfl, by kernel_rfl, by kernel_rfl⟩
theorem io24_0 : InstOk Try.prog 24 nt24 ⟨pa24_0, Fn24_0 f24_0⟩ := inst_ok eo24_0 followsTry is24 ⟨⟨sh24, cm24_0, by kernel_rfl, gm24_0, fm24_0⟩⟩

/-! ### F125 etalon/meter.rangeErr -/
abbrev nt125 : Nat := 24
def sh125 : List (Nat × List Sh) := [(7, [.int .i64]), (13, [.int .i64]), (20, [.int .i64]), (22, [.int .i64])]
def r125_2 : List AOper := [oO 2 (.box (.tmp 0)), oO 4 (.mv (.const (.int .i64 0)))]
def r125_6 : List AOper := [oO 6 (.faddr 0 (.tmp 2)), oO 7 (.load false 1 (.tmp 6)), oM 8 1, oO 9 (.call 109 [(.tmp 7), (.tmp 8)]), oO 10 (.pure (oB (.unOp .not 4 (.tmp 9)) 4)), oM 11 10, ⟨(some 12), (.faddr 1 (.tmp 2)), (some (11, false))⟩, ⟨(some 13), (.load false 1 (.tmp 12)), (some (11, false))⟩, ⟨(some 14), (.mv (.tmp 1)), (some (11, false))⟩, ⟨(some 15), (.call 109 [(.tmp 13), (.tmp 14)]), (some (11, false))⟩, ⟨(some 16), (.pure (oB (.unOp .not 4 (.tmp 15)) 4)), (some (11, false))⟩, oO 17 (.pick (.tmp 11) (.const (.bool true)) (.tmp 16)), oM 5 17]
def r125_9 : List AOper := [oO 4 (.mv (.const (.int .i64 2)))]
def r125_11 : List AOper := [oO 19 (.faddr 0 (.tmp 2)), oO 20 (.load false 1 (.tmp 19)), oO 21 (.faddr 1 (.tmp 2)), oO 22 (.load false 1 (.tmp 21)), oO 23 (.bin .gtr 3 (.tmp 20) (.tmp 22)), oM 18 23]
def r125_14 : List AOper := [oO 4 (.mv (.const (.int .i64 10)))]
def r125_16 : List AOper := [oO 4 (.mv (.const (.int .i64 0)))]
def tr125 : List (Nat × Tidy) := [(0, ⟨[1, 2], true, [], []⟩), (1, ⟨[2, 5], true, [], []⟩), (2, ⟨[4], true, [], []⟩), (3, ⟨[18], true, [], []⟩), (4, ⟨[4], true, [], []⟩), (5, ⟨[4], true, [], []⟩)]
def tl125 : List (Nat × Tidy) := []
def rs125 : List AResV := [.tmp 4]
def p125_0_0 : PT St := pS [sl 1 (aV false [(cD (dI .i64))]), sl 2 (aV false [(cPtr 2 0)])] [eBox 2 [(cD (dI .i64)), (cD (dI .i64))]]
def u125_0_0 {β : Type} (g : St → β) : Int → Int → Int → β := p125_0_0.unc g

def p125_0_1 : PT St := pS [sl 2 (aV false [(cPtr 2 0)]), sl 5 (aV false [(cD dB)])] [eBox 2 [(cD (dI .i64)), (cD (dI .i64))]]
def u125_0_1 {β : Type} (g : St → β) : Bool → Int → Int → β := p125_0_1.unc g

def pr125_0_0 : PT (List RV) := pRs [pR false [rD (dI .i64)]]
def ur125_0_0 {β : Type} (g : List RV → β) : Int → β := pr125_0_0.unc g

def E125_0g (vf109_0 : Tf109_0) : EnvK := EnvK.of [⟨109, nt109, [⟨pa109_0, Fn109_0 vf109_0⟩]⟩] noSeq
noncomputable def E125_0 : EnvK := E125_0g f109_0
theorem eo125_0 : E125_0.Ok Try.prog := EnvK.of_ok noSeq_ok ⟨⟨io109_0, trivial⟩, trivial⟩

noncomputable def c125_0_5g  : MCode := (.region r125_6 [] (some ⟨[2, 5], true, [], []⟩))
noncomputable def c125_0_5 : MCode := c125_0_5g 
theorem g125_0_5 : c125_0_5.Good Try.prog E125_0 sh125 := trivial
--CODE 5 0
abbrev TJ125_0_0 : Type 1 := (α : Type) → Int → Int → Int → (Bool → Option α) → Option α
def J125_0_0g (vf109_0 : Tf109_0) (α : Type) (x4 : Int) (x5 : Int) (x6 : Int) (k1 : Bool → Option α) : Option α :=
 vf109_0 α x5 x4
 (fun (x8 : Bool) => cK (!x8)
 (k1 true)
 (vf109_0 α x6 x4
 (fun (x9 : Bool) => k1 (!x9))))
noncomputable def J125_0_0 (α : Type) (x4 : Int) (x5 : Int) (x6 : Int) (k1 : Bool → Option α) : Option α := J125_0_0g f109_0 α x4 x5 x6 k1
def F125_0_0 (v : TJ125_0_0) (α : Type) (K : Exit → St → Option α) : Int → Int → Int → Option α := fun x4 x5 x6 => v α x4 x5 x6 (fun (y1 : Bool) => u125_0_1 (K .normal) y1 x5 x6) 
theorem m125_0_0g (vf109_0 : Tf109_0)  (α : Type) (K : Exit → St → Option α) : F125_0_0 (J125_0_0g vf109_0) α K = p125_0_0.unc fun σ => runM Try.prog (E125_0g vf109_0) sh125 (c125_0_5g ) K σ := by kernel_rfl
theorem m125_0_0 : ∀ (α : Type) (K : Exit → St → Option α), F125_0_0 J125_0_0 α K = p125_0_0.unc fun σ => runM Try.prog E125_0 sh125 c125_0_5 K σ := m125_0_0g f109_0

/-- etalon/meter.rangeErr -/
abbrev Tf125_0 : Type 1 := (α : Type) → Int → Int → Int → (Int → Option α) → Option α
def f125_0g (vJ125_0_0 : TJ125_0_0) (α : Type) (x1 : Int) (x2 : Int) (x3 : Int) (k1 : Int → Option α) : Option α :=
 vJ125_0_0 α x3 x1 x2
 (fun (x10 : Bool) => cK x10
 (k1 2)
 (cK (decide (x2 < x1))
 (k1 10)
 (k1 0)))
noncomputable def f125_0 (α : Type) (x1 : Int) (x2 : Int) (x3 : Int) (k1 : Int → Option α) : Option α := f125_0g J125_0_0 α x1 x2 x3 k1
def pa125_0 : PT (List DV) := pA [pV true [(dI .i64), (dI .i64)], pV false [(dI .i64)]]
def Fn125_0 (v : Tf125_0) (α : Type) (k : List RV → Option α) : Int → Int → Int → Option α := fun x1 x2 x3 => v α x1 x2 x3 (fun (y1 : Int) => ur125_0_0 k y1)
noncomputable def cm125_0g (vJ125_0_0 : TJ125_0_0) : MCode := (.seq (.region r125_2 [] (some ⟨[1, 2], true, [], []⟩)) (.seq (.block 0 (.seq (.mark [⟨p125_0_0, F125_0_0 vJ125_0_0⟩] c125_0_5) (.cond (.tmp 5) (.seq (.region r125_9 [] (some ⟨[4], true, [], []⟩)) .ret) (.seq (.region r125_11 [] (some ⟨[18], true, [], []⟩)) (.cond (.tmp 18) (.seq (.region r125_14 [] (some ⟨[4], true, [], []⟩)) .ret) .skip))))) (.seq (.region r125_16 [] (some ⟨[4], true, [], []⟩)) .ret)))
noncomputable def cm125_0 : MCode := cm125_0g J125_0_0
theorem gm125_0 : cm125_0.Good Try.prog E125_0 sh125 := ⟨trivial, ⟨⟨⟨g125_0_5, m125_0_0, trivial⟩, ⟨⟨trivial, trivial⟩, ⟨trivial, ⟨⟨trivial, trivial⟩, trivial⟩⟩⟩⟩, ⟨trivial, trivial⟩⟩⟩
theorem fm125_0g (vf109_0 : Tf109_0) (vJ125_0_0 : TJ125_0_0) (α : Type) (k : List RV → Option α) : Fn125_0 (f125_0g vJ125_0_0) α k = pa125_0.unc fun ds => fnM Try.prog (E125_0g vf109_0) sh125 (cm125_0g vJ125_0_0) rs125 k ds := by kernel_rfl
theorem fm125_0 : ∀ (α : Type) (k : List RV → Option α), Fn125_0 f125_0 α k = pa125_0.unc fun ds => fnM Try.prog E125_0 sh125 cm125_0 rs125 k ds := fm125_0g f109_0 J125_0_0

theorem is125 : FnIs Try.prog 125 nt125 tr125 tl125 cm125_0.erase rs125 := ⟨Try.f125, Try.func125, rfl, by kernel_rfl, by kernel_rfl, by kernel_rfl⟩
theorem io125_0 : InstOk Try.prog 125 nt125 ⟨pa125_0, Fn125_0 f125_0⟩ := inst_ok eo125_0 followsTry is125 ⟨⟨sh125, cm125_0, by kernel_rfl, gm125_0, fm125_0⟩⟩

/-! ### F44 etalon/etalonref06.Averaged -/
abbrev nt44 : Nat := 117
def sh44 : List (Nat × List Sh) := [(23, [.str, .int .i64, .int .i64, .int .i64, .int .i64, .int .i64, .int .i64, .int .i64, .int .i64, .int .i64]), (24, [.str, .int .i64, .int .i64, .int .i64, .int .i64, .int .i64, .int .i64, .int .i64, .int .i64, .int .i64]), (33, [.str, .int .i64, .int .i64, .int .i64, .int .i64, .int .i64, .int .i64, .int .i64, .int .i64, .int .i64]), (34, [.str, .int .i64, .int .i64, .int .i64, .int .i64, .int .i64, .int .i64, .int .i64, .int .i64, .int .i64]), (43, [.str, .int .i64, .int .i64, .int .i64, .int .i64, .int .i64, .int .i64, .int .i64, .int .i64, .int .i64]), (45, [.int .i64]), (47, [.str, .int .i64, .int .i64, .int .i64, .int .i64, .int .i64, .int .i64, .int .i64, .int .i64, .int .i64]), (49, [.int .i64]), (54, [.str, .int .i64, .int .i64, .int .i64, .int .i64, .int .i64, .int .i64, .int .i64, .int .i64, .int .i64]), (56, [.int .i64, .int .i64]), (58, [.str, .int .i64, .int .i64, .int .i64, .int .i64, .int .i64, .int .i64, .int .i64, .int .i64, .int .i64]), (60, [.int .i64, .int .i64]), (67, [.int .i64, .int .i64]), (70, [.str, .int .i64, .int .i64, .int .i64, .int .i64, .int .i64, .int .i64, .int .i64, .int .i64, .int .i64]), (72, [.int .i64, .int .i64]), (78, [.int .i64, .int .i64]), (81, [.str, .int .i64, .int .i64, .int .i64, .int .i64, .int .i64, .int .i64, .int .i64, .int .i64, .int .i64]), (83, [.int .i64, .int .i64]), (89, [.int .i64, .int .i64]), (92, [.str, .int .i64, .int .i64, .int .i64, .int .i64, .int .i64, .int .i64, .int .i64, .int .i64, .int .i64]), (94, [.int .i64, .int .i64]), (110, [.int .i64, .int .i64]), (111, [.int .i64, .int .i64]), (112, [.int .i64, .int .i64]), (116, [.str, .int .i64, .int .i64, .int .i64, .int .i64, .int .i64, .int .i64, .int .i64, .int .i64, .int .i64])]
def r44_2 : List AOper := [⟨(some 2), (.alloc [(.d (.v (.string ⟨#[]⟩))), (.d (.v (.int .i64 0))), (.d (.v (.int .i64 0))), (.d (.v (.int .i64 0))), (.d (.v (.int .i64 0))), (.d (.v (.int .i64 0))), (.d (.v (.int .i64 0))), (.d (.v (.int .i64 0))), (.d (.v (.int .i64 0))), (.d (.v (.int .i64 0)))]), none⟩, oO 3 (.mv (.const (.int .i64 0))), oO 4 (.mv (.const (.int .i64 0)))]
def r44_5 : List AOper := [oM 14 0, oO 15 (.len (.tmp 14)), oO 16 (.bin .eql 3 (.tmp 15) (.const (.int .i64 0)))]
def r44_8 : List AOper := [⟨(some 17), (.build [(.d (.v (.string ⟨#[]⟩))), (.d (.v (.int .i64 0))), (.d (.v (.int .i64 0))), (.d (.v (.int .i64 0))), (.d (.v (.int .i64 0))), (.d (.v (.int .i64 0))), (.d (.v (.int .i64 0))), (.d (.v (.int .i64 0))), (.d (.v (.int .i64 0))), (.d (.v (.int .i64 0)))] []), none⟩, ⟨none, (.store 10 (.tmp 2) (.tmp 17)), none⟩, oO 3 (.mv (.const (.int .i64 0))), oO 4 (.mv (.const (.int .i64 12)))]
def r44_11 : List AOper := [oM 18 0, oO 19 (.len (.tmp 18)), oO 20 (.bin .gtr 3 (.tmp 19) (.const (.int .i64 20)))]
def r44_14 : List AOper := [⟨(some 21), (.build [(.d (.v (.string ⟨#[]⟩))), (.d (.v (.int .i64 0))), (.d (.v (.int .i64 0))), (.d (.v (.int .i64 0))), (.d (.v (.int .i64 0))), (.d (.v (.int .i64 0))), (.d (.v (.int .i64 0))), (.d (.v (.int .i64 0))), (.d (.v (.int .i64 0))), (.d (.v (.int .i64 0)))] []), none⟩, ⟨none, (.store 10 (.tmp 2) (.tmp 21)), none⟩, oO 3 (.mv (.const (.int .i64 0))), oO 4 (.mv (.const (.int .i64 8)))]
def r44_16 : List AOper := [oM 22 0, oO 23 (.iaddr 10 none (.tmp 22) (.const (.int .i64 0))), oO 24 (.load true 10 (.tmp 23)), ⟨(some 5), (.alloc [(.d (.v (.string ⟨#[]⟩))), (.d (.v (.int .i64 0))), (.d (.v (.int .i64 0))), (.d (.v (.int .i64 0))), (.d (.v (.int .i64 0))), (.d (.v (.int .i64 0))), (.d (.v (.int .i64 0))), (.d (.v (.int .i64 0))), (.d (.v (.int .i64 0))), (.d (.v (.int .i64 0)))]), none⟩, ⟨none, (.store 10 (.tmp 5) (.tmp 24)), none⟩]
def r44_19 : List AOper := [oO 6 (.mv (.const (.int .i64 0)))]
def td44_21 : Option Tidy := (some ⟨[0, 2, 5, 6], true, [], []⟩)
def r44_24 : List AOper := [oM 25 6, oM 26 0, oO 27 (.len (.tmp 26)), oO 28 (.bin .lss 3 (.tmp 25) (.tmp 27))]
def r44_30 : List AOper := [oM 31 0, oM 32 6, oO 33 (.iaddr 10 none (.tmp 31) (.tmp 32)), oO 34 (.load true 10 (.tmp 33)), oO 35 (.call 49 [(.tmp 34)]), oM 7 35]
def r44_32 : List AOper := [oM 36 7, oO 37 (.bin .neq 3 (.tmp 36) (.const (.int .i64 0)))]
def r44_35 : List AOper := [⟨(some 38), (.build [(.d (.v (.string ⟨#[]⟩))), (.d (.v (.int .i64 0))), (.d (.v (.int .i64 0))), (.d (.v (.int .i64 0))), (.d (.v (.int .i64 0))), (.d (.v (.int .i64 0))), (.d (.v (.int .i64 0))), (.d (.v (.int .i64 0))), (.d (.v (.int .i64 0))), (.d (.v (.int .i64 0)))] []), none⟩, oM 39 6, oM 40 7, ⟨none, (.store 10 (.tmp 2) (.tmp 38)), none⟩, oM 3 39, oM 4 40]
def r44_38 : List AOper := [oM 41 0, oM 42 6, oO 43 (.iaddr 10 none (.tmp 41) (.tmp 42)), oO 44 (.faddr 1 (.tmp 43)), oO 45 (.load false 1 (.tmp 44)), oM 46 0, oO 47 (.iaddr 10 none (.tmp 46) (.const (.int .i64 0))), oO 48 (.faddr 1 (.tmp 47)), oO 49 (.load false 1 (.tmp 48)), oO 50 (.bin .neq 3 (.tmp 45) (.tmp 49)), oM 51 50, ⟨(some 52), (.mv (.tmp 0)), (some (51, false))⟩, ⟨(some 53), (.mv (.tmp 6)), (some (51, false))⟩, ⟨(some 54), (.iaddr 10 none (.tmp 52) (.tmp 53)), (some (51, false))⟩, ⟨(some 55), (.faddr 2 (.tmp 54)), (some (51, false))⟩, ⟨(some 56), (.load true 2 (.tmp 55)), (some (51, false))⟩, ⟨(some 57), (.mv (.tmp 0)), (some (51, false))⟩, ⟨(some 58), (.iaddr 10 none (.tmp 57) (.const (.int .i64 0))), (some (51, false))⟩, ⟨(some 59), (.faddr 2 (.tmp 58)), (some (51, false))⟩, ⟨(some 60), (.load true 2 (.tmp 59)), (some (51, false))⟩, ⟨(some 61), (.bin .neq 53 (.tmp 56) (.tmp 60)), (some (51, false))⟩, oO 62 (.pick (.tmp 51) (.const (.bool true)) (.tmp 61))]
def r44_41 : List AOper := [⟨(some 63), (.build [(.d (.v (.string ⟨#[]⟩))), (.d (.v (.int .i64 0))), (.d (.v (.int .i64 0))), (.d (.v (.int .i64 0))), (.d (.v (.int .i64 0))), (.d (.v (.int .i64 0))), (.d (.v (.int .i64 0))), (.d (.v (.int .i64 0))), (.d (.v (.int .i64 0))), (.d (.v (.int .i64 0)))] []), none⟩, oM 64 6, ⟨none, (.store 10 (.tmp 2) (.tmp 63)), none⟩, oM 3 64, oO 4 (.mv (.const (.int .i64 25)))]
def r44_43 : List AOper := [oO 66 (.faddr 4 (.tmp 5)), oO 67 (.load true 2 (.tmp 66)), oM 68 0, oM 69 6, oO 70 (.iaddr 10 none (.tmp 68) (.tmp 69)), oO 71 (.faddr 4 (.tmp 70)), oO 72 (.load true 2 (.tmp 71)), oO 73 (.call 93 [(.tmp 67), (.tmp 72)]), oM 65 73, oO 74 (.extract 0 (.tmp 65)), oO 75 (.extract 1 (.tmp 65)), oO 8 (.alloc [(.d (.v (.int .i64 0))), (.d (.v (.int .i64 0)))]), ⟨none, (.store 2 (.tmp 8) (.tmp 74)), none⟩, oM 9 75]
def r44_45 : List AOper := [oO 77 (.faddr 6 (.tmp 5)), oO 78 (.load true 2 (.tmp 77)), oM 79 0, oM 80 6, oO 81 (.iaddr 10 none (.tmp 79) (.tmp 80)), oO 82 (.faddr 6 (.tmp 81)), oO 83 (.load true 2 (.tmp 82)), oO 84 (.call 93 [(.tmp 78), (.tmp 83)]), oM 76 84, oO 85 (.extract 0 (.tmp 76)), oO 86 (.extract 1 (.tmp 76)), oO 10 (.alloc [(.d (.v (.int .i64 0))), (.d (.v (.int .i64 0)))]), ⟨none, (.store 2 (.tmp 10) (.tmp 85)), none⟩, oM 11 86]
def r44_47 : List AOper := [oO 88 (.faddr 8 (.tmp 5)), oO 89 (.load true 2 (.tmp 88)), oM 90 0, oM 91 6, oO 92 (.iaddr 10 none (.tmp 90) (.tmp 91)), oO 93 (.faddr 8 (.tmp 92)), oO 94 (.load true 2 (.tmp 93)), oO 95 (.call 93 [(.tmp 89), (.tmp 94)]), oM 87 95, oO 96 (.extract 0 (.tmp 87)), oO 97 (.extract 1 (.tmp 87)), oO 12 (.alloc [(.d (.v (.int .i64 0))), (.d (.v (.int .i64 0)))]), ⟨none, (.store 2 (.tmp 12) (.tmp 96)), none⟩, oM 13 97]
def r44_50 : List AOper := [oM 98 9, oO 99 (.pure (oB (.unOp .not 4 (.tmp 98)) 4)), oM 100 99, ⟨(some 101), (.mv (.tmp 11)), (some (100, false))⟩, ⟨(some 102), (.pure (oB (.unOp .not 4 (.tmp 101)) 4)), (some (100, false))⟩, oO 103 (.pick (.tmp 100) (.const (.bool true)) (.tmp 102)), oM 104 103, ⟨(some 105), (.mv (.tmp 13)), (some (104, false))⟩, ⟨(some 106), (.pure (oB (.unOp .not 4 (.tmp 105)) 4)), (some (104, false))⟩, oO 107 (.pick (.tmp 104) (.const (.bool true)) (.tmp 106))]
def r44_53 : List AOper := [⟨(some 108), (.build [(.d (.v (.string ⟨#[]⟩))), (.d (.v (.int .i64 0))), (.d (.v (.int .i64 0))), (.d (.v (.int .i64 0))), (.d (.v (.int .i64 0))), (.d (.v (.int .i64 0))), (.d (.v (.int .i64 0))), (.d (.v (.int .i64 0))), (.d (.v (.int .i64 0))), (.d (.v (.int .i64 0)))] []), none⟩, oM 109 6, ⟨none, (.store 10 (.tmp 2) (.tmp 108)), none⟩, oM 3 109, oO 4 (.mv (.const (.int .i64 14)))]
def r44_54 : List AOper := [oO 110 (.load true 2 (.tmp 8)), oO 111 (.load true 2 (.tmp 10)), oO 112 (.load true 2 (.tmp 12)), oO 113 (.faddr 4 (.tmp 5)), ⟨none, (.store 2 (.tmp 113) (.tmp 110)), none⟩, oO 114 (.faddr 6 (.tmp 5)), ⟨none, (.store 2 (.tmp 114) (.tmp 111)), none⟩, oO 115 (.faddr 8 (.tmp 5)), ⟨none, (.store 2 (.tmp 115) (.tmp 112)), none⟩]
def r44_55 : List AOper := [oM 29 6, oO 30 (.bin .add 3 (.tmp 29) (.const (.int .i64 1))), oM 6 30]
def r44_57 : List AOper := [oO 116 (.load true 10 (.tmp 5)), ⟨none, (.store 10 (.tmp 2) (.tmp 116)), none⟩, oO 3 (.mv (.const (.int .i64 0))), oO 4 (.mv (.const (.int .i64 0)))]
def tr44 : List (Nat × Tidy) := [(0, ⟨[0, 2], true, [], []⟩), (1, ⟨[0, 2, 16], true, [], []⟩), (2, ⟨[2, 3, 4], true, [], []⟩), (3, ⟨[0, 2, 20], true, [], []⟩), (4, ⟨[2, 3, 4], true, [], []⟩), (5, ⟨[0, 2, 5], true, [], []⟩), (6, ⟨[0, 2, 5, 6], true, [], []⟩), (7, ⟨[0, 2, 5, 6, 28], true, [], []⟩), (9, ⟨[0, 2, 5, 6, 7], true, [], []⟩), (10, ⟨[0, 2, 5, 6, 7, 37], true, [], []⟩), (11, ⟨[2, 3, 4], true, [], []⟩), (12, ⟨[0, 2, 5, 6, 62], true, [], []⟩), (13, ⟨[2, 3, 4], true, [], []⟩), (14, ⟨[0, 2, 5, 6, 8, 9], true, [], []⟩), (15, ⟨[0, 2, 5, 6, 8, 9, 10, 11], true, [], []⟩), (16, ⟨[0, 2, 5, 6, 8, 9, 10, 11, 12, 13], true, [], []⟩), (17, ⟨[0, 2, 5, 6, 8, 10, 12, 107], true, [], []⟩), (18, ⟨[2, 3, 4], true, [], []⟩), (19, ⟨[0, 2, 5, 6], true, [], []⟩), (8, ⟨[0, 2, 5, 6], true, [], []⟩), (20, ⟨[2, 3, 4], true, [], []⟩)]
def tl44 : List (Nat × Tidy) := [(7, ⟨[0, 2, 5, 6], true, [], []⟩)]
def rs44 : List AResV := [.cell 2 true 10, .tmp 3, .tmp 4]
def p44_0_0 : PT St := pS [sl 0 (aV false [(cD dL)]), sl 2 (aV false [(cPtr 2 0)]), sl 5 (aV false [(cPtr 5 0)]), sl 6 (aV false [(cD (dI .i64))]), sl 8 (aV false [(cPtr 8 0)]), sl 9 (aV false [(cD dB)]), sl 10 (aV false [(cPtr 10 0)]), sl 11 (aV false [(cD dB)]), sl 12 (aV false [(cPtr 12 0)]), sl 13 (aV false [(cD dB)])] [eBox 2 [(cD dS), (cD (dI .i64)), (cD (dI .i64)), (cD (dI .i64)), (cD (dI .i64)), (cD (dI .i64)), (cD (dI .i64)), (cD (dI .i64)), (cD (dI .i64)), (cD (dI .i64))], eBox 5 [(cD dS), (cD (dI .i64)), (cD (dI .i64)), (cD (dI .i64)), (cD (dI .i64)), (cD (dI .i64)), (cD (dI .i64)), (cD (dI .i64)), (cD (dI .i64)), (cD (dI .i64))], eBox 8 [(cD (dI .i64)), (cD (dI .i64))], eBox 10 [(cD (dI .i64)), (cD (dI .i64))], eBox 12 [(cD (dI .i64)), (cD (dI .i64))]]
def u44_0_0 {β : Type} (g : St → β) : Rows → Int → Bool → Bool → Bool → ByteArray → Int → Int → Int → Int → Int → Int → Int → Int → Int → ByteArray → Int → Int → Int → Int → Int → Int → Int → Int → Int → Int → Int → Int → Int → Int → Int → β := p44_0_0.unc g

def p44_0_1 : PT St := pS [sl 0 (aV false [(cD dL)]), sl 2 (aV false [(cPtr 2 0)]), sl 5 (aV false [(cPtr 5 0)]), sl 6 (aV false [(cD (dI .i64))]), sl 8 (aV false [(cPtr 8 0)]), sl 10 (aV false [(cPtr 10 0)]), sl 12 (aV false [(cPtr 12 0)]), sl 107 (aV false [(cD dB)])] [eBox 2 [(cD dS), (cD (dI .i64)), (cD (dI .i64)), (cD (dI .i64)), (cD (dI .i64)), (cD (dI .i64)), (cD (dI .i64)), (cD (dI .i64)), (cD (dI .i64)), (cD (dI .i64))], eBox 5 [(cD dS), (cD (dI .i64)), (cD (dI .i64)), (cD (dI .i64)), (cD (dI .i64)), (cD (dI .i64)), (cD (dI .i64)), (cD (dI .i64)), (cD (dI .i64)), (cD (dI .i64))], eBox 8 [(cD (dI .i64)), (cD (dI .i64))], eBox 10 [(cD (dI .i64)), (cD (dI .i64))], eBox 12 [(cD (dI .i64)), (cD (dI .i64))]]
def u44_0_1 {β : Type} (g : St → β) : Rows → Int → Bool → ByteArray → Int → Int → Int → Int → Int → Int → Int → Int → Int → ByteArray → Int → Int → Int → Int → Int → Int → Int → Int → Int → Int → Int → Int → Int → Int → Int → β := p44_0_1.unc g

def p44_0_2 : PT St := pS [sl 0 (aV false [(cD dL)]), sl 2 (aV false [(cPtr 2 0)]), sl 5 (aV false [(cPtr 5 0)]), sl 6 (aV false [(cD (dI .i64))])] [eBox 2 [(cD dS), (cD (dI .i64)), (cD (dI .i64)), (cD (dI .i64)), (cD (dI .i64)), (cD (dI .i64)), (cD (dI .i64)), (cD (dI .i64)), (cD (dI .i64)), (cD (dI .i64))], eBox 5 [(cD dS), (cD (dI .i64)), (cD (dI .i64)), (cD (dI .i64)), (cD (dI .i64)), (cD (dI .i64)), (cD (dI .i64)), (cD (dI .i64)), (cD (dI .i64)), (cD (dI .i64))]]
def u44_0_2 {β : Type} (g : St → β) : Rows → Int → ByteArray → Int → Int → Int → Int → Int → Int → Int → Int → Int → ByteArray → Int → Int → Int → Int → Int → Int → Int → Int → Int → β := p44_0_2.unc g

def p44_0_3 : PT St := pS [sl 2 (aV false [(cPtr 2 0)]), sl 3 (aV false [(cD (dI .i64))]), sl 4 (aV false [(cD (dI .i64))])] [eBox 2 [(cD dS), (cD (dI .i64)), (cD (dI .i64)), (cD (dI .i64)), (cD (dI .i64)), (cD (dI .i64)), (cD (dI .i64)), (cD (dI .i64)), (cD (dI .i64)), (cD (dI .i64))]]
def u44_0_3 {β : Type} (g : St → β) : Int → Int → ByteArray → Int → Int → Int → Int → Int → Int → Int → Int → Int → β := p44_0_3.unc g

def p44_0_4 : PT St := pS [sl 0 (aV false [(cD dL)]), sl 2 (aV false [(cPtr 2 0)]), sl 5 (aV false [(cPtr 5 0)]), sl 6 (aV false [(cD (dI .i64))]), sl 28 (aV false [(cD dB)])] [eBox 2 [(cD dS), (cD (dI .i64)), (cD (dI .i64)), (cD (dI .i64)), (cD (dI .i64)), (cD (dI .i64)), (cD (dI .i64)), (cD (dI .i64)), (cD (dI .i64)), (cD (dI .i64))], eBox 5 [(cD dS), (cD (dI .i64)), (cD (dI .i64)), (cD (dI .i64)), (cD (dI .i64)), (cD (dI .i64)), (cD (dI .i64)), (cD (dI .i64)), (cD (dI .i64)), (cD (dI .i64))]]
def u44_0_4 {β : Type} (g : St → β) : Rows → Int → Bool → ByteArray → Int → Int → Int → Int → Int → Int → Int → Int → Int → ByteArray → Int → Int → Int → Int → Int → Int → Int → Int → Int → β := p44_0_4.unc g

def pr44_0_0 : PT (List RV) := pRs [pR true [rD dS, rD (dI .i64), rD (dI .i64), rD (dI .i64), rD (dI .i64), rD (dI .i64), rD (dI .i64), rD (dI .i64), rD (dI .i64), rD (dI .i64)], pR false [rD (dI .i64)], pR false [rD (dI .i64)]]
def ur44_0_0 {β : Type} (g : List RV → β) : ByteArray → Int → Int → Int → Int → Int → Int → Int → Int → Int → Int → Int → β := pr44_0_0.unc g

def E44_0g (vf49_0 : Tf49_0) (vf93_0 : Tf93_0) : EnvK := EnvK.of [⟨49, nt49, [⟨pa49_0, Fn49_0 vf49_0⟩]⟩, ⟨93, nt93, [⟨pa93_0, Fn93_0 vf93_0⟩]⟩] noSeq
noncomputable def E44_0 : EnvK := E44_0g f49_0 f93_0
theorem eo44_0 : E44_0.Ok Try.prog := EnvK.of_ok noSeq_ok ⟨⟨io49_0, trivial⟩, ⟨io93_0, trivial⟩, trivial⟩

noncomputable def c44_0_49g  : MCode := (.region r44_50 [] (some ⟨[0, 2, 5, 6, 8, 10, 12, 107], true, [], []⟩))
noncomputable def c44_0_49 : MCode := c44_0_49g 
theorem g44_0_49 : c44_0_49.Good Try.prog E44_0 sh44 := trivial
--CODE 49 0
abbrev TJ44_0_0 : Type 1 := (α : Type) → Bool → Bool → Bool → (Bool → Option α) → Option α
def J44_0_0g  (α : Type) (x127 : Bool) (x128 : Bool) (x129 : Bool) (k1 : Bool → Option α) : Option α :=
 cK (!x127)
 (k1 true)
 (cK (!x128)
 (k1 true)
 (k1 (!x129)))
noncomputable def J44_0_0 (α : Type) (x127 : Bool) (x128 : Bool) (x129 : Bool) (k1 : Bool → Option α) : Option α := J44_0_0g  α x127 x128 x129 k1
def F44_0_0 (v : TJ44_0_0) (α : Type) (K : Exit → St → Option α) : Rows → Int → Bool → Bool → Bool → ByteArray → Int → Int → Int → Int → Int → Int → Int → Int → Int → ByteArray → Int → Int → Int → Int → Int → Int → Int → Int → Int → Int → Int → Int → Int → Int → Int → Option α := fun x125 x126 x127 x128 x129 x130 x131 x132 x133 x134 x135 x136 x137 x138 x139 x140 x141 x142 x143 x144 x145 x146 x147 x148 x149 x150 x151 x152 x153 x154 x155 => v α x127 x128 x129 (fun (y1 : Bool) => u44_0_1 (K .normal) x125 x126 y1 x130 x131 x132 x133 x134 x135 x136 x137 x138 x139 x140 x141 x142 x143 x144 x145 x146 x147 x148 x149 x150 x151 x152 x153 x154 x155) 
theorem m44_0_0g (vf49_0 : Tf49_0) (vf93_0 : Tf93_0)  (α : Type) (K : Exit → St → Option α) : F44_0_0 (J44_0_0g ) α K = p44_0_0.unc fun σ => runM Try.prog (E44_0g vf49_0 vf93_0) sh44 (c44_0_49g ) K σ := by kernel_rfl
theorem m44_0_0 : ∀ (α : Type) (K : Exit → St → Option α), F44_0_0 J44_0_0 α K = p44_0_0.unc fun σ => runM Try.prog E44_0 sh44 c44_0_49 K σ := m44_0_0g f49_0 f93_0

noncomputable def c44_0_21g (vJ44_0_0 : TJ44_0_0) : MCode := (.seq (.seq (.region r44_24 [] (some ⟨[0, 2, 5, 6, 28], true, [], []⟩)) (.cond (.tmp 28) .skip (.exit 0))) (.seq (.block 1 (.seq (.seq (.region r44_30 [] (some ⟨[0, 2, 5, 6, 7], true, [], []⟩)) (.seq (.region r44_32 [] (some ⟨[0, 2, 5, 6, 7, 37], true, [], []⟩)) (.cond (.tmp 37) (.seq (.region r44_35 [] (some ⟨[2, 3, 4], true, [], []⟩)) .ret) .skip))) (.seq (.seq (.region r44_38 [] (some ⟨[0, 2, 5, 6, 62], true, [], []⟩)) (.cond (.tmp 62) (.seq (.region r44_41 [] (some ⟨[2, 3, 4], true, [], []⟩)) .ret) .skip)) (.seq (.region r44_43 [(1, 11), (4, 11), (6, 11), (7, 11)] (some ⟨[0, 2, 5, 6, 8, 9], true, [], []⟩)) (.seq (.region r44_45 [(1, 11), (4, 11), (6, 11), (7, 11)] (some ⟨[0, 2, 5, 6, 8, 9, 10, 11], true, [], []⟩)) (.seq (.region r44_47 [(1, 11), (4, 11), (6, 11), (7, 11)] (some ⟨[0, 2, 5, 6, 8, 9, 10, 11, 12, 13], true, [], []⟩)) (.seq (.seq (.mark [⟨p44_0_0, F44_0_0 vJ44_0_0⟩] c44_0_49) (.cond (.tmp 107) (.seq (.region r44_53 [] (some ⟨[2, 3, 4], true, [], []⟩)) .ret) .skip)) (.region r44_54 [(1, 4), (2, 4), (2, 6)] (some ⟨[0, 2, 5, 6], true, [], []⟩))))))))) (.region r44_55 [] (some ⟨[0, 2, 5, 6], true, [], []⟩))))
noncomputable def c44_0_21 : MCode := c44_0_21g J44_0_0
theorem g44_0_21 : c44_0_21.Good Try.prog E44_0 sh44 := ⟨⟨trivial, ⟨trivial, trivial⟩⟩, ⟨⟨⟨trivial, ⟨trivial, ⟨⟨trivial, trivial⟩, trivial⟩⟩⟩, ⟨⟨trivial, ⟨⟨trivial, trivial⟩, trivial⟩⟩, ⟨trivial, ⟨trivial, ⟨trivial, ⟨⟨⟨g44_0_49, m44_0_0, trivial⟩, ⟨⟨trivial, trivial⟩, trivial⟩⟩, trivial⟩⟩⟩⟩⟩⟩, trivial⟩⟩
--CODE 21 0
def S44_0_1g (vJ44_0_0 : TJ44_0_0) (vf49_0 : Tf49_0) (vf93_0 : Tf93_0) (α : Type) (x12 : Rows) (x13 : Int) (x28 : Int) (x29 : Int) (x30 : Int) (x31 : Int) (x32 : Int) (x33 : Int) (kn : Int → Int → Int → Int → Int → Int → Int → Option α) (k1 : Int → Int → Option α) (k2 : Int → Bool → Int → Int → Int → Int → Int → Int → Option α) : Option α :=
 cK (decide (x13 < ((List.length x12 : Nat) : Int)))
 (rowK x12 x13 [.str, .int .i64, .int .i64, .int .i64, .int .i64, .int .i64, .int .i64, .int .i64, .int .i64, .int .i64]
 (fun (x35 : ByteArray) (x36 : Int) (x37 : Int) (x38 : Int) (x39 : Int) (x40 : Int) (x41 : Int) (x42 : Int) (x43 : Int) (x44 : Int) => vf49_0 α x35 x36 x37 x38 x39 x40 x41 x42 x43 x44
 (fun (x45 : Int) => cK (x45 != 0)
 (k1 x13 x45)
 (rowK x12 x13 [.str, .int .i64, .int .i64, .int .i64, .int .i64, .int .i64, .int .i64, .int .i64, .int .i64, .int .i64]
 (fun (x46 : ByteArray) (x47 : Int) (x48 : Int) (x49 : Int) (x50 : Int) (x51 : Int) (x52 : Int) (x53 : Int) (x54 : Int) (x55 : Int) => rowK x12 0 [.str, .int .i64, .int .i64, .int .i64, .int .i64, .int .i64, .int .i64, .int .i64, .int .i64, .int .i64]
 (fun (x56 : ByteArray) (x57 : Int) (x58 : Int) (x59 : Int) (x60 : Int) (x61 : Int) (x62 : Int) (x63 : Int) (x64 : Int) (x65 : Int) => cK (x47 != x57)
 (k1 x13 25)
 (rowK x12 x13 [.str, .int .i64, .int .i64, .int .i64, .int .i64, .int .i64, .int .i64, .int .i64, .int .i64, .int .i64]
 (fun (x66 : ByteArray) (x67 : Int) (x68 : Int) (x69 : Int) (x70 : Int) (x71 : Int) (x72 : Int) (x73 : Int) (x74 : Int) (x75 : Int) => rowK x12 0 [.str, .int .i64, .int .i64, .int .i64, .int .i64, .int .i64, .int .i64, .int .i64, .int .i64, .int .i64]
 (fun (x76 : ByteArray) (x77 : Int) (x78 : Int) (x79 : Int) (x80 : Int) (x81 : Int) (x82 : Int) (x83 : Int) (x84 : Int) (x85 : Int) => cK (!((x68 == x78) && ((x69 == x79) && true)))
 (k1 x13 25)
 (rowK x12 x13 [.str, .int .i64, .int .i64, .int .i64, .int .i64, .int .i64, .int .i64, .int .i64, .int .i64, .int .i64]
 (fun (x86 : ByteArray) (x87 : Int) (x88 : Int) (x89 : Int) (x90 : Int) (x91 : Int) (x92 : Int) (x93 : Int) (x94 : Int) (x95 : Int) => vf93_0 α x28 x29 x90 x91
 (fun (x96 : Int) (x97 : Int) (x98 : Bool) => rowK x12 x13 [.str, .int .i64, .int .i64, .int .i64, .int .i64, .int .i64, .int .i64, .int .i64, .int .i64, .int .i64]
 (fun (x99 : ByteArray) (x100 : Int) (x101 : Int) (x102 : Int) (x103 : Int) (x104 : Int) (x105 : Int) (x106 : Int) (x107 : Int) (x108 : Int) => vf93_0 α x30 x31 x105 x106
 (fun (x109 : Int) (x110 : Int) (x111 : Bool) => rowK x12 x13 [.str, .int .i64, .int .i64, .int .i64, .int .i64, .int .i64, .int .i64, .int .i64, .int .i64, .int .i64]
 (fun (x112 : ByteArray) (x113 : Int) (x114 : Int) (x115 : Int) (x116 : Int) (x117 : Int) (x118 : Int) (x119 : Int) (x120 : Int) (x121 : Int) => vf93_0 α x32 x33 x120 x121
 (fun (x122 : Int) (x123 : Int) (x124 : Bool) => vJ44_0_0 α x98 x111 x124
 (fun (x157 : Bool) => cK x157
 (k1 x13 14)
 (kn (w64 (x13 + 1)) x96 x97 x109 x110 x122 x123))))))))))))))))))
 (k2 x13 (decide (x13 < ((List.length x12 : Nat) : Int))) x28 x29 x30 x31 x32 x33)
noncomputable def S44_0_1 (α : Type) (x12 : Rows) (x13 : Int) (x28 : Int) (x29 : Int) (x30 : Int) (x31 : Int) (x32 : Int) (x33 : Int) (kn : Int → Int → Int → Int → Int → Int → Int → Option α) (k1 : Int → Int → Option α) (k2 : Int → Bool → Int → Int → Int → Int → Int → Int → Option α) : Option α := S44_0_1g J44_0_0 f49_0 f93_0 α x12 x13 x28 x29 x30 x31 x32 x33 kn k1 k2
noncomputable def R44_0_1 (α : Type) (x12 : Rows) (k1 : Int → Int → Option α) (k2 : Int → Bool → Int → Int → Int → Int → Int → Int → Option α) : Nat → Int → Int → Int → Int → Int → Int → Int → Option α
 | 0, _, _, _, _, _, _, _ => none
 | n + 1, x13, x28, x29, x30, x31, x32, x33 => S44_0_1 α x12 x13 x28 x29 x30 x31 x32 x33 (R44_0_1 α x12 k1 k2 n) k1 k2
noncomputable def L44_0_1 (α : Type) (x12 : Rows) (k1 : Int → Int → Option α) (k2 : Int → Bool → Int → Int → Int → Int → Int → Int → Option α) (x13 : Int) (x28 : Int) (x29 : Int) (x30 : Int) (x31 : Int) (x32 : Int) (x33 : Int) : Option α := R44_0_1 α x12 k1 k2 fuel x13 x28 x29 x30 x31 x32 x33
abbrev TL44_0_1 : Type 1 := (α : Type) → Rows → (Int → Int → Option α) → (Int → Bool → Int → Int → Int → Int → Int → Int → Option α) → Int → Int → Int → Int → Int → Int → Int → Option α
def F44_0_1 (v : TL44_0_1) (α : Type) (K : Exit → St → Option α) : Rows → Int → ByteArray → Int → Int → Int → Int → Int → Int → Int → Int → Int → ByteArray → Int → Int → Int → Int → Int → Int → Int → Int → Int → Option α := fun x12 x13 x14 x15 x16 x17 x18 x19 x20 x21 x22 x23 x24 x25 x26 x27 x28 x29 x30 x31 x32 x33 => v α x12 (fun (y1 : Int) (y2 : Int) => u44_0_3 (K .ret) y1 y2 (⟨#[]⟩ : ByteArray) 0 0 0 0 0 0 0 0 0) (fun (y1 : Int) (y2 : Bool) (y3 : Int) (y4 : Int) (y5 : Int) (y6 : Int) (y7 : Int) (y8 : Int) => u44_0_4 (K (.exit 0)) x12 y1 y2 x14 x15 x16 x17 x18 x19 x20 x21 x22 x23 x24 x25 x26 x27 y3 y4 y5 y6 y7 y8) x13 x28 x29 x30 x31 x32 x33
theorem r44_0_1g (vf49_0 : Tf49_0) (vf93_0 : Tf93_0) (vJ44_0_0 : TJ44_0_0) (α : Type) (K : Exit → St → Option α) (Kn : St → Option α) (x12 : Rows) (x13 : Int) (x14 : ByteArray) (x15 : Int) (x16 : Int) (x17 : Int) (x18 : Int) (x19 : Int) (x20 : Int) (x21 : Int) (x22 : Int) (x23 : Int) (x24 : ByteArray) (x25 : Int) (x26 : Int) (x27 : Int) (x28 : Int) (x29 : Int) (x30 : Int) (x31 : Int) (x32 : Int) (x33 : Int) : u44_0_2 (fun σ => runM Try.prog (E44_0g vf49_0 vf93_0) sh44 (c44_0_21g vJ44_0_0) (thenK (fun σ => tidyK td44_21 σ Kn) K) σ) x12 x13 x14 x15 x16 x17 x18 x19 x20 x21 x22 x23 x24 x25 x26 x27 x28 x29 x30 x31 x32 x33 = S44_0_1g vJ44_0_0 vf49_0 vf93_0 α x12 x13 x28 x29 x30 x31 x32 x33 (fun x13 x28 x29 x30 x31 x32 x33 => u44_0_2 Kn x12 x13 x14 x15 x16 x17 x18 x19 x20 x21 x22 x23 x24 x25 x26 x27 x28 x29 x30 x31 x32 x33) (fun (y1 : Int) (y2 : Int) => u44_0_3 (K .ret) y1 y2 (⟨#[]⟩ : ByteArray) 0 0 0 0 0 0 0 0 0) (fun (y1 : Int) (y2 : Bool) (y3 : Int) (y4 : Int) (y5 : Int) (y6 : Int) (y7 : Int) (y8 : Int) => u44_0_4 (K (.exit 0)) x12 y1 y2 x14 x15 x16 x17 x18 x19 x20 x21 x22 x23 x24 x25 x26 x27 y3 y4 y5 y6 y7 y8) := by kernel_rfl
theorem r44_0_1 (α : Type) (K : Exit → St → Option α) (Kn : St → Option α) (x12 : Rows) (x13 : Int) (x14 : ByteArray) (x15 : Int) (x16 : Int) (x17 : Int) (x18 : Int) (x19 : Int) (x20 : Int) (x21 : Int) (x22 : Int) (x23 : Int) (x24 : ByteArray) (x25 : Int) (x26 : Int) (x27 : Int) (x28 : Int) (x29 : Int) (x30 : Int) (x31 : Int) (x32 : Int) (x33 : Int) : u44_0_2 (fun σ => runM Try.prog E44_0 sh44 c44_0_21 (thenK (fun σ => tidyK td44_21 σ Kn) K) σ) x12 x13 x14 x15 x16 x17 x18 x19 x20 x21 x22 x23 x24 x25 x26 x27 x28 x29 x30 x31 x32 x33 = S44_0_1 α x12 x13 x28 x29 x30 x31 x32 x33 (fun x13 x28 x29 x30 x31 x32 x33 => u44_0_2 Kn x12 x13 x14 x15 x16 x17 x18 x19 x20 x21 x22 x23 x24 x25 x26 x27 x28 x29 x30 x31 x32 x33) (fun (y1 : Int) (y2 : Int) => u44_0_3 (K .ret) y1 y2 (⟨#[]⟩ : ByteArray) 0 0 0 0 0 0 0 0 0) (fun (y1 : Int) (y2 : Bool) (y3 : Int) (y4 : Int) (y5 : Int) (y6 : Int) (y7 : Int) (y8 : Int) => u44_0_4 (K (.exit 0)) x12 y1 y2 x14 x15 x16 x17 x18 x19 x20 x21 x22 x23 x24 x25 x26 x27 y3 y4 y5 y6 y7 y8) := r44_0_1g f49_0 f93_0 J44_0_0 α K Kn x12 x13 x14 x15 x16 x17 x18 x19 x20 x21 x22 x23 x24 x25 x26 x27 x28 x29 x30 x31 x32 x33
theorem t44_0_1 (α : Type) (K : Exit → St → Option α) : ∀ (n : Nat) (x12 : Rows) (x13 : Int) (x14 : ByteArray) (x15 : Int) (x16 : Int) (x17 : Int) (x18 : Int) (x19 : Int) (x20 : Int) (x21 : Int) (x22 : Int) (x23 : Int) (x24 : ByteArray) (x25 : Int) (x26 : Int) (x27 : Int) (x28 : Int) (x29 : Int) (x30 : Int) (x31 : Int) (x32 : Int) (x33 : Int), R44_0_1 α x12 (fun (y1 : Int) (y2 : Int) => u44_0_3 (K .ret) y1 y2 (⟨#[]⟩ : ByteArray) 0 0 0 0 0 0 0 0 0) (fun (y1 : Int) (y2 : Bool) (y3 : Int) (y4 : Int) (y5 : Int) (y6 : Int) (y7 : Int) (y8 : Int) => u44_0_4 (K (.exit 0)) x12 y1 y2 x14 x15 x16 x17 x18 x19 x20 x21 x22 x23 x24 x25 x26 x27 y3 y4 y5 y6 y7 y8) n x13 x28 x29 x30 x31 x32 x33 = u44_0_2 (loopT (runM Try.prog E44_0 sh44 c44_0_21) td44_21 K n) x12 x13 x14 x15 x16 x17 x18 x19 x20 x21 x22 x23 x24 x25 x26 x27 x28 x29 x30 x31 x32 x33 := by
 intro n
 induction n with
 | zero => intros; rfl
 | succ n ih => intro x12 x13 x14 x15 x16 x17 x18 x19 x20 x21 x22 x23 x24 x25 x26 x27 x28 x29 x30 x31 x32 x33; exact (congrArg (fun kn => S44_0_1 α x12 x13 x28 x29 x30 x31 x32 x33 kn (fun (y1 : Int) (y2 : Int) => u44_0_3 (K .ret) y1 y2 (⟨#[]⟩ : ByteArray) 0 0 0 0 0 0 0 0 0) (fun (y1 : Int) (y2 : Bool) (y3 : Int) (y4 : Int) (y5 : Int) (y6 : Int) (y7 : Int) (y8 : Int) => u44_0_4 (K (.exit 0)) x12 y1 y2 x14 x15 x16 x17 x18 x19 x20 x21 x22 x23 x24 x25 x26 x27 y3 y4 y5 y6 y7 y8)) (funext fun x13 => funext fun x28 => funext fun x29 => funext fun x30 => funext fun x31 => funext fun x32 => funext fun x33 => ih x12 x13 x14 x15 x16 x17 x18 x19 x20 x21 x22 x23 x24 x25 x26 x27 x28 x29 x30 x31 x32 x33)).trans (r44_0_1 α K (loopT (runM Try.prog E44_0 sh44 c44_0_21) td44_21 K n) x12 x13 x14 x15 x16 x17 x18 x19 x20 x21 x22 x23 x24 x25 x26 x27 x28 x29 x30 x31 x32 x33).symm
theorem m44_0_1 : ∀ (α : Type) (K : Exit → St → Option α), F44_0_1 L44_0_1 α K = p44_0_2.unc fun σ => loopT (runM Try.prog E44_0 sh44 c44_0_21) td44_21 K fuel σ := fun α K => funext fun x12 => funext fun x13 => funext fun x14 => funext fun x15 => funext fun x16 => funext fun x17 => funext fun x18 => funext fun x19 => funext fun x20 => funext fun x21 => funext fun x22 => funext fun x23 => funext fun x24 => funext fun x25 => funext fun x26 => funext fun x27 => funext fun x28 => funext fun x29 => funext fun x30 => funext fun x31 => funext fun x32 => funext fun x33 => t44_0_1 α K fuel x12 x13 x14 x15 x16 x17 x18 x19 x20 x21 x22 x23 x24 x25 x26 x27 x28 x29 x30 x31 x32 x33

/-- etalon/etalonref06.Averaged -/
abbrev Tf44_0 : Type 1 := (α : Type) → Rows → (ByteArray → Int → Int → Int → Int → Int → Int → Int → Int → Int → Int → Int → Option α) → Option α
def f44_0g (vL44_0_1 : TL44_0_1) (α : Type) (x1 : Rows) (k1 : ByteArray → Int → Int → Int → Int → Int → Int → Int → Int → Int → Int → Int → Option α) : Option α :=
 cK (((List.length x1 : Nat) : Int) == 0)
 (k1 (⟨#[]⟩ : ByteArray) 0 0 0 0 0 0 0 0 0 0 12)
 (cK (decide (20 < ((List.length x1 : Nat) : Int)))
 (k1 (⟨#[]⟩ : ByteArray) 0 0 0 0 0 0 0 0 0 0 8)
 (rowK x1 0 [.str, .int .i64, .int .i64, .int .i64, .int .i64, .int .i64, .int .i64, .int .i64, .int .i64, .int .i64]
 (fun (x2 : ByteArray) (x3 : Int) (x4 : Int) (x5 : Int) (x6 : Int) (x7 : Int) (x8 : Int) (x9 : Int) (x10 : Int) (x11 : Int) => vL44_0_1 α x1
 (fun (x159 : Int) (x160 : Int) => k1 (⟨#[]⟩ : ByteArray) 0 0 0 0 0 0 0 0 0 x159 x160)
 (fun (x161 : Int) (x162 : Bool) (x163 : Int) (x164 : Int) (x165 : Int) (x166 : Int) (x167 : Int) (x168 : Int) => k1 x2 x3 x4 x5 x163 x164 x165 x166 x167 x168 0 0) 0 x6 x7 x8 x9 x10 x11)))
noncomputable def f44_0 (α : Type) (x1 : Rows) (k1 : ByteArray → Int → Int → Int → Int → Int → Int → Int → Int → Int → Int → Int → Option α) : Option α := f44_0g L44_0_1 α x1 k1
def pa44_0 : PT (List DV) := pA [pV false [dL]]
def Fn44_0 (v : Tf44_0) (α : Type) (k : List RV → Option α) : Rows → Option α := fun x1 => v α x1 (fun (y1 : ByteArray) (y2 : Int) (y3 : Int) (y4 : Int) (y5 : Int) (y6 : Int) (y7 : Int) (y8 : Int) (y9 : Int) (y10 : Int) (y11 : Int) (y12 : Int) => ur44_0_0 k y1 y2 y3 y4 y5 y6 y7 y8 y9 y10 y11 y12)
noncomputable def cm44_0g (vL44_0_1 : TL44_0_1) : MCode := (.seq (.region r44_2 [] (some ⟨[0, 2], true, [], []⟩)) (.seq (.seq (.region r44_5 [] (some ⟨[0, 2, 16], true, [], []⟩)) (.cond (.tmp 16) (.seq (.region r44_8 [] (some ⟨[2, 3, 4], true, [], []⟩)) .ret) .skip)) (.seq (.seq (.region r44_11 [] (some ⟨[0, 2, 20], true, [], []⟩)) (.cond (.tmp 20) (.seq (.region r44_14 [] (some ⟨[2, 3, 4], true, [], []⟩)) .ret) .skip)) (.seq (.region r44_16 [] (some ⟨[0, 2, 5], true, [], []⟩)) (.seq (.seq (.region r44_19 [] (some ⟨[0, 2, 5, 6], true, [], []⟩)) (.block 0 (.loop td44_21 [⟨p44_0_2, F44_0_1 vL44_0_1⟩] c44_0_21))) (.seq (.region r44_57 [] (some ⟨[2, 3, 4], true, [], []⟩)) .ret))))))
noncomputable def cm44_0 : MCode := cm44_0g L44_0_1
theorem gm44_0 : cm44_0.Good Try.prog E44_0 sh44 := ⟨trivial, ⟨⟨trivial, ⟨⟨trivial, trivial⟩, trivial⟩⟩, ⟨⟨trivial, ⟨⟨trivial, trivial⟩, trivial⟩⟩, ⟨trivial, ⟨⟨trivial, ⟨g44_0_21, m44_0_1, trivial⟩⟩, ⟨trivial, trivial⟩⟩⟩⟩⟩⟩
theorem fm44_0g (vf49_0 : Tf49_0) (vf93_0 : Tf93_0) (vL44_0_1 : TL44_0_1) (α : Type) (k : List RV → Option α) : Fn44_0 (f44_0g vL44_0_1) α k = pa44_0.unc fun ds => fnM Try.prog (E44_0g vf49_0 vf93_0) sh44 (cm44_0g vL44_0_1) rs44 k ds := by kernel_rfl
theorem fm44_0 : ∀ (α : Type) (k : List RV → Option α), Fn44_0 f44_0 α k = pa44_0.unc fun ds => fnM Try.prog E44_0 sh44 cm44_0 rs44 k ds := fm44_0g f49_0 f93_0 L44_0_1

theorem is44 : FnIs Try.prog 44 nt44 tr44 tl44 cm44_0.erase rs44 := ⟨Try.f44, Try.func44, rfl, by kernel_rfl, by kernel_rfl, by kernel_rfl⟩
theorem io44_0 : InstOk Try.prog 44 nt44 ⟨pa44_0, Fn44_0 f44_0⟩ := inst_ok eo44_0 followsTry is44 ⟨⟨sh44, cm44_0, by kernel_rfl, gm44_0, fm44_0⟩⟩

/-! ### F25 etalon/etalonref06.Ratios -/
abbrev nt25 : Nat := 39
def sh25 : List (Nat × List Sh) := [(9, [.int .i64]), (14, [.int .i64, .int .i64]), (16, [.int .i64, .int .i64]), (26, [.int .i64, .int .i64]), (28, [.int .i64, .int .i64]), (36, [.int .i64, .int .i64]), (37, [.int .i64, .int .i64])]
def r25_2 : List AOper := [oO 1 (.box (.tmp 0)), oO 2 (.alloc [(.d (.v (.int .i64 0))), (.d (.v (.int .i64 0))), (.d (.v (.int .i64 0))), (.d (.v (.int .i64 0)))]), oO 3 (.mv (.const (.int .i64 0)))]
def r25_5 : List AOper := [oO 7 (.faddr 0 (.tmp 1)), oO 8 (.faddr 0 (.tmp 7)), oO 9 (.load false 1 (.tmp 8)), oO 10 (.bin .leq 3 (.tmp 9) (.const (.int .i64 0)))]
def r25_8 : List AOper := [oO 11 (.build [(.d (.v (.int .i64 0))), (.d (.v (.int .i64 0))), (.d (.v (.int .i64 0))), (.d (.v (.int .i64 0)))] []), ⟨none, (.store 4 (.tmp 2) (.tmp 11)), none⟩, oO 3 (.mv (.const (.int .i64 9)))]
def r25_10 : List AOper := [oO 13 (.faddr 2 (.tmp 1)), oO 14 (.load true 2 (.tmp 13)), oO 15 (.faddr 0 (.tmp 1)), oO 16 (.load true 2 (.tmp 15)), oO 17 (.call 82 [(.tmp 14), (.tmp 16)]), oM 12 17, oO 18 (.extract 0 (.tmp 12)), oO 19 (.extract 1 (.tmp 12)), oO 4 (.alloc [(.d (.v (.int .i64 0))), (.d (.v (.int .i64 0)))]), ⟨none, (.store 2 (.tmp 4) (.tmp 18)), none⟩, oM 5 19]
def r25_13 : List AOper := [oM 20 5, oO 21 (.bin .neq 3 (.tmp 20) (.const (.int .i64 0)))]
def r25_16 : List AOper := [oO 22 (.build [(.d (.v (.int .i64 0))), (.d (.v (.int .i64 0))), (.d (.v (.int .i64 0))), (.d (.v (.int .i64 0)))] []), oM 23 5, ⟨none, (.store 4 (.tmp 2) (.tmp 22)), none⟩, oM 3 23]
def r25_18 : List AOper := [oO 25 (.faddr 4 (.tmp 1)), oO 26 (.load true 2 (.tmp 25)), oO 27 (.faddr 0 (.tmp 1)), oO 28 (.load true 2 (.tmp 27)), oO 29 (.call 82 [(.tmp 26), (.tmp 28)]), oM 24 29, oO 30 (.extract 0 (.tmp 24)), oO 31 (.extract 1 (.tmp 24)), oO 6 (.alloc [(.d (.v (.int .i64 0))), (.d (.v (.int .i64 0)))]), ⟨none, (.store 2 (.tmp 6) (.tmp 30)), none⟩, oM 5 31]
def r25_21 : List AOper := [oM 32 5, oO 33 (.bin .neq 3 (.tmp 32) (.const (.int .i64 0)))]
def r25_24 : List AOper := [oO 34 (.build [(.d (.v (.int .i64 0))), (.d (.v (.int .i64 0))), (.d (.v (.int .i64 0))), (.d (.v (.int .i64 0)))] []), oM 35 5, ⟨none, (.store 4 (.tmp 2) (.tmp 34)), none⟩, oM 3 35]
def r25_26 : List AOper := [oO 36 (.load true 2 (.tmp 4)), oO 37 (.load true 2 (.tmp 6)), oO 38 (.build [(.d (.v (.int .i64 0))), (.d (.v (.int .i64 0))), (.d (.v (.int .i64 0))), (.d (.v (.int .i64 0)))] [(0, 2, (.tmp 36)), (2, 2, (.tmp 37))]), ⟨none, (.store 4 (.tmp 2) (.tmp 38)), none⟩, oO 3 (.mv (.const (.int .i64 0)))]
def tr25 : List (Nat × Tidy) := [(0, ⟨[1, 2], true, [], []⟩), (1, ⟨[1, 2, 10], true, [], []⟩), (2, ⟨[2, 3], true, [], []⟩), (3, ⟨[1, 2, 4, 5], true, [], []⟩), (4, ⟨[1, 2, 4, 5, 21], true, [], []⟩), (5, ⟨[2, 3], true, [], []⟩), (6, ⟨[2, 4, 5, 6], true, [], []⟩), (7, ⟨[2, 4, 5, 6, 33], true, [], []⟩), (8, ⟨[2, 3], true, [], []⟩), (9, ⟨[2, 3], true, [], []⟩)]
def tl25 : List (Nat × Tidy) := []
def rs25 : List AResV := [.cell 2 true 4, .tmp 3]
def pr25_0_0 : PT (List RV) := pRs [pR true [rD (dI .i64), rD (dI .i64), rD (dI .i64), rD (dI .i64)], pR false [rD (dI .i64)]]
def ur25_0_0 {β : Type} (g : List RV → β) : Int → Int → Int → Int → Int → β := pr25_0_0.unc g

def E25_0g (vf82_0 : Tf82_0) : EnvK := EnvK.of [⟨82, nt82, [⟨pa82_0, Fn82_0 vf82_0⟩]⟩] noSeq
noncomputable def E25_0 : EnvK := E25_0g f82_0
theorem eo25_0 : E25_0.Ok Try.prog := EnvK.of_ok noSeq_ok ⟨⟨io82_0, trivial⟩, trivial⟩

/-- etalon/etalonref06.Ratios -/
abbrev Tf25_0 : Type 1 := (α : Type) → Int → Int → Int → Int → Int → Int → (Int → Int → Int → Int → Int → Option α) → Option α
def f25_0g (vf82_0 : Tf82_0) (α : Type) (x1 : Int) (x2 : Int) (x3 : Int) (x4 : Int) (x5 : Int) (x6 : Int) (k1 : Int → Int → Int → Int → Int → Option α) : Option α :=
 cK (decide (x1 ≤ 0))
 (k1 0 0 0 0 9)
 (vf82_0 α x3 x4 x1 x2
 (fun (x7 : Int) (x8 : Int) (x9 : Int) => cK (x9 != 0)
 (k1 0 0 0 0 x9)
 (vf82_0 α x5 x6 x1 x2
 (fun (x10 : Int) (x11 : Int) (x12 : Int) => cK (x12 != 0)
 (k1 0 0 0 0 x12)
 (k1 x7 x8 x10 x11 0)))))
noncomputable def f25_0 (α : Type) (x1 : Int) (x2 : Int) (x3 : Int) (x4 : Int) (x5 : Int) (x6 : Int) (k1 : Int → Int → Int → Int → Int → Option α) : Option α := f25_0g f82_0 α x1 x2 x3 x4 x5 x6 k1
def pa25_0 : PT (List DV) := pA [pV true [(dI .i64), (dI .i64), (dI .i64), (dI .i64), (dI .i64), (dI .i64)]]
def Fn25_0 (v : Tf25_0) (α : Type) (k : List RV → Option α) : Int → Int → Int → Int → Int → Int → Option α := fun x1 x2 x3 x4 x5 x6 => v α x1 x2 x3 x4 x5 x6 (fun (y1 : Int) (y2 : Int) (y3 : Int) (y4 : Int) (y5 : Int) => ur25_0_0 k y1 y2 y3 y4 y5)
noncomputable def cm25_0g  : MCode := (.seq (.region r25_2 [] (some ⟨[1, 2], true, [], []⟩)) (.seq (.seq (.region r25_5 [] (some ⟨[1, 2, 10], true, [], []⟩)) (.cond (.tmp 10) (.seq (.region r25_8 [] (some ⟨[2, 3], true, [], []⟩)) .ret) .skip)) (.seq (.region r25_10 [] (some ⟨[1, 2, 4, 5], true, [], []⟩)) (.seq (.seq (.region r25_13 [] (some ⟨[1, 2, 4, 5, 21], true, [], []⟩)) (.cond (.tmp 21) (.seq (.region r25_16 [] (some ⟨[2, 3], true, [], []⟩)) .ret) .skip)) (.seq (.region r25_18 [] (some ⟨[2, 4, 5, 6], true, [], []⟩)) (.seq (.seq (.region r25_21 [] (some ⟨[2, 4, 5, 6, 33], true, [], []⟩)) (.cond (.tmp 33) (.seq (.region r25_24 [] (some ⟨[2, 3], true, [], []⟩)) .ret) .skip)) (.seq (.region r25_26 [] (some ⟨[2, 3], true, [], []⟩)) .ret)))))))
noncomputable def cm25_0 : MCode := cm25_0g 
theorem gm25_0 : cm25_0.Good Try.prog E25_0 sh25 := ⟨trivial, ⟨⟨trivial, ⟨⟨trivial, trivial⟩, trivial⟩⟩, ⟨trivial, ⟨⟨trivial, ⟨⟨trivial, trivial⟩, trivial⟩⟩, ⟨trivial, ⟨⟨trivial, ⟨⟨trivial, trivial⟩, trivial⟩⟩, ⟨trivial, trivial⟩⟩⟩⟩⟩⟩⟩
theorem fm25_0g (vf82_0 : Tf82_0)  (α : Type) (k : List RV → Option α) : Fn25_0 (f25_0g vf82_0) α k = pa25_0.unc fun ds => fnM Try.prog (E25_0g vf82_0) sh25 (cm25_0g ) rs25 k ds := by kernel_rfl
theorem fm25_0 : ∀ (α : Type) (k : List RV → Option α), Fn25_0 f25_0 α k = pa25_0.unc fun ds => fnM Try.prog E25_0 sh25 cm25_0 rs25 k ds := fm25_0g f82_0

theorem is25 : FnIs Try.prog 25 nt25 tr25 tl25 cm25_0.erase rs25 := ⟨Try.f25, Try.func25, rfl, by kernel_rfl, by kernel_rfl, by kernel_rfl⟩
theorem io25_0 : InstOk Try.prog 25 nt25 ⟨pa25_0, Fn25_0 f25_0⟩ := inst_ok eo25_0 followsTry is25 ⟨⟨sh25, cm25_0, by kernel_rfl, gm25_0, fm25_0⟩⟩

/-! ### F96 etalon/meter.first -/
abbrev nt96 : Nat := 21
def sh96 : List (Nat × List Sh) := [(12, [.int .i64, .int .i64]), (13, [.int .i64, .int .i64]), (14, [.int .i64, .int .i64])]
def r96_2 : List AOper := [oO 4 (.mv (.const (.int .i64 0)))]
def r96_5 : List AOper := [oM 8 1, oO 9 (.len (.tmp 8)), oO 10 (.mv (.const (.int .i64 0)))]
def td96_7 : Option Tidy := (some ⟨[0, 8, 9, 10], true, [⟨false, 8, 0, 20008, 2⟩], []⟩)
def r96_9 : List AOper := [oO 11 (.bin .lss 3 (.tmp 10) (.tmp 9))]
def r96_15 : List AOper := [oO 12 (.iaddr 2 none (.tmp 8) (.tmp 10)), oO 13 (.load true 2 (.tmp 12)), oO 6 (.alloc [(.d (.v (.int .i64 0))), (.d (.v (.int .i64 0)))]), ⟨none, (.store 2 (.tmp 6) (.tmp 13)), none⟩]
def r96_17 : List AOper := [oO 14 (.load true 2 (.tmp 6)), oM 15 0, oO 16 (.call 125 [(.tmp 14), (.tmp 15)]), oM 7 16]
def r96_19 : List AOper := [oM 17 7, oO 18 (.bin .neq 28 (.tmp 17) (.const (.int .i64 0)))]
def r96_22 : List AOper := [oM 19 7, oM 4 19]
def r96_23 : List AOper := [oO 20 (.bin .add 3 (.tmp 10) (.const (.int .i64 1))), oM 10 20]
def r96_25 : List AOper := [oO 4 (.mv (.const (.int .i64 0)))]
def tr96 : List (Nat × Tidy) := [(0, ⟨[0, 1], true, [], []⟩), (1, ⟨[0, 8, 9, 10], true, [], []⟩), (2, ⟨[0, 8, 9, 10, 11], true, [], []⟩), (3, ⟨[0, 6, 8, 9, 10], true, [], []⟩), (4, ⟨[0, 7, 8, 9, 10], true, [], []⟩), (5, ⟨[0, 7, 8, 9, 10, 18], true, [], []⟩), (6, ⟨[4], true, [], []⟩), (7, ⟨[0, 8, 9, 10], true, [], []⟩), (8, ⟨[4], true, [], []⟩)]
def tl96 : List (Nat × Tidy) := [(2, ⟨[0, 8, 9, 10], true, [⟨false, 8, 0, 20008, 2⟩], []⟩)]
def rs96 : List AResV := [.tmp 4]
def p96_0_0 : PT St := pS [sl 0 (aV false [(cD (dI .i64))]), sl 8 (aV false [(cD dL)]), sl 9 (aV false [(cD (dI .i64))]), sl 10 (aV false [(cD (dI .i64))])] []
def u96_0_0 {β : Type} (g : St → β) : Int → Rows → Int → Int → β := p96_0_0.unc g

def p96_0_1 : PT St := pS [sl 4 (aV false [(cD (dI .i64))])] []
def u96_0_1 {β : Type} (g : St → β) : Int → β := p96_0_1.unc g

def p96_0_2 : PT St := pS [sl 0 (aV false [(cD (dI .i64))]), sl 8 (aV false [(cD dL)]), sl 9 (aV false [(cD (dI .i64))]), sl 10 (aV false [(cD (dI .i64))]), sl 11 (aV false [(cD dB)])] []
def u96_0_2 {β : Type} (g : St → β) : Int → Rows → Int → Int → Bool → β := p96_0_2.unc g

def pr96_0_0 : PT (List RV) := pRs [pR false [rD (dI .i64)]]
def ur96_0_0 {β : Type} (g : List RV → β) : Int → β := pr96_0_0.unc g

def E96_0g (vf125_0 : Tf125_0) : EnvK := EnvK.of [⟨125, nt125, [⟨pa125_0, Fn125_0 vf125_0⟩]⟩] noSeq
noncomputable def E96_0 : EnvK := E96_0g f125_0
theorem eo96_0 : E96_0.Ok Try.prog := EnvK.of_ok noSeq_ok ⟨⟨io125_0, trivial⟩, trivial⟩

noncomputable def c96_0_7g  : MCode := (.seq (.region r96_9 [] (some ⟨[0, 8, 9, 10, 11], true, [], []⟩)) (.seq (.cond (.tmp 11) .skip (.exit 0)) (.seq (.block 1 (.seq (.region r96_15 [] (some ⟨[0, 6, 8, 9, 10], true, [], []⟩)) (.seq (.region r96_17 [] (some ⟨[0, 7, 8, 9, 10], true, [], []⟩)) (.seq (.region r96_19 [] (some ⟨[0, 7, 8, 9, 10, 18], true, [], []⟩)) (.cond (.tmp 18) (.seq (.region r96_22 [] (some ⟨[4], true, [], []⟩)) .ret) .skip))))) (.region r96_23 [] (some ⟨[0, 8, 9, 10], true, [], []⟩)))))
noncomputable def c96_0_7 : MCode := c96_0_7g 
theorem g96_0_7 : c96_0_7.Good Try.prog E96_0 sh96 := ⟨trivial, ⟨⟨trivial, trivial⟩, ⟨⟨trivial, ⟨trivial, ⟨trivial, ⟨⟨trivial, trivial⟩, trivial⟩⟩⟩⟩, trivial⟩⟩⟩
--CODE 7 0
def S96_0_0g (vf125_0 : Tf125_0) (α : Type) (x3 : Int) (x4 : Rows) (x5 : Int) (x6 : Int) (kn : Int → Option α) (k1 : Int → Option α) (k2 : Int → Bool → Option α) : Option α :=
 cK (decide (x6 < x5))
 (rowK x4 x6 [.int .i64, .int .i64]
 (fun (x8 : Int) (x9 : Int) => vf125_0 α x8 x9 x3
 (fun (x10 : Int) => cK (x10 != 0)
 (k1 x10)
 (kn (w64 (x6 + 1))))))
 (k2 x6 (decide (x6 < x5)))
noncomputable def S96_0_0 (α : Type) (x3 : Int) (x4 : Rows) (x5 : Int) (x6 : Int) (kn : Int → Option α) (k1 : Int → Option α) (k2 : Int → Bool → Option α) : Option α := S96_0_0g f125_0 α x3 x4 x5 x6 kn k1 k2
noncomputable def R96_0_0 (α : Type) (x3 : Int) (x4 : Rows) (x5 : Int) (k1 : Int → Option α) (k2 : Int → Bool → Option α) : Nat → Int → Option α
 | 0, _ => none
 | n + 1, x6 => S96_0_0 α x3 x4 x5 x6 (R96_0_0 α x3 x4 x5 k1 k2 n) k1 k2
noncomputable def L96_0_0 (α : Type) (x3 : Int) (x4 : Rows) (x5 : Int) (k1 : Int → Option α) (k2 : Int → Bool → Option α) (x6 : Int) : Option α := R96_0_0 α x3 x4 x5 k1 k2 fuel x6
abbrev TL96_0_0 : Type 1 := (α : Type) → Int → Rows → Int → (Int → Option α) → (Int → Bool → Option α) → Int → Option α
def F96_0_0 (v : TL96_0_0) (α : Type) (K : Exit → St → Option α) : Int → Rows → Int → Int → Option α := fun x3 x4 x5 x6 => v α x3 x4 x5 (fun (y1 : Int) => u96_0_1 (K .ret) y1) (fun (y1 : Int) (y2 : Bool) => u96_0_2 (K (.exit 0)) x3 x4 x5 y1 y2) x6
theorem r96_0_0g (vf125_0 : Tf125_0)  (α : Type) (K : Exit → St → Option α) (Kn : St → Option α) (x3 : Int) (x4 : Rows) (x5 : Int) (x6 : Int) : u96_0_0 (fun σ => runM Try.prog (E96_0g vf125_0) sh96 (c96_0_7g ) (thenK (fun σ => tidyK td96_7 σ Kn) K) σ) x3 x4 x5 x6 = S96_0_0g vf125_0 α x3 x4 x5 x6 (fun x6 => u96_0_0 Kn x3 x4 x5 x6) (fun (y1 : Int) => u96_0_1 (K .ret) y1) (fun (y1 : Int) (y2 : Bool) => u96_0_2 (K (.exit 0)) x3 x4 x5 y1 y2) := by kernel_rfl
theorem r96_0_0 (α : Type) (K : Exit → St → Option α) (Kn : St → Option α) (x3 : Int) (x4 : Rows) (x5 : Int) (x6 : Int) : u96_0_0 (fun σ => runM Try.prog E96_0 sh96 c96_0_7 (thenK (fun σ => tidyK td96_7 σ Kn) K) σ) x3 x4 x5 x6 = S96_0_0 α x3 x4 x5 x6 (fun x6 => u96_0_0 Kn x3 x4 x5 x6) (fun (y1 : Int) => u96_0_1 (K .ret) y1) (fun (y1 : Int) (y2 : Bool) => u96_0_2 (K (.exit 0)) x3 x4 x5 y1 y2) := r96_0_0g f125_0 α K Kn x3 x4 x5 x6
theorem t96_0_0 (α : Type) (K : Exit → St → Option α) : ∀ (n : Nat) (x3 : Int) (x4 : Rows) (x5 : Int) (x6 : Int), R96_0_0 α x3 x4 x5 (fun (y1 : Int) => u96_0_1 (K .ret) y1) (fun (y1 : Int) (y2 : Bool) => u96_0_2 (K (.exit 0)) x3 x4 x5 y1 y2) n x6 = u96_0_0 (loopT (runM Try.prog E96_0 sh96 c96_0_7) td96_7 K n) x3 x4 x5 x6 := by
 intro n
 induction n with
 | zero => intros; rfl
 | succ n ih => intro x3 x4 x5 x6; exact (congrArg (fun kn => S96_0_0 α x3 x4 x5 x6 kn (fun (y1 : Int) => u96_0_1 (K .ret) y1) (fun (y1 : Int) (y2 : Bool) => u96_0_2 (K (.exit 0)) x3 x4 x5 y1 y2)) (funext fun x6 => ih x3 x4 x5 x6)).trans (r96_0_0 α K (loopT (runM Try.prog E96_0 sh96 c96_0_7) td96_7 K n) x3 x4 x5 x6).symm
theorem m96_0_0 : ∀ (α : Type) (K : Exit → St → Option α), F96_0_0 L96_0_0 α K = p96_0_0.unc fun σ => loopT (runM Try.prog E96_0 sh96 c96_0_7) td96_7 K fuel σ := fun α K => funext fun x3 => funext fun x4 => funext fun x5 => funext fun x6 => t96_0_0 α K fuel x3 x4 x5 x6

/-- etalon/meter.first -/
abbrev Tf96_0 : Type 1 := (α : Type) → Int → Rows → (Int → Option α) → Option α
def f96_0g (vL96_0_0 : TL96_0_0) (α : Type) (x1 : Int) (x2 : Rows) (k1 : Int → Option α) : Option α :=
 vL96_0_0 α x1 x2 ((List.length x2 : Nat) : Int)
 (fun (x11 : Int) => k1 x11)
 (fun (x12 : Int) (x13 : Bool) => k1 0) 0
noncomputable def f96_0 (α : Type) (x1 : Int) (x2 : Rows) (k1 : Int → Option α) : Option α := f96_0g L96_0_0 α x1 x2 k1
def pa96_0 : PT (List DV) := pA [pV false [(dI .i64)], pV false [dL]]
def Fn96_0 (v : Tf96_0) (α : Type) (k : List RV → Option α) : Int → Rows → Option α := fun x1 x2 => v α x1 x2 (fun (y1 : Int) => ur96_0_0 k y1)
noncomputable def cm96_0g (vL96_0_0 : TL96_0_0) : MCode := (.seq (.region r96_2 [] (some ⟨[0, 1], true, [], []⟩)) (.seq (.seq (.region r96_5 [] (some ⟨[0, 8, 9, 10], true, [], []⟩)) (.block 0 (.loop td96_7 [⟨p96_0_0, F96_0_0 vL96_0_0⟩] c96_0_7))) (.seq (.region r96_25 [] (some ⟨[4], true, [], []⟩)) .ret)))
noncomputable def cm96_0 : MCode := cm96_0g L96_0_0
theorem gm96_0 : cm96_0.Good Try.prog E96_0 sh96 := ⟨trivial, ⟨⟨trivial, ⟨g96_0_7, m96_0_0, trivial⟩⟩, ⟨trivial, trivial⟩⟩⟩
theorem fm96_0g (vf125_0 : Tf125_0) (vL96_0_0 : TL96_0_0) (α : Type) (k : List RV → Option α) : Fn96_0 (f96_0g vL96_0_0) α k = pa96_0.unc fun ds => fnM Try.prog (E96_0g vf125_0) sh96 (cm96_0g vL96_0_0) rs96 k ds := by kernel_rfl
theorem fm96_0 : ∀ (α : Type) (k : List RV → Option α), Fn96_0 f96_0 α k = pa96_0.unc fun ds => fnM Try.prog E96_0 sh96 cm96_0 rs96 k ds := fm96_0g f125_0 L96_0_0

theorem is96 : FnIs Try.prog 96 nt96 tr96 tl96 cm96_0.erase rs96 := ⟨Try.f96, Try.func96, rfl, by kernel_rfl, by kernel_rfl, by kernel_rfl⟩
theorem io96_0 : InstOk Try.prog 96 nt96 ⟨pa96_0, Fn96_0 f96_0⟩ := inst_ok eo96_0 followsTry is96 ⟨⟨sh96, cm96_0, by kernel_rfl, gm96_0, fm96_0⟩⟩

/-! ### F60 etalon/meter.CheckSums -/
abbrev nt60 : Nat := 11
def sh60 : List (Nat × List Sh) := [(4, [.int .i64, .int .i64]), (6, [.int .i64, .int .i64]), (8, [.int .i64, .int .i64])]
def r60_2 : List AOper := [oO 1 (.box (.tmp 0)), oO 2 (.mv (.const (.int .i64 0)))]
def r60_4 : List AOper := [oO 3 (.faddr 0 (.tmp 1)), oO 4 (.load true 2 (.tmp 3)), oO 5 (.faddr 2 (.tmp 1)), oO 6 (.load true 2 (.tmp 5)), oO 7 (.faddr 4 (.tmp 1)), oO 8 (.load true 2 (.tmp 7)), oO 9 (.bslice 2 3 [(.v (.int .i64 0)), (.v (.int .i64 0))] [(0, (.tmp 4)), (1, (.tmp 6)), (2, (.tmp 8))]), oO 10 (.call 96 [(.const (.int .i64 10000000)), (.tmp 9)]), oM 2 10]
def tr60 : List (Nat × Tidy) := [(0, ⟨[1], true, [], []⟩), (1, ⟨[2], true, [], []⟩)]
def tl60 : List (Nat × Tidy) := []
def rs60 : List AResV := [.tmp 2]
def pr60_0_0 : PT (List RV) := pRs [pR false [rD (dI .i64)]]
def ur60_0_0 {β : Type} (g : List RV → β) : Int → β := pr60_0_0.unc g

def E60_0g (vf96_0 : Tf96_0) : EnvK := EnvK.of [⟨96, nt96, [⟨pa96_0, Fn96_0 vf96_0⟩]⟩] noSeq
noncomputable def E60_0 : EnvK := E60_0g f96_0
theorem eo60_0 : E60_0.Ok Try.prog := EnvK.of_ok noSeq_ok ⟨⟨io96_0, trivial⟩, trivial⟩

/-- etalon/meter.CheckSums -/
abbrev Tf60_0 : Type 1 := (α : Type) → Int → Int → Int → Int → Int → Int → (Int → Option α) → Option α
def f60_0g (vf96_0 : Tf96_0) (α : Type) (x1 : Int) (x2 : Int) (x3 : Int) (x4 : Int) (x5 : Int) (x6 : Int) (k1 : Int → Option α) : Option α :=
 vf96_0 α 10000000 [[DC.v (.int .i64 x1), DC.v (.int .i64 x2)], [DC.v (.int .i64 x3), DC.v (.int .i64 x4)], [DC.v (.int .i64 x5), DC.v (.int .i64 x6)]]
 (fun (x7 : Int) => k1 x7)
noncomputable def f60_0 (α : Type) (x1 : Int) (x2 : Int) (x3 : Int) (x4 : Int) (x5 : Int) (x6 : Int) (k1 : Int → Option α) : Option α := f60_0g f96_0 α x1 x2 x3 x4 x5 x6 k1
def pa60_0 : PT (List DV) := pA [pV true [(dI .i64), (dI .i64), (dI .i64), (dI .i64), (dI .i64), (dI .i64)]]
def Fn60_0 (v : Tf60_0) (α : Type) (k : List RV → Option α) : Int → Int → Int → Int → Int → Int → Option α := fun x1 x2 x3 x4 x5 x6 => v α x1 x2 x3 x4 x5 x6 (fun (y1 : Int) => ur60_0_0 k y1)
noncomputable def cm60_0g  : MCode := (.seq (.region r60_2 [] (some ⟨[1], true, [], []⟩)) (.seq (.region r60_4 [] (some ⟨[2], true, [], []⟩)) .ret))
noncomputable def cm60_0 : MCode := cm60_0g 
theorem gm60_0 : cm60_0.Good Try.prog E60_0 sh60 := ⟨trivial, ⟨trivial, trivial⟩⟩
theorem fm60_0g (vf96_0 : Tf96_0)  (α : Type) (k : List RV → Option α) : Fn60_0 (f60_0g vf96_0) α k = pa60_0.unc fun ds => fnM Try.prog (E60_0g vf96_0) sh60 (cm60_0g ) rs60 k ds := by kernel_rfl
theorem fm60_0 : ∀ (α : Type) (k : List RV → Option α), Fn60_0 f60_0 α k = pa60_0.unc fun ds => fnM Try.prog E60_0 sh60 cm60_0 rs60 k ds := fm60_0g f96_0

theorem is60 : FnIs Try.prog 60 nt60 tr60 tl60 cm60_0.erase rs60 := ⟨Try.f60, Try.func60, rfl, by kernel_rfl, by kernel_rfl, by kernel_rfl⟩
theorem io60_0 : InstOk Try.prog 60 nt60 ⟨pa60_0, Fn60_0 f60_0⟩ := inst_ok eo60_0 followsTry is60 ⟨⟨sh60, cm60_0, by kernel_rfl, gm60_0, fm60_0⟩⟩

/-! ### F28 etalon/meter.CheckReading -/
abbrev nt28 : Nat := 22
def sh28 : List (Nat × List Sh) := [(5, [.str]), (7, [.int .i64]), (9, [.int .i64, .int .i64]), (15, [.int .i64, .int .i64]), (17, [.int .i64, .int .i64]), (19, [.int .i64, .int .i64])]
def r28_2 : List AOper := [oO 1 (.box (.tmp 0)), oO 2 (.mv (.const (.int .i64 0)))]
def r28_5 : List AOper := [oO 4 (.faddr 0 (.tmp 1)), oO 5 (.load false 1 (.tmp 4)), oO 6 (.faddr 1 (.tmp 1)), oO 7 (.load false 1 (.tmp 6)), oO 8 (.faddr 2 (.tmp 1)), oO 9 (.load true 2 (.tmp 8)), oO 10 (.call 83 [(.tmp 5), (.tmp 7), (.tmp 9)]), oM 3 10]
def r28_7 : List AOper := [oM 11 3, oO 12 (.bin .neq 28 (.tmp 11) (.const (.int .i64 0)))]
def r28_10 : List AOper := [oM 13 3, oM 2 13]
def r28_12 : List AOper := [oO 14 (.faddr 4 (.tmp 1)), oO 15 (.load true 2 (.tmp 14)), oO 16 (.faddr 6 (.tmp 1)), oO 17 (.load true 2 (.tmp 16)), oO 18 (.faddr 8 (.tmp 1)), oO 19 (.load true 2 (.tmp 18)), oO 20 (.bslice 2 3 [(.v (.int .i64 0)), (.v (.int .i64 0))] [(0, (.tmp 15)), (1, (.tmp 17)), (2, (.tmp 19))]), oO 21 (.call 96 [(.const (.int .i64 1048576)), (.tmp 20)]), oM 2 21]
def tr28 : List (Nat × Tidy) := [(0, ⟨[1], true, [], []⟩), (1, ⟨[1, 3], true, [], []⟩), (2, ⟨[1, 3, 12], true, [], []⟩), (3, ⟨[2], true, [], []⟩), (4, ⟨[2], true, [], []⟩)]
def tl28 : List (Nat × Tidy) := []
def rs28 : List AResV := [.tmp 2]
def pr28_0_0 : PT (List RV) := pRs [pR false [rD (dI .i64)]]
def ur28_0_0 {β : Type} (g : List RV → β) : Int → β := pr28_0_0.unc g

def E28_0g (vf83_0 : Tf83_0) (vf96_0 : Tf96_0) : EnvK := EnvK.of [⟨83, nt83, [⟨pa83_0, Fn83_0 vf83_0⟩]⟩, ⟨96, nt96, [⟨pa96_0, Fn96_0 vf96_0⟩]⟩] noSeq
noncomputable def E28_0 : EnvK := E28_0g f83_0 f96_0
theorem eo28_0 : E28_0.Ok Try.prog := EnvK.of_ok noSeq_ok ⟨⟨io83_0, trivial⟩, ⟨io96_0, trivial⟩, trivial⟩

/-- etalon/meter.CheckReading -/
abbrev Tf28_0 : Type 1 := (α : Type) → ByteArray → Int → Int → Int → Int → Int → Int → Int → Int → Int → (Int → Option α) → Option α
def f28_0g (vf83_0 : Tf83_0) (vf96_0 : Tf96_0) (α : Type) (x1 : ByteArray) (x2 : Int) (x3 : Int) (x4 : Int) (x5 : Int) (x6 : Int) (x7 : Int) (x8 : Int) (x9 : Int) (x10 : Int) (k1 : Int → Option α) : Option α :=
 vf83_0 α x1 x2 x3 x4
 (fun (x11 : Int) => cK (x11 != 0)
 (k1 x11)
 (vf96_0 α 1048576 [[DC.v (.int .i64 x5), DC.v (.int .i64 x6)], [DC.v (.int .i64 x7), DC.v (.int .i64 x8)], [DC.v (.int .i64 x9), DC.v (.int .i64 x10)]]
 (fun (x12 : Int) => k1 x12)))
noncomputable def f28_0 (α : Type) (x1 : ByteArray) (x2 : Int) (x3 : Int) (x4 : Int) (x5 : Int) (x6 : Int) (x7 : Int) (x8 : Int) (x9 : Int) (x10 : Int) (k1 : Int → Option α) : Option α := f28_0g f83_0 f96_0 α x1 x2 x3 x4 x5 x6 x7 x8 x9 x10 k1
def pa28_0 : PT (List DV) := pA [pV true [dS, (dI .i64), (dI .i64), (dI .i64), (dI .i64), (dI .i64), (dI .i64), (dI .i64), (dI .i64), (dI .i64)]]
def Fn28_0 (v : Tf28_0) (α : Type) (k : List RV → Option α) : ByteArray → Int → Int → Int → Int → Int → Int → Int → Int → Int → Option α := fun x1 x2 x3 x4 x5 x6 x7 x8 x9 x10 => v α x1 x2 x3 x4 x5 x6 x7 x8 x9 x10 (fun (y1 : Int) => ur28_0_0 k y1)
noncomputable def cm28_0g  : MCode := (.seq (.region r28_2 [] (some ⟨[1], true, [], []⟩)) (.seq (.seq (.region r28_5 [] (some ⟨[1, 3], true, [], []⟩)) (.seq (.region r28_7 [] (some ⟨[1, 3, 12], true, [], []⟩)) (.cond (.tmp 12) (.seq (.region r28_10 [] (some ⟨[2], true, [], []⟩)) .ret) .skip))) (.seq (.region r28_12 [] (some ⟨[2], true, [], []⟩)) .ret)))
noncomputable def cm28_0 : MCode := cm28_0g 
theorem gm28_0 : cm28_0.Good Try.prog E28_0 sh28 := ⟨trivial, ⟨⟨trivial, ⟨trivial, ⟨⟨trivial, trivial⟩, trivial⟩⟩⟩, ⟨trivial, trivial⟩⟩⟩
theorem fm28_0g (vf83_0 : Tf83_0) (vf96_0 : Tf96_0)  (α : Type) (k : List RV → Option α) : Fn28_0 (f28_0g vf83_0 vf96_0) α k = pa28_0.unc fun ds => fnM Try.prog (E28_0g vf83_0 vf96_0) sh28 (cm28_0g ) rs28 k ds := by kernel_rfl
theorem fm28_0 : ∀ (α : Type) (k : List RV → Option α), Fn28_0 f28_0 α k = pa28_0.unc fun ds => fnM Try.prog E28_0 sh28 cm28_0 rs28 k ds := fm28_0g f83_0 f96_0

theorem is28 : FnIs Try.prog 28 nt28 tr28 tl28 cm28_0.erase rs28 := ⟨Try.f28, Try.func28, rfl, by kernel_rfl, by kernel_rfl, by kernel_rfl⟩
theorem io28_0 : InstOk Try.prog 28 nt28 ⟨pa28_0, Fn28_0 f28_0⟩ := inst_ok eo28_0 followsTry is28 ⟨⟨sh28, cm28_0, by kernel_rfl, gm28_0, fm28_0⟩⟩

/-! ### F43 etalon/meter.Averaged -/
abbrev nt43 : Nat := 100
def sh43 : List (Nat × List Sh) := [(26, [.str, .int .i64, .int .i64, .int .i64, .int .i64, .int .i64, .int .i64, .int .i64, .int .i64, .int .i64]), (27, [.str, .int .i64, .int .i64, .int .i64, .int .i64, .int .i64, .int .i64, .int .i64, .int .i64, .int .i64]), (33, [.str, .int .i64, .int .i64, .int .i64, .int .i64, .int .i64, .int .i64, .int .i64, .int .i64, .int .i64]), (34, [.str, .int .i64, .int .i64, .int .i64, .int .i64, .int .i64, .int .i64, .int .i64, .int .i64, .int .i64]), (35, [.str, .int .i64, .int .i64, .int .i64, .int .i64, .int .i64, .int .i64, .int .i64, .int .i64, .int .i64]), (43, [.int .i64]), (45, [.int .i64]), (49, [.int .i64, .int .i64]), (51, [.int .i64, .int .i64]), (58, [.int .i64, .int .i64]), (60, [.int .i64, .int .i64]), (66, [.int .i64, .int .i64]), (68, [.int .i64, .int .i64]), (74, [.int .i64, .int .i64]), (76, [.int .i64, .int .i64]), (92, [.int .i64, .int .i64]), (93, [.int .i64, .int .i64]), (94, [.int .i64, .int .i64]), (99, [.str, .int .i64, .int .i64, .int .i64, .int .i64, .int .i64, .int .i64, .int .i64, .int .i64, .int .i64])]
def r43_2 : List AOper := [⟨(some 2), (.alloc [(.d (.v (.string ⟨#[]⟩))), (.d (.v (.int .i64 0))), (.d (.v (.int .i64 0))), (.d (.v (.int .i64 0))), (.d (.v (.int .i64 0))), (.d (.v (.int .i64 0))), (.d (.v (.int .i64 0))), (.d (.v (.int .i64 0))), (.d (.v (.int .i64 0))), (.d (.v (.int .i64 0)))]), none⟩, oO 3 (.mv (.const (.int .i64 0))), oO 4 (.mv (.const (.int .i64 0)))]
def r43_6 : List AOper := [oM 16 0, oO 17 (.len (.tmp 16)), oO 18 (.bin .eql 3 (.tmp 17) (.const (.int .i64 0))), oM 15 18]
def r43_9 : List AOper := [⟨(some 19), (.build [(.d (.v (.string ⟨#[]⟩))), (.d (.v (.int .i64 0))), (.d (.v (.int .i64 0))), (.d (.v (.int .i64 0))), (.d (.v (.int .i64 0))), (.d (.v (.int .i64 0))), (.d (.v (.int .i64 0))), (.d (.v (.int .i64 0))), (.d (.v (.int .i64 0))), (.d (.v (.int .i64 0)))] []), none⟩, ⟨none, (.store 10 (.tmp 2) (.tmp 19)), none⟩, oO 3 (.mv (.const (.int .i64 0))), oO 4 (.mv (.const (.int .i64 12)))]
def r43_11 : List AOper := [oM 21 0, oO 22 (.len (.tmp 21)), oO 23 (.bin .gtr 3 (.tmp 22) (.const (.int .i64 20))), oM 20 23]
def r43_14 : List AOper := [⟨(some 24), (.build [(.d (.v (.string ⟨#[]⟩))), (.d (.v (.int .i64 0))), (.d (.v (.int .i64 0))), (.d (.v (.int .i64 0))), (.d (.v (.int .i64 0))), (.d (.v (.int .i64 0))), (.d (.v (.int .i64 0))), (.d (.v (.int .i64 0))), (.d (.v (.int .i64 0))), (.d (.v (.int .i64 0)))] []), none⟩, ⟨none, (.store 10 (.tmp 2) (.tmp 24)), none⟩, oO 3 (.mv (.const (.int .i64 0))), oO 4 (.mv (.const (.int .i64 8)))]
def r43_16 : List AOper := [oM 25 0, oO 26 (.iaddr 10 none (.tmp 25) (.const (.int .i64 0))), oO 27 (.load true 10 (.tmp 26)), ⟨(some 5), (.alloc [(.d (.v (.string ⟨#[]⟩))), (.d (.v (.int .i64 0))), (.d (.v (.int .i64 0))), (.d (.v (.int .i64 0))), (.d (.v (.int .i64 0))), (.d (.v (.int .i64 0))), (.d (.v (.int .i64 0))), (.d (.v (.int .i64 0))), (.d (.v (.int .i64 0))), (.d (.v (.int .i64 0)))]), none⟩, ⟨none, (.store 10 (.tmp 5) (.tmp 27)), none⟩]
def r43_19 : List AOper := [oM 28 0, oO 29 (.len (.tmp 28)), oO 30 (.mv (.const (.int .i64 0)))]
def td43_21 : Option Tidy := (some ⟨[2, 5, 28, 29, 30], true, [⟨false, 28, 0, 20028, 10⟩], []⟩)
def r43_23 : List AOper := [oO 31 (.bin .lss 3 (.tmp 30) (.tmp 29))]
def r43_29 : List AOper := [oM 32 30, oO 33 (.iaddr 10 none (.tmp 28) (.tmp 30)), oO 34 (.load true 10 (.tmp 33)), ⟨(some 7), (.alloc [(.d (.v (.string ⟨#[]⟩))), (.d (.v (.int .i64 0))), (.d (.v (.int .i64 0))), (.d (.v (.int .i64 0))), (.d (.v (.int .i64 0))), (.d (.v (.int .i64 0))), (.d (.v (.int .i64 0))), (.d (.v (.int .i64 0))), (.d (.v (.int .i64 0))), (.d (.v (.int .i64 0)))]), none⟩, oM 6 32, ⟨none, (.store 10 (.tmp 7) (.tmp 34)), none⟩]
def r43_32 : List AOper := [oO 35 (.load true 10 (.tmp 7)), oO 36 (.call 28 [(.tmp 35)]), oM 8 36]
def r43_34 : List AOper := [oM 37 8, oO 38 (.bin .neq 28 (.tmp 37) (.const (.int .i64 0)))]
def r43_37 : List AOper := [⟨(some 39), (.build [(.d (.v (.string ⟨#[]⟩))), (.d (.v (.int .i64 0))), (.d (.v (.int .i64 0))), (.d (.v (.int .i64 0))), (.d (.v (.int .i64 0))), (.d (.v (.int .i64 0))), (.d (.v (.int .i64 0))), (.d (.v (.int .i64 0))), (.d (.v (.int .i64 0))), (.d (.v (.int .i64 0)))] []), none⟩, oM 40 6, oM 41 8, ⟨none, (.store 10 (.tmp 2) (.tmp 39)), none⟩, oM 3 40, oM 4 41]
def r43_40 : List AOper := [oO 42 (.faddr 1 (.tmp 7)), oO 43 (.load false 1 (.tmp 42)), oO 44 (.faddr 1 (.tmp 5)), oO 45 (.load false 1 (.tmp 44)), oO 46 (.bin .neq 3 (.tmp 43) (.tmp 45)), oM 47 46, ⟨(some 48), (.faddr 2 (.tmp 7)), (some (47, false))⟩, ⟨(some 49), (.load true 2 (.tmp 48)), (some (47, false))⟩, ⟨(some 50), (.faddr 2 (.tmp 5)), (some (47, false))⟩, ⟨(some 51), (.load true 2 (.tmp 50)), (some (47, false))⟩, ⟨(some 52), (.bin .neq 53 (.tmp 49) (.tmp 51)), (some (47, false))⟩, oO 53 (.pick (.tmp 47) (.const (.bool true)) (.tmp 52))]
def r43_43 : List AOper := [⟨(some 54), (.build [(.d (.v (.string ⟨#[]⟩))), (.d (.v (.int .i64 0))), (.d (.v (.int .i64 0))), (.d (.v (.int .i64 0))), (.d (.v (.int .i64 0))), (.d (.v (.int .i64 0))), (.d (.v (.int .i64 0))), (.d (.v (.int .i64 0))), (.d (.v (.int .i64 0))), (.d (.v (.int .i64 0)))] []), none⟩, oM 55 6, ⟨none, (.store 10 (.tmp 2) (.tmp 54)), none⟩, oM 3 55, oO 4 (.mv (.const (.int .i64 25)))]
def r43_45 : List AOper := [oO 57 (.faddr 4 (.tmp 5)), oO 58 (.load true 2 (.tmp 57)), oO 59 (.faddr 4 (.tmp 7)), oO 60 (.load true 2 (.tmp 59)), oO 61 (.call 88 [(.tmp 58), (.tmp 60)]), oM 56 61, oO 62 (.extract 0 (.tmp 56)), oO 63 (.extract 1 (.tmp 56)), oO 9 (.alloc [(.d (.v (.int .i64 0))), (.d (.v (.int .i64 0)))]), ⟨none, (.store 2 (.tmp 9) (.tmp 62)), none⟩, oM 10 63]
def r43_47 : List AOper := [oO 65 (.faddr 6 (.tmp 5)), oO 66 (.load true 2 (.tmp 65)), oO 67 (.faddr 6 (.tmp 7)), oO 68 (.load true 2 (.tmp 67)), oO 69 (.call 88 [(.tmp 66), (.tmp 68)]), oM 64 69, oO 70 (.extract 0 (.tmp 64)), oO 71 (.extract 1 (.tmp 64)), oO 11 (.alloc [(.d (.v (.int .i64 0))), (.d (.v (.int .i64 0)))]), ⟨none, (.store 2 (.tmp 11) (.tmp 70)), none⟩, oM 12 71]
def r43_49 : List AOper := [oO 73 (.faddr 8 (.tmp 5)), oO 74 (.load true 2 (.tmp 73)), oO 75 (.faddr 8 (.tmp 7)), oO 76 (.load true 2 (.tmp 75)), oO 77 (.call 88 [(.tmp 74), (.tmp 76)]), oM 72 77, oO 78 (.extract 0 (.tmp 72)), oO 79 (.extract 1 (.tmp 72)), oO 13 (.alloc [(.d (.v (.int .i64 0))), (.d (.v (.int .i64 0)))]), ⟨none, (.store 2 (.tmp 13) (.tmp 78)), none⟩, oM 14 79]
def r43_52 : List AOper := [oM 80 10, oO 81 (.pure (oB (.unOp .not 4 (.tmp 80)) 4)), oM 82 81, ⟨(some 83), (.mv (.tmp 12)), (some (82, false))⟩, ⟨(some 84), (.pure (oB (.unOp .not 4 (.tmp 83)) 4)), (some (82, false))⟩, oO 85 (.pick (.tmp 82) (.const (.bool true)) (.tmp 84)), oM 86 85, ⟨(some 87), (.mv (.tmp 14)), (some (86, false))⟩, ⟨(some 88), (.pure (oB (.unOp .not 4 (.tmp 87)) 4)), (some (86, false))⟩, oO 89 (.pick (.tmp 86) (.const (.bool true)) (.tmp 88))]
def r43_55 : List AOper := [⟨(some 90), (.build [(.d (.v (.string ⟨#[]⟩))), (.d (.v (.int .i64 0))), (.d (.v (.int .i64 0))), (.d (.v (.int .i64 0))), (.d (.v (.int .i64 0))), (.d (.v (.int .i64 0))), (.d (.v (.int .i64 0))), (.d (.v (.int .i64 0))), (.d (.v (.int .i64 0))), (.d (.v (.int .i64 0)))] []), none⟩, oM 91 6, ⟨none, (.store 10 (.tmp 2) (.tmp 90)), none⟩, oM 3 91, oO 4 (.mv (.const (.int .i64 14)))]
def r43_56 : List AOper := [oO 92 (.load true 2 (.tmp 9)), oO 93 (.load true 2 (.tmp 11)), oO 94 (.load true 2 (.tmp 13)), oO 95 (.faddr 4 (.tmp 5)), ⟨none, (.store 2 (.tmp 95) (.tmp 92)), none⟩, oO 96 (.faddr 6 (.tmp 5)), ⟨none, (.store 2 (.tmp 96) (.tmp 93)), none⟩, oO 97 (.faddr 8 (.tmp 5)), ⟨none, (.store 2 (.tmp 97) (.tmp 94)), none⟩]
def r43_57 : List AOper := [oO 98 (.bin .add 3 (.tmp 30) (.const (.int .i64 1))), oM 30 98]
def r43_59 : List AOper := [oO 99 (.load true 10 (.tmp 5)), ⟨none, (.store 10 (.tmp 2) (.tmp 99)), none⟩, oO 3 (.mv (.const (.int .i64 0))), oO 4 (.mv (.const (.int .i64 0)))]
def tr43 : List (Nat × Tidy) := [(0, ⟨[0, 2], true, [], []⟩), (1, ⟨[0, 2, 15], true, [], []⟩), (2, ⟨[2, 3, 4], true, [], []⟩), (3, ⟨[0, 2, 20], true, [], []⟩), (4, ⟨[2, 3, 4], true, [], []⟩), (5, ⟨[0, 2, 5], true, [], []⟩), (6, ⟨[2, 5, 28, 29, 30], true, [], []⟩), (7, ⟨[2, 5, 28, 29, 30, 31], true, [], []⟩), (8, ⟨[2, 5, 6, 7, 28, 29, 30], true, [], []⟩), (9, ⟨[2, 5, 6, 7, 8, 28, 29, 30], true, [], []⟩), (10, ⟨[2, 5, 6, 7, 8, 28, 29, 30, 38], true, [], []⟩), (11, ⟨[2, 3, 4], true, [], []⟩), (12, ⟨[2, 5, 6, 7, 28, 29, 30, 53], true, [], []⟩), (13, ⟨[2, 3, 4], true, [], []⟩), (14, ⟨[2, 5, 6, 7, 9, 10, 28, 29, 30], true, [], []⟩), (15, ⟨[2, 5, 6, 7, 9, 10, 11, 12, 28, 29, 30], true, [], []⟩), (16, ⟨[2, 5, 6, 9, 10, 11, 12, 13, 14, 28, 29, 30], true, [], []⟩), (17, ⟨[2, 5, 6, 9, 11, 13, 28, 29, 30, 89], true, [], []⟩), (18, ⟨[2, 3, 4], true, [], []⟩), (19, ⟨[2, 5, 28, 29, 30], true, [], []⟩), (20, ⟨[2, 5, 28, 29, 30], true, [], []⟩), (21, ⟨[2, 3, 4], true, [], []⟩)]
def tl43 : List (Nat × Tidy) := [(7, ⟨[2, 5, 28, 29, 30], true, [⟨false, 28, 0, 20028, 10⟩], []⟩)]
def rs43 : List AResV := [.cell 2 true 10, .tmp 3, .tmp 4]
def p43_0_0 : PT St := pS [sl 2 (aV false [(cPtr 2 0)]), sl 5 (aV false [(cPtr 5 0)]), sl 6 (aV false [(cD (dI .i64))]), sl 9 (aV false [(cPtr 9 0)]), sl 10 (aV false [(cD dB)]), sl 11 (aV false [(cPtr 11 0)]), sl 12 (aV false [(cD dB)]), sl 13 (aV false [(cPtr 13 0)]), sl 14 (aV false [(cD dB)]), sl 28 (aV false [(cD dL)]), sl 29 (aV false [(cD (dI .i64))]), sl 30 (aV false [(cD (dI .i64))])] [eBox 2 [(cD dS), (cD (dI .i64)), (cD (dI .i64)), (cD (dI .i64)), (cD (dI .i64)), (cD (dI .i64)), (cD (dI .i64)), (cD (dI .i64)), (cD (dI .i64)), (cD (dI .i64))], eBox 5 [(cD dS), (cD (dI .i64)), (cD (dI .i64)), (cD (dI .i64)), (cD (dI .i64)), (cD (dI .i64)), (cD (dI .i64)), (cD (dI .i64)), (cD (dI .i64)), (cD (dI .i64))], eBox 9 [(cD (dI .i64)), (cD (dI .i64))], eBox 11 [(cD (dI .i64)), (cD (dI .i64))], eBox 13 [(cD (dI .i64)), (cD (dI .i64))]]
def u43_0_0 {β : Type} (g : St → β) : Int → Bool → Bool → Bool → Rows → Int → Int → ByteArray → Int → Int → Int → Int → Int → Int → Int → Int → Int → ByteArray → Int → Int → Int → Int → Int → Int → Int → Int → Int → Int → Int → Int → Int → Int → Int → β := p43_0_0.unc g

def p43_0_1 : PT St := pS [sl 2 (aV false [(cPtr 2 0)]), sl 5 (aV false [(cPtr 5 0)]), sl 6 (aV false [(cD (dI .i64))]), sl 9 (aV false [(cPtr 9 0)]), sl 11 (aV false [(cPtr 11 0)]), sl 13 (aV false [(cPtr 13 0)]), sl 28 (aV false [(cD dL)]), sl 29 (aV false [(cD (dI .i64))]), sl 30 (aV false [(cD (dI .i64))]), sl 89 (aV false [(cD dB)])] [eBox 2 [(cD dS), (cD (dI .i64)), (cD (dI .i64)), (cD (dI .i64)), (cD (dI .i64)), (cD (dI .i64)), (cD (dI .i64)), (cD (dI .i64)), (cD (dI .i64)), (cD (dI .i64))], eBox 5 [(cD dS), (cD (dI .i64)), (cD (dI .i64)), (cD (dI .i64)), (cD (dI .i64)), (cD (dI .i64)), (cD (dI .i64)), (cD (dI .i64)), (cD (dI .i64)), (cD (dI .i64))], eBox 9 [(cD (dI .i64)), (cD (dI .i64))], eBox 11 [(cD (dI .i64)), (cD (dI .i64))], eBox 13 [(cD (dI .i64)), (cD (dI .i64))]]
def u43_0_1 {β : Type} (g : St → β) : Int → Rows → Int → Int → Bool → ByteArray → Int → Int → Int → Int → Int → Int → Int → Int → Int → ByteArray → Int → Int → Int → Int → Int → Int → Int → Int → Int → Int → Int → Int → Int → Int → Int → β := p43_0_1.unc g

def p43_0_2 : PT St := pS [sl 2 (aV false [(cPtr 2 0)]), sl 5 (aV false [(cPtr 5 0)]), sl 28 (aV false [(cD dL)]), sl 29 (aV false [(cD (dI .i64))]), sl 30 (aV false [(cD (dI .i64))])] [eBox 2 [(cD dS), (cD (dI .i64)), (cD (dI .i64)), (cD (dI .i64)), (cD (dI .i64)), (cD (dI .i64)), (cD (dI .i64)), (cD (dI .i64)), (cD (dI .i64)), (cD (dI .i64))], eBox 5 [(cD dS), (cD (dI .i64)), (cD (dI .i64)), (cD (dI .i64)), (cD (dI .i64)), (cD (dI .i64)), (cD (dI .i64)), (cD (dI .i64)), (cD (dI .i64)), (cD (dI .i64))]]
def u43_0_2 {β : Type} (g : St → β) : Rows → Int → Int → ByteArray → Int → Int → Int → Int → Int → Int → Int → Int → Int → ByteArray → Int → Int → Int → Int → Int → Int → Int → Int → Int → β := p43_0_2.unc g

def p43_0_3 : PT St := pS [sl 2 (aV false [(cPtr 2 0)]), sl 3 (aV false [(cD (dI .i64))]), sl 4 (aV false [(cD (dI .i64))])] [eBox 2 [(cD dS), (cD (dI .i64)), (cD (dI .i64)), (cD (dI .i64)), (cD (dI .i64)), (cD (dI .i64)), (cD (dI .i64)), (cD (dI .i64)), (cD (dI .i64)), (cD (dI .i64))]]
def u43_0_3 {β : Type} (g : St → β) : Int → Int → ByteArray → Int → Int → Int → Int → Int → Int → Int → Int → Int → β := p43_0_3.unc g

def p43_0_4 : PT St := pS [sl 2 (aV false [(cPtr 2 0)]), sl 5 (aV false [(cPtr 5 0)]), sl 28 (aV false [(cD dL)]), sl 29 (aV false [(cD (dI .i64))]), sl 30 (aV false [(cD (dI .i64))]), sl 31 (aV false [(cD dB)])] [eBox 2 [(cD dS), (cD (dI .i64)), (cD (dI .i64)), (cD (dI .i64)), (cD (dI .i64)), (cD (dI .i64)), (cD (dI .i64)), (cD (dI .i64)), (cD (dI .i64)), (cD (dI .i64))], eBox 5 [(cD dS), (cD (dI .i64)), (cD (dI .i64)), (cD (dI .i64)), (cD (dI .i64)), (cD (dI .i64)), (cD (dI .i64)), (cD (dI .i64)), (cD (dI .i64)), (cD (dI .i64))]]
def u43_0_4 {β : Type} (g : St → β) : Rows → Int → Int → Bool → ByteArray → Int → Int → Int → Int → Int → Int → Int → Int → Int → ByteArray → Int → Int → Int → Int → Int → Int → Int → Int → Int → β := p43_0_4.unc g

def pr43_0_0 : PT (List RV) := pRs [pR true [rD dS, rD (dI .i64), rD (dI .i64), rD (dI .i64), rD (dI .i64), rD (dI .i64), rD (dI .i64), rD (dI .i64), rD (dI .i64), rD (dI .i64)], pR false [rD (dI .i64)], pR false [rD (dI .i64)]]
def ur43_0_0 {β : Type} (g : List RV → β) : ByteArray → Int → Int → Int → Int → Int → Int → Int → Int → Int → Int → Int → β := pr43_0_0.unc g

def E43_0g (vf28_0 : Tf28_0) (vf88_0 : Tf88_0) : EnvK := EnvK.of [⟨28, nt28, [⟨pa28_0, Fn28_0 vf28_0⟩]⟩, ⟨88, nt88, [⟨pa88_0, Fn88_0 vf88_0⟩]⟩] noSeq
noncomputable def E43_0 : EnvK := E43_0g f28_0 f88_0
theorem eo43_0 : E43_0.Ok Try.prog := EnvK.of_ok noSeq_ok ⟨⟨io28_0, trivial⟩, ⟨io88_0, trivial⟩, trivial⟩

noncomputable def c43_0_51g  : MCode := (.region r43_52 [] (some ⟨[2, 5, 6, 9, 11, 13, 28, 29, 30, 89], true, [], []⟩))
noncomputable def c43_0_51 : MCode := c43_0_51g 
theorem g43_0_51 : c43_0_51.Good Try.prog E43_0 sh43 := trivial
--CODE 51 0
abbrev TJ43_0_0 : Type 1 := (α : Type) → Bool → Bool → Bool → (Bool → Option α) → Option α
def J43_0_0g  (α : Type) (x57 : Bool) (x58 : Bool) (x59 : Bool) (k1 : Bool → Option α) : Option α :=
 cK (!x57)
 (k1 true)
 (cK (!x58)
 (k1 true)
 (k1 (!x59)))
noncomputable def J43_0_0 (α : Type) (x57 : Bool) (x58 : Bool) (x59 : Bool) (k1 : Bool → Option α) : Option α := J43_0_0g  α x57 x58 x59 k1
def F43_0_0 (v : TJ43_0_0) (α : Type) (K : Exit → St → Option α) : Int → Bool → Bool → Bool → Rows → Int → Int → ByteArray → Int → Int → Int → Int → Int → Int → Int → Int → Int → ByteArray → Int → Int → Int → Int → Int → Int → Int → Int → Int → Int → Int → Int → Int → Int → Int → Option α := fun x56 x57 x58 x59 x60 x61 x62 x63 x64 x65 x66 x67 x68 x69 x70 x71 x72 x73 x74 x75 x76 x77 x78 x79 x80 x81 x82 x83 x84 x85 x86 x87 x88 => v α x57 x58 x59 (fun (y1 : Bool) => u43_0_1 (K .normal) x56 x60 x61 x62 y1 x63 x64 x65 x66 x67 x68 x69 x70 x71 x72 x73 x74 x75 x76 x77 x78 x79 x80 x81 x82 x83 x84 x85 x86 x87 x88) 
theorem m43_0_0g (vf28_0 : Tf28_0) (vf88_0 : Tf88_0)  (α : Type) (K : Exit → St → Option α) : F43_0_0 (J43_0_0g ) α K = p43_0_0.unc fun σ => runM Try.prog (E43_0g vf28_0 vf88_0) sh43 (c43_0_51g ) K σ := by kernel_rfl
theorem m43_0_0 : ∀ (α : Type) (K : Exit → St → Option α), F43_0_0 J43_0_0 α K = p43_0_0.unc fun σ => runM Try.prog E43_0 sh43 c43_0_51 K σ := m43_0_0g f28_0 f88_0

noncomputable def c43_0_21g (vJ43_0_0 : TJ43_0_0) : MCode := (.seq (.region r43_23 [] (some ⟨[2, 5, 28, 29, 30, 31], true, [], []⟩)) (.seq (.cond (.tmp 31) .skip (.exit 1)) (.seq (.block 2 (.seq (.region r43_29 [] (some ⟨[2, 5, 6, 7, 28, 29, 30], true, [], []⟩)) (.seq (.seq (.region r43_32 [] (some ⟨[2, 5, 6, 7, 8, 28, 29, 30], true, [], []⟩)) (.seq (.region r43_34 [] (some ⟨[2, 5, 6, 7, 8, 28, 29, 30, 38], true, [], []⟩)) (.cond (.tmp 38) (.seq (.region r43_37 [] (some ⟨[2, 3, 4], true, [], []⟩)) .ret) .skip))) (.seq (.seq (.region r43_40 [] (some ⟨[2, 5, 6, 7, 28, 29, 30, 53], true, [], []⟩)) (.cond (.tmp 53) (.seq (.region r43_43 [] (some ⟨[2, 3, 4], true, [], []⟩)) .ret) .skip)) (.seq (.region r43_45 [] (some ⟨[2, 5, 6, 7, 9, 10, 28, 29, 30], true, [], []⟩)) (.seq (.region r43_47 [] (some ⟨[2, 5, 6, 7, 9, 10, 11, 12, 28, 29, 30], true, [], []⟩)) (.seq (.region r43_49 [] (some ⟨[2, 5, 6, 9, 10, 11, 12, 13, 14, 28, 29, 30], true, [], []⟩)) (.seq (.seq (.mark [⟨p43_0_0, F43_0_0 vJ43_0_0⟩] c43_0_51) (.cond (.tmp 89) (.seq (.region r43_55 [] (some ⟨[2, 3, 4], true, [], []⟩)) .ret) .skip)) (.region r43_56 [(1, 4), (2, 4), (2, 6)] (some ⟨[2, 5, 28, 29, 30], true, [], []⟩)))))))))) (.region r43_57 [] (some ⟨[2, 5, 28, 29, 30], true, [], []⟩)))))
noncomputable def c43_0_21 : MCode := c43_0_21g J43_0_0
theorem g43_0_21 : c43_0_21.Good Try.prog E43_0 sh43 := ⟨trivial, ⟨⟨trivial, trivial⟩, ⟨⟨trivial, ⟨⟨trivial, ⟨trivial, ⟨⟨trivial, trivial⟩, trivial⟩⟩⟩, ⟨⟨trivial, ⟨⟨trivial, trivial⟩, trivial⟩⟩, ⟨trivial, ⟨trivial, ⟨trivial, ⟨⟨⟨g43_0_51, m43_0_0, trivial⟩, ⟨⟨trivial, trivial⟩, trivial⟩⟩, trivial⟩⟩⟩⟩⟩⟩⟩, trivial⟩⟩⟩
--CODE 21 0
def S43_0_1g (vJ43_0_0 : TJ43_0_0) (vf28_0 : Tf28_0) (vf88_0 : Tf88_0) (α : Type) (x12 : Rows) (x13 : Int) (x26 : Int) (x27 : Int) (x28 : Int) (x14 : Int) (x29 : Int) (x30 : Int) (x31 : Int) (x32 : Int) (x33 : Int) (x34 : Int) (kn : Int → Int → Int → Int → Int → Int → Int → Option α) (k1 : Int → Int → Option α) (k2 : Int → Bool → Int → Int → Int → Int → Int → Int → Option α) : Option α :=
 cK (decide (x14 < x13))
 (rowK x12 x14 [.str, .int .i64, .int .i64, .int .i64, .int .i64, .int .i64, .int .i64, .int .i64, .int .i64, .int .i64]
 (fun (x36 : ByteArray) (x37 : Int) (x38 : Int) (x39 : Int) (x40 : Int) (x41 : Int) (x42 : Int) (x43 : Int) (x44 : Int) (x45 : Int) => vf28_0 α x36 x37 x38 x39 x40 x41 x42 x43 x44 x45
 (fun (x46 : Int) => cK (x46 != 0)
 (k1 x14 x46)
 (cK (x37 != x26)
 (k1 x14 25)
 (cK (!((x38 == x27) && ((x39 == x28) && true)))
 (k1 x14 25)
 (vf88_0 α x29 x30 x40 x41
 (fun (x47 : Int) (x48 : Int) (x49 : Bool) => vf88_0 α x31 x32 x42 x43
 (fun (x50 : Int) (x51 : Int) (x52 : Bool) => vf88_0 α x33 x34 x44 x45
 (fun (x53 : Int) (x54 : Int) (x55 : Bool) => vJ43_0_0 α x49 x52 x55
 (fun (x90 : Bool) => cK x90
 (k1 x14 14)
 (kn (w64 (x14 + 1)) x47 x48 x50 x51 x53 x54)))))))))))
 (k2 x14 (decide (x14 < x13)) x29 x30 x31 x32 x33 x34)
noncomputable def S43_0_1 (α : Type) (x12 : Rows) (x13 : Int) (x26 : Int) (x27 : Int) (x28 : Int) (x14 : Int) (x29 : Int) (x30 : Int) (x31 : Int) (x32 : Int) (x33 : Int) (x34 : Int) (kn : Int → Int → Int → Int → Int → Int → Int → Option α) (k1 : Int → Int → Option α) (k2 : Int → Bool → Int → Int → Int → Int → Int → Int → Option α) : Option α := S43_0_1g J43_0_0 f28_0 f88_0 α x12 x13 x26 x27 x28 x14 x29 x30 x31 x32 x33 x34 kn k1 k2
noncomputable def R43_0_1 (α : Type) (x12 : Rows) (x13 : Int) (x26 : Int) (x27 : Int) (x28 : Int) (k1 : Int → Int → Option α) (k2 : Int → Bool → Int → Int → Int → Int → Int → Int → Option α) : Nat → Int → Int → Int → Int → Int → Int → Int → Option α
 | 0, _, _, _, _, _, _, _ => none
 | n + 1, x14, x29, x30, x31, x32, x33, x34 => S43_0_1 α x12 x13 x26 x27 x28 x14 x29 x30 x31 x32 x33 x34 (R43_0_1 α x12 x13 x26 x27 x28 k1 k2 n) k1 k2
noncomputable def L43_0_1 (α : Type) (x12 : Rows) (x13 : Int) (x26 : Int) (x27 : Int) (x28 : Int) (k1 : Int → Int → Option α) (k2 : Int → Bool → Int → Int → Int → Int → Int → Int → Option α) (x14 : Int) (x29 : Int) (x30 : Int) (x31 : Int) (x32 : Int) (x33 : Int) (x34 : Int) : Option α := R43_0_1 α x12 x13 x26 x27 x28 k1 k2 fuel x14 x29 x30 x31 x32 x33 x34
abbrev TL43_0_1 : Type 1 := (α : Type) → Rows → Int → Int → Int → Int → (Int → Int → Option α) → (Int → Bool → Int → Int → Int → Int → Int → Int → Option α) → Int → Int → Int → Int → Int → Int → Int → Option α
def F43_0_1 (v : TL43_0_1) (α : Type) (K : Exit → St → Option α) : Rows → Int → Int → ByteArray → Int → Int → Int → Int → Int → Int → Int → Int → Int → ByteArray → Int → Int → Int → Int → Int → Int → Int → Int → Int → Option α := fun x12 x13 x14 x15 x16 x17 x18 x19 x20 x21 x22 x23 x24 x25 x26 x27 x28 x29 x30 x31 x32 x33 x34 => v α x12 x13 x26 x27 x28 (fun (y1 : Int) (y2 : Int) => u43_0_3 (K .ret) y1 y2 (⟨#[]⟩ : ByteArray) 0 0 0 0 0 0 0 0 0) (fun (y1 : Int) (y2 : Bool) (y3 : Int) (y4 : Int) (y5 : Int) (y6 : Int) (y7 : Int) (y8 : Int) => u43_0_4 (K (.exit 1)) x12 x13 y1 y2 x15 x16 x17 x18 x19 x20 x21 x22 x23 x24 x25 x26 x27 x28 y3 y4 y5 y6 y7 y8) x14 x29 x30 x31 x32 x33 x34
theorem r43_0_1g (vf28_0 : Tf28_0) (vf88_0 : Tf88_0) (vJ43_0_0 : TJ43_0_0) (α : Type) (K : Exit → St → Option α) (Kn : St → Option α) (x12 : Rows) (x13 : Int) (x14 : Int) (x15 : ByteArray) (x16 : Int) (x17 : Int) (x18 : Int) (x19 : Int) (x20 : Int) (x21 : Int) (x22 : Int) (x23 : Int) (x24 : Int) (x25 : ByteArray) (x26 : Int) (x27 : Int) (x28 : Int) (x29 : Int) (x30 : Int) (x31 : Int) (x32 : Int) (x33 : Int) (x34 : Int) : u43_0_2 (fun σ => runM Try.prog (E43_0g vf28_0 vf88_0) sh43 (c43_0_21g vJ43_0_0) (thenK (fun σ => tidyK td43_21 σ Kn) K) σ) x12 x13 x14 x15 x16 x17 x18 x19 x20 x21 x22 x23 x24 x25 x26 x27 x28 x29 x30 x31 x32 x33 x34 = S43_0_1g vJ43_0_0 vf28_0 vf88_0 α x12 x13 x26 x27 x28 x14 x29 x30 x31 x32 x33 x34 (fun x14 x29 x30 x31 x32 x33 x34 => u43_0_2 Kn x12 x13 x14 x15 x16 x17 x18 x19 x20 x21 x22 x23 x24 x25 x26 x27 x28 x29 x30 x31 x32 x33 x34) (fun (y1 : Int) (y2 : Int) => u43_0_3 (K .ret) y1 y2 (⟨#[]⟩ : ByteArray) 0 0 0 0 0 0 0 0 0) (fun (y1 : Int) (y2 : Bool) (y3 : Int) (y4 : Int) (y5 : Int) (y6 : Int) (y7 : Int) (y8 : Int) => u43_0_4 (K (.exit 1)) x12 x13 y1 y2 x15 x16 x17 x18 x19 x20 x21 x22 x23 x24 x25 x26 x27 x28 y3 y4 y5 y6 y7 y8) := by kernel_rfl
theorem r43_0_1 (α : Type) (K : Exit → St → Option α) (Kn : St → Option α) (x12 : Rows) (x13 : Int) (x14 : Int) (x15 : ByteArray) (x16 : Int) (x17 : Int) (x18 : Int) (x19 : Int) (x20 : Int) (x21 : Int) (x22 : Int) (x23 : Int) (x24 : Int) (x25 : ByteArray) (x26 : Int) (x27 : Int) (x28 : Int) (x29 : Int) (x30 : Int) (x31 : Int) (x32 : Int) (x33 : Int) (x34 : Int) : u43_0_2 (fun σ => runM Try.prog E43_0 sh43 c43_0_21 (thenK (fun σ => tidyK td43_21 σ Kn) K) σ) x12 x13 x14 x15 x16 x17 x18 x19 x20 x21 x22 x23 x24 x25 x26 x27 x28 x29 x30 x31 x32 x33 x34 = S43_0_1 α x12 x13 x26 x27 x28 x14 x29 x30 x31 x32 x33 x34 (fun x14 x29 x30 x31 x32 x33 x34 => u43_0_2 Kn x12 x13 x14 x15 x16 x17 x18 x19 x20 x21 x22 x23 x24 x25 x26 x27 x28 x29 x30 x31 x32 x33 x34) (fun (y1 : Int) (y2 : Int) => u43_0_3 (K .ret) y1 y2 (⟨#[]⟩ : ByteArray) 0 0 0 0 0 0 0 0 0) (fun (y1 : Int) (y2 : Bool) (y3 : Int) (y4 : Int) (y5 : Int) (y6 : Int) (y7 : Int) (y8 : Int) => u43_0_4 (K (.exit 1)) x12 x13 y1 y2 x15 x16 x17 x18 x19 x20 x21 x22 x23 x24 x25 x26 x27 x28 y3 y4 y5 y6 y7 y8) := r43_0_1g f28_0 f88_0 J43_0_0 α K Kn x12 x13 x14 x15 x16 x17 x18 x19 x20 x21 x22 x23 x24 x25 x26 x27 x28 x29 x30 x31 x32 x33 x34
theorem t43_0_1 (α : Type) (K : Exit → St → Option α) : ∀ (n : Nat) (x12 : Rows) (x13 : Int) (x14 : Int) (x15 : ByteArray) (x16 : Int) (x17 : Int) (x18 : Int) (x19 : Int) (x20 : Int) (x21 : Int) (x22 : Int) (x23 : Int) (x24 : Int) (x25 : ByteArray) (x26 : Int) (x27 : Int) (x28 : Int) (x29 : Int) (x30 : Int) (x31 : Int) (x32 : Int) (x33 : Int) (x34 : Int), R43_0_1 α x12 x13 x26 x27 x28 (fun (y1 : Int) (y2 : Int) => u43_0_3 (K .ret) y1 y2 (⟨#[]⟩ : ByteArray) 0 0 0 0 0 0 0 0 0) (fun (y1 : Int) (y2 : Bool) (y3 : Int) (y4 : Int) (y5 : Int) (y6 : Int) (y7 : Int) (y8 : Int) => u43_0_4 (K (.exit 1)) x12 x13 y1 y2 x15 x16 x17 x18 x19 x20 x21 x22 x23 x24 x25 x26 x27 x28 y3 y4 y5 y6 y7 y8) n x14 x29 x30 x31 x32 x33 x34 = u43_0_2 (loopT (runM Try.prog E43_0 sh43 c43_0_21) td43_21 K n) x12 x13 x14 x15 x16 x17 x18 x19 x20 x21 x22 x23 x24 x25 x26 x27 x28 x29 x30 x31 x32 x33 x34 := by
 intro n
 induction n with
 | zero => intros; rfl
 | succ n ih => intro x12 x13 x14 x15 x16 x17 x18 x19 x20 x21 x22 x23 x24 x25 x26 x27 x28 x29 x30 x31 x32 x33 x34; exact (congrArg (fun kn => S43_0_1 α x12 x13 x26 x27 x28 x14 x29 x30 x31 x32 x33 x34 kn (fun (y1 : Int) (y2 : Int) => u43_0_3 (K .ret) y1 y2 (⟨#[]⟩ : ByteArray) 0 0 0 0 0 0 0 0 0) (fun (y1 : Int) (y2 : Bool) (y3 : Int) (y4 : Int) (y5 : Int) (y6 : Int) (y7 : Int) (y8 : Int) => u43_0_4 (K (.exit 1)) x12 x13 y1 y2 x15 x16 x17 x18 x19 x20 x21 x22 x23 x24 x25 x26 x27 x28 y3 y4 y5 y6 y7 y8)) (funext fun x14 => funext fun x29 => funext fun x30 => funext fun x31 => funext fun x32 => funext fun x33 => funext fun x34 => ih x12 x13 x14 x15 x16 x17 x18 x19 x20 x21 x22 x23 x24 x25 x26 x27 x28 x29 x30 x31 x32 x33 x34)).trans (r43_0_1 α K (loopT (runM Try.prog E43_0 sh43 c43_0_21) td43_21 K n) x12 x13 x14 x15 x16 x17 x18 x19 x20 x21 x22 x23 x24 x25 x26 x27 x28 x29 x30 x31 x32 x33 x34).symm
theorem m43_0_1 : ∀ (α : Type) (K : Exit → St → Option α), F43_0_1 L43_0_1 α K = p43_0_2.unc fun σ => loopT (runM Try.prog E43_0 sh43 c43_0_21) td43_21 K fuel σ := fun α K => funext fun x12 => funext fun x13 => funext fun x14 => funext fun x15 => funext fun x16 => funext fun x17 => funext fun x18 => funext fun x19 => funext fun x20 => funext fun x21 => funext fun x22 => funext fun x23 => funext fun x24 => funext fun x25 => funext fun x26 => funext fun x27 => funext fun x28 => funext fun x29 => funext fun x30 => funext fun x31 => funext fun x32 => funext fun x33 => funext fun x34 => t43_0_1 α K fuel x12 x13 x14 x15 x16 x17 x18 x19 x20 x21 x22 x23 x24 x25 x26 x27 x28 x29 x30 x31 x32 x33 x34

/-- etalon/meter.Averaged -/
abbrev Tf43_0 : Type 1 := (α : Type) → Rows → (ByteArray → Int → Int → Int → Int → Int → Int → Int → Int → Int → Int → Int → Option α) → Option α
def f43_0g (vL43_0_1 : TL43_0_1) (α : Type) (x1 : Rows) (k1 : ByteArray → Int → Int → Int → Int → Int → Int → Int → Int → Int → Int → Int → Option α) : Option α :=
 cK (((List.length x1 : Nat) : Int) == 0)
 (k1 (⟨#[]⟩ : ByteArray) 0 0 0 0 0 0 0 0 0 0 12)
 (cK (decide (20 < ((List.length x1 : Nat) : Int)))
 (k1 (⟨#[]⟩ : ByteArray) 0 0 0 0 0 0 0 0 0 0 8)
 (rowK x1 0 [.str, .int .i64, .int .i64, .int .i64, .int .i64, .int .i64, .int .i64, .int .i64, .int .i64, .int .i64]
 (fun (x2 : ByteArray) (x3 : Int) (x4 : Int) (x5 : Int) (x6 : Int) (x7 : Int) (x8 : Int) (x9 : Int) (x10 : Int) (x11 : Int) => vL43_0_1 α x1 ((List.length x1 : Nat) : Int) x3 x4 x5
 (fun (x92 : Int) (x93 : Int) => k1 (⟨#[]⟩ : ByteArray) 0 0 0 0 0 0 0 0 0 x92 x93)
 (fun (x94 : Int) (x95 : Bool) (x96 : Int) (x97 : Int) (x98 : Int) (x99 : Int) (x100 : Int) (x101 : Int) => k1 x2 x3 x4 x5 x96 x97 x98 x99 x100 x101 0 0) 0 x6 x7 x8 x9 x10 x11)))
noncomputable def f43_0 (α : Type) (x1 : Rows) (k1 : ByteArray → Int → Int → Int → Int → Int → Int → Int → Int → Int → Int → Int → Option α) : Option α := f43_0g L43_0_1 α x1 k1
def pa43_0 : PT (List DV) := pA [pV false [dL]]
def Fn43_0 (v : Tf43_0) (α : Type) (k : List RV → Option α) : Rows → Option α := fun x1 => v α x1 (fun (y1 : ByteArray) (y2 : Int) (y3 : Int) (y4 : Int) (y5 : Int) (y6 : Int) (y7 : Int) (y8 : Int) (y9 : Int) (y10 : Int) (y11 : Int) (y12 : Int) => ur43_0_0 k y1 y2 y3 y4 y5 y6 y7 y8 y9 y10 y11 y12)
noncomputable def cm43_0g (vL43_0_1 : TL43_0_1) : MCode := (.seq (.region r43_2 [] (some ⟨[0, 2], true, [], []⟩)) (.seq (.block 0 (.seq (.region r43_6 [] (some ⟨[0, 2, 15], true, [], []⟩)) (.cond (.tmp 15) (.seq (.region r43_9 [] (some ⟨[2, 3, 4], true, [], []⟩)) .ret) (.seq (.region r43_11 [] (some ⟨[0, 2, 20], true, [], []⟩)) (.cond (.tmp 20) (.seq (.region r43_14 [] (some ⟨[2, 3, 4], true, [], []⟩)) .ret) .skip))))) (.seq (.region r43_16 [] (some ⟨[0, 2, 5], true, [], []⟩)) (.seq (.seq (.region r43_19 [] (some ⟨[2, 5, 28, 29, 30], true, [], []⟩)) (.block 1 (.loop td43_21 [⟨p43_0_2, F43_0_1 vL43_0_1⟩] c43_0_21))) (.seq (.region r43_59 [] (some ⟨[2, 3, 4], true, [], []⟩)) .ret)))))
noncomputable def cm43_0 : MCode := cm43_0g L43_0_1
theorem gm43_0 : cm43_0.Good Try.prog E43_0 sh43 := ⟨trivial, ⟨⟨trivial, ⟨⟨trivial, trivial⟩, ⟨trivial, ⟨⟨trivial, trivial⟩, trivial⟩⟩⟩⟩, ⟨trivial, ⟨⟨trivial, ⟨g43_0_21, m43_0_1, trivial⟩⟩, ⟨trivial, trivial⟩⟩⟩⟩⟩
theorem fm43_0g (vf28_0 : Tf28_0) (vf88_0 : Tf88_0) (vL43_0_1 : TL43_0_1) (α : Type) (k : List RV → Option α) : Fn43_0 (f43_0g vL43_0_1) α k = pa43_0.unc fun ds => fnM Try.prog (E43_0g vf28_0 vf88_0) sh43 (cm43_0g vL43_0_1) rs43 k ds := by kernel_rfl
theorem fm43_0 : ∀ (α : Type) (k : List RV → Option α), Fn43_0 f43_0 α k = pa43_0.unc fun ds => fnM Try.prog E43_0 sh43 cm43_0 rs43 k ds := fm43_0g f28_0 f88_0 L43_0_1

theorem is43 : FnIs Try.prog 43 nt43 tr43 tl43 cm43_0.erase rs43 := ⟨Try.f43, Try.func43, rfl, by kernel_rfl, by kernel_rfl, by kernel_rfl⟩
theorem io43_0 : InstOk Try.prog 43 nt43 ⟨pa43_0, Fn43_0 f43_0⟩ := inst_ok eo43_0 followsTry is43 ⟨⟨sh43, cm43_0, by kernel_rfl, gm43_0, fm43_0⟩⟩

/-! ### F23 etalon/meter.Ratios -/
abbrev nt23 : Nat := 74
def sh23 : List (Nat × List Sh) := [(11, [.int .i64, .int .i64, .int .i64, .int .i64, .int .i64, .int .i64]), (19, [.int .i64]), (23, [.int .i64, .int .i64]), (25, [.int .i64, .int .i64]), (33, [.int .i64]), (36, [.int .i64]), (38, [.int .i64]), (42, [.int .i64]), (44, [.int .i64]), (48, [.int .i64]), (52, [.int .i64]), (58, [.int .i64]), (73, [.int .i64, .int .i64, .int .i64, .int .i64])]
def r23_2 : List AOper := [oO 1 (.box (.tmp 0)), oO 2 (.alloc [(.d (.v (.int .i64 0))), (.d (.v (.int .i64 0))), (.d (.v (.int .i64 0))), (.d (.v (.int .i64 0)))]), oO 3 (.mv (.const (.int .i64 0)))]
def r23_5 : List AOper := [oO 11 (.load true 6 (.tmp 1)), oO 12 (.call 60 [(.tmp 11)]), oM 4 12]
def r23_7 : List AOper := [oM 13 4, oO 14 (.bin .neq 28 (.tmp 13) (.const (.int .i64 0)))]
def r23_10 : List AOper := [oO 15 (.build [(.d (.v (.int .i64 0))), (.d (.v (.int .i64 0))), (.d (.v (.int .i64 0))), (.d (.v (.int .i64 0)))] []), oM 16 4, ⟨none, (.store 4 (.tmp 2) (.tmp 15)), none⟩, oM 3 16]
def r23_13 : List AOper := [oO 17 (.faddr 0 (.tmp 1)), oO 18 (.faddr 0 (.tmp 17)), oO 19 (.load false 1 (.tmp 18)), oO 20 (.bin .leq 3 (.tmp 19) (.const (.int .i64 0)))]
def r23_16 : List AOper := [oO 21 (.build [(.d (.v (.int .i64 0))), (.d (.v (.int .i64 0))), (.d (.v (.int .i64 0))), (.d (.v (.int .i64 0)))] []), ⟨none, (.store 4 (.tmp 2) (.tmp 21)), none⟩, oO 3 (.mv (.const (.int .i64 9)))]
def r23_18 : List AOper := [oO 5 (.alloc [(.d (.v (.int .i64 0))), (.d (.v (.int .i64 0))), (.d (.v (.int .i64 0))), (.d (.v (.int .i64 0)))])]
def r23_21 : List AOper := [oO 22 (.faddr 2 (.tmp 1)), oO 23 (.load true 2 (.tmp 22)), oO 24 (.faddr 4 (.tmp 1)), oO 25 (.load true 2 (.tmp 24)), oO 26 (.build [(.d (.v (.int .i64 0))), (.d (.v (.int .i64 0))), (.d (.v (.int .i64 0))), (.d (.v (.int .i64 0)))] [(0, 2, (.tmp 23)), (2, 2, (.tmp 25))]), oO 27 (.mv (.const (.int .i64 0)))]
def td23_23 : Option Tidy := (some ⟨[1, 2, 5, 26, 27], true, [], []⟩)
def r23_25 : List AOper := [oO 28 (.bin .lss 3 (.tmp 27) (.const (.int .i64 2)))]
def r23_31 : List AOper := [oM 29 27, oO 30 (.index true 2 2 (.tmp 26) (.tmp 27)), oO 7 (.alloc [(.d (.v (.int .i64 0))), (.d (.v (.int .i64 0)))]), oM 6 29, ⟨none, (.store 2 (.tmp 7) (.tmp 30)), none⟩]
def r23_33 : List AOper := [oO 31 (.faddr 0 (.tmp 1)), oO 32 (.faddr 1 (.tmp 31)), oO 33 (.load false 1 (.tmp 32)), oO 34 (.faddr 0 (.tmp 1)), oO 35 (.faddr 0 (.tmp 34)), oO 36 (.load false 1 (.tmp 35)), oM 8 33, oM 9 36]
def r23_36 : List AOper := [oO 37 (.faddr 0 (.tmp 7)), oO 38 (.load false 1 (.tmp 37)), oO 39 (.bin .lss 3 (.tmp 38) (.const (.int .i64 0)))]
def r23_38 : List AOper := [oO 40 (.faddr 0 (.tmp 1)), oO 41 (.faddr 0 (.tmp 40)), oO 42 (.load false 1 (.tmp 41)), oM 8 42]
def r23_41 : List AOper := [oO 43 (.faddr 1 (.tmp 7)), oO 44 (.load false 1 (.tmp 43)), oO 45 (.bin .lss 3 (.tmp 44) (.const (.int .i64 0)))]
def r23_43 : List AOper := [oO 46 (.faddr 0 (.tmp 1)), oO 47 (.faddr 1 (.tmp 46)), oO 48 (.load false 1 (.tmp 47)), oM 9 48]
def r23_45 : List AOper := [oO 10 (.mv (.const (.int .i64 0)))]
def r23_47 : List AOper := [oM 50 6, oO 51 (.faddr 0 (.tmp 7)), oO 52 (.load false 1 (.tmp 51)), oO 53 (.bin .mul 3 (.const (.int .i64 2)) (.tmp 52)), oO 54 (.bin .mul 3 (.tmp 53) (.const (.int .i64 1048576))), oM 55 8, oO 56 (.call 78 [(.tmp 54), (.tmp 55)]), oO 57 (.faddr 1 (.tmp 7)), oO 58 (.load false 1 (.tmp 57)), oO 59 (.bin .mul 3 (.const (.int .i64 2)) (.tmp 58)), oO 60 (.bin .mul 3 (.tmp 59) (.const (.int .i64 1048576))), oM 61 9, oO 62 (.call 79 [(.tmp 60), (.tmp 61)]), oO 63 (.build [(.d (.v (.int .i64 0))), (.d (.v (.int .i64 0)))] [(0, 1, (.tmp 56)), (1, 1, (.tmp 62))]), oO 64 (.call 77 [(.tmp 63)]), oM 49 64, oO 65 (.extract 0 (.tmp 49)), oO 66 (.extract 1 (.tmp 49)), oO 67 (.iaddr 2 (some 2) (.tmp 5) (.tmp 50)), ⟨none, (.store 2 (.tmp 67) (.tmp 65)), none⟩, oM 10 66]
def r23_49 : List AOper := [oM 68 10, oO 69 (.bin .neq 28 (.tmp 68) (.const (.int .i64 0)))]
def r23_52 : List AOper := [oO 70 (.build [(.d (.v (.int .i64 0))), (.d (.v (.int .i64 0))), (.d (.v (.int .i64 0))), (.d (.v (.int .i64 0)))] []), oM 71 10, ⟨none, (.store 4 (.tmp 2) (.tmp 70)), none⟩, oM 3 71]
def r23_53 : List AOper := [oO 72 (.bin .add 3 (.tmp 27) (.const (.int .i64 1))), oM 27 72]
def r23_55 : List AOper := [oO 73 (.load true 4 (.tmp 5)), ⟨none, (.store 4 (.tmp 2) (.tmp 73)), none⟩, oO 3 (.mv (.const (.int .i64 0)))]
def tr23 : List (Nat × Tidy) := [(0, ⟨[1, 2], true, [], []⟩), (1, ⟨[1, 2, 4], true, [], []⟩), (2, ⟨[1, 2, 4, 14], true, [], []⟩), (3, ⟨[2, 3], true, [], []⟩), (4, ⟨[1, 2, 20], true, [], []⟩), (5, ⟨[2, 3], true, [], []⟩), (6, ⟨[1, 2, 5], true, [], []⟩), (7, ⟨[1, 2, 5, 26, 27], true, [], []⟩), (8, ⟨[1, 2, 5, 26, 27, 28], true, [], []⟩), (9, ⟨[1, 2, 5, 6, 7, 26, 27], true, [], []⟩), (10, ⟨[1, 2, 5, 6, 7, 8, 9, 26, 27], true, [], []⟩), (11, ⟨[1, 2, 5, 6, 7, 8, 9, 26, 27, 39], true, [], []⟩), (12, ⟨[1, 2, 5, 6, 7, 8, 9, 26, 27], true, [], []⟩), (13, ⟨[1, 2, 5, 6, 7, 8, 9, 26, 27, 45], true, [], []⟩), (14, ⟨[1, 2, 5, 6, 7, 8, 9, 26, 27], true, [], []⟩), (15, ⟨[1, 2, 5, 6, 7, 8, 9, 26, 27], true, [], []⟩), (16, ⟨[1, 2, 5, 10, 26, 27], true, [], []⟩), (17, ⟨[1, 2, 5, 10, 26, 27, 69], true, [], []⟩), (18, ⟨[2, 3], true, [], []⟩), (19, ⟨[1, 2, 5, 26, 27], true, [], []⟩), (20, ⟨[2, 3], true, [], []⟩)]
def tl23 : List (Nat × Tidy) := [(8, ⟨[1, 2, 5, 26, 27], true, [], []⟩)]
def rs23 : List AResV := [.cell 2 true 4, .tmp 3]
def p23_0_0 : PT St := pS [sl 1 (aV false [(cPtr 1 0)]), sl 2 (aV false [(cPtr 2 0)]), sl 5 (aV false [(cPtr 5 0)]), sl 26 (aV true [(cD (dI .i64)), (cD (dI .i64)), (cD (dI .i64)), (cD (dI .i64))]), sl 27 (aV false [(cD (dI .i64))]), sl 28 (aV false [(cD dB)])] [eBox 1 [(cD (dI .i64)), (cD (dI .i64)), (cD (dI .i64)), (cD (dI .i64)), (cD (dI .i64)), (cD (dI .i64))], eBox 2 [(cD (dI .i64)), (cD (dI .i64)), (cD (dI .i64)), (cD (dI .i64))], eBox 5 [(cD (dI .i64)), (cD (dI .i64)), (cD (dI .i64)), (cD (dI .i64))]]
def u23_0_0 {β : Type} (g : St → β) : Int → Int → Int → Int → Int → Bool → Int → Int → Int → Int → Int → Int → Int → Int → Int → Int → Int → Int → Int → Int → β := p23_0_0.unc g

def p23_0_1 : PT St := pS [sl 1 (aV false [(cPtr 1 0)]), sl 2 (aV false [(cPtr 2 0)]), sl 5 (aV false [(cPtr 5 0)]), sl 6 (aV false [(cD (dI .i64))]), sl 7 (aV false [(cPtr 7 0)]), sl 26 (aV true [(cD (dI .i64)), (cD (dI .i64)), (cD (dI .i64)), (cD (dI .i64))]), sl 27 (aV false [(cD (dI .i64))])] [eBox 1 [(cD (dI .i64)), (cD (dI .i64)), (cD (dI .i64)), (cD (dI .i64)), (cD (dI .i64)), (cD (dI .i64))], eBox 2 [(cD (dI .i64)), (cD (dI .i64)), (cD (dI .i64)), (cD (dI .i64))], eBox 5 [(cD (dI .i64)), (cD (dI .i64)), (cD (dI .i64)), (cD (dI .i64))], eBox 7 [(cD (dI .i64)), (cD (dI .i64))]]
def u23_0_1 {β : Type} (g : St → β) : Int → Int → Int → Int → Int → Int → Int → Int → Int → Int → Int → Int → Int → Int → Int → Int → Int → Int → Int → Int → Int → Int → β := p23_0_1.unc g

def p23_0_2 : PT St := pS [sl 1 (aV false [(cPtr 1 0)]), sl 2 (aV false [(cPtr 2 0)]), sl 5 (aV false [(cPtr 5 0)]), sl 6 (aV false [(cD (dI .i64))]), sl 7 (aV false [(cPtr 7 0)]), sl 8 (aV false [(cD (dI .i64))]), sl 9 (aV false [(cD (dI .i64))]), sl 26 (aV true [(cD (dI .i64)), (cD (dI .i64)), (cD (dI .i64)), (cD (dI .i64))]), sl 27 (aV false [(cD (dI .i64))])] [eBox 1 [(cD (dI .i64)), (cD (dI .i64)), (cD (dI .i64)), (cD (dI .i64)), (cD (dI .i64)), (cD (dI .i64))], eBox 2 [(cD (dI .i64)), (cD (dI .i64)), (cD (dI .i64)), (cD (dI .i64))], eBox 5 [(cD (dI .i64)), (cD (dI .i64)), (cD (dI .i64)), (cD (dI .i64))], eBox 7 [(cD (dI .i64)), (cD (dI .i64))]]
def u23_0_2 {β : Type} (g : St → β) : Int → Int → Int → Int → Int → Int → Int → Int → Int → Int → Int → Int → Int → Int → Int → Int → Int → Int → Int → Int → Int → Int → Int → Int → β := p23_0_2.unc g

def p23_0_3 : PT St := pS [sl 1 (aV false [(cPtr 1 0)]), sl 2 (aV false [(cPtr 2 0)]), sl 5 (aV false [(cPtr 5 0)]), sl 6 (aV false [(cD (dI .i64))]), sl 7 (aV false [(cPtr 7 0)]), sl 8 (aV false [(cD (dI .i64))]), sl 9 (aV false [(cD (dI .i64))]), sl 26 (aV true [(cD (dI .i64)), (cD (dI .i64)), (cD (dI .i64)), (cD (dI .i64))]), sl 27 (aV false [(cD (dI .i64))]), sl 39 (aV false [(cD dB)])] [eBox 1 [(cD (dI .i64)), (cD (dI .i64)), (cD (dI .i64)), (cD (dI .i64)), (cD (dI .i64)), (cD (dI .i64))], eBox 2 [(cD (dI .i64)), (cD (dI .i64)), (cD (dI .i64)), (cD (dI .i64))], eBox 5 [(cD (dI .i64)), (cD (dI .i64)), (cD (dI .i64)), (cD (dI .i64))], eBox 7 [(cD (dI .i64)), (cD (dI .i64))]]
def u23_0_3 {β : Type} (g : St → β) : Int → Int → Int → Int → Int → Int → Int → Int → Bool → Int → Int → Int → Int → Int → Int → Int → Int → Int → Int → Int → Int → Int → Int → Int → Int → β := p23_0_3.unc g

def p23_0_4 : PT St := pS [sl 1 (aV false [(cPtr 1 0)]), sl 2 (aV false [(cPtr 2 0)]), sl 5 (aV false [(cPtr 5 0)]), sl 6 (aV false [(cD (dI .i64))]), sl 7 (aV false [(cPtr 7 0)]), sl 8 (aV false [(cD (dI .i64))]), sl 9 (aV false [(cD (dI .i64))]), sl 26 (aV true [(cD (dI .i64)), (cD (dI .i64)), (cD (dI .i64)), (cD (dI .i64))]), sl 27 (aV false [(cD (dI .i64))]), sl 45 (aV false [(cD dB)])] [eBox 1 [(cD (dI .i64)), (cD (dI .i64)), (cD (dI .i64)), (cD (dI .i64)), (cD (dI .i64)), (cD (dI .i64))], eBox 2 [(cD (dI .i64)), (cD (dI .i64)), (cD (dI .i64)), (cD (dI .i64))], eBox 5 [(cD (dI .i64)), (cD (dI .i64)), (cD (dI .i64)), (cD (dI .i64))], eBox 7 [(cD (dI .i64)), (cD (dI .i64))]]
def u23_0_4 {β : Type} (g : St → β) : Int → Int → Int → Int → Int → Int → Int → Int → Bool → Int → Int → Int → Int → Int → Int → Int → Int → Int → Int → Int → Int → Int → Int → Int → Int → β := p23_0_4.unc g

def p23_0_5 : PT St := pS [sl 1 (aV false [(cPtr 1 0)]), sl 2 (aV false [(cPtr 2 0)]), sl 5 (aV false [(cPtr 5 0)]), sl 10 (aV false [(cD (dI .i64))]), sl 26 (aV true [(cD (dI .i64)), (cD (dI .i64)), (cD (dI .i64)), (cD (dI .i64))]), sl 27 (aV false [(cD (dI .i64))])] [eBox 1 [(cD (dI .i64)), (cD (dI .i64)), (cD (dI .i64)), (cD (dI .i64)), (cD (dI .i64)), (cD (dI .i64))], eBox 2 [(cD (dI .i64)), (cD (dI .i64)), (cD (dI .i64)), (cD (dI .i64))], eBox 5 [(cD (dI .i64)), (cD (dI .i64)), (cD (dI .i64)), (cD (dI .i64))]]
def u23_0_5 {β : Type} (g : St → β) : Int → Int → Int → Int → Int → Int → Int → Int → Int → Int → Int → Int → Int → Int → Int → Int → Int → Int → Int → Int → β := p23_0_5.unc g

def p23_0_6 : PT St := pS [sl 1 (aV false [(cPtr 1 0)]), sl 2 (aV false [(cPtr 2 0)]), sl 5 (aV false [(cPtr 5 0)]), sl 26 (aV true [(cD (dI .i64)), (cD (dI .i64)), (cD (dI .i64)), (cD (dI .i64))]), sl 27 (aV false [(cD (dI .i64))])] [eBox 1 [(cD (dI .i64)), (cD (dI .i64)), (cD (dI .i64)), (cD (dI .i64)), (cD (dI .i64)), (cD (dI .i64))], eBox 2 [(cD (dI .i64)), (cD (dI .i64)), (cD (dI .i64)), (cD (dI .i64))], eBox 5 [(cD (dI .i64)), (cD (dI .i64)), (cD (dI .i64)), (cD (dI .i64))]]
def u23_0_6 {β : Type} (g : St → β) : Int → Int → Int → Int → Int → Int → Int → Int → Int → Int → Int → Int → Int → Int → Int → Int → Int → Int → Int → β := p23_0_6.unc g

def p23_0_7 : PT St := pS [sl 2 (aV false [(cPtr 2 0)]), sl 3 (aV false [(cD (dI .i64))])] [eBox 2 [(cD (dI .i64)), (cD (dI .i64)), (cD (dI .i64)), (cD (dI .i64))]]
def u23_0_7 {β : Type} (g : St → β) : Int → Int → Int → Int → Int → β := p23_0_7.unc g

def pr23_0_0 : PT (List RV) := pRs [pR true [rD (dI .i64), rD (dI .i64), rD (dI .i64), rD (dI .i64)], pR false [rD (dI .i64)]]
def ur23_0_0 {β : Type} (g : List RV → β) : Int → Int → Int → Int → Int → β := pr23_0_0.unc g

def E23_0g (vf60_0 : Tf60_0) (vf78_0 : Tf78_0) (vf79_0 : Tf79_0) (vf77_0 : Tf77_0) : EnvK := EnvK.of [⟨60, nt60, [⟨pa60_0, Fn60_0 vf60_0⟩]⟩, ⟨78, nt78, [⟨pa78_0, Fn78_0 vf78_0⟩]⟩, ⟨79, nt79, [⟨pa79_0, Fn79_0 vf79_0⟩]⟩, ⟨77, nt77, [⟨pa77_0, Fn77_0 vf77_0⟩]⟩] noSeq
noncomputable def E23_0 : EnvK := E23_0g f60_0 f78_0 f79_0 f77_0
theorem eo23_0 : E23_0.Ok Try.prog := EnvK.of_ok noSeq_ok ⟨⟨io60_0, trivial⟩, ⟨io78_0, trivial⟩, ⟨io79_0, trivial⟩, ⟨io77_0, trivial⟩, trivial⟩

noncomputable def c23_0_46g  : MCode := (.region r23_47 [(6, 8)] (some ⟨[1, 2, 5, 10, 26, 27], true, [], []⟩))
noncomputable def c23_0_46 : MCode := c23_0_46g 
theorem g23_0_46 : c23_0_46.Good Try.prog E23_0 sh23 := trivial
--CODE 46 0
abbrev TJ23_0_3 : Type 1 := (α : Type) → Int → Int → Int → Int → Int → Int → Int → Int → Int → (Int → Int → Int → Int → Int → Option α) → Option α
def J23_0_3g (vf77_0 : Tf77_0) (vf78_0 : Tf78_0) (vf79_0 : Tf79_0) (α : Type) (x106 : Int) (x107 : Int) (x108 : Int) (x124 : Int) (x125 : Int) (x126 : Int) (x127 : Int) (x128 : Int) (x129 : Int) (k1 : Int → Int → Int → Int → Int → Option α) : Option α :=
 vf78_0 α (w64 ((w64 (2 * x128)) * 1048576)) x107
 (fun (x131 : Int) => vf79_0 α (w64 ((w64 (2 * x129)) * 1048576)) x108
 (fun (x132 : Int) => vf77_0 α x131 x132
 (fun (x133 : Int) (x134 : Int) (x135 : Int) => cK (x106 == 1)
 (k1 x135 x124 x125 x133 x134)
 (cK (x106 == 0)
 (k1 x135 x133 x134 x126 x127)
 (none)))))
noncomputable def J23_0_3 (α : Type) (x106 : Int) (x107 : Int) (x108 : Int) (x124 : Int) (x125 : Int) (x126 : Int) (x127 : Int) (x128 : Int) (x129 : Int) (k1 : Int → Int → Int → Int → Int → Option α) : Option α := J23_0_3g f77_0 f78_0 f79_0 α x106 x107 x108 x124 x125 x126 x127 x128 x129 k1
def F23_0_3 (v : TJ23_0_3) (α : Type) (K : Exit → St → Option α) : Int → Int → Int → Int → Int → Int → Int → Int → Int → Int → Int → Int → Int → Int → Int → Int → Int → Int → Int → Int → Int → Int → Int → Int → Option α := fun x106 x107 x108 x109 x110 x111 x112 x113 x114 x115 x116 x117 x118 x119 x120 x121 x122 x123 x124 x125 x126 x127 x128 x129 => v α x106 x107 x108 x124 x125 x126 x127 x128 x129 (fun (y1 : Int) (y2 : Int) (y3 : Int) (y4 : Int) (y5 : Int) => u23_0_5 (K .normal) y1 x109 x110 x111 x112 x113 x114 x115 x116 x117 x118 x119 x120 x121 x122 x123 y2 y3 y4 y5) 
theorem m23_0_3g (vf60_0 : Tf60_0) (vf78_0 : Tf78_0) (vf79_0 : Tf79_0) (vf77_0 : Tf77_0)  (α : Type) (K : Exit → St → Option α) : F23_0_3 (J23_0_3g vf77_0 vf78_0 vf79_0) α K = p23_0_2.unc fun σ => runM Try.prog (E23_0g vf60_0 vf78_0 vf79_0 vf77_0) sh23 (c23_0_46g ) K σ := by kernel_rfl
theorem m23_0_3 : ∀ (α : Type) (K : Exit → St → Option α), F23_0_3 J23_0_3 α K = p23_0_2.unc fun σ => runM Try.prog E23_0 sh23 c23_0_46 K σ := m23_0_3g f60_0 f78_0 f79_0 f77_0

noncomputable def c23_0_39g  : MCode := (.seq (.region r23_41 [] (some ⟨[1, 2, 5, 6, 7, 8, 9, 26, 27, 45], true, [], []⟩)) (.cond (.tmp 45) (.region r23_43 [] (some ⟨[1, 2, 5, 6, 7, 8, 9, 26, 27], true, [], []⟩)) .skip))
noncomputable def c23_0_39 : MCode := c23_0_39g 
theorem g23_0_39 : c23_0_39.Good Try.prog E23_0 sh23 := ⟨trivial, ⟨trivial, trivial⟩⟩
--CODE 39 0
abbrev TJ23_0_2 : Type 1 := (α : Type) → Int → (Option α) → (Bool → Option α) → Option α
def J23_0_2g  (α : Type) (x102 : Int) (k1 : Option α) (k2 : Bool → Option α) : Option α :=
 cK (decide (x102 < 0))
 (k1)
 (k2 (decide (x102 < 0)))
noncomputable def J23_0_2 (α : Type) (x102 : Int) (k1 : Option α) (k2 : Bool → Option α) : Option α := J23_0_2g  α x102 k1 k2
def F23_0_2 (v : TJ23_0_2) (α : Type) (K : Exit → St → Option α) : Int → Int → Int → Int → Int → Int → Int → Int → Int → Int → Int → Int → Int → Int → Int → Int → Int → Int → Int → Int → Int → Int → Int → Int → Option α := fun x79 x80 x81 x82 x83 x84 x85 x86 x87 x88 x89 x90 x91 x92 x93 x94 x95 x96 x97 x98 x99 x100 x101 x102 => v α x102 (u23_0_2 (K .normal) x79 x80 x88 x82 x83 x84 x85 x86 x87 x88 x89 x90 x91 x92 x93 x94 x95 x96 x97 x98 x99 x100 x101 x102) (fun (y1 : Bool) => u23_0_4 (K .normal) x79 x80 x81 x82 x83 x84 x85 x86 y1 x87 x88 x89 x90 x91 x92 x93 x94 x95 x96 x97 x98 x99 x100 x101 x102) 
theorem m23_0_2g (vf60_0 : Tf60_0) (vf78_0 : Tf78_0) (vf79_0 : Tf79_0) (vf77_0 : Tf77_0)  (α : Type) (K : Exit → St → Option α) : F23_0_2 (J23_0_2g ) α K = p23_0_2.unc fun σ => runM Try.prog (E23_0g vf60_0 vf78_0 vf79_0 vf77_0) sh23 (c23_0_39g ) K σ := by kernel_rfl
theorem m23_0_2 : ∀ (α : Type) (K : Exit → St → Option α), F23_0_2 J23_0_2 α K = p23_0_2.unc fun σ => runM Try.prog E23_0 sh23 c23_0_39 K σ := m23_0_2g f60_0 f78_0 f79_0 f77_0
--CODE 39 0
abbrev TJ23_0_4 : Type 1 := (α : Type) → Int → (Option α) → (Bool → Option α) → Option α
def J23_0_4g  (α : Type) (x172 : Int) (k1 : Option α) (k2 : Bool → Option α) : Option α :=
 cK (decide (x172 < 0))
 (k1)
 (k2 (decide (x172 < 0)))
noncomputable def J23_0_4 (α : Type) (x172 : Int) (k1 : Option α) (k2 : Bool → Option α) : Option α := J23_0_4g  α x172 k1 k2
def F23_0_4 (v : TJ23_0_4) (α : Type) (K : Exit → St → Option α) : Int → Int → Int → Int → Int → Int → Int → Int → Bool → Int → Int → Int → Int → Int → Int → Int → Int → Int → Int → Int → Int → Int → Int → Int → Int → Option α := fun x148 x149 x150 x151 x152 x153 x154 x155 x156 x157 x158 x159 x160 x161 x162 x163 x164 x165 x166 x167 x168 x169 x170 x171 x172 => v α x172 (u23_0_2 (K .normal) x148 x149 x158 x151 x152 x153 x154 x155 x157 x158 x159 x160 x161 x162 x163 x164 x165 x166 x167 x168 x169 x170 x171 x172) (fun (y1 : Bool) => u23_0_4 (K .normal) x148 x149 x150 x151 x152 x153 x154 x155 y1 x157 x158 x159 x160 x161 x162 x163 x164 x165 x166 x167 x168 x169 x170 x171 x172) 
theorem m23_0_4g (vf60_0 : Tf60_0) (vf78_0 : Tf78_0) (vf79_0 : Tf79_0) (vf77_0 : Tf77_0)  (α : Type) (K : Exit → St → Option α) : F23_0_4 (J23_0_4g ) α K = p23_0_3.unc fun σ => runM Try.prog (E23_0g vf60_0 vf78_0 vf79_0 vf77_0) sh23 (c23_0_39g ) K σ := by kernel_rfl
theorem m23_0_4 : ∀ (α : Type) (K : Exit → St → Option α), F23_0_4 J23_0_4 α K = p23_0_3.unc fun σ => runM Try.prog E23_0 sh23 c23_0_39 K σ := m23_0_4g f60_0 f78_0 f79_0 f77_0

noncomputable def c23_0_34g  : MCode := (.seq (.region r23_36 [] (some ⟨[1, 2, 5, 6, 7, 8, 9, 26, 27, 39], true, [], []⟩)) (.cond (.tmp 39) (.region r23_38 [] (some ⟨[1, 2, 5, 6, 7, 8, 9, 26, 27], true, [], []⟩)) .skip))
noncomputable def c23_0_34 : MCode := c23_0_34g 
theorem g23_0_34 : c23_0_34.Good Try.prog E23_0 sh23 := ⟨trivial, ⟨trivial, trivial⟩⟩
--CODE 34 0
abbrev TJ23_0_1 : Type 1 := (α : Type) → Int → (Option α) → (Bool → Option α) → Option α
def J23_0_1g  (α : Type) (x74 : Int) (k1 : Option α) (k2 : Bool → Option α) : Option α :=
 cK (decide (x74 < 0))
 (k1)
 (k2 (decide (x74 < 0)))
noncomputable def J23_0_1 (α : Type) (x74 : Int) (k1 : Option α) (k2 : Bool → Option α) : Option α := J23_0_1g  α x74 k1 k2
def F23_0_1 (v : TJ23_0_1) (α : Type) (K : Exit → St → Option α) : Int → Int → Int → Int → Int → Int → Int → Int → Int → Int → Int → Int → Int → Int → Int → Int → Int → Int → Int → Int → Int → Int → Int → Int → Option α := fun x52 x53 x54 x55 x56 x57 x58 x59 x60 x61 x62 x63 x64 x65 x66 x67 x68 x69 x70 x71 x72 x73 x74 x75 => v α x74 (u23_0_2 (K .normal) x52 x60 x54 x55 x56 x57 x58 x59 x60 x61 x62 x63 x64 x65 x66 x67 x68 x69 x70 x71 x72 x73 x74 x75) (fun (y1 : Bool) => u23_0_3 (K .normal) x52 x53 x54 x55 x56 x57 x58 x59 y1 x60 x61 x62 x63 x64 x65 x66 x67 x68 x69 x70 x71 x72 x73 x74 x75) 
theorem m23_0_1g (vf60_0 : Tf60_0) (vf78_0 : Tf78_0) (vf79_0 : Tf79_0) (vf77_0 : Tf77_0)  (α : Type) (K : Exit → St → Option α) : F23_0_1 (J23_0_1g ) α K = p23_0_2.unc fun σ => runM Try.prog (E23_0g vf60_0 vf78_0 vf79_0 vf77_0) sh23 (c23_0_34g ) K σ := by kernel_rfl
theorem m23_0_1 : ∀ (α : Type) (K : Exit → St → Option α), F23_0_1 J23_0_1 α K = p23_0_2.unc fun σ => runM Try.prog E23_0 sh23 c23_0_34 K σ := m23_0_1g f60_0 f78_0 f79_0 f77_0

noncomputable def c23_0_30g  : MCode := (.region r23_31 [] (some ⟨[1, 2, 5, 6, 7, 26, 27], true, [], []⟩))
noncomputable def c23_0_30 : MCode := c23_0_30g 
theorem g23_0_30 : c23_0_30.Good Try.prog E23_0 sh23 := trivial
--CODE 30 0
abbrev TJ23_0_0 : Type 1 := (α : Type) → Int → Int → Int → Int → Int → (Int → Int → Option α) → Option α
def J23_0_0g  (α : Type) (x28 : Int) (x29 : Int) (x30 : Int) (x31 : Int) (x32 : Int) (k1 : Int → Int → Option α) : Option α :=
 cK (x32 == 1)
 (k1 x30 x31)
 (cK (x32 == 0)
 (k1 x28 x29)
 (none))
noncomputable def J23_0_0 (α : Type) (x28 : Int) (x29 : Int) (x30 : Int) (x31 : Int) (x32 : Int) (k1 : Int → Int → Option α) : Option α := J23_0_0g  α x28 x29 x30 x31 x32 k1
def F23_0_0 (v : TJ23_0_0) (α : Type) (K : Exit → St → Option α) : Int → Int → Int → Int → Int → Bool → Int → Int → Int → Int → Int → Int → Int → Int → Int → Int → Int → Int → Int → Int → Option α := fun x28 x29 x30 x31 x32 x33 x34 x35 x36 x37 x38 x39 x40 x41 x42 x43 x44 x45 x46 x47 => v α x28 x29 x30 x31 x32 (fun (y1 : Int) (y2 : Int) => u23_0_1 (K .normal) x32 x28 x29 x30 x31 x32 x34 x35 x36 x37 x38 x39 x40 x41 x42 x43 x44 x45 x46 x47 y1 y2) 
theorem m23_0_0g (vf60_0 : Tf60_0) (vf78_0 : Tf78_0) (vf79_0 : Tf79_0) (vf77_0 : Tf77_0)  (α : Type) (K : Exit → St → Option α) : F23_0_0 (J23_0_0g ) α K = p23_0_0.unc fun σ => runM Try.prog (E23_0g vf60_0 vf78_0 vf79_0 vf77_0) sh23 (c23_0_30g ) K σ := by kernel_rfl
theorem m23_0_0 : ∀ (α : Type) (K : Exit → St → Option α), F23_0_0 J23_0_0 α K = p23_0_0.unc fun σ => runM Try.prog E23_0 sh23 c23_0_30 K σ := m23_0_0g f60_0 f78_0 f79_0 f77_0

noncomputable def c23_0_23g (vJ23_0_0 : TJ23_0_0) (vJ23_0_1 : TJ23_0_1) (vJ23_0_2 : TJ23_0_2) (vJ23_0_4 : TJ23_0_4) (vJ23_0_3 : TJ23_0_3) : MCode := (.seq (.region r23_25 [] (some ⟨[1, 2, 5, 26, 27, 28], true, [], []⟩)) (.seq (.cond (.tmp 28) .skip (.exit 0)) (.seq (.block 1 (.seq (.mark [⟨p23_0_0, F23_0_0 vJ23_0_0⟩] c23_0_30) (.seq (.region r23_33 [] (some ⟨[1, 2, 5, 6, 7, 8, 9, 26, 27], true, [], []⟩)) (.seq (.mark [⟨p23_0_2, F23_0_1 vJ23_0_1⟩] c23_0_34) (.seq (.mark [⟨p23_0_2, F23_0_2 vJ23_0_2⟩, ⟨p23_0_3, F23_0_4 vJ23_0_4⟩] c23_0_39) (.seq (.region r23_45 [] (some ⟨[1, 2, 5, 6, 7, 8, 9, 26, 27], true, [], []⟩)) (.seq (.mark [⟨p23_0_2, F23_0_3 vJ23_0_3⟩] c23_0_46) (.seq (.region r23_49 [] (some ⟨[1, 2, 5, 10, 26, 27, 69], true, [], []⟩)) (.cond (.tmp 69) (.seq (.region r23_52 [] (some ⟨[2, 3], true, [], []⟩)) .ret) .skip))))))))) (.region r23_53 [] (some ⟨[1, 2, 5, 26, 27], true, [], []⟩)))))
noncomputable def c23_0_23 : MCode := c23_0_23g J23_0_0 J23_0_1 J23_0_2 J23_0_4 J23_0_3
theorem g23_0_23 : c23_0_23.Good Try.prog E23_0 sh23 := ⟨trivial, ⟨⟨trivial, trivial⟩, ⟨⟨⟨g23_0_30, m23_0_0, trivial⟩, ⟨trivial, ⟨⟨g23_0_34, m23_0_1, trivial⟩, ⟨⟨g23_0_39, m23_0_2, m23_0_4, trivial⟩, ⟨trivial, ⟨⟨g23_0_46, m23_0_3, trivial⟩, ⟨trivial, ⟨⟨trivial, trivial⟩, trivial⟩⟩⟩⟩⟩⟩⟩⟩, trivial⟩⟩⟩
--CODE 23 0
def S23_0_5g (vJ23_0_0 : TJ23_0_0) (vJ23_0_1 : TJ23_0_1) (vJ23_0_2 : TJ23_0_2) (vJ23_0_3 : TJ23_0_3) (vJ23_0_4 : TJ23_0_4) (α : Type) (x8 : Int) (x9 : Int) (x10 : Int) (x11 : Int) (x13 : Int) (x14 : Int) (x12 : Int) (x23 : Int) (x24 : Int) (x25 : Int) (x26 : Int) (kn : Int → Int → Int → Int → Int → Option α) (k1 : Int → Option α) (k2 : Int → Bool → Int → Int → Int → Int → Option α) : Option α :=
 cK (decide (x12 < 2))
 (vJ23_0_0 α x8 x9 x10 x11 x12
 (fun (x49 : Int) (x50 : Int) => vJ23_0_1 α x49
 (vJ23_0_2 α x50
 (vJ23_0_3 α x12 x13 x14 x23 x24 x25 x26 x49 x50
 (fun (x136 : Int) (x137 : Int) (x138 : Int) (x139 : Int) (x140 : Int) => cK (x136 != 0)
 (k1 x136)
 (kn (w64 (x12 + 1)) x137 x138 x139 x140)))
 (fun (x104 : Bool) => vJ23_0_3 α x12 x13 x13 x23 x24 x25 x26 x49 x50
 (fun (x142 : Int) (x143 : Int) (x144 : Int) (x145 : Int) (x146 : Int) => cK (x142 != 0)
 (k1 x142)
 (kn (w64 (x12 + 1)) x143 x144 x145 x146))))
 (fun (x77 : Bool) => vJ23_0_4 α x50
 (vJ23_0_3 α x12 x14 x14 x23 x24 x25 x26 x49 x50
 (fun (x176 : Int) (x177 : Int) (x178 : Int) (x179 : Int) (x180 : Int) => cK (x176 != 0)
 (k1 x176)
 (kn (w64 (x12 + 1)) x177 x178 x179 x180)))
 (fun (x174 : Bool) => vJ23_0_3 α x12 x14 x13 x23 x24 x25 x26 x49 x50
 (fun (x182 : Int) (x183 : Int) (x184 : Int) (x185 : Int) (x186 : Int) => cK (x182 != 0)
 (k1 x182)
 (kn (w64 (x12 + 1)) x183 x184 x185 x186))))))
 (k2 x12 (decide (x12 < 2)) x23 x24 x25 x26)
noncomputable def S23_0_5 (α : Type) (x8 : Int) (x9 : Int) (x10 : Int) (x11 : Int) (x13 : Int) (x14 : Int) (x12 : Int) (x23 : Int) (x24 : Int) (x25 : Int) (x26 : Int) (kn : Int → Int → Int → Int → Int → Option α) (k1 : Int → Option α) (k2 : Int → Bool → Int → Int → Int → Int → Option α) : Option α := S23_0_5g J23_0_0 J23_0_1 J23_0_2 J23_0_3 J23_0_4 α x8 x9 x10 x11 x13 x14 x12 x23 x24 x25 x26 kn k1 k2
noncomputable def R23_0_5 (α : Type) (x8 : Int) (x9 : Int) (x10 : Int) (x11 : Int) (x13 : Int) (x14 : Int) (k1 : Int → Option α) (k2 : Int → Bool → Int → Int → Int → Int → Option α) : Nat → Int → Int → Int → Int → Int → Option α
 | 0, _, _, _, _, _ => none
 | n + 1, x12, x23, x24, x25, x26 => S23_0_5 α x8 x9 x10 x11 x13 x14 x12 x23 x24 x25 x26 (R23_0_5 α x8 x9 x10 x11 x13 x14 k1 k2 n) k1 k2
noncomputable def L23_0_5 (α : Type) (x8 : Int) (x9 : Int) (x10 : Int) (x11 : Int) (x13 : Int) (x14 : Int) (k1 : Int → Option α) (k2 : Int → Bool → Int → Int → Int → Int → Option α) (x12 : Int) (x23 : Int) (x24 : Int) (x25 : Int) (x26 : Int) : Option α := R23_0_5 α x8 x9 x10 x11 x13 x14 k1 k2 fuel x12 x23 x24 x25 x26
abbrev TL23_0_5 : Type 1 := (α : Type) → Int → Int → Int → Int → Int → Int → (Int → Option α) → (Int → Bool → Int → Int → Int → Int → Option α) → Int → Int → Int → Int → Int → Option α
def F23_0_5 (v : TL23_0_5) (α : Type) (K : Exit → St → Option α) : Int → Int → Int → Int → Int → Int → Int → Int → Int → Int → Int → Int → Int → Int → Int → Int → Int → Int → Int → Option α := fun x8 x9 x10 x11 x12 x13 x14 x15 x16 x17 x18 x19 x20 x21 x22 x23 x24 x25 x26 => v α x8 x9 x10 x11 x13 x14 (fun (y1 : Int) => u23_0_7 (K .ret) y1 0 0 0 0) (fun (y1 : Int) (y2 : Bool) (y3 : Int) (y4 : Int) (y5 : Int) (y6 : Int) => u23_0_0 (K (.exit 0)) x8 x9 x10 x11 y1 y2 x13 x14 x15 x16 x17 x18 x19 x20 x21 x22 y3 y4 y5 y6) x12 x23 x24 x25 x26
theorem r23_0_5g (vf60_0 : Tf60_0) (vf78_0 : Tf78_0) (vf79_0 : Tf79_0) (vf77_0 : Tf77_0) (vJ23_0_0 : TJ23_0_0) (vJ23_0_1 : TJ23_0_1) (vJ23_0_2 : TJ23_0_2) (vJ23_0_4 : TJ23_0_4) (vJ23_0_3 : TJ23_0_3) (α : Type) (K : Exit → St → Option α) (Kn : St → Option α) (x8 : Int) (x9 : Int) (x10 : Int) (x11 : Int) (x12 : Int) (x13 : Int) (x14 : Int) (x15 : Int) (x16 : Int) (x17 : Int) (x18 : Int) (x19 : Int) (x20 : Int) (x21 : Int) (x22 : Int) (x23 : Int) (x24 : Int) (x25 : Int) (x26 : Int) : u23_0_6 (fun σ => runM Try.prog (E23_0g vf60_0 vf78_0 vf79_0 vf77_0) sh23 (c23_0_23g vJ23_0_0 vJ23_0_1 vJ23_0_2 vJ23_0_4 vJ23_0_3) (thenK (fun σ => tidyK td23_23 σ Kn) K) σ) x8 x9 x10 x11 x12 x13 x14 x15 x16 x17 x18 x19 x20 x21 x22 x23 x24 x25 x26 = S23_0_5g vJ23_0_0 vJ23_0_1 vJ23_0_2 vJ23_0_3 vJ23_0_4 α x8 x9 x10 x11 x13 x14 x12 x23 x24 x25 x26 (fun x12 x23 x24 x25 x26 => u23_0_6 Kn x8 x9 x10 x11 x12 x13 x14 x15 x16 x17 x18 x19 x20 x21 x22 x23 x24 x25 x26) (fun (y1 : Int) => u23_0_7 (K .ret) y1 0 0 0 0) (fun (y1 : Int) (y2 : Bool) (y3 : Int) (y4 : Int) (y5 : Int) (y6 : Int) => u23_0_0 (K (.exit 0)) x8 x9 x10 x11 y1 y2 x13 x14 x15 x16 x17 x18 x19 x20 x21 x22 y3 y4 y5 y6) := by kernel_rfl
theorem r23_0_5 (α : Type) (K : Exit → St → Option α) (Kn : St → Option α) (x8 : Int) (x9 : Int) (x10 : Int) (x11 : Int) (x12 : Int) (x13 : Int) (x14 : Int) (x15 : Int) (x16 : Int) (x17 : Int) (x18 : Int) (x19 : Int) (x20 : Int) (x21 : Int) (x22 : Int) (x23 : Int) (x24 : Int) (x25 : Int) (x26 : Int) : u23_0_6 (fun σ => runM Try.prog E23_0 sh23 c23_0_23 (thenK (fun σ => tidyK td23_23 σ Kn) K) σ) x8 x9 x10 x11 x12 x13 x14 x15 x16 x17 x18 x19 x20 x21 x22 x23 x24 x25 x26 = S23_0_5 α x8 x9 x10 x11 x13 x14 x12 x23 x24 x25 x26 (fun x12 x23 x24 x25 x26 => u23_0_6 Kn x8 x9 x10 x11 x12 x13 x14 x15 x16 x17 x18 x19 x20 x21 x22 x23 x24 x25 x26) (fun (y1 : Int) => u23_0_7 (K .ret) y1 0 0 0 0) (fun (y1 : Int) (y2 : Bool) (y3 : Int) (y4 : Int) (y5 : Int) (y6 : Int) => u23_0_0 (K (.exit 0)) x8 x9 x10 x11 y1 y2 x13 x14 x15 x16 x17 x18 x19 x20 x21 x22 y3 y4 y5 y6) := r23_0_5g f60_0 f78_0 f79_0 f77_0 J23_0_0 J23_0_1 J23_0_2 J23_0_4 J23_0_3 α K Kn x8 x9 x10 x11 x12 x13 x14 x15 x16 x17 x18 x19 x20 x21 x22 x23 x24 x25 x26
theorem t23_0_5 (α : Type) (K : Exit → St → Option α) : ∀ (n : Nat) (x8 : Int) (x9 : Int) (x10 : Int) (x11 : Int) (x12 : Int) (x13 : Int) (x14 : Int) (x15 : Int) (x16 : Int) (x17 : Int) (x18 : Int) (x19 : Int) (x20 : Int) (x21 : Int) (x22 : Int) (x23 : Int) (x24 : Int) (x25 : Int) (x26 : Int), R23_0_5 α x8 x9 x10 x11 x13 x14 (fun (y1 : Int) => u23_0_7 (K .ret) y1 0 0 0 0) (fun (y1 : Int) (y2 : Bool) (y3 : Int) (y4 : Int) (y5 : Int) (y6 : Int) => u23_0_0 (K (.exit 0)) x8 x9 x10 x11 y1 y2 x13 x14 x15 x16 x17 x18 x19 x20 x21 x22 y3 y4 y5 y6) n x12 x23 x24 x25 x26 = u23_0_6 (loopT (runM Try.prog E23_0 sh23 c23_0_23) td23_23 K n) x8 x9 x10 x11 x12 x13 x14 x15 x16 x17 x18 x19 x20 x21 x22 x23 x24 x25 x26 := by
 intro n
 induction n with
 | zero => intros; rfl
 | succ n ih => intro x8 x9 x10 x11 x12 x13 x14 x15 x16 x17 x18 x19 x20 x21 x22 x23 x24 x25 x26; exact (congrArg (fun kn => S23_0_5 α x8 x9 x10 x11 x13 x14 x12 x23 x24 x25 x26 kn (fun (y1 : Int) => u23_0_7 (K .ret) y1 0 0 0 0) (fun (y1 : Int) (y2 : Bool) (y3 : Int) (y4 : Int) (y5 : Int) (y6 : Int) => u23_0_0 (K (.exit 0)) x8 x9 x10 x11 y1 y2 x13 x14 x15 x16 x17 x18 x19 x20 x21 x22 y3 y4 y5 y6)) (funext fun x12 => funext fun x23 => funext fun x24 => funext fun x25 => funext fun x26 => ih x8 x9 x10 x11 x12 x13 x14 x15 x16 x17 x18 x19 x20 x21 x22 x23 x24 x25 x26)).trans (r23_0_5 α K (loopT (runM Try.prog E23_0 sh23 c23_0_23) td23_23 K n) x8 x9 x10 x11 x12 x13 x14 x15 x16 x17 x18 x19 x20 x21 x22 x23 x24 x25 x26).symm
theorem m23_0_5 : ∀ (α : Type) (K : Exit → St → Option α), F23_0_5 L23_0_5 α K = p23_0_6.unc fun σ => loopT (runM Try.prog E23_0 sh23 c23_0_23) td23_23 K fuel σ := fun α K => funext fun x8 => funext fun x9 => funext fun x10 => funext fun x11 => funext fun x12 => funext fun x13 => funext fun x14 => funext fun x15 => funext fun x16 => funext fun x17 => funext fun x18 => funext fun x19 => funext fun x20 => funext fun x21 => funext fun x22 => funext fun x23 => funext fun x24 => funext fun x25 => funext fun x26 => t23_0_5 α K fuel x8 x9 x10 x11 x12 x13 x14 x15 x16 x17 x18 x19 x20 x21 x22 x23 x24 x25 x26

/-- etalon/meter.Ratios -/
abbrev Tf23_0 : Type 1 := (α : Type) → Int → Int → Int → Int → Int → Int → (Int → Int → Int → Int → Int → Option α) → Option α
def f23_0g (vL23_0_5 : TL23_0_5) (vf60_0 : Tf60_0) (α : Type) (x1 : Int) (x2 : Int) (x3 : Int) (x4 : Int) (x5 : Int) (x6 : Int) (k1 : Int → Int → Int → Int → Int → Option α) : Option α :=
 vf60_0 α x1 x2 x3 x4 x5 x6
 (fun (x7 : Int) => cK (x7 != 0)
 (k1 0 0 0 0 x7)
 (cK (decide (x1 ≤ 0))
 (k1 0 0 0 0 9)
 (vL23_0_5 α x3 x4 x5 x6 x1 x2
 (fun (x188 : Int) => k1 0 0 0 0 x188)
 (fun (x189 : Int) (x190 : Bool) (x191 : Int) (x192 : Int) (x193 : Int) (x194 : Int) => k1 x191 x192 x193 x194 0) 0 0 0 0 0)))
noncomputable def f23_0 (α : Type) (x1 : Int) (x2 : Int) (x3 : Int) (x4 : Int) (x5 : Int) (x6 : Int) (k1 : Int → Int → Int → Int → Int → Option α) : Option α := f23_0g L23_0_5 f60_0 α x1 x2 x3 x4 x5 x6 k1
def pa23_0 : PT (List DV) := pA [pV true [(dI .i64), (dI .i64), (dI .i64), (dI .i64), (dI .i64), (dI .i64)]]
def Fn23_0 (v : Tf23_0) (α : Type) (k : List RV → Option α) : Int → Int → Int → Int → Int → Int → Option α := fun x1 x2 x3 x4 x5 x6 => v α x1 x2 x3 x4 x5 x6 (fun (y1 : Int) (y2 : Int) (y3 : Int) (y4 : Int) (y5 : Int) => ur23_0_0 k y1 y2 y3 y4 y5)
noncomputable def cm23_0g (vL23_0_5 : TL23_0_5) : MCode := (.seq (.region r23_2 [] (some ⟨[1, 2], true, [], []⟩)) (.seq (.seq (.region r23_5 [] (some ⟨[1, 2, 4], true, [], []⟩)) (.seq (.region r23_7 [] (some ⟨[1, 2, 4, 14], true, [], []⟩)) (.cond (.tmp 14) (.seq (.region r23_10 [] (some ⟨[2, 3], true, [], []⟩)) .ret) .skip))) (.seq (.seq (.region r23_13 [] (some ⟨[1, 2, 20], true, [], []⟩)) (.cond (.tmp 20) (.seq (.region r23_16 [] (some ⟨[2, 3], true, [], []⟩)) .ret) .skip)) (.seq (.region r23_18 [] (some ⟨[1, 2, 5], true, [], []⟩)) (.seq (.seq (.region r23_21 [] (some ⟨[1, 2, 5, 26, 27], true, [], []⟩)) (.block 0 (.loop td23_23 [⟨p23_0_6, F23_0_5 vL23_0_5⟩] c23_0_23))) (.seq (.region r23_55 [] (some ⟨[2, 3], true, [], []⟩)) .ret))))))
noncomputable def cm23_0 : MCode := cm23_0g L23_0_5
theorem gm23_0 : cm23_0.Good Try.prog E23_0 sh23 := ⟨trivial, ⟨⟨trivial, ⟨trivial, ⟨⟨trivial, trivial⟩, trivial⟩⟩⟩, ⟨⟨trivial, ⟨⟨trivial, trivial⟩, trivial⟩⟩, ⟨trivial, ⟨⟨trivial, ⟨g23_0_23, m23_0_5, trivial⟩⟩, ⟨trivial, trivial⟩⟩⟩⟩⟩⟩
theorem fm23_0g (vf60_0 : Tf60_0) (vf78_0 : Tf78_0) (vf79_0 : Tf79_0) (vf77_0 : Tf77_0) (vL23_0_5 : TL23_0_5) (α : Type) (k : List RV → Option α) : Fn23_0 (f23_0g vL23_0_5 vf60_0) α k = pa23_0.unc fun ds => fnM Try.prog (E23_0g vf60_0 vf78_0 vf79_0 vf77_0) sh23 (cm23_0g vL23_0_5) rs23 k ds := by kernel_rfl
theorem fm23_0 : ∀ (α : Type) (k : List RV → Option α), Fn23_0 f23_0 α k = pa23_0.unc fun ds => fnM Try.prog E23_0 sh23 cm23_0 rs23 k ds := fm23_0g f60_0 f78_0 f79_0 f77_0 L23_0_5

theorem is23 : FnIs Try.prog 23 nt23 tr23 tl23 cm23_0.erase rs23 := ⟨Try.f23, Try.func23, rfl, by kernel_rfl, by kernel_rfl, by kernel_rfl⟩
theorem io23_0 : InstOk Try.prog 23 nt23 ⟨pa23_0, Fn23_0 f23_0⟩ := inst_ok eo23_0 followsTry is23 ⟨⟨sh23, cm23_0, by kernel_rfl, gm23_0, fm23_0⟩⟩

/-! ### F48 etalon/meter.PsiOf -/
abbrev nt48 : Nat := 39
def sh48 : List (Nat × List Sh) := [(9, [.str, .int .i64, .int .i64, .int .i64, .int .i64, .int .i64, .int .i64, .int .i64, .int .i64, .int .i64]), (19, [.int .i64]), (22, [.int .i64]), (27, [.int .i64]), (30, [.int .i64]), (33, [.bool]), (38, [.int .i64, .int .i64])]
def r48_2 : List AOper := [oO 1 (.box (.tmp 0)), oO 2 (.alloc [(.d (.v (.int .i64 0))), (.d (.v (.int .i64 0)))]), oO 3 (.mv (.const (.int .i64 0)))]
def r48_5 : List AOper := [oO 9 (.load true 10 (.tmp 1)), oO 10 (.call 28 [(.tmp 9)]), oM 4 10]
def r48_7 : List AOper := [oM 11 4, oO 12 (.bin .neq 28 (.tmp 11) (.const (.int .i64 0)))]
def r48_10 : List AOper := [oO 13 (.build [(.d (.v (.int .i64 0))), (.d (.v (.int .i64 0)))] []), oM 14 4, ⟨none, (.store 2 (.tmp 2) (.tmp 13)), none⟩, oM 3 14]
def r48_12 : List AOper := [oO 15 (.build [(.d (.v (.int .i64 0))), (.d (.v (.int .i64 0)))] [(0, 1, (.const (.int .i64 0))), (1, 1, (.const (.int .i64 1024)))]), oO 5 (.alloc [(.d (.v (.int .i64 0))), (.d (.v (.int .i64 0)))]), ⟨none, (.store 2 (.tmp 5) (.tmp 15)), none⟩]
def r48_14 : List AOper := [oO 6 (.alloc [(.d (.v (.bool false)))]), ⟨none, (.store 1 (.tmp 6) (.const (.bool false))), none⟩]
def td48_17 : Option Tidy := (some ⟨[1, 2, 3, 5, 6], true, [], []⟩)
def r48_19 : List AOper := [oM 7 16]
def r48_20 : List AOper := [oO 8 (.alloc [(.d (.v (.int .i64 0))), (.d (.v (.int .i64 0)))]), ⟨none, (.store 2 (.tmp 8) (.tmp 17)), none⟩]
def r48_24 : List AOper := [oO 18 (.faddr 0 (.tmp 8)), oO 19 (.load false 1 (.tmp 18)), oO 20 (.faddr 4 (.tmp 1)), oO 21 (.faddr 1 (.tmp 20)), oO 22 (.load false 1 (.tmp 21)), oO 23 (.bin .geq 3 (.tmp 19) (.tmp 22))]
def r48_26 : List AOper := [oM 24 7, oO 25 (.faddr 0 (.tmp 5)), ⟨none, (.store 1 (.tmp 25) (.tmp 24)), none⟩]
def r48_28 : List AOper := [oO 26 (.faddr 1 (.tmp 8)), oO 27 (.load false 1 (.tmp 26)), oO 28 (.faddr 4 (.tmp 1)), oO 29 (.faddr 0 (.tmp 28)), oO 30 (.load false 1 (.tmp 29)), oO 31 (.bin .leq 3 (.tmp 27) (.tmp 30)), oM 32 31, ⟨(some 33), (.load false 1 (.tmp 6)), (some (32, true))⟩, ⟨(some 34), (.pure (oB (.unOp .not 4 (.tmp 33)) 4)), (some (32, true))⟩, oO 35 (.pick (.tmp 32) (.tmp 34) (.const (.bool false)))]
def r48_30 : List AOper := [oM 36 7, oO 37 (.faddr 1 (.tmp 5)), ⟨none, (.store 1 (.tmp 37) (.tmp 36)), none⟩, ⟨none, (.store 1 (.tmp 6) (.const (.bool true))), none⟩]
def r48_32 : List AOper := [oO 38 (.load true 2 (.tmp 5)), ⟨none, (.store 2 (.tmp 2) (.tmp 38)), none⟩, oO 3 (.mv (.const (.int .i64 0)))]
def tr48 : List (Nat × Tidy) := [(0, ⟨[1, 2, 3], true, [], []⟩), (1, ⟨[1, 2, 3, 4], true, [], []⟩), (2, ⟨[1, 2, 3, 4, 12], true, [], []⟩), (3, ⟨[2, 3], true, [], []⟩), (4, ⟨[1, 2, 3, 5], true, [], []⟩), (5, ⟨[1, 2, 3, 5, 6], true, [], []⟩), (6, ⟨[1, 2, 3, 5, 6, 7, 17], true, [], []⟩), (7, ⟨[1, 2, 3, 5, 6, 7, 8], true, [], []⟩), (8, ⟨[1, 2, 3, 5, 6, 7, 8, 23], true, [], []⟩), (9, ⟨[1, 2, 3, 5, 6, 7, 8], true, [], []⟩), (10, ⟨[1, 2, 3, 5, 6, 7, 35], true, [], []⟩), (11, ⟨[1, 2, 3, 5, 6], true, [], []⟩), (12, ⟨[2, 3], true, [], []⟩)]
def tl48 : List (Nat × Tidy) := [(8, ⟨[1, 2, 3, 5, 6], true, [], []⟩)]
def rs48 : List AResV := [.cell 2 true 2, .tmp 3]
def p48_0_0 : PT St := pS [sl 1 (aV false [(cPtr 1 0)]), sl 2 (aV false [(cPtr 2 0)]), sl 3 (aV false [(cD (dI .i64))]), sl 5 (aV false [(cPtr 5 0)]), sl 6 (aV false [(cPtr 6 0)])] [eBox 1 [(cD dS), (cD (dI .i64)), (cD (dI .i64)), (cD (dI .i64)), (cD (dI .i64)), (cD (dI .i64)), (cD (dI .i64)), (cD (dI .i64)), (cD (dI .i64)), (cD (dI .i64))], eBox 2 [(cD (dI .i64)), (cD (dI .i64))], eBox 5 [(cD (dI .i64)), (cD (dI .i64))], eBox 6 [(cD dB)]]
def u48_0_0 {β : Type} (g : St → β) : Int → ByteArray → Int → Int → Int → Int → Int → Int → Int → Int → Int → Int → Int → Int → Int → Bool → β := p48_0_0.unc g

def pr48_0_0 : PT (List RV) := pRs [pR true [rD (dI .i64), rD (dI .i64)], pR false [rD (dI .i64)]]
def ur48_0_0 {β : Type} (g : List RV → β) : Int → Int → Int → β := pr48_0_0.unc g

def E48_0g (vf28_0 : Tf28_0) (vq102 : Tq102) : EnvK := EnvK.of [⟨28, nt28, [⟨pa28_0, Fn28_0 vf28_0⟩]⟩] (seqE [⟨102, pq102, vq102⟩])
noncomputable def E48_0 : EnvK := E48_0g f28_0 q102
theorem eo48_0 : E48_0.Ok Try.prog := EnvK.of_ok (seqE_ok (l := [⟨102, pq102, q102⟩]) ⟨sqok102, trivial⟩) ⟨⟨io28_0, trivial⟩, trivial⟩

noncomputable def ca48_0_17 : MCode := (.seq (.region r48_19 [] (some ⟨[1, 2, 3, 5, 6, 7, 17], true, [], []⟩)) (.region r48_20 [] (some ⟨[1, 2, 3, 5, 6, 7, 8], true, [], []⟩)))
theorem ga48_0_17 : ca48_0_17.Good Try.prog E48_0 sh48 := ⟨trivial, trivial⟩

noncomputable def c48_0_17g  : MCode := (.block 1 (.seq (.seq (.region r48_24 [] (some ⟨[1, 2, 3, 5, 6, 7, 8, 23], true, [], []⟩)) (.cond (.tmp 23) (.region r48_26 [] (some ⟨[1, 2, 3, 5, 6, 7, 8], true, [], []⟩)) .skip)) (.seq (.region r48_28 [] (some ⟨[1, 2, 3, 5, 6, 7, 35], true, [], []⟩)) (.cond (.tmp 35) (.region r48_30 [] (some ⟨[1, 2, 3, 5, 6], true, [], []⟩)) .skip))))
noncomputable def c48_0_17 : MCode := c48_0_17g 
theorem g48_0_17 : c48_0_17.Good Try.prog E48_0 sh48 := ⟨⟨trivial, ⟨trivial, trivial⟩⟩, ⟨trivial, ⟨trivial, trivial⟩⟩⟩
--CODE 17 0
def S48_0_0g  (α : Type) (x17 : Int) (x18 : Int) (y28 : Int × Int × Int) (x25 : Int) (x26 : Int) (x27 : Bool) (kn : Int → Int → Bool → Option α) (k1 : Int → Int → Bool → Option α) : Option α :=
 cK (decide (x18 ≤ y28.2.1))
 (cK (decide (y28.2.2 ≤ x17))
 (cK (!x27)
 (kn y28.1 y28.1 true)
 (kn y28.1 x26 x27))
 (kn y28.1 x26 x27))
 (cK (decide (y28.2.2 ≤ x17))
 (cK (!x27)
 (kn x25 y28.1 true)
 (kn x25 x26 x27))
 (kn x25 x26 x27))
noncomputable def S48_0_0 (α : Type) (x17 : Int) (x18 : Int) (y28 : Int × Int × Int) (x25 : Int) (x26 : Int) (x27 : Bool) (kn : Int → Int → Bool → Option α) (k1 : Int → Int → Bool → Option α) : Option α := S48_0_0g  α x17 x18 y28 x25 x26 x27 kn k1
noncomputable def V48_0_0 (α : Type) (x17 : Int) (x18 : Int) (k1 : Int → Int → Bool → Option α) : List (Int × Int × Int) → Int → Int → Bool → Option α
 | [], x25, x26, x27 => k1 x25 x26 x27
 | y28 :: ys, x25, x26, x27 => S48_0_0 α x17 x18 y28 x25 x26 x27 (V48_0_0 α x17 x18 k1 ys) k1
abbrev TV48_0_0 : Type 1 := (α : Type) → Int → Int → (Int → Int → Bool → Option α) → List (Int × Int × Int) → Int → Int → Bool → Option α
def F48_0_0 (v : TV48_0_0) (α : Type) (K : Exit → St → Option α) (ys : List (Int × Int × Int)) : Int → ByteArray → Int → Int → Int → Int → Int → Int → Int → Int → Int → Int → Int → Int → Int → Bool → Option α := fun x12 x13 x14 x15 x16 x17 x18 x19 x20 x21 x22 x23 x24 x25 x26 x27 => v α x17 x18 (fun (y1 : Int) (y2 : Int) (y3 : Bool) => u48_0_0 (K .normal) x12 x13 x14 x15 x16 x17 x18 x19 x20 x21 x22 x23 x24 y1 y2 y3) ys x25 x26 x27
theorem r48_0_0g (vf28_0 : Tf28_0) (vq102 : Tq102)  (α : Type) (K : Exit → St → Option α) (Kn : St → Option α) (y28 : Int × Int × Int) (x12 : Int) (x13 : ByteArray) (x14 : Int) (x15 : Int) (x16 : Int) (x17 : Int) (x18 : Int) (x19 : Int) (x20 : Int) (x21 : Int) (x22 : Int) (x23 : Int) (x24 : Int) (x25 : Int) (x26 : Int) (x27 : Bool) : u48_0_0 (fun σ => roundT (runM Try.prog (E48_0g vf28_0 vq102) sh48 ca48_0_17) (runM Try.prog (E48_0g vf28_0 vq102) sh48 c48_0_17) [16, 17] td48_17 Kn K (xIP.ex y28) σ) x12 x13 x14 x15 x16 x17 x18 x19 x20 x21 x22 x23 x24 x25 x26 x27 = S48_0_0g  α x17 x18 y28 x25 x26 x27 (fun x25 x26 x27 => u48_0_0 Kn x12 x13 x14 x15 x16 x17 x18 x19 x20 x21 x22 x23 x24 x25 x26 x27) (fun (y1 : Int) (y2 : Int) (y3 : Bool) => u48_0_0 (K .normal) x12 x13 x14 x15 x16 x17 x18 x19 x20 x21 x22 x23 x24 y1 y2 y3) := by kernel_rfl
theorem r48_0_0 (α : Type) (K : Exit → St → Option α) (Kn : St → Option α) (y28 : Int × Int × Int) (x12 : Int) (x13 : ByteArray) (x14 : Int) (x15 : Int) (x16 : Int) (x17 : Int) (x18 : Int) (x19 : Int) (x20 : Int) (x21 : Int) (x22 : Int) (x23 : Int) (x24 : Int) (x25 : Int) (x26 : Int) (x27 : Bool) : u48_0_0 (fun σ => roundT (runM Try.prog E48_0 sh48 ca48_0_17) (runM Try.prog E48_0 sh48 c48_0_17) [16, 17] td48_17 Kn K (xIP.ex y28) σ) x12 x13 x14 x15 x16 x17 x18 x19 x20 x21 x22 x23 x24 x25 x26 x27 = S48_0_0 α x17 x18 y28 x25 x26 x27 (fun x25 x26 x27 => u48_0_0 Kn x12 x13 x14 x15 x16 x17 x18 x19 x20 x21 x22 x23 x24 x25 x26 x27) (fun (y1 : Int) (y2 : Int) (y3 : Bool) => u48_0_0 (K .normal) x12 x13 x14 x15 x16 x17 x18 x19 x20 x21 x22 x23 x24 y1 y2 y3) := r48_0_0g f28_0 q102 α K Kn y28 x12 x13 x14 x15 x16 x17 x18 x19 x20 x21 x22 x23 x24 x25 x26 x27
theorem t48_0_0 (α : Type) (K : Exit → St → Option α) : ∀ (ys : List (Int × Int × Int)) (x12 : Int) (x13 : ByteArray) (x14 : Int) (x15 : Int) (x16 : Int) (x17 : Int) (x18 : Int) (x19 : Int) (x20 : Int) (x21 : Int) (x22 : Int) (x23 : Int) (x24 : Int) (x25 : Int) (x26 : Int) (x27 : Bool), V48_0_0 α x17 x18 (fun (y1 : Int) (y2 : Int) (y3 : Bool) => u48_0_0 (K .normal) x12 x13 x14 x15 x16 x17 x18 x19 x20 x21 x22 x23 x24 y1 y2 y3) ys x25 x26 x27 = u48_0_0 (roundsK (runM Try.prog E48_0 sh48 ca48_0_17) (runM Try.prog E48_0 sh48 c48_0_17) [16, 17] td48_17 K (ys.map xIP.ex)) x12 x13 x14 x15 x16 x17 x18 x19 x20 x21 x22 x23 x24 x25 x26 x27 := by
 intro ys
 induction ys with
 | nil => intros; rfl
 | cons y28 ys ih => intro x12 x13 x14 x15 x16 x17 x18 x19 x20 x21 x22 x23 x24 x25 x26 x27; exact (congrArg (fun kn => S48_0_0 α x17 x18 y28 x25 x26 x27 kn (fun (y1 : Int) (y2 : Int) (y3 : Bool) => u48_0_0 (K .normal) x12 x13 x14 x15 x16 x17 x18 x19 x20 x21 x22 x23 x24 y1 y2 y3)) (funext fun x25 => funext fun x26 => funext fun x27 => ih x12 x13 x14 x15 x16 x17 x18 x19 x20 x21 x22 x23 x24 x25 x26 x27)).trans (r48_0_0 α K (roundsK (runM Try.prog E48_0 sh48 ca48_0_17) (runM Try.prog E48_0 sh48 c48_0_17) [16, 17] td48_17 K (ys.map xIP.ex)) y28 x12 x13 x14 x15 x16 x17 x18 x19 x20 x21 x22 x23 x24 x25 x26 x27).symm
theorem m48_0_0 : ∀ (α : Type) (K : Exit → St → Option α) (ys : List (Int × Int × Int)), F48_0_0 V48_0_0 α K ys = p48_0_0.unc fun σ => roundsK (runM Try.prog E48_0 sh48 ca48_0_17) (runM Try.prog E48_0 sh48 c48_0_17) [16, 17] td48_17 K (ys.map xIP.ex) σ := fun α K ys => funext fun x12 => funext fun x13 => funext fun x14 => funext fun x15 => funext fun x16 => funext fun x17 => funext fun x18 => funext fun x19 => funext fun x20 => funext fun x21 => funext fun x22 => funext fun x23 => funext fun x24 => funext fun x25 => funext fun x26 => funext fun x27 => t48_0_0 α K ys x12 x13 x14 x15 x16 x17 x18 x19 x20 x21 x22 x23 x24 x25 x26 x27

/-- etalon/meter.PsiOf -/
abbrev Tf48_0 : Type 1 := (α : Type) → ByteArray → Int → Int → Int → Int → Int → Int → Int → Int → Int → (Int → Int → Int → Option α) → Option α
def f48_0g (vV48_0_0 : TV48_0_0) (vf28_0 : Tf28_0) (vq102 : Tq102) (α : Type) (x1 : ByteArray) (x2 : Int) (x3 : Int) (x4 : Int) (x5 : Int) (x6 : Int) (x7 : Int) (x8 : Int) (x9 : Int) (x10 : Int) (k1 : Int → Int → Int → Option α) : Option α :=
 vf28_0 α x1 x2 x3 x4 x5 x6 x7 x8 x9 x10
 (fun (x11 : Int) => cK (x11 != 0)
 (k1 0 0 x11)
 (qK vq102 xIP fun y32 => vV48_0_0 α x5 x6
 (fun (x29 : Int) (x30 : Int) (x31 : Bool) => k1 x29 x30 0) y32 0 1024 false))
noncomputable def f48_0 (α : Type) (x1 : ByteArray) (x2 : Int) (x3 : Int) (x4 : Int) (x5 : Int) (x6 : Int) (x7 : Int) (x8 : Int) (x9 : Int) (x10 : Int) (k1 : Int → Int → Int → Option α) : Option α := f48_0g V48_0_0 f28_0 q102 α x1 x2 x3 x4 x5 x6 x7 x8 x9 x10 k1
def pa48_0 : PT (List DV) := pA [pV true [dS, (dI .i64), (dI .i64), (dI .i64), (dI .i64), (dI .i64), (dI .i64), (dI .i64), (dI .i64), (dI .i64)]]
def Fn48_0 (v : Tf48_0) (α : Type) (k : List RV → Option α) : ByteArray → Int → Int → Int → Int → Int → Int → Int → Int → Int → Option α := fun x1 x2 x3 x4 x5 x6 x7 x8 x9 x10 => v α x1 x2 x3 x4 x5 x6 x7 x8 x9 x10 (fun (y1 : Int) (y2 : Int) (y3 : Int) => ur48_0_0 k y1 y2 y3)
noncomputable def cm48_0g (vV48_0_0 : TV48_0_0) : MCode := (.seq (.region r48_2 [] (some ⟨[1, 2, 3], true, [], []⟩)) (.seq (.seq (.region r48_5 [] (some ⟨[1, 2, 3, 4], true, [], []⟩)) (.seq (.region r48_7 [] (some ⟨[1, 2, 3, 4, 12], true, [], []⟩)) (.cond (.tmp 12) (.seq (.region r48_10 [] (some ⟨[2, 3], true, [], []⟩)) .ret) .skip))) (.seq (.region r48_12 [] (some ⟨[1, 2, 3, 5], true, [], []⟩)) (.seq (.region r48_14 [] (some ⟨[1, 2, 3, 5, 6], true, [], []⟩)) (.seq (.block 0 (.rangeF (.func 102) [16, 17] td48_17 [⟨xIP, p48_0_0, F48_0_0 vV48_0_0⟩] ca48_0_17 c48_0_17)) (.seq (.region r48_32 [] (some ⟨[2, 3], true, [], []⟩)) .ret))))))
noncomputable def cm48_0 : MCode := cm48_0g V48_0_0
theorem gm48_0 : cm48_0.Good Try.prog E48_0 sh48 := ⟨trivial, ⟨⟨trivial, ⟨trivial, ⟨⟨trivial, trivial⟩, trivial⟩⟩⟩, ⟨trivial, ⟨trivial, ⟨⟨⟨ga48_0_17, g48_0_17⟩, m48_0_0, trivial⟩, ⟨trivial, trivial⟩⟩⟩⟩⟩⟩
theorem fm48_0g (vf28_0 : Tf28_0) (vq102 : Tq102) (vV48_0_0 : TV48_0_0) (α : Type) (k : List RV → Option α) : Fn48_0 (f48_0g vV48_0_0 vf28_0 vq102) α k = pa48_0.unc fun ds => fnM Try.prog (E48_0g vf28_0 vq102) sh48 (cm48_0g vV48_0_0) rs48 k ds := by kernel_rfl
theorem fm48_0 : ∀ (α : Type) (k : List RV → Option α), Fn48_0 f48_0 α k = pa48_0.unc fun ds => fnM Try.prog E48_0 sh48 cm48_0 rs48 k ds := fm48_0g f28_0 q102 V48_0_0

theorem is48 : FnIs Try.prog 48 nt48 tr48 tl48 cm48_0.erase rs48 := ⟨Try.f48, Try.func48, rfl, by kernel_rfl, by kernel_rfl, by kernel_rfl⟩
theorem io48_0 : InstOk Try.prog 48 nt48 ⟨pa48_0, Fn48_0 f48_0⟩ := inst_ok eo48_0 followsTry is48 ⟨⟨sh48, cm48_0, by kernel_rfl, gm48_0, fm48_0⟩⟩


end Go.AM.K
