/- Printed by KGen. -/
import Derived.Test.YtcidonjhifjpaaaAcC
namespace Go.AM.K
open Go.Proofs
set_option maxRecDepth 100000
set_option linter.unusedVariables false

theorem followsTry : Try.prog.follows .mixedOrders = true := by kernel_rfl

/-! ### F99 etalon/grow.thickOf -/
abbrev nt99 : Nat := 13
def sh99 : List (Nat × List Sh) := [(5, [.int .i64]), (7, [.int .i64]), (11, [.int .i64])]
def r99_2 : List AOper := [⟨(some 1), (.box (.tmp 0)), none⟩, ⟨(some 2), (.mv (.const (.int .i64 0))), none⟩, ⟨(some 3), (.mv (.const (.int .i64 0))), none⟩]
def r99_4 : List AOper := [⟨(some 4), (.faddr 2 (.tmp 1)), none⟩, ⟨(some 5), (.load false 1 (.tmp 4)), none⟩, ⟨(some 6), (.faddr 1 (.tmp 1)), none⟩, ⟨(some 7), (.load false 1 (.tmp 6)), none⟩, ⟨(some 8), (.bin .mul 3 (.tmp 5) (.tmp 7)), none⟩, ⟨(some 9), (.bin .mul 3 (.tmp 8) (.const (.int .i64 10000))), none⟩, ⟨(some 10), (.faddr 0 (.tmp 1)), none⟩, ⟨(some 11), (.load false 1 (.tmp 10)), none⟩, ⟨(some 12), (.bin .mul 3 (.const (.int .i64 4)) (.tmp 11)), none⟩, ⟨(some 2), (.mv (.tmp 9)), none⟩, ⟨(some 3), (.mv (.tmp 12)), none⟩]
def tr99 : List (Nat × Tidy) := [(0, ⟨[1], true, [], []⟩), (1, ⟨[2, 3], true, [], []⟩)]
def tl99 : List (Nat × Tidy) := []
def rs99 : List AResV := [.tmp 2, .tmp 3]
def pr99_0_0 : PT (List RV) := pRs [pR false [rD (dI .i64)], pR false [rD (dI .i64)]]
def ur99_0_0 {β : Type} (g : List RV → β) : Int → Int → β := pr99_0_0.unc g

def E99_0g  : EnvK := EnvK.of [] noSeq
noncomputable def E99_0 : EnvK := E99_0g 
theorem eo99_0 : E99_0.Ok Try.prog := EnvK.of_ok noSeq_ok trivial

/-- etalon/grow.thickOf -/
abbrev Tf99_0 : Type 1 := (α : Type) → Int → Int → Int → (Int → Int → Option α) → Option α
def f99_0g  (α : Type) (x1 : Int) (x2 : Int) (x3 : Int) (k1 : Int → Int → Option α) : Option α :=
  k1 (w64 ((w64 (x3 * x2)) * 10000)) (w64 (4 * x1))
noncomputable def f99_0 (α : Type) (x1 : Int) (x2 : Int) (x3 : Int) (k1 : Int → Int → Option α) : Option α := f99_0g  α x1 x2 x3 k1
def pa99_0 : PT (List DV) := pA [pV true [(dI .i64), (dI .i64), (dI .i64)]]
def Fn99_0 (v : Tf99_0) (α : Type) (k : List RV → Option α) : Int → Int → Int → Option α := fun x1 x2 x3 => v α x1 x2 x3 (fun (y1 : Int) (y2 : Int) => ur99_0_0 k y1 y2)
noncomputable def cm99_0g  : MCode := (.seq (.region r99_2 [] (some ⟨[1], true, [], []⟩)) (.seq (.region r99_4 [] (some ⟨[2, 3], true, [], []⟩)) .ret))
noncomputable def cm99_0 : MCode := cm99_0g 
theorem gm99_0 : cm99_0.Good Try.prog E99_0 sh99 := ⟨trivial, ⟨trivial, trivial⟩⟩
theorem fm99_0g   (α : Type) (k : List RV → Option α) : Fn99_0 (f99_0g ) α k = pa99_0.unc fun ds => fnM Try.prog (E99_0g ) sh99 (cm99_0g ) rs99 k ds := by kernel_rfl
theorem fm99_0 : ∀ (α : Type) (k : List RV → Option α), Fn99_0 f99_0 α k = pa99_0.unc fun ds => fnM Try.prog E99_0 sh99 cm99_0 rs99 k ds := fm99_0g 

theorem is99 : FnIs Try.prog 99 nt99 tr99 tl99 cm99_0.erase rs99 := ⟨Try.f99, Try.func99, rfl, by kernel_rfl, by kernel_rfl, by kernel_rfl⟩
theorem io99_0 : InstOk Try.prog 99 nt99 ⟨pa99_0, Fn99_0 f99_0⟩ := inst_ok eo99_0 followsTry is99 ⟨⟨sh99, cm99_0, by kernel_rfl, gm99_0, fm99_0⟩⟩

/-! ### F94 etalon/etalonbase.Floor -/
abbrev nt94 : Nat := 16
def sh94 : List (Nat × List Sh) := []
def r94_2 : List AOper := [⟨(some 4), (.mv (.const (.int .i64 0))), none⟩]
def r94_4 : List AOper := [⟨(some 6), (.mv (.tmp 0)), none⟩, ⟨(some 7), (.mv (.tmp 1)), none⟩, ⟨(some 8), (.bin .quo 3 (.tmp 6) (.tmp 7)), none⟩, ⟨(some 5), (.mv (.tmp 8)), none⟩]
def r94_7 : List AOper := [⟨(some 9), (.mv (.tmp 0)), none⟩, ⟨(some 10), (.mv (.tmp 1)), none⟩, ⟨(some 11), (.bin .rem 3 (.tmp 9) (.tmp 10)), none⟩, ⟨(some 12), (.bin .lss 3 (.tmp 11) (.const (.int .i64 0))), none⟩]
def r94_9 : List AOper := [⟨(some 13), (.mv (.tmp 5)), none⟩, ⟨(some 14), (.bin .sub 3 (.tmp 13) (.const (.int .i64 1))), none⟩, ⟨(some 5), (.mv (.tmp 14)), none⟩]
def r94_11 : List AOper := [⟨(some 15), (.mv (.tmp 5)), none⟩, ⟨(some 4), (.mv (.tmp 15)), none⟩]
def tr94 : List (Nat × Tidy) := [(0, ⟨[0, 1], true, [], []⟩), (1, ⟨[0, 1, 5], true, [], []⟩), (2, ⟨[5, 12], true, [], []⟩), (3, ⟨[5], true, [], []⟩), (4, ⟨[4], true, [], []⟩)]
def tl94 : List (Nat × Tidy) := []
def rs94 : List AResV := [.tmp 4]
def pr94_0_0 : PT (List RV) := pRs [pR false [rD (dI .i64)]]
def ur94_0_0 {β : Type} (g : List RV → β) : Int → β := pr94_0_0.unc g

def E94_0g  : EnvK := EnvK.of [] noSeq
noncomputable def E94_0 : EnvK := E94_0g 
theorem eo94_0 : E94_0.Ok Try.prog := EnvK.of_ok noSeq_ok trivial

/-- etalon/etalonbase.Floor -/
abbrev Tf94_0 : Type 1 := (α : Type) → Int → Int → (Int → Option α) → Option α
def f94_0g  (α : Type) (x1 : Int) (x2 : Int) (k1 : Int → Option α) : Option α :=
  gK (x2 != 0) (gK (x2 != 0) (cK (decide ((Int.tmod x1 x2) < 0))
    (k1 (w64 ((w64 (Int.tdiv x1 x2)) - 1)))
    (k1 (w64 (Int.tdiv x1 x2)))))
noncomputable def f94_0 (α : Type) (x1 : Int) (x2 : Int) (k1 : Int → Option α) : Option α := f94_0g  α x1 x2 k1
def pa94_0 : PT (List DV) := pA [pV false [(dI .i64)], pV false [(dI .i64)]]
def Fn94_0 (v : Tf94_0) (α : Type) (k : List RV → Option α) : Int → Int → Option α := fun x1 x2 => v α x1 x2 (fun (y1 : Int) => ur94_0_0 k y1)
noncomputable def cm94_0g  : MCode := (.seq (.region r94_2 [] (some ⟨[0, 1], true, [], []⟩)) (.seq (.region r94_4 [] (some ⟨[0, 1, 5], true, [], []⟩)) (.seq (.seq (.region r94_7 [] (some ⟨[5, 12], true, [], []⟩)) (.cond (.tmp 12) (.region r94_9 [] (some ⟨[5], true, [], []⟩)) .skip)) (.seq (.region r94_11 [] (some ⟨[4], true, [], []⟩)) .ret))))
noncomputable def cm94_0 : MCode := cm94_0g 
theorem gm94_0 : cm94_0.Good Try.prog E94_0 sh94 := ⟨trivial, ⟨trivial, ⟨⟨trivial, ⟨trivial, trivial⟩⟩, ⟨trivial, trivial⟩⟩⟩⟩
theorem fm94_0g   (α : Type) (k : List RV → Option α) : Fn94_0 (f94_0g ) α k = pa94_0.unc fun ds => fnM Try.prog (E94_0g ) sh94 (cm94_0g ) rs94 k ds := by kernel_rfl
theorem fm94_0 : ∀ (α : Type) (k : List RV → Option α), Fn94_0 f94_0 α k = pa94_0.unc fun ds => fnM Try.prog E94_0 sh94 cm94_0 rs94 k ds := fm94_0g 

theorem is94 : FnIs Try.prog 94 nt94 tr94 tl94 cm94_0.erase rs94 := ⟨Try.f94, Try.func94, rfl, by kernel_rfl, by kernel_rfl, by kernel_rfl⟩
theorem io94_0 : InstOk Try.prog 94 nt94 ⟨pa94_0, Fn94_0 f94_0⟩ := inst_ok eo94_0 followsTry is94 ⟨⟨sh94, cm94_0, by kernel_rfl, gm94_0, fm94_0⟩⟩

/-! ### F19 etalon/etalonbase.Within -/
abbrev nt19 : Nat := 15
def sh19 : List (Nat × List Sh) := []
def r19_2 : List AOper := [⟨(some 6), (.mv (.const (.bool false))), none⟩]
def r19_4 : List AOper := [⟨(some 7), (.mv (.tmp 1)), none⟩, ⟨(some 8), (.mv (.tmp 0)), none⟩, ⟨(some 9), (.bin .leq 3 (.tmp 7) (.tmp 8)), none⟩, ⟨(some 10), (.mv (.tmp 9)), none⟩, ⟨(some 11), (.mv (.tmp 0)), (some (10, true))⟩, ⟨(some 12), (.mv (.tmp 2)), (some (10, true))⟩, ⟨(some 13), (.bin .leq 3 (.tmp 11) (.tmp 12)), (some (10, true))⟩, ⟨(some 14), (.pick (.tmp 10) (.tmp 13) (.const (.bool false))), none⟩, ⟨(some 6), (.mv (.tmp 14)), none⟩]
def tr19 : List (Nat × Tidy) := [(0, ⟨[0, 1, 2], true, [], []⟩), (1, ⟨[6], true, [], []⟩)]
def tl19 : List (Nat × Tidy) := []
def rs19 : List AResV := [.tmp 6]
def pr19_0_0 : PT (List RV) := pRs [pR false [rD dB]]
def ur19_0_0 {β : Type} (g : List RV → β) : Bool → β := pr19_0_0.unc g

def E19_0g  : EnvK := EnvK.of [] noSeq
noncomputable def E19_0 : EnvK := E19_0g 
theorem eo19_0 : E19_0.Ok Try.prog := EnvK.of_ok noSeq_ok trivial

/-- etalon/etalonbase.Within -/
abbrev Tf19_0 : Type 1 := (α : Type) → Int → Int → Int → (Bool → Option α) → Option α
def f19_0g  (α : Type) (x1 : Int) (x2 : Int) (x3 : Int) (k1 : Bool → Option α) : Option α :=
  cK (decide (x2 ≤ x1))
    (k1 (decide (x1 ≤ x3)))
    (k1 false)
noncomputable def f19_0 (α : Type) (x1 : Int) (x2 : Int) (x3 : Int) (k1 : Bool → Option α) : Option α := f19_0g  α x1 x2 x3 k1
def pa19_0 : PT (List DV) := pA [pV false [(dI .i64)], pV false [(dI .i64)], pV false [(dI .i64)]]
def Fn19_0 (v : Tf19_0) (α : Type) (k : List RV → Option α) : Int → Int → Int → Option α := fun x1 x2 x3 => v α x1 x2 x3 (fun (y1 : Bool) => ur19_0_0 k y1)
noncomputable def cm19_0g  : MCode := (.seq (.region r19_2 [] (some ⟨[0, 1, 2], true, [], []⟩)) (.seq (.region r19_4 [] (some ⟨[6], true, [], []⟩)) .ret))
noncomputable def cm19_0 : MCode := cm19_0g 
theorem gm19_0 : cm19_0.Good Try.prog E19_0 sh19 := ⟨trivial, ⟨trivial, trivial⟩⟩
theorem fm19_0g   (α : Type) (k : List RV → Option α) : Fn19_0 (f19_0g ) α k = pa19_0.unc fun ds => fnM Try.prog (E19_0g ) sh19 (cm19_0g ) rs19 k ds := by kernel_rfl
theorem fm19_0 : ∀ (α : Type) (k : List RV → Option α), Fn19_0 f19_0 α k = pa19_0.unc fun ds => fnM Try.prog E19_0 sh19 cm19_0 rs19 k ds := fm19_0g 

theorem is19 : FnIs Try.prog 19 nt19 tr19 tl19 cm19_0.erase rs19 := ⟨Try.f19, Try.func19, rfl, by kernel_rfl, by kernel_rfl, by kernel_rfl⟩
theorem io19_0 : InstOk Try.prog 19 nt19 ⟨pa19_0, Fn19_0 f19_0⟩ := inst_ok eo19_0 followsTry is19 ⟨⟨sh19, cm19_0, by kernel_rfl, gm19_0, fm19_0⟩⟩

/-! ### F92 etalon/grow.up -/
abbrev nt92 : Nat := 11
def sh92 : List (Nat × List Sh) := []
def r92_2 : List AOper := [⟨(some 4), (.mv (.const (.int .i64 0))), none⟩]
def r92_4 : List AOper := [⟨(some 5), (.mv (.tmp 0)), none⟩, ⟨(some 6), (.mv (.tmp 1)), none⟩, ⟨(some 7), (.bin .add 3 (.tmp 5) (.tmp 6)), none⟩, ⟨(some 8), (.bin .sub 3 (.tmp 7) (.const (.int .i64 1))), none⟩, ⟨(some 9), (.mv (.tmp 1)), none⟩, ⟨(some 10), (.bin .quo 3 (.tmp 8) (.tmp 9)), none⟩, ⟨(some 4), (.mv (.tmp 10)), none⟩]
def tr92 : List (Nat × Tidy) := [(0, ⟨[0, 1], true, [], []⟩), (1, ⟨[4], true, [], []⟩)]
def tl92 : List (Nat × Tidy) := []
def rs92 : List AResV := [.tmp 4]
def pr92_0_0 : PT (List RV) := pRs [pR false [rD (dI .i64)]]
def ur92_0_0 {β : Type} (g : List RV → β) : Int → β := pr92_0_0.unc g

def E92_0g  : EnvK := EnvK.of [] noSeq
noncomputable def E92_0 : EnvK := E92_0g 
theorem eo92_0 : E92_0.Ok Try.prog := EnvK.of_ok noSeq_ok trivial

/-- etalon/grow.up -/
abbrev Tf92_0 : Type 1 := (α : Type) → Int → Int → (Int → Option α) → Option α
def f92_0g  (α : Type) (x1 : Int) (x2 : Int) (k1 : Int → Option α) : Option α :=
  gK (x2 != 0) (k1 (w64 (Int.tdiv (w64 ((w64 (x1 + x2)) - 1)) x2)))
noncomputable def f92_0 (α : Type) (x1 : Int) (x2 : Int) (k1 : Int → Option α) : Option α := f92_0g  α x1 x2 k1
def pa92_0 : PT (List DV) := pA [pV false [(dI .i64)], pV false [(dI .i64)]]
def Fn92_0 (v : Tf92_0) (α : Type) (k : List RV → Option α) : Int → Int → Option α := fun x1 x2 => v α x1 x2 (fun (y1 : Int) => ur92_0_0 k y1)
noncomputable def cm92_0g  : MCode := (.seq (.region r92_2 [] (some ⟨[0, 1], true, [], []⟩)) (.seq (.region r92_4 [] (some ⟨[4], true, [], []⟩)) .ret))
noncomputable def cm92_0 : MCode := cm92_0g 
theorem gm92_0 : cm92_0.Good Try.prog E92_0 sh92 := ⟨trivial, ⟨trivial, trivial⟩⟩
theorem fm92_0g   (α : Type) (k : List RV → Option α) : Fn92_0 (f92_0g ) α k = pa92_0.unc fun ds => fnM Try.prog (E92_0g ) sh92 (cm92_0g ) rs92 k ds := by kernel_rfl
theorem fm92_0 : ∀ (α : Type) (k : List RV → Option α), Fn92_0 f92_0 α k = pa92_0.unc fun ds => fnM Try.prog E92_0 sh92 cm92_0 rs92 k ds := fm92_0g 

theorem is92 : FnIs Try.prog 92 nt92 tr92 tl92 cm92_0.erase rs92 := ⟨Try.f92, Try.func92, rfl, by kernel_rfl, by kernel_rfl, by kernel_rfl⟩
theorem io92_0 : InstOk Try.prog 92 nt92 ⟨pa92_0, Fn92_0 f92_0⟩ := inst_ok eo92_0 followsTry is92 ⟨⟨sh92, cm92_0, by kernel_rfl, gm92_0, fm92_0⟩⟩

/-! ### F91 etalon/grow.down -/
abbrev nt91 : Nat := 8
def sh91 : List (Nat × List Sh) := []
def r91_2 : List AOper := [⟨(some 4), (.mv (.const (.int .i64 0))), none⟩]
def r91_4 : List AOper := [⟨(some 5), (.mv (.tmp 0)), none⟩, ⟨(some 6), (.mv (.tmp 1)), none⟩, ⟨(some 7), (.bin .quo 3 (.tmp 5) (.tmp 6)), none⟩, ⟨(some 4), (.mv (.tmp 7)), none⟩]
def tr91 : List (Nat × Tidy) := [(0, ⟨[0, 1], true, [], []⟩), (1, ⟨[4], true, [], []⟩)]
def tl91 : List (Nat × Tidy) := []
def rs91 : List AResV := [.tmp 4]
def pr91_0_0 : PT (List RV) := pRs [pR false [rD (dI .i64)]]
def ur91_0_0 {β : Type} (g : List RV → β) : Int → β := pr91_0_0.unc g

def E91_0g  : EnvK := EnvK.of [] noSeq
noncomputable def E91_0 : EnvK := E91_0g 
theorem eo91_0 : E91_0.Ok Try.prog := EnvK.of_ok noSeq_ok trivial

/-- etalon/grow.down -/
abbrev Tf91_0 : Type 1 := (α : Type) → Int → Int → (Int → Option α) → Option α
def f91_0g  (α : Type) (x1 : Int) (x2 : Int) (k1 : Int → Option α) : Option α :=
  gK (x2 != 0) (k1 (w64 (Int.tdiv x1 x2)))
noncomputable def f91_0 (α : Type) (x1 : Int) (x2 : Int) (k1 : Int → Option α) : Option α := f91_0g  α x1 x2 k1
def pa91_0 : PT (List DV) := pA [pV false [(dI .i64)], pV false [(dI .i64)]]
def Fn91_0 (v : Tf91_0) (α : Type) (k : List RV → Option α) : Int → Int → Option α := fun x1 x2 => v α x1 x2 (fun (y1 : Int) => ur91_0_0 k y1)
noncomputable def cm91_0g  : MCode := (.seq (.region r91_2 [] (some ⟨[0, 1], true, [], []⟩)) (.seq (.region r91_4 [] (some ⟨[4], true, [], []⟩)) .ret))
noncomputable def cm91_0 : MCode := cm91_0g 
theorem gm91_0 : cm91_0.Good Try.prog E91_0 sh91 := ⟨trivial, ⟨trivial, trivial⟩⟩
theorem fm91_0g   (α : Type) (k : List RV → Option α) : Fn91_0 (f91_0g ) α k = pa91_0.unc fun ds => fnM Try.prog (E91_0g ) sh91 (cm91_0g ) rs91 k ds := by kernel_rfl
theorem fm91_0 : ∀ (α : Type) (k : List RV → Option α), Fn91_0 f91_0 α k = pa91_0.unc fun ds => fnM Try.prog E91_0 sh91 cm91_0 rs91 k ds := fm91_0g 

theorem is91 : FnIs Try.prog 91 nt91 tr91 tl91 cm91_0.erase rs91 := ⟨Try.f91, Try.func91, rfl, by kernel_rfl, by kernel_rfl, by kernel_rfl⟩
theorem io91_0 : InstOk Try.prog 91 nt91 ⟨pa91_0, Fn91_0 f91_0⟩ := inst_ok eo91_0 followsTry is91 ⟨⟨sh91, cm91_0, by kernel_rfl, gm91_0, fm91_0⟩⟩

/-! ### F88 etalon/grow.first -/
abbrev nt88 : Nat := 15
def sh88 : List (Nat × List Sh) := [(9, [.int .i64]), (10, [.int .i64])]
def r88_2 : List AOper := [⟨(some 2), (.mv (.const (.int .i64 0))), none⟩]
def r88_5 : List AOper := [⟨(some 5), (.mv (.tmp 0)), none⟩, ⟨(some 6), (.len (.tmp 5)), none⟩, ⟨(some 7), (.mv (.const (.int .i64 0))), none⟩]
def td88_7 : Option Tidy := (some ⟨[5, 6, 7], true, [⟨false, 5, 0, 20005, 1⟩], []⟩)
def r88_9 : List AOper := [⟨(some 8), (.bin .lss 3 (.tmp 7) (.tmp 6)), none⟩]
def r88_15 : List AOper := [⟨(some 9), (.iaddr 1 none (.tmp 5) (.tmp 7)), none⟩, ⟨(some 10), (.load false 1 (.tmp 9)), none⟩, ⟨(some 4), (.mv (.tmp 10)), none⟩]
def r88_17 : List AOper := [⟨(some 11), (.mv (.tmp 4)), none⟩, ⟨(some 12), (.bin .neq 32 (.tmp 11) (.const (.int .i64 0))), none⟩]
def r88_20 : List AOper := [⟨(some 13), (.mv (.tmp 4)), none⟩, ⟨(some 2), (.mv (.tmp 13)), none⟩]
def r88_21 : List AOper := [⟨(some 14), (.bin .add 3 (.tmp 7) (.const (.int .i64 1))), none⟩, ⟨(some 7), (.mv (.tmp 14)), none⟩]
def r88_23 : List AOper := [⟨(some 2), (.mv (.const (.int .i64 0))), none⟩]
def tr88 : List (Nat × Tidy) := [(0, ⟨[0], true, [], []⟩), (1, ⟨[5, 6, 7], true, [], []⟩), (2, ⟨[5, 6, 7, 8], true, [], []⟩), (3, ⟨[4, 5, 6, 7], true, [], []⟩), (4, ⟨[4, 5, 6, 7, 12], true, [], []⟩), (5, ⟨[2], true, [], []⟩), (6, ⟨[5, 6, 7], true, [], []⟩), (7, ⟨[2], true, [], []⟩)]
def tl88 : List (Nat × Tidy) := [(2, ⟨[5, 6, 7], true, [⟨false, 5, 0, 20005, 1⟩], []⟩)]
def rs88 : List AResV := [.tmp 2]
def p88_0_0 : PT St := pS [sl 5 (aV false [(cD dL)]), sl 6 (aV false [(cD (dI .i64))]), sl 7 (aV false [(cD (dI .i64))])] []
def u88_0_0 {β : Type} (g : St → β) : Rows → Int → Int → β := p88_0_0.unc g

def p88_0_1 : PT St := pS [sl 2 (aV false [(cD (dI .i64))])] []
def u88_0_1 {β : Type} (g : St → β) : Int → β := p88_0_1.unc g

def p88_0_2 : PT St := pS [sl 5 (aV false [(cD dL)]), sl 6 (aV false [(cD (dI .i64))]), sl 7 (aV false [(cD (dI .i64))]), sl 8 (aV false [(cD dB)])] []
def u88_0_2 {β : Type} (g : St → β) : Rows → Int → Int → Bool → β := p88_0_2.unc g

def pr88_0_0 : PT (List RV) := pRs [pR false [rD (dI .i64)]]
def ur88_0_0 {β : Type} (g : List RV → β) : Int → β := pr88_0_0.unc g

def E88_0g  : EnvK := EnvK.of [] noSeq
noncomputable def E88_0 : EnvK := E88_0g 
theorem eo88_0 : E88_0.Ok Try.prog := EnvK.of_ok noSeq_ok trivial

noncomputable def c88_0_7g  : MCode := (.seq (.region r88_9 [] (some ⟨[5, 6, 7, 8], true, [], []⟩)) (.seq (.cond (.tmp 8) .skip (.exit 0)) (.seq (.block 1 (.seq (.region r88_15 [] (some ⟨[4, 5, 6, 7], true, [], []⟩)) (.seq (.region r88_17 [] (some ⟨[4, 5, 6, 7, 12], true, [], []⟩)) (.cond (.tmp 12) (.seq (.region r88_20 [] (some ⟨[2], true, [], []⟩)) .ret) .skip)))) (.region r88_21 [] (some ⟨[5, 6, 7], true, [], []⟩)))))
noncomputable def c88_0_7 : MCode := c88_0_7g 
theorem g88_0_7 : c88_0_7.Good Try.prog E88_0 sh88 := ⟨trivial, ⟨⟨trivial, trivial⟩, ⟨⟨trivial, ⟨trivial, ⟨⟨trivial, trivial⟩, trivial⟩⟩⟩, trivial⟩⟩⟩
--CODE 7 0
def S88_0_0g  (α : Type) (x2 : Rows) (x3 : Int) (x4 : Int) (kn : Int → Option α) (k1 : Int → Option α) (k2 : Int → Bool → Option α) : Option α :=
  cK (decide (x4 < x3))
    (rowK x2 x4 [.int .i64]
      (fun (x5 : Int) => cK (x5 != 0)
        (k1 x5)
        (kn (w64 (x4 + 1)))))
    (k2 x4 (decide (x4 < x3)))
noncomputable def S88_0_0 (α : Type) (x2 : Rows) (x3 : Int) (x4 : Int) (kn : Int → Option α) (k1 : Int → Option α) (k2 : Int → Bool → Option α) : Option α := S88_0_0g  α x2 x3 x4 kn k1 k2
noncomputable def R88_0_0 (α : Type) (x2 : Rows) (x3 : Int) (k1 : Int → Option α) (k2 : Int → Bool → Option α) : Nat → Int → Option α
  | 0, _ => none
  | n + 1, x4 => S88_0_0 α x2 x3 x4 (R88_0_0 α x2 x3 k1 k2 n) k1 k2
noncomputable def L88_0_0 (α : Type) (x2 : Rows) (x3 : Int) (k1 : Int → Option α) (k2 : Int → Bool → Option α) (x4 : Int) : Option α := R88_0_0 α x2 x3 k1 k2 fuel x4
abbrev TL88_0_0 : Type 1 := (α : Type) → Rows → Int → (Int → Option α) → (Int → Bool → Option α) → Int → Option α
def F88_0_0 (v : TL88_0_0) (α : Type) (K : Exit → St → Option α) : Rows → Int → Int → Option α := fun x2 x3 x4 => v α x2 x3 (fun (y1 : Int) => u88_0_1 (K .ret) y1) (fun (y1 : Int) (y2 : Bool) => u88_0_2 (K (.exit 0)) x2 x3 y1 y2) x4
theorem r88_0_0g   (α : Type) (K : Exit → St → Option α) (Kn : St → Option α) (x2 : Rows) (x3 : Int) (x4 : Int) : u88_0_0 (fun σ => runM Try.prog (E88_0g ) sh88 (c88_0_7g ) (thenK (fun σ => tidyK td88_7 σ Kn) K) σ) x2 x3 x4 = S88_0_0g  α x2 x3 x4 (fun x4 => u88_0_0 Kn x2 x3 x4) (fun (y1 : Int) => u88_0_1 (K .ret) y1) (fun (y1 : Int) (y2 : Bool) => u88_0_2 (K (.exit 0)) x2 x3 y1 y2) := by kernel_rfl
theorem r88_0_0 (α : Type) (K : Exit → St → Option α) (Kn : St → Option α) (x2 : Rows) (x3 : Int) (x4 : Int) : u88_0_0 (fun σ => runM Try.prog E88_0 sh88 c88_0_7 (thenK (fun σ => tidyK td88_7 σ Kn) K) σ) x2 x3 x4 = S88_0_0 α x2 x3 x4 (fun x4 => u88_0_0 Kn x2 x3 x4) (fun (y1 : Int) => u88_0_1 (K .ret) y1) (fun (y1 : Int) (y2 : Bool) => u88_0_2 (K (.exit 0)) x2 x3 y1 y2) := r88_0_0g  α K Kn x2 x3 x4
theorem t88_0_0 (α : Type) (K : Exit → St → Option α) : ∀ (n : Nat) (x2 : Rows) (x3 : Int) (x4 : Int), R88_0_0 α x2 x3 (fun (y1 : Int) => u88_0_1 (K .ret) y1) (fun (y1 : Int) (y2 : Bool) => u88_0_2 (K (.exit 0)) x2 x3 y1 y2) n x4 = u88_0_0 (loopT (runM Try.prog E88_0 sh88 c88_0_7) td88_7 K n) x2 x3 x4 := by
  intro n
  induction n with
  | zero => intros; rfl
  | succ n ih => intro x2 x3 x4; exact (congrArg (fun kn => S88_0_0 α x2 x3 x4 kn (fun (y1 : Int) => u88_0_1 (K .ret) y1) (fun (y1 : Int) (y2 : Bool) => u88_0_2 (K (.exit 0)) x2 x3 y1 y2)) (funext fun x4 => ih x2 x3 x4)).trans (r88_0_0 α K (loopT (runM Try.prog E88_0 sh88 c88_0_7) td88_7 K n) x2 x3 x4).symm
theorem m88_0_0 : ∀ (α : Type) (K : Exit → St → Option α), F88_0_0 L88_0_0 α K = p88_0_0.unc fun σ => loopT (runM Try.prog E88_0 sh88 c88_0_7) td88_7 K fuel σ := fun α K => funext fun x2 => funext fun x3 => funext fun x4 => t88_0_0 α K fuel x2 x3 x4

/-- etalon/grow.first -/
abbrev Tf88_0 : Type 1 := (α : Type) → Rows → (Int → Option α) → Option α
def f88_0g (vL88_0_0 : TL88_0_0) (α : Type) (x1 : Rows) (k1 : Int → Option α) : Option α :=
  vL88_0_0 α x1 ((List.length x1 : Nat) : Int)
    (fun (x6 : Int) => k1 x6)
    (fun (x7 : Int) (x8 : Bool) => k1 0) 0
noncomputable def f88_0 (α : Type) (x1 : Rows) (k1 : Int → Option α) : Option α := f88_0g L88_0_0 α x1 k1
def pa88_0 : PT (List DV) := pA [pV false [dL]]
def Fn88_0 (v : Tf88_0) (α : Type) (k : List RV → Option α) : Rows → Option α := fun x1 => v α x1 (fun (y1 : Int) => ur88_0_0 k y1)
noncomputable def cm88_0g (vL88_0_0 : TL88_0_0) : MCode := (.seq (.region r88_2 [] (some ⟨[0], true, [], []⟩)) (.seq (.seq (.region r88_5 [] (some ⟨[5, 6, 7], true, [], []⟩)) (.block 0 (.loop td88_7 [⟨p88_0_0, F88_0_0 vL88_0_0⟩] c88_0_7))) (.seq (.region r88_23 [] (some ⟨[2], true, [], []⟩)) .ret)))
noncomputable def cm88_0 : MCode := cm88_0g L88_0_0
theorem gm88_0 : cm88_0.Good Try.prog E88_0 sh88 := ⟨trivial, ⟨⟨trivial, ⟨g88_0_7, m88_0_0, trivial⟩⟩, ⟨trivial, trivial⟩⟩⟩
theorem fm88_0g  (vL88_0_0 : TL88_0_0) (α : Type) (k : List RV → Option α) : Fn88_0 (f88_0g vL88_0_0) α k = pa88_0.unc fun ds => fnM Try.prog (E88_0g ) sh88 (cm88_0g vL88_0_0) rs88 k ds := by kernel_rfl
theorem fm88_0 : ∀ (α : Type) (k : List RV → Option α), Fn88_0 f88_0 α k = pa88_0.unc fun ds => fnM Try.prog E88_0 sh88 cm88_0 rs88 k ds := fm88_0g L88_0_0

theorem is88 : FnIs Try.prog 88 nt88 tr88 tl88 cm88_0.erase rs88 := ⟨Try.f88, Try.func88, rfl, by kernel_rfl, by kernel_rfl, by kernel_rfl⟩
theorem io88_0 : InstOk Try.prog 88 nt88 ⟨pa88_0, Fn88_0 f88_0⟩ := inst_ok eo88_0 followsTry is88 ⟨⟨sh88, cm88_0, by kernel_rfl, gm88_0, fm88_0⟩⟩

/-! ### F78 etalon/grow.within -/
abbrev nt78 : Nat := 15
def sh78 : List (Nat × List Sh) := []
def r78_2 : List AOper := [⟨(some 6), (.mv (.const (.bool false))), none⟩]
def r78_4 : List AOper := [⟨(some 7), (.mv (.tmp 1)), none⟩, ⟨(some 8), (.mv (.tmp 0)), none⟩, ⟨(some 9), (.bin .leq 3 (.tmp 7) (.tmp 8)), none⟩, ⟨(some 10), (.mv (.tmp 9)), none⟩, ⟨(some 11), (.mv (.tmp 0)), (some (10, true))⟩, ⟨(some 12), (.mv (.tmp 2)), (some (10, true))⟩, ⟨(some 13), (.bin .leq 3 (.tmp 11) (.tmp 12)), (some (10, true))⟩, ⟨(some 14), (.pick (.tmp 10) (.tmp 13) (.const (.bool false))), none⟩, ⟨(some 6), (.mv (.tmp 14)), none⟩]
def tr78 : List (Nat × Tidy) := [(0, ⟨[0, 1, 2], true, [], []⟩), (1, ⟨[6], true, [], []⟩)]
def tl78 : List (Nat × Tidy) := []
def rs78 : List AResV := [.tmp 6]
def pr78_0_0 : PT (List RV) := pRs [pR false [rD dB]]
def ur78_0_0 {β : Type} (g : List RV → β) : Bool → β := pr78_0_0.unc g

def E78_0g  : EnvK := EnvK.of [] noSeq
noncomputable def E78_0 : EnvK := E78_0g 
theorem eo78_0 : E78_0.Ok Try.prog := EnvK.of_ok noSeq_ok trivial

/-- etalon/grow.within -/
abbrev Tf78_0 : Type 1 := (α : Type) → Int → Int → Int → (Bool → Option α) → Option α
def f78_0g  (α : Type) (x1 : Int) (x2 : Int) (x3 : Int) (k1 : Bool → Option α) : Option α :=
  cK (decide (x2 ≤ x1))
    (k1 (decide (x1 ≤ x3)))
    (k1 false)
noncomputable def f78_0 (α : Type) (x1 : Int) (x2 : Int) (x3 : Int) (k1 : Bool → Option α) : Option α := f78_0g  α x1 x2 x3 k1
def pa78_0 : PT (List DV) := pA [pV false [(dI .i64)], pV false [(dI .i64)], pV false [(dI .i64)]]
def Fn78_0 (v : Tf78_0) (α : Type) (k : List RV → Option α) : Int → Int → Int → Option α := fun x1 x2 x3 => v α x1 x2 x3 (fun (y1 : Bool) => ur78_0_0 k y1)
noncomputable def cm78_0g  : MCode := (.seq (.region r78_2 [] (some ⟨[0, 1, 2], true, [], []⟩)) (.seq (.region r78_4 [] (some ⟨[6], true, [], []⟩)) .ret))
noncomputable def cm78_0 : MCode := cm78_0g 
theorem gm78_0 : cm78_0.Good Try.prog E78_0 sh78 := ⟨trivial, ⟨trivial, trivial⟩⟩
theorem fm78_0g   (α : Type) (k : List RV → Option α) : Fn78_0 (f78_0g ) α k = pa78_0.unc fun ds => fnM Try.prog (E78_0g ) sh78 (cm78_0g ) rs78 k ds := by kernel_rfl
theorem fm78_0 : ∀ (α : Type) (k : List RV → Option α), Fn78_0 f78_0 α k = pa78_0.unc fun ds => fnM Try.prog E78_0 sh78 cm78_0 rs78 k ds := fm78_0g 

theorem is78 : FnIs Try.prog 78 nt78 tr78 tl78 cm78_0.erase rs78 := ⟨Try.f78, Try.func78, rfl, by kernel_rfl, by kernel_rfl, by kernel_rfl⟩
theorem io78_0 : InstOk Try.prog 78 nt78 ⟨pa78_0, Fn78_0 f78_0⟩ := inst_ok eo78_0 followsTry is78 ⟨⟨sh78, cm78_0, by kernel_rfl, gm78_0, fm78_0⟩⟩

/-! ### F40 etalon/etalonref08.QuarterErr -/
abbrev nt40 : Nat := 19
def sh40 : List (Nat × List Sh) := [(4, [.int .i64]), (9, [.int .i64]), (15, [.int .i64])]
def r40_2 : List AOper := [⟨(some 1), (.box (.tmp 0)), none⟩, ⟨(some 2), (.mv (.const (.int .i64 0))), none⟩]
def r40_5 : List AOper := [⟨(some 3), (.faddr 0 (.tmp 1)), none⟩, ⟨(some 4), (.load false 1 (.tmp 3)), none⟩, ⟨(some 5), (.call 19 [(.tmp 4), (.const (.int .i64 5000)), (.const (.int .i64 80000))]), none⟩, ⟨(some 6), (.pure (oB (.unOp .not 4 (.tmp 5)) 4)), none⟩, ⟨(some 7), (.mv (.tmp 6)), none⟩, ⟨(some 8), (.faddr 1 (.tmp 1)), (some (7, false))⟩, ⟨(some 9), (.load false 1 (.tmp 8)), (some (7, false))⟩, ⟨(some 10), (.call 19 [(.tmp 9), (.const (.int .i64 1000)), (.const (.int .i64 200000))]), (some (7, false))⟩, ⟨(some 11), (.pure (oB (.unOp .not 4 (.tmp 10)) 4)), (some (7, false))⟩, ⟨(some 12), (.pick (.tmp 7) (.const (.bool true)) (.tmp 11)), none⟩, ⟨(some 13), (.mv (.tmp 12)), none⟩, ⟨(some 14), (.faddr 2 (.tmp 1)), (some (13, false))⟩, ⟨(some 15), (.load false 1 (.tmp 14)), (some (13, false))⟩, ⟨(some 16), (.call 19 [(.tmp 15), (.const (.int .i64 1)), (.const (.int .i64 200))]), (some (13, false))⟩, ⟨(some 17), (.pure (oB (.unOp .not 4 (.tmp 16)) 4)), (some (13, false))⟩, ⟨(some 18), (.pick (.tmp 13) (.const (.bool true)) (.tmp 17)), none⟩]
def r40_8 : List AOper := [⟨(some 2), (.mv (.const (.int .i64 2))), none⟩]
def r40_10 : List AOper := [⟨(some 2), (.mv (.const (.int .i64 0))), none⟩]
def tr40 : List (Nat × Tidy) := [(0, ⟨[1], true, [], []⟩), (1, ⟨[18], true, [], []⟩), (2, ⟨[2], true, [], []⟩), (3, ⟨[2], true, [], []⟩)]
def tl40 : List (Nat × Tidy) := []
def rs40 : List AResV := [.tmp 2]
def pr40_0_0 : PT (List RV) := pRs [pR false [rD (dI .i64)]]
def ur40_0_0 {β : Type} (g : List RV → β) : Int → β := pr40_0_0.unc g

def E40_0g (vf19_0 : Tf19_0) : EnvK := EnvK.of [⟨19, nt19, [⟨pa19_0, Fn19_0 vf19_0⟩]⟩] noSeq
noncomputable def E40_0 : EnvK := E40_0g f19_0
theorem eo40_0 : E40_0.Ok Try.prog := EnvK.of_ok noSeq_ok ⟨⟨io19_0, trivial⟩, trivial⟩

/-- etalon/etalonref08.QuarterErr -/
abbrev Tf40_0 : Type 1 := (α : Type) → Int → Int → Int → (Int → Option α) → Option α
def f40_0g (vf19_0 : Tf19_0) (α : Type) (x1 : Int) (x2 : Int) (x3 : Int) (k1 : Int → Option α) : Option α :=
  vf19_0 α x1 5000 80000
    (fun (x4 : Bool) => cK (!x4)
      (k1 2)
      (vf19_0 α x2 1000 200000
        (fun (x5 : Bool) => cK (!x5)
          (k1 2)
          (vf19_0 α x3 1 200
            (fun (x6 : Bool) => cK (!x6)
              (k1 2)
              (k1 0))))))
noncomputable def f40_0 (α : Type) (x1 : Int) (x2 : Int) (x3 : Int) (k1 : Int → Option α) : Option α := f40_0g f19_0 α x1 x2 x3 k1
def pa40_0 : PT (List DV) := pA [pV true [(dI .i64), (dI .i64), (dI .i64)]]
def Fn40_0 (v : Tf40_0) (α : Type) (k : List RV → Option α) : Int → Int → Int → Option α := fun x1 x2 x3 => v α x1 x2 x3 (fun (y1 : Int) => ur40_0_0 k y1)
noncomputable def cm40_0g  : MCode := (.seq (.region r40_2 [] (some ⟨[1], true, [], []⟩)) (.seq (.seq (.region r40_5 [] (some ⟨[18], true, [], []⟩)) (.cond (.tmp 18) (.seq (.region r40_8 [] (some ⟨[2], true, [], []⟩)) .ret) .skip)) (.seq (.region r40_10 [] (some ⟨[2], true, [], []⟩)) .ret)))
noncomputable def cm40_0 : MCode := cm40_0g 
theorem gm40_0 : cm40_0.Good Try.prog E40_0 sh40 := ⟨trivial, ⟨⟨trivial, ⟨⟨trivial, trivial⟩, trivial⟩⟩, ⟨trivial, trivial⟩⟩⟩
theorem fm40_0g (vf19_0 : Tf19_0)  (α : Type) (k : List RV → Option α) : Fn40_0 (f40_0g vf19_0) α k = pa40_0.unc fun ds => fnM Try.prog (E40_0g vf19_0) sh40 (cm40_0g ) rs40 k ds := by kernel_rfl
theorem fm40_0 : ∀ (α : Type) (k : List RV → Option α), Fn40_0 f40_0 α k = pa40_0.unc fun ds => fnM Try.prog E40_0 sh40 cm40_0 rs40 k ds := fm40_0g f19_0

theorem is40 : FnIs Try.prog 40 nt40 tr40 tl40 cm40_0.erase rs40 := ⟨Try.f40, Try.func40, rfl, by kernel_rfl, by kernel_rfl, by kernel_rfl⟩
theorem io40_0 : InstOk Try.prog 40 nt40 ⟨pa40_0, Fn40_0 f40_0⟩ := inst_ok eo40_0 followsTry is40 ⟨⟨sh40, cm40_0, by kernel_rfl, gm40_0, fm40_0⟩⟩

/-! ### F98 etalon/grow.quarterErr -/
abbrev nt98 : Nat := 19
def sh98 : List (Nat × List Sh) := [(4, [.int .i64]), (9, [.int .i64]), (15, [.int .i64])]
def r98_2 : List AOper := [⟨(some 1), (.box (.tmp 0)), none⟩, ⟨(some 2), (.mv (.const (.int .i64 0))), none⟩]
def r98_5 : List AOper := [⟨(some 3), (.faddr 0 (.tmp 1)), none⟩, ⟨(some 4), (.load false 1 (.tmp 3)), none⟩, ⟨(some 5), (.call 78 [(.tmp 4), (.const (.int .i64 5000)), (.const (.int .i64 80000))]), none⟩, ⟨(some 6), (.pure (oB (.unOp .not 4 (.tmp 5)) 4)), none⟩, ⟨(some 7), (.mv (.tmp 6)), none⟩, ⟨(some 8), (.faddr 1 (.tmp 1)), (some (7, false))⟩, ⟨(some 9), (.load false 1 (.tmp 8)), (some (7, false))⟩, ⟨(some 10), (.call 78 [(.tmp 9), (.const (.int .i64 1000)), (.const (.int .i64 200000))]), (some (7, false))⟩, ⟨(some 11), (.pure (oB (.unOp .not 4 (.tmp 10)) 4)), (some (7, false))⟩, ⟨(some 12), (.pick (.tmp 7) (.const (.bool true)) (.tmp 11)), none⟩, ⟨(some 13), (.mv (.tmp 12)), none⟩, ⟨(some 14), (.faddr 2 (.tmp 1)), (some (13, false))⟩, ⟨(some 15), (.load false 1 (.tmp 14)), (some (13, false))⟩, ⟨(some 16), (.call 78 [(.tmp 15), (.const (.int .i64 1)), (.const (.int .i64 200))]), (some (13, false))⟩, ⟨(some 17), (.pure (oB (.unOp .not 4 (.tmp 16)) 4)), (some (13, false))⟩, ⟨(some 18), (.pick (.tmp 13) (.const (.bool true)) (.tmp 17)), none⟩]
def r98_8 : List AOper := [⟨(some 2), (.mv (.const (.int .i64 2))), none⟩]
def r98_10 : List AOper := [⟨(some 2), (.mv (.const (.int .i64 0))), none⟩]
def tr98 : List (Nat × Tidy) := [(0, ⟨[1], true, [], []⟩), (1, ⟨[18], true, [], []⟩), (2, ⟨[2], true, [], []⟩), (3, ⟨[2], true, [], []⟩)]
def tl98 : List (Nat × Tidy) := []
def rs98 : List AResV := [.tmp 2]
def pr98_0_0 : PT (List RV) := pRs [pR false [rD (dI .i64)]]
def ur98_0_0 {β : Type} (g : List RV → β) : Int → β := pr98_0_0.unc g

def E98_0g (vf78_0 : Tf78_0) : EnvK := EnvK.of [⟨78, nt78, [⟨pa78_0, Fn78_0 vf78_0⟩]⟩] noSeq
noncomputable def E98_0 : EnvK := E98_0g f78_0
theorem eo98_0 : E98_0.Ok Try.prog := EnvK.of_ok noSeq_ok ⟨⟨io78_0, trivial⟩, trivial⟩

/-- etalon/grow.quarterErr -/
abbrev Tf98_0 : Type 1 := (α : Type) → Int → Int → Int → (Int → Option α) → Option α
def f98_0g (vf78_0 : Tf78_0) (α : Type) (x1 : Int) (x2 : Int) (x3 : Int) (k1 : Int → Option α) : Option α :=
  vf78_0 α x1 5000 80000
    (fun (x4 : Bool) => cK (!x4)
      (k1 2)
      (vf78_0 α x2 1000 200000
        (fun (x5 : Bool) => cK (!x5)
          (k1 2)
          (vf78_0 α x3 1 200
            (fun (x6 : Bool) => cK (!x6)
              (k1 2)
              (k1 0))))))
noncomputable def f98_0 (α : Type) (x1 : Int) (x2 : Int) (x3 : Int) (k1 : Int → Option α) : Option α := f98_0g f78_0 α x1 x2 x3 k1
def pa98_0 : PT (List DV) := pA [pV true [(dI .i64), (dI .i64), (dI .i64)]]
def Fn98_0 (v : Tf98_0) (α : Type) (k : List RV → Option α) : Int → Int → Int → Option α := fun x1 x2 x3 => v α x1 x2 x3 (fun (y1 : Int) => ur98_0_0 k y1)
noncomputable def cm98_0g  : MCode := (.seq (.region r98_2 [] (some ⟨[1], true, [], []⟩)) (.seq (.seq (.region r98_5 [] (some ⟨[18], true, [], []⟩)) (.cond (.tmp 18) (.seq (.region r98_8 [] (some ⟨[2], true, [], []⟩)) .ret) .skip)) (.seq (.region r98_10 [] (some ⟨[2], true, [], []⟩)) .ret)))
noncomputable def cm98_0 : MCode := cm98_0g 
theorem gm98_0 : cm98_0.Good Try.prog E98_0 sh98 := ⟨trivial, ⟨⟨trivial, ⟨⟨trivial, trivial⟩, trivial⟩⟩, ⟨trivial, trivial⟩⟩⟩
theorem fm98_0g (vf78_0 : Tf78_0)  (α : Type) (k : List RV → Option α) : Fn98_0 (f98_0g vf78_0) α k = pa98_0.unc fun ds => fnM Try.prog (E98_0g vf78_0) sh98 (cm98_0g ) rs98 k ds := by kernel_rfl
theorem fm98_0 : ∀ (α : Type) (k : List RV → Option α), Fn98_0 f98_0 α k = pa98_0.unc fun ds => fnM Try.prog E98_0 sh98 cm98_0 rs98 k ds := fm98_0g f78_0

theorem is98 : FnIs Try.prog 98 nt98 tr98 tl98 cm98_0.erase rs98 := ⟨Try.f98, Try.func98, rfl, by kernel_rfl, by kernel_rfl, by kernel_rfl⟩
theorem io98_0 : InstOk Try.prog 98 nt98 ⟨pa98_0, Fn98_0 f98_0⟩ := inst_ok eo98_0 followsTry is98 ⟨⟨sh98, cm98_0, by kernel_rfl, gm98_0, fm98_0⟩⟩

/-! ### F95 etalon/etalonbase.Ceil -/
abbrev nt95 : Nat := 10
def sh95 : List (Nat × List Sh) := []
def r95_2 : List AOper := [⟨(some 4), (.mv (.const (.int .i64 0))), none⟩]
def r95_4 : List AOper := [⟨(some 5), (.mv (.tmp 0)), none⟩, ⟨(some 6), (.pure (oB (.unOp .neg 3 (.tmp 5)) 3)), none⟩, ⟨(some 7), (.mv (.tmp 1)), none⟩, ⟨(some 8), (.call 94 [(.tmp 6), (.tmp 7)]), none⟩, ⟨(some 9), (.pure (oB (.unOp .neg 3 (.tmp 8)) 3)), none⟩, ⟨(some 4), (.mv (.tmp 9)), none⟩]
def tr95 : List (Nat × Tidy) := [(0, ⟨[0, 1], true, [], []⟩), (1, ⟨[4], true, [], []⟩)]
def tl95 : List (Nat × Tidy) := []
def rs95 : List AResV := [.tmp 4]
def pr95_0_0 : PT (List RV) := pRs [pR false [rD (dI .i64)]]
def ur95_0_0 {β : Type} (g : List RV → β) : Int → β := pr95_0_0.unc g

def E95_0g (vf94_0 : Tf94_0) : EnvK := EnvK.of [⟨94, nt94, [⟨pa94_0, Fn94_0 vf94_0⟩]⟩] noSeq
noncomputable def E95_0 : EnvK := E95_0g f94_0
theorem eo95_0 : E95_0.Ok Try.prog := EnvK.of_ok noSeq_ok ⟨⟨io94_0, trivial⟩, trivial⟩

/-- etalon/etalonbase.Ceil -/
abbrev Tf95_0 : Type 1 := (α : Type) → Int → Int → (Int → Option α) → Option α
def f95_0g (vf94_0 : Tf94_0) (α : Type) (x1 : Int) (x2 : Int) (k1 : Int → Option α) : Option α :=
  vf94_0 α (w64 (0 - x1)) x2
    (fun (x3 : Int) => k1 (w64 (0 - x3)))
noncomputable def f95_0 (α : Type) (x1 : Int) (x2 : Int) (k1 : Int → Option α) : Option α := f95_0g f94_0 α x1 x2 k1
def pa95_0 : PT (List DV) := pA [pV false [(dI .i64)], pV false [(dI .i64)]]
def Fn95_0 (v : Tf95_0) (α : Type) (k : List RV → Option α) : Int → Int → Option α := fun x1 x2 => v α x1 x2 (fun (y1 : Int) => ur95_0_0 k y1)
noncomputable def cm95_0g  : MCode := (.seq (.region r95_2 [] (some ⟨[0, 1], true, [], []⟩)) (.seq (.region r95_4 [] (some ⟨[4], true, [], []⟩)) .ret))
noncomputable def cm95_0 : MCode := cm95_0g 
theorem gm95_0 : cm95_0.Good Try.prog E95_0 sh95 := ⟨trivial, ⟨trivial, trivial⟩⟩
theorem fm95_0g (vf94_0 : Tf94_0)  (α : Type) (k : List RV → Option α) : Fn95_0 (f95_0g vf94_0) α k = pa95_0.unc fun ds => fnM Try.prog (E95_0g vf94_0) sh95 (cm95_0g ) rs95 k ds := by kernel_rfl
theorem fm95_0 : ∀ (α : Type) (k : List RV → Option α), Fn95_0 f95_0 α k = pa95_0.unc fun ds => fnM Try.prog E95_0 sh95 cm95_0 rs95 k ds := fm95_0g f94_0

theorem is95 : FnIs Try.prog 95 nt95 tr95 tl95 cm95_0.erase rs95 := ⟨Try.f95, Try.func95, rfl, by kernel_rfl, by kernel_rfl, by kernel_rfl⟩
theorem io95_0 : InstOk Try.prog 95 nt95 ⟨pa95_0, Fn95_0 f95_0⟩ := inst_ok eo95_0 followsTry is95 ⟨⟨sh95, cm95_0, by kernel_rfl, gm95_0, fm95_0⟩⟩

/-! ### F93 etalon/etalonref08.rangeErr -/
abbrev nt93 : Nat := 26
def sh93 : List (Nat × List Sh) := [(8, [.int .i64]), (15, [.int .i64]), (22, [.int .i64]), (24, [.int .i64])]
def r93_2 : List AOper := [⟨(some 3), (.box (.tmp 0)), none⟩, ⟨(some 6), (.mv (.const (.int .i64 0))), none⟩]
def r93_5 : List AOper := [⟨(some 7), (.faddr 0 (.tmp 3)), none⟩, ⟨(some 8), (.load false 1 (.tmp 7)), none⟩, ⟨(some 9), (.mv (.tmp 1)), none⟩, ⟨(some 10), (.mv (.tmp 2)), none⟩, ⟨(some 11), (.call 19 [(.tmp 8), (.tmp 9), (.tmp 10)]), none⟩, ⟨(some 12), (.pure (oB (.unOp .not 4 (.tmp 11)) 4)), none⟩, ⟨(some 13), (.mv (.tmp 12)), none⟩, ⟨(some 14), (.faddr 1 (.tmp 3)), (some (13, false))⟩, ⟨(some 15), (.load false 1 (.tmp 14)), (some (13, false))⟩, ⟨(some 16), (.mv (.tmp 1)), (some (13, false))⟩, ⟨(some 17), (.mv (.tmp 2)), (some (13, false))⟩, ⟨(some 18), (.call 19 [(.tmp 15), (.tmp 16), (.tmp 17)]), (some (13, false))⟩, ⟨(some 19), (.pure (oB (.unOp .not 4 (.tmp 18)) 4)), (some (13, false))⟩, ⟨(some 20), (.pick (.tmp 13) (.const (.bool true)) (.tmp 19)), none⟩]
def r93_8 : List AOper := [⟨(some 6), (.mv (.const (.int .i64 2))), none⟩]
def r93_11 : List AOper := [⟨(some 21), (.faddr 0 (.tmp 3)), none⟩, ⟨(some 22), (.load false 1 (.tmp 21)), none⟩, ⟨(some 23), (.faddr 1 (.tmp 3)), none⟩, ⟨(some 24), (.load false 1 (.tmp 23)), none⟩, ⟨(some 25), (.bin .gtr 3 (.tmp 22) (.tmp 24)), none⟩]
def r93_14 : List AOper := [⟨(some 6), (.mv (.const (.int .i64 10))), none⟩]
def r93_16 : List AOper := [⟨(some 6), (.mv (.const (.int .i64 0))), none⟩]
def tr93 : List (Nat × Tidy) := [(0, ⟨[1, 2, 3], true, [], []⟩), (1, ⟨[3, 20], true, [], []⟩), (2, ⟨[6], true, [], []⟩), (3, ⟨[25], true, [], []⟩), (4, ⟨[6], true, [], []⟩), (5, ⟨[6], true, [], []⟩)]
def tl93 : List (Nat × Tidy) := []
def rs93 : List AResV := [.tmp 6]
def pr93_0_0 : PT (List RV) := pRs [pR false [rD (dI .i64)]]
def ur93_0_0 {β : Type} (g : List RV → β) : Int → β := pr93_0_0.unc g

def E93_0g (vf19_0 : Tf19_0) : EnvK := EnvK.of [⟨19, nt19, [⟨pa19_0, Fn19_0 vf19_0⟩]⟩] noSeq
noncomputable def E93_0 : EnvK := E93_0g f19_0
theorem eo93_0 : E93_0.Ok Try.prog := EnvK.of_ok noSeq_ok ⟨⟨io19_0, trivial⟩, trivial⟩

/-- etalon/etalonref08.rangeErr -/
abbrev Tf93_0 : Type 1 := (α : Type) → Int → Int → Int → Int → (Int → Option α) → Option α
def f93_0g (vf19_0 : Tf19_0) (α : Type) (x1 : Int) (x2 : Int) (x3 : Int) (x4 : Int) (k1 : Int → Option α) : Option α :=
  vf19_0 α x1 x3 x4
    (fun (x5 : Bool) => cK (!x5)
      (k1 2)
      (vf19_0 α x2 x3 x4
        (fun (x6 : Bool) => cK (!x6)
          (k1 2)
          (cK (decide (x2 < x1))
            (k1 10)
            (k1 0)))))
noncomputable def f93_0 (α : Type) (x1 : Int) (x2 : Int) (x3 : Int) (x4 : Int) (k1 : Int → Option α) : Option α := f93_0g f19_0 α x1 x2 x3 x4 k1
def pa93_0 : PT (List DV) := pA [pV true [(dI .i64), (dI .i64)], pV false [(dI .i64)], pV false [(dI .i64)]]
def Fn93_0 (v : Tf93_0) (α : Type) (k : List RV → Option α) : Int → Int → Int → Int → Option α := fun x1 x2 x3 x4 => v α x1 x2 x3 x4 (fun (y1 : Int) => ur93_0_0 k y1)
noncomputable def cm93_0g  : MCode := (.seq (.region r93_2 [] (some ⟨[1, 2, 3], true, [], []⟩)) (.seq (.seq (.region r93_5 [] (some ⟨[3, 20], true, [], []⟩)) (.cond (.tmp 20) (.seq (.region r93_8 [] (some ⟨[6], true, [], []⟩)) .ret) .skip)) (.seq (.seq (.region r93_11 [] (some ⟨[25], true, [], []⟩)) (.cond (.tmp 25) (.seq (.region r93_14 [] (some ⟨[6], true, [], []⟩)) .ret) .skip)) (.seq (.region r93_16 [] (some ⟨[6], true, [], []⟩)) .ret))))
noncomputable def cm93_0 : MCode := cm93_0g 
theorem gm93_0 : cm93_0.Good Try.prog E93_0 sh93 := ⟨trivial, ⟨⟨trivial, ⟨⟨trivial, trivial⟩, trivial⟩⟩, ⟨⟨trivial, ⟨⟨trivial, trivial⟩, trivial⟩⟩, ⟨trivial, trivial⟩⟩⟩⟩
theorem fm93_0g (vf19_0 : Tf19_0)  (α : Type) (k : List RV → Option α) : Fn93_0 (f93_0g vf19_0) α k = pa93_0.unc fun ds => fnM Try.prog (E93_0g vf19_0) sh93 (cm93_0g ) rs93 k ds := by kernel_rfl
theorem fm93_0 : ∀ (α : Type) (k : List RV → Option α), Fn93_0 f93_0 α k = pa93_0.unc fun ds => fnM Try.prog E93_0 sh93 cm93_0 rs93 k ds := fm93_0g f19_0

theorem is93 : FnIs Try.prog 93 nt93 tr93 tl93 cm93_0.erase rs93 := ⟨Try.f93, Try.func93, rfl, by kernel_rfl, by kernel_rfl, by kernel_rfl⟩
theorem io93_0 : InstOk Try.prog 93 nt93 ⟨pa93_0, Fn93_0 f93_0⟩ := inst_ok eo93_0 followsTry is93 ⟨⟨sh93, cm93_0, by kernel_rfl, gm93_0, fm93_0⟩⟩

/-! ### F132 etalon/grow.inside -/
abbrev nt132 : Nat := 19
def sh132 : List (Nat × List Sh) := [(8, [.int .i64]), (14, [.int .i64])]
def r132_2 : List AOper := [⟨(some 3), (.box (.tmp 0)), none⟩, ⟨(some 6), (.mv (.const (.bool false))), none⟩]
def r132_4 : List AOper := [⟨(some 7), (.faddr 0 (.tmp 3)), none⟩, ⟨(some 8), (.load false 1 (.tmp 7)), none⟩, ⟨(some 9), (.mv (.tmp 1)), none⟩, ⟨(some 10), (.mv (.tmp 2)), none⟩, ⟨(some 11), (.call 78 [(.tmp 8), (.tmp 9), (.tmp 10)]), none⟩, ⟨(some 12), (.mv (.tmp 11)), none⟩, ⟨(some 13), (.faddr 1 (.tmp 3)), (some (12, true))⟩, ⟨(some 14), (.load false 1 (.tmp 13)), (some (12, true))⟩, ⟨(some 15), (.mv (.tmp 1)), (some (12, true))⟩, ⟨(some 16), (.mv (.tmp 2)), (some (12, true))⟩, ⟨(some 17), (.call 78 [(.tmp 14), (.tmp 15), (.tmp 16)]), (some (12, true))⟩, ⟨(some 18), (.pick (.tmp 12) (.tmp 17) (.const (.bool false))), none⟩, ⟨(some 6), (.mv (.tmp 18)), none⟩]
def tr132 : List (Nat × Tidy) := [(0, ⟨[1, 2, 3], true, [], []⟩), (1, ⟨[6], true, [], []⟩)]
def tl132 : List (Nat × Tidy) := []
def rs132 : List AResV := [.tmp 6]
def pr132_0_0 : PT (List RV) := pRs [pR false [rD dB]]
def ur132_0_0 {β : Type} (g : List RV → β) : Bool → β := pr132_0_0.unc g

def E132_0g (vf78_0 : Tf78_0) : EnvK := EnvK.of [⟨78, nt78, [⟨pa78_0, Fn78_0 vf78_0⟩]⟩] noSeq
noncomputable def E132_0 : EnvK := E132_0g f78_0
theorem eo132_0 : E132_0.Ok Try.prog := EnvK.of_ok noSeq_ok ⟨⟨io78_0, trivial⟩, trivial⟩

/-- etalon/grow.inside -/
abbrev Tf132_0 : Type 1 := (α : Type) → Int → Int → Int → Int → (Bool → Option α) → Option α
def f132_0g (vf78_0 : Tf78_0) (α : Type) (x1 : Int) (x2 : Int) (x3 : Int) (x4 : Int) (k1 : Bool → Option α) : Option α :=
  vf78_0 α x1 x3 x4
    (fun (x5 : Bool) => cK x5
      (vf78_0 α x2 x3 x4
        (fun (x6 : Bool) => k1 x6))
      (k1 false))
noncomputable def f132_0 (α : Type) (x1 : Int) (x2 : Int) (x3 : Int) (x4 : Int) (k1 : Bool → Option α) : Option α := f132_0g f78_0 α x1 x2 x3 x4 k1
def pa132_0 : PT (List DV) := pA [pV true [(dI .i64), (dI .i64)], pV false [(dI .i64)], pV false [(dI .i64)]]
def Fn132_0 (v : Tf132_0) (α : Type) (k : List RV → Option α) : Int → Int → Int → Int → Option α := fun x1 x2 x3 x4 => v α x1 x2 x3 x4 (fun (y1 : Bool) => ur132_0_0 k y1)
noncomputable def cm132_0g  : MCode := (.seq (.region r132_2 [] (some ⟨[1, 2, 3], true, [], []⟩)) (.seq (.region r132_4 [] (some ⟨[6], true, [], []⟩)) .ret))
noncomputable def cm132_0 : MCode := cm132_0g 
theorem gm132_0 : cm132_0.Good Try.prog E132_0 sh132 := ⟨trivial, ⟨trivial, trivial⟩⟩
theorem fm132_0g (vf78_0 : Tf78_0)  (α : Type) (k : List RV → Option α) : Fn132_0 (f132_0g vf78_0) α k = pa132_0.unc fun ds => fnM Try.prog (E132_0g vf78_0) sh132 (cm132_0g ) rs132 k ds := by kernel_rfl
theorem fm132_0 : ∀ (α : Type) (k : List RV → Option α), Fn132_0 f132_0 α k = pa132_0.unc fun ds => fnM Try.prog E132_0 sh132 cm132_0 rs132 k ds := fm132_0g f78_0

theorem is132 : FnIs Try.prog 132 nt132 tr132 tl132 cm132_0.erase rs132 := ⟨Try.f132, Try.func132, rfl, by kernel_rfl, by kernel_rfl, by kernel_rfl⟩
theorem io132_0 : InstOk Try.prog 132 nt132 ⟨pa132_0, Fn132_0 f132_0⟩ := inst_ok eo132_0 followsTry is132 ⟨⟨sh132, cm132_0, by kernel_rfl, gm132_0, fm132_0⟩⟩

/-! ### F42 etalon/etalonref08.RateOf -/
abbrev nt42 : Nat := 30
def sh42 : List (Nat × List Sh) := [(8, [.int .i64]), (11, [.int .i64]), (15, [.int .i64]), (20, [.int .i64]), (26, [.int .i64])]
def r42_2 : List AOper := [⟨(some 2), (.box (.tmp 0)), none⟩, ⟨(some 3), (.box (.tmp 1)), none⟩, ⟨(some 4), (.alloc [(.d (.v (.int .i64 0))), (.d (.v (.int .i64 0)))]), none⟩]
def r42_4 : List AOper := [⟨(some 7), (.faddr 2 (.tmp 2)), none⟩, ⟨(some 8), (.load false 1 (.tmp 7)), none⟩, ⟨(some 9), (.bin .mul 3 (.const (.int .i64 1000)) (.tmp 8)), none⟩, ⟨(some 10), (.faddr 1 (.tmp 2)), none⟩, ⟨(some 11), (.load false 1 (.tmp 10)), none⟩, ⟨(some 12), (.bin .mul 3 (.tmp 9) (.tmp 11)), none⟩, ⟨(some 13), (.bin .mul 3 (.tmp 12) (.const (.int .i64 10000))), none⟩, ⟨(some 14), (.faddr 0 (.tmp 2)), none⟩, ⟨(some 15), (.load false 1 (.tmp 14)), none⟩, ⟨(some 16), (.bin .mul 3 (.const (.int .i64 4)) (.tmp 15)), none⟩, ⟨(some 5), (.mv (.tmp 13)), none⟩, ⟨(some 6), (.mv (.tmp 16)), none⟩]
def r42_6 : List AOper := [⟨(some 17), (.mv (.tmp 5)), none⟩, ⟨(some 18), (.mv (.tmp 6)), none⟩, ⟨(some 19), (.faddr 1 (.tmp 3)), none⟩, ⟨(some 20), (.load false 1 (.tmp 19)), none⟩, ⟨(some 21), (.bin .mul 3 (.tmp 18) (.tmp 20)), none⟩, ⟨(some 22), (.call 94 [(.tmp 17), (.tmp 21)]), none⟩, ⟨(some 23), (.mv (.tmp 5)), none⟩, ⟨(some 24), (.mv (.tmp 6)), none⟩, ⟨(some 25), (.faddr 0 (.tmp 3)), none⟩, ⟨(some 26), (.load false 1 (.tmp 25)), none⟩, ⟨(some 27), (.bin .mul 3 (.tmp 24) (.tmp 26)), none⟩, ⟨(some 28), (.call 95 [(.tmp 23), (.tmp 27)]), none⟩, ⟨(some 29), (.build [(.d (.v (.int .i64 0))), (.d (.v (.int .i64 0)))] [(0, 1, (.tmp 22)), (1, 1, (.tmp 28))]), none⟩, ⟨none, (.store 2 (.tmp 4) (.tmp 29)), none⟩]
def tr42 : List (Nat × Tidy) := [(0, ⟨[2, 3, 4], true, [], []⟩), (1, ⟨[3, 4, 5, 6], true, [], []⟩), (2, ⟨[4], true, [], []⟩)]
def tl42 : List (Nat × Tidy) := []
def rs42 : List AResV := [.cell 4 true 2]
def pr42_0_0 : PT (List RV) := pRs [pR true [rD (dI .i64), rD (dI .i64)]]
def ur42_0_0 {β : Type} (g : List RV → β) : Int → Int → β := pr42_0_0.unc g

def E42_0g (vf94_0 : Tf94_0) (vf95_0 : Tf95_0) : EnvK := EnvK.of [⟨94, nt94, [⟨pa94_0, Fn94_0 vf94_0⟩]⟩, ⟨95, nt95, [⟨pa95_0, Fn95_0 vf95_0⟩]⟩] noSeq
noncomputable def E42_0 : EnvK := E42_0g f94_0 f95_0
theorem eo42_0 : E42_0.Ok Try.prog := EnvK.of_ok noSeq_ok ⟨⟨io94_0, trivial⟩, ⟨io95_0, trivial⟩, trivial⟩

/-- etalon/etalonref08.RateOf -/
abbrev Tf42_0 : Type 1 := (α : Type) → Int → Int → Int → Int → Int → (Int → Int → Option α) → Option α
def f42_0g (vf94_0 : Tf94_0) (vf95_0 : Tf95_0) (α : Type) (x1 : Int) (x2 : Int) (x3 : Int) (x4 : Int) (x5 : Int) (k1 : Int → Int → Option α) : Option α :=
  vf94_0 α (w64 ((w64 ((w64 (1000 * x3)) * x2)) * 10000)) (w64 ((w64 (4 * x1)) * x5))
    (fun (x6 : Int) => vf95_0 α (w64 ((w64 ((w64 (1000 * x3)) * x2)) * 10000)) (w64 ((w64 (4 * x1)) * x4))
      (fun (x7 : Int) => k1 x6 x7))
noncomputable def f42_0 (α : Type) (x1 : Int) (x2 : Int) (x3 : Int) (x4 : Int) (x5 : Int) (k1 : Int → Int → Option α) : Option α := f42_0g f94_0 f95_0 α x1 x2 x3 x4 x5 k1
def pa42_0 : PT (List DV) := pA [pV true [(dI .i64), (dI .i64), (dI .i64)], pV true [(dI .i64), (dI .i64)]]
def Fn42_0 (v : Tf42_0) (α : Type) (k : List RV → Option α) : Int → Int → Int → Int → Int → Option α := fun x1 x2 x3 x4 x5 => v α x1 x2 x3 x4 x5 (fun (y1 : Int) (y2 : Int) => ur42_0_0 k y1 y2)
noncomputable def cm42_0g  : MCode := (.seq (.region r42_2 [] (some ⟨[2, 3, 4], true, [], []⟩)) (.seq (.region r42_4 [] (some ⟨[3, 4, 5, 6], true, [], []⟩)) (.seq (.region r42_6 [(5, 9)] (some ⟨[4], true, [], []⟩)) .ret)))
noncomputable def cm42_0 : MCode := cm42_0g 
theorem gm42_0 : cm42_0.Good Try.prog E42_0 sh42 := ⟨trivial, ⟨trivial, ⟨trivial, trivial⟩⟩⟩
theorem fm42_0g (vf94_0 : Tf94_0) (vf95_0 : Tf95_0)  (α : Type) (k : List RV → Option α) : Fn42_0 (f42_0g vf94_0 vf95_0) α k = pa42_0.unc fun ds => fnM Try.prog (E42_0g vf94_0 vf95_0) sh42 (cm42_0g ) rs42 k ds := by kernel_rfl
theorem fm42_0 : ∀ (α : Type) (k : List RV → Option α), Fn42_0 f42_0 α k = pa42_0.unc fun ds => fnM Try.prog E42_0 sh42 cm42_0 rs42 k ds := fm42_0g f94_0 f95_0

theorem is42 : FnIs Try.prog 42 nt42 tr42 tl42 cm42_0.erase rs42 := ⟨Try.f42, Try.func42, rfl, by kernel_rfl, by kernel_rfl, by kernel_rfl⟩
theorem io42_0 : InstOk Try.prog 42 nt42 ⟨pa42_0, Fn42_0 f42_0⟩ := inst_ok eo42_0 followsTry is42 ⟨⟨sh42, cm42_0, by kernel_rfl, gm42_0, fm42_0⟩⟩

/-! ### F43 etalon/etalonref08.EndAt -/
abbrev nt43 : Nat := 44
def sh43 : List (Nat × List Sh) := [(10, [.int .i64]), (13, [.int .i64]), (17, [.int .i64]), (22, [.int .i64]), (25, [.int .i64]), (34, [.int .i64]), (37, [.int .i64])]
def r43_2 : List AOper := [⟨(some 3), (.box (.tmp 0)), none⟩, ⟨(some 4), (.box (.tmp 1)), none⟩, ⟨(some 5), (.box (.tmp 2)), none⟩, ⟨(some 6), (.alloc [(.d (.v (.int .i64 0))), (.d (.v (.int .i64 0)))]), none⟩]
def r43_4 : List AOper := [⟨(some 9), (.faddr 2 (.tmp 3)), none⟩, ⟨(some 10), (.load false 1 (.tmp 9)), none⟩, ⟨(some 11), (.bin .mul 3 (.const (.int .i64 1000)) (.tmp 10)), none⟩, ⟨(some 12), (.faddr 1 (.tmp 3)), none⟩, ⟨(some 13), (.load false 1 (.tmp 12)), none⟩, ⟨(some 14), (.bin .mul 3 (.tmp 11) (.tmp 13)), none⟩, ⟨(some 15), (.bin .mul 3 (.tmp 14) (.const (.int .i64 10000))), none⟩, ⟨(some 16), (.faddr 0 (.tmp 3)), none⟩, ⟨(some 17), (.load false 1 (.tmp 16)), none⟩, ⟨(some 18), (.bin .mul 3 (.const (.int .i64 4)) (.tmp 17)), none⟩, ⟨(some 7), (.mv (.tmp 15)), none⟩, ⟨(some 8), (.mv (.tmp 18)), none⟩]
def r43_6 : List AOper := [⟨(some 19), (.mv (.tmp 7)), none⟩, ⟨(some 20), (.mv (.tmp 8)), none⟩, ⟨(some 21), (.faddr 0 (.tmp 4)), none⟩, ⟨(some 22), (.load false 1 (.tmp 21)), none⟩, ⟨(some 23), (.bin .mul 3 (.tmp 20) (.tmp 22)), none⟩, ⟨(some 24), (.faddr 0 (.tmp 5)), none⟩, ⟨(some 25), (.load false 1 (.tmp 24)), none⟩, ⟨(some 26), (.bin .mul 3 (.tmp 23) (.tmp 25)), none⟩, ⟨(some 27), (.bin .add 3 (.tmp 19) (.tmp 26)), none⟩, ⟨(some 28), (.mv (.tmp 8)), none⟩, ⟨(some 29), (.bin .mul 3 (.const (.int .i64 1000)) (.tmp 28)), none⟩, ⟨(some 30), (.call 94 [(.tmp 27), (.tmp 29)]), none⟩, ⟨(some 31), (.mv (.tmp 7)), none⟩, ⟨(some 32), (.mv (.tmp 8)), none⟩, ⟨(some 33), (.faddr 1 (.tmp 4)), none⟩, ⟨(some 34), (.load false 1 (.tmp 33)), none⟩, ⟨(some 35), (.bin .mul 3 (.tmp 32) (.tmp 34)), none⟩, ⟨(some 36), (.faddr 1 (.tmp 5)), none⟩, ⟨(some 37), (.load false 1 (.tmp 36)), none⟩, ⟨(some 38), (.bin .mul 3 (.tmp 35) (.tmp 37)), none⟩, ⟨(some 39), (.bin .add 3 (.tmp 31) (.tmp 38)), none⟩, ⟨(some 40), (.mv (.tmp 8)), none⟩, ⟨(some 41), (.bin .mul 3 (.const (.int .i64 1000)) (.tmp 40)), none⟩, ⟨(some 42), (.call 95 [(.tmp 39), (.tmp 41)]), none⟩, ⟨(some 43), (.build [(.d (.v (.int .i64 0))), (.d (.v (.int .i64 0)))] [(0, 1, (.tmp 30)), (1, 1, (.tmp 42))]), none⟩, ⟨none, (.store 2 (.tmp 6) (.tmp 43)), none⟩]
def tr43 : List (Nat × Tidy) := [(0, ⟨[3, 4, 5, 6], true, [], []⟩), (1, ⟨[4, 5, 6, 7, 8], true, [], []⟩), (2, ⟨[6], true, [], []⟩)]
def tl43 : List (Nat × Tidy) := []
def rs43 : List AResV := [.cell 6 true 2]
def pr43_0_0 : PT (List RV) := pRs [pR true [rD (dI .i64), rD (dI .i64)]]
def ur43_0_0 {β : Type} (g : List RV → β) : Int → Int → β := pr43_0_0.unc g

def E43_0g (vf94_0 : Tf94_0) (vf95_0 : Tf95_0) : EnvK := EnvK.of [⟨94, nt94, [⟨pa94_0, Fn94_0 vf94_0⟩]⟩, ⟨95, nt95, [⟨pa95_0, Fn95_0 vf95_0⟩]⟩] noSeq
noncomputable def E43_0 : EnvK := E43_0g f94_0 f95_0
theorem eo43_0 : E43_0.Ok Try.prog := EnvK.of_ok noSeq_ok ⟨⟨io94_0, trivial⟩, ⟨io95_0, trivial⟩, trivial⟩

/-- etalon/etalonref08.EndAt -/
abbrev Tf43_0 : Type 1 := (α : Type) → Int → Int → Int → Int → Int → Int → Int → (Int → Int → Option α) → Option α
def f43_0g (vf94_0 : Tf94_0) (vf95_0 : Tf95_0) (α : Type) (x1 : Int) (x2 : Int) (x3 : Int) (x4 : Int) (x5 : Int) (x6 : Int) (x7 : Int) (k1 : Int → Int → Option α) : Option α :=
  vf94_0 α (w64 ((w64 ((w64 ((w64 (1000 * x3)) * x2)) * 10000)) + (w64 ((w64 ((w64 (4 * x1)) * x4)) * x6)))) (w64 (1000 * (w64 (4 * x1))))
    (fun (x8 : Int) => vf95_0 α (w64 ((w64 ((w64 ((w64 (1000 * x3)) * x2)) * 10000)) + (w64 ((w64 ((w64 (4 * x1)) * x5)) * x7)))) (w64 (1000 * (w64 (4 * x1))))
      (fun (x9 : Int) => k1 x8 x9))
noncomputable def f43_0 (α : Type) (x1 : Int) (x2 : Int) (x3 : Int) (x4 : Int) (x5 : Int) (x6 : Int) (x7 : Int) (k1 : Int → Int → Option α) : Option α := f43_0g f94_0 f95_0 α x1 x2 x3 x4 x5 x6 x7 k1
def pa43_0 : PT (List DV) := pA [pV true [(dI .i64), (dI .i64), (dI .i64)], pV true [(dI .i64), (dI .i64)], pV true [(dI .i64), (dI .i64)]]
def Fn43_0 (v : Tf43_0) (α : Type) (k : List RV → Option α) : Int → Int → Int → Int → Int → Int → Int → Option α := fun x1 x2 x3 x4 x5 x6 x7 => v α x1 x2 x3 x4 x5 x6 x7 (fun (y1 : Int) (y2 : Int) => ur43_0_0 k y1 y2)
noncomputable def cm43_0g  : MCode := (.seq (.region r43_2 [] (some ⟨[3, 4, 5, 6], true, [], []⟩)) (.seq (.region r43_4 [] (some ⟨[4, 5, 6, 7, 8], true, [], []⟩)) (.seq (.region r43_6 [(11, 15), (11, 18)] (some ⟨[6], true, [], []⟩)) .ret)))
noncomputable def cm43_0 : MCode := cm43_0g 
theorem gm43_0 : cm43_0.Good Try.prog E43_0 sh43 := ⟨trivial, ⟨trivial, ⟨trivial, trivial⟩⟩⟩
theorem fm43_0g (vf94_0 : Tf94_0) (vf95_0 : Tf95_0)  (α : Type) (k : List RV → Option α) : Fn43_0 (f43_0g vf94_0 vf95_0) α k = pa43_0.unc fun ds => fnM Try.prog (E43_0g vf94_0 vf95_0) sh43 (cm43_0g ) rs43 k ds := by kernel_rfl
theorem fm43_0 : ∀ (α : Type) (k : List RV → Option α), Fn43_0 f43_0 α k = pa43_0.unc fun ds => fnM Try.prog E43_0 sh43 cm43_0 rs43 k ds := fm43_0g f94_0 f95_0

theorem is43 : FnIs Try.prog 43 nt43 tr43 tl43 cm43_0.erase rs43 := ⟨Try.f43, Try.func43, rfl, by kernel_rfl, by kernel_rfl, by kernel_rfl⟩
theorem io43_0 : InstOk Try.prog 43 nt43 ⟨pa43_0, Fn43_0 f43_0⟩ := inst_ok eo43_0 followsTry is43 ⟨⟨sh43, cm43_0, by kernel_rfl, gm43_0, fm43_0⟩⟩

/-! ### F41 etalon/etalonref08.QuarterThick -/
abbrev nt41 : Nat := 21
def sh41 : List (Nat × List Sh) := [(6, [.int .i64]), (8, [.int .i64]), (12, [.int .i64])]
def r41_2 : List AOper := [⟨(some 1), (.box (.tmp 0)), none⟩, ⟨(some 2), (.alloc [(.d (.v (.int .i64 0))), (.d (.v (.int .i64 0)))]), none⟩]
def r41_4 : List AOper := [⟨(some 5), (.faddr 2 (.tmp 1)), none⟩, ⟨(some 6), (.load false 1 (.tmp 5)), none⟩, ⟨(some 7), (.faddr 1 (.tmp 1)), none⟩, ⟨(some 8), (.load false 1 (.tmp 7)), none⟩, ⟨(some 9), (.bin .mul 3 (.tmp 6) (.tmp 8)), none⟩, ⟨(some 10), (.bin .mul 3 (.tmp 9) (.const (.int .i64 10000))), none⟩, ⟨(some 11), (.faddr 0 (.tmp 1)), none⟩, ⟨(some 12), (.load false 1 (.tmp 11)), none⟩, ⟨(some 13), (.bin .mul 3 (.const (.int .i64 4)) (.tmp 12)), none⟩, ⟨(some 3), (.mv (.tmp 10)), none⟩, ⟨(some 4), (.mv (.tmp 13)), none⟩]
def r41_6 : List AOper := [⟨(some 14), (.mv (.tmp 3)), none⟩, ⟨(some 15), (.mv (.tmp 4)), none⟩, ⟨(some 16), (.call 94 [(.tmp 14), (.tmp 15)]), none⟩, ⟨(some 17), (.mv (.tmp 3)), none⟩, ⟨(some 18), (.mv (.tmp 4)), none⟩, ⟨(some 19), (.call 95 [(.tmp 17), (.tmp 18)]), none⟩, ⟨(some 20), (.build [(.d (.v (.int .i64 0))), (.d (.v (.int .i64 0)))] [(0, 1, (.tmp 16)), (1, 1, (.tmp 19))]), none⟩, ⟨none, (.store 2 (.tmp 2) (.tmp 20)), none⟩]
def tr41 : List (Nat × Tidy) := [(0, ⟨[1, 2], true, [], []⟩), (1, ⟨[2, 3, 4], true, [], []⟩), (2, ⟨[2], true, [], []⟩)]
def tl41 : List (Nat × Tidy) := []
def rs41 : List AResV := [.cell 2 true 2]
def pr41_0_0 : PT (List RV) := pRs [pR true [rD (dI .i64), rD (dI .i64)]]
def ur41_0_0 {β : Type} (g : List RV → β) : Int → Int → β := pr41_0_0.unc g

def E41_0g (vf94_0 : Tf94_0) (vf95_0 : Tf95_0) : EnvK := EnvK.of [⟨94, nt94, [⟨pa94_0, Fn94_0 vf94_0⟩]⟩, ⟨95, nt95, [⟨pa95_0, Fn95_0 vf95_0⟩]⟩] noSeq
noncomputable def E41_0 : EnvK := E41_0g f94_0 f95_0
theorem eo41_0 : E41_0.Ok Try.prog := EnvK.of_ok noSeq_ok ⟨⟨io94_0, trivial⟩, ⟨io95_0, trivial⟩, trivial⟩

/-- etalon/etalonref08.QuarterThick -/
abbrev Tf41_0 : Type 1 := (α : Type) → Int → Int → Int → (Int → Int → Option α) → Option α
def f41_0g (vf94_0 : Tf94_0) (vf95_0 : Tf95_0) (α : Type) (x1 : Int) (x2 : Int) (x3 : Int) (k1 : Int → Int → Option α) : Option α :=
  vf94_0 α (w64 ((w64 (x3 * x2)) * 10000)) (w64 (4 * x1))
    (fun (x4 : Int) => vf95_0 α (w64 ((w64 (x3 * x2)) * 10000)) (w64 (4 * x1))
      (fun (x5 : Int) => k1 x4 x5))
noncomputable def f41_0 (α : Type) (x1 : Int) (x2 : Int) (x3 : Int) (k1 : Int → Int → Option α) : Option α := f41_0g f94_0 f95_0 α x1 x2 x3 k1
def pa41_0 : PT (List DV) := pA [pV true [(dI .i64), (dI .i64), (dI .i64)]]
def Fn41_0 (v : Tf41_0) (α : Type) (k : List RV → Option α) : Int → Int → Int → Option α := fun x1 x2 x3 => v α x1 x2 x3 (fun (y1 : Int) (y2 : Int) => ur41_0_0 k y1 y2)
noncomputable def cm41_0g  : MCode := (.seq (.region r41_2 [] (some ⟨[1, 2], true, [], []⟩)) (.seq (.region r41_4 [] (some ⟨[2, 3, 4], true, [], []⟩)) (.seq (.region r41_6 [] (some ⟨[2], true, [], []⟩)) .ret)))
noncomputable def cm41_0 : MCode := cm41_0g 
theorem gm41_0 : cm41_0.Good Try.prog E41_0 sh41 := ⟨trivial, ⟨trivial, ⟨trivial, trivial⟩⟩⟩
theorem fm41_0g (vf94_0 : Tf94_0) (vf95_0 : Tf95_0)  (α : Type) (k : List RV → Option α) : Fn41_0 (f41_0g vf94_0 vf95_0) α k = pa41_0.unc fun ds => fnM Try.prog (E41_0g vf94_0 vf95_0) sh41 (cm41_0g ) rs41 k ds := by kernel_rfl
theorem fm41_0 : ∀ (α : Type) (k : List RV → Option α), Fn41_0 f41_0 α k = pa41_0.unc fun ds => fnM Try.prog E41_0 sh41 cm41_0 rs41 k ds := fm41_0g f94_0 f95_0

theorem is41 : FnIs Try.prog 41 nt41 tr41 tl41 cm41_0.erase rs41 := ⟨Try.f41, Try.func41, rfl, by kernel_rfl, by kernel_rfl, by kernel_rfl⟩
theorem io41_0 : InstOk Try.prog 41 nt41 ⟨pa41_0, Fn41_0 f41_0⟩ := inst_ok eo41_0 followsTry is41 ⟨⟨sh41, cm41_0, by kernel_rfl, gm41_0, fm41_0⟩⟩

/-! ### F37 etalon/grow.QuarterThick -/
abbrev nt37 : Nat := 25
def sh37 : List (Nat × List Sh) := [(7, [.int .i64, .int .i64, .int .i64]), (14, [.int .i64, .int .i64, .int .i64])]
def r37_2 : List AOper := [⟨(some 1), (.box (.tmp 0)), none⟩, ⟨(some 2), (.alloc [(.d (.v (.int .i64 0))), (.d (.v (.int .i64 0)))]), none⟩, ⟨(some 3), (.mv (.const (.int .i64 0))), none⟩]
def r37_5 : List AOper := [⟨(some 7), (.load true 3 (.tmp 1)), none⟩, ⟨(some 8), (.call 98 [(.tmp 7)]), none⟩, ⟨(some 4), (.mv (.tmp 8)), none⟩]
def r37_7 : List AOper := [⟨(some 9), (.mv (.tmp 4)), none⟩, ⟨(some 10), (.bin .neq 32 (.tmp 9) (.const (.int .i64 0))), none⟩]
def r37_10 : List AOper := [⟨(some 11), (.build [(.d (.v (.int .i64 0))), (.d (.v (.int .i64 0)))] []), none⟩, ⟨(some 12), (.mv (.tmp 4)), none⟩, ⟨none, (.store 2 (.tmp 2) (.tmp 11)), none⟩, ⟨(some 3), (.mv (.tmp 12)), none⟩]
def r37_12 : List AOper := [⟨(some 14), (.load true 3 (.tmp 1)), none⟩, ⟨(some 15), (.call 99 [(.tmp 14)]), none⟩, ⟨(some 13), (.mv (.tmp 15)), none⟩, ⟨(some 16), (.extract 0 (.tmp 13)), none⟩, ⟨(some 17), (.extract 1 (.tmp 13)), none⟩, ⟨(some 5), (.mv (.tmp 16)), none⟩, ⟨(some 6), (.mv (.tmp 17)), none⟩]
def r37_14 : List AOper := [⟨(some 18), (.mv (.tmp 5)), none⟩, ⟨(some 19), (.mv (.tmp 6)), none⟩, ⟨(some 20), (.call 91 [(.tmp 18), (.tmp 19)]), none⟩, ⟨(some 21), (.mv (.tmp 5)), none⟩, ⟨(some 22), (.mv (.tmp 6)), none⟩, ⟨(some 23), (.call 92 [(.tmp 21), (.tmp 22)]), none⟩, ⟨(some 24), (.build [(.d (.v (.int .i64 0))), (.d (.v (.int .i64 0)))] [(0, 1, (.tmp 20)), (1, 1, (.tmp 23))]), none⟩, ⟨none, (.store 2 (.tmp 2) (.tmp 24)), none⟩, ⟨(some 3), (.mv (.const (.int .i64 0))), none⟩]
def tr37 : List (Nat × Tidy) := [(0, ⟨[1, 2], true, [], []⟩), (1, ⟨[1, 2, 4], true, [], []⟩), (2, ⟨[1, 2, 4, 10], true, [], []⟩), (3, ⟨[2, 3], true, [], []⟩), (4, ⟨[2, 5, 6], true, [], []⟩), (5, ⟨[2, 3], true, [], []⟩)]
def tl37 : List (Nat × Tidy) := []
def rs37 : List AResV := [.cell 2 true 2, .tmp 3]
def pr37_0_0 : PT (List RV) := pRs [pR true [rD (dI .i64), rD (dI .i64)], pR false [rD (dI .i64)]]
def ur37_0_0 {β : Type} (g : List RV → β) : Int → Int → Int → β := pr37_0_0.unc g

def E37_0g (vf98_0 : Tf98_0) (vf99_0 : Tf99_0) (vf91_0 : Tf91_0) (vf92_0 : Tf92_0) : EnvK := EnvK.of [⟨98, nt98, [⟨pa98_0, Fn98_0 vf98_0⟩]⟩, ⟨99, nt99, [⟨pa99_0, Fn99_0 vf99_0⟩]⟩, ⟨91, nt91, [⟨pa91_0, Fn91_0 vf91_0⟩]⟩, ⟨92, nt92, [⟨pa92_0, Fn92_0 vf92_0⟩]⟩] noSeq
noncomputable def E37_0 : EnvK := E37_0g f98_0 f99_0 f91_0 f92_0
theorem eo37_0 : E37_0.Ok Try.prog := EnvK.of_ok noSeq_ok ⟨⟨io98_0, trivial⟩, ⟨io99_0, trivial⟩, ⟨io91_0, trivial⟩, ⟨io92_0, trivial⟩, trivial⟩

/-- etalon/grow.QuarterThick -/
abbrev Tf37_0 : Type 1 := (α : Type) → Int → Int → Int → (Int → Int → Int → Option α) → Option α
def f37_0g (vf91_0 : Tf91_0) (vf92_0 : Tf92_0) (vf98_0 : Tf98_0) (vf99_0 : Tf99_0) (α : Type) (x1 : Int) (x2 : Int) (x3 : Int) (k1 : Int → Int → Int → Option α) : Option α :=
  vf98_0 α x1 x2 x3
    (fun (x4 : Int) => cK (x4 != 0)
      (k1 0 0 x4)
      (vf99_0 α x1 x2 x3
        (fun (x5 : Int) (x6 : Int) => vf91_0 α x5 x6
          (fun (x7 : Int) => vf92_0 α x5 x6
            (fun (x8 : Int) => k1 x7 x8 0)))))
noncomputable def f37_0 (α : Type) (x1 : Int) (x2 : Int) (x3 : Int) (k1 : Int → Int → Int → Option α) : Option α := f37_0g f91_0 f92_0 f98_0 f99_0 α x1 x2 x3 k1
def pa37_0 : PT (List DV) := pA [pV true [(dI .i64), (dI .i64), (dI .i64)]]
def Fn37_0 (v : Tf37_0) (α : Type) (k : List RV → Option α) : Int → Int → Int → Option α := fun x1 x2 x3 => v α x1 x2 x3 (fun (y1 : Int) (y2 : Int) (y3 : Int) => ur37_0_0 k y1 y2 y3)
noncomputable def cm37_0g  : MCode := (.seq (.region r37_2 [] (some ⟨[1, 2], true, [], []⟩)) (.seq (.seq (.region r37_5 [] (some ⟨[1, 2, 4], true, [], []⟩)) (.seq (.region r37_7 [] (some ⟨[1, 2, 4, 10], true, [], []⟩)) (.cond (.tmp 10) (.seq (.region r37_10 [] (some ⟨[2, 3], true, [], []⟩)) .ret) .skip))) (.seq (.region r37_12 [] (some ⟨[2, 5, 6], true, [], []⟩)) (.seq (.region r37_14 [] (some ⟨[2, 3], true, [], []⟩)) .ret))))
noncomputable def cm37_0 : MCode := cm37_0g 
theorem gm37_0 : cm37_0.Good Try.prog E37_0 sh37 := ⟨trivial, ⟨⟨trivial, ⟨trivial, ⟨⟨trivial, trivial⟩, trivial⟩⟩⟩, ⟨trivial, ⟨trivial, trivial⟩⟩⟩⟩
theorem fm37_0g (vf98_0 : Tf98_0) (vf99_0 : Tf99_0) (vf91_0 : Tf91_0) (vf92_0 : Tf92_0)  (α : Type) (k : List RV → Option α) : Fn37_0 (f37_0g vf91_0 vf92_0 vf98_0 vf99_0) α k = pa37_0.unc fun ds => fnM Try.prog (E37_0g vf98_0 vf99_0 vf91_0 vf92_0) sh37 (cm37_0g ) rs37 k ds := by kernel_rfl
theorem fm37_0 : ∀ (α : Type) (k : List RV → Option α), Fn37_0 f37_0 α k = pa37_0.unc fun ds => fnM Try.prog E37_0 sh37 cm37_0 rs37 k ds := fm37_0g f98_0 f99_0 f91_0 f92_0

theorem is37 : FnIs Try.prog 37 nt37 tr37 tl37 cm37_0.erase rs37 := ⟨Try.f37, Try.func37, rfl, by kernel_rfl, by kernel_rfl, by kernel_rfl⟩
theorem io37_0 : InstOk Try.prog 37 nt37 ⟨pa37_0, Fn37_0 f37_0⟩ := inst_ok eo37_0 followsTry is37 ⟨⟨sh37, cm37_0, by kernel_rfl, gm37_0, fm37_0⟩⟩

/-! ### F30 etalon/etalonref08.SecondsFor -/
abbrev nt30 : Nat := 16
def sh30 : List (Nat × List Sh) := [(8, [.int .i64]), (13, [.int .i64])]
def r30_2 : List AOper := [⟨(some 2), (.box (.tmp 0)), none⟩, ⟨(some 4), (.alloc [(.d (.v (.int .i64 0))), (.d (.v (.int .i64 0)))]), none⟩]
def r30_4 : List AOper := [⟨(some 5), (.mv (.tmp 1)), none⟩, ⟨(some 6), (.bin .mul 3 (.const (.int .i64 1000)) (.tmp 5)), none⟩, ⟨(some 7), (.faddr 1 (.tmp 2)), none⟩, ⟨(some 8), (.load false 1 (.tmp 7)), none⟩, ⟨(some 9), (.call 95 [(.tmp 6), (.tmp 8)]), none⟩, ⟨(some 10), (.mv (.tmp 1)), none⟩, ⟨(some 11), (.bin .mul 3 (.const (.int .i64 1000)) (.tmp 10)), none⟩, ⟨(some 12), (.faddr 0 (.tmp 2)), none⟩, ⟨(some 13), (.load false 1 (.tmp 12)), none⟩, ⟨(some 14), (.call 95 [(.tmp 11), (.tmp 13)]), none⟩, ⟨(some 15), (.build [(.d (.v (.int .i64 0))), (.d (.v (.int .i64 0)))] [(0, 1, (.tmp 9)), (1, 1, (.tmp 14))]), none⟩, ⟨none, (.store 2 (.tmp 4) (.tmp 15)), none⟩]
def tr30 : List (Nat × Tidy) := [(0, ⟨[1, 2, 4], true, [], []⟩), (1, ⟨[4], true, [], []⟩)]
def tl30 : List (Nat × Tidy) := []
def rs30 : List AResV := [.cell 4 true 2]
def pr30_0_0 : PT (List RV) := pRs [pR true [rD (dI .i64), rD (dI .i64)]]
def ur30_0_0 {β : Type} (g : List RV → β) : Int → Int → β := pr30_0_0.unc g

def E30_0g (vf95_0 : Tf95_0) : EnvK := EnvK.of [⟨95, nt95, [⟨pa95_0, Fn95_0 vf95_0⟩]⟩] noSeq
noncomputable def E30_0 : EnvK := E30_0g f95_0
theorem eo30_0 : E30_0.Ok Try.prog := EnvK.of_ok noSeq_ok ⟨⟨io95_0, trivial⟩, trivial⟩

/-- etalon/etalonref08.SecondsFor -/
abbrev Tf30_0 : Type 1 := (α : Type) → Int → Int → Int → (Int → Int → Option α) → Option α
def f30_0g (vf95_0 : Tf95_0) (α : Type) (x1 : Int) (x2 : Int) (x3 : Int) (k1 : Int → Int → Option α) : Option α :=
  vf95_0 α (w64 (1000 * x3)) x2
    (fun (x4 : Int) => vf95_0 α (w64 (1000 * x3)) x1
      (fun (x5 : Int) => k1 x4 x5))
noncomputable def f30_0 (α : Type) (x1 : Int) (x2 : Int) (x3 : Int) (k1 : Int → Int → Option α) : Option α := f30_0g f95_0 α x1 x2 x3 k1
def pa30_0 : PT (List DV) := pA [pV true [(dI .i64), (dI .i64)], pV false [(dI .i64)]]
def Fn30_0 (v : Tf30_0) (α : Type) (k : List RV → Option α) : Int → Int → Int → Option α := fun x1 x2 x3 => v α x1 x2 x3 (fun (y1 : Int) (y2 : Int) => ur30_0_0 k y1 y2)
noncomputable def cm30_0g  : MCode := (.seq (.region r30_2 [] (some ⟨[1, 2, 4], true, [], []⟩)) (.seq (.region r30_4 [(4, 8)] (some ⟨[4], true, [], []⟩)) .ret))
noncomputable def cm30_0 : MCode := cm30_0g 
theorem gm30_0 : cm30_0.Good Try.prog E30_0 sh30 := ⟨trivial, ⟨trivial, trivial⟩⟩
theorem fm30_0g (vf95_0 : Tf95_0)  (α : Type) (k : List RV → Option α) : Fn30_0 (f30_0g vf95_0) α k = pa30_0.unc fun ds => fnM Try.prog (E30_0g vf95_0) sh30 (cm30_0g ) rs30 k ds := by kernel_rfl
theorem fm30_0 : ∀ (α : Type) (k : List RV → Option α), Fn30_0 f30_0 α k = pa30_0.unc fun ds => fnM Try.prog E30_0 sh30 cm30_0 rs30 k ds := fm30_0g f95_0

theorem is30 : FnIs Try.prog 30 nt30 tr30 tl30 cm30_0.erase rs30 := ⟨Try.f30, Try.func30, rfl, by kernel_rfl, by kernel_rfl, by kernel_rfl⟩
theorem io30_0 : InstOk Try.prog 30 nt30 ⟨pa30_0, Fn30_0 f30_0⟩ := inst_ok eo30_0 followsTry is30 ⟨⟨sh30, cm30_0, by kernel_rfl, gm30_0, fm30_0⟩⟩

/-! ### F29 etalon/etalonref08.Grown -/
abbrev nt29 : Nat := 18
def sh29 : List (Nat × List Sh) := [(6, [.int .i64]), (8, [.int .i64]), (12, [.int .i64]), (14, [.int .i64])]
def r29_2 : List AOper := [⟨(some 2), (.box (.tmp 0)), none⟩, ⟨(some 3), (.box (.tmp 1)), none⟩, ⟨(some 4), (.alloc [(.d (.v (.int .i64 0))), (.d (.v (.int .i64 0)))]), none⟩]
def r29_4 : List AOper := [⟨(some 5), (.faddr 0 (.tmp 2)), none⟩, ⟨(some 6), (.load false 1 (.tmp 5)), none⟩, ⟨(some 7), (.faddr 0 (.tmp 3)), none⟩, ⟨(some 8), (.load false 1 (.tmp 7)), none⟩, ⟨(some 9), (.bin .mul 3 (.tmp 6) (.tmp 8)), none⟩, ⟨(some 10), (.call 94 [(.tmp 9), (.const (.int .i64 1000))]), none⟩, ⟨(some 11), (.faddr 1 (.tmp 2)), none⟩, ⟨(some 12), (.load false 1 (.tmp 11)), none⟩, ⟨(some 13), (.faddr 1 (.tmp 3)), none⟩, ⟨(some 14), (.load false 1 (.tmp 13)), none⟩, ⟨(some 15), (.bin .mul 3 (.tmp 12) (.tmp 14)), none⟩, ⟨(some 16), (.call 95 [(.tmp 15), (.const (.int .i64 1000))]), none⟩, ⟨(some 17), (.build [(.d (.v (.int .i64 0))), (.d (.v (.int .i64 0)))] [(0, 1, (.tmp 10)), (1, 1, (.tmp 16))]), none⟩, ⟨none, (.store 2 (.tmp 4) (.tmp 17)), none⟩]
def tr29 : List (Nat × Tidy) := [(0, ⟨[2, 3, 4], true, [], []⟩), (1, ⟨[4], true, [], []⟩)]
def tl29 : List (Nat × Tidy) := []
def rs29 : List AResV := [.cell 4 true 2]
def pr29_0_0 : PT (List RV) := pRs [pR true [rD (dI .i64), rD (dI .i64)]]
def ur29_0_0 {β : Type} (g : List RV → β) : Int → Int → β := pr29_0_0.unc g

def E29_0g (vf94_0 : Tf94_0) (vf95_0 : Tf95_0) : EnvK := EnvK.of [⟨94, nt94, [⟨pa94_0, Fn94_0 vf94_0⟩]⟩, ⟨95, nt95, [⟨pa95_0, Fn95_0 vf95_0⟩]⟩] noSeq
noncomputable def E29_0 : EnvK := E29_0g f94_0 f95_0
theorem eo29_0 : E29_0.Ok Try.prog := EnvK.of_ok noSeq_ok ⟨⟨io94_0, trivial⟩, ⟨io95_0, trivial⟩, trivial⟩

/-- etalon/etalonref08.Grown -/
abbrev Tf29_0 : Type 1 := (α : Type) → Int → Int → Int → Int → (Int → Int → Option α) → Option α
def f29_0g (vf94_0 : Tf94_0) (vf95_0 : Tf95_0) (α : Type) (x1 : Int) (x2 : Int) (x3 : Int) (x4 : Int) (k1 : Int → Int → Option α) : Option α :=
  vf94_0 α (w64 (x1 * x3)) 1000
    (fun (x5 : Int) => vf95_0 α (w64 (x2 * x4)) 1000
      (fun (x6 : Int) => k1 x5 x6))
noncomputable def f29_0 (α : Type) (x1 : Int) (x2 : Int) (x3 : Int) (x4 : Int) (k1 : Int → Int → Option α) : Option α := f29_0g f94_0 f95_0 α x1 x2 x3 x4 k1
def pa29_0 : PT (List DV) := pA [pV true [(dI .i64), (dI .i64)], pV true [(dI .i64), (dI .i64)]]
def Fn29_0 (v : Tf29_0) (α : Type) (k : List RV → Option α) : Int → Int → Int → Int → Option α := fun x1 x2 x3 x4 => v α x1 x2 x3 x4 (fun (y1 : Int) (y2 : Int) => ur29_0_0 k y1 y2)
noncomputable def cm29_0g  : MCode := (.seq (.region r29_2 [] (some ⟨[2, 3, 4], true, [], []⟩)) (.seq (.region r29_4 [(5, 7), (5, 9)] (some ⟨[4], true, [], []⟩)) .ret))
noncomputable def cm29_0 : MCode := cm29_0g 
theorem gm29_0 : cm29_0.Good Try.prog E29_0 sh29 := ⟨trivial, ⟨trivial, trivial⟩⟩
theorem fm29_0g (vf94_0 : Tf94_0) (vf95_0 : Tf95_0)  (α : Type) (k : List RV → Option α) : Fn29_0 (f29_0g vf94_0 vf95_0) α k = pa29_0.unc fun ds => fnM Try.prog (E29_0g vf94_0 vf95_0) sh29 (cm29_0g ) rs29 k ds := by kernel_rfl
theorem fm29_0 : ∀ (α : Type) (k : List RV → Option α), Fn29_0 f29_0 α k = pa29_0.unc fun ds => fnM Try.prog E29_0 sh29 cm29_0 rs29 k ds := fm29_0g f94_0 f95_0

theorem is29 : FnIs Try.prog 29 nt29 tr29 tl29 cm29_0.erase rs29 := ⟨Try.f29, Try.func29, rfl, by kernel_rfl, by kernel_rfl, by kernel_rfl⟩
theorem io29_0 : InstOk Try.prog 29 nt29 ⟨pa29_0, Fn29_0 f29_0⟩ := inst_ok eo29_0 followsTry is29 ⟨⟨sh29, cm29_0, by kernel_rfl, gm29_0, fm29_0⟩⟩

/-! ### F28 etalon/etalonref08.SecondsErr -/
abbrev nt28 : Nat := 5
def sh28 : List (Nat × List Sh) := [(3, [.int .i64, .int .i64])]
def r28_2 : List AOper := [⟨(some 1), (.box (.tmp 0)), none⟩, ⟨(some 2), (.mv (.const (.int .i64 0))), none⟩]
def r28_4 : List AOper := [⟨(some 3), (.load true 2 (.tmp 1)), none⟩, ⟨(some 4), (.call 93 [(.tmp 3), (.const (.int .i64 0)), (.const (.int .i64 100000))]), none⟩, ⟨(some 2), (.mv (.tmp 4)), none⟩]
def tr28 : List (Nat × Tidy) := [(0, ⟨[1], true, [], []⟩), (1, ⟨[2], true, [], []⟩)]
def tl28 : List (Nat × Tidy) := []
def rs28 : List AResV := [.tmp 2]
def pr28_0_0 : PT (List RV) := pRs [pR false [rD (dI .i64)]]
def ur28_0_0 {β : Type} (g : List RV → β) : Int → β := pr28_0_0.unc g

def E28_0g (vf93_0 : Tf93_0) : EnvK := EnvK.of [⟨93, nt93, [⟨pa93_0, Fn93_0 vf93_0⟩]⟩] noSeq
noncomputable def E28_0 : EnvK := E28_0g f93_0
theorem eo28_0 : E28_0.Ok Try.prog := EnvK.of_ok noSeq_ok ⟨⟨io93_0, trivial⟩, trivial⟩

/-- etalon/etalonref08.SecondsErr -/
abbrev Tf28_0 : Type 1 := (α : Type) → Int → Int → (Int → Option α) → Option α
def f28_0g (vf93_0 : Tf93_0) (α : Type) (x1 : Int) (x2 : Int) (k1 : Int → Option α) : Option α :=
  vf93_0 α x1 x2 0 100000
    (fun (x3 : Int) => k1 x3)
noncomputable def f28_0 (α : Type) (x1 : Int) (x2 : Int) (k1 : Int → Option α) : Option α := f28_0g f93_0 α x1 x2 k1
def pa28_0 : PT (List DV) := pA [pV true [(dI .i64), (dI .i64)]]
def Fn28_0 (v : Tf28_0) (α : Type) (k : List RV → Option α) : Int → Int → Option α := fun x1 x2 => v α x1 x2 (fun (y1 : Int) => ur28_0_0 k y1)
noncomputable def cm28_0g  : MCode := (.seq (.region r28_2 [] (some ⟨[1], true, [], []⟩)) (.seq (.region r28_4 [] (some ⟨[2], true, [], []⟩)) .ret))
noncomputable def cm28_0 : MCode := cm28_0g 
theorem gm28_0 : cm28_0.Good Try.prog E28_0 sh28 := ⟨trivial, ⟨trivial, trivial⟩⟩
theorem fm28_0g (vf93_0 : Tf93_0)  (α : Type) (k : List RV → Option α) : Fn28_0 (f28_0g vf93_0) α k = pa28_0.unc fun ds => fnM Try.prog (E28_0g vf93_0) sh28 (cm28_0g ) rs28 k ds := by kernel_rfl
theorem fm28_0 : ∀ (α : Type) (k : List RV → Option α), Fn28_0 f28_0 α k = pa28_0.unc fun ds => fnM Try.prog E28_0 sh28 cm28_0 rs28 k ds := fm28_0g f93_0

theorem is28 : FnIs Try.prog 28 nt28 tr28 tl28 cm28_0.erase rs28 := ⟨Try.f28, Try.func28, rfl, by kernel_rfl, by kernel_rfl, by kernel_rfl⟩
theorem io28_0 : InstOk Try.prog 28 nt28 ⟨pa28_0, Fn28_0 f28_0⟩ := inst_ok eo28_0 followsTry is28 ⟨⟨sh28, cm28_0, by kernel_rfl, gm28_0, fm28_0⟩⟩

/-! ### F27 etalon/etalonref08.RateErr -/
abbrev nt27 : Nat := 5
def sh27 : List (Nat × List Sh) := [(3, [.int .i64, .int .i64])]
def r27_2 : List AOper := [⟨(some 1), (.box (.tmp 0)), none⟩, ⟨(some 2), (.mv (.const (.int .i64 0))), none⟩]
def r27_4 : List AOper := [⟨(some 3), (.load true 2 (.tmp 1)), none⟩, ⟨(some 4), (.call 93 [(.tmp 3), (.const (.int .i64 1)), (.const (.int .i64 1000000))]), none⟩, ⟨(some 2), (.mv (.tmp 4)), none⟩]
def tr27 : List (Nat × Tidy) := [(0, ⟨[1], true, [], []⟩), (1, ⟨[2], true, [], []⟩)]
def tl27 : List (Nat × Tidy) := []
def rs27 : List AResV := [.tmp 2]
def pr27_0_0 : PT (List RV) := pRs [pR false [rD (dI .i64)]]
def ur27_0_0 {β : Type} (g : List RV → β) : Int → β := pr27_0_0.unc g

def E27_0g (vf93_0 : Tf93_0) : EnvK := EnvK.of [⟨93, nt93, [⟨pa93_0, Fn93_0 vf93_0⟩]⟩] noSeq
noncomputable def E27_0 : EnvK := E27_0g f93_0
theorem eo27_0 : E27_0.Ok Try.prog := EnvK.of_ok noSeq_ok ⟨⟨io93_0, trivial⟩, trivial⟩

/-- etalon/etalonref08.RateErr -/
abbrev Tf27_0 : Type 1 := (α : Type) → Int → Int → (Int → Option α) → Option α
def f27_0g (vf93_0 : Tf93_0) (α : Type) (x1 : Int) (x2 : Int) (k1 : Int → Option α) : Option α :=
  vf93_0 α x1 x2 1 1000000
    (fun (x3 : Int) => k1 x3)
noncomputable def f27_0 (α : Type) (x1 : Int) (x2 : Int) (k1 : Int → Option α) : Option α := f27_0g f93_0 α x1 x2 k1
def pa27_0 : PT (List DV) := pA [pV true [(dI .i64), (dI .i64)]]
def Fn27_0 (v : Tf27_0) (α : Type) (k : List RV → Option α) : Int → Int → Option α := fun x1 x2 => v α x1 x2 (fun (y1 : Int) => ur27_0_0 k y1)
noncomputable def cm27_0g  : MCode := (.seq (.region r27_2 [] (some ⟨[1], true, [], []⟩)) (.seq (.region r27_4 [] (some ⟨[2], true, [], []⟩)) .ret))
noncomputable def cm27_0 : MCode := cm27_0g 
theorem gm27_0 : cm27_0.Good Try.prog E27_0 sh27 := ⟨trivial, ⟨trivial, trivial⟩⟩
theorem fm27_0g (vf93_0 : Tf93_0)  (α : Type) (k : List RV → Option α) : Fn27_0 (f27_0g vf93_0) α k = pa27_0.unc fun ds => fnM Try.prog (E27_0g vf93_0) sh27 (cm27_0g ) rs27 k ds := by kernel_rfl
theorem fm27_0 : ∀ (α : Type) (k : List RV → Option α), Fn27_0 f27_0 α k = pa27_0.unc fun ds => fnM Try.prog E27_0 sh27 cm27_0 rs27 k ds := fm27_0g f93_0

theorem is27 : FnIs Try.prog 27 nt27 tr27 tl27 cm27_0.erase rs27 := ⟨Try.f27, Try.func27, rfl, by kernel_rfl, by kernel_rfl, by kernel_rfl⟩
theorem io27_0 : InstOk Try.prog 27 nt27 ⟨pa27_0, Fn27_0 f27_0⟩ := inst_ok eo27_0 followsTry is27 ⟨⟨sh27, cm27_0, by kernel_rfl, gm27_0, fm27_0⟩⟩

/-! ### F117 etalon/grow.ordered -/
abbrev nt117 : Nat := 19
def sh117 : List (Nat × List Sh) := [(8, [.int .i64, .int .i64]), (15, [.int .i64]), (17, [.int .i64])]
def r117_2 : List AOper := [⟨(some 3), (.box (.tmp 0)), none⟩, ⟨(some 6), (.mv (.const (.int .i64 0))), none⟩]
def r117_6 : List AOper := [⟨(some 8), (.load true 2 (.tmp 3)), none⟩, ⟨(some 9), (.mv (.tmp 1)), none⟩, ⟨(some 10), (.mv (.tmp 2)), none⟩, ⟨(some 11), (.call 132 [(.tmp 8), (.tmp 9), (.tmp 10)]), none⟩, ⟨(some 12), (.pure (oB (.unOp .not 4 (.tmp 11)) 4)), none⟩, ⟨(some 7), (.mv (.tmp 12)), none⟩]
def r117_9 : List AOper := [⟨(some 6), (.mv (.const (.int .i64 2))), none⟩]
def r117_11 : List AOper := [⟨(some 14), (.faddr 0 (.tmp 3)), none⟩, ⟨(some 15), (.load false 1 (.tmp 14)), none⟩, ⟨(some 16), (.faddr 1 (.tmp 3)), none⟩, ⟨(some 17), (.load false 1 (.tmp 16)), none⟩, ⟨(some 18), (.bin .gtr 3 (.tmp 15) (.tmp 17)), none⟩, ⟨(some 13), (.mv (.tmp 18)), none⟩]
def r117_14 : List AOper := [⟨(some 6), (.mv (.const (.int .i64 10))), none⟩]
def r117_16 : List AOper := [⟨(some 6), (.mv (.const (.int .i64 0))), none⟩]
def tr117 : List (Nat × Tidy) := [(0, ⟨[1, 2, 3], true, [], []⟩), (1, ⟨[3, 7], true, [], []⟩), (2, ⟨[6], true, [], []⟩), (3, ⟨[13], true, [], []⟩), (4, ⟨[6], true, [], []⟩), (5, ⟨[6], true, [], []⟩)]
def tl117 : List (Nat × Tidy) := []
def rs117 : List AResV := [.tmp 6]
def pr117_0_0 : PT (List RV) := pRs [pR false [rD (dI .i64)]]
def ur117_0_0 {β : Type} (g : List RV → β) : Int → β := pr117_0_0.unc g

def E117_0g (vf132_0 : Tf132_0) : EnvK := EnvK.of [⟨132, nt132, [⟨pa132_0, Fn132_0 vf132_0⟩]⟩] noSeq
noncomputable def E117_0 : EnvK := E117_0g f132_0
theorem eo117_0 : E117_0.Ok Try.prog := EnvK.of_ok noSeq_ok ⟨⟨io132_0, trivial⟩, trivial⟩

/-- etalon/grow.ordered -/
abbrev Tf117_0 : Type 1 := (α : Type) → Int → Int → Int → Int → (Int → Option α) → Option α
def f117_0g (vf132_0 : Tf132_0) (α : Type) (x1 : Int) (x2 : Int) (x3 : Int) (x4 : Int) (k1 : Int → Option α) : Option α :=
  vf132_0 α x1 x2 x3 x4
    (fun (x5 : Bool) => cK (!x5)
      (k1 2)
      (cK (decide (x2 < x1))
        (k1 10)
        (k1 0)))
noncomputable def f117_0 (α : Type) (x1 : Int) (x2 : Int) (x3 : Int) (x4 : Int) (k1 : Int → Option α) : Option α := f117_0g f132_0 α x1 x2 x3 x4 k1
def pa117_0 : PT (List DV) := pA [pV true [(dI .i64), (dI .i64)], pV false [(dI .i64)], pV false [(dI .i64)]]
def Fn117_0 (v : Tf117_0) (α : Type) (k : List RV → Option α) : Int → Int → Int → Int → Option α := fun x1 x2 x3 x4 => v α x1 x2 x3 x4 (fun (y1 : Int) => ur117_0_0 k y1)
noncomputable def cm117_0g  : MCode := (.seq (.region r117_2 [] (some ⟨[1, 2, 3], true, [], []⟩)) (.seq (.block 0 (.seq (.region r117_6 [] (some ⟨[3, 7], true, [], []⟩)) (.cond (.tmp 7) (.seq (.region r117_9 [] (some ⟨[6], true, [], []⟩)) .ret) (.seq (.region r117_11 [] (some ⟨[13], true, [], []⟩)) (.cond (.tmp 13) (.seq (.region r117_14 [] (some ⟨[6], true, [], []⟩)) .ret) .skip))))) (.seq (.region r117_16 [] (some ⟨[6], true, [], []⟩)) .ret)))
noncomputable def cm117_0 : MCode := cm117_0g 
theorem gm117_0 : cm117_0.Good Try.prog E117_0 sh117 := ⟨trivial, ⟨⟨trivial, ⟨⟨trivial, trivial⟩, ⟨trivial, ⟨⟨trivial, trivial⟩, trivial⟩⟩⟩⟩, ⟨trivial, trivial⟩⟩⟩
theorem fm117_0g (vf132_0 : Tf132_0)  (α : Type) (k : List RV → Option α) : Fn117_0 (f117_0g vf132_0) α k = pa117_0.unc fun ds => fnM Try.prog (E117_0g vf132_0) sh117 (cm117_0g ) rs117 k ds := by kernel_rfl
theorem fm117_0 : ∀ (α : Type) (k : List RV → Option α), Fn117_0 f117_0 α k = pa117_0.unc fun ds => fnM Try.prog E117_0 sh117 cm117_0 rs117 k ds := fm117_0g f132_0

theorem is117 : FnIs Try.prog 117 nt117 tr117 tl117 cm117_0.erase rs117 := ⟨Try.f117, Try.func117, rfl, by kernel_rfl, by kernel_rfl, by kernel_rfl⟩
theorem io117_0 : InstOk Try.prog 117 nt117 ⟨pa117_0, Fn117_0 f117_0⟩ := inst_ok eo117_0 followsTry is117 ⟨⟨sh117, cm117_0, by kernel_rfl, gm117_0, fm117_0⟩⟩

/-! ### F90 etalon/grow.secondsErr -/
abbrev nt90 : Nat := 5
def sh90 : List (Nat × List Sh) := [(3, [.int .i64, .int .i64])]
def r90_2 : List AOper := [⟨(some 1), (.box (.tmp 0)), none⟩, ⟨(some 2), (.mv (.const (.int .i64 0))), none⟩]
def r90_4 : List AOper := [⟨(some 3), (.load true 2 (.tmp 1)), none⟩, ⟨(some 4), (.call 117 [(.tmp 3), (.const (.int .i64 0)), (.const (.int .i64 100000))]), none⟩, ⟨(some 2), (.mv (.tmp 4)), none⟩]
def tr90 : List (Nat × Tidy) := [(0, ⟨[1], true, [], []⟩), (1, ⟨[2], true, [], []⟩)]
def tl90 : List (Nat × Tidy) := []
def rs90 : List AResV := [.tmp 2]
def pr90_0_0 : PT (List RV) := pRs [pR false [rD (dI .i64)]]
def ur90_0_0 {β : Type} (g : List RV → β) : Int → β := pr90_0_0.unc g

def E90_0g (vf117_0 : Tf117_0) : EnvK := EnvK.of [⟨117, nt117, [⟨pa117_0, Fn117_0 vf117_0⟩]⟩] noSeq
noncomputable def E90_0 : EnvK := E90_0g f117_0
theorem eo90_0 : E90_0.Ok Try.prog := EnvK.of_ok noSeq_ok ⟨⟨io117_0, trivial⟩, trivial⟩

/-- etalon/grow.secondsErr -/
abbrev Tf90_0 : Type 1 := (α : Type) → Int → Int → (Int → Option α) → Option α
def f90_0g (vf117_0 : Tf117_0) (α : Type) (x1 : Int) (x2 : Int) (k1 : Int → Option α) : Option α :=
  vf117_0 α x1 x2 0 100000
    (fun (x3 : Int) => k1 x3)
noncomputable def f90_0 (α : Type) (x1 : Int) (x2 : Int) (k1 : Int → Option α) : Option α := f90_0g f117_0 α x1 x2 k1
def pa90_0 : PT (List DV) := pA [pV true [(dI .i64), (dI .i64)]]
def Fn90_0 (v : Tf90_0) (α : Type) (k : List RV → Option α) : Int → Int → Option α := fun x1 x2 => v α x1 x2 (fun (y1 : Int) => ur90_0_0 k y1)
noncomputable def cm90_0g  : MCode := (.seq (.region r90_2 [] (some ⟨[1], true, [], []⟩)) (.seq (.region r90_4 [] (some ⟨[2], true, [], []⟩)) .ret))
noncomputable def cm90_0 : MCode := cm90_0g 
theorem gm90_0 : cm90_0.Good Try.prog E90_0 sh90 := ⟨trivial, ⟨trivial, trivial⟩⟩
theorem fm90_0g (vf117_0 : Tf117_0)  (α : Type) (k : List RV → Option α) : Fn90_0 (f90_0g vf117_0) α k = pa90_0.unc fun ds => fnM Try.prog (E90_0g vf117_0) sh90 (cm90_0g ) rs90 k ds := by kernel_rfl
theorem fm90_0 : ∀ (α : Type) (k : List RV → Option α), Fn90_0 f90_0 α k = pa90_0.unc fun ds => fnM Try.prog E90_0 sh90 cm90_0 rs90 k ds := fm90_0g f117_0

theorem is90 : FnIs Try.prog 90 nt90 tr90 tl90 cm90_0.erase rs90 := ⟨Try.f90, Try.func90, rfl, by kernel_rfl, by kernel_rfl, by kernel_rfl⟩
theorem io90_0 : InstOk Try.prog 90 nt90 ⟨pa90_0, Fn90_0 f90_0⟩ := inst_ok eo90_0 followsTry is90 ⟨⟨sh90, cm90_0, by kernel_rfl, gm90_0, fm90_0⟩⟩

/-! ### F89 etalon/grow.rateErr -/
abbrev nt89 : Nat := 5
def sh89 : List (Nat × List Sh) := [(3, [.int .i64, .int .i64])]
def r89_2 : List AOper := [⟨(some 1), (.box (.tmp 0)), none⟩, ⟨(some 2), (.mv (.const (.int .i64 0))), none⟩]
def r89_4 : List AOper := [⟨(some 3), (.load true 2 (.tmp 1)), none⟩, ⟨(some 4), (.call 117 [(.tmp 3), (.const (.int .i64 1)), (.const (.int .i64 1000000))]), none⟩, ⟨(some 2), (.mv (.tmp 4)), none⟩]
def tr89 : List (Nat × Tidy) := [(0, ⟨[1], true, [], []⟩), (1, ⟨[2], true, [], []⟩)]
def tl89 : List (Nat × Tidy) := []
def rs89 : List AResV := [.tmp 2]
def pr89_0_0 : PT (List RV) := pRs [pR false [rD (dI .i64)]]
def ur89_0_0 {β : Type} (g : List RV → β) : Int → β := pr89_0_0.unc g

def E89_0g (vf117_0 : Tf117_0) : EnvK := EnvK.of [⟨117, nt117, [⟨pa117_0, Fn117_0 vf117_0⟩]⟩] noSeq
noncomputable def E89_0 : EnvK := E89_0g f117_0
theorem eo89_0 : E89_0.Ok Try.prog := EnvK.of_ok noSeq_ok ⟨⟨io117_0, trivial⟩, trivial⟩

/-- etalon/grow.rateErr -/
abbrev Tf89_0 : Type 1 := (α : Type) → Int → Int → (Int → Option α) → Option α
def f89_0g (vf117_0 : Tf117_0) (α : Type) (x1 : Int) (x2 : Int) (k1 : Int → Option α) : Option α :=
  vf117_0 α x1 x2 1 1000000
    (fun (x3 : Int) => k1 x3)
noncomputable def f89_0 (α : Type) (x1 : Int) (x2 : Int) (k1 : Int → Option α) : Option α := f89_0g f117_0 α x1 x2 k1
def pa89_0 : PT (List DV) := pA [pV true [(dI .i64), (dI .i64)]]
def Fn89_0 (v : Tf89_0) (α : Type) (k : List RV → Option α) : Int → Int → Option α := fun x1 x2 => v α x1 x2 (fun (y1 : Int) => ur89_0_0 k y1)
noncomputable def cm89_0g  : MCode := (.seq (.region r89_2 [] (some ⟨[1], true, [], []⟩)) (.seq (.region r89_4 [] (some ⟨[2], true, [], []⟩)) .ret))
noncomputable def cm89_0 : MCode := cm89_0g 
theorem gm89_0 : cm89_0.Good Try.prog E89_0 sh89 := ⟨trivial, ⟨trivial, trivial⟩⟩
theorem fm89_0g (vf117_0 : Tf117_0)  (α : Type) (k : List RV → Option α) : Fn89_0 (f89_0g vf117_0) α k = pa89_0.unc fun ds => fnM Try.prog (E89_0g vf117_0) sh89 (cm89_0g ) rs89 k ds := by kernel_rfl
theorem fm89_0 : ∀ (α : Type) (k : List RV → Option α), Fn89_0 f89_0 α k = pa89_0.unc fun ds => fnM Try.prog E89_0 sh89 cm89_0 rs89 k ds := fm89_0g f117_0

theorem is89 : FnIs Try.prog 89 nt89 tr89 tl89 cm89_0.erase rs89 := ⟨Try.f89, Try.func89, rfl, by kernel_rfl, by kernel_rfl, by kernel_rfl⟩
theorem io89_0 : InstOk Try.prog 89 nt89 ⟨pa89_0, Fn89_0 f89_0⟩ := inst_ok eo89_0 followsTry is89 ⟨⟨sh89, cm89_0, by kernel_rfl, gm89_0, fm89_0⟩⟩

/-! ### F39 etalon/grow.EndAt -/
abbrev nt39 : Nat := 55
def sh39 : List (Nat × List Sh) := [(11, [.int .i64, .int .i64, .int .i64]), (13, [.int .i64, .int .i64]), (15, [.int .i64, .int .i64]), (24, [.int .i64, .int .i64, .int .i64]), (31, [.int .i64]), (33, [.int .i64]), (44, [.int .i64]), (46, [.int .i64])]
def r39_2 : List AOper := [⟨(some 3), (.box (.tmp 0)), none⟩, ⟨(some 4), (.box (.tmp 1)), none⟩, ⟨(some 5), (.box (.tmp 2)), none⟩, ⟨(some 6), (.alloc [(.d (.v (.int .i64 0))), (.d (.v (.int .i64 0)))]), none⟩, ⟨(some 7), (.mv (.const (.int .i64 0))), none⟩]
def r39_5 : List AOper := [⟨(some 11), (.load true 3 (.tmp 3)), none⟩, ⟨(some 12), (.call 98 [(.tmp 11)]), none⟩, ⟨(some 13), (.load true 2 (.tmp 4)), none⟩, ⟨(some 14), (.call 89 [(.tmp 13)]), none⟩, ⟨(some 15), (.load true 2 (.tmp 5)), none⟩, ⟨(some 16), (.call 90 [(.tmp 15)]), none⟩, ⟨(some 17), (.bslice 1 3 [(.v (.int .i64 0))] [(0, (.tmp 12)), (1, (.tmp 14)), (2, (.tmp 16))]), none⟩, ⟨(some 18), (.call 88 [(.tmp 17)]), none⟩, ⟨(some 8), (.mv (.tmp 18)), none⟩]
def r39_7 : List AOper := [⟨(some 19), (.mv (.tmp 8)), none⟩, ⟨(some 20), (.bin .neq 32 (.tmp 19) (.const (.int .i64 0))), none⟩]
def r39_10 : List AOper := [⟨(some 21), (.build [(.d (.v (.int .i64 0))), (.d (.v (.int .i64 0)))] []), none⟩, ⟨(some 22), (.mv (.tmp 8)), none⟩, ⟨none, (.store 2 (.tmp 6) (.tmp 21)), none⟩, ⟨(some 7), (.mv (.tmp 22)), none⟩]
def r39_12 : List AOper := [⟨(some 24), (.load true 3 (.tmp 3)), none⟩, ⟨(some 25), (.call 99 [(.tmp 24)]), none⟩, ⟨(some 23), (.mv (.tmp 25)), none⟩, ⟨(some 26), (.extract 0 (.tmp 23)), none⟩, ⟨(some 27), (.extract 1 (.tmp 23)), none⟩, ⟨(some 9), (.mv (.tmp 26)), none⟩, ⟨(some 10), (.mv (.tmp 27)), none⟩]
def r39_14 : List AOper := [⟨(some 28), (.mv (.tmp 9)), none⟩, ⟨(some 29), (.bin .mul 3 (.tmp 28) (.const (.int .i64 1000))), none⟩, ⟨(some 30), (.faddr 0 (.tmp 4)), none⟩, ⟨(some 31), (.load false 1 (.tmp 30)), none⟩, ⟨(some 32), (.faddr 0 (.tmp 5)), none⟩, ⟨(some 33), (.load false 1 (.tmp 32)), none⟩, ⟨(some 34), (.bin .mul 3 (.tmp 31) (.tmp 33)), none⟩, ⟨(some 35), (.mv (.tmp 10)), none⟩, ⟨(some 36), (.bin .mul 3 (.tmp 34) (.tmp 35)), none⟩, ⟨(some 37), (.bin .add 3 (.tmp 29) (.tmp 36)), none⟩, ⟨(some 38), (.mv (.tmp 10)), none⟩, ⟨(some 39), (.bin .mul 3 (.tmp 38) (.const (.int .i64 1000))), none⟩, ⟨(some 40), (.call 91 [(.tmp 37), (.tmp 39)]), none⟩, ⟨(some 41), (.mv (.tmp 9)), none⟩, ⟨(some 42), (.bin .mul 3 (.tmp 41) (.const (.int .i64 1000))), none⟩, ⟨(some 43), (.faddr 1 (.tmp 4)), none⟩, ⟨(some 44), (.load false 1 (.tmp 43)), none⟩, ⟨(some 45), (.faddr 1 (.tmp 5)), none⟩, ⟨(some 46), (.load false 1 (.tmp 45)), none⟩, ⟨(some 47), (.bin .mul 3 (.tmp 44) (.tmp 46)), none⟩, ⟨(some 48), (.mv (.tmp 10)), none⟩, ⟨(some 49), (.bin .mul 3 (.tmp 47) (.tmp 48)), none⟩, ⟨(some 50), (.bin .add 3 (.tmp 42) (.tmp 49)), none⟩, ⟨(some 51), (.mv (.tmp 10)), none⟩, ⟨(some 52), (.bin .mul 3 (.tmp 51) (.const (.int .i64 1000))), none⟩, ⟨(some 53), (.call 92 [(.tmp 50), (.tmp 52)]), none⟩, ⟨(some 54), (.build [(.d (.v (.int .i64 0))), (.d (.v (.int .i64 0)))] [(0, 1, (.tmp 40)), (1, 1, (.tmp 53))]), none⟩, ⟨none, (.store 2 (.tmp 6) (.tmp 54)), none⟩, ⟨(some 7), (.mv (.const (.int .i64 0))), none⟩]
def tr39 : List (Nat × Tidy) := [(0, ⟨[3, 4, 5, 6], true, [], []⟩), (1, ⟨[3, 4, 5, 6, 8], true, [], []⟩), (2, ⟨[3, 4, 5, 6, 8, 20], true, [], []⟩), (3, ⟨[6, 7], true, [], []⟩), (4, ⟨[4, 5, 6, 9, 10], true, [], []⟩), (5, ⟨[6, 7], true, [], []⟩)]
def tl39 : List (Nat × Tidy) := []
def rs39 : List AResV := [.cell 6 true 2, .tmp 7]
def pr39_0_0 : PT (List RV) := pRs [pR true [rD (dI .i64), rD (dI .i64)], pR false [rD (dI .i64)]]
def ur39_0_0 {β : Type} (g : List RV → β) : Int → Int → Int → β := pr39_0_0.unc g

def E39_0g (vf98_0 : Tf98_0) (vf89_0 : Tf89_0) (vf90_0 : Tf90_0) (vf88_0 : Tf88_0) (vf99_0 : Tf99_0) (vf91_0 : Tf91_0) (vf92_0 : Tf92_0) : EnvK := EnvK.of [⟨98, nt98, [⟨pa98_0, Fn98_0 vf98_0⟩]⟩, ⟨89, nt89, [⟨pa89_0, Fn89_0 vf89_0⟩]⟩, ⟨90, nt90, [⟨pa90_0, Fn90_0 vf90_0⟩]⟩, ⟨88, nt88, [⟨pa88_0, Fn88_0 vf88_0⟩]⟩, ⟨99, nt99, [⟨pa99_0, Fn99_0 vf99_0⟩]⟩, ⟨91, nt91, [⟨pa91_0, Fn91_0 vf91_0⟩]⟩, ⟨92, nt92, [⟨pa92_0, Fn92_0 vf92_0⟩]⟩] noSeq
noncomputable def E39_0 : EnvK := E39_0g f98_0 f89_0 f90_0 f88_0 f99_0 f91_0 f92_0
theorem eo39_0 : E39_0.Ok Try.prog := EnvK.of_ok noSeq_ok ⟨⟨io98_0, trivial⟩, ⟨io89_0, trivial⟩, ⟨io90_0, trivial⟩, ⟨io88_0, trivial⟩, ⟨io99_0, trivial⟩, ⟨io91_0, trivial⟩, ⟨io92_0, trivial⟩, trivial⟩

/-- etalon/grow.EndAt -/
abbrev Tf39_0 : Type 1 := (α : Type) → Int → Int → Int → Int → Int → Int → Int → (Int → Int → Int → Option α) → Option α
def f39_0g (vf88_0 : Tf88_0) (vf89_0 : Tf89_0) (vf90_0 : Tf90_0) (vf91_0 : Tf91_0) (vf92_0 : Tf92_0) (vf98_0 : Tf98_0) (vf99_0 : Tf99_0) (α : Type) (x1 : Int) (x2 : Int) (x3 : Int) (x4 : Int) (x5 : Int) (x6 : Int) (x7 : Int) (k1 : Int → Int → Int → Option α) : Option α :=
  vf98_0 α x1 x2 x3
    (fun (x8 : Int) => vf89_0 α x4 x5
      (fun (x9 : Int) => vf90_0 α x6 x7
        (fun (x10 : Int) => vf88_0 α [[DC.v (.int .i64 x8)], [DC.v (.int .i64 x9)], [DC.v (.int .i64 x10)]]
          (fun (x11 : Int) => cK (x11 != 0)
            (k1 0 0 x11)
            (vf99_0 α x1 x2 x3
              (fun (x12 : Int) (x13 : Int) => vf91_0 α (w64 ((w64 (x12 * 1000)) + (w64 ((w64 (x4 * x6)) * x13)))) (w64 (x13 * 1000))
                (fun (x14 : Int) => vf92_0 α (w64 ((w64 (x12 * 1000)) + (w64 ((w64 (x5 * x7)) * x13)))) (w64 (x13 * 1000))
                  (fun (x15 : Int) => k1 x14 x15 0))))))))
noncomputable def f39_0 (α : Type) (x1 : Int) (x2 : Int) (x3 : Int) (x4 : Int) (x5 : Int) (x6 : Int) (x7 : Int) (k1 : Int → Int → Int → Option α) : Option α := f39_0g f88_0 f89_0 f90_0 f91_0 f92_0 f98_0 f99_0 α x1 x2 x3 x4 x5 x6 x7 k1
def pa39_0 : PT (List DV) := pA [pV true [(dI .i64), (dI .i64), (dI .i64)], pV true [(dI .i64), (dI .i64)], pV true [(dI .i64), (dI .i64)]]
def Fn39_0 (v : Tf39_0) (α : Type) (k : List RV → Option α) : Int → Int → Int → Int → Int → Int → Int → Option α := fun x1 x2 x3 x4 x5 x6 x7 => v α x1 x2 x3 x4 x5 x6 x7 (fun (y1 : Int) (y2 : Int) (y3 : Int) => ur39_0_0 k y1 y2 y3)
noncomputable def cm39_0g  : MCode := (.seq (.region r39_2 [] (some ⟨[3, 4, 5, 6], true, [], []⟩)) (.seq (.seq (.region r39_5 [(1, 2), (1, 4), (3, 4)] (some ⟨[3, 4, 5, 6, 8], true, [], []⟩)) (.seq (.region r39_7 [] (some ⟨[3, 4, 5, 6, 8, 20], true, [], []⟩)) (.cond (.tmp 20) (.seq (.region r39_10 [] (some ⟨[6, 7], true, [], []⟩)) .ret) .skip))) (.seq (.region r39_12 [] (some ⟨[4, 5, 6, 9, 10], true, [], []⟩)) (.seq (.region r39_14 [(12, 16), (12, 18)] (some ⟨[6, 7], true, [], []⟩)) .ret))))
noncomputable def cm39_0 : MCode := cm39_0g 
theorem gm39_0 : cm39_0.Good Try.prog E39_0 sh39 := ⟨trivial, ⟨⟨trivial, ⟨trivial, ⟨⟨trivial, trivial⟩, trivial⟩⟩⟩, ⟨trivial, ⟨trivial, trivial⟩⟩⟩⟩
theorem fm39_0g (vf98_0 : Tf98_0) (vf89_0 : Tf89_0) (vf90_0 : Tf90_0) (vf88_0 : Tf88_0) (vf99_0 : Tf99_0) (vf91_0 : Tf91_0) (vf92_0 : Tf92_0)  (α : Type) (k : List RV → Option α) : Fn39_0 (f39_0g vf88_0 vf89_0 vf90_0 vf91_0 vf92_0 vf98_0 vf99_0) α k = pa39_0.unc fun ds => fnM Try.prog (E39_0g vf98_0 vf89_0 vf90_0 vf88_0 vf99_0 vf91_0 vf92_0) sh39 (cm39_0g ) rs39 k ds := by kernel_rfl
theorem fm39_0 : ∀ (α : Type) (k : List RV → Option α), Fn39_0 f39_0 α k = pa39_0.unc fun ds => fnM Try.prog E39_0 sh39 cm39_0 rs39 k ds := fm39_0g f98_0 f89_0 f90_0 f88_0 f99_0 f91_0 f92_0

theorem is39 : FnIs Try.prog 39 nt39 tr39 tl39 cm39_0.erase rs39 := ⟨Try.f39, Try.func39, rfl, by kernel_rfl, by kernel_rfl, by kernel_rfl⟩
theorem io39_0 : InstOk Try.prog 39 nt39 ⟨pa39_0, Fn39_0 f39_0⟩ := inst_ok eo39_0 followsTry is39 ⟨⟨sh39, cm39_0, by kernel_rfl, gm39_0, fm39_0⟩⟩

/-! ### F38 etalon/grow.RateOf -/
abbrev nt38 : Nat := 43
def sh38 : List (Nat × List Sh) := [(9, [.int .i64, .int .i64, .int .i64]), (11, [.int .i64, .int .i64]), (20, [.int .i64]), (24, [.int .i64, .int .i64, .int .i64]), (32, [.int .i64]), (39, [.int .i64])]
def r38_2 : List AOper := [⟨(some 2), (.box (.tmp 0)), none⟩, ⟨(some 3), (.box (.tmp 1)), none⟩, ⟨(some 4), (.alloc [(.d (.v (.int .i64 0))), (.d (.v (.int .i64 0)))]), none⟩, ⟨(some 5), (.mv (.const (.int .i64 0))), none⟩]
def r38_5 : List AOper := [⟨(some 9), (.load true 3 (.tmp 2)), none⟩, ⟨(some 10), (.call 98 [(.tmp 9)]), none⟩, ⟨(some 11), (.load true 2 (.tmp 3)), none⟩, ⟨(some 12), (.call 90 [(.tmp 11)]), none⟩, ⟨(some 13), (.bslice 1 2 [(.v (.int .i64 0))] [(0, (.tmp 10)), (1, (.tmp 12))]), none⟩, ⟨(some 14), (.call 88 [(.tmp 13)]), none⟩, ⟨(some 6), (.mv (.tmp 14)), none⟩]
def r38_7 : List AOper := [⟨(some 15), (.mv (.tmp 6)), none⟩, ⟨(some 16), (.bin .neq 32 (.tmp 15) (.const (.int .i64 0))), none⟩]
def r38_10 : List AOper := [⟨(some 17), (.build [(.d (.v (.int .i64 0))), (.d (.v (.int .i64 0)))] []), none⟩, ⟨(some 18), (.mv (.tmp 6)), none⟩, ⟨none, (.store 2 (.tmp 4) (.tmp 17)), none⟩, ⟨(some 5), (.mv (.tmp 18)), none⟩]
def r38_13 : List AOper := [⟨(some 19), (.faddr 0 (.tmp 3)), none⟩, ⟨(some 20), (.load false 1 (.tmp 19)), none⟩, ⟨(some 21), (.bin .eql 3 (.tmp 20) (.const (.int .i64 0))), none⟩]
def r38_16 : List AOper := [⟨(some 22), (.build [(.d (.v (.int .i64 0))), (.d (.v (.int .i64 0)))] []), none⟩, ⟨none, (.store 2 (.tmp 4) (.tmp 22)), none⟩, ⟨(some 5), (.mv (.const (.int .i64 9))), none⟩]
def r38_18 : List AOper := [⟨(some 24), (.load true 3 (.tmp 2)), none⟩, ⟨(some 25), (.call 99 [(.tmp 24)]), none⟩, ⟨(some 23), (.mv (.tmp 25)), none⟩, ⟨(some 26), (.extract 0 (.tmp 23)), none⟩, ⟨(some 27), (.extract 1 (.tmp 23)), none⟩, ⟨(some 7), (.mv (.tmp 26)), none⟩, ⟨(some 8), (.mv (.tmp 27)), none⟩]
def r38_20 : List AOper := [⟨(some 28), (.mv (.tmp 7)), none⟩, ⟨(some 29), (.bin .mul 3 (.tmp 28) (.const (.int .i64 1000))), none⟩, ⟨(some 30), (.mv (.tmp 8)), none⟩, ⟨(some 31), (.faddr 1 (.tmp 3)), none⟩, ⟨(some 32), (.load false 1 (.tmp 31)), none⟩, ⟨(some 33), (.bin .mul 3 (.tmp 30) (.tmp 32)), none⟩, ⟨(some 34), (.call 91 [(.tmp 29), (.tmp 33)]), none⟩, ⟨(some 35), (.mv (.tmp 7)), none⟩, ⟨(some 36), (.bin .mul 3 (.tmp 35) (.const (.int .i64 1000))), none⟩, ⟨(some 37), (.mv (.tmp 8)), none⟩, ⟨(some 38), (.faddr 0 (.tmp 3)), none⟩, ⟨(some 39), (.load false 1 (.tmp 38)), none⟩, ⟨(some 40), (.bin .mul 3 (.tmp 37) (.tmp 39)), none⟩, ⟨(some 41), (.call 92 [(.tmp 36), (.tmp 40)]), none⟩, ⟨(some 42), (.build [(.d (.v (.int .i64 0))), (.d (.v (.int .i64 0)))] [(0, 1, (.tmp 34)), (1, 1, (.tmp 41))]), none⟩, ⟨none, (.store 2 (.tmp 4) (.tmp 42)), none⟩, ⟨(some 5), (.mv (.const (.int .i64 0))), none⟩]
def tr38 : List (Nat × Tidy) := [(0, ⟨[2, 3, 4], true, [], []⟩), (1, ⟨[2, 3, 4, 6], true, [], []⟩), (2, ⟨[2, 3, 4, 6, 16], true, [], []⟩), (3, ⟨[4, 5], true, [], []⟩), (4, ⟨[2, 3, 4, 21], true, [], []⟩), (5, ⟨[4, 5], true, [], []⟩), (6, ⟨[3, 4, 7, 8], true, [], []⟩), (7, ⟨[4, 5], true, [], []⟩)]
def tl38 : List (Nat × Tidy) := []
def rs38 : List AResV := [.cell 4 true 2, .tmp 5]
def pr38_0_0 : PT (List RV) := pRs [pR true [rD (dI .i64), rD (dI .i64)], pR false [rD (dI .i64)]]
def ur38_0_0 {β : Type} (g : List RV → β) : Int → Int → Int → β := pr38_0_0.unc g

def E38_0g (vf98_0 : Tf98_0) (vf90_0 : Tf90_0) (vf88_0 : Tf88_0) (vf99_0 : Tf99_0) (vf91_0 : Tf91_0) (vf92_0 : Tf92_0) : EnvK := EnvK.of [⟨98, nt98, [⟨pa98_0, Fn98_0 vf98_0⟩]⟩, ⟨90, nt90, [⟨pa90_0, Fn90_0 vf90_0⟩]⟩, ⟨88, nt88, [⟨pa88_0, Fn88_0 vf88_0⟩]⟩, ⟨99, nt99, [⟨pa99_0, Fn99_0 vf99_0⟩]⟩, ⟨91, nt91, [⟨pa91_0, Fn91_0 vf91_0⟩]⟩, ⟨92, nt92, [⟨pa92_0, Fn92_0 vf92_0⟩]⟩] noSeq
noncomputable def E38_0 : EnvK := E38_0g f98_0 f90_0 f88_0 f99_0 f91_0 f92_0
theorem eo38_0 : E38_0.Ok Try.prog := EnvK.of_ok noSeq_ok ⟨⟨io98_0, trivial⟩, ⟨io90_0, trivial⟩, ⟨io88_0, trivial⟩, ⟨io99_0, trivial⟩, ⟨io91_0, trivial⟩, ⟨io92_0, trivial⟩, trivial⟩

/-- etalon/grow.RateOf -/
abbrev Tf38_0 : Type 1 := (α : Type) → Int → Int → Int → Int → Int → (Int → Int → Int → Option α) → Option α
def f38_0g (vf88_0 : Tf88_0) (vf90_0 : Tf90_0) (vf91_0 : Tf91_0) (vf92_0 : Tf92_0) (vf98_0 : Tf98_0) (vf99_0 : Tf99_0) (α : Type) (x1 : Int) (x2 : Int) (x3 : Int) (x4 : Int) (x5 : Int) (k1 : Int → Int → Int → Option α) : Option α :=
  vf98_0 α x1 x2 x3
    (fun (x6 : Int) => vf90_0 α x4 x5
      (fun (x7 : Int) => vf88_0 α [[DC.v (.int .i64 x6)], [DC.v (.int .i64 x7)]]
        (fun (x8 : Int) => cK (x8 != 0)
          (k1 0 0 x8)
          (cK (x4 == 0)
            (k1 0 0 9)
            (vf99_0 α x1 x2 x3
              (fun (x9 : Int) (x10 : Int) => vf91_0 α (w64 (x9 * 1000)) (w64 (x10 * x5))
                (fun (x11 : Int) => vf92_0 α (w64 (x9 * 1000)) (w64 (x10 * x4))
                  (fun (x12 : Int) => k1 x11 x12 0))))))))
noncomputable def f38_0 (α : Type) (x1 : Int) (x2 : Int) (x3 : Int) (x4 : Int) (x5 : Int) (k1 : Int → Int → Int → Option α) : Option α := f38_0g f88_0 f90_0 f91_0 f92_0 f98_0 f99_0 α x1 x2 x3 x4 x5 k1
def pa38_0 : PT (List DV) := pA [pV true [(dI .i64), (dI .i64), (dI .i64)], pV true [(dI .i64), (dI .i64)]]
def Fn38_0 (v : Tf38_0) (α : Type) (k : List RV → Option α) : Int → Int → Int → Int → Int → Option α := fun x1 x2 x3 x4 x5 => v α x1 x2 x3 x4 x5 (fun (y1 : Int) (y2 : Int) (y3 : Int) => ur38_0_0 k y1 y2 y3)
noncomputable def cm38_0g  : MCode := (.seq (.region r38_2 [] (some ⟨[2, 3, 4], true, [], []⟩)) (.seq (.seq (.region r38_5 [(1, 2)] (some ⟨[2, 3, 4, 6], true, [], []⟩)) (.seq (.region r38_7 [] (some ⟨[2, 3, 4, 6, 16], true, [], []⟩)) (.cond (.tmp 16) (.seq (.region r38_10 [] (some ⟨[4, 5], true, [], []⟩)) .ret) .skip))) (.seq (.seq (.region r38_13 [] (some ⟨[2, 3, 4, 21], true, [], []⟩)) (.cond (.tmp 21) (.seq (.region r38_16 [] (some ⟨[4, 5], true, [], []⟩)) .ret) .skip)) (.seq (.region r38_18 [] (some ⟨[3, 4, 7, 8], true, [], []⟩)) (.seq (.region r38_20 [(6, 11)] (some ⟨[4, 5], true, [], []⟩)) .ret)))))
noncomputable def cm38_0 : MCode := cm38_0g 
theorem gm38_0 : cm38_0.Good Try.prog E38_0 sh38 := ⟨trivial, ⟨⟨trivial, ⟨trivial, ⟨⟨trivial, trivial⟩, trivial⟩⟩⟩, ⟨⟨trivial, ⟨⟨trivial, trivial⟩, trivial⟩⟩, ⟨trivial, ⟨trivial, trivial⟩⟩⟩⟩⟩
theorem fm38_0g (vf98_0 : Tf98_0) (vf90_0 : Tf90_0) (vf88_0 : Tf88_0) (vf99_0 : Tf99_0) (vf91_0 : Tf91_0) (vf92_0 : Tf92_0)  (α : Type) (k : List RV → Option α) : Fn38_0 (f38_0g vf88_0 vf90_0 vf91_0 vf92_0 vf98_0 vf99_0) α k = pa38_0.unc fun ds => fnM Try.prog (E38_0g vf98_0 vf90_0 vf88_0 vf99_0 vf91_0 vf92_0) sh38 (cm38_0g ) rs38 k ds := by kernel_rfl
theorem fm38_0 : ∀ (α : Type) (k : List RV → Option α), Fn38_0 f38_0 α k = pa38_0.unc fun ds => fnM Try.prog E38_0 sh38 cm38_0 rs38 k ds := fm38_0g f98_0 f90_0 f88_0 f99_0 f91_0 f92_0

theorem is38 : FnIs Try.prog 38 nt38 tr38 tl38 cm38_0.erase rs38 := ⟨Try.f38, Try.func38, rfl, by kernel_rfl, by kernel_rfl, by kernel_rfl⟩
theorem io38_0 : InstOk Try.prog 38 nt38 ⟨pa38_0, Fn38_0 f38_0⟩ := inst_ok eo38_0 followsTry is38 ⟨⟨sh38, cm38_0, by kernel_rfl, gm38_0, fm38_0⟩⟩

/-! ### F26 etalon/grow.SecondsFor -/
abbrev nt26 : Nat := 28
def sh26 : List (Nat × List Sh) := [(7, [.int .i64, .int .i64]), (20, [.int .i64]), (25, [.int .i64])]
def r26_2 : List AOper := [⟨(some 2), (.box (.tmp 0)), none⟩, ⟨(some 4), (.alloc [(.d (.v (.int .i64 0))), (.d (.v (.int .i64 0)))]), none⟩, ⟨(some 5), (.mv (.const (.int .i64 0))), none⟩]
def r26_5 : List AOper := [⟨(some 7), (.load true 2 (.tmp 2)), none⟩, ⟨(some 8), (.call 89 [(.tmp 7)]), none⟩, ⟨(some 6), (.mv (.tmp 8)), none⟩]
def r26_7 : List AOper := [⟨(some 9), (.mv (.tmp 6)), none⟩, ⟨(some 10), (.bin .neq 32 (.tmp 9) (.const (.int .i64 0))), none⟩]
def r26_10 : List AOper := [⟨(some 11), (.build [(.d (.v (.int .i64 0))), (.d (.v (.int .i64 0)))] []), none⟩, ⟨(some 12), (.mv (.tmp 6)), none⟩, ⟨none, (.store 2 (.tmp 4) (.tmp 11)), none⟩, ⟨(some 5), (.mv (.tmp 12)), none⟩]
def r26_13 : List AOper := [⟨(some 13), (.mv (.tmp 1)), none⟩, ⟨(some 14), (.call 78 [(.tmp 13), (.const (.int .i64 0)), (.const (.int .i64 1000000))]), none⟩, ⟨(some 15), (.pure (oB (.unOp .not 4 (.tmp 14)) 4)), none⟩]
def r26_16 : List AOper := [⟨(some 16), (.build [(.d (.v (.int .i64 0))), (.d (.v (.int .i64 0)))] []), none⟩, ⟨none, (.store 2 (.tmp 4) (.tmp 16)), none⟩, ⟨(some 5), (.mv (.const (.int .i64 2))), none⟩]
def r26_18 : List AOper := [⟨(some 17), (.mv (.tmp 1)), none⟩, ⟨(some 18), (.bin .mul 3 (.tmp 17) (.const (.int .i64 1000))), none⟩, ⟨(some 19), (.faddr 1 (.tmp 2)), none⟩, ⟨(some 20), (.load false 1 (.tmp 19)), none⟩, ⟨(some 21), (.call 92 [(.tmp 18), (.tmp 20)]), none⟩, ⟨(some 22), (.mv (.tmp 1)), none⟩, ⟨(some 23), (.bin .mul 3 (.tmp 22) (.const (.int .i64 1000))), none⟩, ⟨(some 24), (.faddr 0 (.tmp 2)), none⟩, ⟨(some 25), (.load false 1 (.tmp 24)), none⟩, ⟨(some 26), (.call 92 [(.tmp 23), (.tmp 25)]), none⟩, ⟨(some 27), (.build [(.d (.v (.int .i64 0))), (.d (.v (.int .i64 0)))] [(0, 1, (.tmp 21)), (1, 1, (.tmp 26))]), none⟩, ⟨none, (.store 2 (.tmp 4) (.tmp 27)), none⟩, ⟨(some 5), (.mv (.const (.int .i64 0))), none⟩]
def tr26 : List (Nat × Tidy) := [(0, ⟨[1, 2, 4], true, [], []⟩), (1, ⟨[1, 2, 4, 6], true, [], []⟩), (2, ⟨[1, 2, 4, 6, 10], true, [], []⟩), (3, ⟨[4, 5], true, [], []⟩), (4, ⟨[1, 2, 4, 15], true, [], []⟩), (5, ⟨[4, 5], true, [], []⟩), (6, ⟨[4, 5], true, [], []⟩)]
def tl26 : List (Nat × Tidy) := []
def rs26 : List AResV := [.cell 4 true 2, .tmp 5]
def pr26_0_0 : PT (List RV) := pRs [pR true [rD (dI .i64), rD (dI .i64)], pR false [rD (dI .i64)]]
def ur26_0_0 {β : Type} (g : List RV → β) : Int → Int → Int → β := pr26_0_0.unc g

def E26_0g (vf89_0 : Tf89_0) (vf78_0 : Tf78_0) (vf92_0 : Tf92_0) : EnvK := EnvK.of [⟨89, nt89, [⟨pa89_0, Fn89_0 vf89_0⟩]⟩, ⟨78, nt78, [⟨pa78_0, Fn78_0 vf78_0⟩]⟩, ⟨92, nt92, [⟨pa92_0, Fn92_0 vf92_0⟩]⟩] noSeq
noncomputable def E26_0 : EnvK := E26_0g f89_0 f78_0 f92_0
theorem eo26_0 : E26_0.Ok Try.prog := EnvK.of_ok noSeq_ok ⟨⟨io89_0, trivial⟩, ⟨io78_0, trivial⟩, ⟨io92_0, trivial⟩, trivial⟩

/-- etalon/grow.SecondsFor -/
abbrev Tf26_0 : Type 1 := (α : Type) → Int → Int → Int → (Int → Int → Int → Option α) → Option α
def f26_0g (vf78_0 : Tf78_0) (vf89_0 : Tf89_0) (vf92_0 : Tf92_0) (α : Type) (x1 : Int) (x2 : Int) (x3 : Int) (k1 : Int → Int → Int → Option α) : Option α :=
  vf89_0 α x1 x2
    (fun (x4 : Int) => cK (x4 != 0)
      (k1 0 0 x4)
      (vf78_0 α x3 0 1000000
        (fun (x5 : Bool) => cK (!x5)
          (k1 0 0 2)
          (vf92_0 α (w64 (x3 * 1000)) x2
            (fun (x6 : Int) => vf92_0 α (w64 (x3 * 1000)) x1
              (fun (x7 : Int) => k1 x6 x7 0))))))
noncomputable def f26_0 (α : Type) (x1 : Int) (x2 : Int) (x3 : Int) (k1 : Int → Int → Int → Option α) : Option α := f26_0g f78_0 f89_0 f92_0 α x1 x2 x3 k1
def pa26_0 : PT (List DV) := pA [pV true [(dI .i64), (dI .i64)], pV false [(dI .i64)]]
def Fn26_0 (v : Tf26_0) (α : Type) (k : List RV → Option α) : Int → Int → Int → Option α := fun x1 x2 x3 => v α x1 x2 x3 (fun (y1 : Int) (y2 : Int) (y3 : Int) => ur26_0_0 k y1 y2 y3)
noncomputable def cm26_0g  : MCode := (.seq (.region r26_2 [] (some ⟨[1, 2, 4], true, [], []⟩)) (.seq (.seq (.region r26_5 [] (some ⟨[1, 2, 4, 6], true, [], []⟩)) (.seq (.region r26_7 [] (some ⟨[1, 2, 4, 6, 10], true, [], []⟩)) (.cond (.tmp 10) (.seq (.region r26_10 [] (some ⟨[4, 5], true, [], []⟩)) .ret) .skip))) (.seq (.seq (.region r26_13 [] (some ⟨[1, 2, 4, 15], true, [], []⟩)) (.cond (.tmp 15) (.seq (.region r26_16 [] (some ⟨[4, 5], true, [], []⟩)) .ret) .skip)) (.seq (.region r26_18 [(4, 8)] (some ⟨[4, 5], true, [], []⟩)) .ret))))
noncomputable def cm26_0 : MCode := cm26_0g 
theorem gm26_0 : cm26_0.Good Try.prog E26_0 sh26 := ⟨trivial, ⟨⟨trivial, ⟨trivial, ⟨⟨trivial, trivial⟩, trivial⟩⟩⟩, ⟨⟨trivial, ⟨⟨trivial, trivial⟩, trivial⟩⟩, ⟨trivial, trivial⟩⟩⟩⟩
theorem fm26_0g (vf89_0 : Tf89_0) (vf78_0 : Tf78_0) (vf92_0 : Tf92_0)  (α : Type) (k : List RV → Option α) : Fn26_0 (f26_0g vf78_0 vf89_0 vf92_0) α k = pa26_0.unc fun ds => fnM Try.prog (E26_0g vf89_0 vf78_0 vf92_0) sh26 (cm26_0g ) rs26 k ds := by kernel_rfl
theorem fm26_0 : ∀ (α : Type) (k : List RV → Option α), Fn26_0 f26_0 α k = pa26_0.unc fun ds => fnM Try.prog E26_0 sh26 cm26_0 rs26 k ds := fm26_0g f89_0 f78_0 f92_0

theorem is26 : FnIs Try.prog 26 nt26 tr26 tl26 cm26_0.erase rs26 := ⟨Try.f26, Try.func26, rfl, by kernel_rfl, by kernel_rfl, by kernel_rfl⟩
theorem io26_0 : InstOk Try.prog 26 nt26 ⟨pa26_0, Fn26_0 f26_0⟩ := inst_ok eo26_0 followsTry is26 ⟨⟨sh26, cm26_0, by kernel_rfl, gm26_0, fm26_0⟩⟩

/-! ### F25 etalon/grow.Grown -/
abbrev nt25 : Nat := 30
def sh25 : List (Nat × List Sh) := [(7, [.int .i64, .int .i64]), (9, [.int .i64, .int .i64]), (18, [.int .i64]), (20, [.int .i64]), (24, [.int .i64]), (26, [.int .i64])]
def r25_2 : List AOper := [⟨(some 2), (.box (.tmp 0)), none⟩, ⟨(some 3), (.box (.tmp 1)), none⟩, ⟨(some 4), (.alloc [(.d (.v (.int .i64 0))), (.d (.v (.int .i64 0)))]), none⟩, ⟨(some 5), (.mv (.const (.int .i64 0))), none⟩]
def r25_5 : List AOper := [⟨(some 7), (.load true 2 (.tmp 2)), none⟩, ⟨(some 8), (.call 89 [(.tmp 7)]), none⟩, ⟨(some 9), (.load true 2 (.tmp 3)), none⟩, ⟨(some 10), (.call 90 [(.tmp 9)]), none⟩, ⟨(some 11), (.bslice 1 2 [(.v (.int .i64 0))] [(0, (.tmp 8)), (1, (.tmp 10))]), none⟩, ⟨(some 12), (.call 88 [(.tmp 11)]), none⟩, ⟨(some 6), (.mv (.tmp 12)), none⟩]
def r25_7 : List AOper := [⟨(some 13), (.mv (.tmp 6)), none⟩, ⟨(some 14), (.bin .neq 32 (.tmp 13) (.const (.int .i64 0))), none⟩]
def r25_10 : List AOper := [⟨(some 15), (.build [(.d (.v (.int .i64 0))), (.d (.v (.int .i64 0)))] []), none⟩, ⟨(some 16), (.mv (.tmp 6)), none⟩, ⟨none, (.store 2 (.tmp 4) (.tmp 15)), none⟩, ⟨(some 5), (.mv (.tmp 16)), none⟩]
def r25_12 : List AOper := [⟨(some 17), (.faddr 0 (.tmp 2)), none⟩, ⟨(some 18), (.load false 1 (.tmp 17)), none⟩, ⟨(some 19), (.faddr 0 (.tmp 3)), none⟩, ⟨(some 20), (.load false 1 (.tmp 19)), none⟩, ⟨(some 21), (.bin .mul 3 (.tmp 18) (.tmp 20)), none⟩, ⟨(some 22), (.call 91 [(.tmp 21), (.const (.int .i64 1000))]), none⟩, ⟨(some 23), (.faddr 1 (.tmp 2)), none⟩, ⟨(some 24), (.load false 1 (.tmp 23)), none⟩, ⟨(some 25), (.faddr 1 (.tmp 3)), none⟩, ⟨(some 26), (.load false 1 (.tmp 25)), none⟩, ⟨(some 27), (.bin .mul 3 (.tmp 24) (.tmp 26)), none⟩, ⟨(some 28), (.call 92 [(.tmp 27), (.const (.int .i64 1000))]), none⟩, ⟨(some 29), (.build [(.d (.v (.int .i64 0))), (.d (.v (.int .i64 0)))] [(0, 1, (.tmp 22)), (1, 1, (.tmp 28))]), none⟩, ⟨none, (.store 2 (.tmp 4) (.tmp 29)), none⟩, ⟨(some 5), (.mv (.const (.int .i64 0))), none⟩]
def tr25 : List (Nat × Tidy) := [(0, ⟨[2, 3, 4], true, [], []⟩), (1, ⟨[2, 3, 4, 6], true, [], []⟩), (2, ⟨[2, 3, 4, 6, 14], true, [], []⟩), (3, ⟨[4, 5], true, [], []⟩), (4, ⟨[4, 5], true, [], []⟩)]
def tl25 : List (Nat × Tidy) := []
def rs25 : List AResV := [.cell 4 true 2, .tmp 5]
def pr25_0_0 : PT (List RV) := pRs [pR true [rD (dI .i64), rD (dI .i64)], pR false [rD (dI .i64)]]
def ur25_0_0 {β : Type} (g : List RV → β) : Int → Int → Int → β := pr25_0_0.unc g

def E25_0g (vf89_0 : Tf89_0) (vf90_0 : Tf90_0) (vf88_0 : Tf88_0) (vf91_0 : Tf91_0) (vf92_0 : Tf92_0) : EnvK := EnvK.of [⟨89, nt89, [⟨pa89_0, Fn89_0 vf89_0⟩]⟩, ⟨90, nt90, [⟨pa90_0, Fn90_0 vf90_0⟩]⟩, ⟨88, nt88, [⟨pa88_0, Fn88_0 vf88_0⟩]⟩, ⟨91, nt91, [⟨pa91_0, Fn91_0 vf91_0⟩]⟩, ⟨92, nt92, [⟨pa92_0, Fn92_0 vf92_0⟩]⟩] noSeq
noncomputable def E25_0 : EnvK := E25_0g f89_0 f90_0 f88_0 f91_0 f92_0
theorem eo25_0 : E25_0.Ok Try.prog := EnvK.of_ok noSeq_ok ⟨⟨io89_0, trivial⟩, ⟨io90_0, trivial⟩, ⟨io88_0, trivial⟩, ⟨io91_0, trivial⟩, ⟨io92_0, trivial⟩, trivial⟩

/-- etalon/grow.Grown -/
abbrev Tf25_0 : Type 1 := (α : Type) → Int → Int → Int → Int → (Int → Int → Int → Option α) → Option α
def f25_0g (vf88_0 : Tf88_0) (vf89_0 : Tf89_0) (vf90_0 : Tf90_0) (vf91_0 : Tf91_0) (vf92_0 : Tf92_0) (α : Type) (x1 : Int) (x2 : Int) (x3 : Int) (x4 : Int) (k1 : Int → Int → Int → Option α) : Option α :=
  vf89_0 α x1 x2
    (fun (x5 : Int) => vf90_0 α x3 x4
      (fun (x6 : Int) => vf88_0 α [[DC.v (.int .i64 x5)], [DC.v (.int .i64 x6)]]
        (fun (x7 : Int) => cK (x7 != 0)
          (k1 0 0 x7)
          (vf91_0 α (w64 (x1 * x3)) 1000
            (fun (x8 : Int) => vf92_0 α (w64 (x2 * x4)) 1000
              (fun (x9 : Int) => k1 x8 x9 0))))))
noncomputable def f25_0 (α : Type) (x1 : Int) (x2 : Int) (x3 : Int) (x4 : Int) (k1 : Int → Int → Int → Option α) : Option α := f25_0g f88_0 f89_0 f90_0 f91_0 f92_0 α x1 x2 x3 x4 k1
def pa25_0 : PT (List DV) := pA [pV true [(dI .i64), (dI .i64)], pV true [(dI .i64), (dI .i64)]]
def Fn25_0 (v : Tf25_0) (α : Type) (k : List RV → Option α) : Int → Int → Int → Int → Option α := fun x1 x2 x3 x4 => v α x1 x2 x3 x4 (fun (y1 : Int) (y2 : Int) (y3 : Int) => ur25_0_0 k y1 y2 y3)
noncomputable def cm25_0g  : MCode := (.seq (.region r25_2 [] (some ⟨[2, 3, 4], true, [], []⟩)) (.seq (.seq (.region r25_5 [(1, 2)] (some ⟨[2, 3, 4, 6], true, [], []⟩)) (.seq (.region r25_7 [] (some ⟨[2, 3, 4, 6, 14], true, [], []⟩)) (.cond (.tmp 14) (.seq (.region r25_10 [] (some ⟨[4, 5], true, [], []⟩)) .ret) .skip))) (.seq (.region r25_12 [(5, 7), (5, 9)] (some ⟨[4, 5], true, [], []⟩)) .ret)))
noncomputable def cm25_0 : MCode := cm25_0g 
theorem gm25_0 : cm25_0.Good Try.prog E25_0 sh25 := ⟨trivial, ⟨⟨trivial, ⟨trivial, ⟨⟨trivial, trivial⟩, trivial⟩⟩⟩, ⟨trivial, trivial⟩⟩⟩
theorem fm25_0g (vf89_0 : Tf89_0) (vf90_0 : Tf90_0) (vf88_0 : Tf88_0) (vf91_0 : Tf91_0) (vf92_0 : Tf92_0)  (α : Type) (k : List RV → Option α) : Fn25_0 (f25_0g vf88_0 vf89_0 vf90_0 vf91_0 vf92_0) α k = pa25_0.unc fun ds => fnM Try.prog (E25_0g vf89_0 vf90_0 vf88_0 vf91_0 vf92_0) sh25 (cm25_0g ) rs25 k ds := by kernel_rfl
theorem fm25_0 : ∀ (α : Type) (k : List RV → Option α), Fn25_0 f25_0 α k = pa25_0.unc fun ds => fnM Try.prog E25_0 sh25 cm25_0 rs25 k ds := fm25_0g f89_0 f90_0 f88_0 f91_0 f92_0

theorem is25 : FnIs Try.prog 25 nt25 tr25 tl25 cm25_0.erase rs25 := ⟨Try.f25, Try.func25, rfl, by kernel_rfl, by kernel_rfl, by kernel_rfl⟩
theorem io25_0 : InstOk Try.prog 25 nt25 ⟨pa25_0, Fn25_0 f25_0⟩ := inst_ok eo25_0 followsTry is25 ⟨⟨sh25, cm25_0, by kernel_rfl, gm25_0, fm25_0⟩⟩

/-! ### F8 etalon/etalonlaw08.GrowQuarters -/
abbrev nt8 : Nat := 156
def sh8 : List (Nat × List Sh) := [(18, [.int .i64, .int .i64, .int .i64]), (23, [.int .i64, .int .i64, .int .i64]), (25, [.int .i64, .int .i64]), (30, [.int .i64, .int .i64, .int .i64]), (32, [.int .i64, .int .i64]), (34, [.int .i64, .int .i64]), (38, [.int .i64, .int .i64, .int .i64]), (56, [.int .i64, .int .i64]), (61, [.int .i64, .int .i64]), (66, [.int .i64, .int .i64]), (73, [.int .i64, .int .i64]), (74, [.int .i64, .int .i64, .int .i64]), (79, [.int .i64, .int .i64]), (87, [.int .i64]), (97, [.int .i64, .int .i64]), (106, [.int .i64, .int .i64]), (107, [.int .i64, .int .i64, .int .i64]), (109, [.int .i64, .int .i64]), (115, [.int .i64, .int .i64]), (126, [.int .i64, .int .i64]), (133, [.int .i64, .int .i64]), (134, [.int .i64, .int .i64, .int .i64]), (136, [.int .i64, .int .i64]), (138, [.int .i64, .int .i64]), (144, [.int .i64]), (146, [.int .i64]), (151, [.int .i64]), (153, [.int .i64])]
def r8_2 : List AOper := [⟨(some 2), (.box (.tmp 0)), none⟩, ⟨(some 3), (.box (.tmp 1)), none⟩, ⟨(some 4), (.mv (.const (.bool false))), none⟩]
def r8_5 : List AOper := [⟨(some 15), (.call 14 []), none⟩, ⟨(some 16), (.pure (oB (.unOp .not 4 (.tmp 15)) 4)), none⟩]
def r8_8 : List AOper := [⟨(some 4), (.mv (.const (.bool false))), none⟩]
def r8_10 : List AOper := [⟨(some 18), (.load true 3 (.tmp 2)), none⟩, ⟨(some 19), (.call 37 [(.tmp 18)]), none⟩, ⟨(some 17), (.mv (.tmp 19)), none⟩, ⟨(some 20), (.extract 0 (.tmp 17)), none⟩, ⟨(some 21), (.extract 1 (.tmp 17)), none⟩, ⟨(some 5), (.alloc [(.d (.v (.int .i64 0))), (.d (.v (.int .i64 0)))]), none⟩, ⟨none, (.store 2 (.tmp 5) (.tmp 20)), none⟩, ⟨(some 6), (.mv (.tmp 21)), none⟩]
def r8_12 : List AOper := [⟨(some 23), (.load true 3 (.tmp 2)), none⟩, ⟨(some 24), (.faddr 2 (.tmp 3)), none⟩, ⟨(some 25), (.load true 2 (.tmp 24)), none⟩, ⟨(some 26), (.call 38 [(.tmp 23), (.tmp 25)]), none⟩, ⟨(some 22), (.mv (.tmp 26)), none⟩, ⟨(some 27), (.extract 0 (.tmp 22)), none⟩, ⟨(some 28), (.extract 1 (.tmp 22)), none⟩, ⟨(some 7), (.alloc [(.d (.v (.int .i64 0))), (.d (.v (.int .i64 0)))]), none⟩, ⟨none, (.store 2 (.tmp 7) (.tmp 27)), none⟩, ⟨(some 8), (.mv (.tmp 28)), none⟩]
def r8_14 : List AOper := [⟨(some 30), (.load true 3 (.tmp 2)), none⟩, ⟨(some 31), (.faddr 0 (.tmp 3)), none⟩, ⟨(some 32), (.load true 2 (.tmp 31)), none⟩, ⟨(some 33), (.faddr 2 (.tmp 3)), none⟩, ⟨(some 34), (.load true 2 (.tmp 33)), none⟩, ⟨(some 35), (.call 39 [(.tmp 30), (.tmp 32), (.tmp 34)]), none⟩, ⟨(some 29), (.mv (.tmp 35)), none⟩, ⟨(some 36), (.extract 0 (.tmp 29)), none⟩, ⟨(some 37), (.extract 1 (.tmp 29)), none⟩, ⟨(some 9), (.alloc [(.d (.v (.int .i64 0))), (.d (.v (.int .i64 0)))]), none⟩, ⟨none, (.store 2 (.tmp 9) (.tmp 36)), none⟩, ⟨(some 10), (.mv (.tmp 37)), none⟩]
def r8_17 : List AOper := [⟨(some 38), (.load true 3 (.tmp 2)), none⟩, ⟨(some 39), (.call 40 [(.tmp 38)]), none⟩, ⟨(some 11), (.mv (.tmp 39)), none⟩]
def r8_19 : List AOper := [⟨(some 40), (.mv (.tmp 11)), none⟩, ⟨(some 41), (.bin .neq 3 (.tmp 40) (.const (.int .i64 0))), none⟩]
def r8_22 : List AOper := [⟨(some 42), (.mv (.tmp 6)), none⟩, ⟨(some 43), (.mv (.tmp 11)), none⟩, ⟨(some 44), (.bin .eql 3 (.tmp 42) (.tmp 43)), none⟩, ⟨(some 45), (.mv (.tmp 44)), none⟩, ⟨(some 46), (.mv (.tmp 8)), (some (45, true))⟩, ⟨(some 47), (.mv (.tmp 11)), (some (45, true))⟩, ⟨(some 48), (.bin .eql 3 (.tmp 46) (.tmp 47)), (some (45, true))⟩, ⟨(some 49), (.pick (.tmp 45) (.tmp 48) (.const (.bool false))), none⟩, ⟨(some 50), (.mv (.tmp 49)), none⟩, ⟨(some 51), (.mv (.tmp 10)), (some (50, true))⟩, ⟨(some 52), (.mv (.tmp 11)), (some (50, true))⟩, ⟨(some 53), (.bin .eql 3 (.tmp 51) (.tmp 52)), (some (50, true))⟩, ⟨(some 54), (.pick (.tmp 50) (.tmp 53) (.const (.bool false))), none⟩, ⟨(some 55), (.mv (.tmp 54)), none⟩, ⟨(some 56), (.load true 2 (.tmp 5)), (some (55, true))⟩, ⟨(some 57), (.build [(.d (.v (.int .i64 0))), (.d (.v (.int .i64 0)))] []), (some (55, true))⟩, ⟨(some 58), (.bin .eql 23 (.tmp 56) (.tmp 57)), (some (55, true))⟩, ⟨(some 59), (.pick (.tmp 55) (.tmp 58) (.const (.bool false))), none⟩, ⟨(some 60), (.mv (.tmp 59)), none⟩, ⟨(some 61), (.load true 2 (.tmp 7)), (some (60, true))⟩, ⟨(some 62), (.build [(.d (.v (.int .i64 0))), (.d (.v (.int .i64 0)))] []), (some (60, true))⟩, ⟨(some 63), (.bin .eql 23 (.tmp 61) (.tmp 62)), (some (60, true))⟩, ⟨(some 64), (.pick (.tmp 60) (.tmp 63) (.const (.bool false))), none⟩, ⟨(some 65), (.mv (.tmp 64)), none⟩, ⟨(some 66), (.load true 2 (.tmp 9)), (some (65, true))⟩, ⟨(some 67), (.build [(.d (.v (.int .i64 0))), (.d (.v (.int .i64 0)))] []), (some (65, true))⟩, ⟨(some 68), (.bin .eql 23 (.tmp 66) (.tmp 67)), (some (65, true))⟩, ⟨(some 69), (.pick (.tmp 65) (.tmp 68) (.const (.bool false))), none⟩, ⟨(some 4), (.mv (.tmp 69)), none⟩]
def r8_25 : List AOper := [⟨(some 70), (.mv (.tmp 6)), none⟩, ⟨(some 71), (.bin .neq 32 (.tmp 70) (.const (.int .i64 0))), none⟩, ⟨(some 72), (.mv (.tmp 71)), none⟩, ⟨(some 73), (.load true 2 (.tmp 5)), (some (72, false))⟩, ⟨(some 74), (.load true 3 (.tmp 2)), (some (72, false))⟩, ⟨(some 75), (.call 41 [(.tmp 74)]), (some (72, false))⟩, ⟨(some 76), (.bin .neq 23 (.tmp 73) (.tmp 75)), (some (72, false))⟩, ⟨(some 77), (.pick (.tmp 72) (.const (.bool true)) (.tmp 76)), none⟩]
def r8_28 : List AOper := [⟨(some 4), (.mv (.const (.bool false))), none⟩]
def r8_30 : List AOper := [⟨(some 78), (.faddr 2 (.tmp 3)), none⟩, ⟨(some 79), (.load true 2 (.tmp 78)), none⟩, ⟨(some 80), (.call 28 [(.tmp 79)]), none⟩, ⟨(some 12), (.mv (.tmp 80)), none⟩]
def r8_32 : List AOper := [⟨(some 81), (.mv (.tmp 12)), none⟩, ⟨(some 13), (.mv (.tmp 81)), none⟩]
def r8_35 : List AOper := [⟨(some 82), (.mv (.tmp 13)), none⟩, ⟨(some 83), (.bin .eql 3 (.tmp 82) (.const (.int .i64 0))), none⟩, ⟨(some 84), (.mv (.tmp 83)), none⟩, ⟨(some 85), (.faddr 2 (.tmp 3)), (some (84, true))⟩, ⟨(some 86), (.faddr 0 (.tmp 85)), (some (84, true))⟩, ⟨(some 87), (.load false 1 (.tmp 86)), (some (84, true))⟩, ⟨(some 88), (.bin .eql 3 (.tmp 87) (.const (.int .i64 0))), (some (84, true))⟩, ⟨(some 89), (.pick (.tmp 84) (.tmp 88) (.const (.bool false))), none⟩]
def r8_37 : List AOper := [⟨(some 13), (.mv (.const (.int .i64 9))), none⟩]
def r8_40 : List AOper := [⟨(some 90), (.mv (.tmp 8)), none⟩, ⟨(some 91), (.mv (.tmp 13)), none⟩, ⟨(some 92), (.bin .neq 3 (.tmp 90) (.tmp 91)), none⟩, ⟨(some 93), (.mv (.tmp 92)), none⟩, ⟨(some 94), (.mv (.tmp 13)), (some (93, false))⟩, ⟨(some 95), (.bin .neq 3 (.tmp 94) (.const (.int .i64 0))), (some (93, false))⟩, ⟨(some 96), (.mv (.tmp 95)), (some (93, false))⟩, ⟨(some 97), (.load true 2 (.tmp 7)), (some (96, true))⟩, ⟨(some 98), (.build [(.d (.v (.int .i64 0))), (.d (.v (.int .i64 0)))] []), (some (96, true))⟩, ⟨(some 99), (.bin .neq 23 (.tmp 97) (.tmp 98)), (some (96, true))⟩, ⟨(some 100), (.pick (.tmp 96) (.tmp 99) (.const (.bool false))), (some (93, false))⟩, ⟨(some 101), (.pick (.tmp 93) (.const (.bool true)) (.tmp 100)), none⟩, ⟨(some 102), (.mv (.tmp 101)), none⟩, ⟨(some 103), (.mv (.tmp 13)), (some (102, false))⟩, ⟨(some 104), (.bin .eql 3 (.tmp 103) (.const (.int .i64 0))), (some (102, false))⟩, ⟨(some 105), (.mv (.tmp 104)), (some (102, false))⟩, ⟨(some 106), (.load true 2 (.tmp 7)), (some (105, true))⟩, ⟨(some 107), (.load true 3 (.tmp 2)), (some (105, true))⟩, ⟨(some 108), (.faddr 2 (.tmp 3)), (some (105, true))⟩, ⟨(some 109), (.load true 2 (.tmp 108)), (some (105, true))⟩, ⟨(some 110), (.call 42 [(.tmp 107), (.tmp 109)]), (some (105, true))⟩, ⟨(some 111), (.bin .neq 23 (.tmp 106) (.tmp 110)), (some (105, true))⟩, ⟨(some 112), (.pick (.tmp 105) (.tmp 111) (.const (.bool false))), (some (102, false))⟩, ⟨(some 113), (.pick (.tmp 102) (.const (.bool true)) (.tmp 112)), none⟩]
def r8_43 : List AOper := [⟨(some 4), (.mv (.const (.bool false))), none⟩]
def r8_46 : List AOper := [⟨(some 114), (.faddr 0 (.tmp 3)), none⟩, ⟨(some 115), (.load true 2 (.tmp 114)), none⟩, ⟨(some 116), (.call 27 [(.tmp 115)]), none⟩, ⟨(some 14), (.mv (.tmp 116)), none⟩]
def r8_48 : List AOper := [⟨(some 117), (.mv (.tmp 14)), none⟩, ⟨(some 118), (.bin .neq 3 (.tmp 117) (.const (.int .i64 0))), none⟩]
def r8_50 : List AOper := [⟨(some 119), (.mv (.tmp 14)), none⟩, ⟨(some 12), (.mv (.tmp 119)), none⟩]
def r8_53 : List AOper := [⟨(some 120), (.mv (.tmp 12)), none⟩, ⟨(some 121), (.bin .neq 3 (.tmp 120) (.const (.int .i64 0))), none⟩]
def r8_56 : List AOper := [⟨(some 122), (.mv (.tmp 10)), none⟩, ⟨(some 123), (.mv (.tmp 12)), none⟩, ⟨(some 124), (.bin .eql 3 (.tmp 122) (.tmp 123)), none⟩, ⟨(some 125), (.mv (.tmp 124)), none⟩, ⟨(some 126), (.load true 2 (.tmp 9)), (some (125, true))⟩, ⟨(some 127), (.build [(.d (.v (.int .i64 0))), (.d (.v (.int .i64 0)))] []), (some (125, true))⟩, ⟨(some 128), (.bin .eql 23 (.tmp 126) (.tmp 127)), (some (125, true))⟩, ⟨(some 129), (.pick (.tmp 125) (.tmp 128) (.const (.bool false))), none⟩, ⟨(some 4), (.mv (.tmp 129)), none⟩]
def r8_58 : List AOper := [⟨(some 130), (.mv (.tmp 10)), none⟩, ⟨(some 131), (.bin .eql 32 (.tmp 130) (.const (.int .i64 0))), none⟩, ⟨(some 132), (.mv (.tmp 131)), none⟩, ⟨(some 133), (.load true 2 (.tmp 9)), (some (132, true))⟩, ⟨(some 134), (.load true 3 (.tmp 2)), (some (132, true))⟩, ⟨(some 135), (.faddr 0 (.tmp 3)), (some (132, true))⟩, ⟨(some 136), (.load true 2 (.tmp 135)), (some (132, true))⟩, ⟨(some 137), (.faddr 2 (.tmp 3)), (some (132, true))⟩, ⟨(some 138), (.load true 2 (.tmp 137)), (some (132, true))⟩, ⟨(some 139), (.call 43 [(.tmp 134), (.tmp 136), (.tmp 138)]), (some (132, true))⟩, ⟨(some 140), (.bin .eql 23 (.tmp 133) (.tmp 139)), (some (132, true))⟩, ⟨(some 141), (.pick (.tmp 132) (.tmp 140) (.const (.bool false))), none⟩, ⟨(some 142), (.mv (.tmp 141)), none⟩, ⟨(some 143), (.faddr 0 (.tmp 9)), (some (142, true))⟩, ⟨(some 144), (.load false 1 (.tmp 143)), (some (142, true))⟩, ⟨(some 145), (.faddr 0 (.tmp 5)), (some (142, true))⟩, ⟨(some 146), (.load false 1 (.tmp 145)), (some (142, true))⟩, ⟨(some 147), (.bin .geq 3 (.tmp 144) (.tmp 146)), (some (142, true))⟩, ⟨(some 148), (.pick (.tmp 142) (.tmp 147) (.const (.bool false))), none⟩, ⟨(some 149), (.mv (.tmp 148)), none⟩, ⟨(some 150), (.faddr 1 (.tmp 9)), (some (149, true))⟩, ⟨(some 151), (.load false 1 (.tmp 150)), (some (149, true))⟩, ⟨(some 152), (.faddr 1 (.tmp 5)), (some (149, true))⟩, ⟨(some 153), (.load false 1 (.tmp 152)), (some (149, true))⟩, ⟨(some 154), (.bin .geq 3 (.tmp 151) (.tmp 153)), (some (149, true))⟩, ⟨(some 155), (.pick (.tmp 149) (.tmp 154) (.const (.bool false))), none⟩, ⟨(some 4), (.mv (.tmp 155)), none⟩]
def tr8 : List (Nat × Tidy) := [(0, ⟨[2, 3], true, [], []⟩), (1, ⟨[2, 3, 16], true, [], []⟩), (2, ⟨[4], true, [], []⟩), (3, ⟨[2, 3, 5, 6], true, [], []⟩), (4, ⟨[2, 3, 5, 6, 7, 8], true, [], []⟩), (5, ⟨[2, 3, 5, 6, 7, 8, 9, 10], true, [], []⟩), (6, ⟨[2, 3, 5, 6, 7, 8, 9, 10, 11], true, [], []⟩), (7, ⟨[2, 3, 5, 6, 7, 8, 9, 10, 11, 41], true, [], []⟩), (8, ⟨[4], true, [], []⟩), (9, ⟨[2, 3, 5, 7, 8, 9, 10, 77], true, [], []⟩), (10, ⟨[4], true, [], []⟩), (11, ⟨[2, 3, 5, 7, 8, 9, 10, 12], true, [], []⟩), (12, ⟨[2, 3, 5, 7, 8, 9, 10, 12, 13], true, [], []⟩), (13, ⟨[2, 3, 5, 7, 8, 9, 10, 12, 13, 89], true, [], []⟩), (14, ⟨[2, 3, 5, 7, 8, 9, 10, 12, 13], true, [], []⟩), (15, ⟨[2, 3, 5, 9, 10, 12, 113], true, [], []⟩), (16, ⟨[4], true, [], []⟩), (17, ⟨[2, 3, 5, 9, 10, 12, 14], true, [], []⟩), (18, ⟨[2, 3, 5, 9, 10, 12, 14, 118], true, [], []⟩), (19, ⟨[2, 3, 5, 9, 10, 12], true, [], []⟩), (20, ⟨[2, 3, 5, 9, 10, 12, 121], true, [], []⟩), (21, ⟨[4], true, [], []⟩), (22, ⟨[4], true, [], []⟩)]
def tl8 : List (Nat × Tidy) := []
def rs8 : List AResV := [.tmp 4]
def p8_0_0 : PT St := pS [sl 2 (aV false [(cPtr 2 0)]), sl 3 (aV false [(cPtr 3 0)]), sl 5 (aV false [(cPtr 5 0)]), sl 7 (aV false [(cPtr 7 0)]), sl 8 (aV false [(cD (dI .i64))]), sl 9 (aV false [(cPtr 9 0)]), sl 10 (aV false [(cD (dI .i64))]), sl 12 (aV false [(cD (dI .i64))]), sl 13 (aV false [(cD (dI .i64))])] [eBox 2 [(cD (dI .i64)), (cD (dI .i64)), (cD (dI .i64))], eBox 3 [(cD (dI .i64)), (cD (dI .i64)), (cD (dI .i64)), (cD (dI .i64))], eBox 5 [(cD (dI .i64)), (cD (dI .i64))], eBox 7 [(cD (dI .i64)), (cD (dI .i64))], eBox 9 [(cD (dI .i64)), (cD (dI .i64))]]
def u8_0_0 {β : Type} (g : St → β) : Int → Int → Int → Int → Int → Int → Int → Int → Int → Int → Int → Int → Int → Int → Int → Int → Int → β := p8_0_0.unc g

def p8_0_1 : PT St := pS [sl 2 (aV false [(cPtr 2 0)]), sl 3 (aV false [(cPtr 3 0)]), sl 5 (aV false [(cPtr 5 0)]), sl 7 (aV false [(cPtr 7 0)]), sl 8 (aV false [(cD (dI .i64))]), sl 9 (aV false [(cPtr 9 0)]), sl 10 (aV false [(cD (dI .i64))]), sl 12 (aV false [(cD (dI .i64))]), sl 13 (aV false [(cD (dI .i64))]), sl 89 (aV false [(cD dB)])] [eBox 2 [(cD (dI .i64)), (cD (dI .i64)), (cD (dI .i64))], eBox 3 [(cD (dI .i64)), (cD (dI .i64)), (cD (dI .i64)), (cD (dI .i64))], eBox 5 [(cD (dI .i64)), (cD (dI .i64))], eBox 7 [(cD (dI .i64)), (cD (dI .i64))], eBox 9 [(cD (dI .i64)), (cD (dI .i64))]]
def u8_0_1 {β : Type} (g : St → β) : Int → Int → Int → Int → Bool → Int → Int → Int → Int → Int → Int → Int → Int → Int → Int → Int → Int → Int → β := p8_0_1.unc g

def p8_0_2 : PT St := pS [sl 2 (aV false [(cPtr 2 0)]), sl 3 (aV false [(cPtr 3 0)]), sl 5 (aV false [(cPtr 5 0)]), sl 9 (aV false [(cPtr 9 0)]), sl 10 (aV false [(cD (dI .i64))]), sl 12 (aV false [(cD (dI .i64))]), sl 113 (aV false [(cD dB)])] [eBox 2 [(cD (dI .i64)), (cD (dI .i64)), (cD (dI .i64))], eBox 3 [(cD (dI .i64)), (cD (dI .i64)), (cD (dI .i64)), (cD (dI .i64))], eBox 5 [(cD (dI .i64)), (cD (dI .i64))], eBox 9 [(cD (dI .i64)), (cD (dI .i64))]]
def u8_0_2 {β : Type} (g : St → β) : Int → Int → Bool → Int → Int → Int → Int → Int → Int → Int → Int → Int → Int → Int → β := p8_0_2.unc g

def p8_0_3 : PT St := pS [sl 2 (aV false [(cPtr 2 0)]), sl 3 (aV false [(cPtr 3 0)]), sl 5 (aV false [(cPtr 5 0)]), sl 9 (aV false [(cPtr 9 0)]), sl 10 (aV false [(cD (dI .i64))]), sl 12 (aV false [(cD (dI .i64))])] [eBox 2 [(cD (dI .i64)), (cD (dI .i64)), (cD (dI .i64))], eBox 3 [(cD (dI .i64)), (cD (dI .i64)), (cD (dI .i64)), (cD (dI .i64))], eBox 5 [(cD (dI .i64)), (cD (dI .i64))], eBox 9 [(cD (dI .i64)), (cD (dI .i64))]]
def u8_0_3 {β : Type} (g : St → β) : Int → Int → Int → Int → Int → Int → Int → Int → Int → Int → Int → Int → Int → β := p8_0_3.unc g

def p8_0_4 : PT St := pS [sl 2 (aV false [(cPtr 2 0)]), sl 3 (aV false [(cPtr 3 0)]), sl 5 (aV false [(cPtr 5 0)]), sl 9 (aV false [(cPtr 9 0)]), sl 10 (aV false [(cD (dI .i64))]), sl 12 (aV false [(cD (dI .i64))]), sl 14 (aV false [(cD (dI .i64))]), sl 118 (aV false [(cD dB)])] [eBox 2 [(cD (dI .i64)), (cD (dI .i64)), (cD (dI .i64))], eBox 3 [(cD (dI .i64)), (cD (dI .i64)), (cD (dI .i64)), (cD (dI .i64))], eBox 5 [(cD (dI .i64)), (cD (dI .i64))], eBox 9 [(cD (dI .i64)), (cD (dI .i64))]]
def u8_0_4 {β : Type} (g : St → β) : Int → Int → Int → Bool → Int → Int → Int → Int → Int → Int → Int → Int → Int → Int → Int → β := p8_0_4.unc g

def pr8_0_0 : PT (List RV) := pRs [pR false [rD dB]]
def ur8_0_0 {β : Type} (g : List RV → β) : Bool → β := pr8_0_0.unc g

def E8_0g (vf14_0 : Tf14_0) (vf37_0 : Tf37_0) (vf38_0 : Tf38_0) (vf39_0 : Tf39_0) (vf40_0 : Tf40_0) (vf41_0 : Tf41_0) (vf28_0 : Tf28_0) (vf27_0 : Tf27_0) (vf43_0 : Tf43_0) (vf42_0 : Tf42_0) : EnvK := EnvK.of [⟨14, nt14, [⟨pa14_0, Fn14_0 vf14_0⟩]⟩, ⟨37, nt37, [⟨pa37_0, Fn37_0 vf37_0⟩]⟩, ⟨38, nt38, [⟨pa38_0, Fn38_0 vf38_0⟩]⟩, ⟨39, nt39, [⟨pa39_0, Fn39_0 vf39_0⟩]⟩, ⟨40, nt40, [⟨pa40_0, Fn40_0 vf40_0⟩]⟩, ⟨41, nt41, [⟨pa41_0, Fn41_0 vf41_0⟩]⟩, ⟨28, nt28, [⟨pa28_0, Fn28_0 vf28_0⟩]⟩, ⟨27, nt27, [⟨pa27_0, Fn27_0 vf27_0⟩]⟩, ⟨43, nt43, [⟨pa43_0, Fn43_0 vf43_0⟩]⟩, ⟨42, nt42, [⟨pa42_0, Fn42_0 vf42_0⟩]⟩] noSeq
noncomputable def E8_0 : EnvK := E8_0g f14_0 f37_0 f38_0 f39_0 f40_0 f41_0 f28_0 f27_0 f43_0 f42_0
theorem eo8_0 : E8_0.Ok Try.prog := EnvK.of_ok noSeq_ok ⟨⟨io14_0, trivial⟩, ⟨io37_0, trivial⟩, ⟨io38_0, trivial⟩, ⟨io39_0, trivial⟩, ⟨io40_0, trivial⟩, ⟨io41_0, trivial⟩, ⟨io28_0, trivial⟩, ⟨io27_0, trivial⟩, ⟨io43_0, trivial⟩, ⟨io42_0, trivial⟩, trivial⟩

noncomputable def c8_0_44g  : MCode := (.seq (.region r8_46 [] (some ⟨[2, 3, 5, 9, 10, 12, 14], true, [], []⟩)) (.seq (.region r8_48 [] (some ⟨[2, 3, 5, 9, 10, 12, 14, 118], true, [], []⟩)) (.cond (.tmp 118) (.region r8_50 [] (some ⟨[2, 3, 5, 9, 10, 12], true, [], []⟩)) .skip)))
noncomputable def c8_0_44 : MCode := c8_0_44g 
theorem g8_0_44 : c8_0_44.Good Try.prog E8_0 sh8 := ⟨trivial, ⟨trivial, ⟨trivial, trivial⟩⟩⟩
--CODE 44 0
abbrev TJ8_0_1 : Type 1 := (α : Type) → Int → Int → (Int → Option α) → (Int → Bool → Option α) → Option α
def J8_0_1g (vf27_0 : Tf27_0) (α : Type) (x45 : Int) (x46 : Int) (k1 : Int → Option α) (k2 : Int → Bool → Option α) : Option α :=
  vf27_0 α x45 x46
    (fun (x53 : Int) => cK (x53 != 0)
      (k1 x53)
      (k2 x53 (x53 != 0)))
noncomputable def J8_0_1 (α : Type) (x45 : Int) (x46 : Int) (k1 : Int → Option α) (k2 : Int → Bool → Option α) : Option α := J8_0_1g f27_0 α x45 x46 k1 k2
def F8_0_1 (v : TJ8_0_1) (α : Type) (K : Exit → St → Option α) : Int → Int → Bool → Int → Int → Int → Int → Int → Int → Int → Int → Int → Int → Int → Option α := fun x39 x40 x41 x42 x43 x44 x45 x46 x47 x48 x49 x50 x51 x52 => v α x45 x46 (fun (y1 : Int) => u8_0_3 (K .normal) x39 y1 x42 x43 x44 x45 x46 x47 x48 x49 x50 x51 x52) (fun (y1 : Int) (y2 : Bool) => u8_0_4 (K .normal) x39 x40 y1 y2 x42 x43 x44 x45 x46 x47 x48 x49 x50 x51 x52) 
theorem m8_0_1g (vf14_0 : Tf14_0) (vf37_0 : Tf37_0) (vf38_0 : Tf38_0) (vf39_0 : Tf39_0) (vf40_0 : Tf40_0) (vf41_0 : Tf41_0) (vf28_0 : Tf28_0) (vf27_0 : Tf27_0) (vf43_0 : Tf43_0) (vf42_0 : Tf42_0)  (α : Type) (K : Exit → St → Option α) : F8_0_1 (J8_0_1g vf27_0) α K = p8_0_2.unc fun σ => runM Try.prog (E8_0g vf14_0 vf37_0 vf38_0 vf39_0 vf40_0 vf41_0 vf28_0 vf27_0 vf43_0 vf42_0) sh8 (c8_0_44g ) K σ := by kernel_rfl
theorem m8_0_1 : ∀ (α : Type) (K : Exit → St → Option α), F8_0_1 J8_0_1 α K = p8_0_2.unc fun σ => runM Try.prog E8_0 sh8 c8_0_44 K σ := m8_0_1g f14_0 f37_0 f38_0 f39_0 f40_0 f41_0 f28_0 f27_0 f43_0 f42_0

noncomputable def c8_0_39g  : MCode := (.region r8_40 [(16, 20)] (some ⟨[2, 3, 5, 9, 10, 12, 113], true, [], []⟩))
noncomputable def c8_0_39 : MCode := c8_0_39g 
theorem g8_0_39 : c8_0_39.Good Try.prog E8_0 sh8 := trivial
--CODE 39 0
abbrev TJ8_0_2 : Type 1 := (α : Type) → Int → Int → Int → Int → Int → Int → Int → Int → Int → (Bool → Option α) → Option α
def J8_0_2g (vf42_0 : Tf42_0) (α : Type) (x61 : Int) (x64 : Int) (x66 : Int) (x67 : Int) (x68 : Int) (x71 : Int) (x72 : Int) (x75 : Int) (x76 : Int) (k1 : Bool → Option α) : Option α :=
  cK (x61 != x64)
    (k1 true)
    (cK (x64 != 0)
      (cK (!((x75 == 0) && ((x76 == 0) && true)))
        (k1 true)
        (cK (x64 == 0)
          (vf42_0 α x66 x67 x68 x71 x72
            (fun (x79 : Int) (x80 : Int) => k1 (!((x75 == x79) && ((x76 == x80) && true)))))
          (k1 false)))
      (cK (x64 == 0)
        (vf42_0 α x66 x67 x68 x71 x72
          (fun (x81 : Int) (x82 : Int) => k1 (!((x75 == x81) && ((x76 == x82) && true)))))
        (k1 false)))
noncomputable def J8_0_2 (α : Type) (x61 : Int) (x64 : Int) (x66 : Int) (x67 : Int) (x68 : Int) (x71 : Int) (x72 : Int) (x75 : Int) (x76 : Int) (k1 : Bool → Option α) : Option α := J8_0_2g f42_0 α x61 x64 x66 x67 x68 x71 x72 x75 x76 k1
def F8_0_2 (v : TJ8_0_2) (α : Type) (K : Exit → St → Option α) : Int → Int → Int → Int → Bool → Int → Int → Int → Int → Int → Int → Int → Int → Int → Int → Int → Int → Int → Option α := fun x61 x62 x63 x64 x65 x66 x67 x68 x69 x70 x71 x72 x73 x74 x75 x76 x77 x78 => v α x61 x64 x66 x67 x68 x71 x72 x75 x76 (fun (y1 : Bool) => u8_0_2 (K .normal) x62 x63 y1 x66 x67 x68 x69 x70 x71 x72 x73 x74 x77 x78) 
theorem m8_0_2g (vf14_0 : Tf14_0) (vf37_0 : Tf37_0) (vf38_0 : Tf38_0) (vf39_0 : Tf39_0) (vf40_0 : Tf40_0) (vf41_0 : Tf41_0) (vf28_0 : Tf28_0) (vf27_0 : Tf27_0) (vf43_0 : Tf43_0) (vf42_0 : Tf42_0)  (α : Type) (K : Exit → St → Option α) : F8_0_2 (J8_0_2g vf42_0) α K = p8_0_1.unc fun σ => runM Try.prog (E8_0g vf14_0 vf37_0 vf38_0 vf39_0 vf40_0 vf41_0 vf28_0 vf27_0 vf43_0 vf42_0) sh8 (c8_0_39g ) K σ := by kernel_rfl
theorem m8_0_2 : ∀ (α : Type) (K : Exit → St → Option α), F8_0_2 J8_0_2 α K = p8_0_1.unc fun σ => runM Try.prog E8_0 sh8 c8_0_39 K σ := m8_0_2g f14_0 f37_0 f38_0 f39_0 f40_0 f41_0 f28_0 f27_0 f43_0 f42_0

noncomputable def c8_0_33g  : MCode := (.seq (.region r8_35 [] (some ⟨[2, 3, 5, 7, 8, 9, 10, 12, 13, 89], true, [], []⟩)) (.cond (.tmp 89) (.region r8_37 [] (some ⟨[2, 3, 5, 7, 8, 9, 10, 12, 13], true, [], []⟩)) .skip))
noncomputable def c8_0_33 : MCode := c8_0_33g 
theorem g8_0_33 : c8_0_33.Good Try.prog E8_0 sh8 := ⟨trivial, ⟨trivial, trivial⟩⟩
--CODE 33 0
abbrev TJ8_0_0 : Type 1 := (α : Type) → Int → Int → (Option α) → (Bool → Option α) → Option α
def J8_0_0g  (α : Type) (x24 : Int) (x30 : Int) (k1 : Option α) (k2 : Bool → Option α) : Option α :=
  cK (x24 == 0)
    (cK (x30 == 0)
      (k1)
      (k2 (x30 == 0)))
    (k2 false)
noncomputable def J8_0_0 (α : Type) (x24 : Int) (x30 : Int) (k1 : Option α) (k2 : Bool → Option α) : Option α := J8_0_0g  α x24 x30 k1 k2
def F8_0_0 (v : TJ8_0_0) (α : Type) (K : Exit → St → Option α) : Int → Int → Int → Int → Int → Int → Int → Int → Int → Int → Int → Int → Int → Int → Int → Int → Int → Option α := fun x21 x22 x23 x24 x25 x26 x27 x28 x29 x30 x31 x32 x33 x34 x35 x36 x37 => v α x24 x30 (u8_0_0 (K .normal) x21 x22 x23 9 x25 x26 x27 x28 x29 x30 x31 x32 x33 x34 x35 x36 x37) (fun (y1 : Bool) => u8_0_1 (K .normal) x21 x22 x23 x24 y1 x25 x26 x27 x28 x29 x30 x31 x32 x33 x34 x35 x36 x37) 
theorem m8_0_0g (vf14_0 : Tf14_0) (vf37_0 : Tf37_0) (vf38_0 : Tf38_0) (vf39_0 : Tf39_0) (vf40_0 : Tf40_0) (vf41_0 : Tf41_0) (vf28_0 : Tf28_0) (vf27_0 : Tf27_0) (vf43_0 : Tf43_0) (vf42_0 : Tf42_0)  (α : Type) (K : Exit → St → Option α) : F8_0_0 (J8_0_0g ) α K = p8_0_0.unc fun σ => runM Try.prog (E8_0g vf14_0 vf37_0 vf38_0 vf39_0 vf40_0 vf41_0 vf28_0 vf27_0 vf43_0 vf42_0) sh8 (c8_0_33g ) K σ := by kernel_rfl
theorem m8_0_0 : ∀ (α : Type) (K : Exit → St → Option α), F8_0_0 J8_0_0 α K = p8_0_0.unc fun σ => runM Try.prog E8_0 sh8 c8_0_33 K σ := m8_0_0g f14_0 f37_0 f38_0 f39_0 f40_0 f41_0 f28_0 f27_0 f43_0 f42_0

/-- etalon/etalonlaw08.GrowQuarters -/
abbrev Tf8_0 : Type 1 := (α : Type) → Int → Int → Int → Int → Int → Int → Int → (Bool → Option α) → Option α
def f8_0g (vJ8_0_0 : TJ8_0_0) (vJ8_0_1 : TJ8_0_1) (vJ8_0_2 : TJ8_0_2) (vf14_0 : Tf14_0) (vf28_0 : Tf28_0) (vf37_0 : Tf37_0) (vf38_0 : Tf38_0) (vf39_0 : Tf39_0) (vf40_0 : Tf40_0) (vf41_0 : Tf41_0) (vf43_0 : Tf43_0) (α : Type) (x1 : Int) (x2 : Int) (x3 : Int) (x4 : Int) (x5 : Int) (x6 : Int) (x7 : Int) (k1 : Bool → Option α) : Option α :=
  vf14_0 α 
    (vf37_0 α x1 x2 x3
      (fun (x8 : Int) (x9 : Int) (x10 : Int) => vf38_0 α x1 x2 x3 x6 x7
        (fun (x11 : Int) (x12 : Int) (x13 : Int) => vf39_0 α x1 x2 x3 x4 x5 x6 x7
          (fun (x14 : Int) (x15 : Int) (x16 : Int) => vf40_0 α x1 x2 x3
            (fun (x17 : Int) => cK (x17 != 0)
              (cK (x10 == x17)
                (cK (x13 == x17)
                  (cK (x16 == x17)
                    (cK ((x8 == 0) && ((x9 == 0) && true))
                      (cK ((x11 == 0) && ((x12 == 0) && true))
                        (k1 ((x14 == 0) && ((x15 == 0) && true)))
                        (k1 false))
                      (k1 false))
                    (k1 false))
                  (k1 false))
                (k1 false))
              (cK (x10 != 0)
                (k1 false)
                (vf41_0 α x1 x2 x3
                  (fun (x18 : Int) (x19 : Int) => cK (!((x8 == x18) && ((x9 == x19) && true)))
                    (k1 false)
                    (vf28_0 α x6 x7
                      (fun (x20 : Int) => vJ8_0_0 α x20 x6
                        (cK (x13 != 9)
                          (k1 false)
                          (cK (!((x11 == 0) && ((x12 == 0) && true)))
                            (k1 false)
                            (vJ8_0_1 α x4 x5
                              (fun (x54 : Int) => cK (x54 != 0)
                                (cK (x16 == x54)
                                  (k1 ((x14 == 0) && ((x15 == 0) && true)))
                                  (k1 false))
                                (cK (x16 == 0)
                                  (vf43_0 α x1 x2 x3 x4 x5 x6 x7
                                    (fun (x57 : Int) (x58 : Int) => cK ((x14 == x57) && ((x15 == x58) && true))
                                      (cK (decide (x8 ≤ x14))
                                        (k1 (decide (x9 ≤ x15)))
                                        (k1 false))
                                      (k1 false)))
                                  (k1 false)))
                              (fun (x55 : Int) (x56 : Bool) => cK (x20 != 0)
                                (cK (x16 == x20)
                                  (k1 ((x14 == 0) && ((x15 == 0) && true)))
                                  (k1 false))
                                (cK (x16 == 0)
                                  (vf43_0 α x1 x2 x3 x4 x5 x6 x7
                                    (fun (x59 : Int) (x60 : Int) => cK ((x14 == x59) && ((x15 == x60) && true))
                                      (cK (decide (x8 ≤ x14))
                                        (k1 (decide (x9 ≤ x15)))
                                        (k1 false))
                                      (k1 false)))
                                  (k1 false))))))
                        (fun (x38 : Bool) => vJ8_0_2 α x13 x20 x1 x2 x3 x6 x7 x11 x12
                          (fun (x83 : Bool) => cK x83
                            (k1 false)
                            (vJ8_0_1 α x4 x5
                              (fun (x84 : Int) => cK (x84 != 0)
                                (cK (x16 == x84)
                                  (k1 ((x14 == 0) && ((x15 == 0) && true)))
                                  (k1 false))
                                (cK (x16 == 0)
                                  (vf43_0 α x1 x2 x3 x4 x5 x6 x7
                                    (fun (x87 : Int) (x88 : Int) => cK ((x14 == x87) && ((x15 == x88) && true))
                                      (cK (decide (x8 ≤ x14))
                                        (k1 (decide (x9 ≤ x15)))
                                        (k1 false))
                                      (k1 false)))
                                  (k1 false)))
                              (fun (x85 : Int) (x86 : Bool) => cK (x20 != 0)
                                (cK (x16 == x20)
                                  (k1 ((x14 == 0) && ((x15 == 0) && true)))
                                  (k1 false))
                                (cK (x16 == 0)
                                  (vf43_0 α x1 x2 x3 x4 x5 x6 x7
                                    (fun (x89 : Int) (x90 : Int) => cK ((x14 == x89) && ((x15 == x90) && true))
                                      (cK (decide (x8 ≤ x14))
                                        (k1 (decide (x9 ≤ x15)))
                                        (k1 false))
                                      (k1 false)))
                                  (k1 false))))))))))))))))
noncomputable def f8_0 (α : Type) (x1 : Int) (x2 : Int) (x3 : Int) (x4 : Int) (x5 : Int) (x6 : Int) (x7 : Int) (k1 : Bool → Option α) : Option α := f8_0g J8_0_0 J8_0_1 J8_0_2 f14_0 f28_0 f37_0 f38_0 f39_0 f40_0 f41_0 f43_0 α x1 x2 x3 x4 x5 x6 x7 k1
def pa8_0 : PT (List DV) := pA [pV true [(dI .i64), (dI .i64), (dI .i64)], pV true [(dI .i64), (dI .i64), (dI .i64), (dI .i64)]]
def Fn8_0 (v : Tf8_0) (α : Type) (k : List RV → Option α) : Int → Int → Int → Int → Int → Int → Int → Option α := fun x1 x2 x3 x4 x5 x6 x7 => v α x1 x2 x3 x4 x5 x6 x7 (fun (y1 : Bool) => ur8_0_0 k y1)
noncomputable def cm8_0g (vJ8_0_0 : TJ8_0_0) (vJ8_0_2 : TJ8_0_2) (vJ8_0_1 : TJ8_0_1) : MCode := (.seq (.region r8_2 [] (some ⟨[2, 3], true, [], []⟩)) (.seq (.seq (.region r8_5 [] (some ⟨[2, 3, 16], true, [], []⟩)) (.cond (.tmp 16) (.seq (.region r8_8 [] (some ⟨[4], true, [], []⟩)) .ret) .skip)) (.seq (.region r8_10 [] (some ⟨[2, 3, 5, 6], true, [], []⟩)) (.seq (.region r8_12 [] (some ⟨[2, 3, 5, 6, 7, 8], true, [], []⟩)) (.seq (.region r8_14 [] (some ⟨[2, 3, 5, 6, 7, 8, 9, 10], true, [], []⟩)) (.seq (.seq (.region r8_17 [] (some ⟨[2, 3, 5, 6, 7, 8, 9, 10, 11], true, [], []⟩)) (.seq (.region r8_19 [] (some ⟨[2, 3, 5, 6, 7, 8, 9, 10, 11, 41], true, [], []⟩)) (.cond (.tmp 41) (.seq (.region r8_22 [] (some ⟨[4], true, [], []⟩)) .ret) .skip))) (.seq (.seq (.region r8_25 [(3, 5)] (some ⟨[2, 3, 5, 7, 8, 9, 10, 77], true, [], []⟩)) (.cond (.tmp 77) (.seq (.region r8_28 [] (some ⟨[4], true, [], []⟩)) .ret) .skip)) (.seq (.region r8_30 [] (some ⟨[2, 3, 5, 7, 8, 9, 10, 12], true, [], []⟩)) (.seq (.region r8_32 [] (some ⟨[2, 3, 5, 7, 8, 9, 10, 12, 13], true, [], []⟩)) (.seq (.mark [⟨p8_0_0, F8_0_0 vJ8_0_0⟩] c8_0_33) (.seq (.seq (.mark [⟨p8_0_1, F8_0_2 vJ8_0_2⟩] c8_0_39) (.cond (.tmp 113) (.seq (.region r8_43 [] (some ⟨[4], true, [], []⟩)) .ret) .skip)) (.seq (.mark [⟨p8_0_2, F8_0_1 vJ8_0_1⟩] c8_0_44) (.seq (.seq (.region r8_53 [] (some ⟨[2, 3, 5, 9, 10, 12, 121], true, [], []⟩)) (.cond (.tmp 121) (.seq (.region r8_56 [] (some ⟨[4], true, [], []⟩)) .ret) .skip)) (.seq (.region r8_58 [(3, 9)] (some ⟨[4], true, [], []⟩)) .ret))))))))))))))
noncomputable def cm8_0 : MCode := cm8_0g J8_0_0 J8_0_2 J8_0_1
theorem gm8_0 : cm8_0.Good Try.prog E8_0 sh8 := ⟨trivial, ⟨⟨trivial, ⟨⟨trivial, trivial⟩, trivial⟩⟩, ⟨trivial, ⟨trivial, ⟨trivial, ⟨⟨trivial, ⟨trivial, ⟨⟨trivial, trivial⟩, trivial⟩⟩⟩, ⟨⟨trivial, ⟨⟨trivial, trivial⟩, trivial⟩⟩, ⟨trivial, ⟨trivial, ⟨⟨g8_0_33, m8_0_0, trivial⟩, ⟨⟨⟨g8_0_39, m8_0_2, trivial⟩, ⟨⟨trivial, trivial⟩, trivial⟩⟩, ⟨⟨g8_0_44, m8_0_1, trivial⟩, ⟨⟨trivial, ⟨⟨trivial, trivial⟩, trivial⟩⟩, ⟨trivial, trivial⟩⟩⟩⟩⟩⟩⟩⟩⟩⟩⟩⟩⟩⟩
theorem fm8_0g (vf14_0 : Tf14_0) (vf37_0 : Tf37_0) (vf38_0 : Tf38_0) (vf39_0 : Tf39_0) (vf40_0 : Tf40_0) (vf41_0 : Tf41_0) (vf28_0 : Tf28_0) (vf27_0 : Tf27_0) (vf43_0 : Tf43_0) (vf42_0 : Tf42_0) (vJ8_0_0 : TJ8_0_0) (vJ8_0_2 : TJ8_0_2) (vJ8_0_1 : TJ8_0_1) (α : Type) (k : List RV → Option α) : Fn8_0 (f8_0g vJ8_0_0 vJ8_0_1 vJ8_0_2 vf14_0 vf28_0 vf37_0 vf38_0 vf39_0 vf40_0 vf41_0 vf43_0) α k = pa8_0.unc fun ds => fnM Try.prog (E8_0g vf14_0 vf37_0 vf38_0 vf39_0 vf40_0 vf41_0 vf28_0 vf27_0 vf43_0 vf42_0) sh8 (cm8_0g vJ8_0_0 vJ8_0_2 vJ8_0_1) rs8 k ds := by kernel_rfl
theorem fm8_0 : ∀ (α : Type) (k : List RV → Option α), Fn8_0 f8_0 α k = pa8_0.unc fun ds => fnM Try.prog E8_0 sh8 cm8_0 rs8 k ds := fm8_0g f14_0 f37_0 f38_0 f39_0 f40_0 f41_0 f28_0 f27_0 f43_0 f42_0 J8_0_0 J8_0_2 J8_0_1

theorem is8 : FnIs Try.prog 8 nt8 tr8 tl8 cm8_0.erase rs8 := ⟨Try.f8, Try.func8, rfl, by kernel_rfl, by kernel_rfl, by kernel_rfl⟩
theorem io8_0 : InstOk Try.prog 8 nt8 ⟨pa8_0, Fn8_0 f8_0⟩ := inst_ok eo8_0 followsTry is8 ⟨⟨sh8, cm8_0, by kernel_rfl, gm8_0, fm8_0⟩⟩

/-! ### F6 etalon/etalonlaw08.GrowRates -/
abbrev nt6 : Nat := 141
def sh6 : List (Nat × List Sh) := [(20, [.int .i64, .int .i64]), (21, [.int .i64, .int .i64]), (26, [.int .i64, .int .i64]), (31, [.int .i64, .int .i64]), (44, [.int .i64, .int .i64]), (49, [.int .i64, .int .i64]), (53, [.int .i64, .int .i64]), (62, [.int .i64, .int .i64]), (71, [.int .i64, .int .i64]), (72, [.int .i64, .int .i64]), (73, [.int .i64, .int .i64]), (84, [.int .i64, .int .i64]), (91, [.int .i64, .int .i64]), (92, [.int .i64, .int .i64]), (98, [.int .i64]), (102, [.int .i64, .int .i64]), (104, [.int .i64]), (106, [.int .i64]), (112, [.int .i64, .int .i64]), (114, [.int .i64]), (117, [.int .i64]), (131, [.int .i64]), (137, [.int .i64])]
def r6_2 : List AOper := [⟨(some 3), (.box (.tmp 0)), none⟩, ⟨(some 4), (.box (.tmp 1)), none⟩, ⟨(some 6), (.mv (.const (.bool false))), none⟩]
def r6_5 : List AOper := [⟨(some 17), (.call 14 []), none⟩, ⟨(some 18), (.pure (oB (.unOp .not 4 (.tmp 17)) 4)), none⟩]
def r6_8 : List AOper := [⟨(some 6), (.mv (.const (.bool false))), none⟩]
def r6_10 : List AOper := [⟨(some 20), (.load true 2 (.tmp 3)), none⟩, ⟨(some 21), (.load true 2 (.tmp 4)), none⟩, ⟨(some 22), (.call 25 [(.tmp 20), (.tmp 21)]), none⟩, ⟨(some 19), (.mv (.tmp 22)), none⟩, ⟨(some 23), (.extract 0 (.tmp 19)), none⟩, ⟨(some 24), (.extract 1 (.tmp 19)), none⟩, ⟨(some 7), (.alloc [(.d (.v (.int .i64 0))), (.d (.v (.int .i64 0)))]), none⟩, ⟨none, (.store 2 (.tmp 7) (.tmp 23)), none⟩, ⟨(some 8), (.mv (.tmp 24)), none⟩]
def r6_12 : List AOper := [⟨(some 26), (.load true 2 (.tmp 3)), none⟩, ⟨(some 27), (.mv (.tmp 2)), none⟩, ⟨(some 28), (.call 26 [(.tmp 26), (.tmp 27)]), none⟩, ⟨(some 25), (.mv (.tmp 28)), none⟩, ⟨(some 29), (.extract 0 (.tmp 25)), none⟩, ⟨(some 30), (.extract 1 (.tmp 25)), none⟩, ⟨(some 9), (.alloc [(.d (.v (.int .i64 0))), (.d (.v (.int .i64 0)))]), none⟩, ⟨none, (.store 2 (.tmp 9) (.tmp 29)), none⟩, ⟨(some 10), (.mv (.tmp 30)), none⟩]
def r6_15 : List AOper := [⟨(some 31), (.load true 2 (.tmp 3)), none⟩, ⟨(some 32), (.call 27 [(.tmp 31)]), none⟩, ⟨(some 11), (.mv (.tmp 32)), none⟩]
def r6_17 : List AOper := [⟨(some 33), (.mv (.tmp 11)), none⟩, ⟨(some 34), (.bin .neq 3 (.tmp 33) (.const (.int .i64 0))), none⟩]
def r6_20 : List AOper := [⟨(some 35), (.mv (.tmp 8)), none⟩, ⟨(some 36), (.mv (.tmp 11)), none⟩, ⟨(some 37), (.bin .eql 3 (.tmp 35) (.tmp 36)), none⟩, ⟨(some 38), (.mv (.tmp 37)), none⟩, ⟨(some 39), (.mv (.tmp 10)), (some (38, true))⟩, ⟨(some 40), (.mv (.tmp 11)), (some (38, true))⟩, ⟨(some 41), (.bin .eql 3 (.tmp 39) (.tmp 40)), (some (38, true))⟩, ⟨(some 42), (.pick (.tmp 38) (.tmp 41) (.const (.bool false))), none⟩, ⟨(some 43), (.mv (.tmp 42)), none⟩, ⟨(some 44), (.load true 2 (.tmp 7)), (some (43, true))⟩, ⟨(some 45), (.build [(.d (.v (.int .i64 0))), (.d (.v (.int .i64 0)))] []), (some (43, true))⟩, ⟨(some 46), (.bin .eql 23 (.tmp 44) (.tmp 45)), (some (43, true))⟩, ⟨(some 47), (.pick (.tmp 43) (.tmp 46) (.const (.bool false))), none⟩, ⟨(some 48), (.mv (.tmp 47)), none⟩, ⟨(some 49), (.load true 2 (.tmp 9)), (some (48, true))⟩, ⟨(some 50), (.build [(.d (.v (.int .i64 0))), (.d (.v (.int .i64 0)))] []), (some (48, true))⟩, ⟨(some 51), (.bin .eql 23 (.tmp 49) (.tmp 50)), (some (48, true))⟩, ⟨(some 52), (.pick (.tmp 48) (.tmp 51) (.const (.bool false))), none⟩, ⟨(some 6), (.mv (.tmp 52)), none⟩]
def r6_23 : List AOper := [⟨(some 53), (.load true 2 (.tmp 4)), none⟩, ⟨(some 54), (.call 28 [(.tmp 53)]), none⟩, ⟨(some 12), (.mv (.tmp 54)), none⟩]
def r6_25 : List AOper := [⟨(some 55), (.mv (.tmp 8)), none⟩, ⟨(some 56), (.mv (.tmp 12)), none⟩, ⟨(some 57), (.bin .neq 3 (.tmp 55) (.tmp 56)), none⟩, ⟨(some 58), (.mv (.tmp 57)), none⟩, ⟨(some 59), (.mv (.tmp 12)), (some (58, false))⟩, ⟨(some 60), (.bin .neq 3 (.tmp 59) (.const (.int .i64 0))), (some (58, false))⟩, ⟨(some 61), (.mv (.tmp 60)), (some (58, false))⟩, ⟨(some 62), (.load true 2 (.tmp 7)), (some (61, true))⟩, ⟨(some 63), (.build [(.d (.v (.int .i64 0))), (.d (.v (.int .i64 0)))] []), (some (61, true))⟩, ⟨(some 64), (.bin .neq 23 (.tmp 62) (.tmp 63)), (some (61, true))⟩, ⟨(some 65), (.pick (.tmp 61) (.tmp 64) (.const (.bool false))), (some (58, false))⟩, ⟨(some 66), (.pick (.tmp 58) (.const (.bool true)) (.tmp 65)), none⟩, ⟨(some 67), (.mv (.tmp 66)), none⟩, ⟨(some 68), (.mv (.tmp 12)), (some (67, false))⟩, ⟨(some 69), (.bin .eql 3 (.tmp 68) (.const (.int .i64 0))), (some (67, false))⟩, ⟨(some 70), (.mv (.tmp 69)), (some (67, false))⟩, ⟨(some 71), (.load true 2 (.tmp 7)), (some (70, true))⟩, ⟨(some 72), (.load true 2 (.tmp 3)), (some (70, true))⟩, ⟨(some 73), (.load true 2 (.tmp 4)), (some (70, true))⟩, ⟨(some 74), (.call 29 [(.tmp 72), (.tmp 73)]), (some (70, true))⟩, ⟨(some 75), (.bin .neq 23 (.tmp 71) (.tmp 74)), (some (70, true))⟩, ⟨(some 76), (.pick (.tmp 70) (.tmp 75) (.const (.bool false))), (some (67, false))⟩, ⟨(some 77), (.pick (.tmp 67) (.const (.bool true)) (.tmp 76)), none⟩]
def r6_28 : List AOper := [⟨(some 6), (.mv (.const (.bool false))), none⟩]
def r6_31 : List AOper := [⟨(some 78), (.mv (.tmp 2)), none⟩, ⟨(some 79), (.call 19 [(.tmp 78), (.const (.int .i64 0)), (.const (.int .i64 1000000))]), none⟩, ⟨(some 80), (.pure (oB (.unOp .not 4 (.tmp 79)) 4)), none⟩]
def r6_34 : List AOper := [⟨(some 81), (.mv (.tmp 10)), none⟩, ⟨(some 82), (.bin .eql 32 (.tmp 81) (.const (.int .i64 2))), none⟩, ⟨(some 83), (.mv (.tmp 82)), none⟩, ⟨(some 84), (.load true 2 (.tmp 9)), (some (83, true))⟩, ⟨(some 85), (.build [(.d (.v (.int .i64 0))), (.d (.v (.int .i64 0)))] []), (some (83, true))⟩, ⟨(some 86), (.bin .eql 23 (.tmp 84) (.tmp 85)), (some (83, true))⟩, ⟨(some 87), (.pick (.tmp 83) (.tmp 86) (.const (.bool false))), none⟩, ⟨(some 6), (.mv (.tmp 87)), none⟩]
def r6_37 : List AOper := [⟨(some 88), (.mv (.tmp 10)), none⟩, ⟨(some 89), (.bin .neq 32 (.tmp 88) (.const (.int .i64 0))), none⟩, ⟨(some 90), (.mv (.tmp 89)), none⟩, ⟨(some 91), (.load true 2 (.tmp 9)), (some (90, false))⟩, ⟨(some 92), (.load true 2 (.tmp 3)), (some (90, false))⟩, ⟨(some 93), (.mv (.tmp 2)), (some (90, false))⟩, ⟨(some 94), (.call 30 [(.tmp 92), (.tmp 93)]), (some (90, false))⟩, ⟨(some 95), (.bin .neq 23 (.tmp 91) (.tmp 94)), (some (90, false))⟩, ⟨(some 96), (.pick (.tmp 90) (.const (.bool true)) (.tmp 95)), none⟩]
def r6_40 : List AOper := [⟨(some 6), (.mv (.const (.bool false))), none⟩]
def r6_43 : List AOper := [⟨(some 97), (.faddr 1 (.tmp 9)), none⟩, ⟨(some 98), (.load false 1 (.tmp 97)), none⟩, ⟨(some 99), (.call 19 [(.tmp 98), (.const (.int .i64 1)), (.const (.int .i64 100000))]), none⟩, ⟨(some 100), (.pure (oB (.unOp .not 4 (.tmp 99)) 4)), none⟩]
def r6_46 : List AOper := [⟨(some 6), (.mv (.const (.bool true))), none⟩]
def r6_48 : List AOper := [⟨(some 102), (.load true 2 (.tmp 3)), none⟩, ⟨(some 103), (.faddr 1 (.tmp 9)), none⟩, ⟨(some 104), (.load false 1 (.tmp 103)), none⟩, ⟨(some 105), (.faddr 1 (.tmp 9)), none⟩, ⟨(some 106), (.load false 1 (.tmp 105)), none⟩, ⟨(some 107), (.build [(.d (.v (.int .i64 0))), (.d (.v (.int .i64 0)))] [(0, 1, (.tmp 104)), (1, 1, (.tmp 106))]), none⟩, ⟨(some 108), (.call 25 [(.tmp 102), (.tmp 107)]), none⟩, ⟨(some 101), (.mv (.tmp 108)), none⟩, ⟨(some 109), (.extract 0 (.tmp 101)), none⟩, ⟨(some 110), (.extract 1 (.tmp 101)), none⟩, ⟨(some 13), (.alloc [(.d (.v (.int .i64 0))), (.d (.v (.int .i64 0)))]), none⟩, ⟨none, (.store 2 (.tmp 13) (.tmp 109)), none⟩, ⟨(some 14), (.mv (.tmp 110)), none⟩]
def r6_50 : List AOper := [⟨(some 112), (.load true 2 (.tmp 3)), none⟩, ⟨(some 113), (.faddr 1 (.tmp 9)), none⟩, ⟨(some 114), (.load false 1 (.tmp 113)), none⟩, ⟨(some 115), (.bin .sub 3 (.tmp 114) (.const (.int .i64 1))), none⟩, ⟨(some 116), (.faddr 1 (.tmp 9)), none⟩, ⟨(some 117), (.load false 1 (.tmp 116)), none⟩, ⟨(some 118), (.bin .sub 3 (.tmp 117) (.const (.int .i64 1))), none⟩, ⟨(some 119), (.build [(.d (.v (.int .i64 0))), (.d (.v (.int .i64 0)))] [(0, 1, (.tmp 115)), (1, 1, (.tmp 118))]), none⟩, ⟨(some 120), (.call 25 [(.tmp 112), (.tmp 119)]), none⟩, ⟨(some 111), (.mv (.tmp 120)), none⟩, ⟨(some 121), (.extract 0 (.tmp 111)), none⟩, ⟨(some 122), (.extract 1 (.tmp 111)), none⟩, ⟨(some 15), (.alloc [(.d (.v (.int .i64 0))), (.d (.v (.int .i64 0)))]), none⟩, ⟨none, (.store 2 (.tmp 15) (.tmp 121)), none⟩, ⟨(some 16), (.mv (.tmp 122)), none⟩]
def r6_52 : List AOper := [⟨(some 123), (.mv (.tmp 14)), none⟩, ⟨(some 124), (.bin .eql 32 (.tmp 123) (.const (.int .i64 0))), none⟩, ⟨(some 125), (.mv (.tmp 124)), none⟩, ⟨(some 126), (.mv (.tmp 16)), (some (125, true))⟩, ⟨(some 127), (.bin .eql 32 (.tmp 126) (.const (.int .i64 0))), (some (125, true))⟩, ⟨(some 128), (.pick (.tmp 125) (.tmp 127) (.const (.bool false))), none⟩, ⟨(some 129), (.mv (.tmp 128)), none⟩, ⟨(some 130), (.faddr 0 (.tmp 13)), (some (129, true))⟩, ⟨(some 131), (.load false 1 (.tmp 130)), (some (129, true))⟩, ⟨(some 132), (.mv (.tmp 2)), (some (129, true))⟩, ⟨(some 133), (.bin .geq 3 (.tmp 131) (.tmp 132)), (some (129, true))⟩, ⟨(some 134), (.pick (.tmp 129) (.tmp 133) (.const (.bool false))), none⟩, ⟨(some 135), (.mv (.tmp 134)), none⟩, ⟨(some 136), (.faddr 0 (.tmp 15)), (some (135, true))⟩, ⟨(some 137), (.load false 1 (.tmp 136)), (some (135, true))⟩, ⟨(some 138), (.mv (.tmp 2)), (some (135, true))⟩, ⟨(some 139), (.bin .lss 3 (.tmp 137) (.tmp 138)), (some (135, true))⟩, ⟨(some 140), (.pick (.tmp 135) (.tmp 139) (.const (.bool false))), none⟩, ⟨(some 6), (.mv (.tmp 140)), none⟩]
def tr6 : List (Nat × Tidy) := [(0, ⟨[2, 3, 4], true, [], []⟩), (1, ⟨[2, 3, 4, 18], true, [], []⟩), (2, ⟨[6], true, [], []⟩), (3, ⟨[2, 3, 4, 7, 8], true, [], []⟩), (4, ⟨[2, 3, 4, 7, 8, 9, 10], true, [], []⟩), (5, ⟨[2, 3, 4, 7, 8, 9, 10, 11], true, [], []⟩), (6, ⟨[2, 3, 4, 7, 8, 9, 10, 11, 34], true, [], []⟩), (7, ⟨[6], true, [], []⟩), (8, ⟨[2, 3, 4, 7, 8, 9, 10, 12], true, [], []⟩), (9, ⟨[2, 3, 9, 10, 77], true, [], []⟩), (10, ⟨[6], true, [], []⟩), (11, ⟨[2, 3, 9, 10, 80], true, [], []⟩), (12, ⟨[6], true, [], []⟩), (13, ⟨[2, 3, 9, 96], true, [], []⟩), (14, ⟨[6], true, [], []⟩), (15, ⟨[2, 3, 9, 100], true, [], []⟩), (16, ⟨[6], true, [], []⟩), (17, ⟨[2, 3, 9, 13, 14], true, [], []⟩), (18, ⟨[2, 13, 14, 15, 16], true, [], []⟩), (19, ⟨[6], true, [], []⟩)]
def tl6 : List (Nat × Tidy) := []
def rs6 : List AResV := [.tmp 6]
def p6_0_0 : PT St := pS [sl 2 (aV false [(cD (dI .i64))]), sl 3 (aV false [(cPtr 3 0)]), sl 4 (aV false [(cPtr 4 0)]), sl 7 (aV false [(cPtr 7 0)]), sl 8 (aV false [(cD (dI .i64))]), sl 9 (aV false [(cPtr 9 0)]), sl 10 (aV false [(cD (dI .i64))]), sl 12 (aV false [(cD (dI .i64))])] [eBox 3 [(cD (dI .i64)), (cD (dI .i64))], eBox 4 [(cD (dI .i64)), (cD (dI .i64))], eBox 7 [(cD (dI .i64)), (cD (dI .i64))], eBox 9 [(cD (dI .i64)), (cD (dI .i64))]]
def u6_0_0 {β : Type} (g : St → β) : Int → Int → Int → Int → Int → Int → Int → Int → Int → Int → Int → Int → β := p6_0_0.unc g

def p6_0_1 : PT St := pS [sl 2 (aV false [(cD (dI .i64))]), sl 3 (aV false [(cPtr 3 0)]), sl 9 (aV false [(cPtr 9 0)]), sl 10 (aV false [(cD (dI .i64))]), sl 77 (aV false [(cD dB)])] [eBox 3 [(cD (dI .i64)), (cD (dI .i64))], eBox 9 [(cD (dI .i64)), (cD (dI .i64))]]
def u6_0_1 {β : Type} (g : St → β) : Int → Int → Bool → Int → Int → Int → Int → β := p6_0_1.unc g

def pr6_0_0 : PT (List RV) := pRs [pR false [rD dB]]
def ur6_0_0 {β : Type} (g : List RV → β) : Bool → β := pr6_0_0.unc g

def E6_0g (vf14_0 : Tf14_0) (vf25_0 : Tf25_0) (vf26_0 : Tf26_0) (vf27_0 : Tf27_0) (vf28_0 : Tf28_0) (vf29_0 : Tf29_0) (vf19_0 : Tf19_0) (vf30_0 : Tf30_0) : EnvK := EnvK.of [⟨14, nt14, [⟨pa14_0, Fn14_0 vf14_0⟩]⟩, ⟨25, nt25, [⟨pa25_0, Fn25_0 vf25_0⟩]⟩, ⟨26, nt26, [⟨pa26_0, Fn26_0 vf26_0⟩]⟩, ⟨27, nt27, [⟨pa27_0, Fn27_0 vf27_0⟩]⟩, ⟨28, nt28, [⟨pa28_0, Fn28_0 vf28_0⟩]⟩, ⟨29, nt29, [⟨pa29_0, Fn29_0 vf29_0⟩]⟩, ⟨19, nt19, [⟨pa19_0, Fn19_0 vf19_0⟩]⟩, ⟨30, nt30, [⟨pa30_0, Fn30_0 vf30_0⟩]⟩] noSeq
noncomputable def E6_0 : EnvK := E6_0g f14_0 f25_0 f26_0 f27_0 f28_0 f29_0 f19_0 f30_0
theorem eo6_0 : E6_0.Ok Try.prog := EnvK.of_ok noSeq_ok ⟨⟨io14_0, trivial⟩, ⟨io25_0, trivial⟩, ⟨io26_0, trivial⟩, ⟨io27_0, trivial⟩, ⟨io28_0, trivial⟩, ⟨io29_0, trivial⟩, ⟨io19_0, trivial⟩, ⟨io30_0, trivial⟩, trivial⟩

noncomputable def c6_0_24g  : MCode := (.region r6_25 [(16, 19)] (some ⟨[2, 3, 9, 10, 77], true, [], []⟩))
noncomputable def c6_0_24 : MCode := c6_0_24g 
theorem g6_0_24 : c6_0_24.Good Try.prog E6_0 sh6 := trivial
--CODE 24 0
abbrev TJ6_0_0 : Type 1 := (α : Type) → Int → Int → Int → Int → Int → Int → Int → Int → (Bool → Option α) → Option α
def J6_0_0g (vf29_0 : Tf29_0) (α : Type) (x15 : Int) (x17 : Int) (x18 : Int) (x19 : Int) (x20 : Int) (x21 : Int) (x22 : Int) (x23 : Int) (k1 : Bool → Option α) : Option α :=
  cK (x15 != x17)
    (k1 true)
    (cK (x17 != 0)
      (cK (!((x22 == 0) && ((x23 == 0) && true)))
        (k1 true)
        (cK (x17 == 0)
          (vf29_0 α x18 x19 x20 x21
            (fun (x26 : Int) (x27 : Int) => k1 (!((x22 == x26) && ((x23 == x27) && true)))))
          (k1 false)))
      (cK (x17 == 0)
        (vf29_0 α x18 x19 x20 x21
          (fun (x28 : Int) (x29 : Int) => k1 (!((x22 == x28) && ((x23 == x29) && true)))))
        (k1 false)))
noncomputable def J6_0_0 (α : Type) (x15 : Int) (x17 : Int) (x18 : Int) (x19 : Int) (x20 : Int) (x21 : Int) (x22 : Int) (x23 : Int) (k1 : Bool → Option α) : Option α := J6_0_0g f29_0 α x15 x17 x18 x19 x20 x21 x22 x23 k1
def F6_0_0 (v : TJ6_0_0) (α : Type) (K : Exit → St → Option α) : Int → Int → Int → Int → Int → Int → Int → Int → Int → Int → Int → Int → Option α := fun x14 x15 x16 x17 x18 x19 x20 x21 x22 x23 x24 x25 => v α x15 x17 x18 x19 x20 x21 x22 x23 (fun (y1 : Bool) => u6_0_1 (K .normal) x14 x16 y1 x18 x19 x24 x25) 
theorem m6_0_0g (vf14_0 : Tf14_0) (vf25_0 : Tf25_0) (vf26_0 : Tf26_0) (vf27_0 : Tf27_0) (vf28_0 : Tf28_0) (vf29_0 : Tf29_0) (vf19_0 : Tf19_0) (vf30_0 : Tf30_0)  (α : Type) (K : Exit → St → Option α) : F6_0_0 (J6_0_0g vf29_0) α K = p6_0_0.unc fun σ => runM Try.prog (E6_0g vf14_0 vf25_0 vf26_0 vf27_0 vf28_0 vf29_0 vf19_0 vf30_0) sh6 (c6_0_24g ) K σ := by kernel_rfl
theorem m6_0_0 : ∀ (α : Type) (K : Exit → St → Option α), F6_0_0 J6_0_0 α K = p6_0_0.unc fun σ => runM Try.prog E6_0 sh6 c6_0_24 K σ := m6_0_0g f14_0 f25_0 f26_0 f27_0 f28_0 f29_0 f19_0 f30_0

/-- etalon/etalonlaw08.GrowRates -/
abbrev Tf6_0 : Type 1 := (α : Type) → Int → Int → Int → Int → Int → (Bool → Option α) → Option α
def f6_0g (vJ6_0_0 : TJ6_0_0) (vf14_0 : Tf14_0) (vf19_0 : Tf19_0) (vf25_0 : Tf25_0) (vf26_0 : Tf26_0) (vf27_0 : Tf27_0) (vf28_0 : Tf28_0) (vf30_0 : Tf30_0) (α : Type) (x1 : Int) (x2 : Int) (x3 : Int) (x4 : Int) (x5 : Int) (k1 : Bool → Option α) : Option α :=
  vf14_0 α 
    (vf25_0 α x1 x2 x3 x4
      (fun (x6 : Int) (x7 : Int) (x8 : Int) => vf26_0 α x1 x2 x5
        (fun (x9 : Int) (x10 : Int) (x11 : Int) => vf27_0 α x1 x2
          (fun (x12 : Int) => cK (x12 != 0)
            (cK (x8 == x12)
              (cK (x11 == x12)
                (cK ((x6 == 0) && ((x7 == 0) && true))
                  (k1 ((x9 == 0) && ((x10 == 0) && true)))
                  (k1 false))
                (k1 false))
              (k1 false))
            (vf28_0 α x3 x4
              (fun (x13 : Int) => vJ6_0_0 α x8 x13 x1 x2 x3 x4 x6 x7
                (fun (x30 : Bool) => cK x30
                  (k1 false)
                  (vf19_0 α x5 0 1000000
                    (fun (x31 : Bool) => cK (!x31)
                      (cK (x11 == 2)
                        (k1 ((x9 == 0) && ((x10 == 0) && true)))
                        (k1 false))
                      (cK (x11 != 0)
                        (k1 false)
                        (vf30_0 α x1 x2 x5
                          (fun (x32 : Int) (x33 : Int) => cK (!((x9 == x32) && ((x10 == x33) && true)))
                            (k1 false)
                            (vf19_0 α x10 1 100000
                              (fun (x34 : Bool) => cK (!x34)
                                (k1 true)
                                (vf25_0 α x1 x2 x10 x10
                                  (fun (x35 : Int) (x36 : Int) (x37 : Int) => vf25_0 α x1 x2 (w64 (x10 - 1)) (w64 (x10 - 1))
                                    (fun (x38 : Int) (x39 : Int) (x40 : Int) => cK (x37 == 0)
                                      (cK (x40 == 0)
                                        (cK (decide (x5 ≤ x35))
                                          (k1 (decide (x38 < x5)))
                                          (k1 false))
                                        (k1 false))
                                      (k1 false))))))))))))))))))
noncomputable def f6_0 (α : Type) (x1 : Int) (x2 : Int) (x3 : Int) (x4 : Int) (x5 : Int) (k1 : Bool → Option α) : Option α := f6_0g J6_0_0 f14_0 f19_0 f25_0 f26_0 f27_0 f28_0 f30_0 α x1 x2 x3 x4 x5 k1
def pa6_0 : PT (List DV) := pA [pV true [(dI .i64), (dI .i64)], pV true [(dI .i64), (dI .i64)], pV false [(dI .i64)]]
def Fn6_0 (v : Tf6_0) (α : Type) (k : List RV → Option α) : Int → Int → Int → Int → Int → Option α := fun x1 x2 x3 x4 x5 => v α x1 x2 x3 x4 x5 (fun (y1 : Bool) => ur6_0_0 k y1)
noncomputable def cm6_0g (vJ6_0_0 : TJ6_0_0) : MCode := (.seq (.region r6_2 [] (some ⟨[2, 3, 4], true, [], []⟩)) (.seq (.seq (.region r6_5 [] (some ⟨[2, 3, 4, 18], true, [], []⟩)) (.cond (.tmp 18) (.seq (.region r6_8 [] (some ⟨[6], true, [], []⟩)) .ret) .skip)) (.seq (.region r6_10 [] (some ⟨[2, 3, 4, 7, 8], true, [], []⟩)) (.seq (.region r6_12 [] (some ⟨[2, 3, 4, 7, 8, 9, 10], true, [], []⟩)) (.seq (.seq (.region r6_15 [] (some ⟨[2, 3, 4, 7, 8, 9, 10, 11], true, [], []⟩)) (.seq (.region r6_17 [] (some ⟨[2, 3, 4, 7, 8, 9, 10, 11, 34], true, [], []⟩)) (.cond (.tmp 34) (.seq (.region r6_20 [] (some ⟨[6], true, [], []⟩)) .ret) .skip))) (.seq (.seq (.region r6_23 [] (some ⟨[2, 3, 4, 7, 8, 9, 10, 12], true, [], []⟩)) (.seq (.mark [⟨p6_0_0, F6_0_0 vJ6_0_0⟩] c6_0_24) (.cond (.tmp 77) (.seq (.region r6_28 [] (some ⟨[6], true, [], []⟩)) .ret) .skip))) (.seq (.seq (.region r6_31 [] (some ⟨[2, 3, 9, 10, 80], true, [], []⟩)) (.cond (.tmp 80) (.seq (.region r6_34 [] (some ⟨[6], true, [], []⟩)) .ret) .skip)) (.seq (.seq (.region r6_37 [(3, 6)] (some ⟨[2, 3, 9, 96], true, [], []⟩)) (.cond (.tmp 96) (.seq (.region r6_40 [] (some ⟨[6], true, [], []⟩)) .ret) .skip)) (.seq (.seq (.region r6_43 [] (some ⟨[2, 3, 9, 100], true, [], []⟩)) (.cond (.tmp 100) (.seq (.region r6_46 [] (some ⟨[6], true, [], []⟩)) .ret) .skip)) (.seq (.region r6_48 [] (some ⟨[2, 3, 9, 13, 14], true, [], []⟩)) (.seq (.region r6_50 [] (some ⟨[2, 13, 14, 15, 16], true, [], []⟩)) (.seq (.region r6_52 [] (some ⟨[6], true, [], []⟩)) .ret))))))))))))
noncomputable def cm6_0 : MCode := cm6_0g J6_0_0
theorem gm6_0 : cm6_0.Good Try.prog E6_0 sh6 := ⟨trivial, ⟨⟨trivial, ⟨⟨trivial, trivial⟩, trivial⟩⟩, ⟨trivial, ⟨trivial, ⟨⟨trivial, ⟨trivial, ⟨⟨trivial, trivial⟩, trivial⟩⟩⟩, ⟨⟨trivial, ⟨⟨g6_0_24, m6_0_0, trivial⟩, ⟨⟨trivial, trivial⟩, trivial⟩⟩⟩, ⟨⟨trivial, ⟨⟨trivial, trivial⟩, trivial⟩⟩, ⟨⟨trivial, ⟨⟨trivial, trivial⟩, trivial⟩⟩, ⟨⟨trivial, ⟨⟨trivial, trivial⟩, trivial⟩⟩, ⟨trivial, ⟨trivial, ⟨trivial, trivial⟩⟩⟩⟩⟩⟩⟩⟩⟩⟩⟩⟩
theorem fm6_0g (vf14_0 : Tf14_0) (vf25_0 : Tf25_0) (vf26_0 : Tf26_0) (vf27_0 : Tf27_0) (vf28_0 : Tf28_0) (vf29_0 : Tf29_0) (vf19_0 : Tf19_0) (vf30_0 : Tf30_0) (vJ6_0_0 : TJ6_0_0) (α : Type) (k : List RV → Option α) : Fn6_0 (f6_0g vJ6_0_0 vf14_0 vf19_0 vf25_0 vf26_0 vf27_0 vf28_0 vf30_0) α k = pa6_0.unc fun ds => fnM Try.prog (E6_0g vf14_0 vf25_0 vf26_0 vf27_0 vf28_0 vf29_0 vf19_0 vf30_0) sh6 (cm6_0g vJ6_0_0) rs6 k ds := by kernel_rfl
theorem fm6_0 : ∀ (α : Type) (k : List RV → Option α), Fn6_0 f6_0 α k = pa6_0.unc fun ds => fnM Try.prog E6_0 sh6 cm6_0 rs6 k ds := fm6_0g f14_0 f25_0 f26_0 f27_0 f28_0 f29_0 f19_0 f30_0 J6_0_0

theorem is6 : FnIs Try.prog 6 nt6 tr6 tl6 cm6_0.erase rs6 := ⟨Try.f6, Try.func6, rfl, by kernel_rfl, by kernel_rfl, by kernel_rfl⟩
theorem io6_0 : InstOk Try.prog 6 nt6 ⟨pa6_0, Fn6_0 f6_0⟩ := inst_ok eo6_0 followsTry is6 ⟨⟨sh6, cm6_0, by kernel_rfl, gm6_0, fm6_0⟩⟩


end Go.AM.K
