/- Printed by KGen. -/
import Derived.Test.YtjifpcjmnhnpkaaKTs
namespace Go.AM.K
open Go.Proofs
set_option maxRecDepth 100000
set_option linter.unusedVariables false

/-! ### F91 etalon/etalonref06.settingErr -/
abbrev nt91 : Nat := 25
def sh91 : List (Nat × List Sh) := [(15, [.int .i64]), (21, [.int .i64])]
def r91_2 : List AOper := [oO 5 (.box (.tmp 2)), oO 6 (.mv (.const (.int .i64 0)))]
def r91_5 : List AOper := [oM 7 0, oO 8 (.call 123 [(.tmp 7)]), oO 9 (.pure (oB (.unOp .not 4 (.tmp 8)) 4))]
def r91_8 : List AOper := [oO 6 (.mv (.const (.int .i64 3)))]
def r91_11 : List AOper := [oM 10 1, oO 11 (.call 29 [(.tmp 10), (.const (.int .i64 1000)), (.const (.int .i64 200000))]), oO 12 (.pure (oB (.unOp .not 4 (.tmp 11)) 4)), oM 13 12, ⟨(some 14), (.faddr 0 (.tmp 5)), (some (13, false))⟩, ⟨(some 15), (.load false 1 (.tmp 14)), (some (13, false))⟩, ⟨(some 16), (.call 29 [(.tmp 15), (.const (.int .i64 5000)), (.const (.int .i64 80000))]), (some (13, false))⟩, ⟨(some 17), (.pure (oB (.unOp .not 4 (.tmp 16)) 4)), (some (13, false))⟩, oO 18 (.pick (.tmp 13) (.const (.bool true)) (.tmp 17)), oM 19 18, ⟨(some 20), (.faddr 1 (.tmp 5)), (some (19, false))⟩, ⟨(some 21), (.load false 1 (.tmp 20)), (some (19, false))⟩, ⟨(some 22), (.call 29 [(.tmp 21), (.const (.int .i64 0)), (.const (.int .i64 9999))]), (some (19, false))⟩, ⟨(some 23), (.pure (oB (.unOp .not 4 (.tmp 22)) 4)), (some (19, false))⟩, oO 24 (.pick (.tmp 19) (.const (.bool true)) (.tmp 23))]
def r91_14 : List AOper := [oO 6 (.mv (.const (.int .i64 2)))]
def r91_16 : List AOper := [oO 6 (.mv (.const (.int .i64 0)))]
def tr91 : List (Nat × Tidy) := [(0, ⟨[0, 1, 5], true, [], []⟩), (1, ⟨[1, 5, 9], true, [], []⟩), (2, ⟨[6], true, [], []⟩), (3, ⟨[24], true, [], []⟩), (4, ⟨[6], true, [], []⟩), (5, ⟨[6], true, [], []⟩)]
def tl91 : List (Nat × Tidy) := []
def rs91 : List AResV := [.tmp 6]
def pr91_0_0 : PT (List RV) := pRs [pR false [rD (dI .i64)]]
def ur91_0_0 {β : Type} (g : List RV → β) : Int → β := pr91_0_0.unc g

def E91_0g (vf123_0 : Tf123_0) (vf29_0 : Tf29_0) : EnvK := EnvK.of [⟨123, nt123, [⟨pa123_0, Fn123_0 vf123_0⟩]⟩, ⟨29, nt29, [⟨pa29_0, Fn29_0 vf29_0⟩]⟩] noSeq
noncomputable def E91_0 : EnvK := E91_0g f123_0 f29_0
theorem eo91_0 : E91_0.Ok Try.prog := EnvK.of_ok noSeq_ok ⟨⟨io123_0, trivial⟩, ⟨io29_0, trivial⟩, trivial⟩

/-- etalon/etalonref06.settingErr -/
abbrev Tf91_0 : Type 1 := (α : Type) → ByteArray → Int → Int → Int → (Int → Option α) → Option α
def f91_0g (vf123_0 : Tf123_0) (vf29_0 : Tf29_0) (α : Type) (x1 : ByteArray) (x2 : Int) (x3 : Int) (x4 : Int) (k1 : Int → Option α) : Option α :=
 vf123_0 α x1
 (fun (x5 : Bool) => cK (!x5)
 (k1 3)
 (vf29_0 α x2 1000 200000
 (fun (x6 : Bool) => cK (!x6)
 (k1 2)
 (vf29_0 α x3 5000 80000
 (fun (x7 : Bool) => cK (!x7)
 (k1 2)
 (vf29_0 α x4 0 9999
 (fun (x8 : Bool) => cK (!x8)
 (k1 2)
 (k1 0))))))))
noncomputable def f91_0 (α : Type) (x1 : ByteArray) (x2 : Int) (x3 : Int) (x4 : Int) (k1 : Int → Option α) : Option α := f91_0g f123_0 f29_0 α x1 x2 x3 x4 k1
def pa91_0 : PT (List DV) := pA [pV false [dS], pV false [(dI .i64)], pV true [(dI .i64), (dI .i64)]]
def Fn91_0 (v : Tf91_0) (α : Type) (k : List RV → Option α) : ByteArray → Int → Int → Int → Option α := fun x1 x2 x3 x4 => v α x1 x2 x3 x4 (fun (y1 : Int) => ur91_0_0 k y1)
noncomputable def cm91_0g  : MCode := (.seq (.region r91_2 [] (some ⟨[0, 1, 5], true, [], []⟩)) (.seq (.seq (.region r91_5 [] (some ⟨[1, 5, 9], true, [], []⟩)) (.cond (.tmp 9) (.seq (.region r91_8 [] (some ⟨[6], true, [], []⟩)) .ret) .skip)) (.seq (.seq (.region r91_11 [] (some ⟨[24], true, [], []⟩)) (.cond (.tmp 24) (.seq (.region r91_14 [] (some ⟨[6], true, [], []⟩)) .ret) .skip)) (.seq (.region r91_16 [] (some ⟨[6], true, [], []⟩)) .ret))))
noncomputable def cm91_0 : MCode := cm91_0g 
theorem gm91_0 : cm91_0.Good Try.prog E91_0 sh91 := ⟨trivial, ⟨⟨trivial, ⟨⟨trivial, trivial⟩, trivial⟩⟩, ⟨⟨trivial, ⟨⟨trivial, trivial⟩, trivial⟩⟩, ⟨trivial, trivial⟩⟩⟩⟩
theorem fm91_0g (vf123_0 : Tf123_0) (vf29_0 : Tf29_0)  (α : Type) (k : List RV → Option α) : Fn91_0 (f91_0g vf123_0 vf29_0) α k = pa91_0.unc fun ds => fnM Try.prog (E91_0g vf123_0 vf29_0) sh91 (cm91_0g ) rs91 k ds := by kernel_rfl
theorem fm91_0 : ∀ (α : Type) (k : List RV → Option α), Fn91_0 f91_0 α k = pa91_0.unc fun ds => fnM Try.prog E91_0 sh91 cm91_0 rs91 k ds := fm91_0g f123_0 f29_0

theorem is91 : FnIs Try.prog 91 nt91 tr91 tl91 cm91_0.erase rs91 := ⟨Try.f91, Try.func91, rfl, by kernel_rfl, by kernel_rfl, by kernel_rfl⟩
theorem io91_0 : InstOk Try.prog 91 nt91 ⟨pa91_0, Fn91_0 f91_0⟩ := inst_ok eo91_0 followsTry is91 ⟨⟨sh91, cm91_0, by kernel_rfl, gm91_0, fm91_0⟩⟩

/-! ### F79 etalon/meter.ceil -/
abbrev nt79 : Nat := 10
def sh79 : List (Nat × List Sh) := []
def r79_2 : List AOper := [oO 4 (.mv (.const (.int .i64 0)))]
def r79_4 : List AOper := [oM 5 0, oO 6 (.pure (oB (.unOp .neg 3 (.tmp 5)) 3)), oM 7 1, oO 8 (.call 78 [(.tmp 6), (.tmp 7)]), oO 9 (.pure (oB (.unOp .neg 3 (.tmp 8)) 3)), oM 4 9]
def tr79 : List (Nat × Tidy) := [(0, ⟨[0, 1], true, [], []⟩), (1, ⟨[4], true, [], []⟩)]
def tl79 : List (Nat × Tidy) := []
def rs79 : List AResV := [.tmp 4]
def pr79_0_0 : PT (List RV) := pRs [pR false [rD (dI .i64)]]
def ur79_0_0 {β : Type} (g : List RV → β) : Int → β := pr79_0_0.unc g

def E79_0g (vf78_0 : Tf78_0) : EnvK := EnvK.of [⟨78, nt78, [⟨pa78_0, Fn78_0 vf78_0⟩]⟩] noSeq
noncomputable def E79_0 : EnvK := E79_0g f78_0
theorem eo79_0 : E79_0.Ok Try.prog := EnvK.of_ok noSeq_ok ⟨⟨io78_0, trivial⟩, trivial⟩

/-- etalon/meter.ceil -/
abbrev Tf79_0 : Type 1 := (α : Type) → Int → Int → (Int → Option α) → Option α
def f79_0g (vf78_0 : Tf78_0) (α : Type) (x1 : Int) (x2 : Int) (k1 : Int → Option α) : Option α :=
 vf78_0 α (w64 (0 - x1)) x2
 (fun (x3 : Int) => k1 (w64 (0 - x3)))
noncomputable def f79_0 (α : Type) (x1 : Int) (x2 : Int) (k1 : Int → Option α) : Option α := f79_0g f78_0 α x1 x2 k1
def pa79_0 : PT (List DV) := pA [pV false [(dI .i64)], pV false [(dI .i64)]]
def Fn79_0 (v : Tf79_0) (α : Type) (k : List RV → Option α) : Int → Int → Option α := fun x1 x2 => v α x1 x2 (fun (y1 : Int) => ur79_0_0 k y1)
noncomputable def cm79_0g  : MCode := (.seq (.region r79_2 [] (some ⟨[0, 1], true, [], []⟩)) (.seq (.region r79_4 [] (some ⟨[4], true, [], []⟩)) .ret))
noncomputable def cm79_0 : MCode := cm79_0g 
theorem gm79_0 : cm79_0.Good Try.prog E79_0 sh79 := ⟨trivial, ⟨trivial, trivial⟩⟩
theorem fm79_0g (vf78_0 : Tf78_0)  (α : Type) (k : List RV → Option α) : Fn79_0 (f79_0g vf78_0) α k = pa79_0.unc fun ds => fnM Try.prog (E79_0g vf78_0) sh79 (cm79_0g ) rs79 k ds := by kernel_rfl
theorem fm79_0 : ∀ (α : Type) (k : List RV → Option α), Fn79_0 f79_0 α k = pa79_0.unc fun ds => fnM Try.prog E79_0 sh79 cm79_0 rs79 k ds := fm79_0g f78_0

theorem is79 : FnIs Try.prog 79 nt79 tr79 tl79 cm79_0.erase rs79 := ⟨Try.f79, Try.func79, rfl, by kernel_rfl, by kernel_rfl, by kernel_rfl⟩
theorem io79_0 : InstOk Try.prog 79 nt79 ⟨pa79_0, Fn79_0 f79_0⟩ := inst_ok eo79_0 followsTry is79 ⟨⟨sh79, cm79_0, by kernel_rfl, gm79_0, fm79_0⟩⟩

/-! ### F42 etalon/etalonbase.Ceil -/
abbrev nt42 : Nat := 10
def sh42 : List (Nat × List Sh) := []
def r42_2 : List AOper := [oO 4 (.mv (.const (.int .i64 0)))]
def r42_4 : List AOper := [oM 5 0, oO 6 (.pure (oB (.unOp .neg 3 (.tmp 5)) 3)), oM 7 1, oO 8 (.call 99 [(.tmp 6), (.tmp 7)]), oO 9 (.pure (oB (.unOp .neg 3 (.tmp 8)) 3)), oM 4 9]
def tr42 : List (Nat × Tidy) := [(0, ⟨[0, 1], true, [], []⟩), (1, ⟨[4], true, [], []⟩)]
def tl42 : List (Nat × Tidy) := []
def rs42 : List AResV := [.tmp 4]
def pr42_0_0 : PT (List RV) := pRs [pR false [rD (dI .i64)]]
def ur42_0_0 {β : Type} (g : List RV → β) : Int → β := pr42_0_0.unc g

def E42_0g (vf99_0 : Tf99_0) : EnvK := EnvK.of [⟨99, nt99, [⟨pa99_0, Fn99_0 vf99_0⟩]⟩] noSeq
noncomputable def E42_0 : EnvK := E42_0g f99_0
theorem eo42_0 : E42_0.Ok Try.prog := EnvK.of_ok noSeq_ok ⟨⟨io99_0, trivial⟩, trivial⟩

/-- etalon/etalonbase.Ceil -/
abbrev Tf42_0 : Type 1 := (α : Type) → Int → Int → (Int → Option α) → Option α
def f42_0g (vf99_0 : Tf99_0) (α : Type) (x1 : Int) (x2 : Int) (k1 : Int → Option α) : Option α :=
 vf99_0 α (w64 (0 - x1)) x2
 (fun (x3 : Int) => k1 (w64 (0 - x3)))
noncomputable def f42_0 (α : Type) (x1 : Int) (x2 : Int) (k1 : Int → Option α) : Option α := f42_0g f99_0 α x1 x2 k1
def pa42_0 : PT (List DV) := pA [pV false [(dI .i64)], pV false [(dI .i64)]]
def Fn42_0 (v : Tf42_0) (α : Type) (k : List RV → Option α) : Int → Int → Option α := fun x1 x2 => v α x1 x2 (fun (y1 : Int) => ur42_0_0 k y1)
noncomputable def cm42_0g  : MCode := (.seq (.region r42_2 [] (some ⟨[0, 1], true, [], []⟩)) (.seq (.region r42_4 [] (some ⟨[4], true, [], []⟩)) .ret))
noncomputable def cm42_0 : MCode := cm42_0g 
theorem gm42_0 : cm42_0.Good Try.prog E42_0 sh42 := ⟨trivial, ⟨trivial, trivial⟩⟩
theorem fm42_0g (vf99_0 : Tf99_0)  (α : Type) (k : List RV → Option α) : Fn42_0 (f42_0g vf99_0) α k = pa42_0.unc fun ds => fnM Try.prog (E42_0g vf99_0) sh42 (cm42_0g ) rs42 k ds := by kernel_rfl
theorem fm42_0 : ∀ (α : Type) (k : List RV → Option α), Fn42_0 f42_0 α k = pa42_0.unc fun ds => fnM Try.prog E42_0 sh42 cm42_0 rs42 k ds := fm42_0g f99_0

theorem is42 : FnIs Try.prog 42 nt42 tr42 tl42 cm42_0.erase rs42 := ⟨Try.f42, Try.func42, rfl, by kernel_rfl, by kernel_rfl, by kernel_rfl⟩
theorem io42_0 : InstOk Try.prog 42 nt42 ⟨pa42_0, Fn42_0 f42_0⟩ := inst_ok eo42_0 followsTry is42 ⟨⟨sh42, cm42_0, by kernel_rfl, gm42_0, fm42_0⟩⟩

/-! ### F109 etalon/meter.small -/
abbrev nt109 : Nat := 10
def sh109 : List (Nat × List Sh) := []
def r109_2 : List AOper := [oO 4 (.mv (.const (.bool false)))]
def r109_4 : List AOper := [oM 5 0, oM 6 1, oO 7 (.pure (oB (.unOp .neg 3 (.tmp 6)) 3)), oM 8 1, oO 9 (.call 98 [(.tmp 5), (.tmp 7), (.tmp 8)]), oM 4 9]
def tr109 : List (Nat × Tidy) := [(0, ⟨[0, 1], true, [], []⟩), (1, ⟨[4], true, [], []⟩)]
def tl109 : List (Nat × Tidy) := []
def rs109 : List AResV := [.tmp 4]
def pr109_0_0 : PT (List RV) := pRs [pR false [rD dB]]
def ur109_0_0 {β : Type} (g : List RV → β) : Bool → β := pr109_0_0.unc g

def E109_0g (vf98_0 : Tf98_0) : EnvK := EnvK.of [⟨98, nt98, [⟨pa98_0, Fn98_0 vf98_0⟩]⟩] noSeq
noncomputable def E109_0 : EnvK := E109_0g f98_0
theorem eo109_0 : E109_0.Ok Try.prog := EnvK.of_ok noSeq_ok ⟨⟨io98_0, trivial⟩, trivial⟩

/-- etalon/meter.small -/
abbrev Tf109_0 : Type 1 := (α : Type) → Int → Int → (Bool → Option α) → Option α
def f109_0g (vf98_0 : Tf98_0) (α : Type) (x1 : Int) (x2 : Int) (k1 : Bool → Option α) : Option α :=
 vf98_0 α x1 (w64 (0 - x2)) x2
 (fun (x3 : Bool) => k1 x3)
noncomputable def f109_0 (α : Type) (x1 : Int) (x2 : Int) (k1 : Bool → Option α) : Option α := f109_0g f98_0 α x1 x2 k1
def pa109_0 : PT (List DV) := pA [pV false [(dI .i64)], pV false [(dI .i64)]]
def Fn109_0 (v : Tf109_0) (α : Type) (k : List RV → Option α) : Int → Int → Option α := fun x1 x2 => v α x1 x2 (fun (y1 : Bool) => ur109_0_0 k y1)
noncomputable def cm109_0g  : MCode := (.seq (.region r109_2 [] (some ⟨[0, 1], true, [], []⟩)) (.seq (.region r109_4 [] (some ⟨[4], true, [], []⟩)) .ret))
noncomputable def cm109_0 : MCode := cm109_0g 
theorem gm109_0 : cm109_0.Good Try.prog E109_0 sh109 := ⟨trivial, ⟨trivial, trivial⟩⟩
theorem fm109_0g (vf98_0 : Tf98_0)  (α : Type) (k : List RV → Option α) : Fn109_0 (f109_0g vf98_0) α k = pa109_0.unc fun ds => fnM Try.prog (E109_0g vf98_0) sh109 (cm109_0g ) rs109 k ds := by kernel_rfl
theorem fm109_0 : ∀ (α : Type) (k : List RV → Option α), Fn109_0 f109_0 α k = pa109_0.unc fun ds => fnM Try.prog E109_0 sh109 cm109_0 rs109 k ds := fm109_0g f98_0

theorem is109 : FnIs Try.prog 109 nt109 tr109 tl109 cm109_0.erase rs109 := ⟨Try.f109, Try.func109, rfl, by kernel_rfl, by kernel_rfl, by kernel_rfl⟩
theorem io109_0 : InstOk Try.prog 109 nt109 ⟨pa109_0, Fn109_0 f109_0⟩ := inst_ok eo109_0 followsTry is109 ⟨⟨sh109, cm109_0, by kernel_rfl, gm109_0, fm109_0⟩⟩

/-! ### F83 etalon/meter.placeErr -/
abbrev nt83 : Nat := 27
def sh83 : List (Nat × List Sh) := [(17, [.int .i64]), (23, [.int .i64])]
def r83_2 : List AOper := [oO 5 (.box (.tmp 2)), oO 6 (.mv (.const (.int .i64 0)))]
def r83_6 : List AOper := [oM 8 0, oO 9 (.call 121 [(.tmp 8)]), oO 10 (.pure (oB (.unOp .not 4 (.tmp 9)) 4)), oM 7 10]
def r83_9 : List AOper := [oO 6 (.mv (.const (.int .i64 3)))]
def r83_11 : List AOper := [oM 12 1, oO 13 (.call 98 [(.tmp 12), (.const (.int .i64 1000)), (.const (.int .i64 200000))]), oO 14 (.pure (oB (.unOp .not 4 (.tmp 13)) 4)), oM 15 14, ⟨(some 16), (.faddr 0 (.tmp 5)), (some (15, false))⟩, ⟨(some 17), (.load false 1 (.tmp 16)), (some (15, false))⟩, ⟨(some 18), (.call 98 [(.tmp 17), (.const (.int .i64 5000)), (.const (.int .i64 80000))]), (some (15, false))⟩, ⟨(some 19), (.pure (oB (.unOp .not 4 (.tmp 18)) 4)), (some (15, false))⟩, oO 20 (.pick (.tmp 15) (.const (.bool true)) (.tmp 19)), oM 21 20, ⟨(some 22), (.faddr 1 (.tmp 5)), (some (21, false))⟩, ⟨(some 23), (.load false 1 (.tmp 22)), (some (21, false))⟩, ⟨(some 24), (.call 98 [(.tmp 23), (.const (.int .i64 0)), (.const (.int .i64 9999))]), (some (21, false))⟩, ⟨(some 25), (.pure (oB (.unOp .not 4 (.tmp 24)) 4)), (some (21, false))⟩, oO 26 (.pick (.tmp 21) (.const (.bool true)) (.tmp 25)), oM 11 26]
def r83_14 : List AOper := [oO 6 (.mv (.const (.int .i64 2)))]
def r83_16 : List AOper := [oO 6 (.mv (.const (.int .i64 0)))]
def tr83 : List (Nat × Tidy) := [(0, ⟨[0, 1, 5], true, [], []⟩), (1, ⟨[1, 5, 7], true, [], []⟩), (2, ⟨[6], true, [], []⟩), (3, ⟨[11], true, [], []⟩), (4, ⟨[6], true, [], []⟩), (5, ⟨[6], true, [], []⟩)]
def tl83 : List (Nat × Tidy) := []
def rs83 : List AResV := [.tmp 6]
def pr83_0_0 : PT (List RV) := pRs [pR false [rD (dI .i64)]]
def ur83_0_0 {β : Type} (g : List RV → β) : Int → β := pr83_0_0.unc g

def E83_0g (vf121_0 : Tf121_0) (vf98_0 : Tf98_0) : EnvK := EnvK.of [⟨121, nt121, [⟨pa121_0, Fn121_0 vf121_0⟩]⟩, ⟨98, nt98, [⟨pa98_0, Fn98_0 vf98_0⟩]⟩] noSeq
noncomputable def E83_0 : EnvK := E83_0g f121_0 f98_0
theorem eo83_0 : E83_0.Ok Try.prog := EnvK.of_ok noSeq_ok ⟨⟨io121_0, trivial⟩, ⟨io98_0, trivial⟩, trivial⟩

/-- etalon/meter.placeErr -/
abbrev Tf83_0 : Type 1 := (α : Type) → ByteArray → Int → Int → Int → (Int → Option α) → Option α
def f83_0g (vf121_0 : Tf121_0) (vf98_0 : Tf98_0) (α : Type) (x1 : ByteArray) (x2 : Int) (x3 : Int) (x4 : Int) (k1 : Int → Option α) : Option α :=
 vf121_0 α x1
 (fun (x5 : Bool) => cK (!x5)
 (k1 3)
 (vf98_0 α x2 1000 200000
 (fun (x6 : Bool) => cK (!x6)
 (k1 2)
 (vf98_0 α x3 5000 80000
 (fun (x7 : Bool) => cK (!x7)
 (k1 2)
 (vf98_0 α x4 0 9999
 (fun (x8 : Bool) => cK (!x8)
 (k1 2)
 (k1 0))))))))
noncomputable def f83_0 (α : Type) (x1 : ByteArray) (x2 : Int) (x3 : Int) (x4 : Int) (k1 : Int → Option α) : Option α := f83_0g f121_0 f98_0 α x1 x2 x3 x4 k1
def pa83_0 : PT (List DV) := pA [pV false [dS], pV false [(dI .i64)], pV true [(dI .i64), (dI .i64)]]
def Fn83_0 (v : Tf83_0) (α : Type) (k : List RV → Option α) : ByteArray → Int → Int → Int → Option α := fun x1 x2 x3 x4 => v α x1 x2 x3 x4 (fun (y1 : Int) => ur83_0_0 k y1)
noncomputable def cm83_0g  : MCode := (.seq (.region r83_2 [] (some ⟨[0, 1, 5], true, [], []⟩)) (.seq (.block 0 (.seq (.region r83_6 [] (some ⟨[1, 5, 7], true, [], []⟩)) (.cond (.tmp 7) (.seq (.region r83_9 [] (some ⟨[6], true, [], []⟩)) .ret) (.seq (.region r83_11 [] (some ⟨[11], true, [], []⟩)) (.cond (.tmp 11) (.seq (.region r83_14 [] (some ⟨[6], true, [], []⟩)) .ret) .skip))))) (.seq (.region r83_16 [] (some ⟨[6], true, [], []⟩)) .ret)))
noncomputable def cm83_0 : MCode := cm83_0g 
theorem gm83_0 : cm83_0.Good Try.prog E83_0 sh83 := ⟨trivial, ⟨⟨trivial, ⟨⟨trivial, trivial⟩, ⟨trivial, ⟨⟨trivial, trivial⟩, trivial⟩⟩⟩⟩, ⟨trivial, trivial⟩⟩⟩
theorem fm83_0g (vf121_0 : Tf121_0) (vf98_0 : Tf98_0)  (α : Type) (k : List RV → Option α) : Fn83_0 (f83_0g vf121_0 vf98_0) α k = pa83_0.unc fun ds => fnM Try.prog (E83_0g vf121_0 vf98_0) sh83 (cm83_0g ) rs83 k ds := by kernel_rfl
theorem fm83_0 : ∀ (α : Type) (k : List RV → Option α), Fn83_0 f83_0 α k = pa83_0.unc fun ds => fnM Try.prog E83_0 sh83 cm83_0 rs83 k ds := fm83_0g f121_0 f98_0

theorem is83 : FnIs Try.prog 83 nt83 tr83 tl83 cm83_0.erase rs83 := ⟨Try.f83, Try.func83, rfl, by kernel_rfl, by kernel_rfl, by kernel_rfl⟩
theorem io83_0 : InstOk Try.prog 83 nt83 ⟨pa83_0, Fn83_0 f83_0⟩ := inst_ok eo83_0 followsTry is83 ⟨⟨sh83, cm83_0, by kernel_rfl, gm83_0, fm83_0⟩⟩

/-! ### F145 (etalon/etalonref01.B).Checked -/
abbrev nt145 : Nat := 22
def sh145 : List (Nat × List Sh) := [(5, [.int .i64]), (10, [.int .i64]), (16, [.int .i64]), (21, [.int .i64, .int .i64, .int .i64])]
def r145_2 : List AOper := [oO 1 (.box (.tmp 0)), oO 2 (.alloc [(.d (.v (.int .i64 0))), (.d (.v (.int .i64 0))), (.d (.v (.int .i64 0)))]), oO 3 (.mv (.const (.int .i64 0)))]
def r145_5 : List AOper := [oO 4 (.faddr 0 (.tmp 1)), oO 5 (.load false 1 (.tmp 4)), oO 6 (.call 153 [(.tmp 5)]), oO 7 (.pure (oB (.unOp .not 4 (.tmp 6)) 4)), oM 8 7, ⟨(some 9), (.faddr 1 (.tmp 1)), (some (8, false))⟩, ⟨(some 10), (.load false 1 (.tmp 9)), (some (8, false))⟩, ⟨(some 11), (.call 153 [(.tmp 10)]), (some (8, false))⟩, ⟨(some 12), (.pure (oB (.unOp .not 4 (.tmp 11)) 4)), (some (8, false))⟩, oO 13 (.pick (.tmp 8) (.const (.bool true)) (.tmp 12)), oM 14 13, ⟨(some 15), (.faddr 2 (.tmp 1)), (some (14, false))⟩, ⟨(some 16), (.load false 1 (.tmp 15)), (some (14, false))⟩, ⟨(some 17), (.call 29 [(.tmp 16), (.const (.int .i64 0)), (.const (.int .i64 67108864))]), (some (14, false))⟩, ⟨(some 18), (.pure (oB (.unOp .not 4 (.tmp 17)) 4)), (some (14, false))⟩, oO 19 (.pick (.tmp 14) (.const (.bool true)) (.tmp 18))]
def r145_8 : List AOper := [oO 20 (.build [(.d (.v (.int .i64 0))), (.d (.v (.int .i64 0))), (.d (.v (.int .i64 0)))] []), ⟨none, (.store 3 (.tmp 2) (.tmp 20)), none⟩, oO 3 (.mv (.const (.int .i64 8)))]
def r145_10 : List AOper := [oO 21 (.load true 3 (.tmp 1)), ⟨none, (.store 3 (.tmp 2) (.tmp 21)), none⟩, oO 3 (.mv (.const (.int .i64 0)))]
def tr145 : List (Nat × Tidy) := [(0, ⟨[1, 2], true, [], []⟩), (1, ⟨[1, 2, 19], true, [], []⟩), (2, ⟨[2, 3], true, [], []⟩), (3, ⟨[2, 3], true, [], []⟩)]
def tl145 : List (Nat × Tidy) := []
def rs145 : List AResV := [.cell 2 true 3, .tmp 3]
def p145_0_0 : PT St := pS [sl 1 (aV false [(cPtr 1 0)]), sl 2 (aV false [(cPtr 2 0)])] [eBox 1 [(cD (dI .i64)), (cD (dI .i64)), (cD (dI .i64))], eBox 2 [(cD (dI .i64)), (cD (dI .i64)), (cD (dI .i64))]]
def u145_0_0 {β : Type} (g : St → β) : Int → Int → Int → Int → Int → Int → β := p145_0_0.unc g

def p145_0_1 : PT St := pS [sl 1 (aV false [(cPtr 1 0)]), sl 2 (aV false [(cPtr 2 0)]), sl 19 (aV false [(cD dB)])] [eBox 1 [(cD (dI .i64)), (cD (dI .i64)), (cD (dI .i64))], eBox 2 [(cD (dI .i64)), (cD (dI .i64)), (cD (dI .i64))]]
def u145_0_1 {β : Type} (g : St → β) : Bool → Int → Int → Int → Int → Int → Int → β := p145_0_1.unc g

def pr145_0_0 : PT (List RV) := pRs [pR true [rD (dI .i64), rD (dI .i64), rD (dI .i64)], pR false [rD (dI .i64)]]
def ur145_0_0 {β : Type} (g : List RV → β) : Int → Int → Int → Int → β := pr145_0_0.unc g

def E145_0g (vf153_0 : Tf153_0) (vf29_0 : Tf29_0) : EnvK := EnvK.of [⟨153, nt153, [⟨pa153_0, Fn153_0 vf153_0⟩]⟩, ⟨29, nt29, [⟨pa29_0, Fn29_0 vf29_0⟩]⟩] noSeq
noncomputable def E145_0 : EnvK := E145_0g f153_0 f29_0
theorem eo145_0 : E145_0.Ok Try.prog := EnvK.of_ok noSeq_ok ⟨⟨io153_0, trivial⟩, ⟨io29_0, trivial⟩, trivial⟩

noncomputable def c145_0_4g  : MCode := (.region r145_5 [] (some ⟨[1, 2, 19], true, [], []⟩))
noncomputable def c145_0_4 : MCode := c145_0_4g 
theorem g145_0_4 : c145_0_4.Good Try.prog E145_0 sh145 := trivial
--CODE 4 0
abbrev TJ145_0_0 : Type 1 := (α : Type) → Int → Int → Int → (Bool → Option α) → Option α
def J145_0_0g (vf153_0 : Tf153_0) (vf29_0 : Tf29_0) (α : Type) (x4 : Int) (x5 : Int) (x6 : Int) (k1 : Bool → Option α) : Option α :=
 vf153_0 α x4
 (fun (x11 : Bool) => cK (!x11)
 (k1 true)
 (vf153_0 α x5
 (fun (x12 : Bool) => cK (!x12)
 (k1 true)
 (vf29_0 α x6 0 67108864
 (fun (x13 : Bool) => k1 (!x13))))))
noncomputable def J145_0_0 (α : Type) (x4 : Int) (x5 : Int) (x6 : Int) (k1 : Bool → Option α) : Option α := J145_0_0g f153_0 f29_0 α x4 x5 x6 k1
def F145_0_0 (v : TJ145_0_0) (α : Type) (K : Exit → St → Option α) : Int → Int → Int → Int → Int → Int → Option α := fun x4 x5 x6 x7 x8 x9 => v α x4 x5 x6 (fun (y1 : Bool) => u145_0_1 (K .normal) y1 x4 x5 x6 x7 x8 x9) 
theorem m145_0_0g (vf153_0 : Tf153_0) (vf29_0 : Tf29_0)  (α : Type) (K : Exit → St → Option α) : F145_0_0 (J145_0_0g vf153_0 vf29_0) α K = p145_0_0.unc fun σ => runM Try.prog (E145_0g vf153_0 vf29_0) sh145 (c145_0_4g ) K σ := by kernel_rfl
theorem m145_0_0 : ∀ (α : Type) (K : Exit → St → Option α), F145_0_0 J145_0_0 α K = p145_0_0.unc fun σ => runM Try.prog E145_0 sh145 c145_0_4 K σ := m145_0_0g f153_0 f29_0

/-- (etalon/etalonref01.B).Checked -/
abbrev Tf145_0 : Type 1 := (α : Type) → Int → Int → Int → (Int → Int → Int → Int → Option α) → Option α
def f145_0g (vJ145_0_0 : TJ145_0_0) (α : Type) (x1 : Int) (x2 : Int) (x3 : Int) (k1 : Int → Int → Int → Int → Option α) : Option α :=
 vJ145_0_0 α x1 x2 x3
 (fun (x14 : Bool) => cK x14
 (k1 0 0 0 8)
 (k1 x1 x2 x3 0))
noncomputable def f145_0 (α : Type) (x1 : Int) (x2 : Int) (x3 : Int) (k1 : Int → Int → Int → Int → Option α) : Option α := f145_0g J145_0_0 α x1 x2 x3 k1
def pa145_0 : PT (List DV) := pA [pV true [(dI .i64), (dI .i64), (dI .i64)]]
def Fn145_0 (v : Tf145_0) (α : Type) (k : List RV → Option α) : Int → Int → Int → Option α := fun x1 x2 x3 => v α x1 x2 x3 (fun (y1 : Int) (y2 : Int) (y3 : Int) (y4 : Int) => ur145_0_0 k y1 y2 y3 y4)
noncomputable def cm145_0g (vJ145_0_0 : TJ145_0_0) : MCode := (.seq (.region r145_2 [] (some ⟨[1, 2], true, [], []⟩)) (.seq (.seq (.mark [⟨p145_0_0, F145_0_0 vJ145_0_0⟩] c145_0_4) (.cond (.tmp 19) (.seq (.region r145_8 [] (some ⟨[2, 3], true, [], []⟩)) .ret) .skip)) (.seq (.region r145_10 [] (some ⟨[2, 3], true, [], []⟩)) .ret)))
noncomputable def cm145_0 : MCode := cm145_0g J145_0_0
theorem gm145_0 : cm145_0.Good Try.prog E145_0 sh145 := ⟨trivial, ⟨⟨⟨g145_0_4, m145_0_0, trivial⟩, ⟨⟨trivial, trivial⟩, trivial⟩⟩, ⟨trivial, trivial⟩⟩⟩
theorem fm145_0g (vf153_0 : Tf153_0) (vf29_0 : Tf29_0) (vJ145_0_0 : TJ145_0_0) (α : Type) (k : List RV → Option α) : Fn145_0 (f145_0g vJ145_0_0) α k = pa145_0.unc fun ds => fnM Try.prog (E145_0g vf153_0 vf29_0) sh145 (cm145_0g vJ145_0_0) rs145 k ds := by kernel_rfl
theorem fm145_0 : ∀ (α : Type) (k : List RV → Option α), Fn145_0 f145_0 α k = pa145_0.unc fun ds => fnM Try.prog E145_0 sh145 cm145_0 rs145 k ds := fm145_0g f153_0 f29_0 J145_0_0

theorem is145 : FnIs Try.prog 145 nt145 tr145 tl145 cm145_0.erase rs145 := ⟨Try.f145, Try.func145, rfl, by kernel_rfl, by kernel_rfl, by kernel_rfl⟩
theorem io145_0 : InstOk Try.prog 145 nt145 ⟨pa145_0, Fn145_0 f145_0⟩ := inst_ok eo145_0 followsTry is145 ⟨⟨sh145, cm145_0, by kernel_rfl, gm145_0, fm145_0⟩⟩

/-! ### F51 etalon/etalonref06.Possible -/
abbrev nt51 : Nat := 14
def sh51 : List (Nat × List Sh) := [(6, [.str, .int .i64, .int .i64, .int .i64, .int .i64, .int .i64, .int .i64, .int .i64, .int .i64, .int .i64])]
def r51_2 : List AOper := [oO 1 (.box (.tmp 0)), oO 2 (.mv (.const (.int .i64 0)))]
def r51_4 : List AOper := [oO 6 (.load true 10 (.tmp 1)), oO 7 (.call 104 [(.tmp 6)]), oM 5 7, oO 8 (.extract 0 (.tmp 5)), oO 9 (.extract 1 (.tmp 5)), oM 3 8, oM 4 9]
def r51_7 : List AOper := [oM 10 3, oO 11 (.bin .gtr 3 (.tmp 10) (.const (.int .i64 1099511627776)))]
def r51_10 : List AOper := [oO 2 (.mv (.const (.int .i64 0)))]
def r51_13 : List AOper := [oM 12 4, oO 13 (.bin .leq 3 (.tmp 12) (.const (.int .i64 1099511627776)))]
def r51_16 : List AOper := [oO 2 (.mv (.const (.int .i64 2)))]
def r51_18 : List AOper := [oO 2 (.mv (.const (.int .i64 1)))]
def tr51 : List (Nat × Tidy) := [(0, ⟨[1], true, [], []⟩), (1, ⟨[3, 4], true, [], []⟩), (2, ⟨[4, 11], true, [], []⟩), (3, ⟨[2], true, [], []⟩), (4, ⟨[13], true, [], []⟩), (5, ⟨[2], true, [], []⟩), (6, ⟨[2], true, [], []⟩)]
def tl51 : List (Nat × Tidy) := []
def rs51 : List AResV := [.tmp 2]
def pr51_0_0 : PT (List RV) := pRs [pR false [rD (dI .i64)]]
def ur51_0_0 {β : Type} (g : List RV → β) : Int → β := pr51_0_0.unc g

def E51_0g (vf104_0 : Tf104_0) : EnvK := EnvK.of [⟨104, nt104, [⟨pa104_0, Fn104_0 vf104_0⟩]⟩] noSeq
noncomputable def E51_0 : EnvK := E51_0g f104_0
theorem eo51_0 : E51_0.Ok Try.prog := EnvK.of_ok noSeq_ok ⟨⟨io104_0, trivial⟩, trivial⟩

/-- etalon/etalonref06.Possible -/
abbrev Tf51_0 : Type 1 := (α : Type) → ByteArray → Int → Int → Int → Int → Int → Int → Int → Int → Int → (Int → Option α) → Option α
def f51_0g (vf104_0 : Tf104_0) (α : Type) (x1 : ByteArray) (x2 : Int) (x3 : Int) (x4 : Int) (x5 : Int) (x6 : Int) (x7 : Int) (x8 : Int) (x9 : Int) (x10 : Int) (k1 : Int → Option α) : Option α :=
 vf104_0 α x1 x2 x3 x4 x5 x6 x7 x8 x9 x10
 (fun (x11 : Int) (x12 : Int) => cK (decide (1099511627776 < x11))
 (k1 0)
 (cK (decide (x12 ≤ 1099511627776))
 (k1 2)
 (k1 1)))
noncomputable def f51_0 (α : Type) (x1 : ByteArray) (x2 : Int) (x3 : Int) (x4 : Int) (x5 : Int) (x6 : Int) (x7 : Int) (x8 : Int) (x9 : Int) (x10 : Int) (k1 : Int → Option α) : Option α := f51_0g f104_0 α x1 x2 x3 x4 x5 x6 x7 x8 x9 x10 k1
def pa51_0 : PT (List DV) := pA [pV true [dS, (dI .i64), (dI .i64), (dI .i64), (dI .i64), (dI .i64), (dI .i64), (dI .i64), (dI .i64), (dI .i64)]]
def Fn51_0 (v : Tf51_0) (α : Type) (k : List RV → Option α) : ByteArray → Int → Int → Int → Int → Int → Int → Int → Int → Int → Option α := fun x1 x2 x3 x4 x5 x6 x7 x8 x9 x10 => v α x1 x2 x3 x4 x5 x6 x7 x8 x9 x10 (fun (y1 : Int) => ur51_0_0 k y1)
noncomputable def cm51_0g  : MCode := (.seq (.region r51_2 [] (some ⟨[1], true, [], []⟩)) (.seq (.region r51_4 [] (some ⟨[3, 4], true, [], []⟩)) (.seq (.seq (.region r51_7 [] (some ⟨[4, 11], true, [], []⟩)) (.cond (.tmp 11) (.seq (.region r51_10 [] (some ⟨[2], true, [], []⟩)) .ret) .skip)) (.seq (.seq (.region r51_13 [] (some ⟨[13], true, [], []⟩)) (.cond (.tmp 13) (.seq (.region r51_16 [] (some ⟨[2], true, [], []⟩)) .ret) .skip)) (.seq (.region r51_18 [] (some ⟨[2], true, [], []⟩)) .ret)))))
noncomputable def cm51_0 : MCode := cm51_0g 
theorem gm51_0 : cm51_0.Good Try.prog E51_0 sh51 := ⟨trivial, ⟨trivial, ⟨⟨trivial, ⟨⟨trivial, trivial⟩, trivial⟩⟩, ⟨⟨trivial, ⟨⟨trivial, trivial⟩, trivial⟩⟩, ⟨trivial, trivial⟩⟩⟩⟩⟩
theorem fm51_0g (vf104_0 : Tf104_0)  (α : Type) (k : List RV → Option α) : Fn51_0 (f51_0g vf104_0) α k = pa51_0.unc fun ds => fnM Try.prog (E51_0g vf104_0) sh51 (cm51_0g ) rs51 k ds := by kernel_rfl
theorem fm51_0 : ∀ (α : Type) (k : List RV → Option α), Fn51_0 f51_0 α k = pa51_0.unc fun ds => fnM Try.prog E51_0 sh51 cm51_0 rs51 k ds := fm51_0g f104_0

theorem is51 : FnIs Try.prog 51 nt51 tr51 tl51 cm51_0.erase rs51 := ⟨Try.f51, Try.func51, rfl, by kernel_rfl, by kernel_rfl, by kernel_rfl⟩
theorem io51_0 : InstOk Try.prog 51 nt51 ⟨pa51_0, Fn51_0 f51_0⟩ := inst_ok eo51_0 followsTry is51 ⟨⟨sh51, cm51_0, by kernel_rfl, gm51_0, fm51_0⟩⟩

/-! ### F50 etalon/etalonref06.DegreeOf -/
abbrev nt50 : Nat := 15
def sh50 : List (Nat × List Sh) := [(6, [.str, .int .i64, .int .i64, .int .i64, .int .i64, .int .i64, .int .i64, .int .i64, .int .i64, .int .i64])]
def r50_2 : List AOper := [oO 1 (.box (.tmp 0)), oO 2 (.alloc [(.d (.v (.int .i64 0))), (.d (.v (.int .i64 0)))])]
def r50_4 : List AOper := [oO 6 (.load true 10 (.tmp 1)), oO 7 (.call 104 [(.tmp 6)]), oM 5 7, oO 8 (.extract 0 (.tmp 5)), oO 9 (.extract 1 (.tmp 5)), oM 3 8, oM 4 9]
def r50_6 : List AOper := [oM 10 3, oO 11 (.call 99 [(.tmp 10), (.const (.int .i64 1048576))]), oM 12 4, oO 13 (.call 42 [(.tmp 12), (.const (.int .i64 1048576))]), oO 14 (.build [(.d (.v (.int .i64 0))), (.d (.v (.int .i64 0)))] [(0, 1, (.tmp 11)), (1, 1, (.tmp 13))]), ⟨none, (.store 2 (.tmp 2) (.tmp 14)), none⟩]
def tr50 : List (Nat × Tidy) := [(0, ⟨[1, 2], true, [], []⟩), (1, ⟨[2, 3, 4], true, [], []⟩), (2, ⟨[2], true, [], []⟩)]
def tl50 : List (Nat × Tidy) := []
def rs50 : List AResV := [.cell 2 true 2]
def pr50_0_0 : PT (List RV) := pRs [pR true [rD (dI .i64), rD (dI .i64)]]
def ur50_0_0 {β : Type} (g : List RV → β) : Int → Int → β := pr50_0_0.unc g

def E50_0g (vf104_0 : Tf104_0) (vf99_0 : Tf99_0) (vf42_0 : Tf42_0) : EnvK := EnvK.of [⟨104, nt104, [⟨pa104_0, Fn104_0 vf104_0⟩]⟩, ⟨99, nt99, [⟨pa99_0, Fn99_0 vf99_0⟩]⟩, ⟨42, nt42, [⟨pa42_0, Fn42_0 vf42_0⟩]⟩] noSeq
noncomputable def E50_0 : EnvK := E50_0g f104_0 f99_0 f42_0
theorem eo50_0 : E50_0.Ok Try.prog := EnvK.of_ok noSeq_ok ⟨⟨io104_0, trivial⟩, ⟨io99_0, trivial⟩, ⟨io42_0, trivial⟩, trivial⟩

/-- etalon/etalonref06.DegreeOf -/
abbrev Tf50_0 : Type 1 := (α : Type) → ByteArray → Int → Int → Int → Int → Int → Int → Int → Int → Int → (Int → Int → Option α) → Option α
def f50_0g (vf104_0 : Tf104_0) (vf42_0 : Tf42_0) (vf99_0 : Tf99_0) (α : Type) (x1 : ByteArray) (x2 : Int) (x3 : Int) (x4 : Int) (x5 : Int) (x6 : Int) (x7 : Int) (x8 : Int) (x9 : Int) (x10 : Int) (k1 : Int → Int → Option α) : Option α :=
 vf104_0 α x1 x2 x3 x4 x5 x6 x7 x8 x9 x10
 (fun (x11 : Int) (x12 : Int) => vf99_0 α x11 1048576
 (fun (x13 : Int) => vf42_0 α x12 1048576
 (fun (x14 : Int) => k1 x13 x14)))
noncomputable def f50_0 (α : Type) (x1 : ByteArray) (x2 : Int) (x3 : Int) (x4 : Int) (x5 : Int) (x6 : Int) (x7 : Int) (x8 : Int) (x9 : Int) (x10 : Int) (k1 : Int → Int → Option α) : Option α := f50_0g f104_0 f42_0 f99_0 α x1 x2 x3 x4 x5 x6 x7 x8 x9 x10 k1
def pa50_0 : PT (List DV) := pA [pV true [dS, (dI .i64), (dI .i64), (dI .i64), (dI .i64), (dI .i64), (dI .i64), (dI .i64), (dI .i64), (dI .i64)]]
def Fn50_0 (v : Tf50_0) (α : Type) (k : List RV → Option α) : ByteArray → Int → Int → Int → Int → Int → Int → Int → Int → Int → Option α := fun x1 x2 x3 x4 x5 x6 x7 x8 x9 x10 => v α x1 x2 x3 x4 x5 x6 x7 x8 x9 x10 (fun (y1 : Int) (y2 : Int) => ur50_0_0 k y1 y2)
noncomputable def cm50_0g  : MCode := (.seq (.region r50_2 [] (some ⟨[1, 2], true, [], []⟩)) (.seq (.region r50_4 [] (some ⟨[2, 3, 4], true, [], []⟩)) (.seq (.region r50_6 [] (some ⟨[2], true, [], []⟩)) .ret)))
noncomputable def cm50_0 : MCode := cm50_0g 
theorem gm50_0 : cm50_0.Good Try.prog E50_0 sh50 := ⟨trivial, ⟨trivial, ⟨trivial, trivial⟩⟩⟩
theorem fm50_0g (vf104_0 : Tf104_0) (vf99_0 : Tf99_0) (vf42_0 : Tf42_0)  (α : Type) (k : List RV → Option α) : Fn50_0 (f50_0g vf104_0 vf42_0 vf99_0) α k = pa50_0.unc fun ds => fnM Try.prog (E50_0g vf104_0 vf99_0 vf42_0) sh50 (cm50_0g ) rs50 k ds := by kernel_rfl
theorem fm50_0 : ∀ (α : Type) (k : List RV → Option α), Fn50_0 f50_0 α k = pa50_0.unc fun ds => fnM Try.prog E50_0 sh50 cm50_0 rs50 k ds := fm50_0g f104_0 f99_0 f42_0

theorem is50 : FnIs Try.prog 50 nt50 tr50 tl50 cm50_0.erase rs50 := ⟨Try.f50, Try.func50, rfl, by kernel_rfl, by kernel_rfl, by kernel_rfl⟩
theorem io50_0 : InstOk Try.prog 50 nt50 ⟨pa50_0, Fn50_0 f50_0⟩ := inst_ok eo50_0 followsTry is50 ⟨⟨sh50, cm50_0, by kernel_rfl, gm50_0, fm50_0⟩⟩

/-! ### F49 etalon/etalonref06.CheckReading -/
abbrev nt49 : Nat := 45
def sh49 : List (Nat × List Sh) := [(7, [.str]), (9, [.int .i64]), (11, [.int .i64, .int .i64]), (16, [.str, .int .i64, .int .i64, .int .i64, .int .i64, .int .i64, .int .i64, .int .i64, .int .i64, .int .i64]), (25, [.int .i64]), (32, [.int .i64]), (39, [.int .i64]), (43, [.int .i64])]
def r49_2 : List AOper := [oO 1 (.box (.tmp 0)), oO 2 (.mv (.const (.int .i64 0)))]
def r49_5 : List AOper := [oO 6 (.faddr 0 (.tmp 1)), oO 7 (.load false 1 (.tmp 6)), oO 8 (.faddr 1 (.tmp 1)), oO 9 (.load false 1 (.tmp 8)), oO 10 (.faddr 2 (.tmp 1)), oO 11 (.load true 2 (.tmp 10)), oO 12 (.call 91 [(.tmp 7), (.tmp 9), (.tmp 11)]), oM 3 12]
def r49_7 : List AOper := [oM 13 3, oO 14 (.bin .neq 3 (.tmp 13) (.const (.int .i64 0)))]
def r49_10 : List AOper := [oM 15 3, oM 2 15]
def r49_12 : List AOper := [oO 16 (.load true 10 (.tmp 1)), oO 17 (.call 103 [(.tmp 16)]), oO 4 (.alloc [(.d (.v (.int .i64 0))), (.d (.v (.int .i64 0))), (.d (.v (.int .i64 0))), (.d (.v (.int .i64 0))), (.d (.v (.int .i64 0))), (.d (.v (.int .i64 0)))]), ⟨none, (.store 6 (.tmp 4) (.tmp 17)), none⟩]
def r49_15 : List AOper := [oO 5 (.mv (.const (.int .i64 0)))]
def td49_17 : Option Tidy := (some ⟨[4, 5], true, [], []⟩)
def r49_20 : List AOper := [oM 18 5, oO 19 (.bin .lss 3 (.tmp 18) (.const (.int .i64 3)))]
def r49_26 : List AOper := [oM 22 5, oO 23 (.iaddr 2 (some 3) (.tmp 4) (.tmp 22)), oO 24 (.faddr 0 (.tmp 23)), oO 25 (.load false 1 (.tmp 24)), oO 26 (.call 29 [(.tmp 25), (.const (.int .i64 (-1048576))), (.const (.int .i64 1048576))]), oO 27 (.pure (oB (.unOp .not 4 (.tmp 26)) 4)), oM 28 27, ⟨(some 29), (.mv (.tmp 5)), (some (28, false))⟩, ⟨(some 30), (.iaddr 2 (some 3) (.tmp 4) (.tmp 29)), (some (28, false))⟩, ⟨(some 31), (.faddr 1 (.tmp 30)), (some (28, false))⟩, ⟨(some 32), (.load false 1 (.tmp 31)), (some (28, false))⟩, ⟨(some 33), (.call 29 [(.tmp 32), (.const (.int .i64 (-1048576))), (.const (.int .i64 1048576))]), (some (28, false))⟩, ⟨(some 34), (.pure (oB (.unOp .not 4 (.tmp 33)) 4)), (some (28, false))⟩, oO 35 (.pick (.tmp 28) (.const (.bool true)) (.tmp 34))]
def r49_29 : List AOper := [oO 2 (.mv (.const (.int .i64 2)))]
def r49_31 : List AOper := [oM 36 5, oO 37 (.iaddr 2 (some 3) (.tmp 4) (.tmp 36)), oO 38 (.faddr 0 (.tmp 37)), oO 39 (.load false 1 (.tmp 38)), oM 40 5, oO 41 (.iaddr 2 (some 3) (.tmp 4) (.tmp 40)), oO 42 (.faddr 1 (.tmp 41)), oO 43 (.load false 1 (.tmp 42)), oO 44 (.bin .gtr 3 (.tmp 39) (.tmp 43))]
def r49_34 : List AOper := [oO 2 (.mv (.const (.int .i64 10)))]
def r49_35 : List AOper := [oM 20 5, oO 21 (.bin .add 3 (.tmp 20) (.const (.int .i64 1))), oM 5 21]
def r49_37 : List AOper := [oO 2 (.mv (.const (.int .i64 0)))]
def tr49 : List (Nat × Tidy) := [(0, ⟨[1], true, [], []⟩), (1, ⟨[1, 3], true, [], []⟩), (2, ⟨[1, 3, 14], true, [], []⟩), (3, ⟨[2], true, [], []⟩), (4, ⟨[4], true, [], []⟩), (5, ⟨[4, 5], true, [], []⟩), (6, ⟨[4, 5, 19], true, [], []⟩), (8, ⟨[4, 5, 35], true, [], []⟩), (9, ⟨[2], true, [], []⟩), (10, ⟨[4, 5, 44], true, [], []⟩), (11, ⟨[2], true, [], []⟩), (7, ⟨[4, 5], true, [], []⟩), (12, ⟨[2], true, [], []⟩)]
def tl49 : List (Nat × Tidy) := [(6, ⟨[4, 5], true, [], []⟩)]
def rs49 : List AResV := [.tmp 2]
def p49_0_0 : PT St := pS [sl 4 (aV false [(cPtr 4 0)]), sl 5 (aV false [(cD (dI .i64))]), sl 19 (aV false [(cD dB)])] [eBox 4 [(cD (dI .i64)), (cD (dI .i64)), (cD (dI .i64)), (cD (dI .i64)), (cD (dI .i64)), (cD (dI .i64))]]
def u49_0_0 {β : Type} (g : St → β) : Int → Bool → Int → Int → Int → Int → Int → Int → β := p49_0_0.unc g

def p49_0_1 : PT St := pS [sl 4 (aV false [(cPtr 4 0)]), sl 5 (aV false [(cD (dI .i64))]), sl 35 (aV false [(cD dB)])] [eBox 4 [(cD (dI .i64)), (cD (dI .i64)), (cD (dI .i64)), (cD (dI .i64)), (cD (dI .i64)), (cD (dI .i64))]]
def u49_0_1 {β : Type} (g : St → β) : Int → Bool → Int → Int → Int → Int → Int → Int → β := p49_0_1.unc g

def p49_0_2 : PT St := pS [sl 4 (aV false [(cPtr 4 0)]), sl 5 (aV false [(cD (dI .i64))]), sl 44 (aV false [(cD dB)])] [eBox 4 [(cD (dI .i64)), (cD (dI .i64)), (cD (dI .i64)), (cD (dI .i64)), (cD (dI .i64)), (cD (dI .i64))]]
def u49_0_2 {β : Type} (g : St → β) : Int → Bool → Int → Int → Int → Int → Int → Int → β := p49_0_2.unc g

def p49_0_3 : PT St := pS [sl 4 (aV false [(cPtr 4 0)]), sl 5 (aV false [(cD (dI .i64))])] [eBox 4 [(cD (dI .i64)), (cD (dI .i64)), (cD (dI .i64)), (cD (dI .i64)), (cD (dI .i64)), (cD (dI .i64))]]
def u49_0_3 {β : Type} (g : St → β) : Int → Int → Int → Int → Int → Int → Int → β := p49_0_3.unc g

def p49_0_4 : PT St := pS [sl 2 (aV false [(cD (dI .i64))])] []
def u49_0_4 {β : Type} (g : St → β) : Int → β := p49_0_4.unc g

def pr49_0_0 : PT (List RV) := pRs [pR false [rD (dI .i64)]]
def ur49_0_0 {β : Type} (g : List RV → β) : Int → β := pr49_0_0.unc g

def E49_0g (vf91_0 : Tf91_0) (vf103_0 : Tf103_0) (vf29_0 : Tf29_0) : EnvK := EnvK.of [⟨91, nt91, [⟨pa91_0, Fn91_0 vf91_0⟩]⟩, ⟨103, nt103, [⟨pa103_0, Fn103_0 vf103_0⟩]⟩, ⟨29, nt29, [⟨pa29_0, Fn29_0 vf29_0⟩]⟩] noSeq
noncomputable def E49_0 : EnvK := E49_0g f91_0 f103_0 f29_0
theorem eo49_0 : E49_0.Ok Try.prog := EnvK.of_ok noSeq_ok ⟨⟨io91_0, trivial⟩, ⟨io103_0, trivial⟩, ⟨io29_0, trivial⟩, trivial⟩

noncomputable def c49_0_30g  : MCode := (.region r49_31 [] (some ⟨[4, 5, 44], true, [], []⟩))
noncomputable def c49_0_30 : MCode := c49_0_30g 
theorem g49_0_30 : c49_0_30.Good Try.prog E49_0 sh49 := trivial
--CODE 30 0
abbrev TJ49_0_1 : Type 1 := (α : Type) → Int → Int → Int → Int → Int → Int → Int → (Bool → Option α) → Option α
def J49_0_1g  (α : Type) (x49 : Int) (x51 : Int) (x52 : Int) (x53 : Int) (x54 : Int) (x55 : Int) (x56 : Int) (k1 : Bool → Option α) : Option α :=
 cK (x49 == 2)
 (cK (x49 == 2)
 (k1 (decide (x56 < x55)))
 (cK (x49 == 1)
 (k1 (decide (x54 < x55)))
 (cK (x49 == 0)
 (k1 (decide (x52 < x55)))
 (none))))
 (cK (x49 == 1)
 (cK (x49 == 2)
 (k1 (decide (x56 < x53)))
 (cK (x49 == 1)
 (k1 (decide (x54 < x53)))
 (cK (x49 == 0)
 (k1 (decide (x52 < x53)))
 (none))))
 (cK (x49 == 0)
 (cK (x49 == 2)
 (k1 (decide (x56 < x51)))
 (cK (x49 == 1)
 (k1 (decide (x54 < x51)))
 (cK (x49 == 0)
 (k1 (decide (x52 < x51)))
 (none))))
 (none)))
noncomputable def J49_0_1 (α : Type) (x49 : Int) (x51 : Int) (x52 : Int) (x53 : Int) (x54 : Int) (x55 : Int) (x56 : Int) (k1 : Bool → Option α) : Option α := J49_0_1g  α x49 x51 x52 x53 x54 x55 x56 k1
def F49_0_1 (v : TJ49_0_1) (α : Type) (K : Exit → St → Option α) : Int → Bool → Int → Int → Int → Int → Int → Int → Option α := fun x49 x50 x51 x52 x53 x54 x55 x56 => v α x49 x51 x52 x53 x54 x55 x56 (fun (y1 : Bool) => u49_0_2 (K .normal) x49 y1 x51 x52 x53 x54 x55 x56) 
theorem m49_0_1g (vf91_0 : Tf91_0) (vf103_0 : Tf103_0) (vf29_0 : Tf29_0)  (α : Type) (K : Exit → St → Option α) : F49_0_1 (J49_0_1g ) α K = p49_0_1.unc fun σ => runM Try.prog (E49_0g vf91_0 vf103_0 vf29_0) sh49 (c49_0_30g ) K σ := by kernel_rfl
theorem m49_0_1 : ∀ (α : Type) (K : Exit → St → Option α), F49_0_1 J49_0_1 α K = p49_0_1.unc fun σ => runM Try.prog E49_0 sh49 c49_0_30 K σ := m49_0_1g f91_0 f103_0 f29_0

noncomputable def c49_0_25g  : MCode := (.region r49_26 [] (some ⟨[4, 5, 35], true, [], []⟩))
noncomputable def c49_0_25 : MCode := c49_0_25g 
theorem g49_0_25 : c49_0_25.Good Try.prog E49_0 sh49 := trivial
--CODE 25 0
abbrev TJ49_0_0 : Type 1 := (α : Type) → Int → Int → Int → Int → Int → Int → Int → (Bool → Option α) → Option α
def J49_0_0g (vf29_0 : Tf29_0) (α : Type) (x26 : Int) (x28 : Int) (x29 : Int) (x30 : Int) (x31 : Int) (x32 : Int) (x33 : Int) (k1 : Bool → Option α) : Option α :=
 cK (x26 == 2)
 (vf29_0 α x32 (-1048576) 1048576
 (fun (x35 : Bool) => cK (!x35)
 (k1 true)
 (cK (x26 == 2)
 (vf29_0 α x33 (-1048576) 1048576
 (fun (x36 : Bool) => k1 (!x36)))
 (cK (x26 == 1)
 (vf29_0 α x31 (-1048576) 1048576
 (fun (x37 : Bool) => k1 (!x37)))
 (cK (x26 == 0)
 (vf29_0 α x29 (-1048576) 1048576
 (fun (x38 : Bool) => k1 (!x38)))
 (none))))))
 (cK (x26 == 1)
 (vf29_0 α x30 (-1048576) 1048576
 (fun (x39 : Bool) => cK (!x39)
 (k1 true)
 (cK (x26 == 2)
 (vf29_0 α x33 (-1048576) 1048576
 (fun (x40 : Bool) => k1 (!x40)))
 (cK (x26 == 1)
 (vf29_0 α x31 (-1048576) 1048576
 (fun (x41 : Bool) => k1 (!x41)))
 (cK (x26 == 0)
 (vf29_0 α x29 (-1048576) 1048576
 (fun (x42 : Bool) => k1 (!x42)))
 (none))))))
 (cK (x26 == 0)
 (vf29_0 α x28 (-1048576) 1048576
 (fun (x43 : Bool) => cK (!x43)
 (k1 true)
 (cK (x26 == 2)
 (vf29_0 α x33 (-1048576) 1048576
 (fun (x44 : Bool) => k1 (!x44)))
 (cK (x26 == 1)
 (vf29_0 α x31 (-1048576) 1048576
 (fun (x45 : Bool) => k1 (!x45)))
 (cK (x26 == 0)
 (vf29_0 α x29 (-1048576) 1048576
 (fun (x46 : Bool) => k1 (!x46)))
 (none))))))
 (none)))
noncomputable def J49_0_0 (α : Type) (x26 : Int) (x28 : Int) (x29 : Int) (x30 : Int) (x31 : Int) (x32 : Int) (x33 : Int) (k1 : Bool → Option α) : Option α := J49_0_0g f29_0 α x26 x28 x29 x30 x31 x32 x33 k1
def F49_0_0 (v : TJ49_0_0) (α : Type) (K : Exit → St → Option α) : Int → Bool → Int → Int → Int → Int → Int → Int → Option α := fun x26 x27 x28 x29 x30 x31 x32 x33 => v α x26 x28 x29 x30 x31 x32 x33 (fun (y1 : Bool) => u49_0_1 (K .normal) x26 y1 x28 x29 x30 x31 x32 x33) 
theorem m49_0_0g (vf91_0 : Tf91_0) (vf103_0 : Tf103_0) (vf29_0 : Tf29_0)  (α : Type) (K : Exit → St → Option α) : F49_0_0 (J49_0_0g vf29_0) α K = p49_0_0.unc fun σ => runM Try.prog (E49_0g vf91_0 vf103_0 vf29_0) sh49 (c49_0_25g ) K σ := by kernel_rfl
theorem m49_0_0 : ∀ (α : Type) (K : Exit → St → Option α), F49_0_0 J49_0_0 α K = p49_0_0.unc fun σ => runM Try.prog E49_0 sh49 c49_0_25 K σ := m49_0_0g f91_0 f103_0 f29_0

noncomputable def c49_0_17g (vJ49_0_0 : TJ49_0_0) (vJ49_0_1 : TJ49_0_1) : MCode := (.seq (.seq (.region r49_20 [] (some ⟨[4, 5, 19], true, [], []⟩)) (.cond (.tmp 19) .skip (.exit 0))) (.seq (.block 1 (.seq (.seq (.mark [⟨p49_0_0, F49_0_0 vJ49_0_0⟩] c49_0_25) (.cond (.tmp 35) (.seq (.region r49_29 [] (some ⟨[2], true, [], []⟩)) .ret) .skip)) (.seq (.mark [⟨p49_0_1, F49_0_1 vJ49_0_1⟩] c49_0_30) (.cond (.tmp 44) (.seq (.region r49_34 [] (some ⟨[2], true, [], []⟩)) .ret) .skip)))) (.region r49_35 [] (some ⟨[4, 5], true, [], []⟩))))
noncomputable def c49_0_17 : MCode := c49_0_17g J49_0_0 J49_0_1
theorem g49_0_17 : c49_0_17.Good Try.prog E49_0 sh49 := ⟨⟨trivial, ⟨trivial, trivial⟩⟩, ⟨⟨⟨⟨g49_0_25, m49_0_0, trivial⟩, ⟨⟨trivial, trivial⟩, trivial⟩⟩, ⟨⟨g49_0_30, m49_0_1, trivial⟩, ⟨⟨trivial, trivial⟩, trivial⟩⟩⟩, trivial⟩⟩
--CODE 17 0
def S49_0_2g (vJ49_0_0 : TJ49_0_0) (vJ49_0_1 : TJ49_0_1) (α : Type) (x19 : Int) (x20 : Int) (x21 : Int) (x22 : Int) (x23 : Int) (x24 : Int) (x18 : Int) (kn : Int → Option α) (k1 : Int → Option α) (k2 : Int → Bool → Option α) : Option α :=
 cK (decide (x18 < 3))
 (vJ49_0_0 α x18 x19 x20 x21 x22 x23 x24
 (fun (x47 : Bool) => cK x47
 (k1 2)
 (vJ49_0_1 α x18 x19 x20 x21 x22 x23 x24
 (fun (x58 : Bool) => cK x58
 (k1 10)
 (kn (w64 (x18 + 1)))))))
 (k2 x18 (decide (x18 < 3)))
noncomputable def S49_0_2 (α : Type) (x19 : Int) (x20 : Int) (x21 : Int) (x22 : Int) (x23 : Int) (x24 : Int) (x18 : Int) (kn : Int → Option α) (k1 : Int → Option α) (k2 : Int → Bool → Option α) : Option α := S49_0_2g J49_0_0 J49_0_1 α x19 x20 x21 x22 x23 x24 x18 kn k1 k2
noncomputable def R49_0_2 (α : Type) (x19 : Int) (x20 : Int) (x21 : Int) (x22 : Int) (x23 : Int) (x24 : Int) (k1 : Int → Option α) (k2 : Int → Bool → Option α) : Nat → Int → Option α
 | 0, _ => none
 | n + 1, x18 => S49_0_2 α x19 x20 x21 x22 x23 x24 x18 (R49_0_2 α x19 x20 x21 x22 x23 x24 k1 k2 n) k1 k2
noncomputable def L49_0_2 (α : Type) (x19 : Int) (x20 : Int) (x21 : Int) (x22 : Int) (x23 : Int) (x24 : Int) (k1 : Int → Option α) (k2 : Int → Bool → Option α) (x18 : Int) : Option α := R49_0_2 α x19 x20 x21 x22 x23 x24 k1 k2 fuel x18
abbrev TL49_0_2 : Type 1 := (α : Type) → Int → Int → Int → Int → Int → Int → (Int → Option α) → (Int → Bool → Option α) → Int → Option α
def F49_0_2 (v : TL49_0_2) (α : Type) (K : Exit → St → Option α) : Int → Int → Int → Int → Int → Int → Int → Option α := fun x18 x19 x20 x21 x22 x23 x24 => v α x19 x20 x21 x22 x23 x24 (fun (y1 : Int) => u49_0_4 (K .ret) y1) (fun (y1 : Int) (y2 : Bool) => u49_0_0 (K (.exit 0)) y1 y2 x19 x20 x21 x22 x23 x24) x18
theorem r49_0_2g (vf91_0 : Tf91_0) (vf103_0 : Tf103_0) (vf29_0 : Tf29_0) (vJ49_0_0 : TJ49_0_0) (vJ49_0_1 : TJ49_0_1) (α : Type) (K : Exit → St → Option α) (Kn : St → Option α) (x18 : Int) (x19 : Int) (x20 : Int) (x21 : Int) (x22 : Int) (x23 : Int) (x24 : Int) : u49_0_3 (fun σ => runM Try.prog (E49_0g vf91_0 vf103_0 vf29_0) sh49 (c49_0_17g vJ49_0_0 vJ49_0_1) (thenK (fun σ => tidyK td49_17 σ Kn) K) σ) x18 x19 x20 x21 x22 x23 x24 = S49_0_2g vJ49_0_0 vJ49_0_1 α x19 x20 x21 x22 x23 x24 x18 (fun x18 => u49_0_3 Kn x18 x19 x20 x21 x22 x23 x24) (fun (y1 : Int) => u49_0_4 (K .ret) y1) (fun (y1 : Int) (y2 : Bool) => u49_0_0 (K (.exit 0)) y1 y2 x19 x20 x21 x22 x23 x24) := by kernel_rfl
theorem r49_0_2 (α : Type) (K : Exit → St → Option α) (Kn : St → Option α) (x18 : Int) (x19 : Int) (x20 : Int) (x21 : Int) (x22 : Int) (x23 : Int) (x24 : Int) : u49_0_3 (fun σ => runM Try.prog E49_0 sh49 c49_0_17 (thenK (fun σ => tidyK td49_17 σ Kn) K) σ) x18 x19 x20 x21 x22 x23 x24 = S49_0_2 α x19 x20 x21 x22 x23 x24 x18 (fun x18 => u49_0_3 Kn x18 x19 x20 x21 x22 x23 x24) (fun (y1 : Int) => u49_0_4 (K .ret) y1) (fun (y1 : Int) (y2 : Bool) => u49_0_0 (K (.exit 0)) y1 y2 x19 x20 x21 x22 x23 x24) := r49_0_2g f91_0 f103_0 f29_0 J49_0_0 J49_0_1 α K Kn x18 x19 x20 x21 x22 x23 x24
theorem t49_0_2 (α : Type) (K : Exit → St → Option α) : ∀ (n : Nat) (x18 : Int) (x19 : Int) (x20 : Int) (x21 : Int) (x22 : Int) (x23 : Int) (x24 : Int), R49_0_2 α x19 x20 x21 x22 x23 x24 (fun (y1 : Int) => u49_0_4 (K .ret) y1) (fun (y1 : Int) (y2 : Bool) => u49_0_0 (K (.exit 0)) y1 y2 x19 x20 x21 x22 x23 x24) n x18 = u49_0_3 (loopT (runM Try.prog E49_0 sh49 c49_0_17) td49_17 K n) x18 x19 x20 x21 x22 x23 x24 := by
 intro n
 induction n with
 | zero => intros; rfl
 | succ n ih => intro x18 x19 x20 x21 x22 x23 x24; exact (congrArg (fun kn => S49_0_2 α x19 x20 x21 x22 x23 x24 x18 kn (fun (y1 : Int) => u49_0_4 (K .ret) y1) (fun (y1 : Int) (y2 : Bool) => u49_0_0 (K (.exit 0)) y1 y2 x19 x20 x21 x22 x23 x24)) (funext fun x18 => ih x18 x19 x20 x21 x22 x23 x24)).trans (r49_0_2 α K (loopT (runM Try.prog E49_0 sh49 c49_0_17) td49_17 K n) x18 x19 x20 x21 x22 x23 x24).symm
theorem m49_0_2 : ∀ (α : Type) (K : Exit → St → Option α), F49_0_2 L49_0_2 α K = p49_0_3.unc fun σ => loopT (runM Try.prog E49_0 sh49 c49_0_17) td49_17 K fuel σ := fun α K => funext fun x18 => funext fun x19 => funext fun x20 => funext fun x21 => funext fun x22 => funext fun x23 => funext fun x24 => t49_0_2 α K fuel x18 x19 x20 x21 x22 x23 x24

/-- etalon/etalonref06.CheckReading -/
abbrev Tf49_0 : Type 1 := (α : Type) → ByteArray → Int → Int → Int → Int → Int → Int → Int → Int → Int → (Int → Option α) → Option α
def f49_0g (vL49_0_2 : TL49_0_2) (vf103_0 : Tf103_0) (vf91_0 : Tf91_0) (α : Type) (x1 : ByteArray) (x2 : Int) (x3 : Int) (x4 : Int) (x5 : Int) (x6 : Int) (x7 : Int) (x8 : Int) (x9 : Int) (x10 : Int) (k1 : Int → Option α) : Option α :=
 vf91_0 α x1 x2 x3 x4
 (fun (x11 : Int) => cK (x11 != 0)
 (k1 x11)
 (vf103_0 α x1 x2 x3 x4 x5 x6 x7 x8 x9 x10
 (fun (x12 : Int) (x13 : Int) (x14 : Int) (x15 : Int) (x16 : Int) (x17 : Int) => vL49_0_2 α x12 x13 x14 x15 x16 x17
 (fun (x60 : Int) => k1 x60)
 (fun (x61 : Int) (x62 : Bool) => k1 0) 0)))
noncomputable def f49_0 (α : Type) (x1 : ByteArray) (x2 : Int) (x3 : Int) (x4 : Int) (x5 : Int) (x6 : Int) (x7 : Int) (x8 : Int) (x9 : Int) (x10 : Int) (k1 : Int → Option α) : Option α := f49_0g L49_0_2 f103_0 f91_0 α x1 x2 x3 x4 x5 x6 x7 x8 x9 x10 k1
def pa49_0 : PT (List DV) := pA [pV true [dS, (dI .i64), (dI .i64), (dI .i64), (dI .i64), (dI .i64), (dI .i64), (dI .i64), (dI .i64), (dI .i64)]]
def Fn49_0 (v : Tf49_0) (α : Type) (k : List RV → Option α) : ByteArray → Int → Int → Int → Int → Int → Int → Int → Int → Int → Option α := fun x1 x2 x3 x4 x5 x6 x7 x8 x9 x10 => v α x1 x2 x3 x4 x5 x6 x7 x8 x9 x10 (fun (y1 : Int) => ur49_0_0 k y1)
noncomputable def cm49_0g (vL49_0_2 : TL49_0_2) : MCode := (.seq (.region r49_2 [] (some ⟨[1], true, [], []⟩)) (.seq (.seq (.region r49_5 [] (some ⟨[1, 3], true, [], []⟩)) (.seq (.region r49_7 [] (some ⟨[1, 3, 14], true, [], []⟩)) (.cond (.tmp 14) (.seq (.region r49_10 [] (some ⟨[2], true, [], []⟩)) .ret) .skip))) (.seq (.region r49_12 [] (some ⟨[4], true, [], []⟩)) (.seq (.seq (.region r49_15 [] (some ⟨[4, 5], true, [], []⟩)) (.block 0 (.loop td49_17 [⟨p49_0_3, F49_0_2 vL49_0_2⟩] c49_0_17))) (.seq (.region r49_37 [] (some ⟨[2], true, [], []⟩)) .ret)))))
noncomputable def cm49_0 : MCode := cm49_0g L49_0_2
theorem gm49_0 : cm49_0.Good Try.prog E49_0 sh49 := ⟨trivial, ⟨⟨trivial, ⟨trivial, ⟨⟨trivial, trivial⟩, trivial⟩⟩⟩, ⟨trivial, ⟨⟨trivial, ⟨g49_0_17, m49_0_2, trivial⟩⟩, ⟨trivial, trivial⟩⟩⟩⟩⟩
theorem fm49_0g (vf91_0 : Tf91_0) (vf103_0 : Tf103_0) (vf29_0 : Tf29_0) (vL49_0_2 : TL49_0_2) (α : Type) (k : List RV → Option α) : Fn49_0 (f49_0g vL49_0_2 vf103_0 vf91_0) α k = pa49_0.unc fun ds => fnM Try.prog (E49_0g vf91_0 vf103_0 vf29_0) sh49 (cm49_0g vL49_0_2) rs49 k ds := by kernel_rfl
theorem fm49_0 : ∀ (α : Type) (k : List RV → Option α), Fn49_0 f49_0 α k = pa49_0.unc fun ds => fnM Try.prog E49_0 sh49 cm49_0 rs49 k ds := fm49_0g f91_0 f103_0 f29_0 L49_0_2

theorem is49 : FnIs Try.prog 49 nt49 tr49 tl49 cm49_0.erase rs49 := ⟨Try.f49, Try.func49, rfl, by kernel_rfl, by kernel_rfl, by kernel_rfl⟩
theorem io49_0 : InstOk Try.prog 49 nt49 ⟨pa49_0, Fn49_0 f49_0⟩ := inst_ok eo49_0 followsTry is49 ⟨⟨sh49, cm49_0, by kernel_rfl, gm49_0, fm49_0⟩⟩

/-! ### F125 etalon/meter.rangeErr -/
abbrev nt125 : Nat := 24
def sh125 : List (Nat × List Sh) := [(7, [.int .i64]), (13, [.int .i64]), (20, [.int .i64]), (22, [.int .i64])]
def r125_2 : List AOper := [oO 2 (.box (.tmp 0)), oO 4 (.mv (.const (.int .i64 0)))]
def r125_6 : List AOper := [oO 6 (.faddr 0 (.tmp 2)), oO 7 (.load false 1 (.tmp 6)), oM 8 1, oO 9 (.call 109 [(.tmp 7), (.tmp 8)]), oO 10 (.pure (oB (.unOp .not 4 (.tmp 9)) 4)), oM 11 10, ⟨(some 12), (.faddr 1 (.tmp 2)), (some (11, false))⟩, ⟨(some 13), (.load false 1 (.tmp 12)), (some (11, false))⟩, ⟨(some 14), (.mv (.tmp 1)), (some (11, false))⟩, ⟨(some 15), (.call 109 [(.tmp 13), (.tmp 14)]), (some (11, false))⟩, ⟨(some 16), (.pure (oB (.unOp .not 4 (.tmp 15)) 4)), (some (11, false))⟩, oO 17 (.pick (.tmp 11) (.const (.bool true)) (.tmp 16)), oM 5 17]
def r125_9 : List AOper := [oO 4 (.mv (.const (.int .i64 2)))]
def r125_11 : List AOper := [oO 19 (.faddr 0 (.tmp 2)), oO 20 (.load false 1 (.tmp 19)), oO 21 (.faddr 1 (.tmp 2)), oO 22 (.load false 1 (.tmp 21)), oO 23 (.bin .gtr 3 (.tmp 20) (.tmp 22)), oM 18 23]
def r125_14 : List AOper := [oO 4 (.mv (.const (.int .i64 10)))]
def r125_16 : List AOper := [oO 4 (.mv (.const (.int .i64 0)))]
def tr125 : List (Nat × Tidy) := [(0, ⟨[1, 2], true, [], []⟩), (1, ⟨[2, 5], true, [], []⟩), (2, ⟨[4], true, [], []⟩), (3, ⟨[18], true, [], []⟩), (4, ⟨[4], true, [], []⟩), (5, ⟨[4], true, [], []⟩)]
def tl125 : List (Nat × Tidy) := []
def rs125 : List AResV := [.tmp 4]
def p125_0_0 : PT St := pS [sl 1 (aV false [(cD (dI .i64))]), sl 2 (aV false [(cPtr 2 0)])] [eBox 2 [(cD (dI .i64)), (cD (dI .i64))]]
def u125_0_0 {β : Type} (g : St → β) : Int → Int → Int → β := p125_0_0.unc g

def p125_0_1 : PT St := pS [sl 2 (aV false [(cPtr 2 0)]), sl 5 (aV false [(cD dB)])] [eBox 2 [(cD (dI .i64)), (cD (dI .i64))]]
def u125_0_1 {β : Type} (g : St → β) : Bool → Int → Int → β := p125_0_1.unc g

def pr125_0_0 : PT (List RV) := pRs [pR false [rD (dI .i64)]]
def ur125_0_0 {β : Type} (g : List RV → β) : Int → β := pr125_0_0.unc g

def E125_0g (vf109_0 : Tf109_0) : EnvK := EnvK.of [⟨109, nt109, [⟨pa109_0, Fn109_0 vf109_0⟩]⟩] noSeq
noncomputable def E125_0 : EnvK := E125_0g f109_0
theorem eo125_0 : E125_0.Ok Try.prog := EnvK.of_ok noSeq_ok ⟨⟨io109_0, trivial⟩, trivial⟩

noncomputable def c125_0_5g  : MCode := (.region r125_6 [] (some ⟨[2, 5], true, [], []⟩))
noncomputable def c125_0_5 : MCode := c125_0_5g 
theorem g125_0_5 : c125_0_5.Good Try.prog E125_0 sh125 := trivial
--CODE 5 0
abbrev TJ125_0_0 : Type 1 := (α : Type) → Int → Int → Int → (Bool → Option α) → Option α
def J125_0_0g (vf109_0 : Tf109_0) (α : Type) (x4 : Int) (x5 : Int) (x6 : Int) (k1 : Bool → Option α) : Option α :=
 vf109_0 α x5 x4
 (fun (x8 : Bool) => cK (!x8)
 (k1 true)
 (vf109_0 α x6 x4
 (fun (x9 : Bool) => k1 (!x9))))
noncomputable def J125_0_0 (α : Type) (x4 : Int) (x5 : Int) (x6 : Int) (k1 : Bool → Option α) : Option α := J125_0_0g f109_0 α x4 x5 x6 k1
def F125_0_0 (v : TJ125_0_0) (α : Type) (K : Exit → St → Option α) : Int → Int → Int → Option α := fun x4 x5 x6 => v α x4 x5 x6 (fun (y1 : Bool) => u125_0_1 (K .normal) y1 x5 x6) 
theorem m125_0_0g (vf109_0 : Tf109_0)  (α : Type) (K : Exit → St → Option α) : F125_0_0 (J125_0_0g vf109_0) α K = p125_0_0.unc fun σ => runM Try.prog (E125_0g vf109_0) sh125 (c125_0_5g ) K σ := by kernel_rfl
theorem m125_0_0 : ∀ (α : Type) (K : Exit → St → Option α), F125_0_0 J125_0_0 α K = p125_0_0.unc fun σ => runM Try.prog E125_0 sh125 c125_0_5 K σ := m125_0_0g f109_0

/-- etalon/meter.rangeErr -/
abbrev Tf125_0 : Type 1 := (α : Type) → Int → Int → Int → (Int → Option α) → Option α
def f125_0g (vJ125_0_0 : TJ125_0_0) (α : Type) (x1 : Int) (x2 : Int) (x3 : Int) (k1 : Int → Option α) : Option α :=
 vJ125_0_0 α x3 x1 x2
 (fun (x10 : Bool) => cK x10
 (k1 2)
 (cK (decide (x2 < x1))
 (k1 10)
 (k1 0)))
noncomputable def f125_0 (α : Type) (x1 : Int) (x2 : Int) (x3 : Int) (k1 : Int → Option α) : Option α := f125_0g J125_0_0 α x1 x2 x3 k1
def pa125_0 : PT (List DV) := pA [pV true [(dI .i64), (dI .i64)], pV false [(dI .i64)]]
def Fn125_0 (v : Tf125_0) (α : Type) (k : List RV → Option α) : Int → Int → Int → Option α := fun x1 x2 x3 => v α x1 x2 x3 (fun (y1 : Int) => ur125_0_0 k y1)
noncomputable def cm125_0g (vJ125_0_0 : TJ125_0_0) : MCode := (.seq (.region r125_2 [] (some ⟨[1, 2], true, [], []⟩)) (.seq (.block 0 (.seq (.mark [⟨p125_0_0, F125_0_0 vJ125_0_0⟩] c125_0_5) (.cond (.tmp 5) (.seq (.region r125_9 [] (some ⟨[4], true, [], []⟩)) .ret) (.seq (.region r125_11 [] (some ⟨[18], true, [], []⟩)) (.cond (.tmp 18) (.seq (.region r125_14 [] (some ⟨[4], true, [], []⟩)) .ret) .skip))))) (.seq (.region r125_16 [] (some ⟨[4], true, [], []⟩)) .ret)))
noncomputable def cm125_0 : MCode := cm125_0g J125_0_0
theorem gm125_0 : cm125_0.Good Try.prog E125_0 sh125 := ⟨trivial, ⟨⟨⟨g125_0_5, m125_0_0, trivial⟩, ⟨⟨trivial, trivial⟩, ⟨trivial, ⟨⟨trivial, trivial⟩, trivial⟩⟩⟩⟩, ⟨trivial, trivial⟩⟩⟩
theorem fm125_0g (vf109_0 : Tf109_0) (vJ125_0_0 : TJ125_0_0) (α : Type) (k : List RV → Option α) : Fn125_0 (f125_0g vJ125_0_0) α k = pa125_0.unc fun ds => fnM Try.prog (E125_0g vf109_0) sh125 (cm125_0g vJ125_0_0) rs125 k ds := by kernel_rfl
theorem fm125_0 : ∀ (α : Type) (k : List RV → Option α), Fn125_0 f125_0 α k = pa125_0.unc fun ds => fnM Try.prog E125_0 sh125 cm125_0 rs125 k ds := fm125_0g f109_0 J125_0_0

theorem is125 : FnIs Try.prog 125 nt125 tr125 tl125 cm125_0.erase rs125 := ⟨Try.f125, Try.func125, rfl, by kernel_rfl, by kernel_rfl, by kernel_rfl⟩
theorem io125_0 : InstOk Try.prog 125 nt125 ⟨pa125_0, Fn125_0 f125_0⟩ := inst_ok eo125_0 followsTry is125 ⟨⟨sh125, cm125_0, by kernel_rfl, gm125_0, fm125_0⟩⟩

/-! ### F138 etalon/etalonref01.Arc -/
abbrev nt138 : Nat := 73
def sh138 : List (Nat × List Sh) := [(12, [.int .i64]), (17, [.int .i64]), (23, [.int .i64]), (25, [.int .i64]), (29, [.int .i64]), (31, [.int .i64]), (38, [.int .i64]), (44, [.int .i64]), (51, [.int .i64]), (59, [.int .i64]), (61, [.int .i64]), (69, [.int .i64, .int .i64, .int .i64])]
def r138_2 : List AOper := [oO 1 (.box (.tmp 0)), oO 2 (.alloc [(.d (.v (.int .i64 0))), (.d (.v (.int .i64 0))), (.d (.v (.int .i64 0)))]), oO 3 (.mv (.const (.int .i64 0)))]
def r138_5 : List AOper := [oO 11 (.faddr 0 (.tmp 1)), oO 12 (.load false 1 (.tmp 11)), oO 13 (.call 29 [(.tmp 12), (.const (.int .i64 (-1099511627776))), (.const (.int .i64 1099511627776))]), oO 14 (.pure (oB (.unOp .not 4 (.tmp 13)) 4)), oM 15 14, ⟨(some 16), (.faddr 1 (.tmp 1)), (some (15, false))⟩, ⟨(some 17), (.load false 1 (.tmp 16)), (some (15, false))⟩, ⟨(some 18), (.call 29 [(.tmp 17), (.const (.int .i64 (-1099511627776))), (.const (.int .i64 1099511627776))]), (some (15, false))⟩, ⟨(some 19), (.pure (oB (.unOp .not 4 (.tmp 18)) 4)), (some (15, false))⟩, oO 20 (.pick (.tmp 15) (.const (.bool true)) (.tmp 19))]
def r138_8 : List AOper := [oO 21 (.build [(.d (.v (.int .i64 0))), (.d (.v (.int .i64 0))), (.d (.v (.int .i64 0)))] []), ⟨none, (.store 3 (.tmp 2) (.tmp 21)), none⟩, oO 3 (.mv (.const (.int .i64 2)))]
def r138_11 : List AOper := [oO 22 (.faddr 0 (.tmp 1)), oO 23 (.load false 1 (.tmp 22)), oO 24 (.faddr 1 (.tmp 1)), oO 25 (.load false 1 (.tmp 24)), oO 26 (.bin .gtr 3 (.tmp 23) (.tmp 25))]
def r138_14 : List AOper := [oO 27 (.build [(.d (.v (.int .i64 0))), (.d (.v (.int .i64 0))), (.d (.v (.int .i64 0)))] []), ⟨none, (.store 3 (.tmp 2) (.tmp 27)), none⟩, oO 3 (.mv (.const (.int .i64 10)))]
def r138_16 : List AOper := [oO 28 (.faddr 0 (.tmp 1)), oO 29 (.load false 1 (.tmp 28)), oO 30 (.faddr 1 (.tmp 1)), oO 31 (.load false 1 (.tmp 30)), oO 32 (.bin .add 3 (.tmp 29) (.tmp 31)), oO 33 (.call 99 [(.tmp 32), (.const (.int .i64 2))]), oM 4 33]
def r138_18 : List AOper := [oM 34 4, oO 35 (.call 143 [(.tmp 34)]), oO 5 (.alloc [(.d (.v (.int .i64 0))), (.d (.v (.int .i64 0)))]), ⟨none, (.store 2 (.tmp 5) (.tmp 35)), none⟩]
def r138_20 : List AOper := [oO 37 (.iaddr 1 (some 2) (.tmp 5) (.const (.int .i64 0))), oO 38 (.load false 1 (.tmp 37)), oO 39 (.call 144 [(.tmp 38), (.const (.int .i64 64))]), oM 36 39, oO 40 (.extract 0 (.tmp 36)), oO 41 (.extract 1 (.tmp 36)), oM 6 40, oM 7 41]
def r138_22 : List AOper := [oO 43 (.iaddr 1 (some 2) (.tmp 5) (.const (.int .i64 1))), oO 44 (.load false 1 (.tmp 43)), oO 45 (.call 144 [(.tmp 44), (.const (.int .i64 64))]), oM 42 45, oO 46 (.extract 0 (.tmp 42)), oO 47 (.extract 1 (.tmp 42)), oM 8 46, oM 9 47]
def r138_24 : List AOper := [oM 48 6, oM 49 8, oO 50 (.faddr 1 (.tmp 1)), oO 51 (.load false 1 (.tmp 50)), oM 52 4, oO 53 (.bin .sub 3 (.tmp 51) (.tmp 52)), oO 54 (.bin .mul 3 (.const (.int .i64 11)) (.tmp 53)), oO 55 (.call 42 [(.tmp 54), (.const (.int .i64 7))]), oO 56 (.bin .add 3 (.const (.int .i64 2)) (.tmp 55)), oO 57 (.build [(.d (.v (.int .i64 0))), (.d (.v (.int .i64 0))), (.d (.v (.int .i64 0)))] [(0, 1, (.tmp 48)), (1, 1, (.tmp 49)), (2, 1, (.tmp 56))]), oO 10 (.alloc [(.d (.v (.int .i64 0))), (.d (.v (.int .i64 0))), (.d (.v (.int .i64 0)))]), ⟨none, (.store 3 (.tmp 10) (.tmp 57)), none⟩]
def r138_27 : List AOper := [oO 58 (.faddr 0 (.tmp 1)), oO 59 (.load false 1 (.tmp 58)), oO 60 (.faddr 1 (.tmp 1)), oO 61 (.load false 1 (.tmp 60)), oO 62 (.bin .eql 3 (.tmp 59) (.tmp 61)), oM 63 62, ⟨(some 64), (.mv (.tmp 4)), (some (63, true))⟩, ⟨(some 65), (.call 31 [(.tmp 64), (.const (.int .i64 1048576))]), (some (63, true))⟩, ⟨(some 66), (.bin .eql 3 (.tmp 65) (.const (.int .i64 0))), (some (63, true))⟩, oO 67 (.pick (.tmp 63) (.tmp 66) (.const (.bool false)))]
def r138_29 : List AOper := [oO 68 (.faddr 2 (.tmp 10)), ⟨none, (.store 1 (.tmp 68) (.const (.int .i64 0))), none⟩]
def r138_31 : List AOper := [oO 69 (.load true 3 (.tmp 10)), oO 70 (.call 145 [(.tmp 69)]), oO 71 (.extract 0 (.tmp 70)), oO 72 (.extract 1 (.tmp 70)), ⟨none, (.store 3 (.tmp 2) (.tmp 71)), none⟩, oM 3 72]
def tr138 : List (Nat × Tidy) := [(0, ⟨[1, 2], true, [], []⟩), (1, ⟨[1, 2, 20], true, [], []⟩), (2, ⟨[2, 3], true, [], []⟩), (3, ⟨[1, 2, 26], true, [], []⟩), (4, ⟨[2, 3], true, [], []⟩), (5, ⟨[1, 2, 4], true, [], []⟩), (6, ⟨[1, 2, 4, 5], true, [], []⟩), (7, ⟨[1, 2, 4, 5, 6], true, [], []⟩), (8, ⟨[1, 2, 4, 6, 8], true, [], []⟩), (9, ⟨[1, 2, 4, 10], true, [], []⟩), (10, ⟨[2, 10, 67], true, [], []⟩), (11, ⟨[2, 10], true, [], []⟩), (12, ⟨[2, 3], true, [], []⟩)]
def tl138 : List (Nat × Tidy) := []
def rs138 : List AResV := [.cell 2 true 3, .tmp 3]
def p138_0_0 : PT St := pS [sl 1 (aV false [(cPtr 1 0)]), sl 2 (aV false [(cPtr 2 0)]), sl 4 (aV false [(cD (dI .i64))]), sl 10 (aV false [(cPtr 10 0)])] [eBox 1 [(cD (dI .i64)), (cD (dI .i64))], eBox 2 [(cD (dI .i64)), (cD (dI .i64)), (cD (dI .i64))], eBox 10 [(cD (dI .i64)), (cD (dI .i64)), (cD (dI .i64))]]
def u138_0_0 {β : Type} (g : St → β) : Int → Int → Int → Int → Int → Int → Int → Int → Int → β := p138_0_0.unc g

def p138_0_1 : PT St := pS [sl 2 (aV false [(cPtr 2 0)]), sl 10 (aV false [(cPtr 10 0)])] [eBox 2 [(cD (dI .i64)), (cD (dI .i64)), (cD (dI .i64))], eBox 10 [(cD (dI .i64)), (cD (dI .i64)), (cD (dI .i64))]]
def u138_0_1 {β : Type} (g : St → β) : Int → Int → Int → Int → Int → Int → β := p138_0_1.unc g

def p138_0_2 : PT St := pS [sl 2 (aV false [(cPtr 2 0)]), sl 10 (aV false [(cPtr 10 0)]), sl 67 (aV false [(cD dB)])] [eBox 2 [(cD (dI .i64)), (cD (dI .i64)), (cD (dI .i64))], eBox 10 [(cD (dI .i64)), (cD (dI .i64)), (cD (dI .i64))]]
def u138_0_2 {β : Type} (g : St → β) : Bool → Int → Int → Int → Int → Int → Int → β := p138_0_2.unc g

def pr138_0_0 : PT (List RV) := pRs [pR true [rD (dI .i64), rD (dI .i64), rD (dI .i64)], pR false [rD (dI .i64)]]
def ur138_0_0 {β : Type} (g : List RV → β) : Int → Int → Int → Int → β := pr138_0_0.unc g

def E138_0g (vf29_0 : Tf29_0) (vf99_0 : Tf99_0) (vf143_0 : Tf143_0) (vf144_0 : Tf144_0) (vf42_0 : Tf42_0) (vf31_0 : Tf31_0) (vf145_0 : Tf145_0) : EnvK := EnvK.of [⟨29, nt29, [⟨pa29_0, Fn29_0 vf29_0⟩]⟩, ⟨99, nt99, [⟨pa99_0, Fn99_0 vf99_0⟩]⟩, ⟨143, nt143, [⟨pa143_0, Fn143_0 vf143_0⟩]⟩, ⟨144, nt144, [⟨pa144_0, Fn144_0 vf144_0⟩]⟩, ⟨42, nt42, [⟨pa42_0, Fn42_0 vf42_0⟩]⟩, ⟨31, nt31, [⟨pa31_0, Fn31_0 vf31_0⟩]⟩, ⟨145, nt145, [⟨pa145_0, Fn145_0 vf145_0⟩]⟩] noSeq
noncomputable def E138_0 : EnvK := E138_0g f29_0 f99_0 f143_0 f144_0 f42_0 f31_0 f145_0
theorem eo138_0 : E138_0.Ok Try.prog := EnvK.of_ok noSeq_ok ⟨⟨io29_0, trivial⟩, ⟨io99_0, trivial⟩, ⟨io143_0, trivial⟩, ⟨io144_0, trivial⟩, ⟨io42_0, trivial⟩, ⟨io31_0, trivial⟩, ⟨io145_0, trivial⟩, trivial⟩

noncomputable def c138_0_25g  : MCode := (.seq (.region r138_27 [] (some ⟨[2, 10, 67], true, [], []⟩)) (.cond (.tmp 67) (.region r138_29 [] (some ⟨[2, 10], true, [], []⟩)) .skip))
noncomputable def c138_0_25 : MCode := c138_0_25g 
theorem g138_0_25 : c138_0_25.Good Try.prog E138_0 sh138 := ⟨trivial, ⟨trivial, trivial⟩⟩
--CODE 25 0
abbrev TJ138_0_0 : Type 1 := (α : Type) → Int → Int → Int → (Option α) → (Bool → Option α) → Option α
def J138_0_0g (vf31_0 : Tf31_0) (α : Type) (x13 : Int) (x14 : Int) (x15 : Int) (k1 : Option α) (k2 : Bool → Option α) : Option α :=
 cK (x14 == x15)
 (vf31_0 α x13 1048576
 (fun (x23 : Int) => cK (x23 == 0)
 (k1)
 (k2 (x23 == 0))))
 (k2 false)
noncomputable def J138_0_0 (α : Type) (x13 : Int) (x14 : Int) (x15 : Int) (k1 : Option α) (k2 : Bool → Option α) : Option α := J138_0_0g f31_0 α x13 x14 x15 k1 k2
def F138_0_0 (v : TJ138_0_0) (α : Type) (K : Exit → St → Option α) : Int → Int → Int → Int → Int → Int → Int → Int → Int → Option α := fun x13 x14 x15 x16 x17 x18 x19 x20 x21 => v α x13 x14 x15 (u138_0_1 (K .normal) x16 x17 x18 x19 x20 0) (fun (y1 : Bool) => u138_0_2 (K .normal) y1 x16 x17 x18 x19 x20 x21) 
theorem m138_0_0g (vf29_0 : Tf29_0) (vf99_0 : Tf99_0) (vf143_0 : Tf143_0) (vf144_0 : Tf144_0) (vf42_0 : Tf42_0) (vf31_0 : Tf31_0) (vf145_0 : Tf145_0)  (α : Type) (K : Exit → St → Option α) : F138_0_0 (J138_0_0g vf31_0) α K = p138_0_0.unc fun σ => runM Try.prog (E138_0g vf29_0 vf99_0 vf143_0 vf144_0 vf42_0 vf31_0 vf145_0) sh138 (c138_0_25g ) K σ := by kernel_rfl
theorem m138_0_0 : ∀ (α : Type) (K : Exit → St → Option α), F138_0_0 J138_0_0 α K = p138_0_0.unc fun σ => runM Try.prog E138_0 sh138 c138_0_25 K σ := m138_0_0g f29_0 f99_0 f143_0 f144_0 f42_0 f31_0 f145_0

/-- etalon/etalonref01.Arc -/
abbrev Tf138_0 : Type 1 := (α : Type) → Int → Int → (Int → Int → Int → Int → Option α) → Option α
def f138_0g (vJ138_0_0 : TJ138_0_0) (vf143_0 : Tf143_0) (vf144_0 : Tf144_0) (vf145_0 : Tf145_0) (vf29_0 : Tf29_0) (vf42_0 : Tf42_0) (vf99_0 : Tf99_0) (α : Type) (x1 : Int) (x2 : Int) (k1 : Int → Int → Int → Int → Option α) : Option α :=
 vf29_0 α x1 (-1099511627776) 1099511627776
 (fun (x3 : Bool) => cK (!x3)
 (k1 0 0 0 2)
 (vf29_0 α x2 (-1099511627776) 1099511627776
 (fun (x4 : Bool) => cK (!x4)
 (k1 0 0 0 2)
 (cK (decide (x2 < x1))
 (k1 0 0 0 10)
 (vf99_0 α (w64 (x1 + x2)) 2
 (fun (x5 : Int) => vf143_0 α x5
 (fun (x6 : Int) (x7 : Int) => vf144_0 α x6 64
 (fun (x8 : Int) (x9 : Bool) => vf144_0 α x7 64
 (fun (x10 : Int) (x11 : Bool) => vf42_0 α (w64 (11 * (w64 (x2 - x5)))) 7
 (fun (x12 : Int) => vJ138_0_0 α x5 x1 x2
 (vf145_0 α x8 x10 0
 (fun (x26 : Int) (x27 : Int) (x28 : Int) (x29 : Int) => k1 x26 x27 x28 x29))
 (fun (x24 : Bool) => vf145_0 α x8 x10 (w64 (2 + x12))
 (fun (x30 : Int) (x31 : Int) (x32 : Int) (x33 : Int) => k1 x30 x31 x32 x33))))))))))))
noncomputable def f138_0 (α : Type) (x1 : Int) (x2 : Int) (k1 : Int → Int → Int → Int → Option α) : Option α := f138_0g J138_0_0 f143_0 f144_0 f145_0 f29_0 f42_0 f99_0 α x1 x2 k1
def pa138_0 : PT (List DV) := pA [pV true [(dI .i64), (dI .i64)]]
def Fn138_0 (v : Tf138_0) (α : Type) (k : List RV → Option α) : Int → Int → Option α := fun x1 x2 => v α x1 x2 (fun (y1 : Int) (y2 : Int) (y3 : Int) (y4 : Int) => ur138_0_0 k y1 y2 y3 y4)
noncomputable def cm138_0g (vJ138_0_0 : TJ138_0_0) : MCode := (.seq (.region r138_2 [] (some ⟨[1, 2], true, [], []⟩)) (.seq (.seq (.region r138_5 [] (some ⟨[1, 2, 20], true, [], []⟩)) (.cond (.tmp 20) (.seq (.region r138_8 [] (some ⟨[2, 3], true, [], []⟩)) .ret) .skip)) (.seq (.seq (.region r138_11 [] (some ⟨[1, 2, 26], true, [], []⟩)) (.cond (.tmp 26) (.seq (.region r138_14 [] (some ⟨[2, 3], true, [], []⟩)) .ret) .skip)) (.seq (.region r138_16 [] (some ⟨[1, 2, 4], true, [], []⟩)) (.seq (.region r138_18 [] (some ⟨[1, 2, 4, 5], true, [], []⟩)) (.seq (.region r138_20 [] (some ⟨[1, 2, 4, 5, 6], true, [], []⟩)) (.seq (.region r138_22 [] (some ⟨[1, 2, 4, 6, 8], true, [], []⟩)) (.seq (.region r138_24 [] (some ⟨[1, 2, 4, 10], true, [], []⟩)) (.seq (.mark [⟨p138_0_0, F138_0_0 vJ138_0_0⟩] c138_0_25) (.seq (.region r138_31 [] (some ⟨[2, 3], true, [], []⟩)) .ret))))))))))
noncomputable def cm138_0 : MCode := cm138_0g J138_0_0
theorem gm138_0 : cm138_0.Good Try.prog E138_0 sh138 := ⟨trivial, ⟨⟨trivial, ⟨⟨trivial, trivial⟩, trivial⟩⟩, ⟨⟨trivial, ⟨⟨trivial, trivial⟩, trivial⟩⟩, ⟨trivial, ⟨trivial, ⟨trivial, ⟨trivial, ⟨trivial, ⟨⟨g138_0_25, m138_0_0, trivial⟩, ⟨trivial, trivial⟩⟩⟩⟩⟩⟩⟩⟩⟩⟩
theorem fm138_0g (vf29_0 : Tf29_0) (vf99_0 : Tf99_0) (vf143_0 : Tf143_0) (vf144_0 : Tf144_0) (vf42_0 : Tf42_0) (vf31_0 : Tf31_0) (vf145_0 : Tf145_0) (vJ138_0_0 : TJ138_0_0) (α : Type) (k : List RV → Option α) : Fn138_0 (f138_0g vJ138_0_0 vf143_0 vf144_0 vf145_0 vf29_0 vf42_0 vf99_0) α k = pa138_0.unc fun ds => fnM Try.prog (E138_0g vf29_0 vf99_0 vf143_0 vf144_0 vf42_0 vf31_0 vf145_0) sh138 (cm138_0g vJ138_0_0) rs138 k ds := by kernel_rfl
theorem fm138_0 : ∀ (α : Type) (k : List RV → Option α), Fn138_0 f138_0 α k = pa138_0.unc fun ds => fnM Try.prog E138_0 sh138 cm138_0 rs138 k ds := fm138_0g f29_0 f99_0 f143_0 f144_0 f42_0 f31_0 f145_0 J138_0_0

theorem is138 : FnIs Try.prog 138 nt138 tr138 tl138 cm138_0.erase rs138 := ⟨Try.f138, Try.func138, rfl, by kernel_rfl, by kernel_rfl, by kernel_rfl⟩
theorem io138_0 : InstOk Try.prog 138 nt138 ⟨pa138_0, Fn138_0 f138_0⟩ := inst_ok eo138_0 followsTry is138 ⟨⟨sh138, cm138_0, by kernel_rfl, gm138_0, fm138_0⟩⟩

/-! ### F96 etalon/meter.first -/
abbrev nt96 : Nat := 21
def sh96 : List (Nat × List Sh) := [(12, [.int .i64, .int .i64]), (13, [.int .i64, .int .i64]), (14, [.int .i64, .int .i64])]
def r96_2 : List AOper := [oO 4 (.mv (.const (.int .i64 0)))]
def r96_5 : List AOper := [oM 8 1, oO 9 (.len (.tmp 8)), oO 10 (.mv (.const (.int .i64 0)))]
def td96_7 : Option Tidy := (some ⟨[0, 8, 9, 10], true, [⟨false, 8, 0, 20008, 2⟩], []⟩)
def r96_9 : List AOper := [oO 11 (.bin .lss 3 (.tmp 10) (.tmp 9))]
def r96_15 : List AOper := [oO 12 (.iaddr 2 none (.tmp 8) (.tmp 10)), oO 13 (.load true 2 (.tmp 12)), oO 6 (.alloc [(.d (.v (.int .i64 0))), (.d (.v (.int .i64 0)))]), ⟨none, (.store 2 (.tmp 6) (.tmp 13)), none⟩]
def r96_17 : List AOper := [oO 14 (.load true 2 (.tmp 6)), oM 15 0, oO 16 (.call 125 [(.tmp 14), (.tmp 15)]), oM 7 16]
def r96_19 : List AOper := [oM 17 7, oO 18 (.bin .neq 28 (.tmp 17) (.const (.int .i64 0)))]
def r96_22 : List AOper := [oM 19 7, oM 4 19]
def r96_23 : List AOper := [oO 20 (.bin .add 3 (.tmp 10) (.const (.int .i64 1))), oM 10 20]
def r96_25 : List AOper := [oO 4 (.mv (.const (.int .i64 0)))]
def tr96 : List (Nat × Tidy) := [(0, ⟨[0, 1], true, [], []⟩), (1, ⟨[0, 8, 9, 10], true, [], []⟩), (2, ⟨[0, 8, 9, 10, 11], true, [], []⟩), (3, ⟨[0, 6, 8, 9, 10], true, [], []⟩), (4, ⟨[0, 7, 8, 9, 10], true, [], []⟩), (5, ⟨[0, 7, 8, 9, 10, 18], true, [], []⟩), (6, ⟨[4], true, [], []⟩), (7, ⟨[0, 8, 9, 10], true, [], []⟩), (8, ⟨[4], true, [], []⟩)]
def tl96 : List (Nat × Tidy) := [(2, ⟨[0, 8, 9, 10], true, [⟨false, 8, 0, 20008, 2⟩], []⟩)]
def rs96 : List AResV := [.tmp 4]
def p96_0_0 : PT St := pS [sl 0 (aV false [(cD (dI .i64))]), sl 8 (aV false [(cD dL)]), sl 9 (aV false [(cD (dI .i64))]), sl 10 (aV false [(cD (dI .i64))])] []
def u96_0_0 {β : Type} (g : St → β) : Int → Rows → Int → Int → β := p96_0_0.unc g

def p96_0_1 : PT St := pS [sl 4 (aV false [(cD (dI .i64))])] []
def u96_0_1 {β : Type} (g : St → β) : Int → β := p96_0_1.unc g

def p96_0_2 : PT St := pS [sl 0 (aV false [(cD (dI .i64))]), sl 8 (aV false [(cD dL)]), sl 9 (aV false [(cD (dI .i64))]), sl 10 (aV false [(cD (dI .i64))]), sl 11 (aV false [(cD dB)])] []
def u96_0_2 {β : Type} (g : St → β) : Int → Rows → Int → Int → Bool → β := p96_0_2.unc g

def pr96_0_0 : PT (List RV) := pRs [pR false [rD (dI .i64)]]
def ur96_0_0 {β : Type} (g : List RV → β) : Int → β := pr96_0_0.unc g

def E96_0g (vf125_0 : Tf125_0) : EnvK := EnvK.of [⟨125, nt125, [⟨pa125_0, Fn125_0 vf125_0⟩]⟩] noSeq
noncomputable def E96_0 : EnvK := E96_0g f125_0
theorem eo96_0 : E96_0.Ok Try.prog := EnvK.of_ok noSeq_ok ⟨⟨io125_0, trivial⟩, trivial⟩

noncomputable def c96_0_7g  : MCode := (.seq (.region r96_9 [] (some ⟨[0, 8, 9, 10, 11], true, [], []⟩)) (.seq (.cond (.tmp 11) .skip (.exit 0)) (.seq (.block 1 (.seq (.region r96_15 [] (some ⟨[0, 6, 8, 9, 10], true, [], []⟩)) (.seq (.region r96_17 [] (some ⟨[0, 7, 8, 9, 10], true, [], []⟩)) (.seq (.region r96_19 [] (some ⟨[0, 7, 8, 9, 10, 18], true, [], []⟩)) (.cond (.tmp 18) (.seq (.region r96_22 [] (some ⟨[4], true, [], []⟩)) .ret) .skip))))) (.region r96_23 [] (some ⟨[0, 8, 9, 10], true, [], []⟩)))))
noncomputable def c96_0_7 : MCode := c96_0_7g 
theorem g96_0_7 : c96_0_7.Good Try.prog E96_0 sh96 := ⟨trivial, ⟨⟨trivial, trivial⟩, ⟨⟨trivial, ⟨trivial, ⟨trivial, ⟨⟨trivial, trivial⟩, trivial⟩⟩⟩⟩, trivial⟩⟩⟩
--CODE 7 0
def S96_0_0g (vf125_0 : Tf125_0) (α : Type) (x3 : Int) (x4 : Rows) (x5 : Int) (x6 : Int) (kn : Int → Option α) (k1 : Int → Option α) (k2 : Int → Bool → Option α) : Option α :=
 cK (decide (x6 < x5))
 (rowK x4 x6 [.int .i64, .int .i64]
 (fun (x8 : Int) (x9 : Int) => vf125_0 α x8 x9 x3
 (fun (x10 : Int) => cK (x10 != 0)
 (k1 x10)
 (kn (w64 (x6 + 1))))))
 (k2 x6 (decide (x6 < x5)))
noncomputable def S96_0_0 (α : Type) (x3 : Int) (x4 : Rows) (x5 : Int) (x6 : Int) (kn : Int → Option α) (k1 : Int → Option α) (k2 : Int → Bool → Option α) : Option α := S96_0_0g f125_0 α x3 x4 x5 x6 kn k1 k2
noncomputable def R96_0_0 (α : Type) (x3 : Int) (x4 : Rows) (x5 : Int) (k1 : Int → Option α) (k2 : Int → Bool → Option α) : Nat → Int → Option α
 | 0, _ => none
 | n + 1, x6 => S96_0_0 α x3 x4 x5 x6 (R96_0_0 α x3 x4 x5 k1 k2 n) k1 k2
noncomputable def L96_0_0 (α : Type) (x3 : Int) (x4 : Rows) (x5 : Int) (k1 : Int → Option α) (k2 : Int → Bool → Option α) (x6 : Int) : Option α := R96_0_0 α x3 x4 x5 k1 k2 fuel x6
abbrev TL96_0_0 : Type 1 := (α : Type) → Int → Rows → Int → (Int → Option α) → (Int → Bool → Option α) → Int → Option α
def F96_0_0 (v : TL96_0_0) (α : Type) (K : Exit → St → Option α) : Int → Rows → Int → Int → Option α := fun x3 x4 x5 x6 => v α x3 x4 x5 (fun (y1 : Int) => u96_0_1 (K .ret) y1) (fun (y1 : Int) (y2 : Bool) => u96_0_2 (K (.exit 0)) x3 x4 x5 y1 y2) x6
theorem r96_0_0g (vf125_0 : Tf125_0)  (α : Type) (K : Exit → St → Option α) (Kn : St → Option α) (x3 : Int) (x4 : Rows) (x5 : Int) (x6 : Int) : u96_0_0 (fun σ => runM Try.prog (E96_0g vf125_0) sh96 (c96_0_7g ) (thenK (fun σ => tidyK td96_7 σ Kn) K) σ) x3 x4 x5 x6 = S96_0_0g vf125_0 α x3 x4 x5 x6 (fun x6 => u96_0_0 Kn x3 x4 x5 x6) (fun (y1 : Int) => u96_0_1 (K .ret) y1) (fun (y1 : Int) (y2 : Bool) => u96_0_2 (K (.exit 0)) x3 x4 x5 y1 y2) := by kernel_rfl
theorem r96_0_0 (α : Type) (K : Exit → St → Option α) (Kn : St → Option α) (x3 : Int) (x4 : Rows) (x5 : Int) (x6 : Int) : u96_0_0 (fun σ => runM Try.prog E96_0 sh96 c96_0_7 (thenK (fun σ => tidyK td96_7 σ Kn) K) σ) x3 x4 x5 x6 = S96_0_0 α x3 x4 x5 x6 (fun x6 => u96_0_0 Kn x3 x4 x5 x6) (fun (y1 : Int) => u96_0_1 (K .ret) y1) (fun (y1 : Int) (y2 : Bool) => u96_0_2 (K (.exit 0)) x3 x4 x5 y1 y2) := r96_0_0g f125_0 α K Kn x3 x4 x5 x6
theorem t96_0_0 (α : Type) (K : Exit → St → Option α) : ∀ (n : Nat) (x3 : Int) (x4 : Rows) (x5 : Int) (x6 : Int), R96_0_0 α x3 x4 x5 (fun (y1 : Int) => u96_0_1 (K .ret) y1) (fun (y1 : Int) (y2 : Bool) => u96_0_2 (K (.exit 0)) x3 x4 x5 y1 y2) n x6 = u96_0_0 (loopT (runM Try.prog E96_0 sh96 c96_0_7) td96_7 K n) x3 x4 x5 x6 := by
 intro n
 induction n with
 | zero => intros; rfl
 | succ n ih => intro x3 x4 x5 x6; exact (congrArg (fun kn => S96_0_0 α x3 x4 x5 x6 kn (fun (y1 : Int) => u96_0_1 (K .ret) y1) (fun (y1 : Int) (y2 : Bool) => u96_0_2 (K (.exit 0)) x3 x4 x5 y1 y2)) (funext fun x6 => ih x3 x4 x5 x6)).trans (r96_0_0 α K (loopT (runM Try.prog E96_0 sh96 c96_0_7) td96_7 K n) x3 x4 x5 x6).symm
theorem m96_0_0 : ∀ (α : Type) (K : Exit → St → Option α), F96_0_0 L96_0_0 α K = p96_0_0.unc fun σ => loopT (runM Try.prog E96_0 sh96 c96_0_7) td96_7 K fuel σ := fun α K => funext fun x3 => funext fun x4 => funext fun x5 => funext fun x6 => t96_0_0 α K fuel x3 x4 x5 x6

/-- etalon/meter.first -/
abbrev Tf96_0 : Type 1 := (α : Type) → Int → Rows → (Int → Option α) → Option α
def f96_0g (vL96_0_0 : TL96_0_0) (α : Type) (x1 : Int) (x2 : Rows) (k1 : Int → Option α) : Option α :=
 vL96_0_0 α x1 x2 ((List.length x2 : Nat) : Int)
 (fun (x11 : Int) => k1 x11)
 (fun (x12 : Int) (x13 : Bool) => k1 0) 0
noncomputable def f96_0 (α : Type) (x1 : Int) (x2 : Rows) (k1 : Int → Option α) : Option α := f96_0g L96_0_0 α x1 x2 k1
def pa96_0 : PT (List DV) := pA [pV false [(dI .i64)], pV false [dL]]
def Fn96_0 (v : Tf96_0) (α : Type) (k : List RV → Option α) : Int → Rows → Option α := fun x1 x2 => v α x1 x2 (fun (y1 : Int) => ur96_0_0 k y1)
noncomputable def cm96_0g (vL96_0_0 : TL96_0_0) : MCode := (.seq (.region r96_2 [] (some ⟨[0, 1], true, [], []⟩)) (.seq (.seq (.region r96_5 [] (some ⟨[0, 8, 9, 10], true, [], []⟩)) (.block 0 (.loop td96_7 [⟨p96_0_0, F96_0_0 vL96_0_0⟩] c96_0_7))) (.seq (.region r96_25 [] (some ⟨[4], true, [], []⟩)) .ret)))
noncomputable def cm96_0 : MCode := cm96_0g L96_0_0
theorem gm96_0 : cm96_0.Good Try.prog E96_0 sh96 := ⟨trivial, ⟨⟨trivial, ⟨g96_0_7, m96_0_0, trivial⟩⟩, ⟨trivial, trivial⟩⟩⟩
theorem fm96_0g (vf125_0 : Tf125_0) (vL96_0_0 : TL96_0_0) (α : Type) (k : List RV → Option α) : Fn96_0 (f96_0g vL96_0_0) α k = pa96_0.unc fun ds => fnM Try.prog (E96_0g vf125_0) sh96 (cm96_0g vL96_0_0) rs96 k ds := by kernel_rfl
theorem fm96_0 : ∀ (α : Type) (k : List RV → Option α), Fn96_0 f96_0 α k = pa96_0.unc fun ds => fnM Try.prog E96_0 sh96 cm96_0 rs96 k ds := fm96_0g f125_0 L96_0_0

theorem is96 : FnIs Try.prog 96 nt96 tr96 tl96 cm96_0.erase rs96 := ⟨Try.f96, Try.func96, rfl, by kernel_rfl, by kernel_rfl, by kernel_rfl⟩
theorem io96_0 : InstOk Try.prog 96 nt96 ⟨pa96_0, Fn96_0 f96_0⟩ := inst_ok eo96_0 followsTry is96 ⟨⟨sh96, cm96_0, by kernel_rfl, gm96_0, fm96_0⟩⟩

/-! ### F128 etalon/etalonref01.arcOf -/
abbrev nt128 : Nat := 34
def sh128 : List (Nat × List Sh) := [(19, [.int .i64]), (23, [.int .i64]), (27, [.int .i64])]
def r128_2 : List AOper := [oO 4 (.alloc [(.d (.v (.int .i64 0))), (.d (.v (.int .i64 0))), (.d (.v (.int .i64 0)))]), oO 5 (.mv (.const (.int .i64 0)))]
def r128_4 : List AOper := [oM 9 0, oO 10 (.bin .mul 3 (.tmp 9) (.const (.int .i64 4194304))), oM 6 10]
def r128_6 : List AOper := [oM 11 6, oM 12 1, oO 13 (.call 99 [(.tmp 11), (.tmp 12)]), oM 14 6, oM 15 1, oO 16 (.call 42 [(.tmp 14), (.tmp 15)]), oO 17 (.build [(.d (.v (.int .i64 0))), (.d (.v (.int .i64 0)))] [(0, 1, (.tmp 13)), (1, 1, (.tmp 16))]), oO 7 (.alloc [(.d (.v (.int .i64 0))), (.d (.v (.int .i64 0)))]), ⟨none, (.store 2 (.tmp 7) (.tmp 17)), none⟩]
def r128_8 : List AOper := [oO 18 (.faddr 0 (.tmp 7)), oO 19 (.load false 1 (.tmp 18)), oO 20 (.call 99 [(.tmp 19), (.const (.int .i64 4194304))]), oO 21 (.bin .mul 3 (.tmp 20) (.const (.int .i64 4194304))), oM 8 21]
def r128_10 : List AOper := [oO 22 (.faddr 0 (.tmp 7)), oO 23 (.load false 1 (.tmp 22)), oM 24 8, oO 25 (.bin .sub 3 (.tmp 23) (.tmp 24)), oO 26 (.faddr 1 (.tmp 7)), oO 27 (.load false 1 (.tmp 26)), oM 28 8, oO 29 (.bin .sub 3 (.tmp 27) (.tmp 28)), oO 30 (.build [(.d (.v (.int .i64 0))), (.d (.v (.int .i64 0)))] [(0, 1, (.tmp 25)), (1, 1, (.tmp 29))]), oO 31 (.call 138 [(.tmp 30)]), oO 32 (.extract 0 (.tmp 31)), oO 33 (.extract 1 (.tmp 31)), ⟨none, (.store 3 (.tmp 4) (.tmp 32)), none⟩, oM 5 33]
def tr128 : List (Nat × Tidy) := [(0, ⟨[0, 1, 4], true, [], []⟩), (1, ⟨[1, 4, 6], true, [], []⟩), (2, ⟨[4, 7], true, [], []⟩), (3, ⟨[4, 7, 8], true, [], []⟩), (4, ⟨[4, 5], true, [], []⟩)]
def tl128 : List (Nat × Tidy) := []
def rs128 : List AResV := [.cell 4 true 3, .tmp 5]
def pr128_0_0 : PT (List RV) := pRs [pR true [rD (dI .i64), rD (dI .i64), rD (dI .i64)], pR false [rD (dI .i64)]]
def ur128_0_0 {β : Type} (g : List RV → β) : Int → Int → Int → Int → β := pr128_0_0.unc g

def E128_0g (vf99_0 : Tf99_0) (vf42_0 : Tf42_0) (vf138_0 : Tf138_0) : EnvK := EnvK.of [⟨99, nt99, [⟨pa99_0, Fn99_0 vf99_0⟩]⟩, ⟨42, nt42, [⟨pa42_0, Fn42_0 vf42_0⟩]⟩, ⟨138, nt138, [⟨pa138_0, Fn138_0 vf138_0⟩]⟩] noSeq
noncomputable def E128_0 : EnvK := E128_0g f99_0 f42_0 f138_0
theorem eo128_0 : E128_0.Ok Try.prog := EnvK.of_ok noSeq_ok ⟨⟨io99_0, trivial⟩, ⟨io42_0, trivial⟩, ⟨io138_0, trivial⟩, trivial⟩

/-- etalon/etalonref01.arcOf -/
abbrev Tf128_0 : Type 1 := (α : Type) → Int → Int → (Int → Int → Int → Int → Option α) → Option α
def f128_0g (vf138_0 : Tf138_0) (vf42_0 : Tf42_0) (vf99_0 : Tf99_0) (α : Type) (x1 : Int) (x2 : Int) (k1 : Int → Int → Int → Int → Option α) : Option α :=
 vf99_0 α (w64 (x1 * 4194304)) x2
 (fun (x3 : Int) => vf42_0 α (w64 (x1 * 4194304)) x2
 (fun (x4 : Int) => vf99_0 α x3 4194304
 (fun (x5 : Int) => vf138_0 α (w64 (x3 - (w64 (x5 * 4194304)))) (w64 (x4 - (w64 (x5 * 4194304))))
 (fun (x6 : Int) (x7 : Int) (x8 : Int) (x9 : Int) => k1 x6 x7 x8 x9))))
noncomputable def f128_0 (α : Type) (x1 : Int) (x2 : Int) (k1 : Int → Int → Int → Int → Option α) : Option α := f128_0g f138_0 f42_0 f99_0 α x1 x2 k1
def pa128_0 : PT (List DV) := pA [pV false [(dI .i64)], pV false [(dI .i64)]]
def Fn128_0 (v : Tf128_0) (α : Type) (k : List RV → Option α) : Int → Int → Option α := fun x1 x2 => v α x1 x2 (fun (y1 : Int) (y2 : Int) (y3 : Int) (y4 : Int) => ur128_0_0 k y1 y2 y3 y4)
noncomputable def cm128_0g  : MCode := (.seq (.region r128_2 [] (some ⟨[0, 1, 4], true, [], []⟩)) (.seq (.region r128_4 [] (some ⟨[1, 4, 6], true, [], []⟩)) (.seq (.region r128_6 [] (some ⟨[4, 7], true, [], []⟩)) (.seq (.region r128_8 [] (some ⟨[4, 7, 8], true, [], []⟩)) (.seq (.region r128_10 [] (some ⟨[4, 5], true, [], []⟩)) .ret)))))
noncomputable def cm128_0 : MCode := cm128_0g 
theorem gm128_0 : cm128_0.Good Try.prog E128_0 sh128 := ⟨trivial, ⟨trivial, ⟨trivial, ⟨trivial, ⟨trivial, trivial⟩⟩⟩⟩⟩
theorem fm128_0g (vf99_0 : Tf99_0) (vf42_0 : Tf42_0) (vf138_0 : Tf138_0)  (α : Type) (k : List RV → Option α) : Fn128_0 (f128_0g vf138_0 vf42_0 vf99_0) α k = pa128_0.unc fun ds => fnM Try.prog (E128_0g vf99_0 vf42_0 vf138_0) sh128 (cm128_0g ) rs128 k ds := by kernel_rfl
theorem fm128_0 : ∀ (α : Type) (k : List RV → Option α), Fn128_0 f128_0 α k = pa128_0.unc fun ds => fnM Try.prog E128_0 sh128 cm128_0 rs128 k ds := fm128_0g f99_0 f42_0 f138_0

theorem is128 : FnIs Try.prog 128 nt128 tr128 tl128 cm128_0.erase rs128 := ⟨Try.f128, Try.func128, rfl, by kernel_rfl, by kernel_rfl, by kernel_rfl⟩
theorem io128_0 : InstOk Try.prog 128 nt128 ⟨pa128_0, Fn128_0 f128_0⟩ := inst_ok eo128_0 followsTry is128 ⟨⟨sh128, cm128_0, by kernel_rfl, gm128_0, fm128_0⟩⟩

/-! ### F28 etalon/meter.CheckReading -/
abbrev nt28 : Nat := 22
def sh28 : List (Nat × List Sh) := [(5, [.str]), (7, [.int .i64]), (9, [.int .i64, .int .i64]), (15, [.int .i64, .int .i64]), (17, [.int .i64, .int .i64]), (19, [.int .i64, .int .i64])]
def r28_2 : List AOper := [oO 1 (.box (.tmp 0)), oO 2 (.mv (.const (.int .i64 0)))]
def r28_5 : List AOper := [oO 4 (.faddr 0 (.tmp 1)), oO 5 (.load false 1 (.tmp 4)), oO 6 (.faddr 1 (.tmp 1)), oO 7 (.load false 1 (.tmp 6)), oO 8 (.faddr 2 (.tmp 1)), oO 9 (.load true 2 (.tmp 8)), oO 10 (.call 83 [(.tmp 5), (.tmp 7), (.tmp 9)]), oM 3 10]
def r28_7 : List AOper := [oM 11 3, oO 12 (.bin .neq 28 (.tmp 11) (.const (.int .i64 0)))]
def r28_10 : List AOper := [oM 13 3, oM 2 13]
def r28_12 : List AOper := [oO 14 (.faddr 4 (.tmp 1)), oO 15 (.load true 2 (.tmp 14)), oO 16 (.faddr 6 (.tmp 1)), oO 17 (.load true 2 (.tmp 16)), oO 18 (.faddr 8 (.tmp 1)), oO 19 (.load true 2 (.tmp 18)), oO 20 (.bslice 2 3 [(.v (.int .i64 0)), (.v (.int .i64 0))] [(0, (.tmp 15)), (1, (.tmp 17)), (2, (.tmp 19))]), oO 21 (.call 96 [(.const (.int .i64 1048576)), (.tmp 20)]), oM 2 21]
def tr28 : List (Nat × Tidy) := [(0, ⟨[1], true, [], []⟩), (1, ⟨[1, 3], true, [], []⟩), (2, ⟨[1, 3, 12], true, [], []⟩), (3, ⟨[2], true, [], []⟩), (4, ⟨[2], true, [], []⟩)]
def tl28 : List (Nat × Tidy) := []
def rs28 : List AResV := [.tmp 2]
def pr28_0_0 : PT (List RV) := pRs [pR false [rD (dI .i64)]]
def ur28_0_0 {β : Type} (g : List RV → β) : Int → β := pr28_0_0.unc g

def E28_0g (vf83_0 : Tf83_0) (vf96_0 : Tf96_0) : EnvK := EnvK.of [⟨83, nt83, [⟨pa83_0, Fn83_0 vf83_0⟩]⟩, ⟨96, nt96, [⟨pa96_0, Fn96_0 vf96_0⟩]⟩] noSeq
noncomputable def E28_0 : EnvK := E28_0g f83_0 f96_0
theorem eo28_0 : E28_0.Ok Try.prog := EnvK.of_ok noSeq_ok ⟨⟨io83_0, trivial⟩, ⟨io96_0, trivial⟩, trivial⟩

/-- etalon/meter.CheckReading -/
abbrev Tf28_0 : Type 1 := (α : Type) → ByteArray → Int → Int → Int → Int → Int → Int → Int → Int → Int → (Int → Option α) → Option α
def f28_0g (vf83_0 : Tf83_0) (vf96_0 : Tf96_0) (α : Type) (x1 : ByteArray) (x2 : Int) (x3 : Int) (x4 : Int) (x5 : Int) (x6 : Int) (x7 : Int) (x8 : Int) (x9 : Int) (x10 : Int) (k1 : Int → Option α) : Option α :=
 vf83_0 α x1 x2 x3 x4
 (fun (x11 : Int) => cK (x11 != 0)
 (k1 x11)
 (vf96_0 α 1048576 [[DC.v (.int .i64 x5), DC.v (.int .i64 x6)], [DC.v (.int .i64 x7), DC.v (.int .i64 x8)], [DC.v (.int .i64 x9), DC.v (.int .i64 x10)]]
 (fun (x12 : Int) => k1 x12)))
noncomputable def f28_0 (α : Type) (x1 : ByteArray) (x2 : Int) (x3 : Int) (x4 : Int) (x5 : Int) (x6 : Int) (x7 : Int) (x8 : Int) (x9 : Int) (x10 : Int) (k1 : Int → Option α) : Option α := f28_0g f83_0 f96_0 α x1 x2 x3 x4 x5 x6 x7 x8 x9 x10 k1
def pa28_0 : PT (List DV) := pA [pV true [dS, (dI .i64), (dI .i64), (dI .i64), (dI .i64), (dI .i64), (dI .i64), (dI .i64), (dI .i64), (dI .i64)]]
def Fn28_0 (v : Tf28_0) (α : Type) (k : List RV → Option α) : ByteArray → Int → Int → Int → Int → Int → Int → Int → Int → Int → Option α := fun x1 x2 x3 x4 x5 x6 x7 x8 x9 x10 => v α x1 x2 x3 x4 x5 x6 x7 x8 x9 x10 (fun (y1 : Int) => ur28_0_0 k y1)
noncomputable def cm28_0g  : MCode := (.seq (.region r28_2 [] (some ⟨[1], true, [], []⟩)) (.seq (.seq (.region r28_5 [] (some ⟨[1, 3], true, [], []⟩)) (.seq (.region r28_7 [] (some ⟨[1, 3, 12], true, [], []⟩)) (.cond (.tmp 12) (.seq (.region r28_10 [] (some ⟨[2], true, [], []⟩)) .ret) .skip))) (.seq (.region r28_12 [] (some ⟨[2], true, [], []⟩)) .ret)))
noncomputable def cm28_0 : MCode := cm28_0g 
theorem gm28_0 : cm28_0.Good Try.prog E28_0 sh28 := ⟨trivial, ⟨⟨trivial, ⟨trivial, ⟨⟨trivial, trivial⟩, trivial⟩⟩⟩, ⟨trivial, trivial⟩⟩⟩
theorem fm28_0g (vf83_0 : Tf83_0) (vf96_0 : Tf96_0)  (α : Type) (k : List RV → Option α) : Fn28_0 (f28_0g vf83_0 vf96_0) α k = pa28_0.unc fun ds => fnM Try.prog (E28_0g vf83_0 vf96_0) sh28 (cm28_0g ) rs28 k ds := by kernel_rfl
theorem fm28_0 : ∀ (α : Type) (k : List RV → Option α), Fn28_0 f28_0 α k = pa28_0.unc fun ds => fnM Try.prog E28_0 sh28 cm28_0 rs28 k ds := fm28_0g f83_0 f96_0

theorem is28 : FnIs Try.prog 28 nt28 tr28 tl28 cm28_0.erase rs28 := ⟨Try.f28, Try.func28, rfl, by kernel_rfl, by kernel_rfl, by kernel_rfl⟩
theorem io28_0 : InstOk Try.prog 28 nt28 ⟨pa28_0, Fn28_0 f28_0⟩ := inst_ok eo28_0 followsTry is28 ⟨⟨sh28, cm28_0, by kernel_rfl, gm28_0, fm28_0⟩⟩

/-! ### F105 etalon/etalonref01.Unit -/
abbrev nt105 : Nat := 20
def sh105 : List (Nat × List Sh) := []
def r105_2 : List AOper := [oO 4 (.alloc [(.d (.v (.int .i64 0))), (.d (.v (.int .i64 0))), (.d (.v (.int .i64 0)))]), oO 5 (.mv (.const (.int .i64 0)))]
def r105_5 : List AOper := [oM 6 0, oO 7 (.call 29 [(.tmp 6), (.const (.int .i64 (-1000000000))), (.const (.int .i64 1000000000))]), oO 8 (.pure (oB (.unOp .not 4 (.tmp 7)) 4)), oM 9 8, ⟨(some 10), (.mv (.tmp 1)), (some (9, false))⟩, ⟨(some 11), (.call 29 [(.tmp 10), (.const (.int .i64 1)), (.const (.int .i64 1000000000))]), (some (9, false))⟩, ⟨(some 12), (.pure (oB (.unOp .not 4 (.tmp 11)) 4)), (some (9, false))⟩, oO 13 (.pick (.tmp 9) (.const (.bool true)) (.tmp 12))]
def r105_8 : List AOper := [oO 14 (.build [(.d (.v (.int .i64 0))), (.d (.v (.int .i64 0))), (.d (.v (.int .i64 0)))] []), ⟨none, (.store 3 (.tmp 4) (.tmp 14)), none⟩, oO 5 (.mv (.const (.int .i64 2)))]
def r105_10 : List AOper := [oM 15 0, oM 16 1, oO 17 (.call 128 [(.tmp 15), (.tmp 16)]), oO 18 (.extract 0 (.tmp 17)), oO 19 (.extract 1 (.tmp 17)), ⟨none, (.store 3 (.tmp 4) (.tmp 18)), none⟩, oM 5 19]
def tr105 : List (Nat × Tidy) := [(0, ⟨[0, 1, 4], true, [], []⟩), (1, ⟨[0, 1, 4, 13], true, [], []⟩), (2, ⟨[4, 5], true, [], []⟩), (3, ⟨[4, 5], true, [], []⟩)]
def tl105 : List (Nat × Tidy) := []
def rs105 : List AResV := [.cell 4 true 3, .tmp 5]
def pr105_0_0 : PT (List RV) := pRs [pR true [rD (dI .i64), rD (dI .i64), rD (dI .i64)], pR false [rD (dI .i64)]]
def ur105_0_0 {β : Type} (g : List RV → β) : Int → Int → Int → Int → β := pr105_0_0.unc g

def E105_0g (vf29_0 : Tf29_0) (vf128_0 : Tf128_0) : EnvK := EnvK.of [⟨29, nt29, [⟨pa29_0, Fn29_0 vf29_0⟩]⟩, ⟨128, nt128, [⟨pa128_0, Fn128_0 vf128_0⟩]⟩] noSeq
noncomputable def E105_0 : EnvK := E105_0g f29_0 f128_0
theorem eo105_0 : E105_0.Ok Try.prog := EnvK.of_ok noSeq_ok ⟨⟨io29_0, trivial⟩, ⟨io128_0, trivial⟩, trivial⟩

/-- etalon/etalonref01.Unit -/
abbrev Tf105_0 : Type 1 := (α : Type) → Int → Int → (Int → Int → Int → Int → Option α) → Option α
def f105_0g (vf128_0 : Tf128_0) (vf29_0 : Tf29_0) (α : Type) (x1 : Int) (x2 : Int) (k1 : Int → Int → Int → Int → Option α) : Option α :=
 vf29_0 α x1 (-1000000000) 1000000000
 (fun (x3 : Bool) => cK (!x3)
 (k1 0 0 0 2)
 (vf29_0 α x2 1 1000000000
 (fun (x4 : Bool) => cK (!x4)
 (k1 0 0 0 2)
 (vf128_0 α x1 x2
 (fun (x5 : Int) (x6 : Int) (x7 : Int) (x8 : Int) => k1 x5 x6 x7 x8)))))
noncomputable def f105_0 (α : Type) (x1 : Int) (x2 : Int) (k1 : Int → Int → Int → Int → Option α) : Option α := f105_0g f128_0 f29_0 α x1 x2 k1
def pa105_0 : PT (List DV) := pA [pV false [(dI .i64)], pV false [(dI .i64)]]
def Fn105_0 (v : Tf105_0) (α : Type) (k : List RV → Option α) : Int → Int → Option α := fun x1 x2 => v α x1 x2 (fun (y1 : Int) (y2 : Int) (y3 : Int) (y4 : Int) => ur105_0_0 k y1 y2 y3 y4)
noncomputable def cm105_0g  : MCode := (.seq (.region r105_2 [] (some ⟨[0, 1, 4], true, [], []⟩)) (.seq (.seq (.region r105_5 [] (some ⟨[0, 1, 4, 13], true, [], []⟩)) (.cond (.tmp 13) (.seq (.region r105_8 [] (some ⟨[4, 5], true, [], []⟩)) .ret) .skip)) (.seq (.region r105_10 [] (some ⟨[4, 5], true, [], []⟩)) .ret)))
noncomputable def cm105_0 : MCode := cm105_0g 
theorem gm105_0 : cm105_0.Good Try.prog E105_0 sh105 := ⟨trivial, ⟨⟨trivial, ⟨⟨trivial, trivial⟩, trivial⟩⟩, ⟨trivial, trivial⟩⟩⟩
theorem fm105_0g (vf29_0 : Tf29_0) (vf128_0 : Tf128_0)  (α : Type) (k : List RV → Option α) : Fn105_0 (f105_0g vf128_0 vf29_0) α k = pa105_0.unc fun ds => fnM Try.prog (E105_0g vf29_0 vf128_0) sh105 (cm105_0g ) rs105 k ds := by kernel_rfl
theorem fm105_0 : ∀ (α : Type) (k : List RV → Option α), Fn105_0 f105_0 α k = pa105_0.unc fun ds => fnM Try.prog E105_0 sh105 cm105_0 rs105 k ds := fm105_0g f29_0 f128_0

theorem is105 : FnIs Try.prog 105 nt105 tr105 tl105 cm105_0.erase rs105 := ⟨Try.f105, Try.func105, rfl, by kernel_rfl, by kernel_rfl, by kernel_rfl⟩
theorem io105_0 : InstOk Try.prog 105 nt105 ⟨pa105_0, Fn105_0 f105_0⟩ := inst_ok eo105_0 followsTry is105 ⟨⟨sh105, cm105_0, by kernel_rfl, gm105_0, fm105_0⟩⟩

/-! ### F47 etalon/meter.Possible -/
abbrev nt47 : Nat := 23
def sh47 : List (Nat × List Sh) := [(7, [.str, .int .i64, .int .i64, .int .i64, .int .i64, .int .i64, .int .i64, .int .i64, .int .i64, .int .i64]), (13, [.str, .int .i64, .int .i64, .int .i64, .int .i64, .int .i64, .int .i64, .int .i64, .int .i64, .int .i64])]
def r47_2 : List AOper := [oO 1 (.box (.tmp 0)), oO 2 (.mv (.const (.int .i64 0))), oO 3 (.mv (.const (.int .i64 0)))]
def r47_5 : List AOper := [oO 7 (.load true 10 (.tmp 1)), oO 8 (.call 28 [(.tmp 7)]), oM 4 8]
def r47_7 : List AOper := [oM 9 4, oO 10 (.bin .neq 28 (.tmp 9) (.const (.int .i64 0)))]
def r47_10 : List AOper := [oM 11 4, oO 2 (.mv (.const (.int .i64 0))), oM 3 11]
def r47_13 : List AOper := [oO 13 (.load true 10 (.tmp 1)), oO 14 (.call 101 [(.tmp 13)]), oM 12 14, oO 15 (.extract 0 (.tmp 12)), oO 16 (.extract 1 (.tmp 12)), oM 5 15, oM 6 16]
def r47_16 : List AOper := [oM 18 5, oO 19 (.bin .gtr 3 (.tmp 18) (.const (.int .i64 1099511627776))), oM 17 19]
def r47_19 : List AOper := [oO 2 (.mv (.const (.int .i64 0))), oO 3 (.mv (.const (.int .i64 0)))]
def r47_21 : List AOper := [oM 21 6, oO 22 (.bin .leq 3 (.tmp 21) (.const (.int .i64 1099511627776))), oM 20 22]
def r47_24 : List AOper := [oO 2 (.mv (.const (.int .i64 2))), oO 3 (.mv (.const (.int .i64 0)))]
def r47_26 : List AOper := [oO 2 (.mv (.const (.int .i64 1))), oO 3 (.mv (.const (.int .i64 0)))]
def tr47 : List (Nat × Tidy) := [(0, ⟨[1], true, [], []⟩), (1, ⟨[1, 4], true, [], []⟩), (2, ⟨[1, 4, 10], true, [], []⟩), (3, ⟨[2, 3], true, [], []⟩), (4, ⟨[5, 6], true, [], []⟩), (5, ⟨[6, 17], true, [], []⟩), (6, ⟨[2, 3], true, [], []⟩), (7, ⟨[20], true, [], []⟩), (8, ⟨[2, 3], true, [], []⟩), (9, ⟨[2, 3], true, [], []⟩)]
def tl47 : List (Nat × Tidy) := []
def rs47 : List AResV := [.tmp 2, .tmp 3]
def pr47_0_0 : PT (List RV) := pRs [pR false [rD (dI .i64)], pR false [rD (dI .i64)]]
def ur47_0_0 {β : Type} (g : List RV → β) : Int → Int → β := pr47_0_0.unc g

def E47_0g (vf28_0 : Tf28_0) (vf101_0 : Tf101_0) : EnvK := EnvK.of [⟨28, nt28, [⟨pa28_0, Fn28_0 vf28_0⟩]⟩, ⟨101, nt101, [⟨pa101_0, Fn101_0 vf101_0⟩]⟩] noSeq
noncomputable def E47_0 : EnvK := E47_0g f28_0 f101_0
theorem eo47_0 : E47_0.Ok Try.prog := EnvK.of_ok noSeq_ok ⟨⟨io28_0, trivial⟩, ⟨io101_0, trivial⟩, trivial⟩

/-- etalon/meter.Possible -/
abbrev Tf47_0 : Type 1 := (α : Type) → ByteArray → Int → Int → Int → Int → Int → Int → Int → Int → Int → (Int → Int → Option α) → Option α
def f47_0g (vf101_0 : Tf101_0) (vf28_0 : Tf28_0) (α : Type) (x1 : ByteArray) (x2 : Int) (x3 : Int) (x4 : Int) (x5 : Int) (x6 : Int) (x7 : Int) (x8 : Int) (x9 : Int) (x10 : Int) (k1 : Int → Int → Option α) : Option α :=
 vf28_0 α x1 x2 x3 x4 x5 x6 x7 x8 x9 x10
 (fun (x11 : Int) => cK (x11 != 0)
 (k1 0 x11)
 (vf101_0 α x1 x2 x3 x4 x5 x6 x7 x8 x9 x10
 (fun (x12 : Int) (x13 : Int) => cK (decide (1099511627776 < x12))
 (k1 0 0)
 (cK (decide (x13 ≤ 1099511627776))
 (k1 2 0)
 (k1 1 0)))))
noncomputable def f47_0 (α : Type) (x1 : ByteArray) (x2 : Int) (x3 : Int) (x4 : Int) (x5 : Int) (x6 : Int) (x7 : Int) (x8 : Int) (x9 : Int) (x10 : Int) (k1 : Int → Int → Option α) : Option α := f47_0g f101_0 f28_0 α x1 x2 x3 x4 x5 x6 x7 x8 x9 x10 k1
def pa47_0 : PT (List DV) := pA [pV true [dS, (dI .i64), (dI .i64), (dI .i64), (dI .i64), (dI .i64), (dI .i64), (dI .i64), (dI .i64), (dI .i64)]]
def Fn47_0 (v : Tf47_0) (α : Type) (k : List RV → Option α) : ByteArray → Int → Int → Int → Int → Int → Int → Int → Int → Int → Option α := fun x1 x2 x3 x4 x5 x6 x7 x8 x9 x10 => v α x1 x2 x3 x4 x5 x6 x7 x8 x9 x10 (fun (y1 : Int) (y2 : Int) => ur47_0_0 k y1 y2)
noncomputable def cm47_0g  : MCode := (.seq (.region r47_2 [] (some ⟨[1], true, [], []⟩)) (.seq (.seq (.region r47_5 [] (some ⟨[1, 4], true, [], []⟩)) (.seq (.region r47_7 [] (some ⟨[1, 4, 10], true, [], []⟩)) (.cond (.tmp 10) (.seq (.region r47_10 [] (some ⟨[2, 3], true, [], []⟩)) .ret) .skip))) (.seq (.seq (.region r47_13 [] (some ⟨[5, 6], true, [], []⟩)) (.block 0 (.seq (.region r47_16 [] (some ⟨[6, 17], true, [], []⟩)) (.cond (.tmp 17) (.seq (.region r47_19 [] (some ⟨[2, 3], true, [], []⟩)) .ret) (.seq (.region r47_21 [] (some ⟨[20], true, [], []⟩)) (.cond (.tmp 20) (.seq (.region r47_24 [] (some ⟨[2, 3], true, [], []⟩)) .ret) .skip)))))) (.seq (.region r47_26 [] (some ⟨[2, 3], true, [], []⟩)) .ret))))
noncomputable def cm47_0 : MCode := cm47_0g 
theorem gm47_0 : cm47_0.Good Try.prog E47_0 sh47 := ⟨trivial, ⟨⟨trivial, ⟨trivial, ⟨⟨trivial, trivial⟩, trivial⟩⟩⟩, ⟨⟨trivial, ⟨trivial, ⟨⟨trivial, trivial⟩, ⟨trivial, ⟨⟨trivial, trivial⟩, trivial⟩⟩⟩⟩⟩, ⟨trivial, trivial⟩⟩⟩⟩
theorem fm47_0g (vf28_0 : Tf28_0) (vf101_0 : Tf101_0)  (α : Type) (k : List RV → Option α) : Fn47_0 (f47_0g vf101_0 vf28_0) α k = pa47_0.unc fun ds => fnM Try.prog (E47_0g vf28_0 vf101_0) sh47 (cm47_0g ) rs47 k ds := by kernel_rfl
theorem fm47_0 : ∀ (α : Type) (k : List RV → Option α), Fn47_0 f47_0 α k = pa47_0.unc fun ds => fnM Try.prog E47_0 sh47 cm47_0 rs47 k ds := fm47_0g f28_0 f101_0

theorem is47 : FnIs Try.prog 47 nt47 tr47 tl47 cm47_0.erase rs47 := ⟨Try.f47, Try.func47, rfl, by kernel_rfl, by kernel_rfl, by kernel_rfl⟩
theorem io47_0 : InstOk Try.prog 47 nt47 ⟨pa47_0, Fn47_0 f47_0⟩ := inst_ok eo47_0 followsTry is47 ⟨⟨sh47, cm47_0, by kernel_rfl, gm47_0, fm47_0⟩⟩

/-! ### F46 etalon/meter.DegreeOf -/
abbrev nt46 : Nat := 23
def sh46 : List (Nat × List Sh) := [(7, [.str, .int .i64, .int .i64, .int .i64, .int .i64, .int .i64, .int .i64, .int .i64, .int .i64, .int .i64]), (14, [.str, .int .i64, .int .i64, .int .i64, .int .i64, .int .i64, .int .i64, .int .i64, .int .i64, .int .i64])]
def r46_2 : List AOper := [oO 1 (.box (.tmp 0)), oO 2 (.alloc [(.d (.v (.int .i64 0))), (.d (.v (.int .i64 0)))]), oO 3 (.mv (.const (.int .i64 0)))]
def r46_5 : List AOper := [oO 7 (.load true 10 (.tmp 1)), oO 8 (.call 28 [(.tmp 7)]), oM 4 8]
def r46_7 : List AOper := [oM 9 4, oO 10 (.bin .neq 28 (.tmp 9) (.const (.int .i64 0)))]
def r46_10 : List AOper := [oO 11 (.build [(.d (.v (.int .i64 0))), (.d (.v (.int .i64 0)))] []), oM 12 4, ⟨none, (.store 2 (.tmp 2) (.tmp 11)), none⟩, oM 3 12]
def r46_12 : List AOper := [oO 14 (.load true 10 (.tmp 1)), oO 15 (.call 101 [(.tmp 14)]), oM 13 15, oO 16 (.extract 0 (.tmp 13)), oO 17 (.extract 1 (.tmp 13)), oM 5 16, oM 6 17]
def r46_14 : List AOper := [oM 18 5, oO 19 (.call 78 [(.tmp 18), (.const (.int .i64 1048576))]), oM 20 6, oO 21 (.call 79 [(.tmp 20), (.const (.int .i64 1048576))]), oO 22 (.build [(.d (.v (.int .i64 0))), (.d (.v (.int .i64 0)))] [(0, 1, (.tmp 19)), (1, 1, (.tmp 21))]), ⟨none, (.store 2 (.tmp 2) (.tmp 22)), none⟩, oO 3 (.mv (.const (.int .i64 0)))]
def tr46 : List (Nat × Tidy) := [(0, ⟨[1, 2], true, [], []⟩), (1, ⟨[1, 2, 4], true, [], []⟩), (2, ⟨[1, 2, 4, 10], true, [], []⟩), (3, ⟨[2, 3], true, [], []⟩), (4, ⟨[2, 5, 6], true, [], []⟩), (5, ⟨[2, 3], true, [], []⟩)]
def tl46 : List (Nat × Tidy) := []
def rs46 : List AResV := [.cell 2 true 2, .tmp 3]
def pr46_0_0 : PT (List RV) := pRs [pR true [rD (dI .i64), rD (dI .i64)], pR false [rD (dI .i64)]]
def ur46_0_0 {β : Type} (g : List RV → β) : Int → Int → Int → β := pr46_0_0.unc g

def E46_0g (vf28_0 : Tf28_0) (vf101_0 : Tf101_0) (vf78_0 : Tf78_0) (vf79_0 : Tf79_0) : EnvK := EnvK.of [⟨28, nt28, [⟨pa28_0, Fn28_0 vf28_0⟩]⟩, ⟨101, nt101, [⟨pa101_0, Fn101_0 vf101_0⟩]⟩, ⟨78, nt78, [⟨pa78_0, Fn78_0 vf78_0⟩]⟩, ⟨79, nt79, [⟨pa79_0, Fn79_0 vf79_0⟩]⟩] noSeq
noncomputable def E46_0 : EnvK := E46_0g f28_0 f101_0 f78_0 f79_0
theorem eo46_0 : E46_0.Ok Try.prog := EnvK.of_ok noSeq_ok ⟨⟨io28_0, trivial⟩, ⟨io101_0, trivial⟩, ⟨io78_0, trivial⟩, ⟨io79_0, trivial⟩, trivial⟩

/-- etalon/meter.DegreeOf -/
abbrev Tf46_0 : Type 1 := (α : Type) → ByteArray → Int → Int → Int → Int → Int → Int → Int → Int → Int → (Int → Int → Int → Option α) → Option α
def f46_0g (vf101_0 : Tf101_0) (vf28_0 : Tf28_0) (vf78_0 : Tf78_0) (vf79_0 : Tf79_0) (α : Type) (x1 : ByteArray) (x2 : Int) (x3 : Int) (x4 : Int) (x5 : Int) (x6 : Int) (x7 : Int) (x8 : Int) (x9 : Int) (x10 : Int) (k1 : Int → Int → Int → Option α) : Option α :=
 vf28_0 α x1 x2 x3 x4 x5 x6 x7 x8 x9 x10
 (fun (x11 : Int) => cK (x11 != 0)
 (k1 0 0 x11)
 (vf101_0 α x1 x2 x3 x4 x5 x6 x7 x8 x9 x10
 (fun (x12 : Int) (x13 : Int) => vf78_0 α x12 1048576
 (fun (x14 : Int) => vf79_0 α x13 1048576
 (fun (x15 : Int) => k1 x14 x15 0)))))
noncomputable def f46_0 (α : Type) (x1 : ByteArray) (x2 : Int) (x3 : Int) (x4 : Int) (x5 : Int) (x6 : Int) (x7 : Int) (x8 : Int) (x9 : Int) (x10 : Int) (k1 : Int → Int → Int → Option α) : Option α := f46_0g f101_0 f28_0 f78_0 f79_0 α x1 x2 x3 x4 x5 x6 x7 x8 x9 x10 k1
def pa46_0 : PT (List DV) := pA [pV true [dS, (dI .i64), (dI .i64), (dI .i64), (dI .i64), (dI .i64), (dI .i64), (dI .i64), (dI .i64), (dI .i64)]]
def Fn46_0 (v : Tf46_0) (α : Type) (k : List RV → Option α) : ByteArray → Int → Int → Int → Int → Int → Int → Int → Int → Int → Option α := fun x1 x2 x3 x4 x5 x6 x7 x8 x9 x10 => v α x1 x2 x3 x4 x5 x6 x7 x8 x9 x10 (fun (y1 : Int) (y2 : Int) (y3 : Int) => ur46_0_0 k y1 y2 y3)
noncomputable def cm46_0g  : MCode := (.seq (.region r46_2 [] (some ⟨[1, 2], true, [], []⟩)) (.seq (.seq (.region r46_5 [] (some ⟨[1, 2, 4], true, [], []⟩)) (.seq (.region r46_7 [] (some ⟨[1, 2, 4, 10], true, [], []⟩)) (.cond (.tmp 10) (.seq (.region r46_10 [] (some ⟨[2, 3], true, [], []⟩)) .ret) .skip))) (.seq (.region r46_12 [] (some ⟨[2, 5, 6], true, [], []⟩)) (.seq (.region r46_14 [] (some ⟨[2, 3], true, [], []⟩)) .ret))))
noncomputable def cm46_0 : MCode := cm46_0g 
theorem gm46_0 : cm46_0.Good Try.prog E46_0 sh46 := ⟨trivial, ⟨⟨trivial, ⟨trivial, ⟨⟨trivial, trivial⟩, trivial⟩⟩⟩, ⟨trivial, ⟨trivial, trivial⟩⟩⟩⟩
theorem fm46_0g (vf28_0 : Tf28_0) (vf101_0 : Tf101_0) (vf78_0 : Tf78_0) (vf79_0 : Tf79_0)  (α : Type) (k : List RV → Option α) : Fn46_0 (f46_0g vf101_0 vf28_0 vf78_0 vf79_0) α k = pa46_0.unc fun ds => fnM Try.prog (E46_0g vf28_0 vf101_0 vf78_0 vf79_0) sh46 (cm46_0g ) rs46 k ds := by kernel_rfl
theorem fm46_0 : ∀ (α : Type) (k : List RV → Option α), Fn46_0 f46_0 α k = pa46_0.unc fun ds => fnM Try.prog E46_0 sh46 cm46_0 rs46 k ds := fm46_0g f28_0 f101_0 f78_0 f79_0

theorem is46 : FnIs Try.prog 46 nt46 tr46 tl46 cm46_0.erase rs46 := ⟨Try.f46, Try.func46, rfl, by kernel_rfl, by kernel_rfl, by kernel_rfl⟩
theorem io46_0 : InstOk Try.prog 46 nt46 ⟨pa46_0, Fn46_0 f46_0⟩ := inst_ok eo46_0 followsTry is46 ⟨⟨sh46, cm46_0, by kernel_rfl, gm46_0, fm46_0⟩⟩

/-! ### F48 etalon/meter.PsiOf -/
abbrev nt48 : Nat := 39
def sh48 : List (Nat × List Sh) := [(9, [.str, .int .i64, .int .i64, .int .i64, .int .i64, .int .i64, .int .i64, .int .i64, .int .i64, .int .i64]), (19, [.int .i64]), (22, [.int .i64]), (27, [.int .i64]), (30, [.int .i64]), (33, [.bool]), (38, [.int .i64, .int .i64])]
def r48_2 : List AOper := [oO 1 (.box (.tmp 0)), oO 2 (.alloc [(.d (.v (.int .i64 0))), (.d (.v (.int .i64 0)))]), oO 3 (.mv (.const (.int .i64 0)))]
def r48_5 : List AOper := [oO 9 (.load true 10 (.tmp 1)), oO 10 (.call 28 [(.tmp 9)]), oM 4 10]
def r48_7 : List AOper := [oM 11 4, oO 12 (.bin .neq 28 (.tmp 11) (.const (.int .i64 0)))]
def r48_10 : List AOper := [oO 13 (.build [(.d (.v (.int .i64 0))), (.d (.v (.int .i64 0)))] []), oM 14 4, ⟨none, (.store 2 (.tmp 2) (.tmp 13)), none⟩, oM 3 14]
def r48_12 : List AOper := [oO 15 (.build [(.d (.v (.int .i64 0))), (.d (.v (.int .i64 0)))] [(0, 1, (.const (.int .i64 0))), (1, 1, (.const (.int .i64 1024)))]), oO 5 (.alloc [(.d (.v (.int .i64 0))), (.d (.v (.int .i64 0)))]), ⟨none, (.store 2 (.tmp 5) (.tmp 15)), none⟩]
def r48_14 : List AOper := [oO 6 (.alloc [(.d (.v (.bool false)))]), ⟨none, (.store 1 (.tmp 6) (.const (.bool false))), none⟩]
def td48_17 : Option Tidy := (some ⟨[1, 2, 3, 5, 6], true, [], []⟩)
def r48_19 : List AOper := [oM 7 16]
def r48_20 : List AOper := [oO 8 (.alloc [(.d (.v (.int .i64 0))), (.d (.v (.int .i64 0)))]), ⟨none, (.store 2 (.tmp 8) (.tmp 17)), none⟩]
def r48_24 : List AOper := [oO 18 (.faddr 0 (.tmp 8)), oO 19 (.load false 1 (.tmp 18)), oO 20 (.faddr 4 (.tmp 1)), oO 21 (.faddr 1 (.tmp 20)), oO 22 (.load false 1 (.tmp 21)), oO 23 (.bin .geq 3 (.tmp 19) (.tmp 22))]
def r48_26 : List AOper := [oM 24 7, oO 25 (.faddr 0 (.tmp 5)), ⟨none, (.store 1 (.tmp 25) (.tmp 24)), none⟩]
def r48_28 : List AOper := [oO 26 (.faddr 1 (.tmp 8)), oO 27 (.load false 1 (.tmp 26)), oO 28 (.faddr 4 (.tmp 1)), oO 29 (.faddr 0 (.tmp 28)), oO 30 (.load false 1 (.tmp 29)), oO 31 (.bin .leq 3 (.tmp 27) (.tmp 30)), oM 32 31, ⟨(some 33), (.load false 1 (.tmp 6)), (some (32, true))⟩, ⟨(some 34), (.pure (oB (.unOp .not 4 (.tmp 33)) 4)), (some (32, true))⟩, oO 35 (.pick (.tmp 32) (.tmp 34) (.const (.bool false)))]
def r48_30 : List AOper := [oM 36 7, oO 37 (.faddr 1 (.tmp 5)), ⟨none, (.store 1 (.tmp 37) (.tmp 36)), none⟩, ⟨none, (.store 1 (.tmp 6) (.const (.bool true))), none⟩]
def r48_32 : List AOper := [oO 38 (.load true 2 (.tmp 5)), ⟨none, (.store 2 (.tmp 2) (.tmp 38)), none⟩, oO 3 (.mv (.const (.int .i64 0)))]
def tr48 : List (Nat × Tidy) := [(0, ⟨[1, 2, 3], true, [], []⟩), (1, ⟨[1, 2, 3, 4], true, [], []⟩), (2, ⟨[1, 2, 3, 4, 12], true, [], []⟩), (3, ⟨[2, 3], true, [], []⟩), (4, ⟨[1, 2, 3, 5], true, [], []⟩), (5, ⟨[1, 2, 3, 5, 6], true, [], []⟩), (6, ⟨[1, 2, 3, 5, 6, 7, 17], true, [], []⟩), (7, ⟨[1, 2, 3, 5, 6, 7, 8], true, [], []⟩), (8, ⟨[1, 2, 3, 5, 6, 7, 8, 23], true, [], []⟩), (9, ⟨[1, 2, 3, 5, 6, 7, 8], true, [], []⟩), (10, ⟨[1, 2, 3, 5, 6, 7, 35], true, [], []⟩), (11, ⟨[1, 2, 3, 5, 6], true, [], []⟩), (12, ⟨[2, 3], true, [], []⟩)]
def tl48 : List (Nat × Tidy) := [(8, ⟨[1, 2, 3, 5, 6], true, [], []⟩)]
def rs48 : List AResV := [.cell 2 true 2, .tmp 3]
def p48_0_0 : PT St := pS [sl 1 (aV false [(cPtr 1 0)]), sl 2 (aV false [(cPtr 2 0)]), sl 3 (aV false [(cD (dI .i64))]), sl 5 (aV false [(cPtr 5 0)]), sl 6 (aV false [(cPtr 6 0)])] [eBox 1 [(cD dS), (cD (dI .i64)), (cD (dI .i64)), (cD (dI .i64)), (cD (dI .i64)), (cD (dI .i64)), (cD (dI .i64)), (cD (dI .i64)), (cD (dI .i64)), (cD (dI .i64))], eBox 2 [(cD (dI .i64)), (cD (dI .i64))], eBox 5 [(cD (dI .i64)), (cD (dI .i64))], eBox 6 [(cD dB)]]
def u48_0_0 {β : Type} (g : St → β) : Int → ByteArray → Int → Int → Int → Int → Int → Int → Int → Int → Int → Int → Int → Int → Int → Bool → β := p48_0_0.unc g

def pr48_0_0 : PT (List RV) := pRs [pR true [rD (dI .i64), rD (dI .i64)], pR false [rD (dI .i64)]]
def ur48_0_0 {β : Type} (g : List RV → β) : Int → Int → Int → β := pr48_0_0.unc g

def E48_0g (vf28_0 : Tf28_0) (vq102 : Tq102) : EnvK := EnvK.of [⟨28, nt28, [⟨pa28_0, Fn28_0 vf28_0⟩]⟩] (seqE [⟨102, pq102, vq102⟩])
noncomputable def E48_0 : EnvK := E48_0g f28_0 q102
theorem eo48_0 : E48_0.Ok Try.prog := EnvK.of_ok (seqE_ok (l := [⟨102, pq102, q102⟩]) ⟨sqok102, trivial⟩) ⟨⟨io28_0, trivial⟩, trivial⟩

noncomputable def ca48_0_17 : MCode := (.seq (.region r48_19 [] (some ⟨[1, 2, 3, 5, 6, 7, 17], true, [], []⟩)) (.region r48_20 [] (some ⟨[1, 2, 3, 5, 6, 7, 8], true, [], []⟩)))
theorem ga48_0_17 : ca48_0_17.Good Try.prog E48_0 sh48 := ⟨trivial, trivial⟩

noncomputable def c48_0_17g  : MCode := (.block 1 (.seq (.seq (.region r48_24 [] (some ⟨[1, 2, 3, 5, 6, 7, 8, 23], true, [], []⟩)) (.cond (.tmp 23) (.region r48_26 [] (some ⟨[1, 2, 3, 5, 6, 7, 8], true, [], []⟩)) .skip)) (.seq (.region r48_28 [] (some ⟨[1, 2, 3, 5, 6, 7, 35], true, [], []⟩)) (.cond (.tmp 35) (.region r48_30 [] (some ⟨[1, 2, 3, 5, 6], true, [], []⟩)) .skip))))
noncomputable def c48_0_17 : MCode := c48_0_17g 
theorem g48_0_17 : c48_0_17.Good Try.prog E48_0 sh48 := ⟨⟨trivial, ⟨trivial, trivial⟩⟩, ⟨trivial, ⟨trivial, trivial⟩⟩⟩
--CODE 17 0
def S48_0_0g  (α : Type) (x17 : Int) (x18 : Int) (y28 : Int × Int × Int) (x25 : Int) (x26 : Int) (x27 : Bool) (kn : Int → Int → Bool → Option α) (k1 : Int → Int → Bool → Option α) : Option α :=
 cK (decide (x18 ≤ y28.2.1))
 (cK (decide (y28.2.2 ≤ x17))
 (cK (!x27)
 (kn y28.1 y28.1 true)
 (kn y28.1 x26 x27))
 (kn y28.1 x26 x27))
 (cK (decide (y28.2.2 ≤ x17))
 (cK (!x27)
 (kn x25 y28.1 true)
 (kn x25 x26 x27))
 (kn x25 x26 x27))
noncomputable def S48_0_0 (α : Type) (x17 : Int) (x18 : Int) (y28 : Int × Int × Int) (x25 : Int) (x26 : Int) (x27 : Bool) (kn : Int → Int → Bool → Option α) (k1 : Int → Int → Bool → Option α) : Option α := S48_0_0g  α x17 x18 y28 x25 x26 x27 kn k1
noncomputable def V48_0_0 (α : Type) (x17 : Int) (x18 : Int) (k1 : Int → Int → Bool → Option α) : List (Int × Int × Int) → Int → Int → Bool → Option α
 | [], x25, x26, x27 => k1 x25 x26 x27
 | y28 :: ys, x25, x26, x27 => S48_0_0 α x17 x18 y28 x25 x26 x27 (V48_0_0 α x17 x18 k1 ys) k1
abbrev TV48_0_0 : Type 1 := (α : Type) → Int → Int → (Int → Int → Bool → Option α) → List (Int × Int × Int) → Int → Int → Bool → Option α
def F48_0_0 (v : TV48_0_0) (α : Type) (K : Exit → St → Option α) (ys : List (Int × Int × Int)) : Int → ByteArray → Int → Int → Int → Int → Int → Int → Int → Int → Int → Int → Int → Int → Int → Bool → Option α := fun x12 x13 x14 x15 x16 x17 x18 x19 x20 x21 x22 x23 x24 x25 x26 x27 => v α x17 x18 (fun (y1 : Int) (y2 : Int) (y3 : Bool) => u48_0_0 (K .normal) x12 x13 x14 x15 x16 x17 x18 x19 x20 x21 x22 x23 x24 y1 y2 y3) ys x25 x26 x27
theorem r48_0_0g (vf28_0 : Tf28_0) (vq102 : Tq102)  (α : Type) (K : Exit → St → Option α) (Kn : St → Option α) (y28 : Int × Int × Int) (x12 : Int) (x13 : ByteArray) (x14 : Int) (x15 : Int) (x16 : Int) (x17 : Int) (x18 : Int) (x19 : Int) (x20 : Int) (x21 : Int) (x22 : Int) (x23 : Int) (x24 : Int) (x25 : Int) (x26 : Int) (x27 : Bool) : u48_0_0 (fun σ => roundT (runM Try.prog (E48_0g vf28_0 vq102) sh48 ca48_0_17) (runM Try.prog (E48_0g vf28_0 vq102) sh48 c48_0_17) [16, 17] td48_17 Kn K (xIP.ex y28) σ) x12 x13 x14 x15 x16 x17 x18 x19 x20 x21 x22 x23 x24 x25 x26 x27 = S48_0_0g  α x17 x18 y28 x25 x26 x27 (fun x25 x26 x27 => u48_0_0 Kn x12 x13 x14 x15 x16 x17 x18 x19 x20 x21 x22 x23 x24 x25 x26 x27) (fun (y1 : Int) (y2 : Int) (y3 : Bool) => u48_0_0 (K .normal) x12 x13 x14 x15 x16 x17 x18 x19 x20 x21 x22 x23 x24 y1 y2 y3) := by kernel_rfl
theorem r48_0_0 (α : Type) (K : Exit → St → Option α) (Kn : St → Option α) (y28 : Int × Int × Int) (x12 : Int) (x13 : ByteArray) (x14 : Int) (x15 : Int) (x16 : Int) (x17 : Int) (x18 : Int) (x19 : Int) (x20 : Int) (x21 : Int) (x22 : Int) (x23 : Int) (x24 : Int) (x25 : Int) (x26 : Int) (x27 : Bool) : u48_0_0 (fun σ => roundT (runM Try.prog E48_0 sh48 ca48_0_17) (runM Try.prog E48_0 sh48 c48_0_17) [16, 17] td48_17 Kn K (xIP.ex y28) σ) x12 x13 x14 x15 x16 x17 x18 x19 x20 x21 x22 x23 x24 x25 x26 x27 = S48_0_0 α x17 x18 y28 x25 x26 x27 (fun x25 x26 x27 => u48_0_0 Kn x12 x13 x14 x15 x16 x17 x18 x19 x20 x21 x22 x23 x24 x25 x26 x27) (fun (y1 : Int) (y2 : Int) (y3 : Bool) => u48_0_0 (K .normal) x12 x13 x14 x15 x16 x17 x18 x19 x20 x21 x22 x23 x24 y1 y2 y3) := r48_0_0g f28_0 q102 α K Kn y28 x12 x13 x14 x15 x16 x17 x18 x19 x20 x21 x22 x23 x24 x25 x26 x27
theorem t48_0_0 (α : Type) (K : Exit → St → Option α) : ∀ (ys : List (Int × Int × Int)) (x12 : Int) (x13 : ByteArray) (x14 : Int) (x15 : Int) (x16 : Int) (x17 : Int) (x18 : Int) (x19 : Int) (x20 : Int) (x21 : Int) (x22 : Int) (x23 : Int) (x24 : Int) (x25 : Int) (x26 : Int) (x27 : Bool), V48_0_0 α x17 x18 (fun (y1 : Int) (y2 : Int) (y3 : Bool) => u48_0_0 (K .normal) x12 x13 x14 x15 x16 x17 x18 x19 x20 x21 x22 x23 x24 y1 y2 y3) ys x25 x26 x27 = u48_0_0 (roundsK (runM Try.prog E48_0 sh48 ca48_0_17) (runM Try.prog E48_0 sh48 c48_0_17) [16, 17] td48_17 K (ys.map xIP.ex)) x12 x13 x14 x15 x16 x17 x18 x19 x20 x21 x22 x23 x24 x25 x26 x27 := by
 intro ys
 induction ys with
 | nil => intros; rfl
 | cons y28 ys ih => intro x12 x13 x14 x15 x16 x17 x18 x19 x20 x21 x22 x23 x24 x25 x26 x27; exact (congrArg (fun kn => S48_0_0 α x17 x18 y28 x25 x26 x27 kn (fun (y1 : Int) (y2 : Int) (y3 : Bool) => u48_0_0 (K .normal) x12 x13 x14 x15 x16 x17 x18 x19 x20 x21 x22 x23 x24 y1 y2 y3)) (funext fun x25 => funext fun x26 => funext fun x27 => ih x12 x13 x14 x15 x16 x17 x18 x19 x20 x21 x22 x23 x24 x25 x26 x27)).trans (r48_0_0 α K (roundsK (runM Try.prog E48_0 sh48 ca48_0_17) (runM Try.prog E48_0 sh48 c48_0_17) [16, 17] td48_17 K (ys.map xIP.ex)) y28 x12 x13 x14 x15 x16 x17 x18 x19 x20 x21 x22 x23 x24 x25 x26 x27).symm
theorem m48_0_0 : ∀ (α : Type) (K : Exit → St → Option α) (ys : List (Int × Int × Int)), F48_0_0 V48_0_0 α K ys = p48_0_0.unc fun σ => roundsK (runM Try.prog E48_0 sh48 ca48_0_17) (runM Try.prog E48_0 sh48 c48_0_17) [16, 17] td48_17 K (ys.map xIP.ex) σ := fun α K ys => funext fun x12 => funext fun x13 => funext fun x14 => funext fun x15 => funext fun x16 => funext fun x17 => funext fun x18 => funext fun x19 => funext fun x20 => funext fun x21 => funext fun x22 => funext fun x23 => funext fun x24 => funext fun x25 => funext fun x26 => funext fun x27 => t48_0_0 α K ys x12 x13 x14 x15 x16 x17 x18 x19 x20 x21 x22 x23 x24 x25 x26 x27

/-- etalon/meter.PsiOf -/
abbrev Tf48_0 : Type 1 := (α : Type) → ByteArray → Int → Int → Int → Int → Int → Int → Int → Int → Int → (Int → Int → Int → Option α) → Option α
def f48_0g (vV48_0_0 : TV48_0_0) (vf28_0 : Tf28_0) (vq102 : Tq102) (α : Type) (x1 : ByteArray) (x2 : Int) (x3 : Int) (x4 : Int) (x5 : Int) (x6 : Int) (x7 : Int) (x8 : Int) (x9 : Int) (x10 : Int) (k1 : Int → Int → Int → Option α) : Option α :=
 vf28_0 α x1 x2 x3 x4 x5 x6 x7 x8 x9 x10
 (fun (x11 : Int) => cK (x11 != 0)
 (k1 0 0 x11)
 (qK vq102 xIP fun y32 => vV48_0_0 α x5 x6
 (fun (x29 : Int) (x30 : Int) (x31 : Bool) => k1 x29 x30 0) y32 0 1024 false))
noncomputable def f48_0 (α : Type) (x1 : ByteArray) (x2 : Int) (x3 : Int) (x4 : Int) (x5 : Int) (x6 : Int) (x7 : Int) (x8 : Int) (x9 : Int) (x10 : Int) (k1 : Int → Int → Int → Option α) : Option α := f48_0g V48_0_0 f28_0 q102 α x1 x2 x3 x4 x5 x6 x7 x8 x9 x10 k1
def pa48_0 : PT (List DV) := pA [pV true [dS, (dI .i64), (dI .i64), (dI .i64), (dI .i64), (dI .i64), (dI .i64), (dI .i64), (dI .i64), (dI .i64)]]
def Fn48_0 (v : Tf48_0) (α : Type) (k : List RV → Option α) : ByteArray → Int → Int → Int → Int → Int → Int → Int → Int → Int → Option α := fun x1 x2 x3 x4 x5 x6 x7 x8 x9 x10 => v α x1 x2 x3 x4 x5 x6 x7 x8 x9 x10 (fun (y1 : Int) (y2 : Int) (y3 : Int) => ur48_0_0 k y1 y2 y3)
noncomputable def cm48_0g (vV48_0_0 : TV48_0_0) : MCode := (.seq (.region r48_2 [] (some ⟨[1, 2, 3], true, [], []⟩)) (.seq (.seq (.region r48_5 [] (some ⟨[1, 2, 3, 4], true, [], []⟩)) (.seq (.region r48_7 [] (some ⟨[1, 2, 3, 4, 12], true, [], []⟩)) (.cond (.tmp 12) (.seq (.region r48_10 [] (some ⟨[2, 3], true, [], []⟩)) .ret) .skip))) (.seq (.region r48_12 [] (some ⟨[1, 2, 3, 5], true, [], []⟩)) (.seq (.region r48_14 [] (some ⟨[1, 2, 3, 5, 6], true, [], []⟩)) (.seq (.block 0 (.rangeF (.func 102) [16, 17] td48_17 [⟨xIP, p48_0_0, F48_0_0 vV48_0_0⟩] ca48_0_17 c48_0_17)) (.seq (.region r48_32 [] (some ⟨[2, 3], true, [], []⟩)) .ret))))))
noncomputable def cm48_0 : MCode := cm48_0g V48_0_0
theorem gm48_0 : cm48_0.Good Try.prog E48_0 sh48 := ⟨trivial, ⟨⟨trivial, ⟨trivial, ⟨⟨trivial, trivial⟩, trivial⟩⟩⟩, ⟨trivial, ⟨trivial, ⟨⟨⟨ga48_0_17, g48_0_17⟩, m48_0_0, trivial⟩, ⟨trivial, trivial⟩⟩⟩⟩⟩⟩
theorem fm48_0g (vf28_0 : Tf28_0) (vq102 : Tq102) (vV48_0_0 : TV48_0_0) (α : Type) (k : List RV → Option α) : Fn48_0 (f48_0g vV48_0_0 vf28_0 vq102) α k = pa48_0.unc fun ds => fnM Try.prog (E48_0g vf28_0 vq102) sh48 (cm48_0g vV48_0_0) rs48 k ds := by kernel_rfl
theorem fm48_0 : ∀ (α : Type) (k : List RV → Option α), Fn48_0 f48_0 α k = pa48_0.unc fun ds => fnM Try.prog E48_0 sh48 cm48_0 rs48 k ds := fm48_0g f28_0 q102 V48_0_0

theorem is48 : FnIs Try.prog 48 nt48 tr48 tl48 cm48_0.erase rs48 := ⟨Try.f48, Try.func48, rfl, by kernel_rfl, by kernel_rfl, by kernel_rfl⟩
theorem io48_0 : InstOk Try.prog 48 nt48 ⟨pa48_0, Fn48_0 f48_0⟩ := inst_ok eo48_0 followsTry is48 ⟨⟨sh48, cm48_0, by kernel_rfl, gm48_0, fm48_0⟩⟩

/-! ### F52 etalon/etalonref06.PsiOf -/
abbrev nt52 : Nat := 54
def sh52 : List (Nat × List Sh) := [(22, [.int .i64, .int .i64, .int .i64]), (26, [.int .i64]), (29, [.int .i64]), (42, [.int .i64, .int .i64, .int .i64]), (46, [.int .i64]), (49, [.int .i64]), (53, [.int .i64, .int .i64])]
def r52_2 : List AOper := [oO 1 (.box (.tmp 0)), oO 2 (.alloc [(.d (.v (.int .i64 0))), (.d (.v (.int .i64 0)))])]
def r52_4 : List AOper := [oO 12 (.build [(.d (.v (.int .i64 0))), (.d (.v (.int .i64 0)))] [(0, 1, (.const (.int .i64 0))), (1, 1, (.const (.int .i64 1024)))]), oO 3 (.alloc [(.d (.v (.int .i64 0))), (.d (.v (.int .i64 0)))]), ⟨none, (.store 2 (.tmp 3) (.tmp 12)), none⟩]
def r52_7 : List AOper := [oO 4 (.mv (.const (.int .i64 0)))]
def td52_9 : Option Tidy := (some ⟨[1, 2, 3, 4], true, [], []⟩)
def r52_12 : List AOper := [oM 13 4, oO 14 (.bin .leq 3 (.tmp 13) (.const (.int .i64 1024)))]
def r52_17 : List AOper := [oM 18 4, oO 19 (.call 105 [(.tmp 18), (.const (.int .i64 2048))]), oM 17 19, oO 20 (.extract 0 (.tmp 17)), oO 21 (.extract 1 (.tmp 17)), oO 5 (.alloc [(.d (.v (.int .i64 0))), (.d (.v (.int .i64 0))), (.d (.v (.int .i64 0)))]), ⟨none, (.store 3 (.tmp 5) (.tmp 20)), none⟩, oM 6 21]
def r52_19 : List AOper := [oO 22 (.load true 3 (.tmp 5)), oO 23 (.call 106 [(.tmp 22)]), oO 7 (.alloc [(.d (.v (.int .i64 0))), (.d (.v (.int .i64 0))), (.d (.v (.int .i64 0))), (.d (.v (.int .i64 0)))]), ⟨none, (.store 4 (.tmp 7) (.tmp 23)), none⟩]
def r52_21 : List AOper := [oO 24 (.iaddr 2 (some 2) (.tmp 7) (.const (.int .i64 0))), oO 25 (.faddr 0 (.tmp 24)), oO 26 (.load false 1 (.tmp 25)), oO 27 (.faddr 4 (.tmp 1)), oO 28 (.faddr 1 (.tmp 27)), oO 29 (.load false 1 (.tmp 28)), oO 30 (.bin .geq 3 (.tmp 26) (.tmp 29))]
def r52_23 : List AOper := [oM 31 4, oO 32 (.faddr 0 (.tmp 3)), ⟨none, (.store 1 (.tmp 32) (.tmp 31)), none⟩]
def r52_24 : List AOper := [oM 15 4, oO 16 (.bin .add 3 (.tmp 15) (.const (.int .i64 1))), oM 4 16]
def r52_27 : List AOper := [oO 8 (.mv (.const (.int .i64 1024)))]
def td52_29 : Option Tidy := (some ⟨[1, 2, 3, 8], true, [], []⟩)
def r52_32 : List AOper := [oM 33 8, oO 34 (.bin .geq 3 (.tmp 33) (.const (.int .i64 0)))]
def r52_37 : List AOper := [oM 38 8, oO 39 (.call 105 [(.tmp 38), (.const (.int .i64 2048))]), oM 37 39, oO 40 (.extract 0 (.tmp 37)), oO 41 (.extract 1 (.tmp 37)), oO 9 (.alloc [(.d (.v (.int .i64 0))), (.d (.v (.int .i64 0))), (.d (.v (.int .i64 0)))]), ⟨none, (.store 3 (.tmp 9) (.tmp 40)), none⟩, oM 10 41]
def r52_39 : List AOper := [oO 42 (.load true 3 (.tmp 9)), oO 43 (.call 106 [(.tmp 42)]), oO 11 (.alloc [(.d (.v (.int .i64 0))), (.d (.v (.int .i64 0))), (.d (.v (.int .i64 0))), (.d (.v (.int .i64 0)))]), ⟨none, (.store 4 (.tmp 11) (.tmp 43)), none⟩]
def r52_41 : List AOper := [oO 44 (.iaddr 2 (some 2) (.tmp 11) (.const (.int .i64 0))), oO 45 (.faddr 1 (.tmp 44)), oO 46 (.load false 1 (.tmp 45)), oO 47 (.faddr 4 (.tmp 1)), oO 48 (.faddr 0 (.tmp 47)), oO 49 (.load false 1 (.tmp 48)), oO 50 (.bin .leq 3 (.tmp 46) (.tmp 49))]
def r52_43 : List AOper := [oM 51 8, oO 52 (.faddr 1 (.tmp 3)), ⟨none, (.store 1 (.tmp 52) (.tmp 51)), none⟩]
def r52_44 : List AOper := [oM 35 8, oO 36 (.bin .sub 3 (.tmp 35) (.const (.int .i64 1))), oM 8 36]
def r52_46 : List AOper := [oO 53 (.load true 2 (.tmp 3)), ⟨none, (.store 2 (.tmp 2) (.tmp 53)), none⟩]
def tr52 : List (Nat × Tidy) := [(0, ⟨[1, 2], true, [], []⟩), (1, ⟨[1, 2, 3], true, [], []⟩), (2, ⟨[1, 2, 3, 4], true, [], []⟩), (3, ⟨[1, 2, 3, 4, 14], true, [], []⟩), (5, ⟨[1, 2, 3, 4, 5], true, [], []⟩), (6, ⟨[1, 2, 3, 4, 7], true, [], []⟩), (7, ⟨[1, 2, 3, 4, 30], true, [], []⟩), (8, ⟨[1, 2, 3, 4], true, [], []⟩), (4, ⟨[1, 2, 3, 4], true, [], []⟩), (9, ⟨[1, 2, 3, 8], true, [], []⟩), (10, ⟨[1, 2, 3, 8, 34], true, [], []⟩), (12, ⟨[1, 2, 3, 8, 9], true, [], []⟩), (13, ⟨[1, 2, 3, 8, 11], true, [], []⟩), (14, ⟨[1, 2, 3, 8, 50], true, [], []⟩), (15, ⟨[1, 2, 3, 8], true, [], []⟩), (11, ⟨[1, 2, 3, 8], true, [], []⟩), (16, ⟨[2], true, [], []⟩)]
def tl52 : List (Nat × Tidy) := [(3, ⟨[1, 2, 3, 4], true, [], []⟩), (10, ⟨[1, 2, 3, 8], true, [], []⟩)]
def rs52 : List AResV := [.cell 2 true 2]
def p52_0_0 : PT St := pS [sl 1 (aV false [(cPtr 1 0)]), sl 2 (aV false [(cPtr 2 0)]), sl 3 (aV false [(cPtr 3 0)]), sl 4 (aV false [(cD (dI .i64))])] [eBox 1 [(cD dS), (cD (dI .i64)), (cD (dI .i64)), (cD (dI .i64)), (cD (dI .i64)), (cD (dI .i64)), (cD (dI .i64)), (cD (dI .i64)), (cD (dI .i64)), (cD (dI .i64))], eBox 2 [(cD (dI .i64)), (cD (dI .i64))], eBox 3 [(cD (dI .i64)), (cD (dI .i64))]]
def u52_0_0 {β : Type} (g : St → β) : Int → ByteArray → Int → Int → Int → Int → Int → Int → Int → Int → Int → Int → Int → Int → Int → β := p52_0_0.unc g

def p52_0_1 : PT St := pS [sl 1 (aV false [(cPtr 1 0)]), sl 2 (aV false [(cPtr 2 0)]), sl 3 (aV false [(cPtr 3 0)]), sl 4 (aV false [(cD (dI .i64))]), sl 14 (aV false [(cD dB)])] [eBox 1 [(cD dS), (cD (dI .i64)), (cD (dI .i64)), (cD (dI .i64)), (cD (dI .i64)), (cD (dI .i64)), (cD (dI .i64)), (cD (dI .i64)), (cD (dI .i64)), (cD (dI .i64))], eBox 2 [(cD (dI .i64)), (cD (dI .i64))], eBox 3 [(cD (dI .i64)), (cD (dI .i64))]]
def u52_0_1 {β : Type} (g : St → β) : Int → Bool → ByteArray → Int → Int → Int → Int → Int → Int → Int → Int → Int → Int → Int → Int → Int → β := p52_0_1.unc g

def p52_0_2 : PT St := pS [sl 1 (aV false [(cPtr 1 0)]), sl 2 (aV false [(cPtr 2 0)]), sl 3 (aV false [(cPtr 3 0)]), sl 8 (aV false [(cD (dI .i64))])] [eBox 1 [(cD dS), (cD (dI .i64)), (cD (dI .i64)), (cD (dI .i64)), (cD (dI .i64)), (cD (dI .i64)), (cD (dI .i64)), (cD (dI .i64)), (cD (dI .i64)), (cD (dI .i64))], eBox 2 [(cD (dI .i64)), (cD (dI .i64))], eBox 3 [(cD (dI .i64)), (cD (dI .i64))]]
def u52_0_2 {β : Type} (g : St → β) : Int → ByteArray → Int → Int → Int → Int → Int → Int → Int → Int → Int → Int → Int → Int → Int → β := p52_0_2.unc g

def p52_0_3 : PT St := pS [sl 1 (aV false [(cPtr 1 0)]), sl 2 (aV false [(cPtr 2 0)]), sl 3 (aV false [(cPtr 3 0)]), sl 8 (aV false [(cD (dI .i64))]), sl 34 (aV false [(cD dB)])] [eBox 1 [(cD dS), (cD (dI .i64)), (cD (dI .i64)), (cD (dI .i64)), (cD (dI .i64)), (cD (dI .i64)), (cD (dI .i64)), (cD (dI .i64)), (cD (dI .i64)), (cD (dI .i64))], eBox 2 [(cD (dI .i64)), (cD (dI .i64))], eBox 3 [(cD (dI .i64)), (cD (dI .i64))]]
def u52_0_3 {β : Type} (g : St → β) : Int → Bool → ByteArray → Int → Int → Int → Int → Int → Int → Int → Int → Int → Int → Int → Int → Int → β := p52_0_3.unc g

def pr52_0_0 : PT (List RV) := pRs [pR true [rD (dI .i64), rD (dI .i64)]]
def ur52_0_0 {β : Type} (g : List RV → β) : Int → Int → β := pr52_0_0.unc g

def E52_0g (vf105_0 : Tf105_0) (vf106_0 : Tf106_0) : EnvK := EnvK.of [⟨105, nt105, [⟨pa105_0, Fn105_0 vf105_0⟩]⟩, ⟨106, nt106, [⟨pa106_0, Fn106_0 vf106_0⟩]⟩] noSeq
noncomputable def E52_0 : EnvK := E52_0g f105_0 f106_0
theorem eo52_0 : E52_0.Ok Try.prog := EnvK.of_ok noSeq_ok ⟨⟨io105_0, trivial⟩, ⟨io106_0, trivial⟩, trivial⟩

noncomputable def c52_0_29g  : MCode := (.seq (.seq (.region r52_32 [] (some ⟨[1, 2, 3, 8, 34], true, [], []⟩)) (.cond (.tmp 34) .skip (.exit 2))) (.seq (.block 3 (.seq (.region r52_37 [] (some ⟨[1, 2, 3, 8, 9], true, [], []⟩)) (.seq (.region r52_39 [] (some ⟨[1, 2, 3, 8, 11], true, [], []⟩)) (.seq (.region r52_41 [] (some ⟨[1, 2, 3, 8, 50], true, [], []⟩)) (.cond (.tmp 50) (.region r52_43 [] (some ⟨[1, 2, 3, 8], true, [], []⟩)) .skip))))) (.region r52_44 [] (some ⟨[1, 2, 3, 8], true, [], []⟩))))
noncomputable def c52_0_29 : MCode := c52_0_29g 
theorem g52_0_29 : c52_0_29.Good Try.prog E52_0 sh52 := ⟨⟨trivial, ⟨trivial, trivial⟩⟩, ⟨⟨trivial, ⟨trivial, ⟨trivial, ⟨trivial, trivial⟩⟩⟩⟩, trivial⟩⟩
--CODE 29 0
def S52_0_1g (vf105_0 : Tf105_0) (vf106_0 : Tf106_0) (α : Type) (x44 : Int) (x39 : Int) (x53 : Int) (kn : Int → Int → Option α) (k1 : Int → Bool → Int → Option α) : Option α :=
 cK (decide (0 ≤ x39))
 (vf105_0 α x39 2048
 (fun (x55 : Int) (x56 : Int) (x57 : Int) (x58 : Int) => vf106_0 α x55 x56 x57
 (fun (x59 : Int) (x60 : Int) (x61 : Int) (x62 : Int) => cK (decide (x60 ≤ x44))
 (kn (w64 (x39 - 1)) x39)
 (kn (w64 (x39 - 1)) x53))))
 (k1 x39 (decide (0 ≤ x39)) x53)
noncomputable def S52_0_1 (α : Type) (x44 : Int) (x39 : Int) (x53 : Int) (kn : Int → Int → Option α) (k1 : Int → Bool → Int → Option α) : Option α := S52_0_1g f105_0 f106_0 α x44 x39 x53 kn k1
noncomputable def R52_0_1 (α : Type) (x44 : Int) (k1 : Int → Bool → Int → Option α) : Nat → Int → Int → Option α
 | 0, _, _ => none
 | n + 1, x39, x53 => S52_0_1 α x44 x39 x53 (R52_0_1 α x44 k1 n) k1
noncomputable def L52_0_1 (α : Type) (x44 : Int) (k1 : Int → Bool → Int → Option α) (x39 : Int) (x53 : Int) : Option α := R52_0_1 α x44 k1 fuel x39 x53
abbrev TL52_0_1 : Type 1 := (α : Type) → Int → (Int → Bool → Int → Option α) → Int → Int → Option α
def F52_0_1 (v : TL52_0_1) (α : Type) (K : Exit → St → Option α) : Int → ByteArray → Int → Int → Int → Int → Int → Int → Int → Int → Int → Int → Int → Int → Int → Option α := fun x39 x40 x41 x42 x43 x44 x45 x46 x47 x48 x49 x50 x51 x52 x53 => v α x44 (fun (y1 : Int) (y2 : Bool) (y3 : Int) => u52_0_3 (K (.exit 2)) y1 y2 x40 x41 x42 x43 x44 x45 x46 x47 x48 x49 x50 x51 x52 y3) x39 x53
theorem r52_0_1g (vf105_0 : Tf105_0) (vf106_0 : Tf106_0)  (α : Type) (K : Exit → St → Option α) (Kn : St → Option α) (x39 : Int) (x40 : ByteArray) (x41 : Int) (x42 : Int) (x43 : Int) (x44 : Int) (x45 : Int) (x46 : Int) (x47 : Int) (x48 : Int) (x49 : Int) (x50 : Int) (x51 : Int) (x52 : Int) (x53 : Int) : u52_0_2 (fun σ => runM Try.prog (E52_0g vf105_0 vf106_0) sh52 (c52_0_29g ) (thenK (fun σ => tidyK td52_29 σ Kn) K) σ) x39 x40 x41 x42 x43 x44 x45 x46 x47 x48 x49 x50 x51 x52 x53 = S52_0_1g vf105_0 vf106_0 α x44 x39 x53 (fun x39 x53 => u52_0_2 Kn x39 x40 x41 x42 x43 x44 x45 x46 x47 x48 x49 x50 x51 x52 x53) (fun (y1 : Int) (y2 : Bool) (y3 : Int) => u52_0_3 (K (.exit 2)) y1 y2 x40 x41 x42 x43 x44 x45 x46 x47 x48 x49 x50 x51 x52 y3) := by kernel_rfl
theorem r52_0_1 (α : Type) (K : Exit → St → Option α) (Kn : St → Option α) (x39 : Int) (x40 : ByteArray) (x41 : Int) (x42 : Int) (x43 : Int) (x44 : Int) (x45 : Int) (x46 : Int) (x47 : Int) (x48 : Int) (x49 : Int) (x50 : Int) (x51 : Int) (x52 : Int) (x53 : Int) : u52_0_2 (fun σ => runM Try.prog E52_0 sh52 c52_0_29 (thenK (fun σ => tidyK td52_29 σ Kn) K) σ) x39 x40 x41 x42 x43 x44 x45 x46 x47 x48 x49 x50 x51 x52 x53 = S52_0_1 α x44 x39 x53 (fun x39 x53 => u52_0_2 Kn x39 x40 x41 x42 x43 x44 x45 x46 x47 x48 x49 x50 x51 x52 x53) (fun (y1 : Int) (y2 : Bool) (y3 : Int) => u52_0_3 (K (.exit 2)) y1 y2 x40 x41 x42 x43 x44 x45 x46 x47 x48 x49 x50 x51 x52 y3) := r52_0_1g f105_0 f106_0 α K Kn x39 x40 x41 x42 x43 x44 x45 x46 x47 x48 x49 x50 x51 x52 x53
theorem t52_0_1 (α : Type) (K : Exit → St → Option α) : ∀ (n : Nat) (x39 : Int) (x40 : ByteArray) (x41 : Int) (x42 : Int) (x43 : Int) (x44 : Int) (x45 : Int) (x46 : Int) (x47 : Int) (x48 : Int) (x49 : Int) (x50 : Int) (x51 : Int) (x52 : Int) (x53 : Int), R52_0_1 α x44 (fun (y1 : Int) (y2 : Bool) (y3 : Int) => u52_0_3 (K (.exit 2)) y1 y2 x40 x41 x42 x43 x44 x45 x46 x47 x48 x49 x50 x51 x52 y3) n x39 x53 = u52_0_2 (loopT (runM Try.prog E52_0 sh52 c52_0_29) td52_29 K n) x39 x40 x41 x42 x43 x44 x45 x46 x47 x48 x49 x50 x51 x52 x53 := by
 intro n
 induction n with
 | zero => intros; rfl
 | succ n ih => intro x39 x40 x41 x42 x43 x44 x45 x46 x47 x48 x49 x50 x51 x52 x53; exact (congrArg (fun kn => S52_0_1 α x44 x39 x53 kn (fun (y1 : Int) (y2 : Bool) (y3 : Int) => u52_0_3 (K (.exit 2)) y1 y2 x40 x41 x42 x43 x44 x45 x46 x47 x48 x49 x50 x51 x52 y3)) (funext fun x39 => funext fun x53 => ih x39 x40 x41 x42 x43 x44 x45 x46 x47 x48 x49 x50 x51 x52 x53)).trans (r52_0_1 α K (loopT (runM Try.prog E52_0 sh52 c52_0_29) td52_29 K n) x39 x40 x41 x42 x43 x44 x45 x46 x47 x48 x49 x50 x51 x52 x53).symm
theorem m52_0_1 : ∀ (α : Type) (K : Exit → St → Option α), F52_0_1 L52_0_1 α K = p52_0_2.unc fun σ => loopT (runM Try.prog E52_0 sh52 c52_0_29) td52_29 K fuel σ := fun α K => funext fun x39 => funext fun x40 => funext fun x41 => funext fun x42 => funext fun x43 => funext fun x44 => funext fun x45 => funext fun x46 => funext fun x47 => funext fun x48 => funext fun x49 => funext fun x50 => funext fun x51 => funext fun x52 => funext fun x53 => t52_0_1 α K fuel x39 x40 x41 x42 x43 x44 x45 x46 x47 x48 x49 x50 x51 x52 x53

noncomputable def c52_0_9g  : MCode := (.seq (.seq (.region r52_12 [] (some ⟨[1, 2, 3, 4, 14], true, [], []⟩)) (.cond (.tmp 14) .skip (.exit 0))) (.seq (.block 1 (.seq (.region r52_17 [] (some ⟨[1, 2, 3, 4, 5], true, [], []⟩)) (.seq (.region r52_19 [] (some ⟨[1, 2, 3, 4, 7], true, [], []⟩)) (.seq (.region r52_21 [] (some ⟨[1, 2, 3, 4, 30], true, [], []⟩)) (.cond (.tmp 30) (.region r52_23 [] (some ⟨[1, 2, 3, 4], true, [], []⟩)) .skip))))) (.region r52_24 [] (some ⟨[1, 2, 3, 4], true, [], []⟩))))
noncomputable def c52_0_9 : MCode := c52_0_9g 
theorem g52_0_9 : c52_0_9.Good Try.prog E52_0 sh52 := ⟨⟨trivial, ⟨trivial, trivial⟩⟩, ⟨⟨trivial, ⟨trivial, ⟨trivial, ⟨trivial, trivial⟩⟩⟩⟩, trivial⟩⟩
--CODE 9 0
def S52_0_0g (vf105_0 : Tf105_0) (vf106_0 : Tf106_0) (α : Type) (x17 : Int) (x11 : Int) (x24 : Int) (kn : Int → Int → Option α) (k1 : Int → Bool → Int → Option α) : Option α :=
 cK (decide (x11 ≤ 1024))
 (vf105_0 α x11 2048
 (fun (x27 : Int) (x28 : Int) (x29 : Int) (x30 : Int) => vf106_0 α x27 x28 x29
 (fun (x31 : Int) (x32 : Int) (x33 : Int) (x34 : Int) => cK (decide (x17 ≤ x31))
 (kn (w64 (x11 + 1)) x11)
 (kn (w64 (x11 + 1)) x24))))
 (k1 x11 (decide (x11 ≤ 1024)) x24)
noncomputable def S52_0_0 (α : Type) (x17 : Int) (x11 : Int) (x24 : Int) (kn : Int → Int → Option α) (k1 : Int → Bool → Int → Option α) : Option α := S52_0_0g f105_0 f106_0 α x17 x11 x24 kn k1
noncomputable def R52_0_0 (α : Type) (x17 : Int) (k1 : Int → Bool → Int → Option α) : Nat → Int → Int → Option α
 | 0, _, _ => none
 | n + 1, x11, x24 => S52_0_0 α x17 x11 x24 (R52_0_0 α x17 k1 n) k1
noncomputable def L52_0_0 (α : Type) (x17 : Int) (k1 : Int → Bool → Int → Option α) (x11 : Int) (x24 : Int) : Option α := R52_0_0 α x17 k1 fuel x11 x24
abbrev TL52_0_0 : Type 1 := (α : Type) → Int → (Int → Bool → Int → Option α) → Int → Int → Option α
def F52_0_0 (v : TL52_0_0) (α : Type) (K : Exit → St → Option α) : Int → ByteArray → Int → Int → Int → Int → Int → Int → Int → Int → Int → Int → Int → Int → Int → Option α := fun x11 x12 x13 x14 x15 x16 x17 x18 x19 x20 x21 x22 x23 x24 x25 => v α x17 (fun (y1 : Int) (y2 : Bool) (y3 : Int) => u52_0_1 (K (.exit 0)) y1 y2 x12 x13 x14 x15 x16 x17 x18 x19 x20 x21 x22 x23 y3 x25) x11 x24
theorem r52_0_0g (vf105_0 : Tf105_0) (vf106_0 : Tf106_0)  (α : Type) (K : Exit → St → Option α) (Kn : St → Option α) (x11 : Int) (x12 : ByteArray) (x13 : Int) (x14 : Int) (x15 : Int) (x16 : Int) (x17 : Int) (x18 : Int) (x19 : Int) (x20 : Int) (x21 : Int) (x22 : Int) (x23 : Int) (x24 : Int) (x25 : Int) : u52_0_0 (fun σ => runM Try.prog (E52_0g vf105_0 vf106_0) sh52 (c52_0_9g ) (thenK (fun σ => tidyK td52_9 σ Kn) K) σ) x11 x12 x13 x14 x15 x16 x17 x18 x19 x20 x21 x22 x23 x24 x25 = S52_0_0g vf105_0 vf106_0 α x17 x11 x24 (fun x11 x24 => u52_0_0 Kn x11 x12 x13 x14 x15 x16 x17 x18 x19 x20 x21 x22 x23 x24 x25) (fun (y1 : Int) (y2 : Bool) (y3 : Int) => u52_0_1 (K (.exit 0)) y1 y2 x12 x13 x14 x15 x16 x17 x18 x19 x20 x21 x22 x23 y3 x25) := by kernel_rfl
theorem r52_0_0 (α : Type) (K : Exit → St → Option α) (Kn : St → Option α) (x11 : Int) (x12 : ByteArray) (x13 : Int) (x14 : Int) (x15 : Int) (x16 : Int) (x17 : Int) (x18 : Int) (x19 : Int) (x20 : Int) (x21 : Int) (x22 : Int) (x23 : Int) (x24 : Int) (x25 : Int) : u52_0_0 (fun σ => runM Try.prog E52_0 sh52 c52_0_9 (thenK (fun σ => tidyK td52_9 σ Kn) K) σ) x11 x12 x13 x14 x15 x16 x17 x18 x19 x20 x21 x22 x23 x24 x25 = S52_0_0 α x17 x11 x24 (fun x11 x24 => u52_0_0 Kn x11 x12 x13 x14 x15 x16 x17 x18 x19 x20 x21 x22 x23 x24 x25) (fun (y1 : Int) (y2 : Bool) (y3 : Int) => u52_0_1 (K (.exit 0)) y1 y2 x12 x13 x14 x15 x16 x17 x18 x19 x20 x21 x22 x23 y3 x25) := r52_0_0g f105_0 f106_0 α K Kn x11 x12 x13 x14 x15 x16 x17 x18 x19 x20 x21 x22 x23 x24 x25
theorem t52_0_0 (α : Type) (K : Exit → St → Option α) : ∀ (n : Nat) (x11 : Int) (x12 : ByteArray) (x13 : Int) (x14 : Int) (x15 : Int) (x16 : Int) (x17 : Int) (x18 : Int) (x19 : Int) (x20 : Int) (x21 : Int) (x22 : Int) (x23 : Int) (x24 : Int) (x25 : Int), R52_0_0 α x17 (fun (y1 : Int) (y2 : Bool) (y3 : Int) => u52_0_1 (K (.exit 0)) y1 y2 x12 x13 x14 x15 x16 x17 x18 x19 x20 x21 x22 x23 y3 x25) n x11 x24 = u52_0_0 (loopT (runM Try.prog E52_0 sh52 c52_0_9) td52_9 K n) x11 x12 x13 x14 x15 x16 x17 x18 x19 x20 x21 x22 x23 x24 x25 := by
 intro n
 induction n with
 | zero => intros; rfl
 | succ n ih => intro x11 x12 x13 x14 x15 x16 x17 x18 x19 x20 x21 x22 x23 x24 x25; exact (congrArg (fun kn => S52_0_0 α x17 x11 x24 kn (fun (y1 : Int) (y2 : Bool) (y3 : Int) => u52_0_1 (K (.exit 0)) y1 y2 x12 x13 x14 x15 x16 x17 x18 x19 x20 x21 x22 x23 y3 x25)) (funext fun x11 => funext fun x24 => ih x11 x12 x13 x14 x15 x16 x17 x18 x19 x20 x21 x22 x23 x24 x25)).trans (r52_0_0 α K (loopT (runM Try.prog E52_0 sh52 c52_0_9) td52_9 K n) x11 x12 x13 x14 x15 x16 x17 x18 x19 x20 x21 x22 x23 x24 x25).symm
theorem m52_0_0 : ∀ (α : Type) (K : Exit → St → Option α), F52_0_0 L52_0_0 α K = p52_0_0.unc fun σ => loopT (runM Try.prog E52_0 sh52 c52_0_9) td52_9 K fuel σ := fun α K => funext fun x11 => funext fun x12 => funext fun x13 => funext fun x14 => funext fun x15 => funext fun x16 => funext fun x17 => funext fun x18 => funext fun x19 => funext fun x20 => funext fun x21 => funext fun x22 => funext fun x23 => funext fun x24 => funext fun x25 => t52_0_0 α K fuel x11 x12 x13 x14 x15 x16 x17 x18 x19 x20 x21 x22 x23 x24 x25

/-- etalon/etalonref06.PsiOf -/
abbrev Tf52_0 : Type 1 := (α : Type) → ByteArray → Int → Int → Int → Int → Int → Int → Int → Int → Int → (Int → Int → Option α) → Option α
def f52_0g (vL52_0_0 : TL52_0_0) (vL52_0_1 : TL52_0_1) (α : Type) (x1 : ByteArray) (x2 : Int) (x3 : Int) (x4 : Int) (x5 : Int) (x6 : Int) (x7 : Int) (x8 : Int) (x9 : Int) (x10 : Int) (k1 : Int → Int → Option α) : Option α :=
 vL52_0_0 α x6
 (fun (x35 : Int) (x36 : Bool) (x37 : Int) => vL52_0_1 α x5
 (fun (x63 : Int) (x64 : Bool) (x65 : Int) => k1 x37 x65) 1024 1024) 0 0
noncomputable def f52_0 (α : Type) (x1 : ByteArray) (x2 : Int) (x3 : Int) (x4 : Int) (x5 : Int) (x6 : Int) (x7 : Int) (x8 : Int) (x9 : Int) (x10 : Int) (k1 : Int → Int → Option α) : Option α := f52_0g L52_0_0 L52_0_1 α x1 x2 x3 x4 x5 x6 x7 x8 x9 x10 k1
def pa52_0 : PT (List DV) := pA [pV true [dS, (dI .i64), (dI .i64), (dI .i64), (dI .i64), (dI .i64), (dI .i64), (dI .i64), (dI .i64), (dI .i64)]]
def Fn52_0 (v : Tf52_0) (α : Type) (k : List RV → Option α) : ByteArray → Int → Int → Int → Int → Int → Int → Int → Int → Int → Option α := fun x1 x2 x3 x4 x5 x6 x7 x8 x9 x10 => v α x1 x2 x3 x4 x5 x6 x7 x8 x9 x10 (fun (y1 : Int) (y2 : Int) => ur52_0_0 k y1 y2)
noncomputable def cm52_0g (vL52_0_0 : TL52_0_0) (vL52_0_1 : TL52_0_1) : MCode := (.seq (.region r52_2 [] (some ⟨[1, 2], true, [], []⟩)) (.seq (.region r52_4 [] (some ⟨[1, 2, 3], true, [], []⟩)) (.seq (.seq (.region r52_7 [] (some ⟨[1, 2, 3, 4], true, [], []⟩)) (.block 0 (.loop td52_9 [⟨p52_0_0, F52_0_0 vL52_0_0⟩] c52_0_9))) (.seq (.seq (.region r52_27 [] (some ⟨[1, 2, 3, 8], true, [], []⟩)) (.block 2 (.loop td52_29 [⟨p52_0_2, F52_0_1 vL52_0_1⟩] c52_0_29))) (.seq (.region r52_46 [] (some ⟨[2], true, [], []⟩)) .ret)))))
noncomputable def cm52_0 : MCode := cm52_0g L52_0_0 L52_0_1
theorem gm52_0 : cm52_0.Good Try.prog E52_0 sh52 := ⟨trivial, ⟨trivial, ⟨⟨trivial, ⟨g52_0_9, m52_0_0, trivial⟩⟩, ⟨⟨trivial, ⟨g52_0_29, m52_0_1, trivial⟩⟩, ⟨trivial, trivial⟩⟩⟩⟩⟩
theorem fm52_0g (vf105_0 : Tf105_0) (vf106_0 : Tf106_0) (vL52_0_0 : TL52_0_0) (vL52_0_1 : TL52_0_1) (α : Type) (k : List RV → Option α) : Fn52_0 (f52_0g vL52_0_0 vL52_0_1) α k = pa52_0.unc fun ds => fnM Try.prog (E52_0g vf105_0 vf106_0) sh52 (cm52_0g vL52_0_0 vL52_0_1) rs52 k ds := by kernel_rfl
theorem fm52_0 : ∀ (α : Type) (k : List RV → Option α), Fn52_0 f52_0 α k = pa52_0.unc fun ds => fnM Try.prog E52_0 sh52 cm52_0 rs52 k ds := fm52_0g f105_0 f106_0 L52_0_0 L52_0_1

theorem is52 : FnIs Try.prog 52 nt52 tr52 tl52 cm52_0.erase rs52 := ⟨Try.f52, Try.func52, rfl, by kernel_rfl, by kernel_rfl, by kernel_rfl⟩
theorem io52_0 : InstOk Try.prog 52 nt52 ⟨pa52_0, Fn52_0 f52_0⟩ := inst_ok eo52_0 followsTry is52 ⟨⟨sh52, cm52_0, by kernel_rfl, gm52_0, fm52_0⟩⟩


end Go.AM.K
