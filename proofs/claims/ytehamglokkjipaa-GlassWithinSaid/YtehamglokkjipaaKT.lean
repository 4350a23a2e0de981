/- Printed by KGen. -/
import Derived.Test.YtehamglokkjipaaAcX
import Derived.Test.YtehamglokkjipaaKMa
namespace Go.AM.K
open Go.Proofs
set_option maxRecDepth 100000
set_option linter.unusedVariables false
abbrev nt16 : Nat := 15
def sh16 : List (Nat × List Sh) := []
def r16_2 : List AOper := [oO 6 (.mv (.const (.bool false)))]
def r16_4 : List AOper := [oM 7 1, oM 8 0, oO 9 (.bin .leq 3 (.tmp 7) (.tmp 8)), oM 10 9, oG 11 (.mv (.tmp 0)) 10 true, oG 12 (.mv (.tmp 2)) 10 true, oG 13 (.bin .leq 3 (.tmp 11) (.tmp 12)) 10 true, oO 14 (.pick (.tmp 10) (.tmp 13) (.const (.bool false))), oM 6 14]
def tr16 : List (Nat × Tidy) := [tT 0 [0, 1, 2], tT 1 [6]]
def tl16 : List (Nat × Tidy) := []
def rs16 : List AResV := [.tmp 6]
def pr16_0_0 : PT (List RV) := pRs [pR false [rD dB]]
def ur16_0_0 {β : Type} (g : List RV → β) : Bool → β := pr16_0_0.unc g
def E16_0g  : EnvK := EnvK.of [] noSeq
noncomputable def E16_0 : EnvK := E16_0g 
theorem eo16_0 : E16_0.Ok Try.prog := EnvK.of_ok noSeq_ok trivial
abbrev Tf16_0 : Type 1 := (α : Type) → Int → Int → Int → (Bool → Option α) → Option α
def f16_0g  (α : Type) (x1 x2 x3 : Int) (k1 : Bool → Option α) : Option α :=
 cK (decide (x2 ≤ x1))
 (k1 (decide (x1 ≤ x3)))
 (k1 false)
noncomputable def f16_0 (α : Type) (x1 x2 x3 : Int) (k1 : Bool → Option α) : Option α := f16_0g  α x1 x2 x3 k1
def pa16_0 : PT (List DV) := pA [pV false [(dI .i64)], pV false [(dI .i64)], pV false [(dI .i64)]]
def Fn16_0 (v : Tf16_0) (α : Type) (k : List RV → Option α) : Int → Int → Int → Option α := fun x1 x2 x3 => v α x1 x2 x3 (fun (y1 : Bool) => ur16_0_0 k y1)
noncomputable def cm16_0g  : MCode := (.seq (.region r16_2 [] (tO [0, 1, 2])) (.seq (.region r16_4 [] (tO [6])) .ret))
noncomputable def cm16_0 : MCode := cm16_0g 
theorem gm16_0 : cm16_0.Good Try.prog E16_0 sh16 := ⟨trivial, ⟨trivial, trivial⟩⟩
theorem fm16_0g   (α : Type) (k : List RV → Option α) : Fn16_0 (f16_0g ) α k = pa16_0.unc fun ds => fnM Try.prog (E16_0g ) sh16 (cm16_0g ) rs16 k ds := by kernel_rfl
theorem fm16_0 : ∀ (α : Type) (k : List RV → Option α), Fn16_0 f16_0 α k = pa16_0.unc fun ds => fnM Try.prog E16_0 sh16 cm16_0 rs16 k ds := fm16_0g 
theorem is16 : FnIs Try.prog 16 nt16 tr16 tl16 cm16_0.erase rs16 := ⟨Try.f16, Try.func16, rfl, by kernel_rfl, by kernel_rfl, by kernel_rfl⟩
theorem io16_0 : InstOk Try.prog 16 nt16 ⟨pa16_0, Fn16_0 f16_0⟩ := inst_ok eo16_0 followsTry is16 ⟨⟨sh16, cm16_0, by kernel_rfl, gm16_0, fm16_0⟩⟩
abbrev nt129 : Nat := 23
def sh129 : List (Nat × List Sh) := [(12, [.int .i64]), (17, [.int .i64])]
def r129_2 : List AOper := [oO 3 (.box (.tmp 0)), oO 6 (.alloc [(cI 0), (cI 0)])]
def r129_4 : List AOper := [oM 8 1, oM 9 1, oO 10 (.bin .mul 3 (.tmp 8) (.tmp 9)), oM 7 10]
def r129_6 : List AOper := [oO 11 (.faddr 0 (.tmp 3)), oO 12 (.load false 1 (.tmp 11)), oM 13 7, oO 14 (.bin .mul 3 (.tmp 12) (.tmp 13)), oM 15 2, oO 16 (.faddr 1 (.tmp 3)), oO 17 (.load false 1 (.tmp 16)), oO 18 (.bin .mul 3 (.tmp 15) (.tmp 17)), oO 19 (.bin .mul 3 (.tmp 18) (kI 1000000)), oO 20 (.bin .add 3 (.tmp 14) (.tmp 19)), oM 21 7, oO 22 (.build [(cI 0), (cI 0)] [(0, 1, (.tmp 20)), (1, 1, (.tmp 21))]), oD (.store 2 (.tmp 6) (.tmp 22))]
def tr129 : List (Nat × Tidy) := [tT 0 [1, 2, 3, 6], tT 1 [2, 3, 6, 7], tT 2 [6]]
def tl129 : List (Nat × Tidy) := []
def rs129 : List AResV := [.cell 6 true 2]
def pr129_0_0 : PT (List RV) := pRs [pR true [rD (dI .i64), rD (dI .i64)]]
def ur129_0_0 {β : Type} (g : List RV → β) : Int → Int → β := pr129_0_0.unc g
def E129_0g  : EnvK := EnvK.of [] noSeq
noncomputable def E129_0 : EnvK := E129_0g 
theorem eo129_0 : E129_0.Ok Try.prog := EnvK.of_ok noSeq_ok trivial
abbrev Tf129_0 : Type 1 := (α : Type) → Int → Int → Int → Int → (Int → Int → Option α) → Option α
def f129_0g  (α : Type) (x1 x2 x3 x4 : Int) (k1 : Int → Int → Option α) : Option α :=
 k1 (w64 ((w64 (x1 * (w64 (x3 * x3)))) + (w64 ((w64 (x4 * x2)) * 1000000)))) (w64 (x3 * x3))
noncomputable def f129_0 (α : Type) (x1 x2 x3 x4 : Int) (k1 : Int → Int → Option α) : Option α := f129_0g  α x1 x2 x3 x4 k1
def pa129_0 : PT (List DV) := pA [pV true [(dI .i64), (dI .i64)], pV false [(dI .i64)], pV false [(dI .i64)]]
def Fn129_0 (v : Tf129_0) (α : Type) (k : List RV → Option α) : Int → Int → Int → Int → Option α := fun x1 x2 x3 x4 => v α x1 x2 x3 x4 (fun (y1 : Int) (y2 : Int) => ur129_0_0 k y1 y2)
noncomputable def cm129_0g  : MCode := (.seq (.region r129_2 [] (tO [1, 2, 3, 6])) (.seq (.region r129_4 [] (tO [2, 3, 6, 7])) (.seq (.region r129_6 [] (tO [6])) .ret)))
noncomputable def cm129_0 : MCode := cm129_0g 
theorem gm129_0 : cm129_0.Good Try.prog E129_0 sh129 := ⟨trivial, ⟨trivial, ⟨trivial, trivial⟩⟩⟩
theorem fm129_0g   (α : Type) (k : List RV → Option α) : Fn129_0 (f129_0g ) α k = pa129_0.unc fun ds => fnM Try.prog (E129_0g ) sh129 (cm129_0g ) rs129 k ds := by kernel_rfl
theorem fm129_0 : ∀ (α : Type) (k : List RV → Option α), Fn129_0 f129_0 α k = pa129_0.unc fun ds => fnM Try.prog E129_0 sh129 cm129_0 rs129 k ds := fm129_0g 
theorem is129 : FnIs Try.prog 129 nt129 tr129 tl129 cm129_0.erase rs129 := ⟨Try.f129, Try.func129, rfl, by kernel_rfl, by kernel_rfl, by kernel_rfl⟩
theorem io129_0 : InstOk Try.prog 129 nt129 ⟨pa129_0, Fn129_0 f129_0⟩ := inst_ok eo129_0 followsTry is129 ⟨⟨sh129, cm129_0, by kernel_rfl, gm129_0, fm129_0⟩⟩
abbrev nt127 : Nat := 5
def sh127 : List (Nat × List Sh) := []
def r127_2 : List AOper := [oO 2 (.box (.tmp 0)), oO 4 (.mv (.const (.bool false)))]
def r127_4 : List AOper := [oO 4 (.mv (.const (.bool true)))]
def tr127 : List (Nat × Tidy) := [tT 0 [], tT 1 [4]]
def tl127 : List (Nat × Tidy) := []
def rs127 : List AResV := [.tmp 4]
def pr127_0_0 : PT (List RV) := pRs [pR false [rD dB]]
def ur127_0_0 {β : Type} (g : List RV → β) : Bool → β := pr127_0_0.unc g
def E127_0g  : EnvK := EnvK.of [] noSeq
noncomputable def E127_0 : EnvK := E127_0g 
theorem eo127_0 : E127_0.Ok Try.prog := EnvK.of_ok noSeq_ok trivial
abbrev Tf127_0 : Type 1 := (α : Type) → Int → Int → Int → (Option α) → Option α
def f127_0g  (α : Type) (x1 x2 x3 : Int) (k1 : Option α) : Option α :=
 k1
noncomputable def f127_0 (α : Type) (x1 x2 x3 : Int) (k1 : Option α) : Option α := f127_0g  α x1 x2 x3 k1
def pa127_0 : PT (List DV) := pA [pV true [(dI .i64), (dI .i64)], pV false [(dI .i64)]]
def Fn127_0 (v : Tf127_0) (α : Type) (k : List RV → Option α) : Int → Int → Int → Option α := fun x1 x2 x3 => v α x1 x2 x3 (ur127_0_0 k true)
noncomputable def cm127_0g  : MCode := (.seq (.region r127_2 [] (tO [])) (.seq (.region r127_4 [] (tO [4])) .ret))
noncomputable def cm127_0 : MCode := cm127_0g 
theorem gm127_0 : cm127_0.Good Try.prog E127_0 sh127 := ⟨trivial, ⟨trivial, trivial⟩⟩
theorem fm127_0g   (α : Type) (k : List RV → Option α) : Fn127_0 (f127_0g ) α k = pa127_0.unc fun ds => fnM Try.prog (E127_0g ) sh127 (cm127_0g ) rs127 k ds := by kernel_rfl
theorem fm127_0 : ∀ (α : Type) (k : List RV → Option α), Fn127_0 f127_0 α k = pa127_0.unc fun ds => fnM Try.prog E127_0 sh127 cm127_0 rs127 k ds := fm127_0g 
theorem is127 : FnIs Try.prog 127 nt127 tr127 tl127 cm127_0.erase rs127 := ⟨Try.f127, Try.func127, rfl, by kernel_rfl, by kernel_rfl, by kernel_rfl⟩
theorem io127_0 : InstOk Try.prog 127 nt127 ⟨pa127_0, Fn127_0 f127_0⟩ := inst_ok eo127_0 followsTry is127 ⟨⟨sh127, cm127_0, by kernel_rfl, gm127_0, fm127_0⟩⟩
abbrev nt61 : Nat := 18
def sh61 : List (Nat × List Sh) := [(5, [.int .i64]), (7, [.int .i64]), (10, [.int .i64]), (12, [.int .i64])]
def r61_2 : List AOper := [oO 1 (.box (.tmp 0)), oO 2 (.mv (kI 0))]
def r61_4 : List AOper := [oO 4 (.faddr 0 (.tmp 1)), oO 5 (.load false 1 (.tmp 4)), oO 6 (.faddr 1 (.tmp 1)), oO 7 (.load false 1 (.tmp 6)), oO 8 (.bin .quo 3 (.tmp 5) (.tmp 7)), oM 3 8]
def r61_7 : List AOper := [oO 9 (.faddr 0 (.tmp 1)), oO 10 (.load false 1 (.tmp 9)), oO 11 (.faddr 1 (.tmp 1)), oO 12 (.load false 1 (.tmp 11)), oO 13 (.bin .rem 3 (.tmp 10) (.tmp 12)), oO 14 (.bin .lss 3 (.tmp 13) (kI 0))]
def r61_9 : List AOper := [oM 15 3, oO 16 (.bin .sub 3 (.tmp 15) (kI 1)), oM 3 16]
def r61_11 : List AOper := [oM 17 3, oM 2 17]
def tr61 : List (Nat × Tidy) := [tT 0 [1], tT 1 [1, 3], tT 2 [3, 14], tT 3 [3], tT 4 [2]]
def tl61 : List (Nat × Tidy) := []
def rs61 : List AResV := [.tmp 2]
def pr61_0_0 : PT (List RV) := pRs [pR false [rD (dI .i64)]]
def ur61_0_0 {β : Type} (g : List RV → β) : Int → β := pr61_0_0.unc g
def E61_0g  : EnvK := EnvK.of [] noSeq
noncomputable def E61_0 : EnvK := E61_0g 
theorem eo61_0 : E61_0.Ok Try.prog := EnvK.of_ok noSeq_ok trivial
abbrev Tf61_0 : Type 1 := (α : Type) → Int → Int → (Int → Option α) → Option α
def f61_0g  (α : Type) (x1 x2 : Int) (k1 : Int → Option α) : Option α :=
 gK (x2 != 0) (gK (x2 != 0) (cK (decide ((Int.tmod x1 x2) < 0))
 (k1 (w64 ((w64 (Int.tdiv x1 x2)) - 1)))
 (k1 (w64 (Int.tdiv x1 x2)))))
noncomputable def f61_0 (α : Type) (x1 x2 : Int) (k1 : Int → Option α) : Option α := f61_0g  α x1 x2 k1
def pa61_0 : PT (List DV) := pA [pV true [(dI .i64), (dI .i64)]]
def Fn61_0 (v : Tf61_0) (α : Type) (k : List RV → Option α) : Int → Int → Option α := fun x1 x2 => v α x1 x2 (fun (y1 : Int) => ur61_0_0 k y1)
noncomputable def cm61_0g  : MCode := (.seq (.region r61_2 [] (tO [1])) (.seq (.region r61_4 [] (tO [1, 3])) (.seq (.seq (.region r61_7 [] (tO [3, 14])) (.cond (.tmp 14) (.region r61_9 [] (tO [3])) .skip)) (.seq (.region r61_11 [] (tO [2])) .ret))))
noncomputable def cm61_0 : MCode := cm61_0g 
theorem gm61_0 : cm61_0.Good Try.prog E61_0 sh61 := ⟨trivial, ⟨trivial, ⟨⟨trivial, ⟨trivial, trivial⟩⟩, ⟨trivial, trivial⟩⟩⟩⟩
theorem fm61_0g   (α : Type) (k : List RV → Option α) : Fn61_0 (f61_0g ) α k = pa61_0.unc fun ds => fnM Try.prog (E61_0g ) sh61 (cm61_0g ) rs61 k ds := by kernel_rfl
theorem fm61_0 : ∀ (α : Type) (k : List RV → Option α), Fn61_0 f61_0 α k = pa61_0.unc fun ds => fnM Try.prog E61_0 sh61 cm61_0 rs61 k ds := fm61_0g 
theorem is61 : FnIs Try.prog 61 nt61 tr61 tl61 cm61_0.erase rs61 := ⟨Try.f61, Try.func61, rfl, by kernel_rfl, by kernel_rfl, by kernel_rfl⟩
theorem io61_0 : InstOk Try.prog 61 nt61 ⟨pa61_0, Fn61_0 f61_0⟩ := inst_ok eo61_0 followsTry is61 ⟨⟨sh61, cm61_0, by kernel_rfl, gm61_0, fm61_0⟩⟩
abbrev nt124 : Nat := 20
def sh124 : List (Nat × List Sh) := [(7, [.sl]), (9, [.flt .f32]), (10, [.flt .f32]), (14, [.sl]), (16, [.flt .f32]), (17, [.flt .f32])]
def r124_2 : List AOper := [oO 2 (.box (.tmp 0)), oO 4 (.alloc [(cI 0), (cI 0)])]
def r124_4 : List AOper := [oO 5 (.faddr 0 (.tmp 2)), oO 6 (.faddr 3 (.tmp 5)), oO 7 (.load false 1 (.tmp 6)), oM 8 1, oO 9 (.iaddr 1 none (.tmp 7) (.tmp 8)), oO 10 (.load false 1 (.tmp 9)), oO 11 (.pure (oB (.convert 66 3 (.tmp 10)) 3)), oO 12 (.faddr 0 (.tmp 2)), oO 13 (.faddr 4 (.tmp 12)), oO 14 (.load false 1 (.tmp 13)), oM 15 1, oO 16 (.iaddr 1 none (.tmp 14) (.tmp 15)), oO 17 (.load false 1 (.tmp 16)), oO 18 (.pure (oB (.convert 66 3 (.tmp 17)) 3)), oO 19 (.build [(cI 0), (cI 0)] [(0, 1, (.tmp 11)), (1, 1, (.tmp 18))]), oD (.store 2 (.tmp 4) (.tmp 19))]
def tr124 : List (Nat × Tidy) := [tT 0 [1, 2, 4], tT 1 [4]]
def tl124 : List (Nat × Tidy) := []
def rs124 : List AResV := [.cell 4 true 2]
def pr124_0_0 : PT (List RV) := pRs [pR true [rD (dI .i64), rD (dI .i64)]]
def ur124_0_0 {β : Type} (g : List RV → β) : Int → Int → β := pr124_0_0.unc g
def E124_0g  : EnvK := EnvK.of [] noSeq
noncomputable def E124_0 : EnvK := E124_0g 
theorem eo124_0 : E124_0.Ok Try.prog := EnvK.of_ok noSeq_ok trivial
abbrev Tf124_0 : Type 1 := (α : Type) → ByteArray → Int → Rows → Rows → Rows → Int → Int → Int → (Int → Int → Option α) → Option α
def f124_0g  (α : Type) (x1 : ByteArray) (x2 : Int) (x3 x4 x5 : Rows) (x6 x7 x8 : Int) (k1 : Int → Int → Option α) : Option α :=
 rowK x4 x8 [.flt .f32]
 (fun x9 => ivK (f2i .f32 x9 .i64)
 (fun x10 => rowK x5 x8 [.flt .f32]
 (fun x11 => ivK (f2i .f32 x11 .i64)
 (fun x12 => k1 x10 x12))))
noncomputable def f124_0 (α : Type) (x1 : ByteArray) (x2 : Int) (x3 x4 x5 : Rows) (x6 x7 x8 : Int) (k1 : Int → Int → Option α) : Option α := f124_0g  α x1 x2 x3 x4 x5 x6 x7 x8 k1
def pa124_0 : PT (List DV) := pA [pV true [dS, (dI .i64), dL, dL, dL, (dI .i64), (dI .i64)], pV false [(dI .i64)]]
def Fn124_0 (v : Tf124_0) (α : Type) (k : List RV → Option α) : ByteArray → Int → Rows → Rows → Rows → Int → Int → Int → Option α := fun x1 x2 x3 x4 x5 x6 x7 x8 => v α x1 x2 x3 x4 x5 x6 x7 x8 (fun (y1 : Int) (y2 : Int) => ur124_0_0 k y1 y2)
noncomputable def cm124_0g  : MCode := (.seq (.region r124_2 [] (tO [1, 2, 4])) (.seq (.region r124_4 [] (tO [4])) .ret))
noncomputable def cm124_0 : MCode := cm124_0g 
theorem gm124_0 : cm124_0.Good Try.prog E124_0 sh124 := ⟨trivial, ⟨trivial, trivial⟩⟩
theorem fm124_0g   (α : Type) (k : List RV → Option α) : Fn124_0 (f124_0g ) α k = pa124_0.unc fun ds => fnM Try.prog (E124_0g ) sh124 (cm124_0g ) rs124 k ds := by kernel_rfl
theorem fm124_0 : ∀ (α : Type) (k : List RV → Option α), Fn124_0 f124_0 α k = pa124_0.unc fun ds => fnM Try.prog E124_0 sh124 cm124_0 rs124 k ds := fm124_0g 
theorem is124 : FnIs Try.prog 124 nt124 tr124 tl124 cm124_0.erase rs124 := ⟨Try.f124, Try.func124, rfl, by kernel_rfl, by kernel_rfl, by kernel_rfl⟩
theorem io124_0 : InstOk Try.prog 124 nt124 ⟨pa124_0, Fn124_0 f124_0⟩ := inst_ok eo124_0 followsTry is124 ⟨⟨sh124, cm124_0, by kernel_rfl, gm124_0, fm124_0⟩⟩
abbrev nt123 : Nat := 27
def sh123 : List (Nat × List Sh) := [(10, [.sl]), (16, [.sl]), (19, [.int .i64]), (20, [.int .i64])]
def r123_2 : List AOper := [oO 2 (.box (.tmp 0)), oO 4 (.mv (kI 0))]
def r123_4 : List AOper := [oO 5 (.mv (kI 0))]
def td123_7 : Option Tidy := (some ⟨[1, 2, 5], true, [⟨true, 2, 2, 30202, 1⟩, ⟨true, 2, 3, 30203, 1⟩, ⟨true, 2, 4, 30204, 1⟩], []⟩)
def r123_10 : List AOper := [oM 6 5, oO 7 (.bin .add 3 (.tmp 6) (kI 2)), oO 8 (.faddr 0 (.tmp 2)), oO 9 (.faddr 2 (.tmp 8)), oO 10 (.load false 1 (.tmp 9)), oO 11 (.len (.tmp 10)), oO 12 (.bin .lss 3 (.tmp 7) (.tmp 11)), oM 13 12, oG 14 (.faddr 0 (.tmp 2)) 13 true, oG 15 (.faddr 2 (.tmp 14)) 13 true, oG 16 (.load false 1 (.tmp 15)) 13 true, oG 17 (.mv (.tmp 5)) 13 true, oG 18 (.bin .add 3 (.tmp 17) (kI 1)) 13 true, oG 19 (.iaddr 1 none (.tmp 16) (.tmp 18)) 13 true, oG 20 (.load false 1 (.tmp 19)) 13 true, oG 21 (.mv (.tmp 1)) 13 true, oG 22 (.bin .leq 3 (.tmp 20) (.tmp 21)) 13 true, oO 23 (.pick (.tmp 13) (.tmp 22) (.const (.bool false)))]
def r123_13 : List AOper := [oM 24 5, oO 25 (.bin .add 3 (.tmp 24) (kI 1)), oM 5 25]
def r123_15 : List AOper := [oM 26 5, oM 4 26]
def tr123 : List (Nat × Tidy) := [tT 0 [1, 2], tT 1 [1, 2, 5], tT 2 [1, 2, 5, 23], tT 3 [1, 2, 5], tT 4 [4]]
def tl123 : List (Nat × Tidy) := [(2, ⟨[1, 2, 5], true, [⟨true, 2, 2, 30202, 1⟩, ⟨true, 2, 3, 30203, 1⟩, ⟨true, 2, 4, 30204, 1⟩], []⟩)]
def rs123 : List AResV := [.tmp 4]
def p123_0_0 : PT St := pS [sl 1 (aV false [(cD (dI .i64))]), sl 2 (aV false [(cPtr 2 0)]), sl 5 (aV false [(cD (dI .i64))])] [eBox 2 [(cD dS), (cD (dI .i64)), (cD dL), (cD dL), (cD dL), (cD (dI .i64)), (cD (dI .i64))]]
def u123_0_0 {β : Type} (g : St → β) : Int → Int → ByteArray → Int → Rows → Rows → Rows → Int → Int → β := p123_0_0.unc g
def p123_0_1 : PT St := pS [sl 1 (aV false [(cD (dI .i64))]), sl 2 (aV false [(cPtr 2 0)]), sl 5 (aV false [(cD (dI .i64))]), sl 23 (aV false [(cD dB)])] [eBox 2 [(cD dS), (cD (dI .i64)), (cD dL), (cD dL), (cD dL), (cD (dI .i64)), (cD (dI .i64))]]
def u123_0_1 {β : Type} (g : St → β) : Int → Int → Bool → ByteArray → Int → Rows → Rows → Rows → Int → Int → β := p123_0_1.unc g
def pr123_0_0 : PT (List RV) := pRs [pR false [rD (dI .i64)]]
def ur123_0_0 {β : Type} (g : List RV → β) : Int → β := pr123_0_0.unc g
def E123_0g  : EnvK := EnvK.of [] noSeq
noncomputable def E123_0 : EnvK := E123_0g 
theorem eo123_0 : E123_0.Ok Try.prog := EnvK.of_ok noSeq_ok trivial
noncomputable def c123_0_7g  : MCode := (.seq (.seq (.region r123_10 [] (tO [1, 2, 5, 23])) (.cond (.tmp 23) .skip (.exit 0))) (.block 1 (.region r123_13 [] (tO [1, 2, 5]))))
noncomputable def c123_0_7 : MCode := c123_0_7g 
theorem g123_0_7 : c123_0_7.Good Try.prog E123_0 sh123 := ⟨⟨trivial, ⟨trivial, trivial⟩⟩, trivial⟩
--CODE 7 0
def S123_0_0g  (α : Type) (x9 : Int) (x13 : Rows) (x10 : Int) (kn : Int → Option α) (k1 : Int → Bool → Option α) : Option α :=
 cK (decide ((w64 (x10 + 2)) < ((List.length x13 : Nat) : Int)))
 (rowK x13 (w64 (x10 + 1)) [.int .i64]
 (fun x19 => cK (decide (x19 ≤ x9))
 (kn (w64 (x10 + 1)))
 (k1 x10 (decide (x19 ≤ x9)))))
 (k1 x10 false)
noncomputable def S123_0_0 (α : Type) (x9 : Int) (x13 : Rows) (x10 : Int) (kn : Int → Option α) (k1 : Int → Bool → Option α) : Option α := S123_0_0g  α x9 x13 x10 kn k1
noncomputable def R123_0_0 (α : Type) (x9 : Int) (x13 : Rows) (k1 : Int → Bool → Option α) : Nat → Int → Option α
 | 0, _ => none
 | n + 1, x10 => S123_0_0 α x9 x13 x10 (R123_0_0 α x9 x13 k1 n) k1
noncomputable def L123_0_0 (α : Type) (x9 : Int) (x13 : Rows) (k1 : Int → Bool → Option α) (x10 : Int) : Option α := R123_0_0 α x9 x13 k1 fuel x10
abbrev TL123_0_0 : Type 1 := (α : Type) → Int → Rows → (Int → Bool → Option α) → Int → Option α
def F123_0_0 (v : TL123_0_0) (α : Type) (K : Exit → St → Option α) : Int → Int → ByteArray → Int → Rows → Rows → Rows → Int → Int → Option α := fun x9 x10 x11 x12 x13 x14 x15 x16 x17 => v α x9 x13 (fun (y1 : Int) (y2 : Bool) => u123_0_1 (K (.exit 0)) x9 y1 y2 x11 x12 x13 x14 x15 x16 x17) x10
theorem r123_0_0g   (α : Type) (K : Exit → St → Option α) (Kn : St → Option α) (x9 x10 : Int) (x11 : ByteArray) (x12 : Int) (x13 x14 x15 : Rows) (x16 x17 : Int) : u123_0_0 (fun σ => runM Try.prog (E123_0g ) sh123 (c123_0_7g ) (thenK (fun σ => tidyK td123_7 σ Kn) K) σ) x9 x10 x11 x12 x13 x14 x15 x16 x17 = S123_0_0g  α x9 x13 x10 (fun x10 => u123_0_0 Kn x9 x10 x11 x12 x13 x14 x15 x16 x17) (fun (y1 : Int) (y2 : Bool) => u123_0_1 (K (.exit 0)) x9 y1 y2 x11 x12 x13 x14 x15 x16 x17) := by kernel_rfl
theorem r123_0_0 (α : Type) (K : Exit → St → Option α) (Kn : St → Option α) (x9 x10 : Int) (x11 : ByteArray) (x12 : Int) (x13 x14 x15 : Rows) (x16 x17 : Int) : u123_0_0 (fun σ => runM Try.prog E123_0 sh123 c123_0_7 (thenK (fun σ => tidyK td123_7 σ Kn) K) σ) x9 x10 x11 x12 x13 x14 x15 x16 x17 = S123_0_0 α x9 x13 x10 (fun x10 => u123_0_0 Kn x9 x10 x11 x12 x13 x14 x15 x16 x17) (fun (y1 : Int) (y2 : Bool) => u123_0_1 (K (.exit 0)) x9 y1 y2 x11 x12 x13 x14 x15 x16 x17) := r123_0_0g  α K Kn x9 x10 x11 x12 x13 x14 x15 x16 x17
theorem t123_0_0 (α : Type) (K : Exit → St → Option α) : ∀ (n : Nat) (x9 x10 : Int) (x11 : ByteArray) (x12 : Int) (x13 x14 x15 : Rows) (x16 x17 : Int), R123_0_0 α x9 x13 (fun (y1 : Int) (y2 : Bool) => u123_0_1 (K (.exit 0)) x9 y1 y2 x11 x12 x13 x14 x15 x16 x17) n x10 = u123_0_0 (loopT (runM Try.prog E123_0 sh123 c123_0_7) td123_7 K n) x9 x10 x11 x12 x13 x14 x15 x16 x17 := by
 intro n
 induction n with
 | zero => intros; rfl
 | succ n ih => intro x9 x10 x11 x12 x13 x14 x15 x16 x17; exact (congrArg (fun kn => S123_0_0 α x9 x13 x10 kn (fun (y1 : Int) (y2 : Bool) => u123_0_1 (K (.exit 0)) x9 y1 y2 x11 x12 x13 x14 x15 x16 x17)) (funext fun x10 => ih x9 x10 x11 x12 x13 x14 x15 x16 x17)).trans (r123_0_0 α K (loopT (runM Try.prog E123_0 sh123 c123_0_7) td123_7 K n) x9 x10 x11 x12 x13 x14 x15 x16 x17).symm
theorem m123_0_0 : ∀ (α : Type) (K : Exit → St → Option α), F123_0_0 L123_0_0 α K = p123_0_0.unc fun σ => loopT (runM Try.prog E123_0 sh123 c123_0_7) td123_7 K fuel σ := fun α K => funext fun x9 => funext fun x10 => funext fun x11 => funext fun x12 => funext fun x13 => funext fun x14 => funext fun x15 => funext fun x16 => funext fun x17 => t123_0_0 α K fuel x9 x10 x11 x12 x13 x14 x15 x16 x17
abbrev Tf123_0 : Type 1 := (α : Type) → ByteArray → Int → Rows → Rows → Rows → Int → Int → Int → (Int → Option α) → Option α
def f123_0g (vL123_0_0 : TL123_0_0) (α : Type) (x1 : ByteArray) (x2 : Int) (x3 x4 x5 : Rows) (x6 x7 x8 : Int) (k1 : Int → Option α) : Option α :=
 vL123_0_0 α x8 x3
 (fun x20 x21 => k1 x20) 0
noncomputable def f123_0 (α : Type) (x1 : ByteArray) (x2 : Int) (x3 x4 x5 : Rows) (x6 x7 x8 : Int) (k1 : Int → Option α) : Option α := f123_0g L123_0_0 α x1 x2 x3 x4 x5 x6 x7 x8 k1
def pa123_0 : PT (List DV) := pA [pV true [dS, (dI .i64), dL, dL, dL, (dI .i64), (dI .i64)], pV false [(dI .i64)]]
def Fn123_0 (v : Tf123_0) (α : Type) (k : List RV → Option α) : ByteArray → Int → Rows → Rows → Rows → Int → Int → Int → Option α := fun x1 x2 x3 x4 x5 x6 x7 x8 => v α x1 x2 x3 x4 x5 x6 x7 x8 (fun (y1 : Int) => ur123_0_0 k y1)
noncomputable def cm123_0g (vL123_0_0 : TL123_0_0) : MCode := (.seq (.region r123_2 [] (tO [1, 2])) (.seq (.region r123_4 [] (tO [1, 2, 5])) (.seq (.block 0 (.loop td123_7 [⟨p123_0_0, F123_0_0 vL123_0_0⟩] c123_0_7)) (.seq (.region r123_15 [] (tO [4])) .ret))))
noncomputable def cm123_0 : MCode := cm123_0g L123_0_0
theorem gm123_0 : cm123_0.Good Try.prog E123_0 sh123 := ⟨trivial, ⟨trivial, ⟨⟨g123_0_7, m123_0_0, trivial⟩, ⟨trivial, trivial⟩⟩⟩⟩
theorem fm123_0g  (vL123_0_0 : TL123_0_0) (α : Type) (k : List RV → Option α) : Fn123_0 (f123_0g vL123_0_0) α k = pa123_0.unc fun ds => fnM Try.prog (E123_0g ) sh123 (cm123_0g vL123_0_0) rs123 k ds := by kernel_rfl
theorem fm123_0 : ∀ (α : Type) (k : List RV → Option α), Fn123_0 f123_0 α k = pa123_0.unc fun ds => fnM Try.prog E123_0 sh123 cm123_0 rs123 k ds := fm123_0g L123_0_0
theorem is123 : FnIs Try.prog 123 nt123 tr123 tl123 cm123_0.erase rs123 := ⟨Try.f123, Try.func123, rfl, by kernel_rfl, by kernel_rfl, by kernel_rfl⟩
theorem io123_0 : InstOk Try.prog 123 nt123 ⟨pa123_0, Fn123_0 f123_0⟩ := inst_ok eo123_0 followsTry is123 ⟨⟨sh123, cm123_0, by kernel_rfl, gm123_0, fm123_0⟩⟩
abbrev nt78 : Nat := 7
def sh78 : List (Nat × List Sh) := []
def r78_2 : List AOper := [oO 2 (.mv (.const (.float Go.FloatKind.f64 0)))]
def r78_6 : List AOper := [oM 3 0, oO 4 (.pure (oB (.call { callee := .value (.func 86), args := #[(.tmp 3)], argTypes := #[65] }) 65)), oM 2 4]
def r78_8 : List AOper := [oM 5 0, oO 6 (.call 87 [(.tmp 5)]), oM 2 6]
def tr78 : List (Nat × Tidy) := [tT 0 [0], tT 1 [2], tT 2 [2]]
def tl78 : List (Nat × Tidy) := []
def rs78 : List AResV := [.tmp 2]
def pr78_0_0 : PT (List RV) := pRs [pR false [rD (dNan .f64)]]
def ur78_0_0 {β : Type} (g : List RV → β) : β := pr78_0_0.unc g
def pr78_0_1 : PT (List RV) := pRs [pR false [rD (dF .f64)]]
def ur78_0_1 {β : Type} (g : List RV → β) : Nat → β := pr78_0_1.unc g
def E78_0g  : EnvK := EnvK.of [] noSeq
noncomputable def E78_0 : EnvK := E78_0g 
theorem eo78_0 : E78_0.Ok Try.prog := EnvK.of_ok noSeq_ok trivial
abbrev Tf78_0 : Type 1 := (α : Type) → Nat → (Option α) → (Nat → Option α) → Option α
def f78_0g  (α : Type) (x1 : Nat) (k1 : Option α) (k2 : Nat → Option α) : Option α :=
 cK (isNaNb .f64 x1)
 (k1)
 (k2 (truncF x1))
noncomputable def f78_0 (α : Type) (x1 : Nat) (k1 : Option α) (k2 : Nat → Option α) : Option α := f78_0g  α x1 k1 k2
def pa78_0 : PT (List DV) := pA [pV false [(dF .f64)]]
def Fn78_0 (v : Tf78_0) (α : Type) (k : List RV → Option α) : Nat → Option α := fun x1 => v α x1 (ur78_0_0 k ) (fun (y1 : Nat) => ur78_0_1 k y1)
noncomputable def cm78_0g  : MCode := (.seq (.region r78_2 [] (tO [0])) (.seq (.cond (.const (.bool true)) (.seq (.region r78_6 [] (tO [2])) .ret) .skip) (.seq (.region r78_8 [] (tO [2])) .ret)))
noncomputable def cm78_0 : MCode := cm78_0g 
theorem gm78_0 : cm78_0.Good Try.prog E78_0 sh78 := ⟨trivial, ⟨⟨⟨trivial, trivial⟩, trivial⟩, ⟨trivial, trivial⟩⟩⟩
theorem fm78_0g   (α : Type) (k : List RV → Option α) : Fn78_0 (f78_0g ) α k = pa78_0.unc fun ds => fnM Try.prog (E78_0g ) sh78 (cm78_0g ) rs78 k ds := by kernel_rfl
theorem fm78_0 : ∀ (α : Type) (k : List RV → Option α), Fn78_0 f78_0 α k = pa78_0.unc fun ds => fnM Try.prog E78_0 sh78 cm78_0 rs78 k ds := fm78_0g 
theorem is78 : FnIs Try.prog 78 nt78 tr78 tl78 cm78_0.erase rs78 := ⟨Try.f78, Try.func78, rfl, by kernel_rfl, by kernel_rfl, by kernel_rfl⟩
theorem io78_0 : InstOk Try.prog 78 nt78 ⟨pa78_0, Fn78_0 f78_0⟩ := inst_ok eo78_0 followsTry is78 ⟨⟨sh78, cm78_0, by kernel_rfl, gm78_0, fm78_0⟩⟩
abbrev nt85 : Nat := 7
def sh85 : List (Nat × List Sh) := []
def r85_2 : List AOper := [oO 2 (.mv (.const (.float Go.FloatKind.f64 0)))]
def r85_4 : List AOper := [oM 3 0, oO 4 (.pure (oB (.call { callee := .value (.func 75), args := #[(.tmp 3)], argTypes := #[65] }) 96)), oO 5 (.bin .andNot 96 (.tmp 4) (.const (.int .u64 9223372036854775808))), oO 6 (.pure (oB (.call { callee := .value (.func 94), args := #[(.tmp 5)], argTypes := #[96] }) 65)), oM 2 6]
def tr85 : List (Nat × Tidy) := [tT 0 [0], tT 1 [2]]
def tl85 : List (Nat × Tidy) := []
def rs85 : List AResV := [.tmp 2]
def pr85_0_0 : PT (List RV) := pRs [pR false [rD (dF .f64)]]
def ur85_0_0 {β : Type} (g : List RV → β) : Nat → β := pr85_0_0.unc g
def E85_0g  : EnvK := EnvK.of [] noSeq
noncomputable def E85_0 : EnvK := E85_0g 
theorem eo85_0 : E85_0.Ok Try.prog := EnvK.of_ok noSeq_ok trivial
abbrev Tf85_0 : Type 1 := (α : Type) → Nat → (Nat → Option α) → Option α
def f85_0g  (α : Type) (x1 : Nat) (k1 : Nat → Option α) : Option α :=
 k1 (Int.toNat (iAndNot .u64 ((x1 : Nat) : Int) 9223372036854775808))
noncomputable def f85_0 (α : Type) (x1 : Nat) (k1 : Nat → Option α) : Option α := f85_0g  α x1 k1
def pa85_0 : PT (List DV) := pA [pV false [(dF .f64)]]
def Fn85_0 (v : Tf85_0) (α : Type) (k : List RV → Option α) : Nat → Option α := fun x1 => v α x1 (fun (y1 : Nat) => ur85_0_0 k y1)
noncomputable def cm85_0g  : MCode := (.seq (.region r85_2 [] (tO [0])) (.seq (.region r85_4 [] (tO [2])) .ret))
noncomputable def cm85_0 : MCode := cm85_0g 
theorem gm85_0 : cm85_0.Good Try.prog E85_0 sh85 := ⟨trivial, ⟨trivial, trivial⟩⟩
theorem fm85_0g   (α : Type) (k : List RV → Option α) : Fn85_0 (f85_0g ) α k = pa85_0.unc fun ds => fnM Try.prog (E85_0g ) sh85 (cm85_0g ) rs85 k ds := by kernel_rfl
theorem fm85_0 : ∀ (α : Type) (k : List RV → Option α), Fn85_0 f85_0 α k = pa85_0.unc fun ds => fnM Try.prog E85_0 sh85 cm85_0 rs85 k ds := fm85_0g 
theorem is85 : FnIs Try.prog 85 nt85 tr85 tl85 cm85_0.erase rs85 := ⟨Try.f85, Try.func85, rfl, by kernel_rfl, by kernel_rfl, by kernel_rfl⟩
theorem io85_0 : InstOk Try.prog 85 nt85 ⟨pa85_0, Fn85_0 f85_0⟩ := inst_ok eo85_0 followsTry is85 ⟨⟨sh85, cm85_0, by kernel_rfl, gm85_0, fm85_0⟩⟩
abbrev nt76 : Nat := 6
def sh76 : List (Nat × List Sh) := []
def r76_2 : List AOper := [oO 2 (.mv (.const (.bool false)))]
def r76_4 : List AOper := [oM 3 0, oM 4 0, oO 5 (.bin .neq 65 (.tmp 3) (.tmp 4)), oM 2 5]
def tr76 : List (Nat × Tidy) := [tT 0 [0], tT 1 [2]]
def tl76 : List (Nat × Tidy) := []
def rs76 : List AResV := [.tmp 2]
def pr76_0_0 : PT (List RV) := pRs [pR false [rD dB]]
def ur76_0_0 {β : Type} (g : List RV → β) : Bool → β := pr76_0_0.unc g
def E76_0g  : EnvK := EnvK.of [] noSeq
noncomputable def E76_0 : EnvK := E76_0g 
theorem eo76_0 : E76_0.Ok Try.prog := EnvK.of_ok noSeq_ok trivial
abbrev Tf76_0 : Type 1 := (α : Type) → (Option α) → Option α
def f76_0g  (α : Type)  (k1 : Option α) : Option α :=
 k1
noncomputable def f76_0 (α : Type)  (k1 : Option α) : Option α := f76_0g  α  k1
def pa76_0 : PT (List DV) := pA [pV false [(dNan .f64)]]
def Fn76_0 (v : Tf76_0) (α : Type) (k : List RV → Option α) : Option α := v α  (ur76_0_0 k true)
noncomputable def cm76_0g  : MCode := (.seq (.region r76_2 [] (tO [0])) (.seq (.region r76_4 [] (tO [2])) .ret))
noncomputable def cm76_0 : MCode := cm76_0g 
theorem gm76_0 : cm76_0.Good Try.prog E76_0 sh76 := ⟨trivial, ⟨trivial, trivial⟩⟩
theorem fm76_0g   (α : Type) (k : List RV → Option α) : Fn76_0 (f76_0g ) α k = pa76_0.unc fun ds => fnM Try.prog (E76_0g ) sh76 (cm76_0g ) rs76 k ds := by kernel_rfl
theorem fm76_0 : ∀ (α : Type) (k : List RV → Option α), Fn76_0 f76_0 α k = pa76_0.unc fun ds => fnM Try.prog E76_0 sh76 cm76_0 rs76 k ds := fm76_0g 
theorem is76 : FnIs Try.prog 76 nt76 tr76 tl76 cm76_0.erase rs76 := ⟨Try.f76, Try.func76, rfl, by kernel_rfl, by kernel_rfl, by kernel_rfl⟩
theorem io76_0 : InstOk Try.prog 76 nt76 ⟨pa76_0, Fn76_0 f76_0⟩ := inst_ok eo76_0 followsTry is76 ⟨⟨sh76, cm76_0, by kernel_rfl, gm76_0, fm76_0⟩⟩
def pr76_1_0 : PT (List RV) := pRs [pR false [rD dB]]
def ur76_1_0 {β : Type} (g : List RV → β) : Bool → β := pr76_1_0.unc g
def E76_1g  : EnvK := EnvK.of [] noSeq
noncomputable def E76_1 : EnvK := E76_1g 
theorem eo76_1 : E76_1.Ok Try.prog := EnvK.of_ok noSeq_ok trivial
abbrev Tf76_1 : Type 1 := (α : Type) → Nat → (Bool → Option α) → Option α
def f76_1g  (α : Type) (x1 : Nat) (k1 : Bool → Option α) : Option α :=
 k1 ((FloatKind.format .f64).order x1 x1 != some Ordering.eq)
noncomputable def f76_1 (α : Type) (x1 : Nat) (k1 : Bool → Option α) : Option α := f76_1g  α x1 k1
def pa76_1 : PT (List DV) := pA [pV false [(dF .f64)]]
def Fn76_1 (v : Tf76_1) (α : Type) (k : List RV → Option α) : Nat → Option α := fun x1 => v α x1 (fun (y1 : Bool) => ur76_1_0 k y1)
noncomputable def cm76_1g  : MCode := (.seq (.region r76_2 [] (tO [0])) (.seq (.region r76_4 [] (tO [2])) .ret))
noncomputable def cm76_1 : MCode := cm76_1g 
theorem gm76_1 : cm76_1.Good Try.prog E76_1 sh76 := ⟨trivial, ⟨trivial, trivial⟩⟩
theorem fm76_1g   (α : Type) (k : List RV → Option α) : Fn76_1 (f76_1g ) α k = pa76_1.unc fun ds => fnM Try.prog (E76_1g ) sh76 (cm76_1g ) rs76 k ds := by kernel_rfl
theorem fm76_1 : ∀ (α : Type) (k : List RV → Option α), Fn76_1 f76_1 α k = pa76_1.unc fun ds => fnM Try.prog E76_1 sh76 cm76_1 rs76 k ds := fm76_1g 
theorem io76_1 : InstOk Try.prog 76 nt76 ⟨pa76_1, Fn76_1 f76_1⟩ := inst_ok eo76_1 followsTry is76 ⟨⟨sh76, cm76_1, by kernel_rfl, gm76_1, fm76_1⟩⟩
abbrev nt34 : Nat := 15
def sh34 : List (Nat × List Sh) := []
def r34_2 : List AOper := [oO 6 (.mv (.const (.bool false)))]
def r34_4 : List AOper := [oM 7 0, oM 8 1, oO 9 (.bin .geq 3 (.tmp 7) (.tmp 8)), oM 10 9, oG 11 (.mv (.tmp 0)) 10 true, oG 12 (.mv (.tmp 2)) 10 true, oG 13 (.bin .leq 3 (.tmp 11) (.tmp 12)) 10 true, oO 14 (.pick (.tmp 10) (.tmp 13) (.const (.bool false))), oM 6 14]
def tr34 : List (Nat × Tidy) := [tT 0 [0, 1, 2], tT 1 [6]]
def tl34 : List (Nat × Tidy) := []
def rs34 : List AResV := [.tmp 6]
def pr34_0_0 : PT (List RV) := pRs [pR false [rD dB]]
def ur34_0_0 {β : Type} (g : List RV → β) : Bool → β := pr34_0_0.unc g
def E34_0g  : EnvK := EnvK.of [] noSeq
noncomputable def E34_0 : EnvK := E34_0g 
theorem eo34_0 : E34_0.Ok Try.prog := EnvK.of_ok noSeq_ok trivial
abbrev Tf34_0 : Type 1 := (α : Type) → Int → Int → Int → (Bool → Option α) → Option α
def f34_0g  (α : Type) (x1 x2 x3 : Int) (k1 : Bool → Option α) : Option α :=
 cK (decide (x2 ≤ x1))
 (k1 (decide (x1 ≤ x3)))
 (k1 false)
noncomputable def f34_0 (α : Type) (x1 x2 x3 : Int) (k1 : Bool → Option α) : Option α := f34_0g  α x1 x2 x3 k1
def pa34_0 : PT (List DV) := pA [pV false [(dI .i64)], pV false [(dI .i64)], pV false [(dI .i64)]]
def Fn34_0 (v : Tf34_0) (α : Type) (k : List RV → Option α) : Int → Int → Int → Option α := fun x1 x2 x3 => v α x1 x2 x3 (fun (y1 : Bool) => ur34_0_0 k y1)
noncomputable def cm34_0g  : MCode := (.seq (.region r34_2 [] (tO [0, 1, 2])) (.seq (.region r34_4 [] (tO [6])) .ret))
noncomputable def cm34_0 : MCode := cm34_0g 
theorem gm34_0 : cm34_0.Good Try.prog E34_0 sh34 := ⟨trivial, ⟨trivial, trivial⟩⟩
theorem fm34_0g   (α : Type) (k : List RV → Option α) : Fn34_0 (f34_0g ) α k = pa34_0.unc fun ds => fnM Try.prog (E34_0g ) sh34 (cm34_0g ) rs34 k ds := by kernel_rfl
theorem fm34_0 : ∀ (α : Type) (k : List RV → Option α), Fn34_0 f34_0 α k = pa34_0.unc fun ds => fnM Try.prog E34_0 sh34 cm34_0 rs34 k ds := fm34_0g 
theorem is34 : FnIs Try.prog 34 nt34 tr34 tl34 cm34_0.erase rs34 := ⟨Try.f34, Try.func34, rfl, by kernel_rfl, by kernel_rfl, by kernel_rfl⟩
theorem io34_0 : InstOk Try.prog 34 nt34 ⟨pa34_0, Fn34_0 f34_0⟩ := inst_ok eo34_0 followsTry is34 ⟨⟨sh34, cm34_0, by kernel_rfl, gm34_0, fm34_0⟩⟩
abbrev nt25 : Nat := 54
def sh25 : List (Nat × List Sh) := [(12, [.int .u8]), (13, [.int .u8])]
def r25_2 : List AOper := [oO 2 (.mv (.const (.bool false)))]
def r25_5 : List AOper := [oM 6 0, oO 7 (.bytes (.tmp 6)), oO 8 (.len (.tmp 7)), oO 9 (.mv (kI 0))]
def td25_7 : Option Tidy := (some ⟨[0, 7, 8, 9], true, [⟨false, 7, 0, 20007, 1⟩], []⟩)
def r25_9 : List AOper := [oO 10 (.bin .lss 3 (.tmp 9) (.tmp 8))]
def r25_15 : List AOper := [oM 11 9, oO 12 (.iaddr 1 none (.tmp 7) (.tmp 9)), oO 13 (.load false 1 (.tmp 12)), oM 3 11, oM 4 13]
def r25_17 : List AOper := [oM 14 4, oO 15 (.bin .geq 5 (.tmp 14) (.const (.int .u8 97))), oM 16 15, oG 17 (.mv (.tmp 4)) 16 true, oG 18 (.bin .leq 5 (.tmp 17) (.const (.int .u8 122))) 16 true, oO 19 (.pick (.tmp 16) (.tmp 18) (.const (.bool false))), oM 20 19, oG 21 (.mv (.tmp 4)) 20 false, oG 22 (.bin .geq 5 (.tmp 21) (.const (.int .u8 65))) 20 false, oG 23 (.mv (.tmp 22)) 20 false, oG 24 (.mv (.tmp 4)) 23 true, oG 25 (.bin .leq 5 (.tmp 24) (.const (.int .u8 90))) 23 true, oG 26 (.pick (.tmp 23) (.tmp 25) (.const (.bool false))) 20 false, oO 27 (.pick (.tmp 20) (.const (.bool true)) (.tmp 26)), oM 5 27]
def r25_19 : List AOper := [oM 28 5, oO 29 (.pure (oB (.unOp .not 4 (.tmp 28)) 4)), oM 30 29, oG 31 (.mv (.tmp 3)) 30 true, oG 32 (.bin .eql 3 (.tmp 31) (kI 0)) 30 true, oG 33 (.mv (.tmp 32)) 30 true, oG 34 (.mv (.tmp 4)) 33 false, oG 35 (.bin .neq 5 (.tmp 34) (.const (.int .u8 45))) 33 false, oG 36 (.mv (.tmp 35)) 33 false, oG 37 (.mv (.tmp 4)) 36 true, oG 38 (.bin .lss 5 (.tmp 37) (.const (.int .u8 48))) 36 true, oG 39 (.mv (.tmp 38)) 36 true, oG 40 (.mv (.tmp 4)) 39 false, oG 41 (.bin .gtr 5 (.tmp 40) (.const (.int .u8 57))) 39 false, oG 42 (.pick (.tmp 39) (.const (.bool true)) (.tmp 41)) 36 true, oG 43 (.pick (.tmp 36) (.tmp 42) (.const (.bool false))) 33 false, oG 44 (.pick (.tmp 33) (.const (.bool true)) (.tmp 43)) 30 true, oO 45 (.pick (.tmp 30) (.tmp 44) (.const (.bool false)))]
def r25_22 : List AOper := [oO 2 (.mv (.const (.bool false)))]
def r25_23 : List AOper := [oO 46 (.bin .add 3 (.tmp 9) (kI 1)), oM 9 46]
def r25_25 : List AOper := [oM 47 0, ⟨(some 48), (.bin .neq 9 (.tmp 47) (.const (.string ⟨#[]⟩))), none⟩, oM 49 48, oG 50 (.mv (.tmp 0)) 49 true, oG 51 (.pure (oB (.call { callee := .builtin .len, args := #[(.tmp 50)], argTypes := #[9] }) 3)) 49 true, oG 52 (.bin .leq 3 (.tmp 51) (kI 12)) 49 true, oO 53 (.pick (.tmp 49) (.tmp 52) (.const (.bool false))), oM 2 53]
def tr25 : List (Nat × Tidy) := [tT 0 [0], tT 1 [0, 7, 8, 9], tT 2 [0, 7, 8, 9, 10], tT 3 [0, 3, 4, 7, 8, 9], tT 4 [0, 3, 4, 5, 7, 8, 9], tT 5 [0, 7, 8, 9, 45], tT 6 [2], tT 7 [0, 7, 8, 9], tT 8 [2]]
def tl25 : List (Nat × Tidy) := [(2, ⟨[0, 7, 8, 9], true, [⟨false, 7, 0, 20007, 1⟩], []⟩)]
def rs25 : List AResV := [.tmp 2]
def p25_0_0 : PT St := pS [sl 0 (aV false [(cD dS)]), sl 3 (aV false [(cD (dI .i64))]), sl 4 (aV false [(cD (dI .u8))]), sl 7 (aV false [(cRef 20007)]), sl 8 (aV false [(cD (dI .i64))]), sl 9 (aV false [(cD (dI .i64))])] [eOwn 20007 1]
def u25_0_0 {β : Type} (g : St → β) : ByteArray → Int → Int → Int → Int → Rows → β := p25_0_0.unc g
def p25_0_1 : PT St := pS [sl 0 (aV false [(cD dS)]), sl 3 (aV false [(cD (dI .i64))]), sl 4 (aV false [(cD (dI .u8))]), sl 5 (aV false [(cD dB)]), sl 7 (aV false [(cRef 20007)]), sl 8 (aV false [(cD (dI .i64))]), sl 9 (aV false [(cD (dI .i64))])] [eOwn 20007 1]
def u25_0_1 {β : Type} (g : St → β) : ByteArray → Int → Int → Bool → Int → Int → Rows → β := p25_0_1.unc g
def p25_0_2 : PT St := pS [sl 0 (aV false [(cD dS)]), sl 7 (aV false [(cRef 20007)]), sl 8 (aV false [(cD (dI .i64))]), sl 9 (aV false [(cD (dI .i64))]), sl 45 (aV false [(cD dB)])] [eOwn 20007 1]
def u25_0_2 {β : Type} (g : St → β) : ByteArray → Int → Int → Bool → Rows → β := p25_0_2.unc g
def p25_0_3 : PT St := pS [sl 0 (aV false [(cD dS)]), sl 7 (aV false [(cRef 20007)]), sl 8 (aV false [(cD (dI .i64))]), sl 9 (aV false [(cD (dI .i64))])] [eOwn 20007 1]
def u25_0_3 {β : Type} (g : St → β) : ByteArray → Int → Int → Rows → β := p25_0_3.unc g
def p25_0_4 : PT St := pS [sl 2 (aV false [(cD dB)])] []
def u25_0_4 {β : Type} (g : St → β) : Bool → β := p25_0_4.unc g
def p25_0_5 : PT St := pS [sl 0 (aV false [(cD dS)]), sl 7 (aV false [(cRef 20007)]), sl 8 (aV false [(cD (dI .i64))]), sl 9 (aV false [(cD (dI .i64))]), sl 10 (aV false [(cD dB)])] [eOwn 20007 1]
def u25_0_5 {β : Type} (g : St → β) : ByteArray → Int → Int → Bool → Rows → β := p25_0_5.unc g
def pr25_0_0 : PT (List RV) := pRs [pR false [rD dB]]
def ur25_0_0 {β : Type} (g : List RV → β) : Bool → β := pr25_0_0.unc g
def E25_0g  : EnvK := EnvK.of [] noSeq
noncomputable def E25_0 : EnvK := E25_0g 
theorem eo25_0 : E25_0.Ok Try.prog := EnvK.of_ok noSeq_ok trivial
noncomputable def c25_0_18g  : MCode := (.region r25_19 [] (tO [0, 7, 8, 9, 45]))
noncomputable def c25_0_18 : MCode := c25_0_18g 
theorem g25_0_18 : c25_0_18.Good Try.prog E25_0 sh25 := trivial
--CODE 18 0
abbrev TJ25_0_1 : Type 1 := (α : Type) → Int → Int → Bool → (Bool → Option α) → Option α
def J25_0_1g  (α : Type) (x18 x19 : Int) (x20 : Bool) (k1 : Bool → Option α) : Option α :=
 cK (!x20)
 (cK (x18 == 0)
 (k1 true)
 (cK (x19 != 45)
 (cK (decide (x19 < 48))
 (k1 true)
 (k1 (decide (57 < x19))))
 (k1 false)))
 (k1 false)
noncomputable def J25_0_1 (α : Type) (x18 x19 : Int) (x20 : Bool) (k1 : Bool → Option α) : Option α := J25_0_1g  α x18 x19 x20 k1
def F25_0_1 (v : TJ25_0_1) (α : Type) (K : Exit → St → Option α) : ByteArray → Int → Int → Bool → Int → Int → Rows → Option α := fun x17 x18 x19 x20 x21 x22 x23 => v α x18 x19 x20 (fun (y1 : Bool) => u25_0_2 (K .normal) x17 x21 x22 y1 x23) 
theorem m25_0_1g   (α : Type) (K : Exit → St → Option α) : F25_0_1 (J25_0_1g ) α K = p25_0_1.unc fun σ => runM Try.prog (E25_0g ) sh25 (c25_0_18g ) K σ := by kernel_rfl
theorem m25_0_1 : ∀ (α : Type) (K : Exit → St → Option α), F25_0_1 J25_0_1 α K = p25_0_1.unc fun σ => runM Try.prog E25_0 sh25 c25_0_18 K σ := m25_0_1g 
noncomputable def c25_0_16g  : MCode := (.region r25_17 [] (tO [0, 3, 4, 5, 7, 8, 9]))
noncomputable def c25_0_16 : MCode := c25_0_16g 
theorem g25_0_16 : c25_0_16.Good Try.prog E25_0 sh25 := trivial
--CODE 16 0
abbrev TJ25_0_0 : Type 1 := (α : Type) → Int → (Bool → Option α) → Option α
def J25_0_0g  (α : Type) (x10 : Int) (k1 : Bool → Option α) : Option α :=
 cK (decide (97 ≤ x10))
 (cK (decide (x10 ≤ 122))
 (k1 true)
 (cK (decide (65 ≤ x10))
 (k1 (decide (x10 ≤ 90)))
 (k1 false)))
 (cK (decide (65 ≤ x10))
 (k1 (decide (x10 ≤ 90)))
 (k1 false))
noncomputable def J25_0_0 (α : Type) (x10 : Int) (k1 : Bool → Option α) : Option α := J25_0_0g  α x10 k1
def F25_0_0 (v : TJ25_0_0) (α : Type) (K : Exit → St → Option α) : ByteArray → Int → Int → Int → Int → Rows → Option α := fun x8 x9 x10 x11 x12 x13 => v α x10 (fun (y1 : Bool) => u25_0_1 (K .normal) x8 x9 x10 y1 x11 x12 x13) 
theorem m25_0_0g   (α : Type) (K : Exit → St → Option α) : F25_0_0 (J25_0_0g ) α K = p25_0_0.unc fun σ => runM Try.prog (E25_0g ) sh25 (c25_0_16g ) K σ := by kernel_rfl
theorem m25_0_0 : ∀ (α : Type) (K : Exit → St → Option α), F25_0_0 J25_0_0 α K = p25_0_0.unc fun σ => runM Try.prog E25_0 sh25 c25_0_16 K σ := m25_0_0g 
noncomputable def c25_0_7g (vJ25_0_0 : TJ25_0_0) (vJ25_0_1 : TJ25_0_1) : MCode := (.seq (.region r25_9 [] (tO [0, 7, 8, 9, 10])) (.seq (.cond (.tmp 10) .skip (.exit 0)) (.seq (.block 1 (.seq (.region r25_15 [] (tO [0, 3, 4, 7, 8, 9])) (.seq (.mark [⟨p25_0_0, F25_0_0 vJ25_0_0⟩] c25_0_16) (.seq (.mark [⟨p25_0_1, F25_0_1 vJ25_0_1⟩] c25_0_18) (.cond (.tmp 45) (.seq (.region r25_22 [] (tO [2])) .ret) .skip))))) (.region r25_23 [] (tO [0, 7, 8, 9])))))
noncomputable def c25_0_7 : MCode := c25_0_7g J25_0_0 J25_0_1
theorem g25_0_7 : c25_0_7.Good Try.prog E25_0 sh25 := ⟨trivial, ⟨⟨trivial, trivial⟩, ⟨⟨trivial, ⟨⟨g25_0_16, m25_0_0, trivial⟩, ⟨⟨g25_0_18, m25_0_1, trivial⟩, ⟨⟨trivial, trivial⟩, trivial⟩⟩⟩⟩, trivial⟩⟩⟩
--CODE 7 0
def S25_0_2g (vJ25_0_0 : TJ25_0_0) (vJ25_0_1 : TJ25_0_1) (α : Type) (x3 : Int) (x5 : Rows) (x4 : Int) (kn : Int → Option α) (k1 : Option α) (k2 : Int → Bool → Option α) : Option α :=
 cK (decide (x4 < x3))
 (ixK x5 x4 1
 (ldK x5 (Int.toNat x4) 0 [.int .u8]
 (fun x7 => vJ25_0_0 α x7
 (fun x15 => vJ25_0_1 α x4 x7 x15
 (fun x25 => cK x25
 (k1)
 (kn (w64 (x4 + 1))))))))
 (k2 x4 (decide (x4 < x3)))
noncomputable def S25_0_2 (α : Type) (x3 : Int) (x5 : Rows) (x4 : Int) (kn : Int → Option α) (k1 : Option α) (k2 : Int → Bool → Option α) : Option α := S25_0_2g J25_0_0 J25_0_1 α x3 x5 x4 kn k1 k2
noncomputable def R25_0_2 (α : Type) (x3 : Int) (x5 : Rows) (k1 : Option α) (k2 : Int → Bool → Option α) : Nat → Int → Option α
 | 0, _ => none
 | n + 1, x4 => S25_0_2 α x3 x5 x4 (R25_0_2 α x3 x5 k1 k2 n) k1 k2
noncomputable def L25_0_2 (α : Type) (x3 : Int) (x5 : Rows) (k1 : Option α) (k2 : Int → Bool → Option α) (x4 : Int) : Option α := R25_0_2 α x3 x5 k1 k2 fuel x4
abbrev TL25_0_2 : Type 1 := (α : Type) → Int → Rows → (Option α) → (Int → Bool → Option α) → Int → Option α
def F25_0_2 (v : TL25_0_2) (α : Type) (K : Exit → St → Option α) : ByteArray → Int → Int → Rows → Option α := fun x2 x3 x4 x5 => v α x3 x5 (u25_0_4 (K .ret) false) (fun (y1 : Int) (y2 : Bool) => u25_0_5 (K (.exit 0)) x2 x3 y1 y2 x5) x4
theorem r25_0_2g  (vJ25_0_0 : TJ25_0_0) (vJ25_0_1 : TJ25_0_1) (α : Type) (K : Exit → St → Option α) (Kn : St → Option α) (x2 : ByteArray) (x3 x4 : Int) (x5 : Rows) : u25_0_3 (fun σ => runM Try.prog (E25_0g ) sh25 (c25_0_7g vJ25_0_0 vJ25_0_1) (thenK (fun σ => tidyK td25_7 σ Kn) K) σ) x2 x3 x4 x5 = S25_0_2g vJ25_0_0 vJ25_0_1 α x3 x5 x4 (fun x4 => u25_0_3 Kn x2 x3 x4 x5) (u25_0_4 (K .ret) false) (fun (y1 : Int) (y2 : Bool) => u25_0_5 (K (.exit 0)) x2 x3 y1 y2 x5) := by kernel_rfl
theorem r25_0_2 (α : Type) (K : Exit → St → Option α) (Kn : St → Option α) (x2 : ByteArray) (x3 x4 : Int) (x5 : Rows) : u25_0_3 (fun σ => runM Try.prog E25_0 sh25 c25_0_7 (thenK (fun σ => tidyK td25_7 σ Kn) K) σ) x2 x3 x4 x5 = S25_0_2 α x3 x5 x4 (fun x4 => u25_0_3 Kn x2 x3 x4 x5) (u25_0_4 (K .ret) false) (fun (y1 : Int) (y2 : Bool) => u25_0_5 (K (.exit 0)) x2 x3 y1 y2 x5) := r25_0_2g J25_0_0 J25_0_1 α K Kn x2 x3 x4 x5
theorem t25_0_2 (α : Type) (K : Exit → St → Option α) : ∀ (n : Nat) (x2 : ByteArray) (x3 x4 : Int) (x5 : Rows), R25_0_2 α x3 x5 (u25_0_4 (K .ret) false) (fun (y1 : Int) (y2 : Bool) => u25_0_5 (K (.exit 0)) x2 x3 y1 y2 x5) n x4 = u25_0_3 (loopT (runM Try.prog E25_0 sh25 c25_0_7) td25_7 K n) x2 x3 x4 x5 := by
 intro n
 induction n with
 | zero => intros; rfl
 | succ n ih => intro x2 x3 x4 x5; exact (congrArg (fun kn => S25_0_2 α x3 x5 x4 kn (u25_0_4 (K .ret) false) (fun (y1 : Int) (y2 : Bool) => u25_0_5 (K (.exit 0)) x2 x3 y1 y2 x5)) (funext fun x4 => ih x2 x3 x4 x5)).trans (r25_0_2 α K (loopT (runM Try.prog E25_0 sh25 c25_0_7) td25_7 K n) x2 x3 x4 x5).symm
theorem m25_0_2 : ∀ (α : Type) (K : Exit → St → Option α), F25_0_2 L25_0_2 α K = p25_0_3.unc fun σ => loopT (runM Try.prog E25_0 sh25 c25_0_7) td25_7 K fuel σ := fun α K => funext fun x2 => funext fun x3 => funext fun x4 => funext fun x5 => t25_0_2 α K fuel x2 x3 x4 x5
abbrev Tf25_0 : Type 1 := (α : Type) → ByteArray → (Bool → Option α) → Option α
def f25_0g (vL25_0_2 : TL25_0_2) (α : Type) (x1 : ByteArray) (k1 : Bool → Option α) : Option α :=
 gK (decide (ByteArray.size x1 ≤ 9223372036854775807)) (vL25_0_2 α ((List.length (bytesR x1) : Nat) : Int) (bytesR x1)
 (k1 false)
 (fun x27 x28 => cK (!(x1.toList == (⟨#[]⟩ : ByteArray).toList))
 (k1 (decide (((ByteArray.size x1 : Nat) : Int) ≤ 12)))
 (k1 false)) 0)
noncomputable def f25_0 (α : Type) (x1 : ByteArray) (k1 : Bool → Option α) : Option α := f25_0g L25_0_2 α x1 k1
def pa25_0 : PT (List DV) := pA [pV false [dS]]
def Fn25_0 (v : Tf25_0) (α : Type) (k : List RV → Option α) : ByteArray → Option α := fun x1 => v α x1 (fun (y1 : Bool) => ur25_0_0 k y1)
noncomputable def cm25_0g (vL25_0_2 : TL25_0_2) : MCode := (.seq (.region r25_2 [] (tO [0])) (.seq (.seq (.region r25_5 [] (tO [0, 7, 8, 9])) (.block 0 (.loop td25_7 [⟨p25_0_3, F25_0_2 vL25_0_2⟩] c25_0_7))) (.seq (.region r25_25 [] (tO [2])) .ret)))
noncomputable def cm25_0 : MCode := cm25_0g L25_0_2
theorem gm25_0 : cm25_0.Good Try.prog E25_0 sh25 := ⟨trivial, ⟨⟨trivial, ⟨g25_0_7, m25_0_2, trivial⟩⟩, ⟨trivial, trivial⟩⟩⟩
theorem fm25_0g  (vL25_0_2 : TL25_0_2) (α : Type) (k : List RV → Option α) : Fn25_0 (f25_0g vL25_0_2) α k = pa25_0.unc fun ds => fnM Try.prog (E25_0g ) sh25 (cm25_0g vL25_0_2) rs25 k ds := by kernel_rfl
theorem fm25_0 : ∀ (α : Type) (k : List RV → Option α), Fn25_0 f25_0 α k = pa25_0.unc fun ds => fnM Try.prog E25_0 sh25 cm25_0 rs25 k ds := fm25_0g L25_0_2
theorem is25 : FnIs Try.prog 25 nt25 tr25 tl25 cm25_0.erase rs25 := ⟨Try.f25, Try.func25, rfl, by kernel_rfl, by kernel_rfl, by kernel_rfl⟩
theorem io25_0 : InstOk Try.prog 25 nt25 ⟨pa25_0, Fn25_0 f25_0⟩ := inst_ok eo25_0 followsTry is25 ⟨⟨sh25, cm25_0, by kernel_rfl, gm25_0, fm25_0⟩⟩
abbrev nt28 : Nat := 6
def sh28 : List (Nat × List Sh) := []
def r28_2 : List AOper := [oO 2 (.mv (.const (.slice none 0 0)))]
def r28_4 : List AOper := [oO 3 (.bslice 1 0 [(.v (.int .i64 0))] []), oM 4 0, oO 5 (.append 1 8 (.tmp 3) (.tmp 4)), oM 2 5]
def tr28 : List (Nat × Tidy) := [tT 0 [0], (1, ⟨[2], true, [⟨false, 2, 0, 20002, 1⟩], []⟩)]
def tl28 : List (Nat × Tidy) := []
def rs28 : List AResV := [.tmp 2]
def pr28_0_0 : PT (List RV) := pRs [pR false [rO 1]]
def ur28_0_0 {β : Type} (g : List RV → β) : Rows → β := pr28_0_0.unc g
def E28_0g  : EnvK := EnvK.of [] noSeq
noncomputable def E28_0 : EnvK := E28_0g 
theorem eo28_0 : E28_0.Ok Try.prog := EnvK.of_ok noSeq_ok trivial
abbrev Tf28_0 : Type 1 := (α : Type) → Rows → (Rows → Option α) → Option α
def f28_0g  (α : Type) (x1 : Rows) (k1 : Rows → Option α) : Option α :=
 gK (apOk 1 8 ([] : Rows) x1) (k1 (([] : Rows) ++ x1))
noncomputable def f28_0 (α : Type) (x1 : Rows) (k1 : Rows → Option α) : Option α := f28_0g  α x1 k1
def pa28_0 : PT (List DV) := pA [pV false [dL]]
def Fn28_0 (v : Tf28_0) (α : Type) (k : List RV → Option α) : Rows → Option α := fun x1 => v α x1 (fun (y1 : Rows) => ur28_0_0 k y1)
noncomputable def cm28_0g  : MCode := (.seq (.region r28_2 [] (tO [0])) (.seq (.region r28_4 [] (some ⟨[2], true, [⟨false, 2, 0, 20002, 1⟩], []⟩)) .ret))
noncomputable def cm28_0 : MCode := cm28_0g 
theorem gm28_0 : cm28_0.Good Try.prog E28_0 sh28 := ⟨trivial, ⟨trivial, trivial⟩⟩
theorem fm28_0g   (α : Type) (k : List RV → Option α) : Fn28_0 (f28_0g ) α k = pa28_0.unc fun ds => fnM Try.prog (E28_0g ) sh28 (cm28_0g ) rs28 k ds := by kernel_rfl
theorem fm28_0 : ∀ (α : Type) (k : List RV → Option α), Fn28_0 f28_0 α k = pa28_0.unc fun ds => fnM Try.prog E28_0 sh28 cm28_0 rs28 k ds := fm28_0g 
theorem is28 : FnIs Try.prog 28 nt28 tr28 tl28 cm28_0.erase rs28 := ⟨Try.f28, Try.func28, rfl, by kernel_rfl, by kernel_rfl, by kernel_rfl⟩
theorem io28_0 : InstOk Try.prog 28 nt28 ⟨pa28_0, Fn28_0 f28_0⟩ := inst_ok eo28_0 followsTry is28 ⟨⟨sh28, cm28_0, by kernel_rfl, gm28_0, fm28_0⟩⟩
abbrev nt24 : Nat := 13
def sh24 : List (Nat × List Sh) := []
def r24_2 : List AOper := [oO 2 (.mv (.const (.bool false)))]
def r24_4 : List AOper := [oM 3 0, oO 4 (.bin .leq 3 (.tmp 3) (kI 12)), oM 5 4, oG 6 (.mv (.tmp 0)) 5 false, oG 7 (.bin .geq 3 (.tmp 6) (kI 64)) 5 false, oG 8 (.mv (.tmp 7)) 5 false, oG 9 (.mv (.tmp 0)) 8 true, oG 10 (.bin .leq 3 (.tmp 9) (kI 66)) 8 true, oG 11 (.pick (.tmp 8) (.tmp 10) (.const (.bool false))) 5 false, oO 12 (.pick (.tmp 5) (.const (.bool true)) (.tmp 11)), oM 2 12]
def tr24 : List (Nat × Tidy) := [tT 0 [0], tT 1 [2]]
def tl24 : List (Nat × Tidy) := []
def rs24 : List AResV := [.tmp 2]
def pr24_0_0 : PT (List RV) := pRs [pR false [rD dB]]
def ur24_0_0 {β : Type} (g : List RV → β) : Bool → β := pr24_0_0.unc g
def E24_0g  : EnvK := EnvK.of [] noSeq
noncomputable def E24_0 : EnvK := E24_0g 
theorem eo24_0 : E24_0.Ok Try.prog := EnvK.of_ok noSeq_ok trivial
abbrev Tf24_0 : Type 1 := (α : Type) → Int → (Bool → Option α) → Option α
def f24_0g  (α : Type) (x1 : Int) (k1 : Bool → Option α) : Option α :=
 cK (decide (x1 ≤ 12))
 (k1 true)
 (cK (decide (64 ≤ x1))
 (k1 (decide (x1 ≤ 66)))
 (k1 false))
noncomputable def f24_0 (α : Type) (x1 : Int) (k1 : Bool → Option α) : Option α := f24_0g  α x1 k1
def pa24_0 : PT (List DV) := pA [pV false [(dI .i64)]]
def Fn24_0 (v : Tf24_0) (α : Type) (k : List RV → Option α) : Int → Option α := fun x1 => v α x1 (fun (y1 : Bool) => ur24_0_0 k y1)
noncomputable def cm24_0g  : MCode := (.seq (.region r24_2 [] (tO [0])) (.seq (.region r24_4 [] (tO [2])) .ret))
noncomputable def cm24_0 : MCode := cm24_0g 
theorem gm24_0 : cm24_0.Good Try.prog E24_0 sh24 := ⟨trivial, ⟨trivial, trivial⟩⟩
theorem fm24_0g   (α : Type) (k : List RV → Option α) : Fn24_0 (f24_0g ) α k = pa24_0.unc fun ds => fnM Try.prog (E24_0g ) sh24 (cm24_0g ) rs24 k ds := by kernel_rfl
theorem fm24_0 : ∀ (α : Type) (k : List RV → Option α), Fn24_0 f24_0 α k = pa24_0.unc fun ds => fnM Try.prog E24_0 sh24 cm24_0 rs24 k ds := fm24_0g 
theorem is24 : FnIs Try.prog 24 nt24 tr24 tl24 cm24_0.erase rs24 := ⟨Try.f24, Try.func24, rfl, by kernel_rfl, by kernel_rfl, by kernel_rfl⟩
theorem io24_0 : InstOk Try.prog 24 nt24 ⟨pa24_0, Fn24_0 f24_0⟩ := inst_ok eo24_0 followsTry is24 ⟨⟨sh24, cm24_0, by kernel_rfl, gm24_0, fm24_0⟩⟩
abbrev nt125 : Nat := 10
def sh125 : List (Nat × List Sh) := [(5, [.int .i64, .int .i64])]
def r125_2 : List AOper := [oO 2 (.box (.tmp 0)), oO 4 (.alloc [(cI 0), (cI 0), (cI 0), (cI 0)])]
def r125_4 : List AOper := [oO 5 (.load true 2 (.tmp 2)), oM 6 1, oO 7 (.call 129 [(.tmp 5), (.tmp 6), (kI 1)]), oO 8 (.build [(cI 0), (cI 0)] [(0, 1, (kI 0)), (1, 1, (kI 1))]), oO 9 (.build [(cI 0), (cI 0), (cI 0), (cI 0)] [(0, 2, (.tmp 7)), (2, 2, (.tmp 8))]), oD (.store 4 (.tmp 4) (.tmp 9))]
def tr125 : List (Nat × Tidy) := [tT 0 [1, 2, 4], tT 1 [4]]
def tl125 : List (Nat × Tidy) := []
def rs125 : List AResV := [.cell 4 true 4]
def pr125_0_0 : PT (List RV) := pRs [pR true [rD (dI .i64), rD (dI .i64), rD (dI .i64), rD (dI .i64)]]
def ur125_0_0 {β : Type} (g : List RV → β) : Int → Int → Int → Int → β := pr125_0_0.unc g
def E125_0g (vf129_0 : Tf129_0) : EnvK := EnvK.of [⟨129, nt129, [⟨pa129_0, Fn129_0 vf129_0⟩]⟩] noSeq
noncomputable def E125_0 : EnvK := E125_0g f129_0
theorem eo125_0 : E125_0.Ok Try.prog := EnvK.of_ok noSeq_ok ⟨⟨io129_0, trivial⟩, trivial⟩
abbrev Tf125_0 : Type 1 := (α : Type) → Int → Int → Int → (Int → Int → Option α) → Option α
def f125_0g (vf129_0 : Tf129_0) (α : Type) (x1 x2 x3 : Int) (k1 : Int → Int → Option α) : Option α :=
 vf129_0 α x1 x2 x3 1
 (fun x4 x5 => k1 x4 x5)
noncomputable def f125_0 (α : Type) (x1 x2 x3 : Int) (k1 : Int → Int → Option α) : Option α := f125_0g f129_0 α x1 x2 x3 k1
def pa125_0 : PT (List DV) := pA [pV true [(dI .i64), (dI .i64)], pV false [(dI .i64)]]
def Fn125_0 (v : Tf125_0) (α : Type) (k : List RV → Option α) : Int → Int → Int → Option α := fun x1 x2 x3 => v α x1 x2 x3 (fun (y1 : Int) (y2 : Int) => ur125_0_0 k y1 y2 0 1)
noncomputable def cm125_0g  : MCode := (.seq (.region r125_2 [] (tO [1, 2, 4])) (.seq (.region r125_4 [] (tO [4])) .ret))
noncomputable def cm125_0 : MCode := cm125_0g 
theorem gm125_0 : cm125_0.Good Try.prog E125_0 sh125 := ⟨trivial, ⟨trivial, trivial⟩⟩
theorem fm125_0g (vf129_0 : Tf129_0)  (α : Type) (k : List RV → Option α) : Fn125_0 (f125_0g vf129_0) α k = pa125_0.unc fun ds => fnM Try.prog (E125_0g vf129_0) sh125 (cm125_0g ) rs125 k ds := by kernel_rfl
theorem fm125_0 : ∀ (α : Type) (k : List RV → Option α), Fn125_0 f125_0 α k = pa125_0.unc fun ds => fnM Try.prog E125_0 sh125 cm125_0 rs125 k ds := fm125_0g f129_0
theorem is125 : FnIs Try.prog 125 nt125 tr125 tl125 cm125_0.erase rs125 := ⟨Try.f125, Try.func125, rfl, by kernel_rfl, by kernel_rfl, by kernel_rfl⟩
theorem io125_0 : InstOk Try.prog 125 nt125 ⟨pa125_0, Fn125_0 f125_0⟩ := inst_ok eo125_0 followsTry is125 ⟨⟨sh125, cm125_0, by kernel_rfl, gm125_0, fm125_0⟩⟩
abbrev nt48 : Nat := 14
def sh48 : List (Nat × List Sh) := [(4, [.int .i64]), (7, [.int .i64]), (10, [.int .i64])]
def r48_2 : List AOper := [oO 1 (.box (.tmp 0)), oO 2 (.mv (kI 0))]
def r48_4 : List AOper := [oO 3 (.faddr 0 (.tmp 1)), oO 4 (.load false 1 (.tmp 3)), oO 5 (.bin .mul 3 (kI 2) (.tmp 4)), oO 6 (.faddr 1 (.tmp 1)), oO 7 (.load false 1 (.tmp 6)), oO 8 (.bin .add 3 (.tmp 5) (.tmp 7)), oO 9 (.faddr 1 (.tmp 1)), oO 10 (.load false 1 (.tmp 9)), oO 11 (.bin .mul 3 (kI 2) (.tmp 10)), oO 12 (.build [(cI 0), (cI 0)] [(0, 1, (.tmp 8)), (1, 1, (.tmp 11))]), oO 13 (.call 61 [(.tmp 12)]), oM 2 13]
def tr48 : List (Nat × Tidy) := [tT 0 [1], tT 1 [2]]
def tl48 : List (Nat × Tidy) := []
def rs48 : List AResV := [.tmp 2]
def pr48_0_0 : PT (List RV) := pRs [pR false [rD (dI .i64)]]
def ur48_0_0 {β : Type} (g : List RV → β) : Int → β := pr48_0_0.unc g
def E48_0g (vf61_0 : Tf61_0) : EnvK := EnvK.of [⟨61, nt61, [⟨pa61_0, Fn61_0 vf61_0⟩]⟩] noSeq
noncomputable def E48_0 : EnvK := E48_0g f61_0
theorem eo48_0 : E48_0.Ok Try.prog := EnvK.of_ok noSeq_ok ⟨⟨io61_0, trivial⟩, trivial⟩
abbrev Tf48_0 : Type 1 := (α : Type) → Int → Int → (Int → Option α) → Option α
def f48_0g (vf61_0 : Tf61_0) (α : Type) (x1 x2 : Int) (k1 : Int → Option α) : Option α :=
 vf61_0 α (w64 ((w64 (2 * x1)) + x2)) (w64 (2 * x2))
 (fun x3 => k1 x3)
noncomputable def f48_0 (α : Type) (x1 x2 : Int) (k1 : Int → Option α) : Option α := f48_0g f61_0 α x1 x2 k1
def pa48_0 : PT (List DV) := pA [pV true [(dI .i64), (dI .i64)]]
def Fn48_0 (v : Tf48_0) (α : Type) (k : List RV → Option α) : Int → Int → Option α := fun x1 x2 => v α x1 x2 (fun (y1 : Int) => ur48_0_0 k y1)
noncomputable def cm48_0g  : MCode := (.seq (.region r48_2 [] (tO [1])) (.seq (.region r48_4 [] (tO [2])) .ret))
noncomputable def cm48_0 : MCode := cm48_0g 
theorem gm48_0 : cm48_0.Good Try.prog E48_0 sh48 := ⟨trivial, ⟨trivial, trivial⟩⟩
theorem fm48_0g (vf61_0 : Tf61_0)  (α : Type) (k : List RV → Option α) : Fn48_0 (f48_0g vf61_0) α k = pa48_0.unc fun ds => fnM Try.prog (E48_0g vf61_0) sh48 (cm48_0g ) rs48 k ds := by kernel_rfl
theorem fm48_0 : ∀ (α : Type) (k : List RV → Option α), Fn48_0 f48_0 α k = pa48_0.unc fun ds => fnM Try.prog E48_0 sh48 cm48_0 rs48 k ds := fm48_0g f61_0
theorem is48 : FnIs Try.prog 48 nt48 tr48 tl48 cm48_0.erase rs48 := ⟨Try.f48, Try.func48, rfl, by kernel_rfl, by kernel_rfl, by kernel_rfl⟩
theorem io48_0 : InstOk Try.prog 48 nt48 ⟨pa48_0, Fn48_0 f48_0⟩ := inst_ok eo48_0 followsTry is48 ⟨⟨sh48, cm48_0, by kernel_rfl, gm48_0, fm48_0⟩⟩
abbrev nt62 : Nat := 11
def sh62 : List (Nat × List Sh) := [(4, [.int .i64]), (7, [.int .i64])]
def r62_2 : List AOper := [oO 1 (.box (.tmp 0)), oO 2 (.mv (kI 0))]
def r62_4 : List AOper := [oO 3 (.faddr 0 (.tmp 1)), oO 4 (.load false 1 (.tmp 3)), oO 5 (.pure (oB (.unOp .neg 3 (.tmp 4)) 3)), oO 6 (.faddr 1 (.tmp 1)), oO 7 (.load false 1 (.tmp 6)), oO 8 (.build [(cI 0), (cI 0)] [(0, 1, (.tmp 5)), (1, 1, (.tmp 7))]), oO 9 (.call 61 [(.tmp 8)]), oO 10 (.pure (oB (.unOp .neg 3 (.tmp 9)) 3)), oM 2 10]
def tr62 : List (Nat × Tidy) := [tT 0 [1], tT 1 [2]]
def tl62 : List (Nat × Tidy) := []
def rs62 : List AResV := [.tmp 2]
def pr62_0_0 : PT (List RV) := pRs [pR false [rD (dI .i64)]]
def ur62_0_0 {β : Type} (g : List RV → β) : Int → β := pr62_0_0.unc g
def E62_0g (vf61_0 : Tf61_0) : EnvK := EnvK.of [⟨61, nt61, [⟨pa61_0, Fn61_0 vf61_0⟩]⟩] noSeq
noncomputable def E62_0 : EnvK := E62_0g f61_0
theorem eo62_0 : E62_0.Ok Try.prog := EnvK.of_ok noSeq_ok ⟨⟨io61_0, trivial⟩, trivial⟩
abbrev Tf62_0 : Type 1 := (α : Type) → Int → Int → (Int → Option α) → Option α
def f62_0g (vf61_0 : Tf61_0) (α : Type) (x1 x2 : Int) (k1 : Int → Option α) : Option α :=
 vf61_0 α (w64 (0 - x1)) x2
 (fun x3 => k1 (w64 (0 - x3)))
noncomputable def f62_0 (α : Type) (x1 x2 : Int) (k1 : Int → Option α) : Option α := f62_0g f61_0 α x1 x2 k1
def pa62_0 : PT (List DV) := pA [pV true [(dI .i64), (dI .i64)]]
def Fn62_0 (v : Tf62_0) (α : Type) (k : List RV → Option α) : Int → Int → Option α := fun x1 x2 => v α x1 x2 (fun (y1 : Int) => ur62_0_0 k y1)
noncomputable def cm62_0g  : MCode := (.seq (.region r62_2 [] (tO [1])) (.seq (.region r62_4 [] (tO [2])) .ret))
noncomputable def cm62_0 : MCode := cm62_0g 
theorem gm62_0 : cm62_0.Good Try.prog E62_0 sh62 := ⟨trivial, ⟨trivial, trivial⟩⟩
theorem fm62_0g (vf61_0 : Tf61_0)  (α : Type) (k : List RV → Option α) : Fn62_0 (f62_0g vf61_0) α k = pa62_0.unc fun ds => fnM Try.prog (E62_0g vf61_0) sh62 (cm62_0g ) rs62 k ds := by kernel_rfl
theorem fm62_0 : ∀ (α : Type) (k : List RV → Option α), Fn62_0 f62_0 α k = pa62_0.unc fun ds => fnM Try.prog E62_0 sh62 cm62_0 rs62 k ds := fm62_0g f61_0
theorem is62 : FnIs Try.prog 62 nt62 tr62 tl62 cm62_0.erase rs62 := ⟨Try.f62, Try.func62, rfl, by kernel_rfl, by kernel_rfl, by kernel_rfl⟩
theorem io62_0 : InstOk Try.prog 62 nt62 ⟨pa62_0, Fn62_0 f62_0⟩ := inst_ok eo62_0 followsTry is62 ⟨⟨sh62, cm62_0, by kernel_rfl, gm62_0, fm62_0⟩⟩
abbrev nt119 : Nat := 78
def sh119 : List (Nat × List Sh) := [(11, [.str, .int .i64, .sl, .sl, .sl, .int .i64, .int .i64]), (14, [.str, .int .i64, .sl, .sl, .sl, .int .i64, .int .i64]), (19, [.sl]), (23, [.int .i64]), (26, [.int .i64]), (29, [.str, .int .i64, .sl, .sl, .sl, .int .i64, .int .i64]), (35, [.sl]), (38, [.int .i64]), (39, [.int .i64]), (42, [.sl]), (44, [.int .i64]), (45, [.int .i64]), (53, [.int .i64]), (58, [.int .i64]), (61, [.int .i64]), (66, [.sl]), (68, [.int .i64]), (69, [.int .i64]), (77, [.int .i64, .int .i64, .int .i64, .int .i64])]
def r119_2 : List AOper := [oO 2 (.box (.tmp 0)), oO 4 (.alloc [(cI 0), (cI 0), (cI 0), (cI 0)])]
def r119_4 : List AOper := [oO 11 (.load true 7 (.tmp 2)), oM 12 1, oO 13 (.call 123 [(.tmp 11), (.tmp 12)]), oM 5 13]
def r119_6 : List AOper := [oO 14 (.load true 7 (.tmp 2)), oM 15 5, oO 16 (.call 124 [(.tmp 14), (.tmp 15)]), oO 6 (.alloc [(cI 0), (cI 0)]), oD (.store 2 (.tmp 6) (.tmp 16))]
def r119_9 : List AOper := [oO 17 (.faddr 0 (.tmp 2)), oO 18 (.faddr 2 (.tmp 17)), oO 19 (.load false 1 (.tmp 18)), oO 20 (.len (.tmp 19)), oO 21 (.bin .eql 3 (.tmp 20) (kI 1))]
def r119_12 : List AOper := [oO 22 (.iaddr 1 (some 2) (.tmp 6) (kI 0)), oO 23 (.load false 1 (.tmp 22)), oO 24 (.build [(cI 0), (cI 0)] [(0, 1, (.tmp 23)), (1, 1, (kI 1))]), oO 25 (.iaddr 1 (some 2) (.tmp 6) (kI 1)), oO 26 (.load false 1 (.tmp 25)), oO 27 (.build [(cI 0), (cI 0)] [(0, 1, (.tmp 26)), (1, 1, (kI 1))]), oO 28 (.build [(cI 0), (cI 0), (cI 0), (cI 0)] [(0, 2, (.tmp 24)), (2, 2, (.tmp 27))]), oD (.store 4 (.tmp 4) (.tmp 28))]
def r119_14 : List AOper := [oO 29 (.load true 7 (.tmp 2)), oM 30 5, oO 31 (.bin .add 3 (.tmp 30) (kI 1)), oO 32 (.call 124 [(.tmp 29), (.tmp 31)]), oO 33 (.faddr 0 (.tmp 2)), oO 34 (.faddr 2 (.tmp 33)), oO 35 (.load false 1 (.tmp 34)), oM 36 5, oO 37 (.bin .add 3 (.tmp 36) (kI 1)), oO 38 (.iaddr 1 none (.tmp 35) (.tmp 37)), oO 39 (.load false 1 (.tmp 38)), oO 40 (.faddr 0 (.tmp 2)), oO 41 (.faddr 2 (.tmp 40)), oO 42 (.load false 1 (.tmp 41)), oM 43 5, oO 44 (.iaddr 1 none (.tmp 42) (.tmp 43)), oO 45 (.load false 1 (.tmp 44)), oO 46 (.bin .sub 3 (.tmp 39) (.tmp 45)), oO 7 (.alloc [(cI 0), (cI 0)]), oD (.store 2 (.tmp 7) (.tmp 32)), oM 8 46]
def r119_16 : List AOper := [oO 9 (.alloc [(cI 0), (cI 0), (cI 0), (cI 0)])]
def r119_19 : List AOper := [oO 47 (.mv (kI 0))]
def td119_21 : Option Tidy := (some ⟨[1, 2, 4, 5, 6, 7, 8, 9, 47], true, [⟨true, 2, 2, 30202, 1⟩, ⟨true, 2, 3, 30203, 1⟩, ⟨true, 2, 4, 30204, 1⟩], []⟩)
def r119_23 : List AOper := [oO 48 (.bin .lss 3 (.tmp 47) (kI 2))]
def r119_29 : List AOper := [oM 49 47, oM 10 49]
def r119_30 : List AOper := [oM 50 10, oM 51 10, oO 52 (.iaddr 1 (some 2) (.tmp 6) (.tmp 51)), oO 53 (.load false 1 (.tmp 52)), oM 54 8, oO 55 (.bin .mul 3 (.tmp 53) (.tmp 54)), oM 56 10, oO 57 (.iaddr 1 (some 2) (.tmp 7) (.tmp 56)), oO 58 (.load false 1 (.tmp 57)), oM 59 10, oO 60 (.iaddr 1 (some 2) (.tmp 6) (.tmp 59)), oO 61 (.load false 1 (.tmp 60)), oO 62 (.bin .sub 3 (.tmp 58) (.tmp 61)), oM 63 1, oO 64 (.faddr 0 (.tmp 2)), oO 65 (.faddr 2 (.tmp 64)), oO 66 (.load false 1 (.tmp 65)), oM 67 5, oO 68 (.iaddr 1 none (.tmp 66) (.tmp 67)), oO 69 (.load false 1 (.tmp 68)), oO 70 (.bin .sub 3 (.tmp 63) (.tmp 69)), oO 71 (.bin .mul 3 (.tmp 62) (.tmp 70)), oO 72 (.bin .add 3 (.tmp 55) (.tmp 71)), oM 73 8, oO 74 (.build [(cI 0), (cI 0)] [(0, 1, (.tmp 72)), (1, 1, (.tmp 73))]), oO 75 (.iaddr 2 (some 2) (.tmp 9) (.tmp 50)), oD (.store 2 (.tmp 75) (.tmp 74))]
def r119_31 : List AOper := [oO 76 (.bin .add 3 (.tmp 47) (kI 1)), oM 47 76]
def r119_33 : List AOper := [oO 77 (.load true 4 (.tmp 9)), oD (.store 4 (.tmp 4) (.tmp 77))]
def tr119 : List (Nat × Tidy) := [tT 0 [1, 2, 4], tT 1 [1, 2, 4, 5], tT 2 [1, 2, 4, 5, 6], tT 3 [1, 2, 4, 5, 6, 21], tT 4 [4], tT 5 [1, 2, 4, 5, 6, 7, 8], tT 6 [1, 2, 4, 5, 6, 7, 8, 9], tT 7 [1, 2, 4, 5, 6, 7, 8, 9, 47], tT 8 [1, 2, 4, 5, 6, 7, 8, 9, 47, 48], tT 9 [1, 2, 4, 5, 6, 7, 8, 9, 10, 47], tT 10 [1, 2, 4, 5, 6, 7, 8, 9, 47], tT 11 [1, 2, 4, 5, 6, 7, 8, 9, 47], tT 12 [4]]
def tl119 : List (Nat × Tidy) := [(8, ⟨[1, 2, 4, 5, 6, 7, 8, 9, 47], true, [⟨true, 2, 2, 30202, 1⟩, ⟨true, 2, 3, 30203, 1⟩, ⟨true, 2, 4, 30204, 1⟩], []⟩)]
def rs119 : List AResV := [.cell 4 true 4]
def pr119_0_0 : PT (List RV) := pRs [pR true [rD (dI .i64), rD (dI .i64), rD (dI .i64), rD (dI .i64)]]
def ur119_0_0 {β : Type} (g : List RV → β) : Int → Int → Int → Int → β := pr119_0_0.unc g
def E119_0g (vf123_0 : Tf123_0) (vf124_0 : Tf124_0) : EnvK := EnvK.of [⟨123, nt123, [⟨pa123_0, Fn123_0 vf123_0⟩]⟩, ⟨124, nt124, [⟨pa124_0, Fn124_0 vf124_0⟩]⟩] noSeq
noncomputable def E119_0 : EnvK := E119_0g f123_0 f124_0
theorem eo119_0 : E119_0.Ok Try.prog := EnvK.of_ok noSeq_ok ⟨⟨io123_0, trivial⟩, ⟨io124_0, trivial⟩, trivial⟩
abbrev Tf119_0 : Type 1 := (α : Type) → ByteArray → Int → Rows → Rows → Rows → Int → Int → Int → (Int → Int → Int → Int → Option α) → Option α
def f119_0g (vf123_0 : Tf123_0) (vf124_0 : Tf124_0) (α : Type) (x1 : ByteArray) (x2 : Int) (x3 x4 x5 : Rows) (x6 x7 x8 : Int) (k1 : Int → Int → Int → Int → Option α) : Option α :=
 vf123_0 α x1 x2 x3 x4 x5 x6 x7 x8
 (fun x9 => vf124_0 α x1 x2 x3 x4 x5 x6 x7 x9
 (fun x10 x11 => cK (((List.length x3 : Nat) : Int) == 1)
 (k1 x10 1 x11 1)
 (vf124_0 α x1 x2 x3 x4 x5 x6 x7 (w64 (x9 + 1))
 (fun x12 x13 => rowK x3 (w64 (x9 + 1)) [.int .i64]
 (fun x14 => rowK x3 x9 [.int .i64]
 (fun x15 => rowK x3 x9 [.int .i64]
 (fun x16 => rowK x3 x9 [.int .i64]
 (fun x17 => k1 (w64 ((w64 (x10 * (w64 (x14 - x15)))) + (w64 ((w64 (x12 - x10)) * (w64 (x8 - x16)))))) (w64 (x14 - x15)) (w64 ((w64 (x11 * (w64 (x14 - x15)))) + (w64 ((w64 (x13 - x11)) * (w64 (x8 - x17)))))) (w64 (x14 - x15))))))))))
noncomputable def f119_0 (α : Type) (x1 : ByteArray) (x2 : Int) (x3 x4 x5 : Rows) (x6 x7 x8 : Int) (k1 : Int → Int → Int → Int → Option α) : Option α := f119_0g f123_0 f124_0 α x1 x2 x3 x4 x5 x6 x7 x8 k1
def pa119_0 : PT (List DV) := pA [pV true [dS, (dI .i64), dL, dL, dL, (dI .i64), (dI .i64)], pV false [(dI .i64)]]
def Fn119_0 (v : Tf119_0) (α : Type) (k : List RV → Option α) : ByteArray → Int → Rows → Rows → Rows → Int → Int → Int → Option α := fun x1 x2 x3 x4 x5 x6 x7 x8 => v α x1 x2 x3 x4 x5 x6 x7 x8 (fun (y1 : Int) (y2 : Int) (y3 : Int) (y4 : Int) => ur119_0_0 k y1 y2 y3 y4)
noncomputable def cm119_0g  : MCode := (.seq (.region r119_2 [] (tO [1, 2, 4])) (.seq (.region r119_4 [] (tO [1, 2, 4, 5])) (.seq (.region r119_6 [] (tO [1, 2, 4, 5, 6])) (.seq (.seq (.region r119_9 [] (tO [1, 2, 4, 5, 6, 21])) (.cond (.tmp 21) (.seq (.region r119_12 [] (tO [4])) .ret) .skip)) (.seq (.region r119_14 [(3, 6), (3, 9), (3, 10), (3, 13), (3, 15), (3, 16), (0, 18), (3, 18), (6, 18), (9, 18), (10, 18), (13, 18), (15, 18), (16, 18), (6, 19), (9, 19), (10, 19), (13, 19), (15, 19), (16, 19)] (tO [1, 2, 4, 5, 6, 7, 8])) (.seq (.region r119_16 [] (tO [1, 2, 4, 5, 6, 7, 8, 9])) (.seq (.seq (.region r119_19 [] (tO [1, 2, 4, 5, 6, 7, 8, 9, 47])) (.block 0 (.loopU 3 td119_21 (.seq (.region r119_23 [] (tO [1, 2, 4, 5, 6, 7, 8, 9, 47, 48])) (.seq (.cond (.tmp 48) .skip (.exit 0)) (.seq (.block 1 (.seq (.region r119_29 [] (tO [1, 2, 4, 5, 6, 7, 8, 9, 10, 47])) (.region r119_30 [] (tO [1, 2, 4, 5, 6, 7, 8, 9, 47])))) (.region r119_31 [] (tO [1, 2, 4, 5, 6, 7, 8, 9, 47])))))))) (.seq (.region r119_33 [] (tO [4])) .ret))))))))
noncomputable def cm119_0 : MCode := cm119_0g 
theorem gm119_0 : cm119_0.Good Try.prog E119_0 sh119 := ⟨trivial, ⟨trivial, ⟨trivial, ⟨⟨trivial, ⟨⟨trivial, trivial⟩, trivial⟩⟩, ⟨trivial, ⟨trivial, ⟨⟨trivial, ⟨⟨trivial, ⟨⟨trivial, trivial⟩, ⟨⟨trivial, trivial⟩, trivial⟩⟩⟩, by decide⟩⟩, ⟨trivial, trivial⟩⟩⟩⟩⟩⟩⟩⟩
theorem fm119_0g (vf123_0 : Tf123_0) (vf124_0 : Tf124_0)  (α : Type) (k : List RV → Option α) : Fn119_0 (f119_0g vf123_0 vf124_0) α k = pa119_0.unc fun ds => fnM Try.prog (E119_0g vf123_0 vf124_0) sh119 (cm119_0g ) rs119 k ds := by kernel_rfl
theorem fm119_0 : ∀ (α : Type) (k : List RV → Option α), Fn119_0 f119_0 α k = pa119_0.unc fun ds => fnM Try.prog E119_0 sh119 cm119_0 rs119 k ds := fm119_0g f123_0 f124_0
theorem is119 : FnIs Try.prog 119 nt119 tr119 tl119 cm119_0.erase rs119 := ⟨Try.f119, Try.func119, rfl, by kernel_rfl, by kernel_rfl, by kernel_rfl⟩
theorem io119_0 : InstOk Try.prog 119 nt119 ⟨pa119_0, Fn119_0 f119_0⟩ := inst_ok eo119_0 followsTry is119 ⟨⟨sh119, cm119_0, by kernel_rfl, gm119_0, fm119_0⟩⟩
abbrev nt121 : Nat := 22
def sh121 : List (Nat × List Sh) := [(8, [.sl]), (9, [.int .i64]), (10, [.int .i64]), (13, [.sl]), (16, [.sl]), (19, [.int .i64]), (20, [.int .i64])]
def r121_2 : List AOper := [oO 2 (.box (.tmp 0)), oO 4 (.mv (.const (.bool false)))]
def r121_4 : List AOper := [oM 5 1, oO 6 (.faddr 0 (.tmp 2)), oO 7 (.faddr 2 (.tmp 6)), oO 8 (.load false 1 (.tmp 7)), oO 9 (.iaddr 1 none (.tmp 8) (kI 0)), oO 10 (.load false 1 (.tmp 9)), oO 11 (.faddr 0 (.tmp 2)), oO 12 (.faddr 2 (.tmp 11)), oO 13 (.load false 1 (.tmp 12)), oO 14 (.faddr 0 (.tmp 2)), oO 15 (.faddr 2 (.tmp 14)), oO 16 (.load false 1 (.tmp 15)), oO 17 (.len (.tmp 16)), oO 18 (.bin .sub 3 (.tmp 17) (kI 1)), oO 19 (.iaddr 1 none (.tmp 13) (.tmp 18)), oO 20 (.load false 1 (.tmp 19)), oO 21 (.call 34 [(.tmp 5), (.tmp 10), (.tmp 20)]), oM 4 21]
def tr121 : List (Nat × Tidy) := [tT 0 [1, 2], tT 1 [4]]
def tl121 : List (Nat × Tidy) := []
def rs121 : List AResV := [.tmp 4]
def pr121_0_0 : PT (List RV) := pRs [pR false [rD dB]]
def ur121_0_0 {β : Type} (g : List RV → β) : Bool → β := pr121_0_0.unc g
def E121_0g (vf34_0 : Tf34_0) : EnvK := EnvK.of [⟨34, nt34, [⟨pa34_0, Fn34_0 vf34_0⟩]⟩] noSeq
noncomputable def E121_0 : EnvK := E121_0g f34_0
theorem eo121_0 : E121_0.Ok Try.prog := EnvK.of_ok noSeq_ok ⟨⟨io34_0, trivial⟩, trivial⟩
abbrev Tf121_0 : Type 1 := (α : Type) → ByteArray → Int → Rows → Rows → Rows → Int → Int → Int → (Bool → Option α) → Option α
def f121_0g (vf34_0 : Tf34_0) (α : Type) (x1 : ByteArray) (x2 : Int) (x3 x4 x5 : Rows) (x6 x7 x8 : Int) (k1 : Bool → Option α) : Option α :=
 rowK x3 0 [.int .i64]
 (fun x9 => rowK x3 (w64 (((List.length x3 : Nat) : Int) - 1)) [.int .i64]
 (fun x10 => vf34_0 α x8 x9 x10
 (fun x11 => k1 x11)))
noncomputable def f121_0 (α : Type) (x1 : ByteArray) (x2 : Int) (x3 x4 x5 : Rows) (x6 x7 x8 : Int) (k1 : Bool → Option α) : Option α := f121_0g f34_0 α x1 x2 x3 x4 x5 x6 x7 x8 k1
def pa121_0 : PT (List DV) := pA [pV true [dS, (dI .i64), dL, dL, dL, (dI .i64), (dI .i64)], pV false [(dI .i64)]]
def Fn121_0 (v : Tf121_0) (α : Type) (k : List RV → Option α) : ByteArray → Int → Rows → Rows → Rows → Int → Int → Int → Option α := fun x1 x2 x3 x4 x5 x6 x7 x8 => v α x1 x2 x3 x4 x5 x6 x7 x8 (fun (y1 : Bool) => ur121_0_0 k y1)
noncomputable def cm121_0g  : MCode := (.seq (.region r121_2 [] (tO [1, 2])) (.seq (.region r121_4 [] (tO [4])) .ret))
noncomputable def cm121_0 : MCode := cm121_0g 
theorem gm121_0 : cm121_0.Good Try.prog E121_0 sh121 := ⟨trivial, ⟨trivial, trivial⟩⟩
theorem fm121_0g (vf34_0 : Tf34_0)  (α : Type) (k : List RV → Option α) : Fn121_0 (f121_0g vf34_0) α k = pa121_0.unc fun ds => fnM Try.prog (E121_0g vf34_0) sh121 (cm121_0g ) rs121 k ds := by kernel_rfl
theorem fm121_0 : ∀ (α : Type) (k : List RV → Option α), Fn121_0 f121_0 α k = pa121_0.unc fun ds => fnM Try.prog E121_0 sh121 cm121_0 rs121 k ds := fm121_0g f34_0
theorem is121 : FnIs Try.prog 121 nt121 tr121 tl121 cm121_0.erase rs121 := ⟨Try.f121, Try.func121, rfl, by kernel_rfl, by kernel_rfl, by kernel_rfl⟩
theorem io121_0 : InstOk Try.prog 121 nt121 ⟨pa121_0, Fn121_0 f121_0⟩ := inst_ok eo121_0 followsTry is121 ⟨⟨sh121, cm121_0, by kernel_rfl, gm121_0, fm121_0⟩⟩
abbrev nt27 : Nat := 11
def sh27 : List (Nat × List Sh) := [(4, [.int .i64]), (8, [.int .i64])]
def r27_2 : List AOper := [oO 1 (.box (.tmp 0)), oO 2 (.mv (.const (.bool false)))]
def r27_4 : List AOper := [oO 3 (.iaddr 1 (some 2) (.tmp 1) (kI 0)), oO 4 (.load false 1 (.tmp 3)), oO 5 (.call 34 [(.tmp 4), (kI 5000), (kI 60000)]), oM 6 5, oG 7 (.iaddr 1 (some 2) (.tmp 1) (kI 1)) 6 true, oG 8 (.load false 1 (.tmp 7)) 6 true, oG 9 (.call 34 [(.tmp 8), (kI 0), (kI 20000)]) 6 true, oO 10 (.pick (.tmp 6) (.tmp 9) (.const (.bool false))), oM 2 10]
def tr27 : List (Nat × Tidy) := [tT 0 [1], tT 1 [2]]
def tl27 : List (Nat × Tidy) := []
def rs27 : List AResV := [.tmp 2]
def pr27_0_0 : PT (List RV) := pRs [pR false [rD dB]]
def ur27_0_0 {β : Type} (g : List RV → β) : Bool → β := pr27_0_0.unc g
def E27_0g (vf34_0 : Tf34_0) : EnvK := EnvK.of [⟨34, nt34, [⟨pa34_0, Fn34_0 vf34_0⟩]⟩] noSeq
noncomputable def E27_0 : EnvK := E27_0g f34_0
theorem eo27_0 : E27_0.Ok Try.prog := EnvK.of_ok noSeq_ok ⟨⟨io34_0, trivial⟩, trivial⟩
abbrev Tf27_0 : Type 1 := (α : Type) → Int → Int → (Bool → Option α) → Option α
def f27_0g (vf34_0 : Tf34_0) (α : Type) (x1 x2 : Int) (k1 : Bool → Option α) : Option α :=
 vf34_0 α x1 5000 60000
 (fun x3 => cK x3
 (vf34_0 α x2 0 20000
 (fun x4 => k1 x4))
 (k1 false))
noncomputable def f27_0 (α : Type) (x1 x2 : Int) (k1 : Bool → Option α) : Option α := f27_0g f34_0 α x1 x2 k1
def pa27_0 : PT (List DV) := pA [pV true [(dI .i64), (dI .i64)]]
def Fn27_0 (v : Tf27_0) (α : Type) (k : List RV → Option α) : Int → Int → Option α := fun x1 x2 => v α x1 x2 (fun (y1 : Bool) => ur27_0_0 k y1)
noncomputable def cm27_0g  : MCode := (.seq (.region r27_2 [] (tO [1])) (.seq (.region r27_4 [] (tO [2])) .ret))
noncomputable def cm27_0 : MCode := cm27_0g 
theorem gm27_0 : cm27_0.Good Try.prog E27_0 sh27 := ⟨trivial, ⟨trivial, trivial⟩⟩
theorem fm27_0g (vf34_0 : Tf34_0)  (α : Type) (k : List RV → Option α) : Fn27_0 (f27_0g vf34_0) α k = pa27_0.unc fun ds => fnM Try.prog (E27_0g vf34_0) sh27 (cm27_0g ) rs27 k ds := by kernel_rfl
theorem fm27_0 : ∀ (α : Type) (k : List RV → Option α), Fn27_0 f27_0 α k = pa27_0.unc fun ds => fnM Try.prog E27_0 sh27 cm27_0 rs27 k ds := fm27_0g f34_0
theorem is27 : FnIs Try.prog 27 nt27 tr27 tl27 cm27_0.erase rs27 := ⟨Try.f27, Try.func27, rfl, by kernel_rfl, by kernel_rfl, by kernel_rfl⟩
theorem io27_0 : InstOk Try.prog 27 nt27 ⟨pa27_0, Fn27_0 f27_0⟩ := inst_ok eo27_0 followsTry is27 ⟨⟨sh27, cm27_0, by kernel_rfl, gm27_0, fm27_0⟩⟩
abbrev nt67 : Nat := 5
def sh67 : List (Nat × List Sh) := []
def r67_2 : List AOper := [oO 2 (.mv (.const (.bool false)))]
def r67_4 : List AOper := [oM 3 0, oO 4 (.call 34 [(.tmp 3), (kI 0), (kI 80000)]), oM 2 4]
def tr67 : List (Nat × Tidy) := [tT 0 [0], tT 1 [2]]
def tl67 : List (Nat × Tidy) := []
def rs67 : List AResV := [.tmp 2]
def pr67_0_0 : PT (List RV) := pRs [pR false [rD dB]]
def ur67_0_0 {β : Type} (g : List RV → β) : Bool → β := pr67_0_0.unc g
def E67_0g (vf34_0 : Tf34_0) : EnvK := EnvK.of [⟨34, nt34, [⟨pa34_0, Fn34_0 vf34_0⟩]⟩] noSeq
noncomputable def E67_0 : EnvK := E67_0g f34_0
theorem eo67_0 : E67_0.Ok Try.prog := EnvK.of_ok noSeq_ok ⟨⟨io34_0, trivial⟩, trivial⟩
abbrev Tf67_0 : Type 1 := (α : Type) → Int → (Bool → Option α) → Option α
def f67_0g (vf34_0 : Tf34_0) (α : Type) (x1 : Int) (k1 : Bool → Option α) : Option α :=
 vf34_0 α x1 0 80000
 (fun x2 => k1 x2)
noncomputable def f67_0 (α : Type) (x1 : Int) (k1 : Bool → Option α) : Option α := f67_0g f34_0 α x1 k1
def pa67_0 : PT (List DV) := pA [pV false [(dI .i64)]]
def Fn67_0 (v : Tf67_0) (α : Type) (k : List RV → Option α) : Int → Option α := fun x1 => v α x1 (fun (y1 : Bool) => ur67_0_0 k y1)
noncomputable def cm67_0g  : MCode := (.seq (.region r67_2 [] (tO [0])) (.seq (.region r67_4 [] (tO [2])) .ret))
noncomputable def cm67_0 : MCode := cm67_0g 
theorem gm67_0 : cm67_0.Good Try.prog E67_0 sh67 := ⟨trivial, ⟨trivial, trivial⟩⟩
theorem fm67_0g (vf34_0 : Tf34_0)  (α : Type) (k : List RV → Option α) : Fn67_0 (f67_0g vf34_0) α k = pa67_0.unc fun ds => fnM Try.prog (E67_0g vf34_0) sh67 (cm67_0g ) rs67 k ds := by kernel_rfl
theorem fm67_0 : ∀ (α : Type) (k : List RV → Option α), Fn67_0 f67_0 α k = pa67_0.unc fun ds => fnM Try.prog E67_0 sh67 cm67_0 rs67 k ds := fm67_0g f34_0
theorem is67 : FnIs Try.prog 67 nt67 tr67 tl67 cm67_0.erase rs67 := ⟨Try.f67, Try.func67, rfl, by kernel_rfl, by kernel_rfl, by kernel_rfl⟩
theorem io67_0 : InstOk Try.prog 67 nt67 ⟨pa67_0, Fn67_0 f67_0⟩ := inst_ok eo67_0 followsTry is67 ⟨⟨sh67, cm67_0, by kernel_rfl, gm67_0, fm67_0⟩⟩
abbrev nt57 : Nat := 5
def sh57 : List (Nat × List Sh) := []
def r57_2 : List AOper := [oO 2 (.mv (.const (.bool false)))]
def r57_4 : List AOper := [oM 3 0, oO 4 (.call 34 [(.tmp 3), (kI 5000), (kI 80000)]), oM 2 4]
def tr57 : List (Nat × Tidy) := [tT 0 [0], tT 1 [2]]
def tl57 : List (Nat × Tidy) := []
def rs57 : List AResV := [.tmp 2]
def pr57_0_0 : PT (List RV) := pRs [pR false [rD dB]]
def ur57_0_0 {β : Type} (g : List RV → β) : Bool → β := pr57_0_0.unc g
def E57_0g (vf34_0 : Tf34_0) : EnvK := EnvK.of [⟨34, nt34, [⟨pa34_0, Fn34_0 vf34_0⟩]⟩] noSeq
noncomputable def E57_0 : EnvK := E57_0g f34_0
theorem eo57_0 : E57_0.Ok Try.prog := EnvK.of_ok noSeq_ok ⟨⟨io34_0, trivial⟩, trivial⟩
abbrev Tf57_0 : Type 1 := (α : Type) → Int → (Bool → Option α) → Option α
def f57_0g (vf34_0 : Tf34_0) (α : Type) (x1 : Int) (k1 : Bool → Option α) : Option α :=
 vf34_0 α x1 5000 80000
 (fun x2 => k1 x2)
noncomputable def f57_0 (α : Type) (x1 : Int) (k1 : Bool → Option α) : Option α := f57_0g f34_0 α x1 k1
def pa57_0 : PT (List DV) := pA [pV false [(dI .i64)]]
def Fn57_0 (v : Tf57_0) (α : Type) (k : List RV → Option α) : Int → Option α := fun x1 => v α x1 (fun (y1 : Bool) => ur57_0_0 k y1)
noncomputable def cm57_0g  : MCode := (.seq (.region r57_2 [] (tO [0])) (.seq (.region r57_4 [] (tO [2])) .ret))
noncomputable def cm57_0 : MCode := cm57_0g 
theorem gm57_0 : cm57_0.Good Try.prog E57_0 sh57 := ⟨trivial, ⟨trivial, trivial⟩⟩
theorem fm57_0g (vf34_0 : Tf34_0)  (α : Type) (k : List RV → Option α) : Fn57_0 (f57_0g vf34_0) α k = pa57_0.unc fun ds => fnM Try.prog (E57_0g vf34_0) sh57 (cm57_0g ) rs57 k ds := by kernel_rfl
theorem fm57_0 : ∀ (α : Type) (k : List RV → Option α), Fn57_0 f57_0 α k = pa57_0.unc fun ds => fnM Try.prog E57_0 sh57 cm57_0 rs57 k ds := fm57_0g f34_0
theorem is57 : FnIs Try.prog 57 nt57 tr57 tl57 cm57_0.erase rs57 := ⟨Try.f57, Try.func57, rfl, by kernel_rfl, by kernel_rfl, by kernel_rfl⟩
theorem io57_0 : InstOk Try.prog 57 nt57 ⟨pa57_0, Fn57_0 f57_0⟩ := inst_ok eo57_0 followsTry is57 ⟨⟨sh57, cm57_0, by kernel_rfl, gm57_0, fm57_0⟩⟩
abbrev nt77 : Nat := 15
def sh77 : List (Nat × List Sh) := []
def r77_2 : List AOper := [oO 4 (.mv (.const (.bool false)))]
def r77_5 : List AOper := [oM 5 1, oO 6 (.bin .eql 3 (.tmp 5) (kI 0))]
def r77_7 : List AOper := [oM 7 0, oO 8 (.call 85 [(.tmp 7)]), oM 0 8]
def r77_9 : List AOper := [oM 9 1, oO 10 (.bin .lss 3 (.tmp 9) (kI 0))]
def r77_11 : List AOper := [oM 11 0, oO 12 (.pure (oB (.unOp .neg 65 (.tmp 11)) 65)), oM 0 12]
def r77_13 : List AOper := [oM 13 0, oO 14 (.bin .gtr 65 (.tmp 13) (.const (.float Go.FloatKind.f64 9218868437227405311))), oM 4 14]
def tr77 : List (Nat × Tidy) := [tT 0 [0, 1], tT 1 [0, 1, 6], tT 2 [0], tT 3 [0, 10], tT 4 [0], tT 5 [4]]
def tl77 : List (Nat × Tidy) := []
def rs77 : List AResV := [.tmp 4]
def pr77_0_0 : PT (List RV) := pRs [pR false [rD dB]]
def ur77_0_0 {β : Type} (g : List RV → β) : Bool → β := pr77_0_0.unc g
def E77_0g (vf85_0 : Tf85_0) : EnvK := EnvK.of [⟨85, nt85, [⟨pa85_0, Fn85_0 vf85_0⟩]⟩] noSeq
noncomputable def E77_0 : EnvK := E77_0g f85_0
theorem eo77_0 : E77_0.Ok Try.prog := EnvK.of_ok noSeq_ok ⟨⟨io85_0, trivial⟩, trivial⟩
abbrev Tf77_0 : Type 1 := (α : Type) → Nat → Int → (Bool → Option α) → Option α
def f77_0g (vf85_0 : Tf85_0) (α : Type) (x1 : Nat) (x2 : Int) (k1 : Bool → Option α) : Option α :=
 cK (x2 == 0)
 (vf85_0 α x1
 (fun x3 => k1 ((FloatKind.format .f64).order x3 9218868437227405311 == some Ordering.gt)))
 (cK (decide (x2 < 0))
 (k1 ((FloatKind.format .f64).order (Op.negFloat .f64 x1) 9218868437227405311 == some Ordering.gt))
 (k1 ((FloatKind.format .f64).order x1 9218868437227405311 == some Ordering.gt)))
noncomputable def f77_0 (α : Type) (x1 : Nat) (x2 : Int) (k1 : Bool → Option α) : Option α := f77_0g f85_0 α x1 x2 k1
def pa77_0 : PT (List DV) := pA [pV false [(dF .f64)], pV false [(dI .i64)]]
def Fn77_0 (v : Tf77_0) (α : Type) (k : List RV → Option α) : Nat → Int → Option α := fun x1 x2 => v α x1 x2 (fun (y1 : Bool) => ur77_0_0 k y1)
noncomputable def cm77_0g  : MCode := (.seq (.region r77_2 [] (tO [0, 1])) (.seq (.seq (.region r77_5 [] (tO [0, 1, 6])) (.cond (.tmp 6) (.region r77_7 [] (tO [0])) (.seq (.region r77_9 [] (tO [0, 10])) (.cond (.tmp 10) (.region r77_11 [] (tO [0])) .skip)))) (.seq (.region r77_13 [] (tO [4])) .ret)))
noncomputable def cm77_0 : MCode := cm77_0g 
theorem gm77_0 : cm77_0.Good Try.prog E77_0 sh77 := ⟨trivial, ⟨⟨trivial, ⟨trivial, ⟨trivial, ⟨trivial, trivial⟩⟩⟩⟩, ⟨trivial, trivial⟩⟩⟩
theorem fm77_0g (vf85_0 : Tf85_0)  (α : Type) (k : List RV → Option α) : Fn77_0 (f77_0g vf85_0) α k = pa77_0.unc fun ds => fnM Try.prog (E77_0g vf85_0) sh77 (cm77_0g ) rs77 k ds := by kernel_rfl
theorem fm77_0 : ∀ (α : Type) (k : List RV → Option α), Fn77_0 f77_0 α k = pa77_0.unc fun ds => fnM Try.prog E77_0 sh77 cm77_0 rs77 k ds := fm77_0g f85_0
theorem is77 : FnIs Try.prog 77 nt77 tr77 tl77 cm77_0.erase rs77 := ⟨Try.f77, Try.func77, rfl, by kernel_rfl, by kernel_rfl, by kernel_rfl⟩
theorem io77_0 : InstOk Try.prog 77 nt77 ⟨pa77_0, Fn77_0 f77_0⟩ := inst_ok eo77_0 followsTry is77 ⟨⟨sh77, cm77_0, by kernel_rfl, gm77_0, fm77_0⟩⟩
abbrev nt46 : Nat := 5
def sh46 : List (Nat × List Sh) := []
def r46_2 : List AOper := [oO 2 (.mv (.const (.bool false)))]
def r46_4 : List AOper := [oM 3 0, oO 4 (.call 34 [(.tmp 3), (kI 1000), (kI 200000)]), oM 2 4]
def tr46 : List (Nat × Tidy) := [tT 0 [0], tT 1 [2]]
def tl46 : List (Nat × Tidy) := []
def rs46 : List AResV := [.tmp 2]
def pr46_0_0 : PT (List RV) := pRs [pR false [rD dB]]
def ur46_0_0 {β : Type} (g : List RV → β) : Bool → β := pr46_0_0.unc g
def E46_0g (vf34_0 : Tf34_0) : EnvK := EnvK.of [⟨34, nt34, [⟨pa34_0, Fn34_0 vf34_0⟩]⟩] noSeq
noncomputable def E46_0 : EnvK := E46_0g f34_0
theorem eo46_0 : E46_0.Ok Try.prog := EnvK.of_ok noSeq_ok ⟨⟨io34_0, trivial⟩, trivial⟩
abbrev Tf46_0 : Type 1 := (α : Type) → Int → (Bool → Option α) → Option α
def f46_0g (vf34_0 : Tf34_0) (α : Type) (x1 : Int) (k1 : Bool → Option α) : Option α :=
 vf34_0 α x1 1000 200000
 (fun x2 => k1 x2)
noncomputable def f46_0 (α : Type) (x1 : Int) (k1 : Bool → Option α) : Option α := f46_0g f34_0 α x1 k1
def pa46_0 : PT (List DV) := pA [pV false [(dI .i64)]]
def Fn46_0 (v : Tf46_0) (α : Type) (k : List RV → Option α) : Int → Option α := fun x1 => v α x1 (fun (y1 : Bool) => ur46_0_0 k y1)
noncomputable def cm46_0g  : MCode := (.seq (.region r46_2 [] (tO [0])) (.seq (.region r46_4 [] (tO [2])) .ret))
noncomputable def cm46_0 : MCode := cm46_0g 
theorem gm46_0 : cm46_0.Good Try.prog E46_0 sh46 := ⟨trivial, ⟨trivial, trivial⟩⟩
theorem fm46_0g (vf34_0 : Tf34_0)  (α : Type) (k : List RV → Option α) : Fn46_0 (f46_0g vf34_0) α k = pa46_0.unc fun ds => fnM Try.prog (E46_0g vf34_0) sh46 (cm46_0g ) rs46 k ds := by kernel_rfl
theorem fm46_0 : ∀ (α : Type) (k : List RV → Option α), Fn46_0 f46_0 α k = pa46_0.unc fun ds => fnM Try.prog E46_0 sh46 cm46_0 rs46 k ds := fm46_0g f34_0
theorem is46 : FnIs Try.prog 46 nt46 tr46 tl46 cm46_0.erase rs46 := ⟨Try.f46, Try.func46, rfl, by kernel_rfl, by kernel_rfl, by kernel_rfl⟩
theorem io46_0 : InstOk Try.prog 46 nt46 ⟨pa46_0, Fn46_0 f46_0⟩ := inst_ok eo46_0 followsTry is46 ⟨⟨sh46, cm46_0, by kernel_rfl, gm46_0, fm46_0⟩⟩
abbrev nt10 : Nat := 21
def sh10 : List (Nat × List Sh) := [(4, [.str]), (6, [.int .i64]), (8, [.sl]), (12, [.sl]), (16, [.sl]), (19, [.int .i64, .int .i64])]
def r10_2 : List AOper := [oO 1 (.box (.tmp 0)), ⟨(some 2), (.alloc [(.d (.v (.string ⟨#[]⟩))), (cI 0), .nils, .nils, .nils, (cI 0), (cI 0)]), none⟩]
def r10_4 : List AOper := [oO 3 (.faddr 0 (.tmp 1)), oO 4 (.load false 1 (.tmp 3)), oO 5 (.faddr 1 (.tmp 1)), oO 6 (.load false 1 (.tmp 5)), oO 7 (.faddr 2 (.tmp 1)), oO 8 (.load false 1 (.tmp 7)), oO 9 (.call 28 [(.tmp 8)]), oO 10 (.bslice 1 0 [(.v (.float Go.FloatKind.f32 0))] []), oO 11 (.faddr 3 (.tmp 1)), oO 12 (.load false 1 (.tmp 11)), oO 13 (.append 1 4 (.tmp 10) (.tmp 12)), oO 14 (.bslice 1 0 [(.v (.float Go.FloatKind.f32 0))] []), oO 15 (.faddr 4 (.tmp 1)), oO 16 (.load false 1 (.tmp 15)), oO 17 (.append 1 4 (.tmp 14) (.tmp 16)), oO 18 (.faddr 5 (.tmp 1)), oO 19 (.load true 2 (.tmp 18)), ⟨(some 20), (.build [(.d (.v (.string ⟨#[]⟩))), (cI 0), .nils, .nils, .nils, (cI 0), (cI 0)] [(0, 1, (.tmp 4)), (1, 1, (.tmp 6)), (2, 1, (.tmp 9)), (3, 1, (.tmp 13)), (4, 1, (.tmp 17)), (5, 2, (.tmp 19))]), none⟩, oD (.store 7 (.tmp 2) (.tmp 20))]
def tr10 : List (Nat × Tidy) := [(0, ⟨[1, 2], true, [⟨true, 2, 2, 30202, 1⟩, ⟨true, 2, 3, 30203, 1⟩, ⟨true, 2, 4, 30204, 1⟩], []⟩), (1, ⟨[2], true, [⟨true, 2, 2, 30202, 1⟩, ⟨true, 2, 3, 30203, 1⟩, ⟨true, 2, 4, 30204, 1⟩], []⟩)]
def tl10 : List (Nat × Tidy) := []
def rs10 : List AResV := [.cell 2 true 7]
def pr10_0_0 : PT (List RV) := pRs [pR true [rD dS, rD (dI .i64), rO 1, rO 1, rO 1, rD (dI .i64), rD (dI .i64)]]
def ur10_0_0 {β : Type} (g : List RV → β) : ByteArray → Int → Rows → Rows → Rows → Int → Int → β := pr10_0_0.unc g
def E10_0g (vf28_0 : Tf28_0) : EnvK := EnvK.of [⟨28, nt28, [⟨pa28_0, Fn28_0 vf28_0⟩]⟩] noSeq
noncomputable def E10_0 : EnvK := E10_0g f28_0
theorem eo10_0 : E10_0.Ok Try.prog := EnvK.of_ok noSeq_ok ⟨⟨io28_0, trivial⟩, trivial⟩
abbrev Tf10_0 : Type 1 := (α : Type) → ByteArray → Int → Rows → Rows → Rows → Int → Int → (ByteArray → Int → Rows → Rows → Rows → Int → Int → Option α) → Option α
def f10_0g (vf28_0 : Tf28_0) (α : Type) (x1 : ByteArray) (x2 : Int) (x3 x4 x5 : Rows) (x6 x7 : Int) (k1 : ByteArray → Int → Rows → Rows → Rows → Int → Int → Option α) : Option α :=
 vf28_0 α x3
 (fun x8 => gK (apOk 1 4 ([] : Rows) x4) (gK (apOk 1 4 ([] : Rows) x5) (k1 x1 x2 x8 (([] : Rows) ++ x4) (([] : Rows) ++ x5) x6 x7)))
noncomputable def f10_0 (α : Type) (x1 : ByteArray) (x2 : Int) (x3 x4 x5 : Rows) (x6 x7 : Int) (k1 : ByteArray → Int → Rows → Rows → Rows → Int → Int → Option α) : Option α := f10_0g f28_0 α x1 x2 x3 x4 x5 x6 x7 k1
def pa10_0 : PT (List DV) := pA [pV true [dS, (dI .i64), dL, dL, dL, (dI .i64), (dI .i64)]]
def Fn10_0 (v : Tf10_0) (α : Type) (k : List RV → Option α) : ByteArray → Int → Rows → Rows → Rows → Int → Int → Option α := fun x1 x2 x3 x4 x5 x6 x7 => v α x1 x2 x3 x4 x5 x6 x7 (fun (y1 : ByteArray) (y2 : Int) (y3 : Rows) (y4 : Rows) (y5 : Rows) (y6 : Int) (y7 : Int) => ur10_0_0 k y1 y2 y3 y4 y5 y6 y7)
noncomputable def cm10_0g  : MCode := (.seq (.region r10_2 [] (some ⟨[1, 2], true, [⟨true, 2, 2, 30202, 1⟩, ⟨true, 2, 3, 30203, 1⟩, ⟨true, 2, 4, 30204, 1⟩], []⟩)) (.seq (.region r10_4 [(1, 6), (3, 6), (1, 7), (3, 7), (5, 7), (6, 7), (6, 9), (7, 9), (1, 10), (3, 10), (1, 11), (3, 11), (5, 11), (6, 11), (7, 11), (9, 11), (10, 11), (6, 13), (7, 13), (10, 13), (11, 13), (1, 14), (3, 14), (6, 16), (7, 16), (10, 16), (11, 16), (14, 16)] (some ⟨[2], true, [⟨true, 2, 2, 30202, 1⟩, ⟨true, 2, 3, 30203, 1⟩, ⟨true, 2, 4, 30204, 1⟩], []⟩)) .ret))
noncomputable def cm10_0 : MCode := cm10_0g 
theorem gm10_0 : cm10_0.Good Try.prog E10_0 sh10 := ⟨trivial, ⟨trivial, trivial⟩⟩
theorem fm10_0g (vf28_0 : Tf28_0)  (α : Type) (k : List RV → Option α) : Fn10_0 (f10_0g vf28_0) α k = pa10_0.unc fun ds => fnM Try.prog (E10_0g vf28_0) sh10 (cm10_0g ) rs10 k ds := by kernel_rfl
theorem fm10_0 : ∀ (α : Type) (k : List RV → Option α), Fn10_0 f10_0 α k = pa10_0.unc fun ds => fnM Try.prog E10_0 sh10 cm10_0 rs10 k ds := fm10_0g f28_0
theorem is10 : FnIs Try.prog 10 nt10 tr10 tl10 cm10_0.erase rs10 := ⟨Try.f10, Try.func10, rfl, by kernel_rfl, by kernel_rfl, by kernel_rfl⟩
theorem io10_0 : InstOk Try.prog 10 nt10 ⟨pa10_0, Fn10_0 f10_0⟩ := inst_ok eo10_0 followsTry is10 ⟨⟨sh10, cm10_0, by kernel_rfl, gm10_0, fm10_0⟩⟩
abbrev nt8 : Nat := 25
def sh8 : List (Nat × List Sh) := [(4, [.sl]), (9, [.sl]), (15, [.sl]), (21, [.str])]
def r8_2 : List AOper := [oO 1 (.box (.tmp 0)), oO 2 (.mv (.const (.bool false)))]
def r8_4 : List AOper := [oO 3 (.faddr 2 (.tmp 1)), oO 4 (.load false 1 (.tmp 3)), oO 5 (.len (.tmp 4)), oO 6 (.call 24 [(.tmp 5)]), oM 7 6, oG 8 (.faddr 3 (.tmp 1)) 7 true, oG 9 (.load false 1 (.tmp 8)) 7 true, oG 10 (.len (.tmp 9)) 7 true, oG 11 (.call 24 [(.tmp 10)]) 7 true, oO 12 (.pick (.tmp 7) (.tmp 11) (.const (.bool false))), oM 13 12, oG 14 (.faddr 4 (.tmp 1)) 13 true, oG 15 (.load false 1 (.tmp 14)) 13 true, oG 16 (.len (.tmp 15)) 13 true, oG 17 (.call 24 [(.tmp 16)]) 13 true, oO 18 (.pick (.tmp 13) (.tmp 17) (.const (.bool false))), oM 19 18, oG 20 (.faddr 0 (.tmp 1)) 19 true, oG 21 (.load false 1 (.tmp 20)) 19 true, oG 22 (.pure (oB (.call { callee := .builtin .len, args := #[(.tmp 21)], argTypes := #[9] }) 3)) 19 true, oG 23 (.bin .leq 3 (.tmp 22) (kI 20)) 19 true, oO 24 (.pick (.tmp 19) (.tmp 23) (.const (.bool false))), oM 2 24]
def tr8 : List (Nat × Tidy) := [tT 0 [1], tT 1 [2]]
def tl8 : List (Nat × Tidy) := []
def rs8 : List AResV := [.tmp 2]
def pr8_0_0 : PT (List RV) := pRs [pR false [rD dB]]
def ur8_0_0 {β : Type} (g : List RV → β) : Bool → β := pr8_0_0.unc g
def E8_0g (vf24_0 : Tf24_0) : EnvK := EnvK.of [⟨24, nt24, [⟨pa24_0, Fn24_0 vf24_0⟩]⟩] noSeq
noncomputable def E8_0 : EnvK := E8_0g f24_0
theorem eo8_0 : E8_0.Ok Try.prog := EnvK.of_ok noSeq_ok ⟨⟨io24_0, trivial⟩, trivial⟩
abbrev Tf8_0 : Type 1 := (α : Type) → ByteArray → Int → Rows → Rows → Rows → Int → Int → (Bool → Option α) → Option α
def f8_0g (vf24_0 : Tf24_0) (α : Type) (x1 : ByteArray) (x2 : Int) (x3 x4 x5 : Rows) (x6 x7 : Int) (k1 : Bool → Option α) : Option α :=
 vf24_0 α ((List.length x3 : Nat) : Int)
 (fun x8 => cK x8
 (vf24_0 α ((List.length x4 : Nat) : Int)
 (fun x9 => cK x9
 (vf24_0 α ((List.length x5 : Nat) : Int)
 (fun x10 => cK x10
 (k1 (decide (((ByteArray.size x1 : Nat) : Int) ≤ 20)))
 (k1 false)))
 (k1 false)))
 (k1 false))
noncomputable def f8_0 (α : Type) (x1 : ByteArray) (x2 : Int) (x3 x4 x5 : Rows) (x6 x7 : Int) (k1 : Bool → Option α) : Option α := f8_0g f24_0 α x1 x2 x3 x4 x5 x6 x7 k1
def pa8_0 : PT (List DV) := pA [pV true [dS, (dI .i64), dL, dL, dL, (dI .i64), (dI .i64)]]
def Fn8_0 (v : Tf8_0) (α : Type) (k : List RV → Option α) : ByteArray → Int → Rows → Rows → Rows → Int → Int → Option α := fun x1 x2 x3 x4 x5 x6 x7 => v α x1 x2 x3 x4 x5 x6 x7 (fun (y1 : Bool) => ur8_0_0 k y1)
noncomputable def cm8_0g  : MCode := (.seq (.region r8_2 [] (tO [1])) (.seq (.region r8_4 [] (tO [2])) .ret))
noncomputable def cm8_0 : MCode := cm8_0g 
theorem gm8_0 : cm8_0.Good Try.prog E8_0 sh8 := ⟨trivial, ⟨trivial, trivial⟩⟩
theorem fm8_0g (vf24_0 : Tf24_0)  (α : Type) (k : List RV → Option α) : Fn8_0 (f8_0g vf24_0) α k = pa8_0.unc fun ds => fnM Try.prog (E8_0g vf24_0) sh8 (cm8_0g ) rs8 k ds := by kernel_rfl
theorem fm8_0 : ∀ (α : Type) (k : List RV → Option α), Fn8_0 f8_0 α k = pa8_0.unc fun ds => fnM Try.prog E8_0 sh8 cm8_0 rs8 k ds := fm8_0g f24_0
theorem is8 : FnIs Try.prog 8 nt8 tr8 tl8 cm8_0.erase rs8 := ⟨Try.f8, Try.func8, rfl, by kernel_rfl, by kernel_rfl, by kernel_rfl⟩
theorem io8_0 : InstOk Try.prog 8 nt8 ⟨pa8_0, Fn8_0 f8_0⟩ := inst_ok eo8_0 followsTry is8 ⟨⟨sh8, cm8_0, by kernel_rfl, gm8_0, fm8_0⟩⟩
abbrev nt126 : Nat := 18
def sh126 : List (Nat × List Sh) := [(5, [.int .i64, .int .i64]), (7, [.int .i64]), (10, [.int .i64, .int .i64]), (12, [.int .i64])]
def r126_2 : List AOper := [oO 2 (.box (.tmp 0)), oO 3 (.box (.tmp 1)), oO 4 (.alloc [(cI 0), (cI 0), (cI 0), (cI 0)])]
def r126_4 : List AOper := [oO 5 (.load true 2 (.tmp 2)), oO 6 (.faddr 1 (.tmp 3)), oO 7 (.load false 1 (.tmp 6)), oO 8 (.call 129 [(.tmp 5), (.tmp 7), (kI 1)]), oO 9 (.call 61 [(.tmp 8)]), oO 10 (.load true 2 (.tmp 2)), oO 11 (.faddr 0 (.tmp 3)), oO 12 (.load false 1 (.tmp 11)), oO 13 (.call 129 [(.tmp 10), (.tmp 12), (kI 1)]), oO 14 (.call 62 [(.tmp 13)]), oO 15 (.build [(cI 0), (cI 0)] [(0, 1, (.tmp 9)), (1, 1, (.tmp 14))]), oO 16 (.build [(cI 0), (cI 0)] []), oO 17 (.build [(cI 0), (cI 0), (cI 0), (cI 0)] [(0, 2, (.tmp 15)), (2, 2, (.tmp 16))]), oD (.store 4 (.tmp 4) (.tmp 17))]
def tr126 : List (Nat × Tidy) := [tT 0 [2, 3, 4], tT 1 [4]]
def tl126 : List (Nat × Tidy) := []
def rs126 : List AResV := [.cell 4 true 4]
def pr126_0_0 : PT (List RV) := pRs [pR true [rD (dI .i64), rD (dI .i64), rD (dI .i64), rD (dI .i64)]]
def ur126_0_0 {β : Type} (g : List RV → β) : Int → Int → Int → Int → β := pr126_0_0.unc g
def E126_0g (vf129_0 : Tf129_0) (vf61_0 : Tf61_0) (vf62_0 : Tf62_0) : EnvK := EnvK.of [⟨129, nt129, [⟨pa129_0, Fn129_0 vf129_0⟩]⟩, ⟨61, nt61, [⟨pa61_0, Fn61_0 vf61_0⟩]⟩, ⟨62, nt62, [⟨pa62_0, Fn62_0 vf62_0⟩]⟩] noSeq
noncomputable def E126_0 : EnvK := E126_0g f129_0 f61_0 f62_0
theorem eo126_0 : E126_0.Ok Try.prog := EnvK.of_ok noSeq_ok ⟨⟨io129_0, trivial⟩, ⟨io61_0, trivial⟩, ⟨io62_0, trivial⟩, trivial⟩
abbrev Tf126_0 : Type 1 := (α : Type) → Int → Int → Int → Int → (Int → Int → Option α) → Option α
def f126_0g (vf129_0 : Tf129_0) (vf61_0 : Tf61_0) (vf62_0 : Tf62_0) (α : Type) (x1 x2 x3 x4 : Int) (k1 : Int → Int → Option α) : Option α :=
 vf129_0 α x1 x2 x4 1
 (fun x5 x6 => vf61_0 α x5 x6
 (fun x7 => vf129_0 α x1 x2 x3 1
 (fun x8 x9 => vf62_0 α x8 x9
 (fun x10 => k1 x7 x10))))
noncomputable def f126_0 (α : Type) (x1 x2 x3 x4 : Int) (k1 : Int → Int → Option α) : Option α := f126_0g f129_0 f61_0 f62_0 α x1 x2 x3 x4 k1
def pa126_0 : PT (List DV) := pA [pV true [(dI .i64), (dI .i64)], pV true [(dI .i64), (dI .i64)]]
def Fn126_0 (v : Tf126_0) (α : Type) (k : List RV → Option α) : Int → Int → Int → Int → Option α := fun x1 x2 x3 x4 => v α x1 x2 x3 x4 (fun (y1 : Int) (y2 : Int) => ur126_0_0 k y1 y2 0 0)
noncomputable def cm126_0g  : MCode := (.seq (.region r126_2 [] (tO [2, 3, 4])) (.seq (.region r126_4 [(3, 5), (4, 5), (3, 7), (4, 7)] (tO [4])) .ret))
noncomputable def cm126_0 : MCode := cm126_0g 
theorem gm126_0 : cm126_0.Good Try.prog E126_0 sh126 := ⟨trivial, ⟨trivial, trivial⟩⟩
theorem fm126_0g (vf129_0 : Tf129_0) (vf61_0 : Tf61_0) (vf62_0 : Tf62_0)  (α : Type) (k : List RV → Option α) : Fn126_0 (f126_0g vf129_0 vf61_0 vf62_0) α k = pa126_0.unc fun ds => fnM Try.prog (E126_0g vf129_0 vf61_0 vf62_0) sh126 (cm126_0g ) rs126 k ds := by kernel_rfl
theorem fm126_0 : ∀ (α : Type) (k : List RV → Option α), Fn126_0 f126_0 α k = pa126_0.unc fun ds => fnM Try.prog E126_0 sh126 cm126_0 rs126 k ds := fm126_0g f129_0 f61_0 f62_0
theorem is126 : FnIs Try.prog 126 nt126 tr126 tl126 cm126_0.erase rs126 := ⟨Try.f126, Try.func126, rfl, by kernel_rfl, by kernel_rfl, by kernel_rfl⟩
theorem io126_0 : InstOk Try.prog 126 nt126 ⟨pa126_0, Fn126_0 f126_0⟩ := inst_ok eo126_0 followsTry is126 ⟨⟨sh126, cm126_0, by kernel_rfl, gm126_0, fm126_0⟩⟩
abbrev nt39 : Nat := 8
def sh39 : List (Nat × List Sh) := [(3, [.int .i64, .int .i64]), (5, [.int .i64, .int .i64])]
def r39_2 : List AOper := [oO 1 (.box (.tmp 0)), oO 2 (.alloc [(cI 0), (cI 0)])]
def r39_4 : List AOper := [oO 3 (.load true 2 (.tmp 1)), oO 4 (.call 61 [(.tmp 3)]), oO 5 (.load true 2 (.tmp 1)), oO 6 (.call 62 [(.tmp 5)]), oO 7 (.build [(cI 0), (cI 0)] [(0, 1, (.tmp 4)), (1, 1, (.tmp 6))]), oD (.store 2 (.tmp 2) (.tmp 7))]
def tr39 : List (Nat × Tidy) := [tT 0 [1, 2], tT 1 [2]]
def tl39 : List (Nat × Tidy) := []
def rs39 : List AResV := [.cell 2 true 2]
def pr39_0_0 : PT (List RV) := pRs [pR true [rD (dI .i64), rD (dI .i64)]]
def ur39_0_0 {β : Type} (g : List RV → β) : Int → Int → β := pr39_0_0.unc g
def E39_0g (vf61_0 : Tf61_0) (vf62_0 : Tf62_0) : EnvK := EnvK.of [⟨61, nt61, [⟨pa61_0, Fn61_0 vf61_0⟩]⟩, ⟨62, nt62, [⟨pa62_0, Fn62_0 vf62_0⟩]⟩] noSeq
noncomputable def E39_0 : EnvK := E39_0g f61_0 f62_0
theorem eo39_0 : E39_0.Ok Try.prog := EnvK.of_ok noSeq_ok ⟨⟨io61_0, trivial⟩, ⟨io62_0, trivial⟩, trivial⟩
abbrev Tf39_0 : Type 1 := (α : Type) → Int → Int → (Int → Int → Option α) → Option α
def f39_0g (vf61_0 : Tf61_0) (vf62_0 : Tf62_0) (α : Type) (x1 x2 : Int) (k1 : Int → Int → Option α) : Option α :=
 vf61_0 α x1 x2
 (fun x3 => vf62_0 α x1 x2
 (fun x4 => k1 x3 x4))
noncomputable def f39_0 (α : Type) (x1 x2 : Int) (k1 : Int → Int → Option α) : Option α := f39_0g f61_0 f62_0 α x1 x2 k1
def pa39_0 : PT (List DV) := pA [pV true [(dI .i64), (dI .i64)]]
def Fn39_0 (v : Tf39_0) (α : Type) (k : List RV → Option α) : Int → Int → Option α := fun x1 x2 => v α x1 x2 (fun (y1 : Int) (y2 : Int) => ur39_0_0 k y1 y2)
noncomputable def cm39_0g  : MCode := (.seq (.region r39_2 [] (tO [1, 2])) (.seq (.region r39_4 [(1, 2)] (tO [2])) .ret))
noncomputable def cm39_0 : MCode := cm39_0g 
theorem gm39_0 : cm39_0.Good Try.prog E39_0 sh39 := ⟨trivial, ⟨trivial, trivial⟩⟩
theorem fm39_0g (vf61_0 : Tf61_0) (vf62_0 : Tf62_0)  (α : Type) (k : List RV → Option α) : Fn39_0 (f39_0g vf61_0 vf62_0) α k = pa39_0.unc fun ds => fnM Try.prog (E39_0g vf61_0 vf62_0) sh39 (cm39_0g ) rs39 k ds := by kernel_rfl
theorem fm39_0 : ∀ (α : Type) (k : List RV → Option α), Fn39_0 f39_0 α k = pa39_0.unc fun ds => fnM Try.prog E39_0 sh39 cm39_0 rs39 k ds := fm39_0g f61_0 f62_0
theorem is39 : FnIs Try.prog 39 nt39 tr39 tl39 cm39_0.erase rs39 := ⟨Try.f39, Try.func39, rfl, by kernel_rfl, by kernel_rfl, by kernel_rfl⟩
theorem io39_0 : InstOk Try.prog 39 nt39 ⟨pa39_0, Fn39_0 f39_0⟩ := inst_ok eo39_0 followsTry is39 ⟨⟨sh39, cm39_0, by kernel_rfl, gm39_0, fm39_0⟩⟩
abbrev nt66 : Nat := 23
def sh66 : List (Nat × List Sh) := []
def r66_2 : List AOper := [oO 2 (.mv (kI 0)), oO 3 (.mv (.const (.bool false)))]
def r66_4 : List AOper := [oM 5 0, oO 6 (.pure (oB (.convert 66 65 (.tmp 5)) 65)), oM 4 6]
def r66_7 : List AOper := [oM 7 4, oO 8 (.call 76 [(.tmp 7)]), oM 9 8, oG 10 (.mv (.tmp 4)) 9 false, oG 11 (.call 77 [(.tmp 10), (kI 0)]) 9 false, oO 12 (.pick (.tmp 9) (.const (.bool true)) (.tmp 11)), oM 13 12, oG 14 (.mv (.tmp 4)) 13 false, oG 15 (.call 78 [(.tmp 14)]) 13 false, oG 16 (.mv (.tmp 4)) 13 false, oG 17 (.bin .neq 65 (.tmp 15) (.tmp 16)) 13 false, oO 18 (.pick (.tmp 13) (.const (.bool true)) (.tmp 17))]
def r66_10 : List AOper := [oO 2 (.mv (kI 0)), oO 3 (.mv (.const (.bool false)))]
def r66_12 : List AOper := [oM 19 4, oO 20 (.pure (oB (.call { callee := .builtin .min, args := #[(.const (.float Go.FloatKind.f64 4741671816366391296)), (.tmp 19)], argTypes := #[65, 65] }) 65)), oO 21 (.pure (oB (.call { callee := .builtin .max, args := #[(.const (.float Go.FloatKind.f64 13965043853221167104)), (.tmp 20)], argTypes := #[65, 65] }) 65)), oO 22 (.pure (oB (.convert 65 3 (.tmp 21)) 3)), oM 2 22, oO 3 (.mv (.const (.bool true)))]
def tr66 : List (Nat × Tidy) := [tT 0 [0], tT 1 [4], tT 2 [4, 18], tT 3 [2, 3], tT 4 [2, 3]]
def tl66 : List (Nat × Tidy) := []
def rs66 : List AResV := [.tmp 2, .tmp 3]
def p66_0_0 : PT St := pS [sl 0 (aV false [(cD (dF .f32))])] []
def u66_0_0 {β : Type} (g : St → β) : Nat → β := p66_0_0.unc g
def p66_0_1 : PT St := pS [sl 4 (aV false [(cD (dNan .f64))])] []
def u66_0_1 {β : Type} (g : St → β) : β := p66_0_1.unc g
def p66_0_2 : PT St := pS [sl 4 (aV false [(cD (dF .f64))])] []
def u66_0_2 {β : Type} (g : St → β) : Nat → β := p66_0_2.unc g
def pr66_0_0 : PT (List RV) := pRs [pR false [rD (dI .i64)], pR false [rD dB]]
def ur66_0_0 {β : Type} (g : List RV → β) : Int → Bool → β := pr66_0_0.unc g
def E66_0g (vf76_0 : Tf76_0) (vf76_1 : Tf76_1) (vf77_0 : Tf77_0) (vf78_0 : Tf78_0) : EnvK := EnvK.of [⟨76, nt76, [⟨pa76_0, Fn76_0 vf76_0⟩, ⟨pa76_1, Fn76_1 vf76_1⟩]⟩, ⟨77, nt77, [⟨pa77_0, Fn77_0 vf77_0⟩]⟩, ⟨78, nt78, [⟨pa78_0, Fn78_0 vf78_0⟩]⟩] noSeq
noncomputable def E66_0 : EnvK := E66_0g f76_0 f76_1 f77_0 f78_0
theorem eo66_0 : E66_0.Ok Try.prog := EnvK.of_ok noSeq_ok ⟨⟨io76_0, io76_1, trivial⟩, ⟨io77_0, trivial⟩, ⟨io78_0, trivial⟩, trivial⟩
noncomputable def c66_0_3g  : MCode := (.region r66_4 [] (tO [4]))
noncomputable def c66_0_3 : MCode := c66_0_3g 
theorem g66_0_3 : c66_0_3.Good Try.prog E66_0 sh66 := trivial
--CODE 3 0
abbrev TJ66_0_0 : Type 1 := (α : Type) → Nat → (Option α) → (Nat → Option α) → Option α
def J66_0_0g  (α : Type) (x2 : Nat) (k1 : Option α) (k2 : Nat → Option α) : Option α :=
 cK (isNaNb .f32 x2)
 (k1)
 (flK (f2f .f32 x2 .f64)
 (fun x4 => k2 x4))
noncomputable def J66_0_0 (α : Type) (x2 : Nat) (k1 : Option α) (k2 : Nat → Option α) : Option α := J66_0_0g  α x2 k1 k2
def F66_0_0 (v : TJ66_0_0) (α : Type) (K : Exit → St → Option α) : Nat → Option α := fun x2 => v α x2 (u66_0_1 (K .normal) ) (fun (y1 : Nat) => u66_0_2 (K .normal) y1) 
theorem m66_0_0g (vf76_0 : Tf76_0) (vf76_1 : Tf76_1) (vf77_0 : Tf77_0) (vf78_0 : Tf78_0)  (α : Type) (K : Exit → St → Option α) : F66_0_0 (J66_0_0g ) α K = p66_0_0.unc fun σ => runM Try.prog (E66_0g vf76_0 vf76_1 vf77_0 vf78_0) sh66 (c66_0_3g ) K σ := by kernel_rfl
theorem m66_0_0 : ∀ (α : Type) (K : Exit → St → Option α), F66_0_0 J66_0_0 α K = p66_0_0.unc fun σ => runM Try.prog E66_0 sh66 c66_0_3 K σ := m66_0_0g f76_0 f76_1 f77_0 f78_0
abbrev Tf66_0 : Type 1 := (α : Type) → Nat → (Int → Bool → Option α) → Option α
def f66_0g (vJ66_0_0 : TJ66_0_0) (vf76_0 : Tf76_0) (vf76_1 : Tf76_1) (vf77_0 : Tf77_0) (vf78_0 : Tf78_0) (α : Type) (x1 : Nat) (k1 : Int → Bool → Option α) : Option α :=
 vJ66_0_0 α x1
 (vf76_0 α 
 (k1 0 false))
 (fun x5 => vf76_1 α x5
 (fun x7 => cK x7
 (k1 0 false)
 (vf77_0 α x5 0
 (fun x8 => cK x8
 (k1 0 false)
 (vf78_0 α x5
 (k1 0 false)
 (fun x9 => cK ((FloatKind.format .f64).order x9 x5 != some Ordering.eq)
 (k1 0 false)
 (flK (mxNat false .f64 4741671816366391296 x5)
 (fun x10 => flK (mxNat true .f64 13965043853221167104 x10)
 (fun x11 => ivK (f2i .f64 x11 .i64)
 (fun x12 => k1 x12 true))))))))))
noncomputable def f66_0 (α : Type) (x1 : Nat) (k1 : Int → Bool → Option α) : Option α := f66_0g J66_0_0 f76_0 f76_1 f77_0 f78_0 α x1 k1
def pa66_0 : PT (List DV) := pA [pV false [(dF .f32)]]
def Fn66_0 (v : Tf66_0) (α : Type) (k : List RV → Option α) : Nat → Option α := fun x1 => v α x1 (fun (y1 : Int) (y2 : Bool) => ur66_0_0 k y1 y2)
noncomputable def cm66_0g (vJ66_0_0 : TJ66_0_0) : MCode := (.seq (.region r66_2 [] (tO [0])) (.seq (.mark [⟨p66_0_0, F66_0_0 vJ66_0_0⟩] c66_0_3) (.seq (.seq (.region r66_7 [] (tO [4, 18])) (.cond (.tmp 18) (.seq (.region r66_10 [] (tO [2, 3])) .ret) .skip)) (.seq (.region r66_12 [] (tO [2, 3])) .ret))))
noncomputable def cm66_0 : MCode := cm66_0g J66_0_0
theorem gm66_0 : cm66_0.Good Try.prog E66_0 sh66 := ⟨trivial, ⟨⟨g66_0_3, m66_0_0, trivial⟩, ⟨⟨trivial, ⟨⟨trivial, trivial⟩, trivial⟩⟩, ⟨trivial, trivial⟩⟩⟩⟩
theorem fm66_0g (vf76_0 : Tf76_0) (vf76_1 : Tf76_1) (vf77_0 : Tf77_0) (vf78_0 : Tf78_0) (vJ66_0_0 : TJ66_0_0) (α : Type) (k : List RV → Option α) : Fn66_0 (f66_0g vJ66_0_0 vf76_0 vf76_1 vf77_0 vf78_0) α k = pa66_0.unc fun ds => fnM Try.prog (E66_0g vf76_0 vf76_1 vf77_0 vf78_0) sh66 (cm66_0g vJ66_0_0) rs66 k ds := by kernel_rfl
theorem fm66_0 : ∀ (α : Type) (k : List RV → Option α), Fn66_0 f66_0 α k = pa66_0.unc fun ds => fnM Try.prog E66_0 sh66 cm66_0 rs66 k ds := fm66_0g f76_0 f76_1 f77_0 f78_0 J66_0_0
theorem is66 : FnIs Try.prog 66 nt66 tr66 tl66 cm66_0.erase rs66 := ⟨Try.f66, Try.func66, rfl, by kernel_rfl, by kernel_rfl, by kernel_rfl⟩
theorem io66_0 : InstOk Try.prog 66 nt66 ⟨pa66_0, Fn66_0 f66_0⟩ := inst_ok eo66_0 followsTry is66 ⟨⟨sh66, cm66_0, by kernel_rfl, gm66_0, fm66_0⟩⟩
abbrev nt120 : Nat := 77
def sh120 : List (Nat × List Sh) := [(15, [.int .i64]), (17, [.int .i64]), (21, [.sl]), (25, [.int .i64]), (26, [.int .i64]), (29, [.int .i64]), (31, [.int .i64]), (43, [.int .i64]), (44, [.int .i64]), (45, [.str, .int .i64, .sl, .sl, .sl, .int .i64, .int .i64]), (52, [.int .i64, .int .i64]), (59, [.int .i64]), (61, [.int .i64]), (66, [.int .i64]), (68, [.int .i64]), (72, [.int .i64, .int .i64]), (76, [.int .i64, .int .i64, .int .i64, .int .i64])]
def r120_2 : List AOper := [oO 2 (.box (.tmp 0)), oO 3 (.box (.tmp 1)), oO 4 (.alloc [(cI 0), (cI 0), (cI 0), (cI 0)])]
def r120_4 : List AOper := [oO 14 (.faddr 0 (.tmp 3)), oO 15 (.load false 1 (.tmp 14)), oO 16 (.faddr 1 (.tmp 3)), oO 17 (.load false 1 (.tmp 16)), oO 18 (.bslice 1 2 [(.v (.int .i64 0))] [(0, (.tmp 15)), (1, (.tmp 17))]), oM 5 18]
def r120_7 : List AOper := [oO 19 (.faddr 0 (.tmp 2)), oO 20 (.faddr 2 (.tmp 19)), oO 21 (.load false 1 (.tmp 20)), oO 22 (.len (.tmp 21)), oO 23 (.mv (kI 0))]
def td120_9 : Option Tidy := (some ⟨[2, 3, 4, 5, 21, 22, 23], true, [⟨false, 5, 0, 20005, 1⟩, ⟨false, 21, 0, 20021, 1⟩, ⟨true, 2, 2, 30202, 1⟩, ⟨true, 2, 3, 30203, 1⟩, ⟨true, 2, 4, 30204, 1⟩], []⟩)
def r120_11 : List AOper := [oO 24 (.bin .lss 3 (.tmp 23) (.tmp 22))]
def r120_17 : List AOper := [oO 25 (.iaddr 1 none (.tmp 21) (.tmp 23)), oO 26 (.load false 1 (.tmp 25)), oM 7 26]
def r120_19 : List AOper := [oM 27 7, oO 28 (.faddr 0 (.tmp 3)), oO 29 (.load false 1 (.tmp 28)), oO 30 (.faddr 1 (.tmp 3)), oO 31 (.load false 1 (.tmp 30)), oO 32 (.call 34 [(.tmp 27), (.tmp 29), (.tmp 31)])]
def r120_21 : List AOper := [oM 33 5, oM 34 7, oO 35 (.bslice 1 1 [(.v (.int .i64 0))] [(0, (.tmp 34))]), oO 36 (.append 1 8 (.tmp 33) (.tmp 35)), oM 5 36]
def r120_22 : List AOper := [oO 37 (.bin .add 3 (.tmp 23) (kI 1)), oM 23 37]
def r120_24 : List AOper := [oO 8 (.alloc [(cI 0), (cI 0), (cI 0), (cI 0)])]
def r120_27 : List AOper := [oM 38 5, oO 39 (.len (.tmp 38)), oO 40 (.mv (kI 0))]
def td120_29 : Option Tidy := (some ⟨[2, 4, 8, 38, 39, 40], true, [⟨false, 38, 0, 20038, 1⟩, ⟨true, 2, 2, 30202, 1⟩, ⟨true, 2, 3, 30203, 1⟩, ⟨true, 2, 4, 30204, 1⟩], []⟩)
def r120_31 : List AOper := [oO 41 (.bin .lss 3 (.tmp 40) (.tmp 39))]
def r120_37 : List AOper := [oM 42 40, oO 43 (.iaddr 1 none (.tmp 38) (.tmp 40)), oO 44 (.load false 1 (.tmp 43)), oM 9 42, oM 10 44]
def r120_39 : List AOper := [oO 45 (.load true 7 (.tmp 2)), oM 46 10, oO 47 (.call 119 [(.tmp 45), (.tmp 46)]), oO 48 (.mv (kI 0))]
def td120_41 : Option Tidy := (some ⟨[2, 4, 8, 9, 38, 39, 40, 47, 48], true, [⟨false, 38, 0, 20038, 1⟩, ⟨true, 2, 2, 30202, 1⟩, ⟨true, 2, 3, 30203, 1⟩, ⟨true, 2, 4, 30204, 1⟩], []⟩)
def r120_43 : List AOper := [oO 49 (.bin .lss 3 (.tmp 48) (kI 2))]
def r120_49 : List AOper := [oM 50 48, oO 51 (.index true 2 2 (.tmp 47) (.tmp 48)), oO 12 (.alloc [(cI 0), (cI 0)]), oM 11 50, oD (.store 2 (.tmp 12) (.tmp 51))]
def r120_51 : List AOper := [oO 52 (.load true 2 (.tmp 12)), oO 53 (.call 39 [(.tmp 52)]), oO 13 (.alloc [(cI 0), (cI 0)]), oD (.store 2 (.tmp 13) (.tmp 53))]
def r120_54 : List AOper := [oM 54 9, oO 55 (.bin .gtr 3 (.tmp 54) (kI 0))]
def r120_56 : List AOper := [oM 56 11, oO 57 (.iaddr 2 (some 2) (.tmp 8) (.tmp 56)), oO 58 (.faddr 0 (.tmp 57)), oO 59 (.load false 1 (.tmp 58)), oO 60 (.faddr 0 (.tmp 13)), oO 61 (.load false 1 (.tmp 60)), oO 62 (.pure (oB (.call { callee := .builtin .min, args := #[(.tmp 59), (.tmp 61)], argTypes := #[3, 3] }) 3)), oM 63 11, oO 64 (.iaddr 2 (some 2) (.tmp 8) (.tmp 63)), oO 65 (.faddr 1 (.tmp 64)), oO 66 (.load false 1 (.tmp 65)), oO 67 (.faddr 1 (.tmp 13)), oO 68 (.load false 1 (.tmp 67)), oO 69 (.pure (oB (.call { callee := .builtin .max, args := #[(.tmp 66), (.tmp 68)], argTypes := #[3, 3] }) 3)), oO 70 (.build [(cI 0), (cI 0)] [(0, 1, (.tmp 62)), (1, 1, (.tmp 69))]), oD (.store 2 (.tmp 13) (.tmp 70))]
def r120_57 : List AOper := [oM 71 11, oO 72 (.load true 2 (.tmp 13)), oO 73 (.iaddr 2 (some 2) (.tmp 8) (.tmp 71)), oD (.store 2 (.tmp 73) (.tmp 72))]
def r120_58 : List AOper := [oO 74 (.bin .add 3 (.tmp 48) (kI 1)), oM 48 74]
def r120_59 : List AOper := [oO 75 (.bin .add 3 (.tmp 40) (kI 1)), oM 40 75]
def r120_61 : List AOper := [oO 76 (.load true 4 (.tmp 8)), oD (.store 4 (.tmp 4) (.tmp 76))]
def tr120 : List (Nat × Tidy) := [tT 0 [2, 3, 4], tT 1 [2, 3, 4, 5], tT 2 [2, 3, 4, 5, 21, 22, 23], tT 3 [2, 3, 4, 5, 21, 22, 23, 24], tT 4 [2, 3, 4, 5, 7, 21, 22, 23], tT 5 [2, 3, 4, 5, 7, 21, 22, 23, 32], tT 6 [2, 3, 4, 5, 21, 22, 23], tT 7 [2, 3, 4, 5, 21, 22, 23], tT 8 [2, 4, 5, 8], tT 9 [2, 4, 8, 38, 39, 40], tT 10 [2, 4, 8, 38, 39, 40, 41], tT 11 [2, 4, 8, 9, 10, 38, 39, 40], tT 12 [2, 4, 8, 9, 38, 39, 40, 47, 48], tT 13 [2, 4, 8, 9, 38, 39, 40, 47, 48, 49], tT 14 [2, 4, 8, 9, 11, 12, 38, 39, 40, 47, 48], tT 15 [2, 4, 8, 9, 11, 13, 38, 39, 40, 47, 48], tT 16 [2, 4, 8, 9, 11, 13, 38, 39, 40, 47, 48, 55], tT 17 [2, 4, 8, 9, 11, 13, 38, 39, 40, 47, 48], tT 18 [2, 4, 8, 9, 38, 39, 40, 47, 48], tT 19 [2, 4, 8, 9, 38, 39, 40, 47, 48], tT 20 [2, 4, 8, 38, 39, 40], tT 21 [4]]
def tl120 : List (Nat × Tidy) := [(3, ⟨[2, 3, 4, 5, 21, 22, 23], true, [⟨false, 5, 0, 20005, 1⟩, ⟨false, 21, 0, 20021, 1⟩, ⟨true, 2, 2, 30202, 1⟩, ⟨true, 2, 3, 30203, 1⟩, ⟨true, 2, 4, 30204, 1⟩], []⟩), (10, ⟨[2, 4, 8, 38, 39, 40], true, [⟨false, 38, 0, 20038, 1⟩, ⟨true, 2, 2, 30202, 1⟩, ⟨true, 2, 3, 30203, 1⟩, ⟨true, 2, 4, 30204, 1⟩], []⟩), (13, ⟨[2, 4, 8, 9, 38, 39, 40, 47, 48], true, [⟨false, 38, 0, 20038, 1⟩, ⟨true, 2, 2, 30202, 1⟩, ⟨true, 2, 3, 30203, 1⟩, ⟨true, 2, 4, 30204, 1⟩], []⟩)]
def rs120 : List AResV := [.cell 4 true 4]
def p120_0_0 : PT St := pS [sl 2 (aV false [(cPtr 2 0)]), sl 3 (aV false [(cPtr 3 0)]), sl 4 (aV false [(cPtr 4 0)]), sl 5 (aV false [(cRef 20005)]), sl 21 (aV false [(cD dL)]), sl 22 (aV false [(cD (dI .i64))]), sl 23 (aV false [(cD (dI .i64))])] [eBox 2 [(cD dS), (cD (dI .i64)), (cD dL), (cD dL), (cD dL), (cD (dI .i64)), (cD (dI .i64))], eBox 3 [(cD (dI .i64)), (cD (dI .i64))], eBox 4 [(cD (dI .i64)), (cD (dI .i64)), (cD (dI .i64)), (cD (dI .i64))], eOwn 20005 1]
def u120_0_0 {β : Type} (g : St → β) : Rows → Int → Int → ByteArray → Int → Rows → Rows → Rows → Int → Int → Int → Int → Int → Int → Int → Int → Rows → β := p120_0_0.unc g
def p120_0_1 : PT St := pS [sl 2 (aV false [(cPtr 2 0)]), sl 3 (aV false [(cPtr 3 0)]), sl 4 (aV false [(cPtr 4 0)]), sl 5 (aV false [(cRef 20005)]), sl 21 (aV false [(cD dL)]), sl 22 (aV false [(cD (dI .i64))]), sl 23 (aV false [(cD (dI .i64))]), sl 24 (aV false [(cD dB)])] [eBox 2 [(cD dS), (cD (dI .i64)), (cD dL), (cD dL), (cD dL), (cD (dI .i64)), (cD (dI .i64))], eBox 3 [(cD (dI .i64)), (cD (dI .i64))], eBox 4 [(cD (dI .i64)), (cD (dI .i64)), (cD (dI .i64)), (cD (dI .i64))], eOwn 20005 1]
def u120_0_1 {β : Type} (g : St → β) : Rows → Int → Int → Bool → ByteArray → Int → Rows → Rows → Rows → Int → Int → Int → Int → Int → Int → Int → Int → Rows → β := p120_0_1.unc g
def p120_0_2 : PT St := pS [sl 2 (aV false [(cPtr 2 0)]), sl 4 (aV false [(cPtr 4 0)]), sl 8 (aV false [(cPtr 8 0)]), sl 9 (aV false [(cD (dI .i64))]), sl 38 (aV false [(cRef 20038)]), sl 39 (aV false [(cD (dI .i64))]), sl 40 (aV false [(cD (dI .i64))]), sl 47 (aV true [(cD (dI .i64)), (cD (dI .i64)), (cD (dI .i64)), (cD (dI .i64))]), sl 48 (aV false [(cD (dIc .i64 0))])] [eBox 2 [(cD dS), (cD (dI .i64)), (cD dL), (cD dL), (cD dL), (cD (dI .i64)), (cD (dI .i64))], eBox 4 [(cD (dI .i64)), (cD (dI .i64)), (cD (dI .i64)), (cD (dI .i64))], eBox 8 [(cD (dI .i64)), (cD (dI .i64)), (cD (dI .i64)), (cD (dI .i64))], eOwn 20038 1]
def u120_0_2 {β : Type} (g : St → β) : Int → Int → Int → Int → Int → Int → Int → ByteArray → Int → Rows → Rows → Rows → Int → Int → Int → Int → Int → Int → Int → Int → Int → Int → Rows → β := p120_0_2.unc g
def p120_0_3 : PT St := pS [sl 2 (aV false [(cPtr 2 0)]), sl 4 (aV false [(cPtr 4 0)]), sl 8 (aV false [(cPtr 8 0)]), sl 9 (aV false [(cD (dI .i64))]), sl 38 (aV false [(cRef 20038)]), sl 39 (aV false [(cD (dI .i64))]), sl 40 (aV false [(cD (dI .i64))]), sl 47 (aV true [(cD (dI .i64)), (cD (dI .i64)), (cD (dI .i64)), (cD (dI .i64))]), sl 48 (aV false [(cD (dIc .i64 1))])] [eBox 2 [(cD dS), (cD (dI .i64)), (cD dL), (cD dL), (cD dL), (cD (dI .i64)), (cD (dI .i64))], eBox 4 [(cD (dI .i64)), (cD (dI .i64)), (cD (dI .i64)), (cD (dI .i64))], eBox 8 [(cD (dI .i64)), (cD (dI .i64)), (cD (dI .i64)), (cD (dI .i64))], eOwn 20038 1]
def u120_0_3 {β : Type} (g : St → β) : Int → Int → Int → Int → Int → Int → Int → ByteArray → Int → Rows → Rows → Rows → Int → Int → Int → Int → Int → Int → Int → Int → Int → Int → Rows → β := p120_0_3.unc g
def p120_0_4 : PT St := pS [sl 2 (aV false [(cPtr 2 0)]), sl 4 (aV false [(cPtr 4 0)]), sl 8 (aV false [(cPtr 8 0)]), sl 9 (aV false [(cD (dI .i64))]), sl 38 (aV false [(cRef 20038)]), sl 39 (aV false [(cD (dI .i64))]), sl 40 (aV false [(cD (dI .i64))]), sl 47 (aV true [(cD (dI .i64)), (cD (dI .i64)), (cD (dI .i64)), (cD (dI .i64))]), sl 48 (aV false [(cD (dIc .i64 2))])] [eBox 2 [(cD dS), (cD (dI .i64)), (cD dL), (cD dL), (cD dL), (cD (dI .i64)), (cD (dI .i64))], eBox 4 [(cD (dI .i64)), (cD (dI .i64)), (cD (dI .i64)), (cD (dI .i64))], eBox 8 [(cD (dI .i64)), (cD (dI .i64)), (cD (dI .i64)), (cD (dI .i64))], eOwn 20038 1]
def u120_0_4 {β : Type} (g : St → β) : Int → Int → Int → Int → Int → Int → Int → ByteArray → Int → Rows → Rows → Rows → Int → Int → Int → Int → Int → Int → Int → Int → Int → Int → Rows → β := p120_0_4.unc g
def p120_0_5 : PT St := pS [sl 2 (aV false [(cPtr 2 0)]), sl 4 (aV false [(cPtr 4 0)]), sl 8 (aV false [(cPtr 8 0)]), sl 38 (aV false [(cRef 20038)]), sl 39 (aV false [(cD (dI .i64))]), sl 40 (aV false [(cD (dI .i64))])] [eBox 2 [(cD dS), (cD (dI .i64)), (cD dL), (cD dL), (cD dL), (cD (dI .i64)), (cD (dI .i64))], eBox 4 [(cD (dI .i64)), (cD (dI .i64)), (cD (dI .i64)), (cD (dI .i64))], eBox 8 [(cD (dI .i64)), (cD (dI .i64)), (cD (dI .i64)), (cD (dI .i64))], eOwn 20038 1]
def u120_0_5 {β : Type} (g : St → β) : Int → Int → ByteArray → Int → Rows → Rows → Rows → Int → Int → Int → Int → Int → Int → Int → Int → Int → Int → Rows → β := p120_0_5.unc g
def p120_0_6 : PT St := pS [sl 2 (aV false [(cPtr 2 0)]), sl 4 (aV false [(cPtr 4 0)]), sl 8 (aV false [(cPtr 8 0)]), sl 38 (aV false [(cRef 20038)]), sl 39 (aV false [(cD (dI .i64))]), sl 40 (aV false [(cD (dI .i64))]), sl 41 (aV false [(cD dB)])] [eBox 2 [(cD dS), (cD (dI .i64)), (cD dL), (cD dL), (cD dL), (cD (dI .i64)), (cD (dI .i64))], eBox 4 [(cD (dI .i64)), (cD (dI .i64)), (cD (dI .i64)), (cD (dI .i64))], eBox 8 [(cD (dI .i64)), (cD (dI .i64)), (cD (dI .i64)), (cD (dI .i64))], eOwn 20038 1]
def u120_0_6 {β : Type} (g : St → β) : Int → Int → Bool → ByteArray → Int → Rows → Rows → Rows → Int → Int → Int → Int → Int → Int → Int → Int → Int → Int → Rows → β := p120_0_6.unc g
def pr120_0_0 : PT (List RV) := pRs [pR true [rD (dI .i64), rD (dI .i64), rD (dI .i64), rD (dI .i64)]]
def ur120_0_0 {β : Type} (g : List RV → β) : Int → Int → Int → Int → β := pr120_0_0.unc g
def E120_0g (vf34_0 : Tf34_0) (vf119_0 : Tf119_0) (vf39_0 : Tf39_0) : EnvK := EnvK.of [⟨34, nt34, [⟨pa34_0, Fn34_0 vf34_0⟩]⟩, ⟨119, nt119, [⟨pa119_0, Fn119_0 vf119_0⟩]⟩, ⟨39, nt39, [⟨pa39_0, Fn39_0 vf39_0⟩]⟩] noSeq
noncomputable def E120_0 : EnvK := E120_0g f34_0 f119_0 f39_0
theorem eo120_0 : E120_0.Ok Try.prog := EnvK.of_ok noSeq_ok ⟨⟨io34_0, trivial⟩, ⟨io119_0, trivial⟩, ⟨io39_0, trivial⟩, trivial⟩
noncomputable def c120_0_41g  : MCode := (.seq (.region r120_43 [] (tO [2, 4, 8, 9, 38, 39, 40, 47, 48, 49])) (.seq (.cond (.tmp 49) .skip (.exit 4)) (.seq (.block 5 (.seq (.region r120_49 [] (tO [2, 4, 8, 9, 11, 12, 38, 39, 40, 47, 48])) (.seq (.region r120_51 [] (tO [2, 4, 8, 9, 11, 13, 38, 39, 40, 47, 48])) (.seq (.seq (.region r120_54 [] (tO [2, 4, 8, 9, 11, 13, 38, 39, 40, 47, 48, 55])) (.cond (.tmp 55) (.region r120_56 [] (tO [2, 4, 8, 9, 11, 13, 38, 39, 40, 47, 48])) .skip)) (.region r120_57 [] (tO [2, 4, 8, 9, 38, 39, 40, 47, 48])))))) (.region r120_58 [] (tO [2, 4, 8, 9, 38, 39, 40, 47, 48])))))
noncomputable def c120_0_41 : MCode := c120_0_41g 
theorem g120_0_41 : c120_0_41.Good Try.prog E120_0 sh120 := ⟨trivial, ⟨⟨trivial, trivial⟩, ⟨⟨trivial, ⟨trivial, ⟨⟨trivial, ⟨trivial, trivial⟩⟩, trivial⟩⟩⟩, trivial⟩⟩⟩
--CODE 41 0
abbrev TJ120_0_1 : Type 1 := (α : Type) → Int → Int → Int → Int → Int → (Int → Int → Option α) → Option α
def J120_0_1g (vf39_0 : Tf39_0) (α : Type) (x58 x61 x62 x76 x77 : Int) (k1 : Int → Int → Option α) : Option α :=
 vf39_0 α x61 x62
 (fun x82 x83 => cK (decide (0 < x58))
 (k1 (if x82 < x76 then x82 else x76) (if x83 > x77 then x83 else x77))
 (k1 x82 x83))
noncomputable def J120_0_1 (α : Type) (x58 x61 x62 x76 x77 : Int) (k1 : Int → Int → Option α) : Option α := J120_0_1g f39_0 α x58 x61 x62 x76 x77 k1
def F120_0_1 (v : TJ120_0_1) (α : Type) (K : Exit → St → Option α) : Int → Int → Int → Int → Int → Int → Int → ByteArray → Int → Rows → Rows → Rows → Int → Int → Int → Int → Int → Int → Int → Int → Int → Int → Rows → Option α := fun x58 x59 x60 x61 x62 x63 x64 x65 x66 x67 x68 x69 x70 x71 x72 x73 x74 x75 x76 x77 x78 x79 x80 => v α x58 x61 x62 x76 x77 (fun (y1 : Int) (y2 : Int) => u120_0_3 (K .normal) x58 x59 x60 x61 x62 x63 x64 x65 x66 x67 x68 x69 x70 x71 x72 x73 x74 x75 y1 y2 x78 x79 x80) 
theorem m120_0_1g (vf34_0 : Tf34_0) (vf119_0 : Tf119_0) (vf39_0 : Tf39_0)  (α : Type) (K : Exit → St → Option α) : F120_0_1 (J120_0_1g vf39_0) α K = p120_0_2.unc fun σ => runM Try.prog (E120_0g vf34_0 vf119_0 vf39_0) sh120 (c120_0_41g ) K σ := by kernel_rfl
theorem m120_0_1 : ∀ (α : Type) (K : Exit → St → Option α), F120_0_1 J120_0_1 α K = p120_0_2.unc fun σ => runM Try.prog E120_0 sh120 c120_0_41 K σ := m120_0_1g f34_0 f119_0 f39_0
--CODE 41 0
abbrev TJ120_0_2 : Type 1 := (α : Type) → Int → Int → Int → Int → Int → (Int → Int → Option α) → Option α
def J120_0_2g (vf39_0 : Tf39_0) (α : Type) (x87 x92 x93 x107 x108 : Int) (k1 : Int → Int → Option α) : Option α :=
 vf39_0 α x92 x93
 (fun x111 x112 => cK (decide (0 < x87))
 (k1 (if x111 < x107 then x111 else x107) (if x112 > x108 then x112 else x108))
 (k1 x111 x112))
noncomputable def J120_0_2 (α : Type) (x87 x92 x93 x107 x108 : Int) (k1 : Int → Int → Option α) : Option α := J120_0_2g f39_0 α x87 x92 x93 x107 x108 k1
def F120_0_2 (v : TJ120_0_2) (α : Type) (K : Exit → St → Option α) : Int → Int → Int → Int → Int → Int → Int → ByteArray → Int → Rows → Rows → Rows → Int → Int → Int → Int → Int → Int → Int → Int → Int → Int → Rows → Option α := fun x87 x88 x89 x90 x91 x92 x93 x94 x95 x96 x97 x98 x99 x100 x101 x102 x103 x104 x105 x106 x107 x108 x109 => v α x87 x92 x93 x107 x108 (fun (y1 : Int) (y2 : Int) => u120_0_4 (K .normal) x87 x88 x89 x90 x91 x92 x93 x94 x95 x96 x97 x98 x99 x100 x101 x102 x103 x104 x105 x106 y1 y2 x109) 
theorem m120_0_2g (vf34_0 : Tf34_0) (vf119_0 : Tf119_0) (vf39_0 : Tf39_0)  (α : Type) (K : Exit → St → Option α) : F120_0_2 (J120_0_2g vf39_0) α K = p120_0_3.unc fun σ => runM Try.prog (E120_0g vf34_0 vf119_0 vf39_0) sh120 (c120_0_41g ) K σ := by kernel_rfl
theorem m120_0_2 : ∀ (α : Type) (K : Exit → St → Option α), F120_0_2 J120_0_2 α K = p120_0_3.unc fun σ => runM Try.prog E120_0 sh120 c120_0_41 K σ := m120_0_2g f34_0 f119_0 f39_0
noncomputable def c120_0_29g (vJ120_0_1 : TJ120_0_1) (vJ120_0_2 : TJ120_0_2) : MCode := (.seq (.region r120_31 [] (tO [2, 4, 8, 38, 39, 40, 41])) (.seq (.cond (.tmp 41) .skip (.exit 2)) (.seq (.block 3 (.seq (.region r120_37 [] (tO [2, 4, 8, 9, 10, 38, 39, 40])) (.seq (.region r120_39 [] (tO [2, 4, 8, 9, 38, 39, 40, 47, 48])) (.block 4 (.loopU 3 td120_41 (.mark [⟨p120_0_2, F120_0_1 vJ120_0_1⟩, ⟨p120_0_3, F120_0_2 vJ120_0_2⟩] c120_0_41)))))) (.region r120_59 [] (tO [2, 4, 8, 38, 39, 40])))))
noncomputable def c120_0_29 : MCode := c120_0_29g J120_0_1 J120_0_2
theorem g120_0_29 : c120_0_29.Good Try.prog E120_0 sh120 := ⟨trivial, ⟨⟨trivial, trivial⟩, ⟨⟨trivial, ⟨trivial, ⟨⟨g120_0_41, m120_0_1, m120_0_2, trivial⟩, by decide⟩⟩⟩, trivial⟩⟩⟩
--CODE 29 0
def S120_0_3g (vJ120_0_1 : TJ120_0_1) (vJ120_0_2 : TJ120_0_2) (vf119_0 : Tf119_0) (α : Type) (x34 : Int) (x36 : ByteArray) (x37 : Int) (x38 x39 x40 : Rows) (x41 x42 : Int) (x51 : Rows) (x35 x47 x48 x49 x50 : Int) (kn : Int → Int → Int → Int → Int → Option α) (k1 : Int → Bool → Int → Int → Int → Int → Option α) : Option α :=
 cK (decide (x35 < x34))
 (ixK x51 x35 1
 (ldK x51 (Int.toNat x35) 0 [.int .i64]
 (fun x53 => vf119_0 α x36 x37 x38 x39 x40 x41 x42 x53
 (fun x54 x55 x56 x57 => vJ120_0_1 α x35 x54 x55 x47 x48
 (fun x84 x85 => vJ120_0_2 α x35 x56 x57 x49 x50
 (fun x113 x114 => kn (w64 (x35 + 1)) x84 x85 x113 x114))))))
 (k1 x35 (decide (x35 < x34)) x47 x48 x49 x50)
noncomputable def S120_0_3 (α : Type) (x34 : Int) (x36 : ByteArray) (x37 : Int) (x38 x39 x40 : Rows) (x41 x42 : Int) (x51 : Rows) (x35 x47 x48 x49 x50 : Int) (kn : Int → Int → Int → Int → Int → Option α) (k1 : Int → Bool → Int → Int → Int → Int → Option α) : Option α := S120_0_3g J120_0_1 J120_0_2 f119_0 α x34 x36 x37 x38 x39 x40 x41 x42 x51 x35 x47 x48 x49 x50 kn k1
noncomputable def R120_0_3 (α : Type) (x34 : Int) (x36 : ByteArray) (x37 : Int) (x38 x39 x40 : Rows) (x41 x42 : Int) (x51 : Rows) (k1 : Int → Bool → Int → Int → Int → Int → Option α) : Nat → Int → Int → Int → Int → Int → Option α
 | 0, _, _, _, _, _ => none
 | n + 1, x35, x47, x48, x49, x50 => S120_0_3 α x34 x36 x37 x38 x39 x40 x41 x42 x51 x35 x47 x48 x49 x50 (R120_0_3 α x34 x36 x37 x38 x39 x40 x41 x42 x51 k1 n) k1
noncomputable def L120_0_3 (α : Type) (x34 : Int) (x36 : ByteArray) (x37 : Int) (x38 x39 x40 : Rows) (x41 x42 : Int) (x51 : Rows) (k1 : Int → Bool → Int → Int → Int → Int → Option α) (x35 x47 x48 x49 x50 : Int) : Option α := R120_0_3 α x34 x36 x37 x38 x39 x40 x41 x42 x51 k1 fuel x35 x47 x48 x49 x50
abbrev TL120_0_3 : Type 1 := (α : Type) → Int → ByteArray → Int → Rows → Rows → Rows → Int → Int → Rows → (Int → Bool → Int → Int → Int → Int → Option α) → Int → Int → Int → Int → Int → Option α
def F120_0_3 (v : TL120_0_3) (α : Type) (K : Exit → St → Option α) : Int → Int → ByteArray → Int → Rows → Rows → Rows → Int → Int → Int → Int → Int → Int → Int → Int → Int → Int → Rows → Option α := fun x34 x35 x36 x37 x38 x39 x40 x41 x42 x43 x44 x45 x46 x47 x48 x49 x50 x51 => v α x34 x36 x37 x38 x39 x40 x41 x42 x51 (fun (y1 : Int) (y2 : Bool) (y3 : Int) (y4 : Int) (y5 : Int) (y6 : Int) => u120_0_6 (K (.exit 2)) x34 y1 y2 x36 x37 x38 x39 x40 x41 x42 x43 x44 x45 x46 y3 y4 y5 y6 x51) x35 x47 x48 x49 x50
theorem r120_0_3g (vf34_0 : Tf34_0) (vf119_0 : Tf119_0) (vf39_0 : Tf39_0) (vJ120_0_1 : TJ120_0_1) (vJ120_0_2 : TJ120_0_2) (α : Type) (K : Exit → St → Option α) (Kn : St → Option α) (x34 x35 : Int) (x36 : ByteArray) (x37 : Int) (x38 x39 x40 : Rows) (x41 x42 x43 x44 x45 x46 x47 x48 x49 x50 : Int) (x51 : Rows) : u120_0_5 (fun σ => runM Try.prog (E120_0g vf34_0 vf119_0 vf39_0) sh120 (c120_0_29g vJ120_0_1 vJ120_0_2) (thenK (fun σ => tidyK td120_29 σ Kn) K) σ) x34 x35 x36 x37 x38 x39 x40 x41 x42 x43 x44 x45 x46 x47 x48 x49 x50 x51 = S120_0_3g vJ120_0_1 vJ120_0_2 vf119_0 α x34 x36 x37 x38 x39 x40 x41 x42 x51 x35 x47 x48 x49 x50 (fun x35 x47 x48 x49 x50 => u120_0_5 Kn x34 x35 x36 x37 x38 x39 x40 x41 x42 x43 x44 x45 x46 x47 x48 x49 x50 x51) (fun (y1 : Int) (y2 : Bool) (y3 : Int) (y4 : Int) (y5 : Int) (y6 : Int) => u120_0_6 (K (.exit 2)) x34 y1 y2 x36 x37 x38 x39 x40 x41 x42 x43 x44 x45 x46 y3 y4 y5 y6 x51) := by kernel_rfl
theorem r120_0_3 (α : Type) (K : Exit → St → Option α) (Kn : St → Option α) (x34 x35 : Int) (x36 : ByteArray) (x37 : Int) (x38 x39 x40 : Rows) (x41 x42 x43 x44 x45 x46 x47 x48 x49 x50 : Int) (x51 : Rows) : u120_0_5 (fun σ => runM Try.prog E120_0 sh120 c120_0_29 (thenK (fun σ => tidyK td120_29 σ Kn) K) σ) x34 x35 x36 x37 x38 x39 x40 x41 x42 x43 x44 x45 x46 x47 x48 x49 x50 x51 = S120_0_3 α x34 x36 x37 x38 x39 x40 x41 x42 x51 x35 x47 x48 x49 x50 (fun x35 x47 x48 x49 x50 => u120_0_5 Kn x34 x35 x36 x37 x38 x39 x40 x41 x42 x43 x44 x45 x46 x47 x48 x49 x50 x51) (fun (y1 : Int) (y2 : Bool) (y3 : Int) (y4 : Int) (y5 : Int) (y6 : Int) => u120_0_6 (K (.exit 2)) x34 y1 y2 x36 x37 x38 x39 x40 x41 x42 x43 x44 x45 x46 y3 y4 y5 y6 x51) := r120_0_3g f34_0 f119_0 f39_0 J120_0_1 J120_0_2 α K Kn x34 x35 x36 x37 x38 x39 x40 x41 x42 x43 x44 x45 x46 x47 x48 x49 x50 x51
theorem t120_0_3 (α : Type) (K : Exit → St → Option α) : ∀ (n : Nat) (x34 x35 : Int) (x36 : ByteArray) (x37 : Int) (x38 x39 x40 : Rows) (x41 x42 x43 x44 x45 x46 x47 x48 x49 x50 : Int) (x51 : Rows), R120_0_3 α x34 x36 x37 x38 x39 x40 x41 x42 x51 (fun (y1 : Int) (y2 : Bool) (y3 : Int) (y4 : Int) (y5 : Int) (y6 : Int) => u120_0_6 (K (.exit 2)) x34 y1 y2 x36 x37 x38 x39 x40 x41 x42 x43 x44 x45 x46 y3 y4 y5 y6 x51) n x35 x47 x48 x49 x50 = u120_0_5 (loopT (runM Try.prog E120_0 sh120 c120_0_29) td120_29 K n) x34 x35 x36 x37 x38 x39 x40 x41 x42 x43 x44 x45 x46 x47 x48 x49 x50 x51 := by
 intro n
 induction n with
 | zero => intros; rfl
 | succ n ih => intro x34 x35 x36 x37 x38 x39 x40 x41 x42 x43 x44 x45 x46 x47 x48 x49 x50 x51; exact (congrArg (fun kn => S120_0_3 α x34 x36 x37 x38 x39 x40 x41 x42 x51 x35 x47 x48 x49 x50 kn (fun (y1 : Int) (y2 : Bool) (y3 : Int) (y4 : Int) (y5 : Int) (y6 : Int) => u120_0_6 (K (.exit 2)) x34 y1 y2 x36 x37 x38 x39 x40 x41 x42 x43 x44 x45 x46 y3 y4 y5 y6 x51)) (funext fun x35 => funext fun x47 => funext fun x48 => funext fun x49 => funext fun x50 => ih x34 x35 x36 x37 x38 x39 x40 x41 x42 x43 x44 x45 x46 x47 x48 x49 x50 x51)).trans (r120_0_3 α K (loopT (runM Try.prog E120_0 sh120 c120_0_29) td120_29 K n) x34 x35 x36 x37 x38 x39 x40 x41 x42 x43 x44 x45 x46 x47 x48 x49 x50 x51).symm
theorem m120_0_3 : ∀ (α : Type) (K : Exit → St → Option α), F120_0_3 L120_0_3 α K = p120_0_5.unc fun σ => loopT (runM Try.prog E120_0 sh120 c120_0_29) td120_29 K fuel σ := fun α K => funext fun x34 => funext fun x35 => funext fun x36 => funext fun x37 => funext fun x38 => funext fun x39 => funext fun x40 => funext fun x41 => funext fun x42 => funext fun x43 => funext fun x44 => funext fun x45 => funext fun x46 => funext fun x47 => funext fun x48 => funext fun x49 => funext fun x50 => funext fun x51 => t120_0_3 α K fuel x34 x35 x36 x37 x38 x39 x40 x41 x42 x43 x44 x45 x46 x47 x48 x49 x50 x51
noncomputable def c120_0_9g  : MCode := (.seq (.region r120_11 [] (tO [2, 3, 4, 5, 21, 22, 23, 24])) (.seq (.cond (.tmp 24) .skip (.exit 0)) (.seq (.block 1 (.seq (.region r120_17 [] (tO [2, 3, 4, 5, 7, 21, 22, 23])) (.seq (.region r120_19 [] (tO [2, 3, 4, 5, 7, 21, 22, 23, 32])) (.cond (.tmp 32) (.region r120_21 [] (tO [2, 3, 4, 5, 21, 22, 23])) .skip)))) (.region r120_22 [] (tO [2, 3, 4, 5, 21, 22, 23])))))
noncomputable def c120_0_9 : MCode := c120_0_9g 
theorem g120_0_9 : c120_0_9.Good Try.prog E120_0 sh120 := ⟨trivial, ⟨⟨trivial, trivial⟩, ⟨⟨trivial, ⟨trivial, ⟨trivial, trivial⟩⟩⟩, trivial⟩⟩⟩
--CODE 9 0
def S120_0_0g (vf34_0 : Tf34_0) (α : Type) (x10 : Rows) (x11 x20 x21 x12 : Int) (x26 : Rows) (kn : Int → Rows → Option α) (k1 : Int → Bool → Rows → Option α) : Option α :=
 cK (decide (x12 < x11))
 (rowK x10 x12 [.int .i64]
 (fun x28 => vf34_0 α x28 x20 x21
 (fun x29 => cK x29
 (gK (apOk 1 8 x26 [[DC.v (.int .i64 x28)]]) (kn (w64 (x12 + 1)) (x26 ++ [[DC.v (.int .i64 x28)]])))
 (kn (w64 (x12 + 1)) x26))))
 (k1 x12 (decide (x12 < x11)) x26)
noncomputable def S120_0_0 (α : Type) (x10 : Rows) (x11 x20 x21 x12 : Int) (x26 : Rows) (kn : Int → Rows → Option α) (k1 : Int → Bool → Rows → Option α) : Option α := S120_0_0g f34_0 α x10 x11 x20 x21 x12 x26 kn k1
noncomputable def R120_0_0 (α : Type) (x10 : Rows) (x11 x20 x21 : Int) (k1 : Int → Bool → Rows → Option α) : Nat → Int → Rows → Option α
 | 0, _, _ => none
 | n + 1, x12, x26 => S120_0_0 α x10 x11 x20 x21 x12 x26 (R120_0_0 α x10 x11 x20 x21 k1 n) k1
noncomputable def L120_0_0 (α : Type) (x10 : Rows) (x11 x20 x21 : Int) (k1 : Int → Bool → Rows → Option α) (x12 : Int) (x26 : Rows) : Option α := R120_0_0 α x10 x11 x20 x21 k1 fuel x12 x26
abbrev TL120_0_0 : Type 1 := (α : Type) → Rows → Int → Int → Int → (Int → Bool → Rows → Option α) → Int → Rows → Option α
def F120_0_0 (v : TL120_0_0) (α : Type) (K : Exit → St → Option α) : Rows → Int → Int → ByteArray → Int → Rows → Rows → Rows → Int → Int → Int → Int → Int → Int → Int → Int → Rows → Option α := fun x10 x11 x12 x13 x14 x15 x16 x17 x18 x19 x20 x21 x22 x23 x24 x25 x26 => v α x10 x11 x20 x21 (fun (y1 : Int) (y2 : Bool) (y3 : Rows) => u120_0_1 (K (.exit 0)) x10 x11 y1 y2 x13 x14 x15 x16 x17 x18 x19 x20 x21 x22 x23 x24 x25 y3) x12 x26
theorem r120_0_0g (vf34_0 : Tf34_0) (vf119_0 : Tf119_0) (vf39_0 : Tf39_0)  (α : Type) (K : Exit → St → Option α) (Kn : St → Option α) (x10 : Rows) (x11 x12 : Int) (x13 : ByteArray) (x14 : Int) (x15 x16 x17 : Rows) (x18 x19 x20 x21 x22 x23 x24 x25 : Int) (x26 : Rows) : u120_0_0 (fun σ => runM Try.prog (E120_0g vf34_0 vf119_0 vf39_0) sh120 (c120_0_9g ) (thenK (fun σ => tidyK td120_9 σ Kn) K) σ) x10 x11 x12 x13 x14 x15 x16 x17 x18 x19 x20 x21 x22 x23 x24 x25 x26 = S120_0_0g vf34_0 α x10 x11 x20 x21 x12 x26 (fun x12 x26 => u120_0_0 Kn x10 x11 x12 x13 x14 x15 x16 x17 x18 x19 x20 x21 x22 x23 x24 x25 x26) (fun (y1 : Int) (y2 : Bool) (y3 : Rows) => u120_0_1 (K (.exit 0)) x10 x11 y1 y2 x13 x14 x15 x16 x17 x18 x19 x20 x21 x22 x23 x24 x25 y3) := by kernel_rfl
theorem r120_0_0 (α : Type) (K : Exit → St → Option α) (Kn : St → Option α) (x10 : Rows) (x11 x12 : Int) (x13 : ByteArray) (x14 : Int) (x15 x16 x17 : Rows) (x18 x19 x20 x21 x22 x23 x24 x25 : Int) (x26 : Rows) : u120_0_0 (fun σ => runM Try.prog E120_0 sh120 c120_0_9 (thenK (fun σ => tidyK td120_9 σ Kn) K) σ) x10 x11 x12 x13 x14 x15 x16 x17 x18 x19 x20 x21 x22 x23 x24 x25 x26 = S120_0_0 α x10 x11 x20 x21 x12 x26 (fun x12 x26 => u120_0_0 Kn x10 x11 x12 x13 x14 x15 x16 x17 x18 x19 x20 x21 x22 x23 x24 x25 x26) (fun (y1 : Int) (y2 : Bool) (y3 : Rows) => u120_0_1 (K (.exit 0)) x10 x11 y1 y2 x13 x14 x15 x16 x17 x18 x19 x20 x21 x22 x23 x24 x25 y3) := r120_0_0g f34_0 f119_0 f39_0 α K Kn x10 x11 x12 x13 x14 x15 x16 x17 x18 x19 x20 x21 x22 x23 x24 x25 x26
theorem t120_0_0 (α : Type) (K : Exit → St → Option α) : ∀ (n : Nat) (x10 : Rows) (x11 x12 : Int) (x13 : ByteArray) (x14 : Int) (x15 x16 x17 : Rows) (x18 x19 x20 x21 x22 x23 x24 x25 : Int) (x26 : Rows), R120_0_0 α x10 x11 x20 x21 (fun (y1 : Int) (y2 : Bool) (y3 : Rows) => u120_0_1 (K (.exit 0)) x10 x11 y1 y2 x13 x14 x15 x16 x17 x18 x19 x20 x21 x22 x23 x24 x25 y3) n x12 x26 = u120_0_0 (loopT (runM Try.prog E120_0 sh120 c120_0_9) td120_9 K n) x10 x11 x12 x13 x14 x15 x16 x17 x18 x19 x20 x21 x22 x23 x24 x25 x26 := by
 intro n
 induction n with
 | zero => intros; rfl
 | succ n ih => intro x10 x11 x12 x13 x14 x15 x16 x17 x18 x19 x20 x21 x22 x23 x24 x25 x26; exact (congrArg (fun kn => S120_0_0 α x10 x11 x20 x21 x12 x26 kn (fun (y1 : Int) (y2 : Bool) (y3 : Rows) => u120_0_1 (K (.exit 0)) x10 x11 y1 y2 x13 x14 x15 x16 x17 x18 x19 x20 x21 x22 x23 x24 x25 y3)) (funext fun x12 => funext fun x26 => ih x10 x11 x12 x13 x14 x15 x16 x17 x18 x19 x20 x21 x22 x23 x24 x25 x26)).trans (r120_0_0 α K (loopT (runM Try.prog E120_0 sh120 c120_0_9) td120_9 K n) x10 x11 x12 x13 x14 x15 x16 x17 x18 x19 x20 x21 x22 x23 x24 x25 x26).symm
theorem m120_0_0 : ∀ (α : Type) (K : Exit → St → Option α), F120_0_0 L120_0_0 α K = p120_0_0.unc fun σ => loopT (runM Try.prog E120_0 sh120 c120_0_9) td120_9 K fuel σ := fun α K => funext fun x10 => funext fun x11 => funext fun x12 => funext fun x13 => funext fun x14 => funext fun x15 => funext fun x16 => funext fun x17 => funext fun x18 => funext fun x19 => funext fun x20 => funext fun x21 => funext fun x22 => funext fun x23 => funext fun x24 => funext fun x25 => funext fun x26 => t120_0_0 α K fuel x10 x11 x12 x13 x14 x15 x16 x17 x18 x19 x20 x21 x22 x23 x24 x25 x26
abbrev Tf120_0 : Type 1 := (α : Type) → ByteArray → Int → Rows → Rows → Rows → Int → Int → Int → Int → (Int → Int → Int → Int → Option α) → Option α
def f120_0g (vL120_0_0 : TL120_0_0) (vL120_0_3 : TL120_0_3) (α : Type) (x1 : ByteArray) (x2 : Int) (x3 x4 x5 : Rows) (x6 x7 x8 x9 : Int) (k1 : Int → Int → Int → Int → Option α) : Option α :=
 vL120_0_0 α x3 ((List.length x3 : Nat) : Int) x8 x9
 (fun x30 x31 x32 => vL120_0_3 α ((List.length x32 : Nat) : Int) x1 x2 x3 x4 x5 x6 x7 x32
 (fun x116 x117 x118 x119 x120 x121 => k1 x118 x119 x120 x121) 0 0 0 0 0) 0 [[DC.v (.int .i64 x8)], [DC.v (.int .i64 x9)]]
noncomputable def f120_0 (α : Type) (x1 : ByteArray) (x2 : Int) (x3 x4 x5 : Rows) (x6 x7 x8 x9 : Int) (k1 : Int → Int → Int → Int → Option α) : Option α := f120_0g L120_0_0 L120_0_3 α x1 x2 x3 x4 x5 x6 x7 x8 x9 k1
def pa120_0 : PT (List DV) := pA [pV true [dS, (dI .i64), dL, dL, dL, (dI .i64), (dI .i64)], pV true [(dI .i64), (dI .i64)]]
def Fn120_0 (v : Tf120_0) (α : Type) (k : List RV → Option α) : ByteArray → Int → Rows → Rows → Rows → Int → Int → Int → Int → Option α := fun x1 x2 x3 x4 x5 x6 x7 x8 x9 => v α x1 x2 x3 x4 x5 x6 x7 x8 x9 (fun (y1 : Int) (y2 : Int) (y3 : Int) (y4 : Int) => ur120_0_0 k y1 y2 y3 y4)
noncomputable def cm120_0g (vL120_0_0 : TL120_0_0) (vL120_0_3 : TL120_0_3) : MCode := (.seq (.region r120_2 [] (tO [2, 3, 4])) (.seq (.region r120_4 [] (tO [2, 3, 4, 5])) (.seq (.seq (.region r120_7 [] (tO [2, 3, 4, 5, 21, 22, 23])) (.block 0 (.loop td120_9 [⟨p120_0_0, F120_0_0 vL120_0_0⟩] c120_0_9))) (.seq (.region r120_24 [] (tO [2, 4, 5, 8])) (.seq (.seq (.region r120_27 [] (tO [2, 4, 8, 38, 39, 40])) (.block 2 (.loop td120_29 [⟨p120_0_5, F120_0_3 vL120_0_3⟩] c120_0_29))) (.seq (.region r120_61 [] (tO [4])) .ret))))))
noncomputable def cm120_0 : MCode := cm120_0g L120_0_0 L120_0_3
theorem gm120_0 : cm120_0.Good Try.prog E120_0 sh120 := ⟨trivial, ⟨trivial, ⟨⟨trivial, ⟨g120_0_9, m120_0_0, trivial⟩⟩, ⟨trivial, ⟨⟨trivial, ⟨g120_0_29, m120_0_3, trivial⟩⟩, ⟨trivial, trivial⟩⟩⟩⟩⟩⟩
theorem fm120_0g (vf34_0 : Tf34_0) (vf119_0 : Tf119_0) (vf39_0 : Tf39_0) (vL120_0_0 : TL120_0_0) (vL120_0_3 : TL120_0_3) (α : Type) (k : List RV → Option α) : Fn120_0 (f120_0g vL120_0_0 vL120_0_3) α k = pa120_0.unc fun ds => fnM Try.prog (E120_0g vf34_0 vf119_0 vf39_0) sh120 (cm120_0g vL120_0_0 vL120_0_3) rs120 k ds := by kernel_rfl
theorem fm120_0 : ∀ (α : Type) (k : List RV → Option α), Fn120_0 f120_0 α k = pa120_0.unc fun ds => fnM Try.prog E120_0 sh120 cm120_0 rs120 k ds := fm120_0g f34_0 f119_0 f39_0 L120_0_0 L120_0_3
theorem is120 : FnIs Try.prog 120 nt120 tr120 tl120 cm120_0.erase rs120 := ⟨Try.f120, Try.func120, rfl, by kernel_rfl, by kernel_rfl, by kernel_rfl⟩
theorem io120_0 : InstOk Try.prog 120 nt120 ⟨pa120_0, Fn120_0 f120_0⟩ := inst_ok eo120_0 followsTry is120 ⟨⟨sh120, cm120_0, by kernel_rfl, gm120_0, fm120_0⟩⟩
abbrev nt56 : Nat := 40
def sh56 : List (Nat × List Sh) := []
def r56_2 : List AOper := [oO 6 (.mv (kI 0))]
def r56_5 : List AOper := [oM 11 0, oO 12 (.call 46 [(.tmp 11)]), oO 13 (.pure (oB (.unOp .not 4 (.tmp 12)) 4))]
def r56_8 : List AOper := [oO 6 (.mv (kI 2))]
def r56_10 : List AOper := [oM 15 1, oO 16 (.call 66 [(.tmp 15)]), oM 14 16, oO 17 (.extract 0 (.tmp 14)), oO 18 (.extract 1 (.tmp 14)), oM 7 17, oM 8 18]
def r56_12 : List AOper := [oM 20 2, oO 21 (.call 66 [(.tmp 20)]), oM 19 21, oO 22 (.extract 0 (.tmp 19)), oO 23 (.extract 1 (.tmp 19)), oM 9 22, oM 10 23]
def r56_16 : List AOper := [oM 25 8, oO 26 (.pure (oB (.unOp .not 4 (.tmp 25)) 4)), oM 27 26, oG 28 (.mv (.tmp 10)) 27 false, oG 29 (.pure (oB (.unOp .not 4 (.tmp 28)) 4)) 27 false, oO 30 (.pick (.tmp 27) (.const (.bool true)) (.tmp 29)), oM 24 30]
def r56_19 : List AOper := [oO 6 (.mv (kI 27))]
def r56_21 : List AOper := [oM 32 7, oO 33 (.call 57 [(.tmp 32)]), oO 34 (.pure (oB (.unOp .not 4 (.tmp 33)) 4)), oM 35 34, oG 36 (.mv (.tmp 9)) 35 false, oG 37 (.call 67 [(.tmp 36)]) 35 false, oG 38 (.pure (oB (.unOp .not 4 (.tmp 37)) 4)) 35 false, oO 39 (.pick (.tmp 35) (.const (.bool true)) (.tmp 38)), oM 31 39]
def r56_24 : List AOper := [oO 6 (.mv (kI 2))]
def r56_26 : List AOper := [oO 6 (.mv (kI 0))]
def tr56 : List (Nat × Tidy) := [tT 0 [0, 1, 2], tT 1 [1, 2, 13], tT 2 [6], tT 3 [2, 7, 8], tT 4 [7, 8, 9, 10], tT 5 [7, 9, 24], tT 6 [6], tT 7 [31], tT 8 [6], tT 9 [6]]
def tl56 : List (Nat × Tidy) := []
def rs56 : List AResV := [.tmp 6]
def p56_0_0 : PT St := pS [sl 7 (aV false [(cD (dI .i64))]), sl 8 (aV false [(cD dB)]), sl 9 (aV false [(cD (dI .i64))]), sl 10 (aV false [(cD dB)])] []
def u56_0_0 {β : Type} (g : St → β) : Int → Bool → Int → Bool → β := p56_0_0.unc g
def p56_0_1 : PT St := pS [sl 7 (aV false [(cD (dI .i64))]), sl 9 (aV false [(cD (dI .i64))]), sl 24 (aV false [(cD dB)])] []
def u56_0_1 {β : Type} (g : St → β) : Int → Int → Bool → β := p56_0_1.unc g
def pr56_0_0 : PT (List RV) := pRs [pR false [rD (dI .i64)]]
def ur56_0_0 {β : Type} (g : List RV → β) : Int → β := pr56_0_0.unc g
def E56_0g (vf46_0 : Tf46_0) (vf66_0 : Tf66_0) (vf57_0 : Tf57_0) (vf67_0 : Tf67_0) : EnvK := EnvK.of [⟨46, nt46, [⟨pa46_0, Fn46_0 vf46_0⟩]⟩, ⟨66, nt66, [⟨pa66_0, Fn66_0 vf66_0⟩]⟩, ⟨57, nt57, [⟨pa57_0, Fn57_0 vf57_0⟩]⟩, ⟨67, nt67, [⟨pa67_0, Fn67_0 vf67_0⟩]⟩] noSeq
noncomputable def E56_0 : EnvK := E56_0g f46_0 f66_0 f57_0 f67_0
theorem eo56_0 : E56_0.Ok Try.prog := EnvK.of_ok noSeq_ok ⟨⟨io46_0, trivial⟩, ⟨io66_0, trivial⟩, ⟨io57_0, trivial⟩, ⟨io67_0, trivial⟩, trivial⟩
noncomputable def c56_0_15g  : MCode := (.region r56_16 [] (tO [7, 9, 24]))
noncomputable def c56_0_15 : MCode := c56_0_15g 
theorem g56_0_15 : c56_0_15.Good Try.prog E56_0 sh56 := trivial
--CODE 15 0
abbrev TJ56_0_0 : Type 1 := (α : Type) → Bool → Bool → (Bool → Option α) → Option α
def J56_0_0g  (α : Type) (x10 x12 : Bool) (k1 : Bool → Option α) : Option α :=
 cK (!x10)
 (k1 true)
 (k1 (!x12))
noncomputable def J56_0_0 (α : Type) (x10 x12 : Bool) (k1 : Bool → Option α) : Option α := J56_0_0g  α x10 x12 k1
def F56_0_0 (v : TJ56_0_0) (α : Type) (K : Exit → St → Option α) : Int → Bool → Int → Bool → Option α := fun x9 x10 x11 x12 => v α x10 x12 (fun (y1 : Bool) => u56_0_1 (K .normal) x9 x11 y1) 
theorem m56_0_0g (vf46_0 : Tf46_0) (vf66_0 : Tf66_0) (vf57_0 : Tf57_0) (vf67_0 : Tf67_0)  (α : Type) (K : Exit → St → Option α) : F56_0_0 (J56_0_0g ) α K = p56_0_0.unc fun σ => runM Try.prog (E56_0g vf46_0 vf66_0 vf57_0 vf67_0) sh56 (c56_0_15g ) K σ := by kernel_rfl
theorem m56_0_0 : ∀ (α : Type) (K : Exit → St → Option α), F56_0_0 J56_0_0 α K = p56_0_0.unc fun σ => runM Try.prog E56_0 sh56 c56_0_15 K σ := m56_0_0g f46_0 f66_0 f57_0 f67_0
abbrev Tf56_0 : Type 1 := (α : Type) → Int → Nat → Nat → (Int → Option α) → Option α
def f56_0g (vJ56_0_0 : TJ56_0_0) (vf46_0 : Tf46_0) (vf57_0 : Tf57_0) (vf66_0 : Tf66_0) (vf67_0 : Tf67_0) (α : Type) (x1 : Int) (x2 x3 : Nat) (k1 : Int → Option α) : Option α :=
 vf46_0 α x1
 (fun x4 => cK (!x4)
 (k1 2)
 (vf66_0 α x2
 (fun x5 x6 => vf66_0 α x3
 (fun x7 x8 => vJ56_0_0 α x6 x8
 (fun x14 => cK x14
 (k1 27)
 (vf57_0 α x5
 (fun x16 => cK (!x16)
 (k1 2)
 (vf67_0 α x7
 (fun x17 => cK (!x17)
 (k1 2)
 (k1 0))))))))))
noncomputable def f56_0 (α : Type) (x1 : Int) (x2 x3 : Nat) (k1 : Int → Option α) : Option α := f56_0g J56_0_0 f46_0 f57_0 f66_0 f67_0 α x1 x2 x3 k1
def pa56_0 : PT (List DV) := pA [pV false [(dI .i64)], pV false [(dF .f32)], pV false [(dF .f32)]]
def Fn56_0 (v : Tf56_0) (α : Type) (k : List RV → Option α) : Int → Nat → Nat → Option α := fun x1 x2 x3 => v α x1 x2 x3 (fun (y1 : Int) => ur56_0_0 k y1)
noncomputable def cm56_0g (vJ56_0_0 : TJ56_0_0) : MCode := (.seq (.region r56_2 [] (tO [0, 1, 2])) (.seq (.seq (.region r56_5 [] (tO [1, 2, 13])) (.cond (.tmp 13) (.seq (.region r56_8 [] (tO [6])) .ret) .skip)) (.seq (.region r56_10 [] (tO [2, 7, 8])) (.seq (.region r56_12 [] (tO [7, 8, 9, 10])) (.seq (.block 0 (.seq (.mark [⟨p56_0_0, F56_0_0 vJ56_0_0⟩] c56_0_15) (.cond (.tmp 24) (.seq (.region r56_19 [] (tO [6])) .ret) (.seq (.region r56_21 [] (tO [31])) (.cond (.tmp 31) (.seq (.region r56_24 [] (tO [6])) .ret) .skip))))) (.seq (.region r56_26 [] (tO [6])) .ret))))))
noncomputable def cm56_0 : MCode := cm56_0g J56_0_0
theorem gm56_0 : cm56_0.Good Try.prog E56_0 sh56 := ⟨trivial, ⟨⟨trivial, ⟨⟨trivial, trivial⟩, trivial⟩⟩, ⟨trivial, ⟨trivial, ⟨⟨⟨g56_0_15, m56_0_0, trivial⟩, ⟨⟨trivial, trivial⟩, ⟨trivial, ⟨⟨trivial, trivial⟩, trivial⟩⟩⟩⟩, ⟨trivial, trivial⟩⟩⟩⟩⟩⟩
theorem fm56_0g (vf46_0 : Tf46_0) (vf66_0 : Tf66_0) (vf57_0 : Tf57_0) (vf67_0 : Tf67_0) (vJ56_0_0 : TJ56_0_0) (α : Type) (k : List RV → Option α) : Fn56_0 (f56_0g vJ56_0_0 vf46_0 vf57_0 vf66_0 vf67_0) α k = pa56_0.unc fun ds => fnM Try.prog (E56_0g vf46_0 vf66_0 vf57_0 vf67_0) sh56 (cm56_0g vJ56_0_0) rs56 k ds := by kernel_rfl
theorem fm56_0 : ∀ (α : Type) (k : List RV → Option α), Fn56_0 f56_0 α k = pa56_0.unc fun ds => fnM Try.prog E56_0 sh56 cm56_0 rs56 k ds := fm56_0g f46_0 f66_0 f57_0 f67_0 J56_0_0
theorem is56 : FnIs Try.prog 56 nt56 tr56 tl56 cm56_0.erase rs56 := ⟨Try.f56, Try.func56, rfl, by kernel_rfl, by kernel_rfl, by kernel_rfl⟩
theorem io56_0 : InstOk Try.prog 56 nt56 ⟨pa56_0, Fn56_0 f56_0⟩ := inst_ok eo56_0 followsTry is56 ⟨⟨sh56, cm56_0, by kernel_rfl, gm56_0, fm56_0⟩⟩
abbrev nt26 : Nat := 78
def sh26 : List (Nat × List Sh) := [(9, [.int .i64, .int .i64]), (14, [.sl]), (19, [.sl]), (22, [.sl]), (28, [.sl]), (31, [.sl]), (37, [.sl]), (41, [.sl]), (46, [.int .i64]), (47, [.int .i64]), (50, [.sl]), (52, [.flt .f32]), (53, [.flt .f32]), (55, [.sl]), (57, [.flt .f32]), (58, [.flt .f32]), (69, [.sl]), (72, [.int .i64]), (73, [.int .i64])]
def r26_2 : List AOper := [oO 1 (.box (.tmp 0)), oO 2 (.mv (kI 0)), oO 3 (.mv (kI 0))]
def r26_6 : List AOper := [oO 8 (.faddr 5 (.tmp 1)), oO 9 (.load true 2 (.tmp 8)), oO 10 (.build [(cI 0), (cI 0)] []), oO 11 (.bin .neq 24 (.tmp 9) (.tmp 10)), oM 7 11]
def r26_9 : List AOper := [oO 2 (.mv (kI 0)), oO 3 (.mv (kI 13))]
def r26_11 : List AOper := [oO 13 (.faddr 2 (.tmp 1)), oO 14 (.load false 1 (.tmp 13)), oO 15 (.len (.tmp 14)), oO 16 (.bin .eql 3 (.tmp 15) (kI 0)), oM 17 16, oG 18 (.faddr 3 (.tmp 1)) 17 false, oG 19 (.load false 1 (.tmp 18)) 17 false, oG 20 (.len (.tmp 19)) 17 false, oG 21 (.faddr 2 (.tmp 1)) 17 false, oG 22 (.load false 1 (.tmp 21)) 17 false, oG 23 (.len (.tmp 22)) 17 false, oG 24 (.bin .neq 3 (.tmp 20) (.tmp 23)) 17 false, oO 25 (.pick (.tmp 17) (.const (.bool true)) (.tmp 24)), oM 26 25, oG 27 (.faddr 4 (.tmp 1)) 26 false, oG 28 (.load false 1 (.tmp 27)) 26 false, oG 29 (.len (.tmp 28)) 26 false, oG 30 (.faddr 2 (.tmp 1)) 26 false, oG 31 (.load false 1 (.tmp 30)) 26 false, oG 32 (.len (.tmp 31)) 26 false, oG 33 (.bin .neq 3 (.tmp 29) (.tmp 32)) 26 false, oO 34 (.pick (.tmp 26) (.const (.bool true)) (.tmp 33)), oM 12 34]
def r26_14 : List AOper := [oO 2 (.mv (kI 0)), oO 3 (.mv (kI 12))]
def r26_16 : List AOper := [oO 36 (.faddr 2 (.tmp 1)), oO 37 (.load false 1 (.tmp 36)), oO 38 (.len (.tmp 37)), oO 39 (.bin .gtr 3 (.tmp 38) (kI 64)), oM 35 39]
def r26_19 : List AOper := [oO 2 (.mv (kI 0)), oO 3 (.mv (kI 8))]
def r26_22 : List AOper := [oO 40 (.faddr 2 (.tmp 1)), oO 41 (.load false 1 (.tmp 40)), oO 42 (.len (.tmp 41)), oO 43 (.mv (kI 0))]
def td26_24 : Option Tidy := (some ⟨[1, 41, 42, 43], true, [⟨false, 41, 0, 20041, 1⟩, ⟨true, 1, 2, 30102, 1⟩, ⟨true, 1, 3, 30103, 1⟩, ⟨true, 1, 4, 30104, 1⟩], []⟩)
def r26_26 : List AOper := [oO 44 (.bin .lss 3 (.tmp 43) (.tmp 42))]
def r26_32 : List AOper := [oM 45 43, oO 46 (.iaddr 1 none (.tmp 41) (.tmp 43)), oO 47 (.load false 1 (.tmp 46)), oM 4 45, oM 5 47]
def r26_35 : List AOper := [oM 48 5, oO 49 (.faddr 3 (.tmp 1)), oO 50 (.load false 1 (.tmp 49)), oM 51 4, oO 52 (.iaddr 1 none (.tmp 50) (.tmp 51)), oO 53 (.load false 1 (.tmp 52)), oO 54 (.faddr 4 (.tmp 1)), oO 55 (.load false 1 (.tmp 54)), oM 56 4, oO 57 (.iaddr 1 none (.tmp 55) (.tmp 56)), oO 58 (.load false 1 (.tmp 57)), oO 59 (.call 56 [(.tmp 48), (.tmp 53), (.tmp 58)]), oM 6 59]
def r26_37 : List AOper := [oM 60 6, oO 61 (.bin .neq 29 (.tmp 60) (kI 0))]
def r26_40 : List AOper := [oM 62 4, oM 63 6, oM 2 62, oM 3 63]
def r26_42 : List AOper := [oM 64 4, oO 65 (.bin .gtr 3 (.tmp 64) (kI 0)), oM 66 65, oG 67 (.mv (.tmp 5)) 66 true, oG 68 (.faddr 2 (.tmp 1)) 66 true, oG 69 (.load false 1 (.tmp 68)) 66 true, oG 70 (.mv (.tmp 4)) 66 true, oG 71 (.bin .sub 3 (.tmp 70) (kI 1)) 66 true, oG 72 (.iaddr 1 none (.tmp 69) (.tmp 71)) 66 true, oG 73 (.load false 1 (.tmp 72)) 66 true, oG 74 (.bin .leq 3 (.tmp 67) (.tmp 73)) 66 true, oO 75 (.pick (.tmp 66) (.tmp 74) (.const (.bool false)))]
def r26_45 : List AOper := [oM 76 4, oM 2 76, oO 3 (.mv (kI 10))]
def r26_46 : List AOper := [oO 77 (.bin .add 3 (.tmp 43) (kI 1)), oM 43 77]
def r26_48 : List AOper := [oO 2 (.mv (kI 0)), oO 3 (.mv (kI 0))]
def tr26 : List (Nat × Tidy) := [tT 0 [1], tT 1 [1, 7], tT 2 [2, 3], tT 3 [1, 12], tT 4 [2, 3], tT 5 [1, 35], tT 6 [2, 3], tT 7 [1, 41, 42, 43], tT 8 [1, 41, 42, 43, 44], tT 9 [1, 4, 5, 41, 42, 43], tT 10 [1, 4, 5, 6, 41, 42, 43], tT 11 [1, 4, 5, 6, 41, 42, 43, 61], tT 12 [2, 3], tT 13 [1, 4, 41, 42, 43, 75], tT 14 [2, 3], tT 15 [1, 41, 42, 43], tT 16 [2, 3]]
def tl26 : List (Nat × Tidy) := [(8, ⟨[1, 41, 42, 43], true, [⟨false, 41, 0, 20041, 1⟩, ⟨true, 1, 2, 30102, 1⟩, ⟨true, 1, 3, 30103, 1⟩, ⟨true, 1, 4, 30104, 1⟩], []⟩)]
def rs26 : List AResV := [.tmp 2, .tmp 3]
def p26_0_0 : PT St := pS [sl 1 (aV false [(cPtr 1 0)]), sl 7 (aV false [(cD dB)])] [eBox 1 [(cD dS), (cD (dI .i64)), (cD dL), (cD dL), (cD dL), (cD (dI .i64)), (cD (dI .i64))]]
def u26_0_0 {β : Type} (g : St → β) : Bool → ByteArray → Int → Rows → Rows → Rows → Int → Int → β := p26_0_0.unc g
def p26_0_1 : PT St := pS [sl 1 (aV false [(cPtr 1 0)]), sl 12 (aV false [(cD dB)])] [eBox 1 [(cD dS), (cD (dI .i64)), (cD dL), (cD dL), (cD dL), (cD (dI .i64)), (cD (dI .i64))]]
def u26_0_1 {β : Type} (g : St → β) : Bool → ByteArray → Int → Rows → Rows → Rows → Int → Int → β := p26_0_1.unc g
def p26_0_2 : PT St := pS [sl 1 (aV false [(cPtr 1 0)]), sl 41 (aV false [(cD dL)]), sl 42 (aV false [(cD (dI .i64))]), sl 43 (aV false [(cD (dI .i64))])] [eBox 1 [(cD dS), (cD (dI .i64)), (cD dL), (cD dL), (cD dL), (cD (dI .i64)), (cD (dI .i64))]]
def u26_0_2 {β : Type} (g : St → β) : Rows → Int → Int → ByteArray → Int → Rows → Rows → Rows → Int → Int → β := p26_0_2.unc g
def p26_0_3 : PT St := pS [sl 2 (aV false [(cD (dI .i64))]), sl 3 (aV false [(cD (dI .i64))])] []
def u26_0_3 {β : Type} (g : St → β) : Int → Int → β := p26_0_3.unc g
def p26_0_4 : PT St := pS [sl 1 (aV false [(cPtr 1 0)]), sl 41 (aV false [(cD dL)]), sl 42 (aV false [(cD (dI .i64))]), sl 43 (aV false [(cD (dI .i64))]), sl 44 (aV false [(cD dB)])] [eBox 1 [(cD dS), (cD (dI .i64)), (cD dL), (cD dL), (cD dL), (cD (dI .i64)), (cD (dI .i64))]]
def u26_0_4 {β : Type} (g : St → β) : Rows → Int → Int → Bool → ByteArray → Int → Rows → Rows → Rows → Int → Int → β := p26_0_4.unc g
def pr26_0_0 : PT (List RV) := pRs [pR false [rD (dI .i64)], pR false [rD (dI .i64)]]
def ur26_0_0 {β : Type} (g : List RV → β) : Int → Int → β := pr26_0_0.unc g
def E26_0g (vf56_0 : Tf56_0) : EnvK := EnvK.of [⟨56, nt56, [⟨pa56_0, Fn56_0 vf56_0⟩]⟩] noSeq
noncomputable def E26_0 : EnvK := E26_0g f56_0
theorem eo26_0 : E26_0.Ok Try.prog := EnvK.of_ok noSeq_ok ⟨⟨io56_0, trivial⟩, trivial⟩
noncomputable def c26_0_24g  : MCode := (.seq (.region r26_26 [] (tO [1, 41, 42, 43, 44])) (.seq (.cond (.tmp 44) .skip (.exit 1)) (.seq (.block 2 (.seq (.region r26_32 [] (tO [1, 4, 5, 41, 42, 43])) (.seq (.seq (.region r26_35 [] (tO [1, 4, 5, 6, 41, 42, 43])) (.seq (.region r26_37 [] (tO [1, 4, 5, 6, 41, 42, 43, 61])) (.cond (.tmp 61) (.seq (.region r26_40 [] (tO [2, 3])) .ret) .skip))) (.seq (.region r26_42 [] (tO [1, 4, 41, 42, 43, 75])) (.cond (.tmp 75) (.seq (.region r26_45 [] (tO [2, 3])) .ret) .skip))))) (.region r26_46 [] (tO [1, 41, 42, 43])))))
noncomputable def c26_0_24 : MCode := c26_0_24g 
theorem g26_0_24 : c26_0_24.Good Try.prog E26_0 sh26 := ⟨trivial, ⟨⟨trivial, trivial⟩, ⟨⟨trivial, ⟨⟨trivial, ⟨trivial, ⟨⟨trivial, trivial⟩, trivial⟩⟩⟩, ⟨trivial, ⟨⟨trivial, trivial⟩, trivial⟩⟩⟩⟩, trivial⟩⟩⟩
--CODE 24 0
def S26_0_1g (vf56_0 : Tf56_0) (α : Type) (x19 : Rows) (x20 : Int) (x24 x25 x26 : Rows) (x21 : Int) (kn : Int → Option α) (k1 : Int → Int → Option α) (k2 : Int → Bool → Option α) : Option α :=
 cK (decide (x21 < x20))
 (rowK x19 x21 [.int .i64]
 (fun x30 => rowK x25 x21 [.flt .f32]
 (fun x31 => rowK x26 x21 [.flt .f32]
 (fun x32 => vf56_0 α x30 x31 x32
 (fun x33 => cK (x33 != 0)
 (k1 x21 x33)
 (cK (decide (0 < x21))
 (rowK x24 (w64 (x21 - 1)) [.int .i64]
 (fun x34 => cK (decide (x30 ≤ x34))
 (k1 x21 10)
 (kn (w64 (x21 + 1)))))
 (kn (w64 (x21 + 1)))))))))
 (k2 x21 (decide (x21 < x20)))
noncomputable def S26_0_1 (α : Type) (x19 : Rows) (x20 : Int) (x24 x25 x26 : Rows) (x21 : Int) (kn : Int → Option α) (k1 : Int → Int → Option α) (k2 : Int → Bool → Option α) : Option α := S26_0_1g f56_0 α x19 x20 x24 x25 x26 x21 kn k1 k2
noncomputable def R26_0_1 (α : Type) (x19 : Rows) (x20 : Int) (x24 x25 x26 : Rows) (k1 : Int → Int → Option α) (k2 : Int → Bool → Option α) : Nat → Int → Option α
 | 0, _ => none
 | n + 1, x21 => S26_0_1 α x19 x20 x24 x25 x26 x21 (R26_0_1 α x19 x20 x24 x25 x26 k1 k2 n) k1 k2
noncomputable def L26_0_1 (α : Type) (x19 : Rows) (x20 : Int) (x24 x25 x26 : Rows) (k1 : Int → Int → Option α) (k2 : Int → Bool → Option α) (x21 : Int) : Option α := R26_0_1 α x19 x20 x24 x25 x26 k1 k2 fuel x21
abbrev TL26_0_1 : Type 1 := (α : Type) → Rows → Int → Rows → Rows → Rows → (Int → Int → Option α) → (Int → Bool → Option α) → Int → Option α
def F26_0_1 (v : TL26_0_1) (α : Type) (K : Exit → St → Option α) : Rows → Int → Int → ByteArray → Int → Rows → Rows → Rows → Int → Int → Option α := fun x19 x20 x21 x22 x23 x24 x25 x26 x27 x28 => v α x19 x20 x24 x25 x26 (fun (y1 : Int) (y2 : Int) => u26_0_3 (K .ret) y1 y2) (fun (y1 : Int) (y2 : Bool) => u26_0_4 (K (.exit 1)) x19 x20 y1 y2 x22 x23 x24 x25 x26 x27 x28) x21
theorem r26_0_1g (vf56_0 : Tf56_0)  (α : Type) (K : Exit → St → Option α) (Kn : St → Option α) (x19 : Rows) (x20 x21 : Int) (x22 : ByteArray) (x23 : Int) (x24 x25 x26 : Rows) (x27 x28 : Int) : u26_0_2 (fun σ => runM Try.prog (E26_0g vf56_0) sh26 (c26_0_24g ) (thenK (fun σ => tidyK td26_24 σ Kn) K) σ) x19 x20 x21 x22 x23 x24 x25 x26 x27 x28 = S26_0_1g vf56_0 α x19 x20 x24 x25 x26 x21 (fun x21 => u26_0_2 Kn x19 x20 x21 x22 x23 x24 x25 x26 x27 x28) (fun (y1 : Int) (y2 : Int) => u26_0_3 (K .ret) y1 y2) (fun (y1 : Int) (y2 : Bool) => u26_0_4 (K (.exit 1)) x19 x20 y1 y2 x22 x23 x24 x25 x26 x27 x28) := by kernel_rfl
theorem r26_0_1 (α : Type) (K : Exit → St → Option α) (Kn : St → Option α) (x19 : Rows) (x20 x21 : Int) (x22 : ByteArray) (x23 : Int) (x24 x25 x26 : Rows) (x27 x28 : Int) : u26_0_2 (fun σ => runM Try.prog E26_0 sh26 c26_0_24 (thenK (fun σ => tidyK td26_24 σ Kn) K) σ) x19 x20 x21 x22 x23 x24 x25 x26 x27 x28 = S26_0_1 α x19 x20 x24 x25 x26 x21 (fun x21 => u26_0_2 Kn x19 x20 x21 x22 x23 x24 x25 x26 x27 x28) (fun (y1 : Int) (y2 : Int) => u26_0_3 (K .ret) y1 y2) (fun (y1 : Int) (y2 : Bool) => u26_0_4 (K (.exit 1)) x19 x20 y1 y2 x22 x23 x24 x25 x26 x27 x28) := r26_0_1g f56_0 α K Kn x19 x20 x21 x22 x23 x24 x25 x26 x27 x28
theorem t26_0_1 (α : Type) (K : Exit → St → Option α) : ∀ (n : Nat) (x19 : Rows) (x20 x21 : Int) (x22 : ByteArray) (x23 : Int) (x24 x25 x26 : Rows) (x27 x28 : Int), R26_0_1 α x19 x20 x24 x25 x26 (fun (y1 : Int) (y2 : Int) => u26_0_3 (K .ret) y1 y2) (fun (y1 : Int) (y2 : Bool) => u26_0_4 (K (.exit 1)) x19 x20 y1 y2 x22 x23 x24 x25 x26 x27 x28) n x21 = u26_0_2 (loopT (runM Try.prog E26_0 sh26 c26_0_24) td26_24 K n) x19 x20 x21 x22 x23 x24 x25 x26 x27 x28 := by
 intro n
 induction n with
 | zero => intros; rfl
 | succ n ih => intro x19 x20 x21 x22 x23 x24 x25 x26 x27 x28; exact (congrArg (fun kn => S26_0_1 α x19 x20 x24 x25 x26 x21 kn (fun (y1 : Int) (y2 : Int) => u26_0_3 (K .ret) y1 y2) (fun (y1 : Int) (y2 : Bool) => u26_0_4 (K (.exit 1)) x19 x20 y1 y2 x22 x23 x24 x25 x26 x27 x28)) (funext fun x21 => ih x19 x20 x21 x22 x23 x24 x25 x26 x27 x28)).trans (r26_0_1 α K (loopT (runM Try.prog E26_0 sh26 c26_0_24) td26_24 K n) x19 x20 x21 x22 x23 x24 x25 x26 x27 x28).symm
theorem m26_0_1 : ∀ (α : Type) (K : Exit → St → Option α), F26_0_1 L26_0_1 α K = p26_0_2.unc fun σ => loopT (runM Try.prog E26_0 sh26 c26_0_24) td26_24 K fuel σ := fun α K => funext fun x19 => funext fun x20 => funext fun x21 => funext fun x22 => funext fun x23 => funext fun x24 => funext fun x25 => funext fun x26 => funext fun x27 => funext fun x28 => t26_0_1 α K fuel x19 x20 x21 x22 x23 x24 x25 x26 x27 x28
noncomputable def c26_0_10g  : MCode := (.region r26_11 [] (tO [1, 12]))
noncomputable def c26_0_10 : MCode := c26_0_10g 
theorem g26_0_10 : c26_0_10.Good Try.prog E26_0 sh26 := trivial
--CODE 10 0
abbrev TJ26_0_0 : Type 1 := (α : Type) → Rows → Rows → Rows → (Bool → Option α) → Option α
def J26_0_0g  (α : Type) (x11 x12 x13 : Rows) (k1 : Bool → Option α) : Option α :=
 cK (((List.length x11 : Nat) : Int) == 0)
 (k1 true)
 (cK (((List.length x12 : Nat) : Int) != ((List.length x11 : Nat) : Int))
 (k1 true)
 (k1 (((List.length x13 : Nat) : Int) != ((List.length x11 : Nat) : Int))))
noncomputable def J26_0_0 (α : Type) (x11 x12 x13 : Rows) (k1 : Bool → Option α) : Option α := J26_0_0g  α x11 x12 x13 k1
def F26_0_0 (v : TJ26_0_0) (α : Type) (K : Exit → St → Option α) : Bool → ByteArray → Int → Rows → Rows → Rows → Int → Int → Option α := fun x8 x9 x10 x11 x12 x13 x14 x15 => v α x11 x12 x13 (fun (y1 : Bool) => u26_0_1 (K .normal) y1 x9 x10 x11 x12 x13 x14 x15) 
theorem m26_0_0g (vf56_0 : Tf56_0)  (α : Type) (K : Exit → St → Option α) : F26_0_0 (J26_0_0g ) α K = p26_0_0.unc fun σ => runM Try.prog (E26_0g vf56_0) sh26 (c26_0_10g ) K σ := by kernel_rfl
theorem m26_0_0 : ∀ (α : Type) (K : Exit → St → Option α), F26_0_0 J26_0_0 α K = p26_0_0.unc fun σ => runM Try.prog E26_0 sh26 c26_0_10 K σ := m26_0_0g f56_0
abbrev Tf26_0 : Type 1 := (α : Type) → ByteArray → Int → Rows → Rows → Rows → Int → Int → (Int → Int → Option α) → Option α
def f26_0g (vJ26_0_0 : TJ26_0_0) (vL26_0_1 : TL26_0_1) (α : Type) (x1 : ByteArray) (x2 : Int) (x3 x4 x5 : Rows) (x6 x7 : Int) (k1 : Int → Int → Option α) : Option α :=
 cK (!((x6 == 0) && ((x7 == 0) && true)))
 (k1 0 13)
 (vJ26_0_0 α x3 x4 x5
 (fun x17 => cK x17
 (k1 0 12)
 (cK (decide (64 < ((List.length x3 : Nat) : Int)))
 (k1 0 8)
 (vL26_0_1 α x3 ((List.length x3 : Nat) : Int) x3 x4 x5
 (fun x35 x36 => k1 x35 x36)
 (fun x37 x38 => k1 0 0) 0))))
noncomputable def f26_0 (α : Type) (x1 : ByteArray) (x2 : Int) (x3 x4 x5 : Rows) (x6 x7 : Int) (k1 : Int → Int → Option α) : Option α := f26_0g J26_0_0 L26_0_1 α x1 x2 x3 x4 x5 x6 x7 k1
def pa26_0 : PT (List DV) := pA [pV true [dS, (dI .i64), dL, dL, dL, (dI .i64), (dI .i64)]]
def Fn26_0 (v : Tf26_0) (α : Type) (k : List RV → Option α) : ByteArray → Int → Rows → Rows → Rows → Int → Int → Option α := fun x1 x2 x3 x4 x5 x6 x7 => v α x1 x2 x3 x4 x5 x6 x7 (fun (y1 : Int) (y2 : Int) => ur26_0_0 k y1 y2)
noncomputable def cm26_0g (vJ26_0_0 : TJ26_0_0) (vL26_0_1 : TL26_0_1) : MCode := (.seq (.region r26_2 [] (tO [1])) (.seq (.block 0 (.seq (.region r26_6 [] (tO [1, 7])) (.cond (.tmp 7) (.seq (.region r26_9 [] (tO [2, 3])) .ret) (.seq (.mark [⟨p26_0_0, F26_0_0 vJ26_0_0⟩] c26_0_10) (.cond (.tmp 12) (.seq (.region r26_14 [] (tO [2, 3])) .ret) (.seq (.region r26_16 [] (tO [1, 35])) (.cond (.tmp 35) (.seq (.region r26_19 [] (tO [2, 3])) .ret) .skip))))))) (.seq (.seq (.region r26_22 [] (tO [1, 41, 42, 43])) (.block 1 (.loop td26_24 [⟨p26_0_2, F26_0_1 vL26_0_1⟩] c26_0_24))) (.seq (.region r26_48 [] (tO [2, 3])) .ret))))
noncomputable def cm26_0 : MCode := cm26_0g J26_0_0 L26_0_1
theorem gm26_0 : cm26_0.Good Try.prog E26_0 sh26 := ⟨trivial, ⟨⟨trivial, ⟨⟨trivial, trivial⟩, ⟨⟨g26_0_10, m26_0_0, trivial⟩, ⟨⟨trivial, trivial⟩, ⟨trivial, ⟨⟨trivial, trivial⟩, trivial⟩⟩⟩⟩⟩⟩, ⟨⟨trivial, ⟨g26_0_24, m26_0_1, trivial⟩⟩, ⟨trivial, trivial⟩⟩⟩⟩
theorem fm26_0g (vf56_0 : Tf56_0) (vJ26_0_0 : TJ26_0_0) (vL26_0_1 : TL26_0_1) (α : Type) (k : List RV → Option α) : Fn26_0 (f26_0g vJ26_0_0 vL26_0_1) α k = pa26_0.unc fun ds => fnM Try.prog (E26_0g vf56_0) sh26 (cm26_0g vJ26_0_0 vL26_0_1) rs26 k ds := by kernel_rfl
theorem fm26_0 : ∀ (α : Type) (k : List RV → Option α), Fn26_0 f26_0 α k = pa26_0.unc fun ds => fnM Try.prog E26_0 sh26 cm26_0 rs26 k ds := fm26_0g f56_0 J26_0_0 L26_0_1
theorem is26 : FnIs Try.prog 26 nt26 tr26 tl26 cm26_0.erase rs26 := ⟨Try.f26, Try.func26, rfl, by kernel_rfl, by kernel_rfl, by kernel_rfl⟩
theorem io26_0 : InstOk Try.prog 26 nt26 ⟨pa26_0, Fn26_0 f26_0⟩ := inst_ok eo26_0 followsTry is26 ⟨⟨sh26, cm26_0, by kernel_rfl, gm26_0, fm26_0⟩⟩
abbrev nt9 : Nat := 39
def sh9 : List (Nat × List Sh) := [(6, [.str]), (11, [.int .i64]), (13, [.str, .int .i64, .sl, .sl, .sl, .int .i64, .int .i64]), (19, [.int .i64]), (23, [.sl]), (26, [.sl]), (30, [.sl]), (36, [.int .i64, .int .i64])]
def r9_2 : List AOper := [oO 1 (.box (.tmp 0)), oO 2 (.mv (kI 0)), oO 3 (.mv (kI 0))]
def r9_6 : List AOper := [oO 5 (.faddr 0 (.tmp 1)), oO 6 (.load false 1 (.tmp 5)), oO 7 (.call 25 [(.tmp 6)]), oO 8 (.pure (oB (.unOp .not 4 (.tmp 7)) 4)), oM 4 8]
def r9_9 : List AOper := [oO 2 (.mv (kI 0)), oO 3 (.mv (kI 3))]
def r9_11 : List AOper := [oO 10 (.faddr 1 (.tmp 1)), oO 11 (.load false 1 (.tmp 10)), oO 12 (.bin .eql 3 (.tmp 11) (kI 1)), oM 9 12]
def r9_14 : List AOper := [oO 13 (.load true 7 (.tmp 1)), oO 14 (.call 26 [(.tmp 13)]), oO 15 (.extract 0 (.tmp 14)), oO 16 (.extract 1 (.tmp 14)), oM 2 15, oM 3 16]
def r9_16 : List AOper := [oO 18 (.faddr 1 (.tmp 1)), oO 19 (.load false 1 (.tmp 18)), oO 20 (.bin .neq 3 (.tmp 19) (kI 2)), oM 17 20]
def r9_19 : List AOper := [oO 2 (.mv (kI 0)), oO 3 (.mv (kI 11))]
def r9_21 : List AOper := [oO 22 (.faddr 2 (.tmp 1)), oO 23 (.load false 1 (.tmp 22)), oO 24 (.len (.tmp 23)), oO 25 (.faddr 3 (.tmp 1)), oO 26 (.load false 1 (.tmp 25)), oO 27 (.len (.tmp 26)), oO 28 (.bin .add 3 (.tmp 24) (.tmp 27)), oO 29 (.faddr 4 (.tmp 1)), oO 30 (.load false 1 (.tmp 29)), oO 31 (.len (.tmp 30)), oO 32 (.bin .add 3 (.tmp 28) (.tmp 31)), oO 33 (.bin .gtr 3 (.tmp 32) (kI 0)), oM 21 33]
def r9_24 : List AOper := [oO 2 (.mv (kI 0)), oO 3 (.mv (kI 13))]
def r9_26 : List AOper := [oO 35 (.faddr 5 (.tmp 1)), oO 36 (.load true 2 (.tmp 35)), oO 37 (.call 27 [(.tmp 36)]), oO 38 (.pure (oB (.unOp .not 4 (.tmp 37)) 4)), oM 34 38]
def r9_29 : List AOper := [oO 2 (.mv (kI 0)), oO 3 (.mv (kI 2))]
def r9_31 : List AOper := [oO 2 (.mv (kI 0)), oO 3 (.mv (kI 0))]
def tr9 : List (Nat × Tidy) := [tT 0 [1], tT 1 [1, 4], tT 2 [2, 3], tT 3 [1, 9], tT 4 [2, 3], tT 5 [1, 17], tT 6 [2, 3], tT 7 [1, 21], tT 8 [2, 3], tT 9 [34], tT 10 [2, 3], tT 11 [2, 3]]
def tl9 : List (Nat × Tidy) := []
def rs9 : List AResV := [.tmp 2, .tmp 3]
def pr9_0_0 : PT (List RV) := pRs [pR false [rD (dI .i64)], pR false [rD (dI .i64)]]
def ur9_0_0 {β : Type} (g : List RV → β) : Int → Int → β := pr9_0_0.unc g
def E9_0g (vf25_0 : Tf25_0) (vf26_0 : Tf26_0) (vf27_0 : Tf27_0) : EnvK := EnvK.of [⟨25, nt25, [⟨pa25_0, Fn25_0 vf25_0⟩]⟩, ⟨26, nt26, [⟨pa26_0, Fn26_0 vf26_0⟩]⟩, ⟨27, nt27, [⟨pa27_0, Fn27_0 vf27_0⟩]⟩] noSeq
noncomputable def E9_0 : EnvK := E9_0g f25_0 f26_0 f27_0
theorem eo9_0 : E9_0.Ok Try.prog := EnvK.of_ok noSeq_ok ⟨⟨io25_0, trivial⟩, ⟨io26_0, trivial⟩, ⟨io27_0, trivial⟩, trivial⟩
abbrev Tf9_0 : Type 1 := (α : Type) → ByteArray → Int → Rows → Rows → Rows → Int → Int → (Int → Int → Option α) → Option α
def f9_0g (vf25_0 : Tf25_0) (vf26_0 : Tf26_0) (vf27_0 : Tf27_0) (α : Type) (x1 : ByteArray) (x2 : Int) (x3 x4 x5 : Rows) (x6 x7 : Int) (k1 : Int → Int → Option α) : Option α :=
 vf25_0 α x1
 (fun x8 => cK (!x8)
 (k1 0 3)
 (cK (x2 == 1)
 (vf26_0 α x1 x2 x3 x4 x5 x6 x7
 (fun x9 x10 => k1 x9 x10))
 (cK (x2 != 2)
 (k1 0 11)
 (cK (decide (0 < (w64 ((w64 (((List.length x3 : Nat) : Int) + ((List.length x4 : Nat) : Int))) + ((List.length x5 : Nat) : Int)))))
 (k1 0 13)
 (vf27_0 α x6 x7
 (fun x11 => cK (!x11)
 (k1 0 2)
 (k1 0 0)))))))
noncomputable def f9_0 (α : Type) (x1 : ByteArray) (x2 : Int) (x3 x4 x5 : Rows) (x6 x7 : Int) (k1 : Int → Int → Option α) : Option α := f9_0g f25_0 f26_0 f27_0 α x1 x2 x3 x4 x5 x6 x7 k1
def pa9_0 : PT (List DV) := pA [pV true [dS, (dI .i64), dL, dL, dL, (dI .i64), (dI .i64)]]
def Fn9_0 (v : Tf9_0) (α : Type) (k : List RV → Option α) : ByteArray → Int → Rows → Rows → Rows → Int → Int → Option α := fun x1 x2 x3 x4 x5 x6 x7 => v α x1 x2 x3 x4 x5 x6 x7 (fun (y1 : Int) (y2 : Int) => ur9_0_0 k y1 y2)
noncomputable def cm9_0g  : MCode := (.seq (.region r9_2 [] (tO [1])) (.seq (.block 0 (.seq (.region r9_6 [] (tO [1, 4])) (.cond (.tmp 4) (.seq (.region r9_9 [] (tO [2, 3])) .ret) (.seq (.region r9_11 [] (tO [1, 9])) (.cond (.tmp 9) (.seq (.region r9_14 [] (tO [2, 3])) .ret) (.seq (.region r9_16 [] (tO [1, 17])) (.cond (.tmp 17) (.seq (.region r9_19 [] (tO [2, 3])) .ret) (.seq (.region r9_21 [] (tO [1, 21])) (.cond (.tmp 21) (.seq (.region r9_24 [] (tO [2, 3])) .ret) (.seq (.region r9_26 [] (tO [34])) (.cond (.tmp 34) (.seq (.region r9_29 [] (tO [2, 3])) .ret) .skip))))))))))) (.seq (.region r9_31 [] (tO [2, 3])) .ret)))
noncomputable def cm9_0 : MCode := cm9_0g 
theorem gm9_0 : cm9_0.Good Try.prog E9_0 sh9 := ⟨trivial, ⟨⟨trivial, ⟨⟨trivial, trivial⟩, ⟨trivial, ⟨⟨trivial, trivial⟩, ⟨trivial, ⟨⟨trivial, trivial⟩, ⟨trivial, ⟨⟨trivial, trivial⟩, ⟨trivial, ⟨⟨trivial, trivial⟩, trivial⟩⟩⟩⟩⟩⟩⟩⟩⟩⟩, ⟨trivial, trivial⟩⟩⟩
theorem fm9_0g (vf25_0 : Tf25_0) (vf26_0 : Tf26_0) (vf27_0 : Tf27_0)  (α : Type) (k : List RV → Option α) : Fn9_0 (f9_0g vf25_0 vf26_0 vf27_0) α k = pa9_0.unc fun ds => fnM Try.prog (E9_0g vf25_0 vf26_0 vf27_0) sh9 (cm9_0g ) rs9 k ds := by kernel_rfl
theorem fm9_0 : ∀ (α : Type) (k : List RV → Option α), Fn9_0 f9_0 α k = pa9_0.unc fun ds => fnM Try.prog E9_0 sh9 cm9_0 rs9 k ds := fm9_0g f25_0 f26_0 f27_0
theorem is9 : FnIs Try.prog 9 nt9 tr9 tl9 cm9_0.erase rs9 := ⟨Try.f9, Try.func9, rfl, by kernel_rfl, by kernel_rfl, by kernel_rfl⟩
theorem io9_0 : InstOk Try.prog 9 nt9 ⟨pa9_0, Fn9_0 f9_0⟩ := inst_ok eo9_0 followsTry is9 ⟨⟨sh9, cm9_0, by kernel_rfl, gm9_0, fm9_0⟩⟩
abbrev nt45 : Nat := 28
def sh45 : List (Nat × List Sh) := [(7, [.str, .int .i64, .sl, .sl, .sl, .int .i64, .int .i64]), (15, [.int .i64]), (17, [.str, .int .i64, .sl, .sl, .sl, .int .i64, .int .i64]), (22, [.int .i64]), (25, [.int .i64])]
def r45_2 : List AOper := [oO 1 (.box (.tmp 0)), oO 2 (.mv (.const .nilIface)), oO 3 (.mv (kI 0))]
def r45_5 : List AOper := [oO 7 (.load true 7 (.tmp 1)), oO 8 (.call 9 [(.tmp 7)]), oM 6 8, oO 9 (.extract 0 (.tmp 6)), oO 10 (.extract 1 (.tmp 6)), oM 4 9, oM 5 10]
def r45_7 : List AOper := [oM 11 5, oO 12 (.bin .neq 29 (.tmp 11) (kI 0))]
def r45_10 : List AOper := [oM 13 5, oO 2 (.mv (.const .nilIface)), oM 3 13]
def r45_13 : List AOper := [oO 14 (.faddr 1 (.tmp 1)), oO 15 (.load false 1 (.tmp 14)), oO 16 (.bin .eql 3 (.tmp 15) (kI 1))]
def r45_16 : List AOper := [oO 17 (.load true 7 (.tmp 1)), ⟨(some 18), (.build [(.d (.v (.string ⟨#[]⟩))), (cI 0), .nils, .nils, .nils, (cI 0), (cI 0)] [(0, 7, (.tmp 17))]), none⟩, oO 19 (.ifc 102 (.tmp 18)), oM 2 19, oO 3 (.mv (kI 0))]
def r45_18 : List AOper := [oO 20 (.faddr 5 (.tmp 1)), oO 21 (.iaddr 1 (some 2) (.tmp 20) (kI 0)), oO 22 (.load false 1 (.tmp 21)), oO 23 (.faddr 5 (.tmp 1)), oO 24 (.iaddr 1 (some 2) (.tmp 23) (kI 1)), oO 25 (.load false 1 (.tmp 24)), oO 26 (.build [(cI 0), (cI 0)] [(0, 1, (.tmp 22)), (1, 1, (.tmp 25))]), oO 27 (.ifc 104 (.tmp 26)), oM 2 27, oO 3 (.mv (kI 0))]
def tr45 : List (Nat × Tidy) := [tT 0 [1], tT 1 [1, 5], tT 2 [1, 5, 12], tT 3 [2, 3], tT 4 [1, 16], tT 5 [2, 3], tT 6 [2, 3]]
def tl45 : List (Nat × Tidy) := []
def rs45 : List AResV := [.tmp 2, .tmp 3]
def pr45_0_0 : PT (List RV) := pRs [pR false [rD dNIf], pR false [rD (dI .i64)]]
def ur45_0_0 {β : Type} (g : List RV → β) : Int → β := pr45_0_0.unc g
def pr45_0_1 : PT (List RV) := pRs [pR false [rD (dIf 102 true [dS, (dI .i64), dL, dL, dL, (dI .i64), (dI .i64)])], pR false [rD (dI .i64)]]
def ur45_0_1 {β : Type} (g : List RV → β) : ByteArray → Int → Rows → Rows → Rows → Int → Int → Int → β := pr45_0_1.unc g
def pr45_0_2 : PT (List RV) := pRs [pR false [rD (dIf 104 true [(dI .i64), (dI .i64)])], pR false [rD (dI .i64)]]
def ur45_0_2 {β : Type} (g : List RV → β) : Int → Int → Int → β := pr45_0_2.unc g
def E45_0g (vf9_0 : Tf9_0) : EnvK := EnvK.of [⟨9, nt9, [⟨pa9_0, Fn9_0 vf9_0⟩]⟩] noSeq
noncomputable def E45_0 : EnvK := E45_0g f9_0
theorem eo45_0 : E45_0.Ok Try.prog := EnvK.of_ok noSeq_ok ⟨⟨io9_0, trivial⟩, trivial⟩
abbrev Tf45_0 : Type 1 := (α : Type) → ByteArray → Int → Rows → Rows → Rows → Int → Int → (Int → Option α) → (ByteArray → Int → Rows → Rows → Rows → Int → Int → Option α) → (Int → Int → Option α) → Option α
def f45_0g (vf9_0 : Tf9_0) (α : Type) (x1 : ByteArray) (x2 : Int) (x3 x4 x5 : Rows) (x6 x7 : Int) (k1 : Int → Option α) (k2 : ByteArray → Int → Rows → Rows → Rows → Int → Int → Option α) (k3 : Int → Int → Option α) : Option α :=
 vf9_0 α x1 x2 x3 x4 x5 x6 x7
 (fun x8 x9 => cK (x9 != 0)
 (k1 x9)
 (cK (x2 == 1)
 (k2 x1 x2 x3 x4 x5 x6 x7)
 (k3 x6 x7)))
noncomputable def f45_0 (α : Type) (x1 : ByteArray) (x2 : Int) (x3 x4 x5 : Rows) (x6 x7 : Int) (k1 : Int → Option α) (k2 : ByteArray → Int → Rows → Rows → Rows → Int → Int → Option α) (k3 : Int → Int → Option α) : Option α := f45_0g f9_0 α x1 x2 x3 x4 x5 x6 x7 k1 k2 k3
def pa45_0 : PT (List DV) := pA [pV true [dS, (dI .i64), dL, dL, dL, (dI .i64), (dI .i64)]]
def Fn45_0 (v : Tf45_0) (α : Type) (k : List RV → Option α) : ByteArray → Int → Rows → Rows → Rows → Int → Int → Option α := fun x1 x2 x3 x4 x5 x6 x7 => v α x1 x2 x3 x4 x5 x6 x7 (fun (y1 : Int) => ur45_0_0 k y1) (fun (y1 : ByteArray) (y2 : Int) (y3 : Rows) (y4 : Rows) (y5 : Rows) (y6 : Int) (y7 : Int) => ur45_0_1 k y1 y2 y3 y4 y5 y6 y7 0) (fun (y1 : Int) (y2 : Int) => ur45_0_2 k y1 y2 0)
noncomputable def cm45_0g  : MCode := (.seq (.region r45_2 [] (tO [1])) (.seq (.seq (.region r45_5 [] (tO [1, 5])) (.seq (.region r45_7 [] (tO [1, 5, 12])) (.cond (.tmp 12) (.seq (.region r45_10 [] (tO [2, 3])) .ret) .skip))) (.seq (.seq (.region r45_13 [] (tO [1, 16])) (.cond (.tmp 16) (.seq (.region r45_16 [] (tO [2, 3])) .ret) .skip)) (.seq (.region r45_18 [] (tO [2, 3])) .ret))))
noncomputable def cm45_0 : MCode := cm45_0g 
theorem gm45_0 : cm45_0.Good Try.prog E45_0 sh45 := ⟨trivial, ⟨⟨trivial, ⟨trivial, ⟨⟨trivial, trivial⟩, trivial⟩⟩⟩, ⟨⟨trivial, ⟨⟨trivial, trivial⟩, trivial⟩⟩, ⟨trivial, trivial⟩⟩⟩⟩
theorem fm45_0g (vf9_0 : Tf9_0)  (α : Type) (k : List RV → Option α) : Fn45_0 (f45_0g vf9_0) α k = pa45_0.unc fun ds => fnM Try.prog (E45_0g vf9_0) sh45 (cm45_0g ) rs45 k ds := by kernel_rfl
theorem fm45_0 : ∀ (α : Type) (k : List RV → Option α), Fn45_0 f45_0 α k = pa45_0.unc fun ds => fnM Try.prog E45_0 sh45 cm45_0 rs45 k ds := fm45_0g f9_0
theorem is45 : FnIs Try.prog 45 nt45 tr45 tl45 cm45_0.erase rs45 := ⟨Try.f45, Try.func45, rfl, by kernel_rfl, by kernel_rfl, by kernel_rfl⟩
theorem io45_0 : InstOk Try.prog 45 nt45 ⟨pa45_0, Fn45_0 f45_0⟩ := inst_ok eo45_0 followsTry is45 ⟨⟨sh45, cm45_0, by kernel_rfl, gm45_0, fm45_0⟩⟩
abbrev nt47 : Nat := 27
def sh47 : List (Nat × List Sh) := [(9, [.str, .int .i64, .sl, .sl, .sl, .int .i64, .int .i64])]
def r47_2 : List AOper := [oO 2 (.box (.tmp 0)), oO 4 (.mv (.const .nilIface)), oO 5 (.mv (kI 0))]
def r47_4 : List AOper := [oO 9 (.load true 7 (.tmp 2)), oO 10 (.call 45 [(.tmp 9)]), oM 8 10, oO 11 (.extract 0 (.tmp 8)), oO 12 (.extract 1 (.tmp 8)), oM 6 11, oM 7 12]
def r47_8 : List AOper := [oM 14 7, oO 15 (.bin .neq 29 (.tmp 14) (kI 0)), oM 13 15]
def r47_11 : List AOper := [oM 16 7, oO 4 (.mv (.const .nilIface)), oM 5 16]
def r47_13 : List AOper := [oM 18 1, oO 19 (.call 46 [(.tmp 18)]), oO 20 (.pure (oB (.unOp .not 4 (.tmp 19)) 4)), oM 17 20]
def r47_16 : List AOper := [oO 4 (.mv (.const .nilIface)), oO 5 (.mv (kI 2))]
def r47_18 : List AOper := [oM 22 6, oM 23 1, oO 24 (.inv "etalon/glass.covers" (.tmp 22) [(.tmp 23)]), oO 25 (.pure (oB (.unOp .not 4 (.tmp 24)) 4)), oM 21 25]
def r47_21 : List AOper := [oO 4 (.mv (.const .nilIface)), oO 5 (.mv (kI 17))]
def r47_23 : List AOper := [oM 26 6, oM 4 26, oO 5 (.mv (kI 0))]
def tr47 : List (Nat × Tidy) := [tT 0 [1, 2], tT 1 [1, 6, 7], tT 2 [1, 6, 7, 13], tT 3 [4, 5], tT 4 [1, 6, 17], tT 5 [4, 5], tT 6 [6, 21], tT 7 [4, 5], tT 8 [4, 5]]
def tl47 : List (Nat × Tidy) := []
def rs47 : List AResV := [.tmp 4, .tmp 5]
def p47_0_0 : PT St := pS [sl 1 (aV false [(cD (dI .i64))]), sl 2 (aV false [(cPtr 2 0)])] [eBox 2 [(cD dS), (cD (dI .i64)), (cD dL), (cD dL), (cD dL), (cD (dI .i64)), (cD (dI .i64))]]
def u47_0_0 {β : Type} (g : St → β) : Int → ByteArray → Int → Rows → Rows → Rows → Int → Int → β := p47_0_0.unc g
def p47_0_1 : PT St := pS [sl 1 (aV false [(cD (dI .i64))]), sl 6 (aV false [(cD dNIf)]), sl 7 (aV false [(cD (dI .i64))])] []
def u47_0_1 {β : Type} (g : St → β) : Int → Int → β := p47_0_1.unc g
def p47_0_2 : PT St := pS [sl 1 (aV false [(cD (dI .i64))]), sl 6 (aV false [(cD (dIf 102 true [dS, (dI .i64), dL, dL, dL, (dI .i64), (dI .i64)]))]), sl 7 (aV false [(cD (dI .i64))])] []
def u47_0_2 {β : Type} (g : St → β) : Int → ByteArray → Int → Rows → Rows → Rows → Int → Int → Int → β := p47_0_2.unc g
def p47_0_3 : PT St := pS [sl 1 (aV false [(cD (dI .i64))]), sl 6 (aV false [(cD (dIf 104 true [(dI .i64), (dI .i64)]))]), sl 7 (aV false [(cD (dI .i64))])] []
def u47_0_3 {β : Type} (g : St → β) : Int → Int → Int → Int → β := p47_0_3.unc g
def pr47_0_0 : PT (List RV) := pRs [pR false [rD dNIf], pR false [rD (dI .i64)]]
def ur47_0_0 {β : Type} (g : List RV → β) : Int → β := pr47_0_0.unc g
def pr47_0_1 : PT (List RV) := pRs [pR false [rD (dIf 102 true [dS, (dI .i64), dL, dL, dL, (dI .i64), (dI .i64)])], pR false [rD (dI .i64)]]
def ur47_0_1 {β : Type} (g : List RV → β) : ByteArray → Int → Rows → Rows → Rows → Int → Int → Int → β := pr47_0_1.unc g
def pr47_0_2 : PT (List RV) := pRs [pR false [rD (dIf 104 true [(dI .i64), (dI .i64)])], pR false [rD (dI .i64)]]
def ur47_0_2 {β : Type} (g : List RV → β) : Int → Int → Int → β := pr47_0_2.unc g
def E47_0g (vf45_0 : Tf45_0) (vf46_0 : Tf46_0) (vf121_0 : Tf121_0) (vf127_0 : Tf127_0) : EnvK := EnvK.of [⟨45, nt45, [⟨pa45_0, Fn45_0 vf45_0⟩]⟩, ⟨46, nt46, [⟨pa46_0, Fn46_0 vf46_0⟩]⟩, ⟨121, nt121, [⟨pa121_0, Fn121_0 vf121_0⟩]⟩, ⟨127, nt127, [⟨pa127_0, Fn127_0 vf127_0⟩]⟩] noSeq
noncomputable def E47_0 : EnvK := E47_0g f45_0 f46_0 f121_0 f127_0
theorem eo47_0 : E47_0.Ok Try.prog := EnvK.of_ok noSeq_ok ⟨⟨io45_0, trivial⟩, ⟨io46_0, trivial⟩, ⟨io121_0, trivial⟩, ⟨io127_0, trivial⟩, trivial⟩
noncomputable def c47_0_3g  : MCode := (.region r47_4 [] (tO [1, 6, 7]))
noncomputable def c47_0_3 : MCode := c47_0_3g 
theorem g47_0_3 : c47_0_3.Good Try.prog E47_0 sh47 := trivial
--CODE 3 0
abbrev TJ47_0_0 : Type 1 := (α : Type) → ByteArray → Int → Rows → Rows → Rows → Int → Int → (Int → Option α) → (ByteArray → Int → Rows → Rows → Rows → Int → Int → Option α) → (Int → Int → Option α) → Option α
def J47_0_0g (vf45_0 : Tf45_0) (α : Type) (x10 : ByteArray) (x11 : Int) (x12 x13 x14 : Rows) (x15 x16 : Int) (k1 : Int → Option α) (k2 : ByteArray → Int → Rows → Rows → Rows → Int → Int → Option α) (k3 : Int → Int → Option α) : Option α :=
 vf45_0 α x10 x11 x12 x13 x14 x15 x16
 (fun x18 => k1 x18)
 (fun x19 x20 x21 x22 x23 x24 x25 => k2 x19 x20 x21 x22 x23 x24 x25)
 (fun x26 x27 => k3 x26 x27)
noncomputable def J47_0_0 (α : Type) (x10 : ByteArray) (x11 : Int) (x12 x13 x14 : Rows) (x15 x16 : Int) (k1 : Int → Option α) (k2 : ByteArray → Int → Rows → Rows → Rows → Int → Int → Option α) (k3 : Int → Int → Option α) : Option α := J47_0_0g f45_0 α x10 x11 x12 x13 x14 x15 x16 k1 k2 k3
def F47_0_0 (v : TJ47_0_0) (α : Type) (K : Exit → St → Option α) : Int → ByteArray → Int → Rows → Rows → Rows → Int → Int → Option α := fun x9 x10 x11 x12 x13 x14 x15 x16 => v α x10 x11 x12 x13 x14 x15 x16 (fun (y1 : Int) => u47_0_1 (K .normal) x9 y1) (fun (y1 : ByteArray) (y2 : Int) (y3 : Rows) (y4 : Rows) (y5 : Rows) (y6 : Int) (y7 : Int) => u47_0_2 (K .normal) x9 y1 y2 y3 y4 y5 y6 y7 0) (fun (y1 : Int) (y2 : Int) => u47_0_3 (K .normal) x9 y1 y2 0) 
theorem m47_0_0g (vf45_0 : Tf45_0) (vf46_0 : Tf46_0) (vf121_0 : Tf121_0) (vf127_0 : Tf127_0)  (α : Type) (K : Exit → St → Option α) : F47_0_0 (J47_0_0g vf45_0) α K = p47_0_0.unc fun σ => runM Try.prog (E47_0g vf45_0 vf46_0 vf121_0 vf127_0) sh47 (c47_0_3g ) K σ := by kernel_rfl
theorem m47_0_0 : ∀ (α : Type) (K : Exit → St → Option α), F47_0_0 J47_0_0 α K = p47_0_0.unc fun σ => runM Try.prog E47_0 sh47 c47_0_3 K σ := m47_0_0g f45_0 f46_0 f121_0 f127_0
abbrev Tf47_0 : Type 1 := (α : Type) → ByteArray → Int → Rows → Rows → Rows → Int → Int → Int → (Int → Option α) → (ByteArray → Int → Rows → Rows → Rows → Int → Int → Option α) → (Int → Int → Option α) → Option α
def f47_0g (vJ47_0_0 : TJ47_0_0) (vf121_0 : Tf121_0) (vf127_0 : Tf127_0) (vf46_0 : Tf46_0) (α : Type) (x1 : ByteArray) (x2 : Int) (x3 x4 x5 : Rows) (x6 x7 x8 : Int) (k1 : Int → Option α) (k2 : ByteArray → Int → Rows → Rows → Rows → Int → Int → Option α) (k3 : Int → Int → Option α) : Option α :=
 vJ47_0_0 α x1 x2 x3 x4 x5 x6 x7
 (fun x28 => cK (x28 != 0)
 (k1 x28)
 (vf46_0 α x8
 (fun x39 => cK (!x39)
 (k1 2)
 (none))))
 (fun x29 x30 x31 x32 x33 x34 x35 => vf46_0 α x8
 (fun x40 => cK (!x40)
 (k1 2)
 (vf121_0 α x29 x30 x31 x32 x33 x34 x35 x8
 (fun x41 => cK (!x41)
 (k1 17)
 (k2 x29 x30 x31 x32 x33 x34 x35)))))
 (fun x36 x37 => vf46_0 α x8
 (fun x42 => cK (!x42)
 (k1 2)
 (vf127_0 α x36 x37 x8
 (k3 x36 x37))))
noncomputable def f47_0 (α : Type) (x1 : ByteArray) (x2 : Int) (x3 x4 x5 : Rows) (x6 x7 x8 : Int) (k1 : Int → Option α) (k2 : ByteArray → Int → Rows → Rows → Rows → Int → Int → Option α) (k3 : Int → Int → Option α) : Option α := f47_0g J47_0_0 f121_0 f127_0 f46_0 α x1 x2 x3 x4 x5 x6 x7 x8 k1 k2 k3
def pa47_0 : PT (List DV) := pA [pV true [dS, (dI .i64), dL, dL, dL, (dI .i64), (dI .i64)], pV false [(dI .i64)]]
def Fn47_0 (v : Tf47_0) (α : Type) (k : List RV → Option α) : ByteArray → Int → Rows → Rows → Rows → Int → Int → Int → Option α := fun x1 x2 x3 x4 x5 x6 x7 x8 => v α x1 x2 x3 x4 x5 x6 x7 x8 (fun (y1 : Int) => ur47_0_0 k y1) (fun (y1 : ByteArray) (y2 : Int) (y3 : Rows) (y4 : Rows) (y5 : Rows) (y6 : Int) (y7 : Int) => ur47_0_1 k y1 y2 y3 y4 y5 y6 y7 0) (fun (y1 : Int) (y2 : Int) => ur47_0_2 k y1 y2 0)
noncomputable def cm47_0g (vJ47_0_0 : TJ47_0_0) : MCode := (.seq (.region r47_2 [] (tO [1, 2])) (.seq (.mark [⟨p47_0_0, F47_0_0 vJ47_0_0⟩] c47_0_3) (.seq (.block 0 (.seq (.region r47_8 [] (tO [1, 6, 7, 13])) (.cond (.tmp 13) (.seq (.region r47_11 [] (tO [4, 5])) .ret) (.seq (.region r47_13 [] (tO [1, 6, 17])) (.cond (.tmp 17) (.seq (.region r47_16 [] (tO [4, 5])) .ret) (.seq (.region r47_18 [] (tO [6, 21])) (.cond (.tmp 21) (.seq (.region r47_21 [] (tO [4, 5])) .ret) .skip))))))) (.seq (.region r47_23 [] (tO [4, 5])) .ret))))
noncomputable def cm47_0 : MCode := cm47_0g J47_0_0
theorem gm47_0 : cm47_0.Good Try.prog E47_0 sh47 := ⟨trivial, ⟨⟨g47_0_3, m47_0_0, trivial⟩, ⟨⟨trivial, ⟨⟨trivial, trivial⟩, ⟨trivial, ⟨⟨trivial, trivial⟩, ⟨trivial, ⟨⟨trivial, trivial⟩, trivial⟩⟩⟩⟩⟩⟩, ⟨trivial, trivial⟩⟩⟩⟩
theorem fm47_0g (vf45_0 : Tf45_0) (vf46_0 : Tf46_0) (vf121_0 : Tf121_0) (vf127_0 : Tf127_0) (vJ47_0_0 : TJ47_0_0) (α : Type) (k : List RV → Option α) : Fn47_0 (f47_0g vJ47_0_0 vf121_0 vf127_0 vf46_0) α k = pa47_0.unc fun ds => fnM Try.prog (E47_0g vf45_0 vf46_0 vf121_0 vf127_0) sh47 (cm47_0g vJ47_0_0) rs47 k ds := by kernel_rfl
theorem fm47_0 : ∀ (α : Type) (k : List RV → Option α), Fn47_0 f47_0 α k = pa47_0.unc fun ds => fnM Try.prog E47_0 sh47 cm47_0 rs47 k ds := fm47_0g f45_0 f46_0 f121_0 f127_0 J47_0_0
theorem is47 : FnIs Try.prog 47 nt47 tr47 tl47 cm47_0.erase rs47 := ⟨Try.f47, Try.func47, rfl, by kernel_rfl, by kernel_rfl, by kernel_rfl⟩
theorem io47_0 : InstOk Try.prog 47 nt47 ⟨pa47_0, Fn47_0 f47_0⟩ := inst_ok eo47_0 followsTry is47 ⟨⟨sh47, cm47_0, by kernel_rfl, gm47_0, fm47_0⟩⟩
abbrev nt17 : Nat := 54
def sh17 : List (Nat × List Sh) := [(9, [.str, .int .i64, .sl, .sl, .sl, .int .i64, .int .i64]), (20, [.int .i64]), (25, [.int .i64]), (32, [.int .i64]), (34, [.int .i64]), (40, [.int .i64]), (46, [.int .i64]), (52, [.int .i64, .int .i64])]
def r17_2 : List AOper := [oO 2 (.box (.tmp 0)), oO 3 (.box (.tmp 1)), oO 4 (.alloc [(cI 0), (cI 0), (cI 0), (cI 0)]), oO 5 (.mv (kI 0))]
def r17_4 : List AOper := [oO 9 (.load true 7 (.tmp 2)), oO 10 (.call 45 [(.tmp 9)]), oM 8 10, oO 11 (.extract 0 (.tmp 8)), oO 12 (.extract 1 (.tmp 8)), oM 6 11, oM 7 12]
def r17_8 : List AOper := [oM 14 7, oO 15 (.bin .neq 29 (.tmp 14) (kI 0)), oM 13 15]
def r17_11 : List AOper := [oO 16 (.build [(cI 0), (cI 0), (cI 0), (cI 0)] []), oM 17 7, oD (.store 4 (.tmp 4) (.tmp 16)), oM 5 17]
def r17_13 : List AOper := [oO 19 (.faddr 0 (.tmp 3)), oO 20 (.load false 1 (.tmp 19)), oO 21 (.call 46 [(.tmp 20)]), oO 22 (.pure (oB (.unOp .not 4 (.tmp 21)) 4)), oM 23 22, oG 24 (.faddr 1 (.tmp 3)) 23 false, oG 25 (.load false 1 (.tmp 24)) 23 false, oG 26 (.call 46 [(.tmp 25)]) 23 false, oG 27 (.pure (oB (.unOp .not 4 (.tmp 26)) 4)) 23 false, oO 28 (.pick (.tmp 23) (.const (.bool true)) (.tmp 27)), oM 18 28]
def r17_16 : List AOper := [oO 29 (.build [(cI 0), (cI 0), (cI 0), (cI 0)] []), oD (.store 4 (.tmp 4) (.tmp 29)), oO 5 (.mv (kI 2))]
def r17_18 : List AOper := [oO 31 (.faddr 0 (.tmp 3)), oO 32 (.load false 1 (.tmp 31)), oO 33 (.faddr 1 (.tmp 3)), oO 34 (.load false 1 (.tmp 33)), oO 35 (.bin .gtr 3 (.tmp 32) (.tmp 34)), oM 30 35]
def r17_21 : List AOper := [oO 36 (.build [(cI 0), (cI 0), (cI 0), (cI 0)] []), oD (.store 4 (.tmp 4) (.tmp 36)), oO 5 (.mv (kI 10))]
def r17_23 : List AOper := [oM 38 6, oO 39 (.faddr 0 (.tmp 3)), oO 40 (.load false 1 (.tmp 39)), oO 41 (.inv "etalon/glass.covers" (.tmp 38) [(.tmp 40)]), oO 42 (.pure (oB (.unOp .not 4 (.tmp 41)) 4)), oM 43 42, oG 44 (.mv (.tmp 6)) 43 false, oG 45 (.faddr 1 (.tmp 3)) 43 false, oG 46 (.load false 1 (.tmp 45)) 43 false, oG 47 (.inv "etalon/glass.covers" (.tmp 44) [(.tmp 46)]) 43 false, oG 48 (.pure (oB (.unOp .not 4 (.tmp 47)) 4)) 43 false, oO 49 (.pick (.tmp 43) (.const (.bool true)) (.tmp 48)), oM 37 49]
def r17_26 : List AOper := [oO 50 (.build [(cI 0), (cI 0), (cI 0), (cI 0)] []), oD (.store 4 (.tmp 4) (.tmp 50)), oO 5 (.mv (kI 17))]
def r17_28 : List AOper := [oM 51 6, oO 52 (.load true 2 (.tmp 3)), oO 53 (.inv "etalon/glass.between" (.tmp 51) [(.tmp 52)]), oD (.store 4 (.tmp 4) (.tmp 53)), oO 5 (.mv (kI 0))]
def tr17 : List (Nat × Tidy) := [tT 0 [2, 3, 4], tT 1 [3, 4, 6, 7], tT 2 [3, 4, 6, 7, 13], tT 3 [4, 5], tT 4 [3, 4, 6, 18], tT 5 [4, 5], tT 6 [3, 4, 6, 30], tT 7 [4, 5], tT 8 [3, 4, 6, 37], tT 9 [4, 5], tT 10 [4, 5]]
def tl17 : List (Nat × Tidy) := []
def rs17 : List AResV := [.cell 4 true 4, .tmp 5]
def p17_0_0 : PT St := pS [sl 2 (aV false [(cPtr 2 0)]), sl 3 (aV false [(cPtr 3 0)]), sl 4 (aV false [(cPtr 4 0)])] [eBox 2 [(cD dS), (cD (dI .i64)), (cD dL), (cD dL), (cD dL), (cD (dI .i64)), (cD (dI .i64))], eBox 3 [(cD (dI .i64)), (cD (dI .i64))], eBox 4 [(cD (dI .i64)), (cD (dI .i64)), (cD (dI .i64)), (cD (dI .i64))]]
def u17_0_0 {β : Type} (g : St → β) : ByteArray → Int → Rows → Rows → Rows → Int → Int → Int → Int → Int → Int → Int → Int → β := p17_0_0.unc g
def p17_0_1 : PT St := pS [sl 3 (aV false [(cPtr 3 0)]), sl 4 (aV false [(cPtr 4 0)]), sl 6 (aV false [(cD dNIf)]), sl 7 (aV false [(cD (dI .i64))])] [eBox 3 [(cD (dI .i64)), (cD (dI .i64))], eBox 4 [(cD (dI .i64)), (cD (dI .i64)), (cD (dI .i64)), (cD (dI .i64))]]
def u17_0_1 {β : Type} (g : St → β) : Int → Int → Int → Int → Int → Int → Int → β := p17_0_1.unc g
def p17_0_2 : PT St := pS [sl 3 (aV false [(cPtr 3 0)]), sl 4 (aV false [(cPtr 4 0)]), sl 6 (aV false [(cD (dIf 102 true [dS, (dI .i64), dL, dL, dL, (dI .i64), (dI .i64)]))]), sl 7 (aV false [(cD (dI .i64))])] [eBox 3 [(cD (dI .i64)), (cD (dI .i64))], eBox 4 [(cD (dI .i64)), (cD (dI .i64)), (cD (dI .i64)), (cD (dI .i64))]]
def u17_0_2 {β : Type} (g : St → β) : ByteArray → Int → Rows → Rows → Rows → Int → Int → Int → Int → Int → Int → Int → Int → Int → β := p17_0_2.unc g
def p17_0_3 : PT St := pS [sl 3 (aV false [(cPtr 3 0)]), sl 4 (aV false [(cPtr 4 0)]), sl 6 (aV false [(cD (dIf 104 true [(dI .i64), (dI .i64)]))]), sl 7 (aV false [(cD (dI .i64))])] [eBox 3 [(cD (dI .i64)), (cD (dI .i64))], eBox 4 [(cD (dI .i64)), (cD (dI .i64)), (cD (dI .i64)), (cD (dI .i64))]]
def u17_0_3 {β : Type} (g : St → β) : Int → Int → Int → Int → Int → Int → Int → Int → Int → β := p17_0_3.unc g
def p17_0_4 : PT St := pS [sl 3 (aV false [(cPtr 3 0)]), sl 4 (aV false [(cPtr 4 0)]), sl 6 (aV false [(cD dNIf)]), sl 7 (aV false [(cD (dI .i64))]), sl 13 (aV false [(cD dB)])] [eBox 3 [(cD (dI .i64)), (cD (dI .i64))], eBox 4 [(cD (dI .i64)), (cD (dI .i64)), (cD (dI .i64)), (cD (dI .i64))]]
def u17_0_4 {β : Type} (g : St → β) : Int → Bool → Int → Int → Int → Int → Int → Int → β := p17_0_4.unc g
def p17_0_5 : PT St := pS [sl 3 (aV false [(cPtr 3 0)]), sl 4 (aV false [(cPtr 4 0)]), sl 6 (aV false [(cD dNIf)]), sl 18 (aV false [(cD dB)])] [eBox 3 [(cD (dI .i64)), (cD (dI .i64))], eBox 4 [(cD (dI .i64)), (cD (dI .i64)), (cD (dI .i64)), (cD (dI .i64))]]
def u17_0_5 {β : Type} (g : St → β) : Bool → Int → Int → Int → Int → Int → Int → β := p17_0_5.unc g
def p17_0_6 : PT St := pS [sl 3 (aV false [(cPtr 3 0)]), sl 4 (aV false [(cPtr 4 0)]), sl 6 (aV false [(cD (dIf 102 true [dS, (dI .i64), dL, dL, dL, (dI .i64), (dI .i64)]))]), sl 7 (aV false [(cD (dI .i64))]), sl 13 (aV false [(cD dB)])] [eBox 3 [(cD (dI .i64)), (cD (dI .i64))], eBox 4 [(cD (dI .i64)), (cD (dI .i64)), (cD (dI .i64)), (cD (dI .i64))]]
def u17_0_6 {β : Type} (g : St → β) : ByteArray → Int → Rows → Rows → Rows → Int → Int → Int → Bool → Int → Int → Int → Int → Int → Int → β := p17_0_6.unc g
def p17_0_7 : PT St := pS [sl 3 (aV false [(cPtr 3 0)]), sl 4 (aV false [(cPtr 4 0)]), sl 6 (aV false [(cD (dIf 102 true [dS, (dI .i64), dL, dL, dL, (dI .i64), (dI .i64)]))]), sl 18 (aV false [(cD dB)])] [eBox 3 [(cD (dI .i64)), (cD (dI .i64))], eBox 4 [(cD (dI .i64)), (cD (dI .i64)), (cD (dI .i64)), (cD (dI .i64))]]
def u17_0_7 {β : Type} (g : St → β) : ByteArray → Int → Rows → Rows → Rows → Int → Int → Bool → Int → Int → Int → Int → Int → Int → β := p17_0_7.unc g
def p17_0_8 : PT St := pS [sl 3 (aV false [(cPtr 3 0)]), sl 4 (aV false [(cPtr 4 0)]), sl 6 (aV false [(cD (dIf 104 true [(dI .i64), (dI .i64)]))]), sl 7 (aV false [(cD (dI .i64))]), sl 13 (aV false [(cD dB)])] [eBox 3 [(cD (dI .i64)), (cD (dI .i64))], eBox 4 [(cD (dI .i64)), (cD (dI .i64)), (cD (dI .i64)), (cD (dI .i64))]]
def u17_0_8 {β : Type} (g : St → β) : Int → Int → Int → Bool → Int → Int → Int → Int → Int → Int → β := p17_0_8.unc g
def p17_0_9 : PT St := pS [sl 3 (aV false [(cPtr 3 0)]), sl 4 (aV false [(cPtr 4 0)]), sl 6 (aV false [(cD (dIf 104 true [(dI .i64), (dI .i64)]))]), sl 18 (aV false [(cD dB)])] [eBox 3 [(cD (dI .i64)), (cD (dI .i64))], eBox 4 [(cD (dI .i64)), (cD (dI .i64)), (cD (dI .i64)), (cD (dI .i64))]]
def u17_0_9 {β : Type} (g : St → β) : Int → Int → Bool → Int → Int → Int → Int → Int → Int → β := p17_0_9.unc g
def pr17_0_0 : PT (List RV) := pRs [pR true [rD (dI .i64), rD (dI .i64), rD (dI .i64), rD (dI .i64)], pR false [rD (dI .i64)]]
def ur17_0_0 {β : Type} (g : List RV → β) : Int → Int → Int → Int → Int → β := pr17_0_0.unc g
def E17_0g (vf45_0 : Tf45_0) (vf46_0 : Tf46_0) (vf121_0 : Tf121_0) (vf120_0 : Tf120_0) (vf127_0 : Tf127_0) (vf126_0 : Tf126_0) : EnvK := EnvK.of [⟨45, nt45, [⟨pa45_0, Fn45_0 vf45_0⟩]⟩, ⟨46, nt46, [⟨pa46_0, Fn46_0 vf46_0⟩]⟩, ⟨121, nt121, [⟨pa121_0, Fn121_0 vf121_0⟩]⟩, ⟨120, nt120, [⟨pa120_0, Fn120_0 vf120_0⟩]⟩, ⟨127, nt127, [⟨pa127_0, Fn127_0 vf127_0⟩]⟩, ⟨126, nt126, [⟨pa126_0, Fn126_0 vf126_0⟩]⟩] noSeq
noncomputable def E17_0 : EnvK := E17_0g f45_0 f46_0 f121_0 f120_0 f127_0 f126_0
theorem eo17_0 : E17_0.Ok Try.prog := EnvK.of_ok noSeq_ok ⟨⟨io45_0, trivial⟩, ⟨io46_0, trivial⟩, ⟨io121_0, trivial⟩, ⟨io120_0, trivial⟩, ⟨io127_0, trivial⟩, ⟨io126_0, trivial⟩, trivial⟩
noncomputable def c17_0_12g  : MCode := (.region r17_13 [] (tO [3, 4, 6, 18]))
noncomputable def c17_0_12 : MCode := c17_0_12g 
theorem g17_0_12 : c17_0_12.Good Try.prog E17_0 sh17 := trivial
--CODE 12 0
abbrev TJ17_0_1 : Type 1 := (α : Type) → Int → Int → (Bool → Option α) → Option α
def J17_0_1g (vf46_0 : Tf46_0) (α : Type) (x47 x48 : Int) (k1 : Bool → Option α) : Option α :=
 vf46_0 α x47
 (fun x54 => cK (!x54)
 (k1 true)
 (vf46_0 α x48
 (fun x55 => k1 (!x55))))
noncomputable def J17_0_1 (α : Type) (x47 x48 : Int) (k1 : Bool → Option α) : Option α := J17_0_1g f46_0 α x47 x48 k1
def F17_0_1 (v : TJ17_0_1) (α : Type) (K : Exit → St → Option α) : Int → Bool → Int → Int → Int → Int → Int → Int → Option α := fun x45 x46 x47 x48 x49 x50 x51 x52 => v α x47 x48 (fun (y1 : Bool) => u17_0_5 (K .normal) y1 x47 x48 x49 x50 x51 x52) 
theorem m17_0_1g (vf45_0 : Tf45_0) (vf46_0 : Tf46_0) (vf121_0 : Tf121_0) (vf120_0 : Tf120_0) (vf127_0 : Tf127_0) (vf126_0 : Tf126_0)  (α : Type) (K : Exit → St → Option α) : F17_0_1 (J17_0_1g vf46_0) α K = p17_0_4.unc fun σ => runM Try.prog (E17_0g vf45_0 vf46_0 vf121_0 vf120_0 vf127_0 vf126_0) sh17 (c17_0_12g ) K σ := by kernel_rfl
theorem m17_0_1 : ∀ (α : Type) (K : Exit → St → Option α), F17_0_1 J17_0_1 α K = p17_0_4.unc fun σ => runM Try.prog E17_0 sh17 c17_0_12 K σ := m17_0_1g f45_0 f46_0 f121_0 f120_0 f127_0 f126_0
--CODE 12 0
abbrev TJ17_0_2 : Type 1 := (α : Type) → Int → Int → (Bool → Option α) → Option α
def J17_0_2g (vf46_0 : Tf46_0) (α : Type) (x67 x68 : Int) (k1 : Bool → Option α) : Option α :=
 vf46_0 α x67
 (fun x74 => cK (!x74)
 (k1 true)
 (vf46_0 α x68
 (fun x75 => k1 (!x75))))
noncomputable def J17_0_2 (α : Type) (x67 x68 : Int) (k1 : Bool → Option α) : Option α := J17_0_2g f46_0 α x67 x68 k1
def F17_0_2 (v : TJ17_0_2) (α : Type) (K : Exit → St → Option α) : ByteArray → Int → Rows → Rows → Rows → Int → Int → Int → Bool → Int → Int → Int → Int → Int → Int → Option α := fun x58 x59 x60 x61 x62 x63 x64 x65 x66 x67 x68 x69 x70 x71 x72 => v α x67 x68 (fun (y1 : Bool) => u17_0_7 (K .normal) x58 x59 x60 x61 x62 x63 x64 y1 x67 x68 x69 x70 x71 x72) 
theorem m17_0_2g (vf45_0 : Tf45_0) (vf46_0 : Tf46_0) (vf121_0 : Tf121_0) (vf120_0 : Tf120_0) (vf127_0 : Tf127_0) (vf126_0 : Tf126_0)  (α : Type) (K : Exit → St → Option α) : F17_0_2 (J17_0_2g vf46_0) α K = p17_0_6.unc fun σ => runM Try.prog (E17_0g vf45_0 vf46_0 vf121_0 vf120_0 vf127_0 vf126_0) sh17 (c17_0_12g ) K σ := by kernel_rfl
theorem m17_0_2 : ∀ (α : Type) (K : Exit → St → Option α), F17_0_2 J17_0_2 α K = p17_0_6.unc fun σ => runM Try.prog E17_0 sh17 c17_0_12 K σ := m17_0_2g f45_0 f46_0 f121_0 f120_0 f127_0 f126_0
--CODE 12 0
abbrev TJ17_0_3 : Type 1 := (α : Type) → Int → Int → (Bool → Option α) → Option α
def J17_0_3g (vf46_0 : Tf46_0) (α : Type) (x88 x89 : Int) (k1 : Bool → Option α) : Option α :=
 vf46_0 α x88
 (fun x95 => cK (!x95)
 (k1 true)
 (vf46_0 α x89
 (fun x96 => k1 (!x96))))
noncomputable def J17_0_3 (α : Type) (x88 x89 : Int) (k1 : Bool → Option α) : Option α := J17_0_3g f46_0 α x88 x89 k1
def F17_0_3 (v : TJ17_0_3) (α : Type) (K : Exit → St → Option α) : Int → Int → Int → Bool → Int → Int → Int → Int → Int → Int → Option α := fun x84 x85 x86 x87 x88 x89 x90 x91 x92 x93 => v α x88 x89 (fun (y1 : Bool) => u17_0_9 (K .normal) x84 x85 y1 x88 x89 x90 x91 x92 x93) 
theorem m17_0_3g (vf45_0 : Tf45_0) (vf46_0 : Tf46_0) (vf121_0 : Tf121_0) (vf120_0 : Tf120_0) (vf127_0 : Tf127_0) (vf126_0 : Tf126_0)  (α : Type) (K : Exit → St → Option α) : F17_0_3 (J17_0_3g vf46_0) α K = p17_0_8.unc fun σ => runM Try.prog (E17_0g vf45_0 vf46_0 vf121_0 vf120_0 vf127_0 vf126_0) sh17 (c17_0_12g ) K σ := by kernel_rfl
theorem m17_0_3 : ∀ (α : Type) (K : Exit → St → Option α), F17_0_3 J17_0_3 α K = p17_0_8.unc fun σ => runM Try.prog E17_0 sh17 c17_0_12 K σ := m17_0_3g f45_0 f46_0 f121_0 f120_0 f127_0 f126_0
noncomputable def c17_0_3g  : MCode := (.region r17_4 [] (tO [3, 4, 6, 7]))
noncomputable def c17_0_3 : MCode := c17_0_3g 
theorem g17_0_3 : c17_0_3.Good Try.prog E17_0 sh17 := trivial
--CODE 3 0
abbrev TJ17_0_0 : Type 1 := (α : Type) → ByteArray → Int → Rows → Rows → Rows → Int → Int → (Int → Option α) → (ByteArray → Int → Rows → Rows → Rows → Int → Int → Option α) → (Int → Int → Option α) → Option α
def J17_0_0g (vf45_0 : Tf45_0) (α : Type) (x10 : ByteArray) (x11 : Int) (x12 x13 x14 : Rows) (x15 x16 : Int) (k1 : Int → Option α) (k2 : ByteArray → Int → Rows → Rows → Rows → Int → Int → Option α) (k3 : Int → Int → Option α) : Option α :=
 vf45_0 α x10 x11 x12 x13 x14 x15 x16
 (fun x24 => k1 x24)
 (fun x25 x26 x27 x28 x29 x30 x31 => k2 x25 x26 x27 x28 x29 x30 x31)
 (fun x32 x33 => k3 x32 x33)
noncomputable def J17_0_0 (α : Type) (x10 : ByteArray) (x11 : Int) (x12 x13 x14 : Rows) (x15 x16 : Int) (k1 : Int → Option α) (k2 : ByteArray → Int → Rows → Rows → Rows → Int → Int → Option α) (k3 : Int → Int → Option α) : Option α := J17_0_0g f45_0 α x10 x11 x12 x13 x14 x15 x16 k1 k2 k3
def F17_0_0 (v : TJ17_0_0) (α : Type) (K : Exit → St → Option α) : ByteArray → Int → Rows → Rows → Rows → Int → Int → Int → Int → Int → Int → Int → Int → Option α := fun x10 x11 x12 x13 x14 x15 x16 x17 x18 x19 x20 x21 x22 => v α x10 x11 x12 x13 x14 x15 x16 (fun (y1 : Int) => u17_0_1 (K .normal) y1 x17 x18 x19 x20 x21 x22) (fun (y1 : ByteArray) (y2 : Int) (y3 : Rows) (y4 : Rows) (y5 : Rows) (y6 : Int) (y7 : Int) => u17_0_2 (K .normal) y1 y2 y3 y4 y5 y6 y7 0 x17 x18 x19 x20 x21 x22) (fun (y1 : Int) (y2 : Int) => u17_0_3 (K .normal) y1 y2 0 x17 x18 x19 x20 x21 x22) 
theorem m17_0_0g (vf45_0 : Tf45_0) (vf46_0 : Tf46_0) (vf121_0 : Tf121_0) (vf120_0 : Tf120_0) (vf127_0 : Tf127_0) (vf126_0 : Tf126_0)  (α : Type) (K : Exit → St → Option α) : F17_0_0 (J17_0_0g vf45_0) α K = p17_0_0.unc fun σ => runM Try.prog (E17_0g vf45_0 vf46_0 vf121_0 vf120_0 vf127_0 vf126_0) sh17 (c17_0_3g ) K σ := by kernel_rfl
theorem m17_0_0 : ∀ (α : Type) (K : Exit → St → Option α), F17_0_0 J17_0_0 α K = p17_0_0.unc fun σ => runM Try.prog E17_0 sh17 c17_0_3 K σ := m17_0_0g f45_0 f46_0 f121_0 f120_0 f127_0 f126_0
abbrev Tf17_0 : Type 1 := (α : Type) → ByteArray → Int → Rows → Rows → Rows → Int → Int → Int → Int → (Int → Int → Int → Int → Int → Option α) → Option α
def f17_0g (vJ17_0_0 : TJ17_0_0) (vJ17_0_1 : TJ17_0_1) (vJ17_0_2 : TJ17_0_2) (vJ17_0_3 : TJ17_0_3) (vf120_0 : Tf120_0) (vf121_0 : Tf121_0) (vf126_0 : Tf126_0) (vf127_0 : Tf127_0) (α : Type) (x1 : ByteArray) (x2 : Int) (x3 x4 x5 : Rows) (x6 x7 x8 x9 : Int) (k1 : Int → Int → Int → Int → Int → Option α) : Option α :=
 vJ17_0_0 α x1 x2 x3 x4 x5 x6 x7
 (fun x34 => cK (x34 != 0)
 (k1 0 0 0 0 x34)
 (vJ17_0_1 α x8 x9
 (fun x56 => cK x56
 (k1 0 0 0 0 2)
 (cK (decide (x9 < x8))
 (k1 0 0 0 0 10)
 (none)))))
 (fun x35 x36 x37 x38 x39 x40 x41 => vJ17_0_2 α x8 x9
 (fun x76 => cK x76
 (k1 0 0 0 0 2)
 (cK (decide (x9 < x8))
 (k1 0 0 0 0 10)
 (vf121_0 α x35 x36 x37 x38 x39 x40 x41 x8
 (fun x78 => cK (!x78)
 (k1 0 0 0 0 17)
 (vf121_0 α x35 x36 x37 x38 x39 x40 x41 x9
 (fun x79 => cK (!x79)
 (k1 0 0 0 0 17)
 (vf120_0 α x35 x36 x37 x38 x39 x40 x41 x8 x9
 (fun x80 x81 x82 x83 => k1 x80 x81 x82 x83 0)))))))))
 (fun x42 x43 => vJ17_0_3 α x8 x9
 (fun x97 => cK x97
 (k1 0 0 0 0 2)
 (cK (decide (x9 < x8))
 (k1 0 0 0 0 10)
 (vf127_0 α x42 x43 x8
 (vf127_0 α x42 x43 x9
 (vf126_0 α x42 x43 x8 x9
 (fun x99 x100 => k1 x99 x100 0 0 0)))))))
noncomputable def f17_0 (α : Type) (x1 : ByteArray) (x2 : Int) (x3 x4 x5 : Rows) (x6 x7 x8 x9 : Int) (k1 : Int → Int → Int → Int → Int → Option α) : Option α := f17_0g J17_0_0 J17_0_1 J17_0_2 J17_0_3 f120_0 f121_0 f126_0 f127_0 α x1 x2 x3 x4 x5 x6 x7 x8 x9 k1
def pa17_0 : PT (List DV) := pA [pV true [dS, (dI .i64), dL, dL, dL, (dI .i64), (dI .i64)], pV true [(dI .i64), (dI .i64)]]
def Fn17_0 (v : Tf17_0) (α : Type) (k : List RV → Option α) : ByteArray → Int → Rows → Rows → Rows → Int → Int → Int → Int → Option α := fun x1 x2 x3 x4 x5 x6 x7 x8 x9 => v α x1 x2 x3 x4 x5 x6 x7 x8 x9 (fun (y1 : Int) (y2 : Int) (y3 : Int) (y4 : Int) (y5 : Int) => ur17_0_0 k y1 y2 y3 y4 y5)
noncomputable def cm17_0g (vJ17_0_0 : TJ17_0_0) (vJ17_0_1 : TJ17_0_1) (vJ17_0_2 : TJ17_0_2) (vJ17_0_3 : TJ17_0_3) : MCode := (.seq (.region r17_2 [] (tO [2, 3, 4])) (.seq (.mark [⟨p17_0_0, F17_0_0 vJ17_0_0⟩] c17_0_3) (.seq (.block 0 (.seq (.region r17_8 [] (tO [3, 4, 6, 7, 13])) (.cond (.tmp 13) (.seq (.region r17_11 [] (tO [4, 5])) .ret) (.seq (.mark [⟨p17_0_4, F17_0_1 vJ17_0_1⟩, ⟨p17_0_6, F17_0_2 vJ17_0_2⟩, ⟨p17_0_8, F17_0_3 vJ17_0_3⟩] c17_0_12) (.cond (.tmp 18) (.seq (.region r17_16 [] (tO [4, 5])) .ret) (.seq (.region r17_18 [] (tO [3, 4, 6, 30])) (.cond (.tmp 30) (.seq (.region r17_21 [] (tO [4, 5])) .ret) (.seq (.region r17_23 [] (tO [3, 4, 6, 37])) (.cond (.tmp 37) (.seq (.region r17_26 [] (tO [4, 5])) .ret) .skip))))))))) (.seq (.region r17_28 [] (tO [4, 5])) .ret))))
noncomputable def cm17_0 : MCode := cm17_0g J17_0_0 J17_0_1 J17_0_2 J17_0_3
theorem gm17_0 : cm17_0.Good Try.prog E17_0 sh17 := ⟨trivial, ⟨⟨g17_0_3, m17_0_0, trivial⟩, ⟨⟨trivial, ⟨⟨trivial, trivial⟩, ⟨⟨g17_0_12, m17_0_1, m17_0_2, m17_0_3, trivial⟩, ⟨⟨trivial, trivial⟩, ⟨trivial, ⟨⟨trivial, trivial⟩, ⟨trivial, ⟨⟨trivial, trivial⟩, trivial⟩⟩⟩⟩⟩⟩⟩⟩, ⟨trivial, trivial⟩⟩⟩⟩
theorem fm17_0g (vf45_0 : Tf45_0) (vf46_0 : Tf46_0) (vf121_0 : Tf121_0) (vf120_0 : Tf120_0) (vf127_0 : Tf127_0) (vf126_0 : Tf126_0) (vJ17_0_0 : TJ17_0_0) (vJ17_0_1 : TJ17_0_1) (vJ17_0_2 : TJ17_0_2) (vJ17_0_3 : TJ17_0_3) (α : Type) (k : List RV → Option α) : Fn17_0 (f17_0g vJ17_0_0 vJ17_0_1 vJ17_0_2 vJ17_0_3 vf120_0 vf121_0 vf126_0 vf127_0) α k = pa17_0.unc fun ds => fnM Try.prog (E17_0g vf45_0 vf46_0 vf121_0 vf120_0 vf127_0 vf126_0) sh17 (cm17_0g vJ17_0_0 vJ17_0_1 vJ17_0_2 vJ17_0_3) rs17 k ds := by kernel_rfl
theorem fm17_0 : ∀ (α : Type) (k : List RV → Option α), Fn17_0 f17_0 α k = pa17_0.unc fun ds => fnM Try.prog E17_0 sh17 cm17_0 rs17 k ds := fm17_0g f45_0 f46_0 f121_0 f120_0 f127_0 f126_0 J17_0_0 J17_0_1 J17_0_2 J17_0_3
theorem is17 : FnIs Try.prog 17 nt17 tr17 tl17 cm17_0.erase rs17 := ⟨Try.f17, Try.func17, rfl, by kernel_rfl, by kernel_rfl, by kernel_rfl⟩
theorem io17_0 : InstOk Try.prog 17 nt17 ⟨pa17_0, Fn17_0 f17_0⟩ := inst_ok eo17_0 followsTry is17 ⟨⟨sh17, cm17_0, by kernel_rfl, gm17_0, fm17_0⟩⟩
abbrev nt18 : Nat := 29
def sh18 : List (Nat × List Sh) := [(10, [.str, .int .i64, .sl, .sl, .sl, .int .i64, .int .i64]), (23, [.int .i64, .int .i64]), (26, [.int .i64, .int .i64])]
def r18_2 : List AOper := [oO 2 (.box (.tmp 0)), oO 4 (.alloc [(cI 0), (cI 0)]), oO 5 (.mv (kI 0))]
def r18_4 : List AOper := [oO 10 (.load true 7 (.tmp 2)), oM 11 1, oO 12 (.call 47 [(.tmp 10), (.tmp 11)]), oM 9 12, oO 13 (.extract 0 (.tmp 9)), oO 14 (.extract 1 (.tmp 9)), oM 6 13, oM 7 14]
def r18_7 : List AOper := [oM 15 7, oO 16 (.bin .neq 29 (.tmp 15) (kI 0))]
def r18_10 : List AOper := [oO 17 (.build [(cI 0), (cI 0)] []), oM 18 7, oD (.store 2 (.tmp 4) (.tmp 17)), oM 5 18]
def r18_12 : List AOper := [oM 19 6, oM 20 1, oO 21 (.inv "etalon/glass.at" (.tmp 19) [(.tmp 20)]), oO 8 (.alloc [(cI 0), (cI 0), (cI 0), (cI 0)]), oD (.store 4 (.tmp 8) (.tmp 21))]
def r18_14 : List AOper := [oO 22 (.iaddr 2 (some 2) (.tmp 8) (kI 0)), oO 23 (.load true 2 (.tmp 22)), oO 24 (.call 48 [(.tmp 23)]), oO 25 (.iaddr 2 (some 2) (.tmp 8) (kI 1)), oO 26 (.load true 2 (.tmp 25)), oO 27 (.call 48 [(.tmp 26)]), oO 28 (.build [(cI 0), (cI 0)] [(0, 1, (.tmp 24)), (1, 1, (.tmp 27))]), oD (.store 2 (.tmp 4) (.tmp 28)), oO 5 (.mv (kI 0))]
def tr18 : List (Nat × Tidy) := [tT 0 [1, 2, 4], tT 1 [1, 4, 6, 7], tT 2 [1, 4, 6, 7, 16], tT 3 [4, 5], tT 4 [4, 8], tT 5 [4, 5]]
def tl18 : List (Nat × Tidy) := []
def rs18 : List AResV := [.cell 4 true 2, .tmp 5]
def p18_0_0 : PT St := pS [sl 1 (aV false [(cD (dI .i64))]), sl 2 (aV false [(cPtr 2 0)]), sl 4 (aV false [(cPtr 4 0)])] [eBox 2 [(cD dS), (cD (dI .i64)), (cD dL), (cD dL), (cD dL), (cD (dI .i64)), (cD (dI .i64))], eBox 4 [(cD (dI .i64)), (cD (dI .i64))]]
def u18_0_0 {β : Type} (g : St → β) : Int → ByteArray → Int → Rows → Rows → Rows → Int → Int → Int → Int → β := p18_0_0.unc g
def p18_0_1 : PT St := pS [sl 1 (aV false [(cD (dI .i64))]), sl 4 (aV false [(cPtr 4 0)]), sl 6 (aV false [(cD dNIf)]), sl 7 (aV false [(cD (dI .i64))])] [eBox 4 [(cD (dI .i64)), (cD (dI .i64))]]
def u18_0_1 {β : Type} (g : St → β) : Int → Int → Int → Int → β := p18_0_1.unc g
def p18_0_2 : PT St := pS [sl 1 (aV false [(cD (dI .i64))]), sl 4 (aV false [(cPtr 4 0)]), sl 6 (aV false [(cD (dIf 102 true [dS, (dI .i64), dL, dL, dL, (dI .i64), (dI .i64)]))]), sl 7 (aV false [(cD (dI .i64))])] [eBox 4 [(cD (dI .i64)), (cD (dI .i64))]]
def u18_0_2 {β : Type} (g : St → β) : Int → ByteArray → Int → Rows → Rows → Rows → Int → Int → Int → Int → Int → β := p18_0_2.unc g
def p18_0_3 : PT St := pS [sl 1 (aV false [(cD (dI .i64))]), sl 4 (aV false [(cPtr 4 0)]), sl 6 (aV false [(cD (dIf 104 true [(dI .i64), (dI .i64)]))]), sl 7 (aV false [(cD (dI .i64))])] [eBox 4 [(cD (dI .i64)), (cD (dI .i64))]]
def u18_0_3 {β : Type} (g : St → β) : Int → Int → Int → Int → Int → Int → β := p18_0_3.unc g
def pr18_0_0 : PT (List RV) := pRs [pR true [rD (dI .i64), rD (dI .i64)], pR false [rD (dI .i64)]]
def ur18_0_0 {β : Type} (g : List RV → β) : Int → Int → Int → β := pr18_0_0.unc g
def E18_0g (vf47_0 : Tf47_0) (vf119_0 : Tf119_0) (vf48_0 : Tf48_0) (vf125_0 : Tf125_0) : EnvK := EnvK.of [⟨47, nt47, [⟨pa47_0, Fn47_0 vf47_0⟩]⟩, ⟨119, nt119, [⟨pa119_0, Fn119_0 vf119_0⟩]⟩, ⟨48, nt48, [⟨pa48_0, Fn48_0 vf48_0⟩]⟩, ⟨125, nt125, [⟨pa125_0, Fn125_0 vf125_0⟩]⟩] noSeq
noncomputable def E18_0 : EnvK := E18_0g f47_0 f119_0 f48_0 f125_0
theorem eo18_0 : E18_0.Ok Try.prog := EnvK.of_ok noSeq_ok ⟨⟨io47_0, trivial⟩, ⟨io119_0, trivial⟩, ⟨io48_0, trivial⟩, ⟨io125_0, trivial⟩, trivial⟩
noncomputable def c18_0_3g  : MCode := (.region r18_4 [] (tO [1, 4, 6, 7]))
noncomputable def c18_0_3 : MCode := c18_0_3g 
theorem g18_0_3 : c18_0_3.Good Try.prog E18_0 sh18 := trivial
--CODE 3 0
abbrev TJ18_0_0 : Type 1 := (α : Type) → Int → ByteArray → Int → Rows → Rows → Rows → Int → Int → (Int → Option α) → (ByteArray → Int → Rows → Rows → Rows → Int → Int → Option α) → (Int → Int → Option α) → Option α
def J18_0_0g (vf47_0 : Tf47_0) (α : Type) (x9 : Int) (x10 : ByteArray) (x11 : Int) (x12 x13 x14 : Rows) (x15 x16 : Int) (k1 : Int → Option α) (k2 : ByteArray → Int → Rows → Rows → Rows → Int → Int → Option α) (k3 : Int → Int → Option α) : Option α :=
 vf47_0 α x10 x11 x12 x13 x14 x15 x16 x9
 (fun x20 => k1 x20)
 (fun x21 x22 x23 x24 x25 x26 x27 => k2 x21 x22 x23 x24 x25 x26 x27)
 (fun x28 x29 => k3 x28 x29)
noncomputable def J18_0_0 (α : Type) (x9 : Int) (x10 : ByteArray) (x11 : Int) (x12 x13 x14 : Rows) (x15 x16 : Int) (k1 : Int → Option α) (k2 : ByteArray → Int → Rows → Rows → Rows → Int → Int → Option α) (k3 : Int → Int → Option α) : Option α := J18_0_0g f47_0 α x9 x10 x11 x12 x13 x14 x15 x16 k1 k2 k3
def F18_0_0 (v : TJ18_0_0) (α : Type) (K : Exit → St → Option α) : Int → ByteArray → Int → Rows → Rows → Rows → Int → Int → Int → Int → Option α := fun x9 x10 x11 x12 x13 x14 x15 x16 x17 x18 => v α x9 x10 x11 x12 x13 x14 x15 x16 (fun (y1 : Int) => u18_0_1 (K .normal) x9 y1 x17 x18) (fun (y1 : ByteArray) (y2 : Int) (y3 : Rows) (y4 : Rows) (y5 : Rows) (y6 : Int) (y7 : Int) => u18_0_2 (K .normal) x9 y1 y2 y3 y4 y5 y6 y7 0 x17 x18) (fun (y1 : Int) (y2 : Int) => u18_0_3 (K .normal) x9 y1 y2 0 x17 x18) 
theorem m18_0_0g (vf47_0 : Tf47_0) (vf119_0 : Tf119_0) (vf48_0 : Tf48_0) (vf125_0 : Tf125_0)  (α : Type) (K : Exit → St → Option α) : F18_0_0 (J18_0_0g vf47_0) α K = p18_0_0.unc fun σ => runM Try.prog (E18_0g vf47_0 vf119_0 vf48_0 vf125_0) sh18 (c18_0_3g ) K σ := by kernel_rfl
theorem m18_0_0 : ∀ (α : Type) (K : Exit → St → Option α), F18_0_0 J18_0_0 α K = p18_0_0.unc fun σ => runM Try.prog E18_0 sh18 c18_0_3 K σ := m18_0_0g f47_0 f119_0 f48_0 f125_0
abbrev Tf18_0 : Type 1 := (α : Type) → ByteArray → Int → Rows → Rows → Rows → Int → Int → Int → (Int → Int → Int → Option α) → Option α
def f18_0g (vJ18_0_0 : TJ18_0_0) (vf119_0 : Tf119_0) (vf125_0 : Tf125_0) (vf48_0 : Tf48_0) (α : Type) (x1 : ByteArray) (x2 : Int) (x3 x4 x5 : Rows) (x6 x7 x8 : Int) (k1 : Int → Int → Int → Option α) : Option α :=
 vJ18_0_0 α x8 x1 x2 x3 x4 x5 x6 x7
 (fun x30 => cK (x30 != 0)
 (k1 0 0 x30)
 (none))
 (fun x31 x32 x33 x34 x35 x36 x37 => vf119_0 α x31 x32 x33 x34 x35 x36 x37 x8
 (fun x41 x42 x43 x44 => vf48_0 α x41 x42
 (fun x45 => vf48_0 α x43 x44
 (fun x46 => k1 x45 x46 0))))
 (fun x38 x39 => vf125_0 α x38 x39 x8
 (fun x47 x48 => vf48_0 α x47 x48
 (fun x49 => vf48_0 α 0 1
 (fun x50 => k1 x49 x50 0))))
noncomputable def f18_0 (α : Type) (x1 : ByteArray) (x2 : Int) (x3 x4 x5 : Rows) (x6 x7 x8 : Int) (k1 : Int → Int → Int → Option α) : Option α := f18_0g J18_0_0 f119_0 f125_0 f48_0 α x1 x2 x3 x4 x5 x6 x7 x8 k1
def pa18_0 : PT (List DV) := pA [pV true [dS, (dI .i64), dL, dL, dL, (dI .i64), (dI .i64)], pV false [(dI .i64)]]
def Fn18_0 (v : Tf18_0) (α : Type) (k : List RV → Option α) : ByteArray → Int → Rows → Rows → Rows → Int → Int → Int → Option α := fun x1 x2 x3 x4 x5 x6 x7 x8 => v α x1 x2 x3 x4 x5 x6 x7 x8 (fun (y1 : Int) (y2 : Int) (y3 : Int) => ur18_0_0 k y1 y2 y3)
noncomputable def cm18_0g (vJ18_0_0 : TJ18_0_0) : MCode := (.seq (.region r18_2 [] (tO [1, 2, 4])) (.seq (.mark [⟨p18_0_0, F18_0_0 vJ18_0_0⟩] c18_0_3) (.seq (.seq (.region r18_7 [] (tO [1, 4, 6, 7, 16])) (.cond (.tmp 16) (.seq (.region r18_10 [] (tO [4, 5])) .ret) .skip)) (.seq (.region r18_12 [] (tO [4, 8])) (.seq (.region r18_14 [(2, 4)] (tO [4, 5])) .ret)))))
noncomputable def cm18_0 : MCode := cm18_0g J18_0_0
theorem gm18_0 : cm18_0.Good Try.prog E18_0 sh18 := ⟨trivial, ⟨⟨g18_0_3, m18_0_0, trivial⟩, ⟨⟨trivial, ⟨⟨trivial, trivial⟩, trivial⟩⟩, ⟨trivial, ⟨trivial, trivial⟩⟩⟩⟩⟩
theorem fm18_0g (vf47_0 : Tf47_0) (vf119_0 : Tf119_0) (vf48_0 : Tf48_0) (vf125_0 : Tf125_0) (vJ18_0_0 : TJ18_0_0) (α : Type) (k : List RV → Option α) : Fn18_0 (f18_0g vJ18_0_0 vf119_0 vf125_0 vf48_0) α k = pa18_0.unc fun ds => fnM Try.prog (E18_0g vf47_0 vf119_0 vf48_0 vf125_0) sh18 (cm18_0g vJ18_0_0) rs18 k ds := by kernel_rfl
theorem fm18_0 : ∀ (α : Type) (k : List RV → Option α), Fn18_0 f18_0 α k = pa18_0.unc fun ds => fnM Try.prog E18_0 sh18 cm18_0 rs18 k ds := fm18_0g f47_0 f119_0 f48_0 f125_0 J18_0_0
theorem is18 : FnIs Try.prog 18 nt18 tr18 tl18 cm18_0.erase rs18 := ⟨Try.f18, Try.func18, rfl, by kernel_rfl, by kernel_rfl, by kernel_rfl⟩
theorem io18_0 : InstOk Try.prog 18 nt18 ⟨pa18_0, Fn18_0 f18_0⟩ := inst_ok eo18_0 followsTry is18 ⟨⟨sh18, cm18_0, by kernel_rfl, gm18_0, fm18_0⟩⟩
abbrev nt6 : Nat := 121
def sh6 : List (Nat × List Sh) := [(16, [.str, .int .i64, .sl, .sl, .sl, .int .i64, .int .i64]), (20, [.str, .int .i64, .sl, .sl, .sl, .int .i64, .int .i64]), (22, [.int .i64, .int .i64]), (31, [.int .i64]), (33, [.int .i64]), (40, [.int .i64, .int .i64, .int .i64, .int .i64]), (45, [.str, .int .i64, .sl, .sl, .sl, .int .i64, .int .i64]), (52, [.str, .int .i64, .sl, .sl, .sl, .int .i64, .int .i64]), (56, [.int .i64]), (73, [.int .i64]), (77, [.int .i64]), (81, [.int .i64]), (88, [.int .i64]), (92, [.int .i64]), (99, [.int .i64]), (103, [.int .i64]), (109, [.int .i64]), (113, [.int .i64]), (117, [.int .i64])]
def r6_2 : List AOper := [oO 3 (.box (.tmp 0)), oO 4 (.box (.tmp 1)), oO 6 (.mv (.const (.bool false)))]
def r6_5 : List AOper := [oO 14 (.call 7 []), oO 15 (.pure (oB (.unOp .not 4 (.tmp 14)) 4))]
def r6_8 : List AOper := [oO 6 (.mv (.const (.bool false)))]
def r6_11 : List AOper := [oO 16 (.load true 7 (.tmp 3)), oO 17 (.call 8 [(.tmp 16)]), oO 18 (.pure (oB (.unOp .not 4 (.tmp 17)) 4))]
def r6_14 : List AOper := [oO 6 (.mv (.const (.bool true)))]
def r6_16 : List AOper := [oO 20 (.load true 7 (.tmp 3)), oO 21 (.call 10 [(.tmp 20)]), oO 22 (.load true 2 (.tmp 4)), oO 23 (.call 17 [(.tmp 21), (.tmp 22)]), oM 19 23, oO 24 (.extract 0 (.tmp 19)), oO 25 (.extract 1 (.tmp 19)), oO 7 (.alloc [(cI 0), (cI 0), (cI 0), (cI 0)]), oD (.store 4 (.tmp 7) (.tmp 24)), oM 8 25]
def r6_19 : List AOper := [oM 26 8, oO 27 (.bin .neq 29 (.tmp 26) (kI 0)), oM 28 27, oG 29 (.mv (.tmp 2)) 28 false, oG 30 (.faddr 0 (.tmp 4)) 28 false, oG 31 (.load false 1 (.tmp 30)) 28 false, oG 32 (.faddr 1 (.tmp 4)) 28 false, oG 33 (.load false 1 (.tmp 32)) 28 false, oG 34 (.call 16 [(.tmp 29), (.tmp 31), (.tmp 33)]) 28 false, oG 35 (.pure (oB (.unOp .not 4 (.tmp 34)) 4)) 28 false, oO 36 (.pick (.tmp 28) (.const (.bool true)) (.tmp 35))]
def r6_22 : List AOper := [oM 37 8, oO 38 (.bin .eql 29 (.tmp 37) (kI 0)), oM 39 38, oG 40 (.load true 4 (.tmp 7)) 39 false, oG 41 (.build [(cI 0), (cI 0), (cI 0), (cI 0)] []) 39 false, oG 42 (.bin .eql 43 (.tmp 40) (.tmp 41)) 39 false, oO 43 (.pick (.tmp 39) (.const (.bool true)) (.tmp 42)), oM 6 43]
def r6_24 : List AOper := [oO 45 (.load true 7 (.tmp 3)), oO 46 (.call 10 [(.tmp 45)]), oM 47 2, oO 48 (.call 18 [(.tmp 46), (.tmp 47)]), oM 44 48, oO 49 (.extract 0 (.tmp 44)), oO 50 (.extract 1 (.tmp 44)), oO 9 (.alloc [(cI 0), (cI 0)]), oD (.store 2 (.tmp 9) (.tmp 49)), oM 10 50]
def r6_26 : List AOper := [oO 52 (.load true 7 (.tmp 3)), oO 53 (.call 10 [(.tmp 52)]), oM 54 2, oO 55 (.faddr 1 (.tmp 4)), oO 56 (.load false 1 (.tmp 55)), oO 57 (.build [(cI 0), (cI 0)] [(0, 1, (.tmp 54)), (1, 1, (.tmp 56))]), oO 58 (.call 17 [(.tmp 53), (.tmp 57)]), oM 51 58, oO 59 (.extract 0 (.tmp 51)), oO 60 (.extract 1 (.tmp 51)), oO 11 (.alloc [(cI 0), (cI 0), (cI 0), (cI 0)]), oD (.store 4 (.tmp 11) (.tmp 59)), oM 12 60]
def r6_29 : List AOper := [oM 61 10, oO 62 (.bin .neq 29 (.tmp 61) (kI 0)), oM 63 62, oG 64 (.mv (.tmp 12)) 63 false, oG 65 (.bin .neq 29 (.tmp 64) (kI 0)) 63 false, oO 66 (.pick (.tmp 63) (.const (.bool true)) (.tmp 65))]
def r6_32 : List AOper := [oO 6 (.mv (.const (.bool false)))]
def r6_35 : List AOper := [oO 13 (.mv (kI 0))]
def td6_37 : Option Tidy := (some ⟨[7, 9, 11, 13], true, [⟨true, 3, 2, 30302, 1⟩, ⟨true, 3, 3, 30303, 1⟩, ⟨true, 3, 4, 30304, 1⟩], []⟩)
def r6_40 : List AOper := [oM 67 13, oO 68 (.bin .lss 3 (.tmp 67) (kI 2))]
def r6_45 : List AOper := [oM 71 13, oO 72 (.iaddr 1 (some 2) (.tmp 9) (.tmp 71)), oO 73 (.load false 1 (.tmp 72)), oM 74 13, oO 75 (.iaddr 2 (some 2) (.tmp 7) (.tmp 74)), oO 76 (.faddr 0 (.tmp 75)), oO 77 (.load false 1 (.tmp 76)), oM 78 13, oO 79 (.iaddr 2 (some 2) (.tmp 7) (.tmp 78)), oO 80 (.faddr 1 (.tmp 79)), oO 81 (.load false 1 (.tmp 80)), oO 82 (.call 16 [(.tmp 73), (.tmp 77), (.tmp 81)]), oO 83 (.pure (oB (.unOp .not 4 (.tmp 82)) 4)), oM 84 83, oG 85 (.mv (.tmp 13)) 84 false, oG 86 (.iaddr 2 (some 2) (.tmp 11) (.tmp 85)) 84 false, oG 87 (.faddr 0 (.tmp 86)) 84 false, oG 88 (.load false 1 (.tmp 87)) 84 false, oG 89 (.mv (.tmp 13)) 84 false, oG 90 (.iaddr 2 (some 2) (.tmp 7) (.tmp 89)) 84 false, oG 91 (.faddr 0 (.tmp 90)) 84 false, oG 92 (.load false 1 (.tmp 91)) 84 false, oG 93 (.bin .lss 3 (.tmp 88) (.tmp 92)) 84 false, oO 94 (.pick (.tmp 84) (.const (.bool true)) (.tmp 93)), oM 95 94, oG 96 (.mv (.tmp 13)) 95 false, oG 97 (.iaddr 2 (some 2) (.tmp 11) (.tmp 96)) 95 false, oG 98 (.faddr 1 (.tmp 97)) 95 false, oG 99 (.load false 1 (.tmp 98)) 95 false, oG 100 (.mv (.tmp 13)) 95 false, oG 101 (.iaddr 2 (some 2) (.tmp 7) (.tmp 100)) 95 false, oG 102 (.faddr 1 (.tmp 101)) 95 false, oG 103 (.load false 1 (.tmp 102)) 95 false, oG 104 (.bin .gtr 3 (.tmp 99) (.tmp 103)) 95 false, oO 105 (.pick (.tmp 95) (.const (.bool true)) (.tmp 104)), oM 106 105, oG 107 (.mv (.tmp 13)) 106 false, oG 108 (.iaddr 1 (some 2) (.tmp 9) (.tmp 107)) 106 false, oG 109 (.load false 1 (.tmp 108)) 106 false, oG 110 (.mv (.tmp 13)) 106 false, oG 111 (.iaddr 2 (some 2) (.tmp 11) (.tmp 110)) 106 false, oG 112 (.faddr 0 (.tmp 111)) 106 false, oG 113 (.load false 1 (.tmp 112)) 106 false, oG 114 (.mv (.tmp 13)) 106 false, oG 115 (.iaddr 2 (some 2) (.tmp 11) (.tmp 114)) 106 false, oG 116 (.faddr 1 (.tmp 115)) 106 false, oG 117 (.load false 1 (.tmp 116)) 106 false, oG 118 (.call 16 [(.tmp 109), (.tmp 113), (.tmp 117)]) 106 false, oG 119 (.pure (oB (.unOp .not 4 (.tmp 118)) 4)) 106 false, oO 120 (.pick (.tmp 106) (.const (.bool true)) (.tmp 119))]
def r6_48 : List AOper := [oO 6 (.mv (.const (.bool false)))]
def r6_49 : List AOper := [oM 69 13, oO 70 (.bin .add 3 (.tmp 69) (kI 1)), oM 13 70]
def r6_51 : List AOper := [oO 6 (.mv (.const (.bool true)))]
def tr6 : List (Nat × Tidy) := [tT 0 [2, 3, 4], tT 1 [2, 3, 4, 15], tT 2 [6], tT 3 [2, 3, 4, 18], tT 4 [6], tT 5 [2, 3, 4, 7, 8], tT 6 [2, 3, 4, 7, 8, 36], tT 7 [6], tT 8 [2, 3, 4, 7, 9, 10], tT 9 [7, 9, 10, 11, 12], tT 10 [7, 9, 11, 66], tT 11 [6], tT 12 [7, 9, 11, 13], tT 13 [7, 9, 11, 13, 68], tT 15 [7, 9, 11, 13, 120], tT 16 [6], tT 14 [7, 9, 11, 13], tT 17 [6]]
def tl6 : List (Nat × Tidy) := [(13, ⟨[7, 9, 11, 13], true, [⟨true, 3, 2, 30302, 1⟩, ⟨true, 3, 3, 30303, 1⟩, ⟨true, 3, 4, 30304, 1⟩], []⟩)]
def rs6 : List AResV := [.tmp 6]
def p6_0_0 : PT St := pS [sl 2 (aV false [(cD (dI .i64))]), sl 3 (aV false [(cPtr 3 0)]), sl 4 (aV false [(cPtr 4 0)]), sl 7 (aV false [(cPtr 7 0)]), sl 8 (aV false [(cD (dI .i64))])] [eBox 3 [(cD dS), (cD (dI .i64)), (cD dL), (cD dL), (cD dL), (cD (dI .i64)), (cD (dI .i64))], eBox 4 [(cD (dI .i64)), (cD (dI .i64))], eBox 7 [(cD (dI .i64)), (cD (dI .i64)), (cD (dI .i64)), (cD (dI .i64))]]
def u6_0_0 {β : Type} (g : St → β) : Int → Int → ByteArray → Int → Rows → Rows → Rows → Int → Int → Int → Int → Int → Int → Int → Int → β := p6_0_0.unc g
def p6_0_1 : PT St := pS [sl 2 (aV false [(cD (dI .i64))]), sl 3 (aV false [(cPtr 3 0)]), sl 4 (aV false [(cPtr 4 0)]), sl 7 (aV false [(cPtr 7 0)]), sl 8 (aV false [(cD (dI .i64))]), sl 36 (aV false [(cD dB)])] [eBox 3 [(cD dS), (cD (dI .i64)), (cD dL), (cD dL), (cD dL), (cD (dI .i64)), (cD (dI .i64))], eBox 4 [(cD (dI .i64)), (cD (dI .i64))], eBox 7 [(cD (dI .i64)), (cD (dI .i64)), (cD (dI .i64)), (cD (dI .i64))]]
def u6_0_1 {β : Type} (g : St → β) : Int → Int → Bool → ByteArray → Int → Rows → Rows → Rows → Int → Int → Int → Int → Int → Int → Int → Int → β := p6_0_1.unc g
def pr6_0_0 : PT (List RV) := pRs [pR false [rD dB]]
def ur6_0_0 {β : Type} (g : List RV → β) : Bool → β := pr6_0_0.unc g
def E6_0g (vf7_0 : Tf7_0) (vf8_0 : Tf8_0) (vf10_0 : Tf10_0) (vf17_0 : Tf17_0) (vf16_0 : Tf16_0) (vf18_0 : Tf18_0) : EnvK := EnvK.of [⟨7, nt7, [⟨pa7_0, Fn7_0 vf7_0⟩]⟩, ⟨8, nt8, [⟨pa8_0, Fn8_0 vf8_0⟩]⟩, ⟨10, nt10, [⟨pa10_0, Fn10_0 vf10_0⟩]⟩, ⟨17, nt17, [⟨pa17_0, Fn17_0 vf17_0⟩]⟩, ⟨16, nt16, [⟨pa16_0, Fn16_0 vf16_0⟩]⟩, ⟨18, nt18, [⟨pa18_0, Fn18_0 vf18_0⟩]⟩] noSeq
noncomputable def E6_0 : EnvK := E6_0g f7_0 f8_0 f10_0 f17_0 f16_0 f18_0
theorem eo6_0 : E6_0.Ok Try.prog := EnvK.of_ok noSeq_ok ⟨⟨io7_0, trivial⟩, ⟨io8_0, trivial⟩, ⟨io10_0, trivial⟩, ⟨io17_0, trivial⟩, ⟨io16_0, trivial⟩, ⟨io18_0, trivial⟩, trivial⟩
noncomputable def c6_0_18g  : MCode := (.region r6_19 [] (tO [2, 3, 4, 7, 8, 36]))
noncomputable def c6_0_18 : MCode := c6_0_18g 
theorem g6_0_18 : c6_0_18.Good Try.prog E6_0 sh6 := trivial
--CODE 18 0
abbrev TJ6_0_0 : Type 1 := (α : Type) → Int → Int → Int → Int → (Bool → Option α) → Option α
def J6_0_0g (vf16_0 : Tf16_0) (α : Type) (x24 x25 x33 x34 : Int) (k1 : Bool → Option α) : Option α :=
 cK (x25 != 0)
 (k1 true)
 (vf16_0 α x24 x33 x34
 (fun x40 => k1 (!x40)))
noncomputable def J6_0_0 (α : Type) (x24 x25 x33 x34 : Int) (k1 : Bool → Option α) : Option α := J6_0_0g f16_0 α x24 x25 x33 x34 k1
def F6_0_0 (v : TJ6_0_0) (α : Type) (K : Exit → St → Option α) : Int → Int → ByteArray → Int → Rows → Rows → Rows → Int → Int → Int → Int → Int → Int → Int → Int → Option α := fun x24 x25 x26 x27 x28 x29 x30 x31 x32 x33 x34 x35 x36 x37 x38 => v α x24 x25 x33 x34 (fun (y1 : Bool) => u6_0_1 (K .normal) x24 x25 y1 x26 x27 x28 x29 x30 x31 x32 x33 x34 x35 x36 x37 x38) 
theorem m6_0_0g (vf7_0 : Tf7_0) (vf8_0 : Tf8_0) (vf10_0 : Tf10_0) (vf17_0 : Tf17_0) (vf16_0 : Tf16_0) (vf18_0 : Tf18_0)  (α : Type) (K : Exit → St → Option α) : F6_0_0 (J6_0_0g vf16_0) α K = p6_0_0.unc fun σ => runM Try.prog (E6_0g vf7_0 vf8_0 vf10_0 vf17_0 vf16_0 vf18_0) sh6 (c6_0_18g ) K σ := by kernel_rfl
theorem m6_0_0 : ∀ (α : Type) (K : Exit → St → Option α), F6_0_0 J6_0_0 α K = p6_0_0.unc fun σ => runM Try.prog E6_0 sh6 c6_0_18 K σ := m6_0_0g f7_0 f8_0 f10_0 f17_0 f16_0 f18_0
abbrev Tf6_0 : Type 1 := (α : Type) → ByteArray → Int → Rows → Rows → Rows → Int → Int → Int → Int → Int → (Bool → Option α) → Option α
def f6_0g (vJ6_0_0 : TJ6_0_0) (vf10_0 : Tf10_0) (vf16_0 : Tf16_0) (vf17_0 : Tf17_0) (vf18_0 : Tf18_0) (vf7_0 : Tf7_0) (vf8_0 : Tf8_0) (α : Type) (x1 : ByteArray) (x2 : Int) (x3 x4 x5 : Rows) (x6 x7 x8 x9 x10 : Int) (k1 : Bool → Option α) : Option α :=
 vf7_0 α 
 (vf8_0 α x1 x2 x3 x4 x5 x6 x7
 (fun x11 => cK (!x11)
 (k1 true)
 (vf10_0 α x1 x2 x3 x4 x5 x6 x7
 (fun x12 x13 x14 x15 x16 x17 x18 => vf17_0 α x12 x13 x14 x15 x16 x17 x18 x8 x9
 (fun x19 x20 x21 x22 x23 => vJ6_0_0 α x10 x23 x8 x9
 (fun x41 => cK x41
 (cK (x23 == 0)
 (k1 true)
 (k1 (((x19 == 0) && ((x20 == 0) && true)) && (((x21 == 0) && ((x22 == 0) && true)) && true))))
 (vf10_0 α x1 x2 x3 x4 x5 x6 x7
 (fun x43 x44 x45 x46 x47 x48 x49 => vf18_0 α x43 x44 x45 x46 x47 x48 x49 x10
 (fun x50 x51 x52 => vf10_0 α x1 x2 x3 x4 x5 x6 x7
 (fun x53 x54 x55 x56 x57 x58 x59 => vf17_0 α x53 x54 x55 x56 x57 x58 x59 x10 x9
 (fun x60 x61 x62 x63 x64 => cK (x52 != 0)
 (k1 false)
 (cK (x64 != 0)
 (k1 false)
 (vf16_0 α x50 x19 x20
 (fun x65 => cK (!x65)
 (k1 false)
 (cK (decide (x60 < x19))
 (k1 false)
 (cK (decide (x20 < x61))
 (k1 false)
 (vf16_0 α x50 x60 x61
 (fun x66 => cK (!x66)
 (k1 false)
 (vf16_0 α x51 x21 x22
 (fun x67 => cK (!x67)
 (k1 false)
 (cK (decide (x62 < x21))
 (k1 false)
 (cK (decide (x22 < x63))
 (k1 false)
 (vf16_0 α x51 x62 x63
 (fun x68 => cK (!x68)
 (k1 false)
 (k1 true)))))))))))))))))))))))))
noncomputable def f6_0 (α : Type) (x1 : ByteArray) (x2 : Int) (x3 x4 x5 : Rows) (x6 x7 x8 x9 x10 : Int) (k1 : Bool → Option α) : Option α := f6_0g J6_0_0 f10_0 f16_0 f17_0 f18_0 f7_0 f8_0 α x1 x2 x3 x4 x5 x6 x7 x8 x9 x10 k1
def pa6_0 : PT (List DV) := pA [pV true [dS, (dI .i64), dL, dL, dL, (dI .i64), (dI .i64)], pV true [(dI .i64), (dI .i64)], pV false [(dI .i64)]]
def Fn6_0 (v : Tf6_0) (α : Type) (k : List RV → Option α) : ByteArray → Int → Rows → Rows → Rows → Int → Int → Int → Int → Int → Option α := fun x1 x2 x3 x4 x5 x6 x7 x8 x9 x10 => v α x1 x2 x3 x4 x5 x6 x7 x8 x9 x10 (fun (y1 : Bool) => ur6_0_0 k y1)
noncomputable def cm6_0g (vJ6_0_0 : TJ6_0_0) : MCode := (.seq (.region r6_2 [] (tO [2, 3, 4])) (.seq (.seq (.region r6_5 [] (tO [2, 3, 4, 15])) (.cond (.tmp 15) (.seq (.region r6_8 [] (tO [6])) .ret) .skip)) (.seq (.seq (.region r6_11 [] (tO [2, 3, 4, 18])) (.cond (.tmp 18) (.seq (.region r6_14 [] (tO [6])) .ret) .skip)) (.seq (.region r6_16 [(1, 2), (0, 7), (1, 7), (2, 7), (3, 7)] (tO [2, 3, 4, 7, 8])) (.seq (.seq (.mark [⟨p6_0_0, F6_0_0 vJ6_0_0⟩] c6_0_18) (.cond (.tmp 36) (.seq (.region r6_22 [] (tO [6])) .ret) .skip)) (.seq (.region r6_24 [] (tO [2, 3, 4, 7, 9, 10])) (.seq (.region r6_26 [(1, 4), (0, 10), (1, 10), (4, 10), (6, 10)] (tO [7, 9, 10, 11, 12])) (.seq (.seq (.region r6_29 [] (tO [7, 9, 11, 66])) (.cond (.tmp 66) (.seq (.region r6_32 [] (tO [6])) .ret) .skip)) (.seq (.seq (.region r6_35 [] (tO [7, 9, 11, 13])) (.block 0 (.loopU 3 td6_37 (.seq (.seq (.region r6_40 [] (tO [7, 9, 11, 13, 68])) (.cond (.tmp 68) .skip (.exit 0))) (.seq (.block 1 (.seq (.region r6_45 [] (tO [7, 9, 11, 13, 120])) (.cond (.tmp 120) (.seq (.region r6_48 [] (tO [6])) .ret) .skip))) (.region r6_49 [] (tO [7, 9, 11, 13]))))))) (.seq (.region r6_51 [] (tO [6])) .ret))))))))))
noncomputable def cm6_0 : MCode := cm6_0g J6_0_0
theorem gm6_0 : cm6_0.Good Try.prog E6_0 sh6 := ⟨trivial, ⟨⟨trivial, ⟨⟨trivial, trivial⟩, trivial⟩⟩, ⟨⟨trivial, ⟨⟨trivial, trivial⟩, trivial⟩⟩, ⟨trivial, ⟨⟨⟨g6_0_18, m6_0_0, trivial⟩, ⟨⟨trivial, trivial⟩, trivial⟩⟩, ⟨trivial, ⟨trivial, ⟨⟨trivial, ⟨⟨trivial, trivial⟩, trivial⟩⟩, ⟨⟨trivial, ⟨⟨⟨trivial, ⟨trivial, trivial⟩⟩, ⟨⟨trivial, ⟨⟨trivial, trivial⟩, trivial⟩⟩, trivial⟩⟩, by decide⟩⟩, ⟨trivial, trivial⟩⟩⟩⟩⟩⟩⟩⟩⟩⟩
theorem fm6_0g (vf7_0 : Tf7_0) (vf8_0 : Tf8_0) (vf10_0 : Tf10_0) (vf17_0 : Tf17_0) (vf16_0 : Tf16_0) (vf18_0 : Tf18_0) (vJ6_0_0 : TJ6_0_0) (α : Type) (k : List RV → Option α) : Fn6_0 (f6_0g vJ6_0_0 vf10_0 vf16_0 vf17_0 vf18_0 vf7_0 vf8_0) α k = pa6_0.unc fun ds => fnM Try.prog (E6_0g vf7_0 vf8_0 vf10_0 vf17_0 vf16_0 vf18_0) sh6 (cm6_0g vJ6_0_0) rs6 k ds := by kernel_rfl
theorem fm6_0 : ∀ (α : Type) (k : List RV → Option α), Fn6_0 f6_0 α k = pa6_0.unc fun ds => fnM Try.prog E6_0 sh6 cm6_0 rs6 k ds := fm6_0g f7_0 f8_0 f10_0 f17_0 f16_0 f18_0 J6_0_0
theorem is6 : FnIs Try.prog 6 nt6 tr6 tl6 cm6_0.erase rs6 := ⟨Try.f6, Try.func6, rfl, by kernel_rfl, by kernel_rfl, by kernel_rfl⟩
theorem io6_0 : InstOk Try.prog 6 nt6 ⟨pa6_0, Fn6_0 f6_0⟩ := inst_ok eo6_0 followsTry is6 ⟨⟨sh6, cm6_0, by kernel_rfl, gm6_0, fm6_0⟩⟩
end Go.AM.K
