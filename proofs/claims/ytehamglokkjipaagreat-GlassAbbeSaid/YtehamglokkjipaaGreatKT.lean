/- Printed by KGen. -/
import Derived.Test.YtehamglokkjipaaGreatQGX5a
namespace Go.AM.K
open Go.Proofs
set_option maxRecDepth 100000
set_option linter.unusedVariables false
abbrev nt80 : Nat := 5
def sh80 : List (Nat × List Sh) := []
def r80_2 : List AOper := [oO 2 (.mv (.const (.bool false)))]
def r80_4 : List AOper := [oM 3 0, oO 4 (.call 51 [(.tmp 3), (kI 1000), (kI 200000)]), oM 2 4]
def tr80 : List (Nat × Tidy) := [tT 0 [0], tT 1 [2]]
def tl80 : List (Nat × Tidy) := []
def rs80 : List AResV := [.tmp 2]
def pr80_0_0 : PT (List RV) := pRs [pR false [rD dB]]
def ur80_0_0 {β : Type} (g : List RV → β) : Bool → β := pr80_0_0.unc g
def E80_0g (vf51_0 : Tf51_0) : EnvK := EnvK.of [⟨51, nt51, [⟨pa51_0, Fn51_0 vf51_0⟩]⟩] noSeq
noncomputable def E80_0 : EnvK := E80_0g f51_0
theorem eo80_0 : E80_0.Ok Tryz.prog := EnvK.of_ok noSeq_ok ⟨⟨io51_0, trivial⟩, trivial⟩
abbrev Tf80_0 : Type 1 := (α : Type) → Int → (Bool → Option α) → Option α
def f80_0g (vf51_0 : Tf51_0) (α : Type) (x1 : Int) (k1 : Bool → Option α) : Option α :=
 vf51_0 α x1 1000 200000
 (fun x2 => k1 x2)
noncomputable def f80_0 (α : Type) (x1 : Int) (k1 : Bool → Option α) : Option α := f80_0g f51_0 α x1 k1
def pa80_0 : PT (List DV) := pA [pV false [(dI .i64)]]
def Fn80_0 (v : Tf80_0) (α : Type) (k : List RV → Option α) : Int → Option α := fun x1 => v α x1 (fun (y1 : Bool) => ur80_0_0 k y1)
noncomputable def cm80_0g  : MCode := (.seq (.region r80_2 [] (tO [0])) (.seq (.region r80_4 [] (tO [2])) .ret))
noncomputable def cm80_0 : MCode := cm80_0g 
theorem gm80_0 : cm80_0.Good Tryz.prog E80_0 sh80 := ⟨trivial, ⟨trivial, trivial⟩⟩
theorem fm80_0g (vf51_0 : Tf51_0)  (α : Type) (k : List RV → Option α) : Fn80_0 (f80_0g vf51_0) α k = pa80_0.unc fun ds => fnM Tryz.prog (E80_0g vf51_0) sh80 (cm80_0g ) rs80 k ds := by kernel_rfl
theorem fm80_0 : ∀ (α : Type) (k : List RV → Option α), Fn80_0 f80_0 α k = pa80_0.unc fun ds => fnM Tryz.prog E80_0 sh80 cm80_0 rs80 k ds := fm80_0g f51_0
theorem is80 : FnIs Tryz.prog 80 nt80 tr80 tl80 cm80_0.erase rs80 := ⟨Tryz.f80, Tryz.func80, rfl, by kernel_rfl, by kernel_rfl, by kernel_rfl⟩
theorem io80_0 : InstOk Tryz.prog 80 nt80 ⟨pa80_0, Fn80_0 f80_0⟩ := inst_ok eo80_0 followsTry is80 ⟨⟨sh80, cm80_0, by kernel_rfl, gm80_0, fm80_0⟩⟩
abbrev nt18 : Nat := 21
def sh18 : List (Nat × List Sh) := [(4, [.str]), (6, [.int .i64]), (8, [.sl]), (12, [.sl]), (16, [.sl]), (19, [.int .i64, .int .i64])]
def r18_2 : List AOper := [oO 1 (.box (.tmp 0)), ⟨(some 2), (.alloc [(.d (.v (.string ⟨#[]⟩))), (cI 0), .nils, .nils, .nils, (cI 0), (cI 0)]), none⟩]
def r18_4 : List AOper := [oO 3 (.faddr 0 (.tmp 1)), oO 4 (.load false 1 (.tmp 3)), oO 5 (.faddr 1 (.tmp 1)), oO 6 (.load false 1 (.tmp 5)), oO 7 (.faddr 2 (.tmp 1)), oO 8 (.load false 1 (.tmp 7)), oO 9 (.call 12 [(.tmp 8)]), oO 10 (.bslice 1 0 [(.v (.float Go.FloatKind.f32 0))] []), oO 11 (.faddr 3 (.tmp 1)), oO 12 (.load false 1 (.tmp 11)), oO 13 (.append 1 4 (.tmp 10) (.tmp 12)), oO 14 (.bslice 1 0 [(.v (.float Go.FloatKind.f32 0))] []), oO 15 (.faddr 4 (.tmp 1)), oO 16 (.load false 1 (.tmp 15)), oO 17 (.append 1 4 (.tmp 14) (.tmp 16)), oO 18 (.faddr 5 (.tmp 1)), oO 19 (.load true 2 (.tmp 18)), ⟨(some 20), (.build [(.d (.v (.string ⟨#[]⟩))), (cI 0), .nils, .nils, .nils, (cI 0), (cI 0)] [(0, 1, (.tmp 4)), (1, 1, (.tmp 6)), (2, 1, (.tmp 9)), (3, 1, (.tmp 13)), (4, 1, (.tmp 17)), (5, 2, (.tmp 19))]), none⟩, oD (.store 7 (.tmp 2) (.tmp 20))]
def tr18 : List (Nat × Tidy) := [(0, ⟨[1, 2], true, [⟨true, 2, 2, 30202, 1⟩, ⟨true, 2, 3, 30203, 1⟩, ⟨true, 2, 4, 30204, 1⟩], []⟩), (1, ⟨[2], true, [⟨true, 2, 2, 30202, 1⟩, ⟨true, 2, 3, 30203, 1⟩, ⟨true, 2, 4, 30204, 1⟩], []⟩)]
def tl18 : List (Nat × Tidy) := []
def rs18 : List AResV := [.cell 2 true 7]
def pr18_0_0 : PT (List RV) := pRs [pR true [rD dS, rD (dI .i64), rO 1, rO 1, rO 1, rD (dI .i64), rD (dI .i64)]]
def ur18_0_0 {β : Type} (g : List RV → β) : ByteArray → Int → Rows → Rows → Rows → Int → Int → β := pr18_0_0.unc g
def E18_0g (vf12_0 : Tf12_0) : EnvK := EnvK.of [⟨12, nt12, [⟨pa12_0, Fn12_0 vf12_0⟩]⟩] noSeq
noncomputable def E18_0 : EnvK := E18_0g f12_0
theorem eo18_0 : E18_0.Ok Tryz.prog := EnvK.of_ok noSeq_ok ⟨⟨io12_0, trivial⟩, trivial⟩
abbrev Tf18_0 : Type 1 := (α : Type) → ByteArray → Int → Rows → Rows → Rows → Int → Int → (ByteArray → Int → Rows → Rows → Rows → Int → Int → Option α) → Option α
def f18_0g (vf12_0 : Tf12_0) (α : Type) (x1 : ByteArray) (x2 : Int) (x3 x4 x5 : Rows) (x6 x7 : Int) (k1 : ByteArray → Int → Rows → Rows → Rows → Int → Int → Option α) : Option α :=
 vf12_0 α x3
 (fun x8 => gK (apOk 1 4 ([] : Rows) x4) (gK (apOk 1 4 ([] : Rows) x5) (k1 x1 x2 x8 (([] : Rows) ++ x4) (([] : Rows) ++ x5) x6 x7)))
noncomputable def f18_0 (α : Type) (x1 : ByteArray) (x2 : Int) (x3 x4 x5 : Rows) (x6 x7 : Int) (k1 : ByteArray → Int → Rows → Rows → Rows → Int → Int → Option α) : Option α := f18_0g f12_0 α x1 x2 x3 x4 x5 x6 x7 k1
def pa18_0 : PT (List DV) := pA [pV true [dS, (dI .i64), dL, dL, dL, (dI .i64), (dI .i64)]]
def Fn18_0 (v : Tf18_0) (α : Type) (k : List RV → Option α) : ByteArray → Int → Rows → Rows → Rows → Int → Int → Option α := fun x1 x2 x3 x4 x5 x6 x7 => v α x1 x2 x3 x4 x5 x6 x7 (fun (y1 : ByteArray) (y2 : Int) (y3 : Rows) (y4 : Rows) (y5 : Rows) (y6 : Int) (y7 : Int) => ur18_0_0 k y1 y2 y3 y4 y5 y6 y7)
noncomputable def cm18_0g  : MCode := (.seq (.region r18_2 [] (some ⟨[1, 2], true, [⟨true, 2, 2, 30202, 1⟩, ⟨true, 2, 3, 30203, 1⟩, ⟨true, 2, 4, 30204, 1⟩], []⟩)) (.seq (.region r18_4 [(1, 6), (3, 6), (1, 7), (3, 7), (5, 7), (6, 7), (6, 9), (7, 9), (1, 10), (3, 10), (1, 11), (3, 11), (5, 11), (6, 11), (7, 11), (9, 11), (10, 11), (6, 13), (7, 13), (10, 13), (11, 13), (1, 14), (3, 14), (6, 16), (7, 16), (10, 16), (11, 16), (14, 16)] (some ⟨[2], true, [⟨true, 2, 2, 30202, 1⟩, ⟨true, 2, 3, 30203, 1⟩, ⟨true, 2, 4, 30204, 1⟩], []⟩)) .ret))
noncomputable def cm18_0 : MCode := cm18_0g 
theorem gm18_0 : cm18_0.Good Tryz.prog E18_0 sh18 := ⟨trivial, ⟨trivial, trivial⟩⟩
theorem fm18_0g (vf12_0 : Tf12_0)  (α : Type) (k : List RV → Option α) : Fn18_0 (f18_0g vf12_0) α k = pa18_0.unc fun ds => fnM Tryz.prog (E18_0g vf12_0) sh18 (cm18_0g ) rs18 k ds := by kernel_rfl
theorem fm18_0 : ∀ (α : Type) (k : List RV → Option α), Fn18_0 f18_0 α k = pa18_0.unc fun ds => fnM Tryz.prog E18_0 sh18 cm18_0 rs18 k ds := fm18_0g f12_0
theorem is18 : FnIs Tryz.prog 18 nt18 tr18 tl18 cm18_0.erase rs18 := ⟨Tryz.f18, Tryz.func18, rfl, by kernel_rfl, by kernel_rfl, by kernel_rfl⟩
theorem io18_0 : InstOk Tryz.prog 18 nt18 ⟨pa18_0, Fn18_0 f18_0⟩ := inst_ok eo18_0 followsTry is18 ⟨⟨sh18, cm18_0, by kernel_rfl, gm18_0, fm18_0⟩⟩
abbrev nt16 : Nat := 25
def sh16 : List (Nat × List Sh) := [(4, [.sl]), (9, [.sl]), (15, [.sl]), (21, [.str])]
def r16_2 : List AOper := [oO 1 (.box (.tmp 0)), oO 2 (.mv (.const (.bool false)))]
def r16_4 : List AOper := [oO 3 (.faddr 2 (.tmp 1)), oO 4 (.load false 1 (.tmp 3)), oO 5 (.len (.tmp 4)), oO 6 (.call 61 [(.tmp 5)]), oM 7 6, oG 8 (.faddr 3 (.tmp 1)) 7 true, oG 9 (.load false 1 (.tmp 8)) 7 true, oG 10 (.len (.tmp 9)) 7 true, oG 11 (.call 61 [(.tmp 10)]) 7 true, oO 12 (.pick (.tmp 7) (.tmp 11) (.const (.bool false))), oM 13 12, oG 14 (.faddr 4 (.tmp 1)) 13 true, oG 15 (.load false 1 (.tmp 14)) 13 true, oG 16 (.len (.tmp 15)) 13 true, oG 17 (.call 61 [(.tmp 16)]) 13 true, oO 18 (.pick (.tmp 13) (.tmp 17) (.const (.bool false))), oM 19 18, oG 20 (.faddr 0 (.tmp 1)) 19 true, oG 21 (.load false 1 (.tmp 20)) 19 true, oG 22 (.pure (oB (.call { callee := .builtin .len, args := #[(.tmp 21)], argTypes := #[9] }) 3)) 19 true, oG 23 (.bin .leq 3 (.tmp 22) (kI 20)) 19 true, oO 24 (.pick (.tmp 19) (.tmp 23) (.const (.bool false))), oM 2 24]
def tr16 : List (Nat × Tidy) := [tT 0 [1], tT 1 [2]]
def tl16 : List (Nat × Tidy) := []
def rs16 : List AResV := [.tmp 2]
def pr16_0_0 : PT (List RV) := pRs [pR false [rD dB]]
def ur16_0_0 {β : Type} (g : List RV → β) : Bool → β := pr16_0_0.unc g
def E16_0g (vf61_0 : Tf61_0) : EnvK := EnvK.of [⟨61, nt61, [⟨pa61_0, Fn61_0 vf61_0⟩]⟩] noSeq
noncomputable def E16_0 : EnvK := E16_0g f61_0
theorem eo16_0 : E16_0.Ok Tryz.prog := EnvK.of_ok noSeq_ok ⟨⟨io61_0, trivial⟩, trivial⟩
abbrev Tf16_0 : Type 1 := (α : Type) → ByteArray → Int → Rows → Rows → Rows → Int → Int → (Bool → Option α) → Option α
def f16_0g (vf61_0 : Tf61_0) (α : Type) (x1 : ByteArray) (x2 : Int) (x3 x4 x5 : Rows) (x6 x7 : Int) (k1 : Bool → Option α) : Option α :=
 vf61_0 α ((List.length x3 : Nat) : Int)
 (fun x8 => cK x8
 (vf61_0 α ((List.length x4 : Nat) : Int)
 (fun x9 => cK x9
 (vf61_0 α ((List.length x5 : Nat) : Int)
 (fun x10 => cK x10
 (k1 (decide (((ByteArray.size x1 : Nat) : Int) ≤ 20)))
 (k1 false)))
 (k1 false)))
 (k1 false))
noncomputable def f16_0 (α : Type) (x1 : ByteArray) (x2 : Int) (x3 x4 x5 : Rows) (x6 x7 : Int) (k1 : Bool → Option α) : Option α := f16_0g f61_0 α x1 x2 x3 x4 x5 x6 x7 k1
def pa16_0 : PT (List DV) := pA [pV true [dS, (dI .i64), dL, dL, dL, (dI .i64), (dI .i64)]]
def Fn16_0 (v : Tf16_0) (α : Type) (k : List RV → Option α) : ByteArray → Int → Rows → Rows → Rows → Int → Int → Option α := fun x1 x2 x3 x4 x5 x6 x7 => v α x1 x2 x3 x4 x5 x6 x7 (fun (y1 : Bool) => ur16_0_0 k y1)
noncomputable def cm16_0g  : MCode := (.seq (.region r16_2 [] (tO [1])) (.seq (.region r16_4 [] (tO [2])) .ret))
noncomputable def cm16_0 : MCode := cm16_0g 
theorem gm16_0 : cm16_0.Good Tryz.prog E16_0 sh16 := ⟨trivial, ⟨trivial, trivial⟩⟩
theorem fm16_0g (vf61_0 : Tf61_0)  (α : Type) (k : List RV → Option α) : Fn16_0 (f16_0g vf61_0) α k = pa16_0.unc fun ds => fnM Tryz.prog (E16_0g vf61_0) sh16 (cm16_0g ) rs16 k ds := by kernel_rfl
theorem fm16_0 : ∀ (α : Type) (k : List RV → Option α), Fn16_0 f16_0 α k = pa16_0.unc fun ds => fnM Tryz.prog E16_0 sh16 cm16_0 rs16 k ds := fm16_0g f61_0
theorem is16 : FnIs Tryz.prog 16 nt16 tr16 tl16 cm16_0.erase rs16 := ⟨Tryz.f16, Tryz.func16, rfl, by kernel_rfl, by kernel_rfl, by kernel_rfl⟩
theorem io16_0 : InstOk Tryz.prog 16 nt16 ⟨pa16_0, Fn16_0 f16_0⟩ := inst_ok eo16_0 followsTry is16 ⟨⟨sh16, cm16_0, by kernel_rfl, gm16_0, fm16_0⟩⟩
abbrev nt78 : Nat := 20
def sh78 : List (Nat × List Sh) := []
def r78_2 : List AOper := [oO 4 (.alloc [(cI 0), (cI 0)])]
def r78_4 : List AOper := [oM 6 0, oM 7 1, oO 8 (.call 112 [(.tmp 6), (.tmp 7)]), oM 5 8]
def r78_7 : List AOper := [oM 9 1, oO 10 (.bin .lss 3 (.tmp 9) (kI 0))]
def r78_9 : List AOper := [oM 11 5, oO 12 (.pure (oB (.unOp .neg 3 (.tmp 11)) 3)), oM 5 12]
def r78_11 : List AOper := [oM 13 0, oM 14 5, oO 15 (.bin .quo 3 (.tmp 13) (.tmp 14)), oM 16 1, oM 17 5, oO 18 (.bin .quo 3 (.tmp 16) (.tmp 17)), oO 19 (.build [(cI 0), (cI 0)] [(0, 1, (.tmp 15)), (1, 1, (.tmp 18))]), oD (.store 2 (.tmp 4) (.tmp 19))]
def tr78 : List (Nat × Tidy) := [tT 0 [0, 1, 4], tT 1 [0, 1, 4, 5], tT 2 [0, 1, 4, 5, 10], tT 3 [0, 1, 4, 5], tT 4 [4]]
def tl78 : List (Nat × Tidy) := []
def rs78 : List AResV := [.cell 4 true 2]
def p78_0_0 : PT St := pS [sl 0 (aV false [(cD (dI .i64))]), sl 1 (aV false [(cD (dI .i64))]), sl 4 (aV false [(cPtr 4 0)]), sl 5 (aV false [(cD (dI .i64))])] [eBox 4 [(cD (dI .i64)), (cD (dI .i64))]]
def u78_0_0 {β : Type} (g : St → β) : Int → Int → Int → Int → Int → β := p78_0_0.unc g
def p78_0_1 : PT St := pS [sl 0 (aV false [(cD (dI .i64))]), sl 1 (aV false [(cD (dI .i64))]), sl 4 (aV false [(cPtr 4 0)]), sl 5 (aV false [(cD (dI .i64))]), sl 10 (aV false [(cD dB)])] [eBox 4 [(cD (dI .i64)), (cD (dI .i64))]]
def u78_0_1 {β : Type} (g : St → β) : Int → Int → Int → Bool → Int → Int → β := p78_0_1.unc g
def pr78_0_0 : PT (List RV) := pRs [pR true [rD (dI .i64), rD (dI .i64)]]
def ur78_0_0 {β : Type} (g : List RV → β) : Int → Int → β := pr78_0_0.unc g
def E78_0g (vf112_0 : Tf112_0) : EnvK := EnvK.of [⟨112, nt112, [⟨pa112_0, Fn112_0 vf112_0⟩]⟩] noSeq
noncomputable def E78_0 : EnvK := E78_0g f112_0
theorem eo78_0 : E78_0.Ok Tryz.prog := EnvK.of_ok noSeq_ok ⟨⟨io112_0, trivial⟩, trivial⟩
noncomputable def c78_0_5g  : MCode := (.seq (.region r78_7 [] (tO [0, 1, 4, 5, 10])) (.cond (.tmp 10) (.region r78_9 [] (tO [0, 1, 4, 5])) .skip))
noncomputable def c78_0_5 : MCode := c78_0_5g 
theorem g78_0_5 : c78_0_5.Good Tryz.prog E78_0 sh78 := ⟨trivial, ⟨trivial, trivial⟩⟩
--CODE 5 0
abbrev TJ78_0_0 : Type 1 := (α : Type) → Int → Int → (Int → Option α) → (Bool → Option α) → Option α
def J78_0_0g  (α : Type) (x5 x6 : Int) (k1 : Int → Option α) (k2 : Bool → Option α) : Option α :=
 cK (decide (x5 < 0))
 (k1 (w64 (0 - x6)))
 (k2 (decide (x5 < 0)))
noncomputable def J78_0_0 (α : Type) (x5 x6 : Int) (k1 : Int → Option α) (k2 : Bool → Option α) : Option α := J78_0_0g  α x5 x6 k1 k2
def F78_0_0 (v : TJ78_0_0) (α : Type) (K : Exit → St → Option α) : Int → Int → Int → Int → Int → Option α := fun x4 x5 x6 x7 x8 => v α x5 x6 (fun (y1 : Int) => u78_0_0 (K .normal) x4 x5 y1 x7 x8) (fun (y1 : Bool) => u78_0_1 (K .normal) x4 x5 x6 y1 x7 x8) 
theorem m78_0_0g (vf112_0 : Tf112_0)  (α : Type) (K : Exit → St → Option α) : F78_0_0 (J78_0_0g ) α K = p78_0_0.unc fun σ => runM Tryz.prog (E78_0g vf112_0) sh78 (c78_0_5g ) K σ := by kernel_rfl
theorem m78_0_0 : ∀ (α : Type) (K : Exit → St → Option α), F78_0_0 J78_0_0 α K = p78_0_0.unc fun σ => runM Tryz.prog E78_0 sh78 c78_0_5 K σ := m78_0_0g f112_0
abbrev Tf78_0 : Type 1 := (α : Type) → Int → Int → (Int → Int → Option α) → Option α
def f78_0g (vJ78_0_0 : TJ78_0_0) (vf112_0 : Tf112_0) (α : Type) (x1 x2 : Int) (k1 : Int → Int → Option α) : Option α :=
 vf112_0 α x1 x2
 (fun x3 => vJ78_0_0 α x2 x3
 (fun x10 => gK (x10 != 0) (gK (x10 != 0) (k1 (w64 (Int.tdiv x1 x10)) (w64 (Int.tdiv x2 x10)))))
 (fun x11 => gK (x3 != 0) (gK (x3 != 0) (k1 (w64 (Int.tdiv x1 x3)) (w64 (Int.tdiv x2 x3))))))
noncomputable def f78_0 (α : Type) (x1 x2 : Int) (k1 : Int → Int → Option α) : Option α := f78_0g J78_0_0 f112_0 α x1 x2 k1
def pa78_0 : PT (List DV) := pA [pV false [(dI .i64)], pV false [(dI .i64)]]
def Fn78_0 (v : Tf78_0) (α : Type) (k : List RV → Option α) : Int → Int → Option α := fun x1 x2 => v α x1 x2 (fun (y1 : Int) (y2 : Int) => ur78_0_0 k y1 y2)
noncomputable def cm78_0g (vJ78_0_0 : TJ78_0_0) : MCode := (.seq (.region r78_2 [] (tO [0, 1, 4])) (.seq (.region r78_4 [] (tO [0, 1, 4, 5])) (.seq (.mark [⟨p78_0_0, F78_0_0 vJ78_0_0⟩] c78_0_5) (.seq (.region r78_11 [] (tO [4])) .ret))))
noncomputable def cm78_0 : MCode := cm78_0g J78_0_0
theorem gm78_0 : cm78_0.Good Tryz.prog E78_0 sh78 := ⟨trivial, ⟨trivial, ⟨⟨g78_0_5, m78_0_0, trivial⟩, ⟨trivial, trivial⟩⟩⟩⟩
theorem fm78_0g (vf112_0 : Tf112_0) (vJ78_0_0 : TJ78_0_0) (α : Type) (k : List RV → Option α) : Fn78_0 (f78_0g vJ78_0_0 vf112_0) α k = pa78_0.unc fun ds => fnM Tryz.prog (E78_0g vf112_0) sh78 (cm78_0g vJ78_0_0) rs78 k ds := by kernel_rfl
theorem fm78_0 : ∀ (α : Type) (k : List RV → Option α), Fn78_0 f78_0 α k = pa78_0.unc fun ds => fnM Tryz.prog E78_0 sh78 cm78_0 rs78 k ds := fm78_0g f112_0 J78_0_0
theorem is78 : FnIs Tryz.prog 78 nt78 tr78 tl78 cm78_0.erase rs78 := ⟨Tryz.f78, Tryz.func78, rfl, by kernel_rfl, by kernel_rfl, by kernel_rfl⟩
theorem io78_0 : InstOk Tryz.prog 78 nt78 ⟨pa78_0, Fn78_0 f78_0⟩ := inst_ok eo78_0 followsTry is78 ⟨⟨sh78, cm78_0, by kernel_rfl, gm78_0, fm78_0⟩⟩
abbrev nt25 : Nat := 16
def sh25 : List (Nat × List Sh) := [(6, [.str, .int .i64, .sl, .sl, .sl, .int .i64, .int .i64]), (10, [.int .i64, .int .i64]), (13, [.int .i64, .int .i64])]
def r25_2 : List AOper := [oO 2 (.box (.tmp 0)), oO 4 (.alloc [(cI 0), (cI 0)])]
def r25_4 : List AOper := [oO 6 (.load true 7 (.tmp 2)), oM 7 1, oO 8 (.call 73 [(.tmp 6), (.tmp 7)]), oO 5 (.alloc [(cI 0), (cI 0), (cI 0), (cI 0)]), oD (.store 4 (.tmp 5) (.tmp 8))]
def r25_6 : List AOper := [oO 9 (.iaddr 2 (some 2) (.tmp 5) (kI 0)), oO 10 (.load true 2 (.tmp 9)), oO 11 (.call 74 [(.tmp 10)]), oO 12 (.iaddr 2 (some 2) (.tmp 5) (kI 1)), oO 13 (.load true 2 (.tmp 12)), oO 14 (.call 74 [(.tmp 13)]), oO 15 (.build [(cI 0), (cI 0)] [(0, 1, (.tmp 11)), (1, 1, (.tmp 14))]), oD (.store 2 (.tmp 4) (.tmp 15))]
def tr25 : List (Nat × Tidy) := [tT 0 [1, 2, 4], tT 1 [4, 5], tT 2 [4]]
def tl25 : List (Nat × Tidy) := []
def rs25 : List AResV := [.cell 4 true 2]
def pr25_0_0 : PT (List RV) := pRs [pR true [rD (dI .i64), rD (dI .i64)]]
def ur25_0_0 {β : Type} (g : List RV → β) : Int → Int → β := pr25_0_0.unc g
def E25_0g (vf73_0 : Tf73_0) (vf74_0 : Tf74_0) : EnvK := EnvK.of [⟨73, nt73, [⟨pa73_0, Fn73_0 vf73_0⟩]⟩, ⟨74, nt74, [⟨pa74_0, Fn74_0 vf74_0⟩]⟩] noSeq
noncomputable def E25_0 : EnvK := E25_0g f73_0 f74_0
theorem eo25_0 : E25_0.Ok Tryz.prog := EnvK.of_ok noSeq_ok ⟨⟨io73_0, trivial⟩, ⟨io74_0, trivial⟩, trivial⟩
abbrev Tf25_0 : Type 1 := (α : Type) → ByteArray → Int → Rows → Rows → Rows → Int → Int → Int → (Int → Int → Option α) → Option α
def f25_0g (vf73_0 : Tf73_0) (vf74_0 : Tf74_0) (α : Type) (x1 : ByteArray) (x2 : Int) (x3 x4 x5 : Rows) (x6 x7 x8 : Int) (k1 : Int → Int → Option α) : Option α :=
 vf73_0 α x1 x2 x3 x4 x5 x6 x7 x8
 (fun x9 x10 x11 x12 => vf74_0 α x9 x10
 (fun x13 => vf74_0 α x11 x12
 (fun x14 => k1 x13 x14)))
noncomputable def f25_0 (α : Type) (x1 : ByteArray) (x2 : Int) (x3 x4 x5 : Rows) (x6 x7 x8 : Int) (k1 : Int → Int → Option α) : Option α := f25_0g f73_0 f74_0 α x1 x2 x3 x4 x5 x6 x7 x8 k1
def pa25_0 : PT (List DV) := pA [pV true [dS, (dI .i64), dL, dL, dL, (dI .i64), (dI .i64)], pV false [(dI .i64)]]
def Fn25_0 (v : Tf25_0) (α : Type) (k : List RV → Option α) : ByteArray → Int → Rows → Rows → Rows → Int → Int → Int → Option α := fun x1 x2 x3 x4 x5 x6 x7 x8 => v α x1 x2 x3 x4 x5 x6 x7 x8 (fun (y1 : Int) (y2 : Int) => ur25_0_0 k y1 y2)
noncomputable def cm25_0g  : MCode := (.seq (.region r25_2 [] (tO [1, 2, 4])) (.seq (.region r25_4 [] (tO [4, 5])) (.seq (.region r25_6 [(2, 4)] (tO [4])) .ret)))
noncomputable def cm25_0 : MCode := cm25_0g 
theorem gm25_0 : cm25_0.Good Tryz.prog E25_0 sh25 := ⟨trivial, ⟨trivial, ⟨trivial, trivial⟩⟩⟩
theorem fm25_0g (vf73_0 : Tf73_0) (vf74_0 : Tf74_0)  (α : Type) (k : List RV → Option α) : Fn25_0 (f25_0g vf73_0 vf74_0) α k = pa25_0.unc fun ds => fnM Tryz.prog (E25_0g vf73_0 vf74_0) sh25 (cm25_0g ) rs25 k ds := by kernel_rfl
theorem fm25_0 : ∀ (α : Type) (k : List RV → Option α), Fn25_0 f25_0 α k = pa25_0.unc fun ds => fnM Tryz.prog E25_0 sh25 cm25_0 rs25 k ds := fm25_0g f73_0 f74_0
theorem is25 : FnIs Tryz.prog 25 nt25 tr25 tl25 cm25_0.erase rs25 := ⟨Tryz.f25, Tryz.func25, rfl, by kernel_rfl, by kernel_rfl, by kernel_rfl⟩
theorem io25_0 : InstOk Tryz.prog 25 nt25 ⟨pa25_0, Fn25_0 f25_0⟩ := inst_ok eo25_0 followsTry is25 ⟨⟨sh25, cm25_0, by kernel_rfl, gm25_0, fm25_0⟩⟩
abbrev nt22 : Nat := 11
def sh22 : List (Nat × List Sh) := [(8, [.str, .int .i64, .sl, .sl, .sl, .int .i64, .int .i64])]
def r22_2 : List AOper := [oO 2 (.box (.tmp 0)), oO 4 (.mv (kI 0))]
def r22_5 : List AOper := [oM 5 1, oO 6 (.call 68 [(.tmp 5)]), oO 7 (.pure (oB (.unOp .not 4 (.tmp 6)) 4))]
def r22_8 : List AOper := [oO 4 (.mv (kI 2))]
def r22_10 : List AOper := [oO 8 (.load true 7 (.tmp 2)), oM 9 1, oO 10 (.call 70 [(.tmp 8), (.tmp 9)]), oM 4 10]
def tr22 : List (Nat × Tidy) := [tT 0 [1, 2], tT 1 [1, 2, 7], tT 2 [4], tT 3 [4]]
def tl22 : List (Nat × Tidy) := []
def rs22 : List AResV := [.tmp 4]
def pr22_0_0 : PT (List RV) := pRs [pR false [rD (dI .i64)]]
def ur22_0_0 {β : Type} (g : List RV → β) : Int → β := pr22_0_0.unc g
def E22_0g (vf68_0 : Tf68_0) (vf70_0 : Tf70_0) : EnvK := EnvK.of [⟨68, nt68, [⟨pa68_0, Fn68_0 vf68_0⟩]⟩, ⟨70, nt70, [⟨pa70_0, Fn70_0 vf70_0⟩]⟩] noSeq
noncomputable def E22_0 : EnvK := E22_0g f68_0 f70_0
theorem eo22_0 : E22_0.Ok Tryz.prog := EnvK.of_ok noSeq_ok ⟨⟨io68_0, trivial⟩, ⟨io70_0, trivial⟩, trivial⟩
abbrev Tf22_0 : Type 1 := (α : Type) → ByteArray → Int → Rows → Rows → Rows → Int → Int → Int → (Int → Option α) → Option α
def f22_0g (vf68_0 : Tf68_0) (vf70_0 : Tf70_0) (α : Type) (x1 : ByteArray) (x2 : Int) (x3 x4 x5 : Rows) (x6 x7 x8 : Int) (k1 : Int → Option α) : Option α :=
 vf68_0 α x8
 (fun x9 => cK (!x9)
 (k1 2)
 (vf70_0 α x1 x2 x3 x4 x5 x6 x7 x8
 (fun x10 => k1 x10)))
noncomputable def f22_0 (α : Type) (x1 : ByteArray) (x2 : Int) (x3 x4 x5 : Rows) (x6 x7 x8 : Int) (k1 : Int → Option α) : Option α := f22_0g f68_0 f70_0 α x1 x2 x3 x4 x5 x6 x7 x8 k1
def pa22_0 : PT (List DV) := pA [pV true [dS, (dI .i64), dL, dL, dL, (dI .i64), (dI .i64)], pV false [(dI .i64)]]
def Fn22_0 (v : Tf22_0) (α : Type) (k : List RV → Option α) : ByteArray → Int → Rows → Rows → Rows → Int → Int → Int → Option α := fun x1 x2 x3 x4 x5 x6 x7 x8 => v α x1 x2 x3 x4 x5 x6 x7 x8 (fun (y1 : Int) => ur22_0_0 k y1)
noncomputable def cm22_0g  : MCode := (.seq (.region r22_2 [] (tO [1, 2])) (.seq (.seq (.region r22_5 [] (tO [1, 2, 7])) (.cond (.tmp 7) (.seq (.region r22_8 [] (tO [4])) .ret) .skip)) (.seq (.region r22_10 [] (tO [4])) .ret)))
noncomputable def cm22_0 : MCode := cm22_0g 
theorem gm22_0 : cm22_0.Good Tryz.prog E22_0 sh22 := ⟨trivial, ⟨⟨trivial, ⟨⟨trivial, trivial⟩, trivial⟩⟩, ⟨trivial, trivial⟩⟩⟩
theorem fm22_0g (vf68_0 : Tf68_0) (vf70_0 : Tf70_0)  (α : Type) (k : List RV → Option α) : Fn22_0 (f22_0g vf68_0 vf70_0) α k = pa22_0.unc fun ds => fnM Tryz.prog (E22_0g vf68_0 vf70_0) sh22 (cm22_0g ) rs22 k ds := by kernel_rfl
theorem fm22_0 : ∀ (α : Type) (k : List RV → Option α), Fn22_0 f22_0 α k = pa22_0.unc fun ds => fnM Tryz.prog E22_0 sh22 cm22_0 rs22 k ds := fm22_0g f68_0 f70_0
theorem is22 : FnIs Tryz.prog 22 nt22 tr22 tl22 cm22_0.erase rs22 := ⟨Tryz.f22, Tryz.func22, rfl, by kernel_rfl, by kernel_rfl, by kernel_rfl⟩
theorem io22_0 : InstOk Tryz.prog 22 nt22 ⟨pa22_0, Fn22_0 f22_0⟩ := inst_ok eo22_0 followsTry is22 ⟨⟨sh22, cm22_0, by kernel_rfl, gm22_0, fm22_0⟩⟩
abbrev nt21 : Nat := 148
def sh21 : List (Nat × List Sh) := [(7, [.str]), (11, [.int .i64]), (15, [.int .i64]), (19, [.sl]), (22, [.int .i64]), (28, [.sl]), (34, [.sl]), (40, [.int .i64]), (43, [.int .i64]), (47, [.int .i64, .int .i64]), (54, [.sl]), (61, [.sl]), (74, [.sl]), (76, [.int .i64]), (77, [.int .i64]), (82, [.sl]), (84, [.flt .f32]), (85, [.flt .f32]), (91, [.sl]), (93, [.flt .f32]), (94, [.flt .f32]), (101, [.sl]), (103, [.flt .f32]), (104, [.flt .f32]), (108, [.sl]), (110, [.flt .f32]), (111, [.flt .f32]), (116, [.sl]), (118, [.flt .f32]), (119, [.flt .f32]), (124, [.sl]), (126, [.flt .f32]), (127, [.flt .f32]), (135, [.sl]), (137, [.int .i64]), (138, [.int .i64]), (140, [.sl]), (143, [.int .i64]), (144, [.int .i64])]
def r21_2 : List AOper := [oO 1 (.box (.tmp 0)), oO 2 (.mv (kI 0)), oO 3 (.mv (kI 0))]
def r21_5 : List AOper := [oO 6 (.faddr 0 (.tmp 1)), oO 7 (.load false 1 (.tmp 6)), oO 8 (.call 66 [(.tmp 7)]), oO 9 (.pure (oB (.unOp .not 4 (.tmp 8)) 4))]
def r21_8 : List AOper := [oO 2 (.mv (kI 0)), oO 3 (.mv (kI 3))]
def r21_11 : List AOper := [oO 10 (.faddr 1 (.tmp 1)), oO 11 (.load false 1 (.tmp 10)), oO 12 (.bin .neq 3 (.tmp 11) (kI 1)), oM 13 12, oG 14 (.faddr 1 (.tmp 1)) 13 true, oG 15 (.load false 1 (.tmp 14)) 13 true, oG 16 (.bin .neq 3 (.tmp 15) (kI 2)) 13 true, oO 17 (.pick (.tmp 13) (.tmp 16) (.const (.bool false)))]
def r21_14 : List AOper := [oO 2 (.mv (kI 0)), oO 3 (.mv (kI 11))]
def r21_16 : List AOper := [oO 18 (.faddr 2 (.tmp 1)), oO 19 (.load false 1 (.tmp 18)), oO 20 (.len (.tmp 19)), oM 4 20]
def r21_19 : List AOper := [oO 21 (.faddr 1 (.tmp 1)), oO 22 (.load false 1 (.tmp 21)), oO 23 (.bin .eql 3 (.tmp 22) (kI 2))]
def r21_23 : List AOper := [oM 24 4, oO 25 (.bin .gtr 3 (.tmp 24) (kI 0)), oM 26 25, oG 27 (.faddr 3 (.tmp 1)) 26 false, oG 28 (.load false 1 (.tmp 27)) 26 false, oG 29 (.len (.tmp 28)) 26 false, oG 30 (.bin .gtr 3 (.tmp 29) (kI 0)) 26 false, oO 31 (.pick (.tmp 26) (.const (.bool true)) (.tmp 30)), oM 32 31, oG 33 (.faddr 4 (.tmp 1)) 32 false, oG 34 (.load false 1 (.tmp 33)) 32 false, oG 35 (.len (.tmp 34)) 32 false, oG 36 (.bin .gtr 3 (.tmp 35) (kI 0)) 32 false, oO 37 (.pick (.tmp 32) (.const (.bool true)) (.tmp 36))]
def r21_26 : List AOper := [oO 2 (.mv (kI 0)), oO 3 (.mv (kI 13))]
def r21_29 : List AOper := [oO 38 (.faddr 5 (.tmp 1)), oO 39 (.iaddr 1 (some 2) (.tmp 38) (kI 0)), oO 40 (.load false 1 (.tmp 39)), oO 41 (.faddr 5 (.tmp 1)), oO 42 (.iaddr 1 (some 2) (.tmp 41) (kI 1)), oO 43 (.load false 1 (.tmp 42)), oO 44 (.call 67 [(.tmp 40), (.tmp 43)]), oO 45 (.pure (oB (.unOp .not 4 (.tmp 44)) 4))]
def r21_32 : List AOper := [oO 2 (.mv (kI 0)), oO 3 (.mv (kI 2))]
def r21_34 : List AOper := [oO 2 (.mv (kI 0)), oO 3 (.mv (kI 0))]
def r21_37 : List AOper := [oO 46 (.faddr 5 (.tmp 1)), oO 47 (.load true 2 (.tmp 46)), oO 48 (.build [(cI 0), (cI 0)] []), oO 49 (.bin .neq 36 (.tmp 47) (.tmp 48))]
def r21_40 : List AOper := [oO 2 (.mv (kI 0)), oO 3 (.mv (kI 13))]
def r21_43 : List AOper := [oM 50 4, oO 51 (.bin .eql 3 (.tmp 50) (kI 0)), oM 52 51, oG 53 (.faddr 3 (.tmp 1)) 52 false, oG 54 (.load false 1 (.tmp 53)) 52 false, oG 55 (.len (.tmp 54)) 52 false, oG 56 (.mv (.tmp 4)) 52 false, oG 57 (.bin .neq 3 (.tmp 55) (.tmp 56)) 52 false, oO 58 (.pick (.tmp 52) (.const (.bool true)) (.tmp 57)), oM 59 58, oG 60 (.faddr 4 (.tmp 1)) 59 false, oG 61 (.load false 1 (.tmp 60)) 59 false, oG 62 (.len (.tmp 61)) 59 false, oG 63 (.mv (.tmp 4)) 59 false, oG 64 (.bin .neq 3 (.tmp 62) (.tmp 63)) 59 false, oO 65 (.pick (.tmp 59) (.const (.bool true)) (.tmp 64))]
def r21_46 : List AOper := [oO 2 (.mv (kI 0)), oO 3 (.mv (kI 12))]
def r21_49 : List AOper := [oM 66 4, oO 67 (.bin .gtr 3 (.tmp 66) (kI 64))]
def r21_52 : List AOper := [oO 2 (.mv (kI 0)), oO 3 (.mv (kI 8))]
def r21_55 : List AOper := [oO 5 (.mv (kI 0))]
def td21_57 : Option Tidy := (some ⟨[1, 4, 5], true, [⟨true, 1, 2, 30102, 1⟩, ⟨true, 1, 3, 30103, 1⟩, ⟨true, 1, 4, 30104, 1⟩], []⟩)
def r21_60 : List AOper := [oM 68 5, oM 69 4, oO 70 (.bin .lss 3 (.tmp 68) (.tmp 69))]
def r21_66 : List AOper := [oO 73 (.faddr 2 (.tmp 1)), oO 74 (.load false 1 (.tmp 73)), oM 75 5, oO 76 (.iaddr 1 none (.tmp 74) (.tmp 75)), oO 77 (.load false 1 (.tmp 76)), oO 78 (.call 68 [(.tmp 77)]), oO 79 (.pure (oB (.unOp .not 4 (.tmp 78)) 4))]
def r21_69 : List AOper := [oM 80 5, oM 2 80, oO 3 (.mv (kI 2))]
def r21_72 : List AOper := [oO 81 (.faddr 3 (.tmp 1)), oO 82 (.load false 1 (.tmp 81)), oM 83 5, oO 84 (.iaddr 1 none (.tmp 82) (.tmp 83)), oO 85 (.load false 1 (.tmp 84)), oO 86 (.pure (oB (.convert 125 117 (.tmp 85)) 117)), oO 87 (.call 69 [(.tmp 86)]), oO 88 (.pure (oB (.unOp .not 4 (.tmp 87)) 4)), oM 89 88, oG 90 (.faddr 4 (.tmp 1)) 89 false, oG 91 (.load false 1 (.tmp 90)) 89 false, oG 92 (.mv (.tmp 5)) 89 false, oG 93 (.iaddr 1 none (.tmp 91) (.tmp 92)) 89 false, oG 94 (.load false 1 (.tmp 93)) 89 false, oG 95 (.pure (oB (.convert 125 117 (.tmp 94)) 117)) 89 false, oG 96 (.call 69 [(.tmp 95)]) 89 false, oG 97 (.pure (oB (.unOp .not 4 (.tmp 96)) 4)) 89 false, oO 98 (.pick (.tmp 89) (.const (.bool true)) (.tmp 97))]
def r21_75 : List AOper := [oM 99 5, oM 2 99, oO 3 (.mv (kI 27))]
def r21_78 : List AOper := [oO 100 (.faddr 3 (.tmp 1)), oO 101 (.load false 1 (.tmp 100)), oM 102 5, oO 103 (.iaddr 1 none (.tmp 101) (.tmp 102)), oO 104 (.load false 1 (.tmp 103)), oO 105 (.bin .lss 125 (.tmp 104) (.const (.float Go.FloatKind.f32 1167867904))), oM 106 105, oG 107 (.faddr 3 (.tmp 1)) 106 false, oG 108 (.load false 1 (.tmp 107)) 106 false, oG 109 (.mv (.tmp 5)) 106 false, oG 110 (.iaddr 1 none (.tmp 108) (.tmp 109)) 106 false, oG 111 (.load false 1 (.tmp 110)) 106 false, oG 112 (.bin .gtr 125 (.tmp 111) (.const (.float Go.FloatKind.f32 1201422336))) 106 false, oO 113 (.pick (.tmp 106) (.const (.bool true)) (.tmp 112)), oM 114 113, oG 115 (.faddr 4 (.tmp 1)) 114 false, oG 116 (.load false 1 (.tmp 115)) 114 false, oG 117 (.mv (.tmp 5)) 114 false, oG 118 (.iaddr 1 none (.tmp 116) (.tmp 117)) 114 false, oG 119 (.load false 1 (.tmp 118)) 114 false, oG 120 (.bin .lss 125 (.tmp 119) (.const (.float Go.FloatKind.f32 0))) 114 false, oO 121 (.pick (.tmp 114) (.const (.bool true)) (.tmp 120)), oM 122 121, oG 123 (.faddr 4 (.tmp 1)) 122 false, oG 124 (.load false 1 (.tmp 123)) 122 false, oG 125 (.mv (.tmp 5)) 122 false, oG 126 (.iaddr 1 none (.tmp 124) (.tmp 125)) 122 false, oG 127 (.load false 1 (.tmp 126)) 122 false, oG 128 (.bin .gtr 125 (.tmp 127) (.const (.float Go.FloatKind.f32 1201422336))) 122 false, oO 129 (.pick (.tmp 122) (.const (.bool true)) (.tmp 128))]
def r21_81 : List AOper := [oM 130 5, oM 2 130, oO 3 (.mv (kI 2))]
def r21_83 : List AOper := [oM 131 5, oO 132 (.bin .gtr 3 (.tmp 131) (kI 0)), oM 133 132, oG 134 (.faddr 2 (.tmp 1)) 133 true, oG 135 (.load false 1 (.tmp 134)) 133 true, oG 136 (.mv (.tmp 5)) 133 true, oG 137 (.iaddr 1 none (.tmp 135) (.tmp 136)) 133 true, oG 138 (.load false 1 (.tmp 137)) 133 true, oG 139 (.faddr 2 (.tmp 1)) 133 true, oG 140 (.load false 1 (.tmp 139)) 133 true, oG 141 (.mv (.tmp 5)) 133 true, oG 142 (.bin .sub 3 (.tmp 141) (kI 1)) 133 true, oG 143 (.iaddr 1 none (.tmp 140) (.tmp 142)) 133 true, oG 144 (.load false 1 (.tmp 143)) 133 true, oG 145 (.bin .leq 3 (.tmp 138) (.tmp 144)) 133 true, oO 146 (.pick (.tmp 133) (.tmp 145) (.const (.bool false)))]
def r21_86 : List AOper := [oM 147 5, oM 2 147, oO 3 (.mv (kI 10))]
def r21_87 : List AOper := [oM 71 5, oO 72 (.bin .add 3 (.tmp 71) (kI 1)), oM 5 72]
def r21_89 : List AOper := [oO 2 (.mv (kI 0)), oO 3 (.mv (kI 0))]
def tr21 : List (Nat × Tidy) := [tT 0 [1], tT 1 [1, 9], tT 2 [2, 3], tT 3 [1, 17], tT 4 [2, 3], tT 5 [1, 4], tT 6 [1, 4, 23], tT 7 [1, 37], tT 8 [2, 3], tT 9 [45], tT 10 [2, 3], tT 11 [2, 3], tT 12 [1, 4, 49], tT 13 [2, 3], tT 14 [1, 4, 65], tT 15 [2, 3], tT 16 [1, 4, 67], tT 17 [2, 3], tT 18 [1, 4, 5], tT 19 [1, 4, 5, 70], tT 21 [1, 4, 5, 79], tT 22 [2, 3], tT 23 [1, 4, 5, 98], tT 24 [2, 3], tT 25 [1, 4, 5, 129], tT 26 [2, 3], tT 27 [1, 4, 5, 146], tT 28 [2, 3], tT 20 [1, 4, 5], tT 29 [2, 3]]
def tl21 : List (Nat × Tidy) := [(19, ⟨[1, 4, 5], true, [⟨true, 1, 2, 30102, 1⟩, ⟨true, 1, 3, 30103, 1⟩, ⟨true, 1, 4, 30104, 1⟩], []⟩)]
def rs21 : List AResV := [.tmp 2, .tmp 3]
def p21_0_0 : PT St := pS [sl 1 (aV false [(cPtr 1 0)]), sl 9 (aV false [(cD dB)])] [eBox 1 [(cD dS), (cD (dI .i64)), (cD dL), (cD dL), (cD dL), (cD (dI .i64)), (cD (dI .i64))]]
def u21_0_0 {β : Type} (g : St → β) : Bool → ByteArray → Int → Rows → Rows → Rows → Int → Int → β := p21_0_0.unc g
def p21_0_1 : PT St := pS [sl 2 (aV false [(cD (dI .i64))]), sl 3 (aV false [(cD (dI .i64))])] []
def u21_0_1 {β : Type} (g : St → β) : Int → Int → β := p21_0_1.unc g
def p21_0_2 : PT St := pS [sl 1 (aV false [(cPtr 1 0)]), sl 17 (aV false [(cD dB)])] [eBox 1 [(cD dS), (cD (dI .i64)), (cD dL), (cD dL), (cD dL), (cD (dI .i64)), (cD (dI .i64))]]
def u21_0_2 {β : Type} (g : St → β) : Bool → ByteArray → Int → Rows → Rows → Rows → Int → Int → β := p21_0_2.unc g
def p21_0_3 : PT St := pS [sl 1 (aV false [(cPtr 1 0)]), sl 4 (aV false [(cD (dI .i64))]), sl 5 (aV false [(cD (dI .i64))])] [eBox 1 [(cD dS), (cD (dI .i64)), (cD dL), (cD dL), (cD dL), (cD (dI .i64)), (cD (dI .i64))]]
def u21_0_3 {β : Type} (g : St → β) : Int → Int → ByteArray → Int → Rows → Rows → Rows → Int → Int → β := p21_0_3.unc g
def p21_0_4 : PT St := pS [sl 1 (aV false [(cPtr 1 0)]), sl 4 (aV false [(cD (dI .i64))]), sl 5 (aV false [(cD (dI .i64))]), sl 70 (aV false [(cD dB)])] [eBox 1 [(cD dS), (cD (dI .i64)), (cD dL), (cD dL), (cD dL), (cD (dI .i64)), (cD (dI .i64))]]
def u21_0_4 {β : Type} (g : St → β) : Int → Int → Bool → ByteArray → Int → Rows → Rows → Rows → Int → Int → β := p21_0_4.unc g
def pr21_0_0 : PT (List RV) := pRs [pR false [rD (dI .i64)], pR false [rD (dI .i64)]]
def ur21_0_0 {β : Type} (g : List RV → β) : Int → Int → β := pr21_0_0.unc g
def E21_0g (vf66_0 : Tf66_0) (vf67_0 : Tf67_0) (vf68_0 : Tf68_0) (vf69_0 : Tf69_0) (vf69_1 : Tf69_1) : EnvK := EnvK.of [⟨66, nt66, [⟨pa66_0, Fn66_0 vf66_0⟩]⟩, ⟨67, nt67, [⟨pa67_0, Fn67_0 vf67_0⟩]⟩, ⟨68, nt68, [⟨pa68_0, Fn68_0 vf68_0⟩]⟩, ⟨69, nt69, [⟨pa69_0, Fn69_0 vf69_0⟩, ⟨pa69_1, Fn69_1 vf69_1⟩]⟩] noSeq
noncomputable def E21_0 : EnvK := E21_0g f66_0 f67_0 f68_0 f69_0 f69_1
theorem eo21_0 : E21_0.Ok Tryz.prog := EnvK.of_ok noSeq_ok ⟨⟨io66_0, trivial⟩, ⟨io67_0, trivial⟩, ⟨io68_0, trivial⟩, ⟨io69_0, io69_1, trivial⟩, trivial⟩
noncomputable def c21_0_57g  : MCode := (.seq (.seq (.region r21_60 [] (tO [1, 4, 5, 70])) (.cond (.tmp 70) .skip (.exit 0))) (.seq (.block 1 (.seq (.seq (.region r21_66 [] (tO [1, 4, 5, 79])) (.cond (.tmp 79) (.seq (.region r21_69 [] (tO [2, 3])) .ret) .skip)) (.seq (.seq (.region r21_72 [] (tO [1, 4, 5, 98])) (.cond (.tmp 98) (.seq (.region r21_75 [] (tO [2, 3])) .ret) .skip)) (.seq (.seq (.region r21_78 [] (tO [1, 4, 5, 129])) (.cond (.tmp 129) (.seq (.region r21_81 [] (tO [2, 3])) .ret) .skip)) (.seq (.region r21_83 [] (tO [1, 4, 5, 146])) (.cond (.tmp 146) (.seq (.region r21_86 [] (tO [2, 3])) .ret) .skip)))))) (.region r21_87 [] (tO [1, 4, 5]))))
noncomputable def c21_0_57 : MCode := c21_0_57g 
theorem g21_0_57 : c21_0_57.Good Tryz.prog E21_0 sh21 := ⟨⟨trivial, ⟨trivial, trivial⟩⟩, ⟨⟨⟨trivial, ⟨⟨trivial, trivial⟩, trivial⟩⟩, ⟨⟨trivial, ⟨⟨trivial, trivial⟩, trivial⟩⟩, ⟨⟨trivial, ⟨⟨trivial, trivial⟩, trivial⟩⟩, ⟨trivial, ⟨⟨trivial, trivial⟩, trivial⟩⟩⟩⟩⟩, trivial⟩⟩
--CODE 57 0
def S21_0_1g (vf68_0 : Tf68_0) (vf69_0 : Tf69_0) (vf69_1 : Tf69_1) (α : Type) (x21 : Int) (x25 x26 x27 : Rows) (x22 : Int) (kn : Int → Option α) (k1 : Int → Int → Option α) (k2 : Int → Bool → Option α) : Option α :=
 cK (decide (x22 < x21))
 (rowK x25 x22 [.int .i64]
 (fun x31 => vf68_0 α x31
 (fun x32 => cK (!x32)
 (k1 x22 2)
 (rowK x26 x22 [.flt .f32]
 (fun x33 => cK (isNaNb .f32 x33)
 (vf69_0 α 
 (k1 x22 27))
 (flK (f2f .f32 x33 .f64)
 (fun x34 => vf69_1 α x34
 (fun x35 => cK (!x35)
 (k1 x22 27)
 (rowK x27 x22 [.flt .f32]
 (fun x36 => cK (isNaNb .f32 x36)
 (vf69_0 α 
 (k1 x22 27))
 (flK (f2f .f32 x36 .f64)
 (fun x37 => vf69_1 α x37
 (fun x38 => cK (!x38)
 (k1 x22 27)
 (rowK x26 x22 [.flt .f32]
 (fun x39 => cK ((FloatKind.format .f32).order x39 1167867904 == some Ordering.lt)
 (k1 x22 2)
 (rowK x26 x22 [.flt .f32]
 (fun x40 => cK ((FloatKind.format .f32).order x40 1201422336 == some Ordering.gt)
 (k1 x22 2)
 (rowK x27 x22 [.flt .f32]
 (fun x41 => cK ((FloatKind.format .f32).order x41 0 == some Ordering.lt)
 (k1 x22 2)
 (rowK x27 x22 [.flt .f32]
 (fun x42 => cK ((FloatKind.format .f32).order x42 1201422336 == some Ordering.gt)
 (k1 x22 2)
 (cK (decide (0 < x22))
 (rowK x25 x22 [.int .i64]
 (fun x43 => rowK x25 (w64 (x22 - 1)) [.int .i64]
 (fun x44 => cK (decide (x43 ≤ x44))
 (k1 x22 10)
 (kn (w64 (x22 + 1))))))
 (kn (w64 (x22 + 1)))))))))))))))))))))))))
 (k2 x22 (decide (x22 < x21)))
noncomputable def S21_0_1 (α : Type) (x21 : Int) (x25 x26 x27 : Rows) (x22 : Int) (kn : Int → Option α) (k1 : Int → Int → Option α) (k2 : Int → Bool → Option α) : Option α := S21_0_1g f68_0 f69_0 f69_1 α x21 x25 x26 x27 x22 kn k1 k2
noncomputable def R21_0_1 (α : Type) (x21 : Int) (x25 x26 x27 : Rows) (k1 : Int → Int → Option α) (k2 : Int → Bool → Option α) : Nat → Int → Option α
 | 0, _ => none
 | n + 1, x22 => S21_0_1 α x21 x25 x26 x27 x22 (R21_0_1 α x21 x25 x26 x27 k1 k2 n) k1 k2
noncomputable def L21_0_1 (α : Type) (x21 : Int) (x25 x26 x27 : Rows) (k1 : Int → Int → Option α) (k2 : Int → Bool → Option α) (x22 : Int) : Option α := R21_0_1 α x21 x25 x26 x27 k1 k2 fuel x22
abbrev TL21_0_1 : Type 1 := (α : Type) → Int → Rows → Rows → Rows → (Int → Int → Option α) → (Int → Bool → Option α) → Int → Option α
def F21_0_1 (v : TL21_0_1) (α : Type) (K : Exit → St → Option α) : Int → Int → ByteArray → Int → Rows → Rows → Rows → Int → Int → Option α := fun x21 x22 x23 x24 x25 x26 x27 x28 x29 => v α x21 x25 x26 x27 (fun (y1 : Int) (y2 : Int) => u21_0_1 (K .ret) y1 y2) (fun (y1 : Int) (y2 : Bool) => u21_0_4 (K (.exit 0)) x21 y1 y2 x23 x24 x25 x26 x27 x28 x29) x22
theorem r21_0_1g (vf66_0 : Tf66_0) (vf67_0 : Tf67_0) (vf68_0 : Tf68_0) (vf69_0 : Tf69_0) (vf69_1 : Tf69_1)  (α : Type) (K : Exit → St → Option α) (Kn : St → Option α) (x21 x22 : Int) (x23 : ByteArray) (x24 : Int) (x25 x26 x27 : Rows) (x28 x29 : Int) : u21_0_3 (fun σ => runM Tryz.prog (E21_0g vf66_0 vf67_0 vf68_0 vf69_0 vf69_1) sh21 (c21_0_57g ) (thenK (fun σ => tidyK td21_57 σ Kn) K) σ) x21 x22 x23 x24 x25 x26 x27 x28 x29 = S21_0_1g vf68_0 vf69_0 vf69_1 α x21 x25 x26 x27 x22 (fun x22 => u21_0_3 Kn x21 x22 x23 x24 x25 x26 x27 x28 x29) (fun (y1 : Int) (y2 : Int) => u21_0_1 (K .ret) y1 y2) (fun (y1 : Int) (y2 : Bool) => u21_0_4 (K (.exit 0)) x21 y1 y2 x23 x24 x25 x26 x27 x28 x29) := by kernel_rfl
theorem r21_0_1 (α : Type) (K : Exit → St → Option α) (Kn : St → Option α) (x21 x22 : Int) (x23 : ByteArray) (x24 : Int) (x25 x26 x27 : Rows) (x28 x29 : Int) : u21_0_3 (fun σ => runM Tryz.prog E21_0 sh21 c21_0_57 (thenK (fun σ => tidyK td21_57 σ Kn) K) σ) x21 x22 x23 x24 x25 x26 x27 x28 x29 = S21_0_1 α x21 x25 x26 x27 x22 (fun x22 => u21_0_3 Kn x21 x22 x23 x24 x25 x26 x27 x28 x29) (fun (y1 : Int) (y2 : Int) => u21_0_1 (K .ret) y1 y2) (fun (y1 : Int) (y2 : Bool) => u21_0_4 (K (.exit 0)) x21 y1 y2 x23 x24 x25 x26 x27 x28 x29) := r21_0_1g f66_0 f67_0 f68_0 f69_0 f69_1 α K Kn x21 x22 x23 x24 x25 x26 x27 x28 x29
theorem t21_0_1 (α : Type) (K : Exit → St → Option α) : ∀ (n : Nat) (x21 x22 : Int) (x23 : ByteArray) (x24 : Int) (x25 x26 x27 : Rows) (x28 x29 : Int), R21_0_1 α x21 x25 x26 x27 (fun (y1 : Int) (y2 : Int) => u21_0_1 (K .ret) y1 y2) (fun (y1 : Int) (y2 : Bool) => u21_0_4 (K (.exit 0)) x21 y1 y2 x23 x24 x25 x26 x27 x28 x29) n x22 = u21_0_3 (loopT (runM Tryz.prog E21_0 sh21 c21_0_57) td21_57 K n) x21 x22 x23 x24 x25 x26 x27 x28 x29 := by
 intro n
 induction n with
 | zero => intros; rfl
 | succ n ih => intro x21 x22 x23 x24 x25 x26 x27 x28 x29; exact (congrArg (fun kn => S21_0_1 α x21 x25 x26 x27 x22 kn (fun (y1 : Int) (y2 : Int) => u21_0_1 (K .ret) y1 y2) (fun (y1 : Int) (y2 : Bool) => u21_0_4 (K (.exit 0)) x21 y1 y2 x23 x24 x25 x26 x27 x28 x29)) (funext fun x22 => ih x21 x22 x23 x24 x25 x26 x27 x28 x29)).trans (r21_0_1 α K (loopT (runM Tryz.prog E21_0 sh21 c21_0_57) td21_57 K n) x21 x22 x23 x24 x25 x26 x27 x28 x29).symm
theorem m21_0_1 : ∀ (α : Type) (K : Exit → St → Option α), F21_0_1 L21_0_1 α K = p21_0_3.unc fun σ => loopT (runM Tryz.prog E21_0 sh21 c21_0_57) td21_57 K fuel σ := fun α K => funext fun x21 => funext fun x22 => funext fun x23 => funext fun x24 => funext fun x25 => funext fun x26 => funext fun x27 => funext fun x28 => funext fun x29 => t21_0_1 α K fuel x21 x22 x23 x24 x25 x26 x27 x28 x29
noncomputable def c21_0_9g  : MCode := (.seq (.region r21_11 [] (tO [1, 17])) (.cond (.tmp 17) (.seq (.region r21_14 [] (tO [2, 3])) .ret) .skip))
noncomputable def c21_0_9 : MCode := c21_0_9g 
theorem g21_0_9 : c21_0_9.Good Tryz.prog E21_0 sh21 := ⟨trivial, ⟨⟨trivial, trivial⟩, trivial⟩⟩
--CODE 9 0
abbrev TJ21_0_0 : Type 1 := (α : Type) → Int → (Option α) → (Bool → Option α) → Option α
def J21_0_0g  (α : Type) (x11 : Int) (k1 : Option α) (k2 : Bool → Option α) : Option α :=
 cK (x11 != 1)
 (cK (x11 != 2)
 (k1)
 (k2 (x11 != 2)))
 (k2 false)
noncomputable def J21_0_0 (α : Type) (x11 : Int) (k1 : Option α) (k2 : Bool → Option α) : Option α := J21_0_0g  α x11 k1 k2
def F21_0_0 (v : TJ21_0_0) (α : Type) (K : Exit → St → Option α) : Bool → ByteArray → Int → Rows → Rows → Rows → Int → Int → Option α := fun x9 x10 x11 x12 x13 x14 x15 x16 => v α x11 (u21_0_1 (K .ret) 0 11) (fun (y1 : Bool) => u21_0_2 (K .normal) y1 x10 x11 x12 x13 x14 x15 x16) 
theorem m21_0_0g (vf66_0 : Tf66_0) (vf67_0 : Tf67_0) (vf68_0 : Tf68_0) (vf69_0 : Tf69_0) (vf69_1 : Tf69_1)  (α : Type) (K : Exit → St → Option α) : F21_0_0 (J21_0_0g ) α K = p21_0_0.unc fun σ => runM Tryz.prog (E21_0g vf66_0 vf67_0 vf68_0 vf69_0 vf69_1) sh21 (c21_0_9g ) K σ := by kernel_rfl
theorem m21_0_0 : ∀ (α : Type) (K : Exit → St → Option α), F21_0_0 J21_0_0 α K = p21_0_0.unc fun σ => runM Tryz.prog E21_0 sh21 c21_0_9 K σ := m21_0_0g f66_0 f67_0 f68_0 f69_0 f69_1
abbrev Tf21_0 : Type 1 := (α : Type) → ByteArray → Int → Rows → Rows → Rows → Int → Int → (Int → Int → Option α) → Option α
def f21_0g (vJ21_0_0 : TJ21_0_0) (vL21_0_1 : TL21_0_1) (vf66_0 : Tf66_0) (vf67_0 : Tf67_0) (α : Type) (x1 : ByteArray) (x2 : Int) (x3 x4 x5 : Rows) (x6 x7 : Int) (k1 : Int → Int → Option α) : Option α :=
 vf66_0 α x1
 (fun x8 => cK (!x8)
 (k1 0 3)
 (vJ21_0_0 α x2
 (k1 0 11)
 (fun x18 => cK (x2 == 2)
 (cK (decide (0 < ((List.length x3 : Nat) : Int)))
 (k1 0 13)
 (cK (decide (0 < ((List.length x4 : Nat) : Int)))
 (k1 0 13)
 (cK (decide (0 < ((List.length x5 : Nat) : Int)))
 (k1 0 13)
 (vf67_0 α x6 x7
 (fun x20 => cK (!x20)
 (k1 0 2)
 (k1 0 0))))))
 (cK (!((x6 == 0) && ((x7 == 0) && true)))
 (k1 0 13)
 (cK (((List.length x3 : Nat) : Int) == 0)
 (k1 0 12)
 (cK (((List.length x4 : Nat) : Int) != ((List.length x3 : Nat) : Int))
 (k1 0 12)
 (cK (((List.length x5 : Nat) : Int) != ((List.length x3 : Nat) : Int))
 (k1 0 12)
 (cK (decide (64 < ((List.length x3 : Nat) : Int)))
 (k1 0 8)
 (vL21_0_1 α ((List.length x3 : Nat) : Int) x3 x4 x5
 (fun x45 x46 => k1 x45 x46)
 (fun x47 x48 => k1 0 0) 0)))))))))
noncomputable def f21_0 (α : Type) (x1 : ByteArray) (x2 : Int) (x3 x4 x5 : Rows) (x6 x7 : Int) (k1 : Int → Int → Option α) : Option α := f21_0g J21_0_0 L21_0_1 f66_0 f67_0 α x1 x2 x3 x4 x5 x6 x7 k1
def pa21_0 : PT (List DV) := pA [pV true [dS, (dI .i64), dL, dL, dL, (dI .i64), (dI .i64)]]
def Fn21_0 (v : Tf21_0) (α : Type) (k : List RV → Option α) : ByteArray → Int → Rows → Rows → Rows → Int → Int → Option α := fun x1 x2 x3 x4 x5 x6 x7 => v α x1 x2 x3 x4 x5 x6 x7 (fun (y1 : Int) (y2 : Int) => ur21_0_0 k y1 y2)
noncomputable def cm21_0g (vJ21_0_0 : TJ21_0_0) (vL21_0_1 : TL21_0_1) : MCode := (.seq (.region r21_2 [] (tO [1])) (.seq (.seq (.region r21_5 [] (tO [1, 9])) (.cond (.tmp 9) (.seq (.region r21_8 [] (tO [2, 3])) .ret) .skip)) (.seq (.mark [⟨p21_0_0, F21_0_0 vJ21_0_0⟩] c21_0_9) (.seq (.region r21_16 [] (tO [1, 4])) (.seq (.seq (.region r21_19 [] (tO [1, 4, 23])) (.cond (.tmp 23) (.seq (.seq (.region r21_23 [] (tO [1, 37])) (.cond (.tmp 37) (.seq (.region r21_26 [] (tO [2, 3])) .ret) .skip)) (.seq (.seq (.region r21_29 [] (tO [45])) (.cond (.tmp 45) (.seq (.region r21_32 [] (tO [2, 3])) .ret) .skip)) (.seq (.region r21_34 [] (tO [2, 3])) .ret))) .skip)) (.seq (.seq (.region r21_37 [] (tO [1, 4, 49])) (.cond (.tmp 49) (.seq (.region r21_40 [] (tO [2, 3])) .ret) .skip)) (.seq (.seq (.region r21_43 [] (tO [1, 4, 65])) (.cond (.tmp 65) (.seq (.region r21_46 [] (tO [2, 3])) .ret) .skip)) (.seq (.seq (.region r21_49 [] (tO [1, 4, 67])) (.cond (.tmp 67) (.seq (.region r21_52 [] (tO [2, 3])) .ret) .skip)) (.seq (.seq (.region r21_55 [] (tO [1, 4, 5])) (.block 0 (.loop td21_57 [⟨p21_0_3, F21_0_1 vL21_0_1⟩] c21_0_57))) (.seq (.region r21_89 [] (tO [2, 3])) .ret))))))))))
noncomputable def cm21_0 : MCode := cm21_0g J21_0_0 L21_0_1
theorem gm21_0 : cm21_0.Good Tryz.prog E21_0 sh21 := ⟨trivial, ⟨⟨trivial, ⟨⟨trivial, trivial⟩, trivial⟩⟩, ⟨⟨g21_0_9, m21_0_0, trivial⟩, ⟨trivial, ⟨⟨trivial, ⟨⟨⟨trivial, ⟨⟨trivial, trivial⟩, trivial⟩⟩, ⟨⟨trivial, ⟨⟨trivial, trivial⟩, trivial⟩⟩, ⟨trivial, trivial⟩⟩⟩, trivial⟩⟩, ⟨⟨trivial, ⟨⟨trivial, trivial⟩, trivial⟩⟩, ⟨⟨trivial, ⟨⟨trivial, trivial⟩, trivial⟩⟩, ⟨⟨trivial, ⟨⟨trivial, trivial⟩, trivial⟩⟩, ⟨⟨trivial, ⟨g21_0_57, m21_0_1, trivial⟩⟩, ⟨trivial, trivial⟩⟩⟩⟩⟩⟩⟩⟩⟩⟩
theorem fm21_0g (vf66_0 : Tf66_0) (vf67_0 : Tf67_0) (vf68_0 : Tf68_0) (vf69_0 : Tf69_0) (vf69_1 : Tf69_1) (vJ21_0_0 : TJ21_0_0) (vL21_0_1 : TL21_0_1) (α : Type) (k : List RV → Option α) : Fn21_0 (f21_0g vJ21_0_0 vL21_0_1 vf66_0 vf67_0) α k = pa21_0.unc fun ds => fnM Tryz.prog (E21_0g vf66_0 vf67_0 vf68_0 vf69_0 vf69_1) sh21 (cm21_0g vJ21_0_0 vL21_0_1) rs21 k ds := by kernel_rfl
theorem fm21_0 : ∀ (α : Type) (k : List RV → Option α), Fn21_0 f21_0 α k = pa21_0.unc fun ds => fnM Tryz.prog E21_0 sh21 cm21_0 rs21 k ds := fm21_0g f66_0 f67_0 f68_0 f69_0 f69_1 J21_0_0 L21_0_1
theorem is21 : FnIs Tryz.prog 21 nt21 tr21 tl21 cm21_0.erase rs21 := ⟨Tryz.f21, Tryz.func21, rfl, by kernel_rfl, by kernel_rfl, by kernel_rfl⟩
theorem io21_0 : InstOk Tryz.prog 21 nt21 ⟨pa21_0, Fn21_0 f21_0⟩ := inst_ok eo21_0 followsTry is21 ⟨⟨sh21, cm21_0, by kernel_rfl, gm21_0, fm21_0⟩⟩
abbrev nt168 : Nat := 23
def sh168 : List (Nat × List Sh) := []
def r168_2 : List AOper := [oO 2 (.mv (kI 0)), oO 3 (.mv (.const (.bool false)))]
def r168_4 : List AOper := [oM 5 0, oO 6 (.pure (oB (.convert 125 117 (.tmp 5)) 117)), oM 4 6]
def r168_7 : List AOper := [oM 7 4, oO 8 (.call 174 [(.tmp 7)]), oM 9 8, oG 10 (.mv (.tmp 4)) 9 false, oG 11 (.call 151 [(.tmp 10), (kI 0)]) 9 false, oO 12 (.pick (.tmp 9) (.const (.bool true)) (.tmp 11)), oM 13 12, oG 14 (.mv (.tmp 4)) 13 false, oG 15 (.call 150 [(.tmp 14)]) 13 false, oG 16 (.mv (.tmp 4)) 13 false, oG 17 (.bin .neq 117 (.tmp 15) (.tmp 16)) 13 false, oO 18 (.pick (.tmp 13) (.const (.bool true)) (.tmp 17))]
def r168_10 : List AOper := [oO 2 (.mv (kI 0)), oO 3 (.mv (.const (.bool false)))]
def r168_12 : List AOper := [oM 19 4, oO 20 (.pure (oB (.call { callee := .builtin .min, args := #[(.const (.float Go.FloatKind.f64 4741671816366391296)), (.tmp 19)], argTypes := #[117, 117] }) 117)), oO 21 (.pure (oB (.call { callee := .builtin .max, args := #[(.const (.float Go.FloatKind.f64 13965043853221167104)), (.tmp 20)], argTypes := #[117, 117] }) 117)), oO 22 (.pure (oB (.convert 117 3 (.tmp 21)) 3)), oM 2 22, oO 3 (.mv (.const (.bool true)))]
def tr168 : List (Nat × Tidy) := [tT 0 [0], tT 1 [4], tT 2 [4, 18], tT 3 [2, 3], tT 4 [2, 3]]
def tl168 : List (Nat × Tidy) := []
def rs168 : List AResV := [.tmp 2, .tmp 3]
def p168_0_0 : PT St := pS [sl 0 (aV false [(cD (dF .f32))])] []
def u168_0_0 {β : Type} (g : St → β) : Nat → β := p168_0_0.unc g
def p168_0_1 : PT St := pS [sl 4 (aV false [(cD (dNan .f64))])] []
def u168_0_1 {β : Type} (g : St → β) : β := p168_0_1.unc g
def p168_0_2 : PT St := pS [sl 4 (aV false [(cD (dF .f64))])] []
def u168_0_2 {β : Type} (g : St → β) : Nat → β := p168_0_2.unc g
def pr168_0_0 : PT (List RV) := pRs [pR false [rD (dI .i64)], pR false [rD dB]]
def ur168_0_0 {β : Type} (g : List RV → β) : Int → Bool → β := pr168_0_0.unc g
def E168_0g (vf174_0 : Tf174_0) (vf174_1 : Tf174_1) (vf151_0 : Tf151_0) (vf150_0 : Tf150_0) : EnvK := EnvK.of [⟨174, nt174, [⟨pa174_0, Fn174_0 vf174_0⟩, ⟨pa174_1, Fn174_1 vf174_1⟩]⟩, ⟨151, nt151, [⟨pa151_0, Fn151_0 vf151_0⟩]⟩, ⟨150, nt150, [⟨pa150_0, Fn150_0 vf150_0⟩]⟩] noSeq
noncomputable def E168_0 : EnvK := E168_0g f174_0 f174_1 f151_0 f150_0
theorem eo168_0 : E168_0.Ok Tryz.prog := EnvK.of_ok noSeq_ok ⟨⟨io174_0, io174_1, trivial⟩, ⟨io151_0, trivial⟩, ⟨io150_0, trivial⟩, trivial⟩
noncomputable def c168_0_3g  : MCode := (.region r168_4 [] (tO [4]))
noncomputable def c168_0_3 : MCode := c168_0_3g 
theorem g168_0_3 : c168_0_3.Good Tryz.prog E168_0 sh168 := trivial
--CODE 3 0
abbrev TJ168_0_0 : Type 1 := (α : Type) → Nat → (Option α) → (Nat → Option α) → Option α
def J168_0_0g  (α : Type) (x2 : Nat) (k1 : Option α) (k2 : Nat → Option α) : Option α :=
 cK (isNaNb .f32 x2)
 (k1)
 (flK (f2f .f32 x2 .f64)
 (fun x4 => k2 x4))
noncomputable def J168_0_0 (α : Type) (x2 : Nat) (k1 : Option α) (k2 : Nat → Option α) : Option α := J168_0_0g  α x2 k1 k2
def F168_0_0 (v : TJ168_0_0) (α : Type) (K : Exit → St → Option α) : Nat → Option α := fun x2 => v α x2 (u168_0_1 (K .normal) ) (fun (y1 : Nat) => u168_0_2 (K .normal) y1) 
theorem m168_0_0g (vf174_0 : Tf174_0) (vf174_1 : Tf174_1) (vf151_0 : Tf151_0) (vf150_0 : Tf150_0)  (α : Type) (K : Exit → St → Option α) : F168_0_0 (J168_0_0g ) α K = p168_0_0.unc fun σ => runM Tryz.prog (E168_0g vf174_0 vf174_1 vf151_0 vf150_0) sh168 (c168_0_3g ) K σ := by kernel_rfl
theorem m168_0_0 : ∀ (α : Type) (K : Exit → St → Option α), F168_0_0 J168_0_0 α K = p168_0_0.unc fun σ => runM Tryz.prog E168_0 sh168 c168_0_3 K σ := m168_0_0g f174_0 f174_1 f151_0 f150_0
abbrev Tf168_0 : Type 1 := (α : Type) → Nat → (Int → Bool → Option α) → Option α
def f168_0g (vJ168_0_0 : TJ168_0_0) (vf150_0 : Tf150_0) (vf151_0 : Tf151_0) (vf174_0 : Tf174_0) (vf174_1 : Tf174_1) (α : Type) (x1 : Nat) (k1 : Int → Bool → Option α) : Option α :=
 vJ168_0_0 α x1
 (vf174_0 α 
 (k1 0 false))
 (fun x5 => vf174_1 α x5
 (fun x7 => cK x7
 (k1 0 false)
 (vf151_0 α x5 0
 (fun x8 => cK x8
 (k1 0 false)
 (vf150_0 α x5
 (k1 0 false)
 (fun x9 => cK ((FloatKind.format .f64).order x9 x5 != some Ordering.eq)
 (k1 0 false)
 (flK (mxNat false .f64 4741671816366391296 x5)
 (fun x10 => flK (mxNat true .f64 13965043853221167104 x10)
 (fun x11 => ivK (f2i .f64 x11 .i64)
 (fun x12 => k1 x12 true))))))))))
noncomputable def f168_0 (α : Type) (x1 : Nat) (k1 : Int → Bool → Option α) : Option α := f168_0g J168_0_0 f150_0 f151_0 f174_0 f174_1 α x1 k1
def pa168_0 : PT (List DV) := pA [pV false [(dF .f32)]]
def Fn168_0 (v : Tf168_0) (α : Type) (k : List RV → Option α) : Nat → Option α := fun x1 => v α x1 (fun (y1 : Int) (y2 : Bool) => ur168_0_0 k y1 y2)
noncomputable def cm168_0g (vJ168_0_0 : TJ168_0_0) : MCode := (.seq (.region r168_2 [] (tO [0])) (.seq (.mark [⟨p168_0_0, F168_0_0 vJ168_0_0⟩] c168_0_3) (.seq (.seq (.region r168_7 [] (tO [4, 18])) (.cond (.tmp 18) (.seq (.region r168_10 [] (tO [2, 3])) .ret) .skip)) (.seq (.region r168_12 [] (tO [2, 3])) .ret))))
noncomputable def cm168_0 : MCode := cm168_0g J168_0_0
theorem gm168_0 : cm168_0.Good Tryz.prog E168_0 sh168 := ⟨trivial, ⟨⟨g168_0_3, m168_0_0, trivial⟩, ⟨⟨trivial, ⟨⟨trivial, trivial⟩, trivial⟩⟩, ⟨trivial, trivial⟩⟩⟩⟩
theorem fm168_0g (vf174_0 : Tf174_0) (vf174_1 : Tf174_1) (vf151_0 : Tf151_0) (vf150_0 : Tf150_0) (vJ168_0_0 : TJ168_0_0) (α : Type) (k : List RV → Option α) : Fn168_0 (f168_0g vJ168_0_0 vf150_0 vf151_0 vf174_0 vf174_1) α k = pa168_0.unc fun ds => fnM Tryz.prog (E168_0g vf174_0 vf174_1 vf151_0 vf150_0) sh168 (cm168_0g vJ168_0_0) rs168 k ds := by kernel_rfl
theorem fm168_0 : ∀ (α : Type) (k : List RV → Option α), Fn168_0 f168_0 α k = pa168_0.unc fun ds => fnM Tryz.prog E168_0 sh168 cm168_0 rs168 k ds := fm168_0g f174_0 f174_1 f151_0 f150_0 J168_0_0
theorem is168 : FnIs Tryz.prog 168 nt168 tr168 tl168 cm168_0.erase rs168 := ⟨Tryz.f168, Tryz.func168, rfl, by kernel_rfl, by kernel_rfl, by kernel_rfl⟩
theorem io168_0 : InstOk Tryz.prog 168 nt168 ⟨pa168_0, Fn168_0 f168_0⟩ := inst_ok eo168_0 followsTry is168 ⟨⟨sh168, cm168_0, by kernel_rfl, gm168_0, fm168_0⟩⟩
abbrev nt29 : Nat := 45
def sh29 : List (Nat × List Sh) := [(13, [.str, .int .i64, .sl, .sl, .sl, .int .i64, .int .i64]), (16, [.int .i64]), (23, [.str, .int .i64, .sl, .sl, .sl, .int .i64, .int .i64]), (26, [.int .i64]), (31, [.int .i64]), (33, [.int .i64]), (37, [.int .i64]), (40, [.int .i64]), (42, [.int .i64])]
def r29_2 : List AOper := [oO 1 (.box (.tmp 0)), oO 2 (.alloc [(cI 0), (cI 0)]), oO 3 (.mv (kI 0))]
def r29_4 : List AOper := [oO 4 (.alloc [(cI 0), (cI 0), (cI 0)])]
def r29_6 : List AOper := [oO 8 (.build [(cI 0), (cI 0), (cI 0)] [(0, 1, (kI 5876)), (1, 1, (kI 4861)), (2, 1, (kI 6563))]), oO 5 (.alloc [(cI 0), (cI 0), (cI 0)]), oD (.store 3 (.tmp 5) (.tmp 8))]
def r29_9 : List AOper := [oO 6 (.mv (kI 0))]
def td29_11 : Option Tidy := (some ⟨[1, 2, 4, 5, 6], true, [⟨true, 1, 2, 30102, 1⟩, ⟨true, 1, 3, 30103, 1⟩, ⟨true, 1, 4, 30104, 1⟩], []⟩)
def r29_14 : List AOper := [oM 9 6, oO 10 (.bin .lss 3 (.tmp 9) (kI 3))]
def r29_20 : List AOper := [oO 13 (.load true 7 (.tmp 1)), oM 14 6, oO 15 (.iaddr 1 (some 3) (.tmp 5) (.tmp 14)), oO 16 (.load false 1 (.tmp 15)), oO 17 (.call 22 [(.tmp 13), (.tmp 16)]), oM 7 17]
def r29_22 : List AOper := [oM 18 7, oO 19 (.bin .neq 3 (.tmp 18) (kI 0))]
def r29_25 : List AOper := [oO 20 (.build [(cI 0), (cI 0)] []), oM 21 7, oD (.store 2 (.tmp 2) (.tmp 20)), oM 3 21]
def r29_26 : List AOper := [oM 22 6, oO 23 (.load true 7 (.tmp 1)), oM 24 6, oO 25 (.iaddr 1 (some 3) (.tmp 5) (.tmp 24)), oO 26 (.load false 1 (.tmp 25)), oO 27 (.call 25 [(.tmp 23), (.tmp 26)]), oO 28 (.index false 2 1 (.tmp 27) (kI 0)), oO 29 (.iaddr 1 (some 3) (.tmp 4) (.tmp 22)), oD (.store 1 (.tmp 29) (.tmp 28))]
def r29_27 : List AOper := [oM 11 6, oO 12 (.bin .add 3 (.tmp 11) (kI 1)), oM 6 12]
def r29_30 : List AOper := [oO 30 (.iaddr 1 (some 3) (.tmp 4) (kI 1)), oO 31 (.load false 1 (.tmp 30)), oO 32 (.iaddr 1 (some 3) (.tmp 4) (kI 2)), oO 33 (.load false 1 (.tmp 32)), oO 34 (.bin .eql 3 (.tmp 31) (.tmp 33))]
def r29_33 : List AOper := [oO 35 (.build [(cI 0), (cI 0)] []), oD (.store 2 (.tmp 2) (.tmp 35)), oO 3 (.mv (kI 9))]
def r29_35 : List AOper := [oO 36 (.iaddr 1 (some 3) (.tmp 4) (kI 0)), oO 37 (.load false 1 (.tmp 36)), oO 38 (.bin .sub 3 (.tmp 37) (kI 10000)), oO 39 (.iaddr 1 (some 3) (.tmp 4) (kI 1)), oO 40 (.load false 1 (.tmp 39)), oO 41 (.iaddr 1 (some 3) (.tmp 4) (kI 2)), oO 42 (.load false 1 (.tmp 41)), oO 43 (.bin .sub 3 (.tmp 40) (.tmp 42)), oO 44 (.call 78 [(.tmp 38), (.tmp 43)]), oD (.store 2 (.tmp 2) (.tmp 44)), oO 3 (.mv (kI 0))]
def tr29 : List (Nat × Tidy) := [tT 0 [1, 2], tT 1 [1, 2, 4], tT 2 [1, 2, 4, 5], tT 3 [1, 2, 4, 5, 6], tT 4 [1, 2, 4, 5, 6, 10], tT 6 [1, 2, 4, 5, 6, 7], tT 7 [1, 2, 4, 5, 6, 7, 19], tT 8 [2, 3], tT 9 [1, 2, 4, 5, 6], tT 5 [1, 2, 4, 5, 6], tT 10 [2, 4, 34], tT 11 [2, 3], tT 12 [2, 3]]
def tl29 : List (Nat × Tidy) := [(4, ⟨[1, 2, 4, 5, 6], true, [⟨true, 1, 2, 30102, 1⟩, ⟨true, 1, 3, 30103, 1⟩, ⟨true, 1, 4, 30104, 1⟩], []⟩)]
def rs29 : List AResV := [.cell 2 true 2, .tmp 3]
def pr29_0_0 : PT (List RV) := pRs [pR true [rD (dI .i64), rD (dI .i64)], pR false [rD (dI .i64)]]
def ur29_0_0 {β : Type} (g : List RV → β) : Int → Int → Int → β := pr29_0_0.unc g
def E29_0g (vf22_0 : Tf22_0) (vf25_0 : Tf25_0) (vf78_0 : Tf78_0) : EnvK := EnvK.of [⟨22, nt22, [⟨pa22_0, Fn22_0 vf22_0⟩]⟩, ⟨25, nt25, [⟨pa25_0, Fn25_0 vf25_0⟩]⟩, ⟨78, nt78, [⟨pa78_0, Fn78_0 vf78_0⟩]⟩] noSeq
noncomputable def E29_0 : EnvK := E29_0g f22_0 f25_0 f78_0
theorem eo29_0 : E29_0.Ok Tryz.prog := EnvK.of_ok noSeq_ok ⟨⟨io22_0, trivial⟩, ⟨io25_0, trivial⟩, ⟨io78_0, trivial⟩, trivial⟩
abbrev Tf29_0 : Type 1 := (α : Type) → ByteArray → Int → Rows → Rows → Rows → Int → Int → (Int → Int → Int → Option α) → Option α
def f29_0g (vf22_0 : Tf22_0) (vf25_0 : Tf25_0) (vf78_0 : Tf78_0) (α : Type) (x1 : ByteArray) (x2 : Int) (x3 x4 x5 : Rows) (x6 x7 : Int) (k1 : Int → Int → Int → Option α) : Option α :=
 vf22_0 α x1 x2 x3 x4 x5 x6 x7 5876
 (fun x8 => cK (x8 != 0)
 (k1 0 0 x8)
 (vf25_0 α x1 x2 x3 x4 x5 x6 x7 5876
 (fun x9 x10 => vf22_0 α x1 x2 x3 x4 x5 x6 x7 4861
 (fun x11 => cK (x11 != 0)
 (k1 0 0 x11)
 (vf25_0 α x1 x2 x3 x4 x5 x6 x7 4861
 (fun x12 x13 => vf22_0 α x1 x2 x3 x4 x5 x6 x7 6563
 (fun x14 => cK (x14 != 0)
 (k1 0 0 x14)
 (vf25_0 α x1 x2 x3 x4 x5 x6 x7 6563
 (fun x15 x16 => cK (x12 == x15)
 (k1 0 0 9)
 (vf78_0 α (w64 (x9 - 10000)) (w64 (x12 - x15))
 (fun x17 x18 => k1 x17 x18 0)))))))))))
noncomputable def f29_0 (α : Type) (x1 : ByteArray) (x2 : Int) (x3 x4 x5 : Rows) (x6 x7 : Int) (k1 : Int → Int → Int → Option α) : Option α := f29_0g f22_0 f25_0 f78_0 α x1 x2 x3 x4 x5 x6 x7 k1
def pa29_0 : PT (List DV) := pA [pV true [dS, (dI .i64), dL, dL, dL, (dI .i64), (dI .i64)]]
def Fn29_0 (v : Tf29_0) (α : Type) (k : List RV → Option α) : ByteArray → Int → Rows → Rows → Rows → Int → Int → Option α := fun x1 x2 x3 x4 x5 x6 x7 => v α x1 x2 x3 x4 x5 x6 x7 (fun (y1 : Int) (y2 : Int) (y3 : Int) => ur29_0_0 k y1 y2 y3)
noncomputable def cm29_0g  : MCode := (.seq (.region r29_2 [] (tO [1, 2])) (.seq (.region r29_4 [] (tO [1, 2, 4])) (.seq (.region r29_6 [] (tO [1, 2, 4, 5])) (.seq (.seq (.region r29_9 [] (tO [1, 2, 4, 5, 6])) (.block 0 (.loopU 4 td29_11 (.seq (.seq (.region r29_14 [] (tO [1, 2, 4, 5, 6, 10])) (.cond (.tmp 10) .skip (.exit 0))) (.seq (.block 1 (.seq (.seq (.region r29_20 [] (tO [1, 2, 4, 5, 6, 7])) (.seq (.region r29_22 [] (tO [1, 2, 4, 5, 6, 7, 19])) (.cond (.tmp 19) (.seq (.region r29_25 [] (tO [2, 3])) .ret) .skip))) (.region r29_26 [] (tO [1, 2, 4, 5, 6])))) (.region r29_27 [] (tO [1, 2, 4, 5, 6]))))))) (.seq (.seq (.region r29_30 [] (tO [2, 4, 34])) (.cond (.tmp 34) (.seq (.region r29_33 [] (tO [2, 3])) .ret) .skip)) (.seq (.region r29_35 [] (tO [2, 3])) .ret))))))
noncomputable def cm29_0 : MCode := cm29_0g 
theorem gm29_0 : cm29_0.Good Tryz.prog E29_0 sh29 := ⟨trivial, ⟨trivial, ⟨trivial, ⟨⟨trivial, ⟨⟨⟨trivial, ⟨trivial, trivial⟩⟩, ⟨⟨⟨trivial, ⟨trivial, ⟨⟨trivial, trivial⟩, trivial⟩⟩⟩, trivial⟩, trivial⟩⟩, by decide⟩⟩, ⟨⟨trivial, ⟨⟨trivial, trivial⟩, trivial⟩⟩, ⟨trivial, trivial⟩⟩⟩⟩⟩⟩
theorem fm29_0g (vf22_0 : Tf22_0) (vf25_0 : Tf25_0) (vf78_0 : Tf78_0)  (α : Type) (k : List RV → Option α) : Fn29_0 (f29_0g vf22_0 vf25_0 vf78_0) α k = pa29_0.unc fun ds => fnM Tryz.prog (E29_0g vf22_0 vf25_0 vf78_0) sh29 (cm29_0g ) rs29 k ds := by kernel_rfl
theorem fm29_0 : ∀ (α : Type) (k : List RV → Option α), Fn29_0 f29_0 α k = pa29_0.unc fun ds => fnM Tryz.prog E29_0 sh29 cm29_0 rs29 k ds := fm29_0g f22_0 f25_0 f78_0
theorem is29 : FnIs Tryz.prog 29 nt29 tr29 tl29 cm29_0.erase rs29 := ⟨Tryz.f29, Tryz.func29, rfl, by kernel_rfl, by kernel_rfl, by kernel_rfl⟩
theorem io29_0 : InstOk Tryz.prog 29 nt29 ⟨pa29_0, Fn29_0 f29_0⟩ := inst_ok eo29_0 followsTry is29 ⟨⟨sh29, cm29_0, by kernel_rfl, gm29_0, fm29_0⟩⟩
abbrev nt159 : Nat := 40
def sh159 : List (Nat × List Sh) := []
def r159_2 : List AOper := [oO 6 (.mv (kI 0))]
def r159_5 : List AOper := [oM 11 0, oO 12 (.call 80 [(.tmp 11)]), oO 13 (.pure (oB (.unOp .not 4 (.tmp 12)) 4))]
def r159_8 : List AOper := [oO 6 (.mv (kI 2))]
def r159_10 : List AOper := [oM 15 1, oO 16 (.call 168 [(.tmp 15)]), oM 14 16, oO 17 (.extract 0 (.tmp 14)), oO 18 (.extract 1 (.tmp 14)), oM 7 17, oM 8 18]
def r159_12 : List AOper := [oM 20 2, oO 21 (.call 168 [(.tmp 20)]), oM 19 21, oO 22 (.extract 0 (.tmp 19)), oO 23 (.extract 1 (.tmp 19)), oM 9 22, oM 10 23]
def r159_16 : List AOper := [oM 25 8, oO 26 (.pure (oB (.unOp .not 4 (.tmp 25)) 4)), oM 27 26, oG 28 (.mv (.tmp 10)) 27 false, oG 29 (.pure (oB (.unOp .not 4 (.tmp 28)) 4)) 27 false, oO 30 (.pick (.tmp 27) (.const (.bool true)) (.tmp 29)), oM 24 30]
def r159_19 : List AOper := [oO 6 (.mv (kI 27))]
def r159_21 : List AOper := [oM 32 7, oO 33 (.call 132 [(.tmp 32)]), oO 34 (.pure (oB (.unOp .not 4 (.tmp 33)) 4)), oM 35 34, oG 36 (.mv (.tmp 9)) 35 false, oG 37 (.call 169 [(.tmp 36)]) 35 false, oG 38 (.pure (oB (.unOp .not 4 (.tmp 37)) 4)) 35 false, oO 39 (.pick (.tmp 35) (.const (.bool true)) (.tmp 38)), oM 31 39]
def r159_24 : List AOper := [oO 6 (.mv (kI 2))]
def r159_26 : List AOper := [oO 6 (.mv (kI 0))]
def tr159 : List (Nat × Tidy) := [tT 0 [0, 1, 2], tT 1 [1, 2, 13], tT 2 [6], tT 3 [2, 7, 8], tT 4 [7, 8, 9, 10], tT 5 [7, 9, 24], tT 6 [6], tT 7 [31], tT 8 [6], tT 9 [6]]
def tl159 : List (Nat × Tidy) := []
def rs159 : List AResV := [.tmp 6]
def p159_0_0 : PT St := pS [sl 7 (aV false [(cD (dI .i64))]), sl 8 (aV false [(cD dB)]), sl 9 (aV false [(cD (dI .i64))]), sl 10 (aV false [(cD dB)])] []
def u159_0_0 {β : Type} (g : St → β) : Int → Bool → Int → Bool → β := p159_0_0.unc g
def p159_0_1 : PT St := pS [sl 7 (aV false [(cD (dI .i64))]), sl 9 (aV false [(cD (dI .i64))]), sl 24 (aV false [(cD dB)])] []
def u159_0_1 {β : Type} (g : St → β) : Int → Int → Bool → β := p159_0_1.unc g
def pr159_0_0 : PT (List RV) := pRs [pR false [rD (dI .i64)]]
def ur159_0_0 {β : Type} (g : List RV → β) : Int → β := pr159_0_0.unc g
def E159_0g (vf80_0 : Tf80_0) (vf168_0 : Tf168_0) (vf132_0 : Tf132_0) (vf169_0 : Tf169_0) : EnvK := EnvK.of [⟨80, nt80, [⟨pa80_0, Fn80_0 vf80_0⟩]⟩, ⟨168, nt168, [⟨pa168_0, Fn168_0 vf168_0⟩]⟩, ⟨132, nt132, [⟨pa132_0, Fn132_0 vf132_0⟩]⟩, ⟨169, nt169, [⟨pa169_0, Fn169_0 vf169_0⟩]⟩] noSeq
noncomputable def E159_0 : EnvK := E159_0g f80_0 f168_0 f132_0 f169_0
theorem eo159_0 : E159_0.Ok Tryz.prog := EnvK.of_ok noSeq_ok ⟨⟨io80_0, trivial⟩, ⟨io168_0, trivial⟩, ⟨io132_0, trivial⟩, ⟨io169_0, trivial⟩, trivial⟩
noncomputable def c159_0_15g  : MCode := (.region r159_16 [] (tO [7, 9, 24]))
noncomputable def c159_0_15 : MCode := c159_0_15g 
theorem g159_0_15 : c159_0_15.Good Tryz.prog E159_0 sh159 := trivial
--CODE 15 0
abbrev TJ159_0_0 : Type 1 := (α : Type) → Bool → Bool → (Bool → Option α) → Option α
def J159_0_0g  (α : Type) (x10 x12 : Bool) (k1 : Bool → Option α) : Option α :=
 cK (!x10)
 (k1 true)
 (k1 (!x12))
noncomputable def J159_0_0 (α : Type) (x10 x12 : Bool) (k1 : Bool → Option α) : Option α := J159_0_0g  α x10 x12 k1
def F159_0_0 (v : TJ159_0_0) (α : Type) (K : Exit → St → Option α) : Int → Bool → Int → Bool → Option α := fun x9 x10 x11 x12 => v α x10 x12 (fun (y1 : Bool) => u159_0_1 (K .normal) x9 x11 y1) 
theorem m159_0_0g (vf80_0 : Tf80_0) (vf168_0 : Tf168_0) (vf132_0 : Tf132_0) (vf169_0 : Tf169_0)  (α : Type) (K : Exit → St → Option α) : F159_0_0 (J159_0_0g ) α K = p159_0_0.unc fun σ => runM Tryz.prog (E159_0g vf80_0 vf168_0 vf132_0 vf169_0) sh159 (c159_0_15g ) K σ := by kernel_rfl
theorem m159_0_0 : ∀ (α : Type) (K : Exit → St → Option α), F159_0_0 J159_0_0 α K = p159_0_0.unc fun σ => runM Tryz.prog E159_0 sh159 c159_0_15 K σ := m159_0_0g f80_0 f168_0 f132_0 f169_0
abbrev Tf159_0 : Type 1 := (α : Type) → Int → Nat → Nat → (Int → Option α) → Option α
def f159_0g (vJ159_0_0 : TJ159_0_0) (vf132_0 : Tf132_0) (vf168_0 : Tf168_0) (vf169_0 : Tf169_0) (vf80_0 : Tf80_0) (α : Type) (x1 : Int) (x2 x3 : Nat) (k1 : Int → Option α) : Option α :=
 vf80_0 α x1
 (fun x4 => cK (!x4)
 (k1 2)
 (vf168_0 α x2
 (fun x5 x6 => vf168_0 α x3
 (fun x7 x8 => vJ159_0_0 α x6 x8
 (fun x14 => cK x14
 (k1 27)
 (vf132_0 α x5
 (fun x16 => cK (!x16)
 (k1 2)
 (vf169_0 α x7
 (fun x17 => cK (!x17)
 (k1 2)
 (k1 0))))))))))
noncomputable def f159_0 (α : Type) (x1 : Int) (x2 x3 : Nat) (k1 : Int → Option α) : Option α := f159_0g J159_0_0 f132_0 f168_0 f169_0 f80_0 α x1 x2 x3 k1
def pa159_0 : PT (List DV) := pA [pV false [(dI .i64)], pV false [(dF .f32)], pV false [(dF .f32)]]
def Fn159_0 (v : Tf159_0) (α : Type) (k : List RV → Option α) : Int → Nat → Nat → Option α := fun x1 x2 x3 => v α x1 x2 x3 (fun (y1 : Int) => ur159_0_0 k y1)
noncomputable def cm159_0g (vJ159_0_0 : TJ159_0_0) : MCode := (.seq (.region r159_2 [] (tO [0, 1, 2])) (.seq (.seq (.region r159_5 [] (tO [1, 2, 13])) (.cond (.tmp 13) (.seq (.region r159_8 [] (tO [6])) .ret) .skip)) (.seq (.region r159_10 [] (tO [2, 7, 8])) (.seq (.region r159_12 [] (tO [7, 8, 9, 10])) (.seq (.block 0 (.seq (.mark [⟨p159_0_0, F159_0_0 vJ159_0_0⟩] c159_0_15) (.cond (.tmp 24) (.seq (.region r159_19 [] (tO [6])) .ret) (.seq (.region r159_21 [] (tO [31])) (.cond (.tmp 31) (.seq (.region r159_24 [] (tO [6])) .ret) .skip))))) (.seq (.region r159_26 [] (tO [6])) .ret))))))
noncomputable def cm159_0 : MCode := cm159_0g J159_0_0
theorem gm159_0 : cm159_0.Good Tryz.prog E159_0 sh159 := ⟨trivial, ⟨⟨trivial, ⟨⟨trivial, trivial⟩, trivial⟩⟩, ⟨trivial, ⟨trivial, ⟨⟨⟨g159_0_15, m159_0_0, trivial⟩, ⟨⟨trivial, trivial⟩, ⟨trivial, ⟨⟨trivial, trivial⟩, trivial⟩⟩⟩⟩, ⟨trivial, trivial⟩⟩⟩⟩⟩⟩
theorem fm159_0g (vf80_0 : Tf80_0) (vf168_0 : Tf168_0) (vf132_0 : Tf132_0) (vf169_0 : Tf169_0) (vJ159_0_0 : TJ159_0_0) (α : Type) (k : List RV → Option α) : Fn159_0 (f159_0g vJ159_0_0 vf132_0 vf168_0 vf169_0 vf80_0) α k = pa159_0.unc fun ds => fnM Tryz.prog (E159_0g vf80_0 vf168_0 vf132_0 vf169_0) sh159 (cm159_0g vJ159_0_0) rs159 k ds := by kernel_rfl
theorem fm159_0 : ∀ (α : Type) (k : List RV → Option α), Fn159_0 f159_0 α k = pa159_0.unc fun ds => fnM Tryz.prog E159_0 sh159 cm159_0 rs159 k ds := fm159_0g f80_0 f168_0 f132_0 f169_0 J159_0_0
theorem is159 : FnIs Tryz.prog 159 nt159 tr159 tl159 cm159_0.erase rs159 := ⟨Tryz.f159, Tryz.func159, rfl, by kernel_rfl, by kernel_rfl, by kernel_rfl⟩
theorem io159_0 : InstOk Tryz.prog 159 nt159 ⟨pa159_0, Fn159_0 f159_0⟩ := inst_ok eo159_0 followsTry is159 ⟨⟨sh159, cm159_0, by kernel_rfl, gm159_0, fm159_0⟩⟩
abbrev nt142 : Nat := 78
def sh142 : List (Nat × List Sh) := [(9, [.int .i64, .int .i64]), (14, [.sl]), (19, [.sl]), (22, [.sl]), (28, [.sl]), (31, [.sl]), (37, [.sl]), (41, [.sl]), (46, [.int .i64]), (47, [.int .i64]), (50, [.sl]), (52, [.flt .f32]), (53, [.flt .f32]), (55, [.sl]), (57, [.flt .f32]), (58, [.flt .f32]), (69, [.sl]), (72, [.int .i64]), (73, [.int .i64])]
def r142_2 : List AOper := [oO 1 (.box (.tmp 0)), oO 2 (.mv (kI 0)), oO 3 (.mv (kI 0))]
def r142_6 : List AOper := [oO 8 (.faddr 5 (.tmp 1)), oO 9 (.load true 2 (.tmp 8)), oO 10 (.build [(cI 0), (cI 0)] []), oO 11 (.bin .neq 36 (.tmp 9) (.tmp 10)), oM 7 11]
def r142_9 : List AOper := [oO 2 (.mv (kI 0)), oO 3 (.mv (kI 13))]
def r142_11 : List AOper := [oO 13 (.faddr 2 (.tmp 1)), oO 14 (.load false 1 (.tmp 13)), oO 15 (.len (.tmp 14)), oO 16 (.bin .eql 3 (.tmp 15) (kI 0)), oM 17 16, oG 18 (.faddr 3 (.tmp 1)) 17 false, oG 19 (.load false 1 (.tmp 18)) 17 false, oG 20 (.len (.tmp 19)) 17 false, oG 21 (.faddr 2 (.tmp 1)) 17 false, oG 22 (.load false 1 (.tmp 21)) 17 false, oG 23 (.len (.tmp 22)) 17 false, oG 24 (.bin .neq 3 (.tmp 20) (.tmp 23)) 17 false, oO 25 (.pick (.tmp 17) (.const (.bool true)) (.tmp 24)), oM 26 25, oG 27 (.faddr 4 (.tmp 1)) 26 false, oG 28 (.load false 1 (.tmp 27)) 26 false, oG 29 (.len (.tmp 28)) 26 false, oG 30 (.faddr 2 (.tmp 1)) 26 false, oG 31 (.load false 1 (.tmp 30)) 26 false, oG 32 (.len (.tmp 31)) 26 false, oG 33 (.bin .neq 3 (.tmp 29) (.tmp 32)) 26 false, oO 34 (.pick (.tmp 26) (.const (.bool true)) (.tmp 33)), oM 12 34]
def r142_14 : List AOper := [oO 2 (.mv (kI 0)), oO 3 (.mv (kI 12))]
def r142_16 : List AOper := [oO 36 (.faddr 2 (.tmp 1)), oO 37 (.load false 1 (.tmp 36)), oO 38 (.len (.tmp 37)), oO 39 (.bin .gtr 3 (.tmp 38) (kI 64)), oM 35 39]
def r142_19 : List AOper := [oO 2 (.mv (kI 0)), oO 3 (.mv (kI 8))]
def r142_22 : List AOper := [oO 40 (.faddr 2 (.tmp 1)), oO 41 (.load false 1 (.tmp 40)), oO 42 (.len (.tmp 41)), oO 43 (.mv (kI 0))]
def td142_24 : Option Tidy := (some ⟨[1, 41, 42, 43], true, [⟨false, 41, 0, 20041, 1⟩, ⟨true, 1, 2, 30102, 1⟩, ⟨true, 1, 3, 30103, 1⟩, ⟨true, 1, 4, 30104, 1⟩], []⟩)
def r142_26 : List AOper := [oO 44 (.bin .lss 3 (.tmp 43) (.tmp 42))]
def r142_32 : List AOper := [oM 45 43, oO 46 (.iaddr 1 none (.tmp 41) (.tmp 43)), oO 47 (.load false 1 (.tmp 46)), oM 4 45, oM 5 47]
def r142_35 : List AOper := [oM 48 5, oO 49 (.faddr 3 (.tmp 1)), oO 50 (.load false 1 (.tmp 49)), oM 51 4, oO 52 (.iaddr 1 none (.tmp 50) (.tmp 51)), oO 53 (.load false 1 (.tmp 52)), oO 54 (.faddr 4 (.tmp 1)), oO 55 (.load false 1 (.tmp 54)), oM 56 4, oO 57 (.iaddr 1 none (.tmp 55) (.tmp 56)), oO 58 (.load false 1 (.tmp 57)), oO 59 (.call 159 [(.tmp 48), (.tmp 53), (.tmp 58)]), oM 6 59]
def r142_37 : List AOper := [oM 60 6, oO 61 (.bin .neq 26 (.tmp 60) (kI 0))]
def r142_40 : List AOper := [oM 62 4, oM 63 6, oM 2 62, oM 3 63]
def r142_42 : List AOper := [oM 64 4, oO 65 (.bin .gtr 3 (.tmp 64) (kI 0)), oM 66 65, oG 67 (.mv (.tmp 5)) 66 true, oG 68 (.faddr 2 (.tmp 1)) 66 true, oG 69 (.load false 1 (.tmp 68)) 66 true, oG 70 (.mv (.tmp 4)) 66 true, oG 71 (.bin .sub 3 (.tmp 70) (kI 1)) 66 true, oG 72 (.iaddr 1 none (.tmp 69) (.tmp 71)) 66 true, oG 73 (.load false 1 (.tmp 72)) 66 true, oG 74 (.bin .leq 3 (.tmp 67) (.tmp 73)) 66 true, oO 75 (.pick (.tmp 66) (.tmp 74) (.const (.bool false)))]
def r142_45 : List AOper := [oM 76 4, oM 2 76, oO 3 (.mv (kI 10))]
def r142_46 : List AOper := [oO 77 (.bin .add 3 (.tmp 43) (kI 1)), oM 43 77]
def r142_48 : List AOper := [oO 2 (.mv (kI 0)), oO 3 (.mv (kI 0))]
def tr142 : List (Nat × Tidy) := [tT 0 [1], tT 1 [1, 7], tT 2 [2, 3], tT 3 [1, 12], tT 4 [2, 3], tT 5 [1, 35], tT 6 [2, 3], tT 7 [1, 41, 42, 43], tT 8 [1, 41, 42, 43, 44], tT 9 [1, 4, 5, 41, 42, 43], tT 10 [1, 4, 5, 6, 41, 42, 43], tT 11 [1, 4, 5, 6, 41, 42, 43, 61], tT 12 [2, 3], tT 13 [1, 4, 41, 42, 43, 75], tT 14 [2, 3], tT 15 [1, 41, 42, 43], tT 16 [2, 3]]
def tl142 : List (Nat × Tidy) := [(8, ⟨[1, 41, 42, 43], true, [⟨false, 41, 0, 20041, 1⟩, ⟨true, 1, 2, 30102, 1⟩, ⟨true, 1, 3, 30103, 1⟩, ⟨true, 1, 4, 30104, 1⟩], []⟩)]
def rs142 : List AResV := [.tmp 2, .tmp 3]
def p142_0_0 : PT St := pS [sl 1 (aV false [(cPtr 1 0)]), sl 7 (aV false [(cD dB)])] [eBox 1 [(cD dS), (cD (dI .i64)), (cD dL), (cD dL), (cD dL), (cD (dI .i64)), (cD (dI .i64))]]
def u142_0_0 {β : Type} (g : St → β) : Bool → ByteArray → Int → Rows → Rows → Rows → Int → Int → β := p142_0_0.unc g
def p142_0_1 : PT St := pS [sl 1 (aV false [(cPtr 1 0)]), sl 12 (aV false [(cD dB)])] [eBox 1 [(cD dS), (cD (dI .i64)), (cD dL), (cD dL), (cD dL), (cD (dI .i64)), (cD (dI .i64))]]
def u142_0_1 {β : Type} (g : St → β) : Bool → ByteArray → Int → Rows → Rows → Rows → Int → Int → β := p142_0_1.unc g
def p142_0_2 : PT St := pS [sl 1 (aV false [(cPtr 1 0)]), sl 41 (aV false [(cD dL)]), sl 42 (aV false [(cD (dI .i64))]), sl 43 (aV false [(cD (dI .i64))])] [eBox 1 [(cD dS), (cD (dI .i64)), (cD dL), (cD dL), (cD dL), (cD (dI .i64)), (cD (dI .i64))]]
def u142_0_2 {β : Type} (g : St → β) : Rows → Int → Int → ByteArray → Int → Rows → Rows → Rows → Int → Int → β := p142_0_2.unc g
def p142_0_3 : PT St := pS [sl 2 (aV false [(cD (dI .i64))]), sl 3 (aV false [(cD (dI .i64))])] []
def u142_0_3 {β : Type} (g : St → β) : Int → Int → β := p142_0_3.unc g
def p142_0_4 : PT St := pS [sl 1 (aV false [(cPtr 1 0)]), sl 41 (aV false [(cD dL)]), sl 42 (aV false [(cD (dI .i64))]), sl 43 (aV false [(cD (dI .i64))]), sl 44 (aV false [(cD dB)])] [eBox 1 [(cD dS), (cD (dI .i64)), (cD dL), (cD dL), (cD dL), (cD (dI .i64)), (cD (dI .i64))]]
def u142_0_4 {β : Type} (g : St → β) : Rows → Int → Int → Bool → ByteArray → Int → Rows → Rows → Rows → Int → Int → β := p142_0_4.unc g
def pr142_0_0 : PT (List RV) := pRs [pR false [rD (dI .i64)], pR false [rD (dI .i64)]]
def ur142_0_0 {β : Type} (g : List RV → β) : Int → Int → β := pr142_0_0.unc g
def E142_0g (vf159_0 : Tf159_0) : EnvK := EnvK.of [⟨159, nt159, [⟨pa159_0, Fn159_0 vf159_0⟩]⟩] noSeq
noncomputable def E142_0 : EnvK := E142_0g f159_0
theorem eo142_0 : E142_0.Ok Tryz.prog := EnvK.of_ok noSeq_ok ⟨⟨io159_0, trivial⟩, trivial⟩
noncomputable def c142_0_24g  : MCode := (.seq (.region r142_26 [] (tO [1, 41, 42, 43, 44])) (.seq (.cond (.tmp 44) .skip (.exit 1)) (.seq (.block 2 (.seq (.region r142_32 [] (tO [1, 4, 5, 41, 42, 43])) (.seq (.seq (.region r142_35 [] (tO [1, 4, 5, 6, 41, 42, 43])) (.seq (.region r142_37 [] (tO [1, 4, 5, 6, 41, 42, 43, 61])) (.cond (.tmp 61) (.seq (.region r142_40 [] (tO [2, 3])) .ret) .skip))) (.seq (.region r142_42 [] (tO [1, 4, 41, 42, 43, 75])) (.cond (.tmp 75) (.seq (.region r142_45 [] (tO [2, 3])) .ret) .skip))))) (.region r142_46 [] (tO [1, 41, 42, 43])))))
noncomputable def c142_0_24 : MCode := c142_0_24g 
theorem g142_0_24 : c142_0_24.Good Tryz.prog E142_0 sh142 := ⟨trivial, ⟨⟨trivial, trivial⟩, ⟨⟨trivial, ⟨⟨trivial, ⟨trivial, ⟨⟨trivial, trivial⟩, trivial⟩⟩⟩, ⟨trivial, ⟨⟨trivial, trivial⟩, trivial⟩⟩⟩⟩, trivial⟩⟩⟩
--CODE 24 0
def S142_0_1g (vf159_0 : Tf159_0) (α : Type) (x19 : Rows) (x20 : Int) (x24 x25 x26 : Rows) (x21 : Int) (kn : Int → Option α) (k1 : Int → Int → Option α) (k2 : Int → Bool → Option α) : Option α :=
 cK (decide (x21 < x20))
 (rowK x19 x21 [.int .i64]
 (fun x30 => rowK x25 x21 [.flt .f32]
 (fun x31 => rowK x26 x21 [.flt .f32]
 (fun x32 => vf159_0 α x30 x31 x32
 (fun x33 => cK (x33 != 0)
 (k1 x21 x33)
 (cK (decide (0 < x21))
 (rowK x24 (w64 (x21 - 1)) [.int .i64]
 (fun x34 => cK (decide (x30 ≤ x34))
 (k1 x21 10)
 (kn (w64 (x21 + 1)))))
 (kn (w64 (x21 + 1)))))))))
 (k2 x21 (decide (x21 < x20)))
noncomputable def S142_0_1 (α : Type) (x19 : Rows) (x20 : Int) (x24 x25 x26 : Rows) (x21 : Int) (kn : Int → Option α) (k1 : Int → Int → Option α) (k2 : Int → Bool → Option α) : Option α := S142_0_1g f159_0 α x19 x20 x24 x25 x26 x21 kn k1 k2
noncomputable def R142_0_1 (α : Type) (x19 : Rows) (x20 : Int) (x24 x25 x26 : Rows) (k1 : Int → Int → Option α) (k2 : Int → Bool → Option α) : Nat → Int → Option α
 | 0, _ => none
 | n + 1, x21 => S142_0_1 α x19 x20 x24 x25 x26 x21 (R142_0_1 α x19 x20 x24 x25 x26 k1 k2 n) k1 k2
noncomputable def L142_0_1 (α : Type) (x19 : Rows) (x20 : Int) (x24 x25 x26 : Rows) (k1 : Int → Int → Option α) (k2 : Int → Bool → Option α) (x21 : Int) : Option α := R142_0_1 α x19 x20 x24 x25 x26 k1 k2 fuel x21
abbrev TL142_0_1 : Type 1 := (α : Type) → Rows → Int → Rows → Rows → Rows → (Int → Int → Option α) → (Int → Bool → Option α) → Int → Option α
def F142_0_1 (v : TL142_0_1) (α : Type) (K : Exit → St → Option α) : Rows → Int → Int → ByteArray → Int → Rows → Rows → Rows → Int → Int → Option α := fun x19 x20 x21 x22 x23 x24 x25 x26 x27 x28 => v α x19 x20 x24 x25 x26 (fun (y1 : Int) (y2 : Int) => u142_0_3 (K .ret) y1 y2) (fun (y1 : Int) (y2 : Bool) => u142_0_4 (K (.exit 1)) x19 x20 y1 y2 x22 x23 x24 x25 x26 x27 x28) x21
theorem r142_0_1g (vf159_0 : Tf159_0)  (α : Type) (K : Exit → St → Option α) (Kn : St → Option α) (x19 : Rows) (x20 x21 : Int) (x22 : ByteArray) (x23 : Int) (x24 x25 x26 : Rows) (x27 x28 : Int) : u142_0_2 (fun σ => runM Tryz.prog (E142_0g vf159_0) sh142 (c142_0_24g ) (thenK (fun σ => tidyK td142_24 σ Kn) K) σ) x19 x20 x21 x22 x23 x24 x25 x26 x27 x28 = S142_0_1g vf159_0 α x19 x20 x24 x25 x26 x21 (fun x21 => u142_0_2 Kn x19 x20 x21 x22 x23 x24 x25 x26 x27 x28) (fun (y1 : Int) (y2 : Int) => u142_0_3 (K .ret) y1 y2) (fun (y1 : Int) (y2 : Bool) => u142_0_4 (K (.exit 1)) x19 x20 y1 y2 x22 x23 x24 x25 x26 x27 x28) := by kernel_rfl
theorem r142_0_1 (α : Type) (K : Exit → St → Option α) (Kn : St → Option α) (x19 : Rows) (x20 x21 : Int) (x22 : ByteArray) (x23 : Int) (x24 x25 x26 : Rows) (x27 x28 : Int) : u142_0_2 (fun σ => runM Tryz.prog E142_0 sh142 c142_0_24 (thenK (fun σ => tidyK td142_24 σ Kn) K) σ) x19 x20 x21 x22 x23 x24 x25 x26 x27 x28 = S142_0_1 α x19 x20 x24 x25 x26 x21 (fun x21 => u142_0_2 Kn x19 x20 x21 x22 x23 x24 x25 x26 x27 x28) (fun (y1 : Int) (y2 : Int) => u142_0_3 (K .ret) y1 y2) (fun (y1 : Int) (y2 : Bool) => u142_0_4 (K (.exit 1)) x19 x20 y1 y2 x22 x23 x24 x25 x26 x27 x28) := r142_0_1g f159_0 α K Kn x19 x20 x21 x22 x23 x24 x25 x26 x27 x28
theorem t142_0_1 (α : Type) (K : Exit → St → Option α) : ∀ (n : Nat) (x19 : Rows) (x20 x21 : Int) (x22 : ByteArray) (x23 : Int) (x24 x25 x26 : Rows) (x27 x28 : Int), R142_0_1 α x19 x20 x24 x25 x26 (fun (y1 : Int) (y2 : Int) => u142_0_3 (K .ret) y1 y2) (fun (y1 : Int) (y2 : Bool) => u142_0_4 (K (.exit 1)) x19 x20 y1 y2 x22 x23 x24 x25 x26 x27 x28) n x21 = u142_0_2 (loopT (runM Tryz.prog E142_0 sh142 c142_0_24) td142_24 K n) x19 x20 x21 x22 x23 x24 x25 x26 x27 x28 := by
 intro n
 induction n with
 | zero => intros; rfl
 | succ n ih => intro x19 x20 x21 x22 x23 x24 x25 x26 x27 x28; exact (congrArg (fun kn => S142_0_1 α x19 x20 x24 x25 x26 x21 kn (fun (y1 : Int) (y2 : Int) => u142_0_3 (K .ret) y1 y2) (fun (y1 : Int) (y2 : Bool) => u142_0_4 (K (.exit 1)) x19 x20 y1 y2 x22 x23 x24 x25 x26 x27 x28)) (funext fun x21 => ih x19 x20 x21 x22 x23 x24 x25 x26 x27 x28)).trans (r142_0_1 α K (loopT (runM Tryz.prog E142_0 sh142 c142_0_24) td142_24 K n) x19 x20 x21 x22 x23 x24 x25 x26 x27 x28).symm
theorem m142_0_1 : ∀ (α : Type) (K : Exit → St → Option α), F142_0_1 L142_0_1 α K = p142_0_2.unc fun σ => loopT (runM Tryz.prog E142_0 sh142 c142_0_24) td142_24 K fuel σ := fun α K => funext fun x19 => funext fun x20 => funext fun x21 => funext fun x22 => funext fun x23 => funext fun x24 => funext fun x25 => funext fun x26 => funext fun x27 => funext fun x28 => t142_0_1 α K fuel x19 x20 x21 x22 x23 x24 x25 x26 x27 x28
noncomputable def c142_0_10g  : MCode := (.region r142_11 [] (tO [1, 12]))
noncomputable def c142_0_10 : MCode := c142_0_10g 
theorem g142_0_10 : c142_0_10.Good Tryz.prog E142_0 sh142 := trivial
--CODE 10 0
abbrev TJ142_0_0 : Type 1 := (α : Type) → Rows → Rows → Rows → (Bool → Option α) → Option α
def J142_0_0g  (α : Type) (x11 x12 x13 : Rows) (k1 : Bool → Option α) : Option α :=
 cK (((List.length x11 : Nat) : Int) == 0)
 (k1 true)
 (cK (((List.length x12 : Nat) : Int) != ((List.length x11 : Nat) : Int))
 (k1 true)
 (k1 (((List.length x13 : Nat) : Int) != ((List.length x11 : Nat) : Int))))
noncomputable def J142_0_0 (α : Type) (x11 x12 x13 : Rows) (k1 : Bool → Option α) : Option α := J142_0_0g  α x11 x12 x13 k1
def F142_0_0 (v : TJ142_0_0) (α : Type) (K : Exit → St → Option α) : Bool → ByteArray → Int → Rows → Rows → Rows → Int → Int → Option α := fun x8 x9 x10 x11 x12 x13 x14 x15 => v α x11 x12 x13 (fun (y1 : Bool) => u142_0_1 (K .normal) y1 x9 x10 x11 x12 x13 x14 x15) 
theorem m142_0_0g (vf159_0 : Tf159_0)  (α : Type) (K : Exit → St → Option α) : F142_0_0 (J142_0_0g ) α K = p142_0_0.unc fun σ => runM Tryz.prog (E142_0g vf159_0) sh142 (c142_0_10g ) K σ := by kernel_rfl
theorem m142_0_0 : ∀ (α : Type) (K : Exit → St → Option α), F142_0_0 J142_0_0 α K = p142_0_0.unc fun σ => runM Tryz.prog E142_0 sh142 c142_0_10 K σ := m142_0_0g f159_0
abbrev Tf142_0 : Type 1 := (α : Type) → ByteArray → Int → Rows → Rows → Rows → Int → Int → (Int → Int → Option α) → Option α
def f142_0g (vJ142_0_0 : TJ142_0_0) (vL142_0_1 : TL142_0_1) (α : Type) (x1 : ByteArray) (x2 : Int) (x3 x4 x5 : Rows) (x6 x7 : Int) (k1 : Int → Int → Option α) : Option α :=
 cK (!((x6 == 0) && ((x7 == 0) && true)))
 (k1 0 13)
 (vJ142_0_0 α x3 x4 x5
 (fun x17 => cK x17
 (k1 0 12)
 (cK (decide (64 < ((List.length x3 : Nat) : Int)))
 (k1 0 8)
 (vL142_0_1 α x3 ((List.length x3 : Nat) : Int) x3 x4 x5
 (fun x35 x36 => k1 x35 x36)
 (fun x37 x38 => k1 0 0) 0))))
noncomputable def f142_0 (α : Type) (x1 : ByteArray) (x2 : Int) (x3 x4 x5 : Rows) (x6 x7 : Int) (k1 : Int → Int → Option α) : Option α := f142_0g J142_0_0 L142_0_1 α x1 x2 x3 x4 x5 x6 x7 k1
def pa142_0 : PT (List DV) := pA [pV true [dS, (dI .i64), dL, dL, dL, (dI .i64), (dI .i64)]]
def Fn142_0 (v : Tf142_0) (α : Type) (k : List RV → Option α) : ByteArray → Int → Rows → Rows → Rows → Int → Int → Option α := fun x1 x2 x3 x4 x5 x6 x7 => v α x1 x2 x3 x4 x5 x6 x7 (fun (y1 : Int) (y2 : Int) => ur142_0_0 k y1 y2)
noncomputable def cm142_0g (vJ142_0_0 : TJ142_0_0) (vL142_0_1 : TL142_0_1) : MCode := (.seq (.region r142_2 [] (tO [1])) (.seq (.block 0 (.seq (.region r142_6 [] (tO [1, 7])) (.cond (.tmp 7) (.seq (.region r142_9 [] (tO [2, 3])) .ret) (.seq (.mark [⟨p142_0_0, F142_0_0 vJ142_0_0⟩] c142_0_10) (.cond (.tmp 12) (.seq (.region r142_14 [] (tO [2, 3])) .ret) (.seq (.region r142_16 [] (tO [1, 35])) (.cond (.tmp 35) (.seq (.region r142_19 [] (tO [2, 3])) .ret) .skip))))))) (.seq (.seq (.region r142_22 [] (tO [1, 41, 42, 43])) (.block 1 (.loop td142_24 [⟨p142_0_2, F142_0_1 vL142_0_1⟩] c142_0_24))) (.seq (.region r142_48 [] (tO [2, 3])) .ret))))
noncomputable def cm142_0 : MCode := cm142_0g J142_0_0 L142_0_1
theorem gm142_0 : cm142_0.Good Tryz.prog E142_0 sh142 := ⟨trivial, ⟨⟨trivial, ⟨⟨trivial, trivial⟩, ⟨⟨g142_0_10, m142_0_0, trivial⟩, ⟨⟨trivial, trivial⟩, ⟨trivial, ⟨⟨trivial, trivial⟩, trivial⟩⟩⟩⟩⟩⟩, ⟨⟨trivial, ⟨g142_0_24, m142_0_1, trivial⟩⟩, ⟨trivial, trivial⟩⟩⟩⟩
theorem fm142_0g (vf159_0 : Tf159_0) (vJ142_0_0 : TJ142_0_0) (vL142_0_1 : TL142_0_1) (α : Type) (k : List RV → Option α) : Fn142_0 (f142_0g vJ142_0_0 vL142_0_1) α k = pa142_0.unc fun ds => fnM Tryz.prog (E142_0g vf159_0) sh142 (cm142_0g vJ142_0_0 vL142_0_1) rs142 k ds := by kernel_rfl
theorem fm142_0 : ∀ (α : Type) (k : List RV → Option α), Fn142_0 f142_0 α k = pa142_0.unc fun ds => fnM Tryz.prog E142_0 sh142 cm142_0 rs142 k ds := fm142_0g f159_0 J142_0_0 L142_0_1
theorem is142 : FnIs Tryz.prog 142 nt142 tr142 tl142 cm142_0.erase rs142 := ⟨Tryz.f142, Tryz.func142, rfl, by kernel_rfl, by kernel_rfl, by kernel_rfl⟩
theorem io142_0 : InstOk Tryz.prog 142 nt142 ⟨pa142_0, Fn142_0 f142_0⟩ := inst_ok eo142_0 followsTry is142 ⟨⟨sh142, cm142_0, by kernel_rfl, gm142_0, fm142_0⟩⟩
abbrev nt113 : Nat := 39
def sh113 : List (Nat × List Sh) := [(6, [.str]), (11, [.int .i64]), (13, [.str, .int .i64, .sl, .sl, .sl, .int .i64, .int .i64]), (19, [.int .i64]), (23, [.sl]), (26, [.sl]), (30, [.sl]), (36, [.int .i64, .int .i64])]
def r113_2 : List AOper := [oO 1 (.box (.tmp 0)), oO 2 (.mv (kI 0)), oO 3 (.mv (kI 0))]
def r113_6 : List AOper := [oO 5 (.faddr 0 (.tmp 1)), oO 6 (.load false 1 (.tmp 5)), oO 7 (.call 141 [(.tmp 6)]), oO 8 (.pure (oB (.unOp .not 4 (.tmp 7)) 4)), oM 4 8]
def r113_9 : List AOper := [oO 2 (.mv (kI 0)), oO 3 (.mv (kI 3))]
def r113_11 : List AOper := [oO 10 (.faddr 1 (.tmp 1)), oO 11 (.load false 1 (.tmp 10)), oO 12 (.bin .eql 3 (.tmp 11) (kI 1)), oM 9 12]
def r113_14 : List AOper := [oO 13 (.load true 7 (.tmp 1)), oO 14 (.call 142 [(.tmp 13)]), oO 15 (.extract 0 (.tmp 14)), oO 16 (.extract 1 (.tmp 14)), oM 2 15, oM 3 16]
def r113_16 : List AOper := [oO 18 (.faddr 1 (.tmp 1)), oO 19 (.load false 1 (.tmp 18)), oO 20 (.bin .neq 3 (.tmp 19) (kI 2)), oM 17 20]
def r113_19 : List AOper := [oO 2 (.mv (kI 0)), oO 3 (.mv (kI 11))]
def r113_21 : List AOper := [oO 22 (.faddr 2 (.tmp 1)), oO 23 (.load false 1 (.tmp 22)), oO 24 (.len (.tmp 23)), oO 25 (.faddr 3 (.tmp 1)), oO 26 (.load false 1 (.tmp 25)), oO 27 (.len (.tmp 26)), oO 28 (.bin .add 3 (.tmp 24) (.tmp 27)), oO 29 (.faddr 4 (.tmp 1)), oO 30 (.load false 1 (.tmp 29)), oO 31 (.len (.tmp 30)), oO 32 (.bin .add 3 (.tmp 28) (.tmp 31)), oO 33 (.bin .gtr 3 (.tmp 32) (kI 0)), oM 21 33]
def r113_24 : List AOper := [oO 2 (.mv (kI 0)), oO 3 (.mv (kI 13))]
def r113_26 : List AOper := [oO 35 (.faddr 5 (.tmp 1)), oO 36 (.load true 2 (.tmp 35)), oO 37 (.call 143 [(.tmp 36)]), oO 38 (.pure (oB (.unOp .not 4 (.tmp 37)) 4)), oM 34 38]
def r113_29 : List AOper := [oO 2 (.mv (kI 0)), oO 3 (.mv (kI 2))]
def r113_31 : List AOper := [oO 2 (.mv (kI 0)), oO 3 (.mv (kI 0))]
def tr113 : List (Nat × Tidy) := [tT 0 [1], tT 1 [1, 4], tT 2 [2, 3], tT 3 [1, 9], tT 4 [2, 3], tT 5 [1, 17], tT 6 [2, 3], tT 7 [1, 21], tT 8 [2, 3], tT 9 [34], tT 10 [2, 3], tT 11 [2, 3]]
def tl113 : List (Nat × Tidy) := []
def rs113 : List AResV := [.tmp 2, .tmp 3]
def pr113_0_0 : PT (List RV) := pRs [pR false [rD (dI .i64)], pR false [rD (dI .i64)]]
def ur113_0_0 {β : Type} (g : List RV → β) : Int → Int → β := pr113_0_0.unc g
def E113_0g (vf141_0 : Tf141_0) (vf142_0 : Tf142_0) (vf143_0 : Tf143_0) : EnvK := EnvK.of [⟨141, nt141, [⟨pa141_0, Fn141_0 vf141_0⟩]⟩, ⟨142, nt142, [⟨pa142_0, Fn142_0 vf142_0⟩]⟩, ⟨143, nt143, [⟨pa143_0, Fn143_0 vf143_0⟩]⟩] noSeq
noncomputable def E113_0 : EnvK := E113_0g f141_0 f142_0 f143_0
theorem eo113_0 : E113_0.Ok Tryz.prog := EnvK.of_ok noSeq_ok ⟨⟨io141_0, trivial⟩, ⟨io142_0, trivial⟩, ⟨io143_0, trivial⟩, trivial⟩
abbrev Tf113_0 : Type 1 := (α : Type) → ByteArray → Int → Rows → Rows → Rows → Int → Int → (Int → Int → Option α) → Option α
def f113_0g (vf141_0 : Tf141_0) (vf142_0 : Tf142_0) (vf143_0 : Tf143_0) (α : Type) (x1 : ByteArray) (x2 : Int) (x3 x4 x5 : Rows) (x6 x7 : Int) (k1 : Int → Int → Option α) : Option α :=
 vf141_0 α x1
 (fun x8 => cK (!x8)
 (k1 0 3)
 (cK (x2 == 1)
 (vf142_0 α x1 x2 x3 x4 x5 x6 x7
 (fun x9 x10 => k1 x9 x10))
 (cK (x2 != 2)
 (k1 0 11)
 (cK (decide (0 < (w64 ((w64 (((List.length x3 : Nat) : Int) + ((List.length x4 : Nat) : Int))) + ((List.length x5 : Nat) : Int)))))
 (k1 0 13)
 (vf143_0 α x6 x7
 (fun x11 => cK (!x11)
 (k1 0 2)
 (k1 0 0)))))))
noncomputable def f113_0 (α : Type) (x1 : ByteArray) (x2 : Int) (x3 x4 x5 : Rows) (x6 x7 : Int) (k1 : Int → Int → Option α) : Option α := f113_0g f141_0 f142_0 f143_0 α x1 x2 x3 x4 x5 x6 x7 k1
def pa113_0 : PT (List DV) := pA [pV true [dS, (dI .i64), dL, dL, dL, (dI .i64), (dI .i64)]]
def Fn113_0 (v : Tf113_0) (α : Type) (k : List RV → Option α) : ByteArray → Int → Rows → Rows → Rows → Int → Int → Option α := fun x1 x2 x3 x4 x5 x6 x7 => v α x1 x2 x3 x4 x5 x6 x7 (fun (y1 : Int) (y2 : Int) => ur113_0_0 k y1 y2)
noncomputable def cm113_0g  : MCode := (.seq (.region r113_2 [] (tO [1])) (.seq (.block 0 (.seq (.region r113_6 [] (tO [1, 4])) (.cond (.tmp 4) (.seq (.region r113_9 [] (tO [2, 3])) .ret) (.seq (.region r113_11 [] (tO [1, 9])) (.cond (.tmp 9) (.seq (.region r113_14 [] (tO [2, 3])) .ret) (.seq (.region r113_16 [] (tO [1, 17])) (.cond (.tmp 17) (.seq (.region r113_19 [] (tO [2, 3])) .ret) (.seq (.region r113_21 [] (tO [1, 21])) (.cond (.tmp 21) (.seq (.region r113_24 [] (tO [2, 3])) .ret) (.seq (.region r113_26 [] (tO [34])) (.cond (.tmp 34) (.seq (.region r113_29 [] (tO [2, 3])) .ret) .skip))))))))))) (.seq (.region r113_31 [] (tO [2, 3])) .ret)))
noncomputable def cm113_0 : MCode := cm113_0g 
theorem gm113_0 : cm113_0.Good Tryz.prog E113_0 sh113 := ⟨trivial, ⟨⟨trivial, ⟨⟨trivial, trivial⟩, ⟨trivial, ⟨⟨trivial, trivial⟩, ⟨trivial, ⟨⟨trivial, trivial⟩, ⟨trivial, ⟨⟨trivial, trivial⟩, ⟨trivial, ⟨⟨trivial, trivial⟩, trivial⟩⟩⟩⟩⟩⟩⟩⟩⟩⟩, ⟨trivial, trivial⟩⟩⟩
theorem fm113_0g (vf141_0 : Tf141_0) (vf142_0 : Tf142_0) (vf143_0 : Tf143_0)  (α : Type) (k : List RV → Option α) : Fn113_0 (f113_0g vf141_0 vf142_0 vf143_0) α k = pa113_0.unc fun ds => fnM Tryz.prog (E113_0g vf141_0 vf142_0 vf143_0) sh113 (cm113_0g ) rs113 k ds := by kernel_rfl
theorem fm113_0 : ∀ (α : Type) (k : List RV → Option α), Fn113_0 f113_0 α k = pa113_0.unc fun ds => fnM Tryz.prog E113_0 sh113 cm113_0 rs113 k ds := fm113_0g f141_0 f142_0 f143_0
theorem is113 : FnIs Tryz.prog 113 nt113 tr113 tl113 cm113_0.erase rs113 := ⟨Tryz.f113, Tryz.func113, rfl, by kernel_rfl, by kernel_rfl, by kernel_rfl⟩
theorem io113_0 : InstOk Tryz.prog 113 nt113 ⟨pa113_0, Fn113_0 f113_0⟩ := inst_ok eo113_0 followsTry is113 ⟨⟨sh113, cm113_0, by kernel_rfl, gm113_0, fm113_0⟩⟩
abbrev nt79 : Nat := 28
def sh79 : List (Nat × List Sh) := [(7, [.str, .int .i64, .sl, .sl, .sl, .int .i64, .int .i64]), (15, [.int .i64]), (17, [.str, .int .i64, .sl, .sl, .sl, .int .i64, .int .i64]), (22, [.int .i64]), (25, [.int .i64])]
def r79_2 : List AOper := [oO 1 (.box (.tmp 0)), oO 2 (.mv (.const .nilIface)), oO 3 (.mv (kI 0))]
def r79_5 : List AOper := [oO 7 (.load true 7 (.tmp 1)), oO 8 (.call 113 [(.tmp 7)]), oM 6 8, oO 9 (.extract 0 (.tmp 6)), oO 10 (.extract 1 (.tmp 6)), oM 4 9, oM 5 10]
def r79_7 : List AOper := [oM 11 5, oO 12 (.bin .neq 26 (.tmp 11) (kI 0))]
def r79_10 : List AOper := [oM 13 5, oO 2 (.mv (.const .nilIface)), oM 3 13]
def r79_13 : List AOper := [oO 14 (.faddr 1 (.tmp 1)), oO 15 (.load false 1 (.tmp 14)), oO 16 (.bin .eql 3 (.tmp 15) (kI 1))]
def r79_16 : List AOper := [oO 17 (.load true 7 (.tmp 1)), ⟨(some 18), (.build [(.d (.v (.string ⟨#[]⟩))), (cI 0), .nils, .nils, .nils, (cI 0), (cI 0)] [(0, 7, (.tmp 17))]), none⟩, oO 19 (.ifc 169 (.tmp 18)), oM 2 19, oO 3 (.mv (kI 0))]
def r79_18 : List AOper := [oO 20 (.faddr 5 (.tmp 1)), oO 21 (.iaddr 1 (some 2) (.tmp 20) (kI 0)), oO 22 (.load false 1 (.tmp 21)), oO 23 (.faddr 5 (.tmp 1)), oO 24 (.iaddr 1 (some 2) (.tmp 23) (kI 1)), oO 25 (.load false 1 (.tmp 24)), oO 26 (.build [(cI 0), (cI 0)] [(0, 1, (.tmp 22)), (1, 1, (.tmp 25))]), oO 27 (.ifc 171 (.tmp 26)), oM 2 27, oO 3 (.mv (kI 0))]
def tr79 : List (Nat × Tidy) := [tT 0 [1], tT 1 [1, 5], tT 2 [1, 5, 12], tT 3 [2, 3], tT 4 [1, 16], tT 5 [2, 3], tT 6 [2, 3]]
def tl79 : List (Nat × Tidy) := []
def rs79 : List AResV := [.tmp 2, .tmp 3]
def pr79_0_0 : PT (List RV) := pRs [pR false [rD dNIf], pR false [rD (dI .i64)]]
def ur79_0_0 {β : Type} (g : List RV → β) : Int → β := pr79_0_0.unc g
def pr79_0_1 : PT (List RV) := pRs [pR false [rD (dIf 169 true [dS, (dI .i64), dL, dL, dL, (dI .i64), (dI .i64)])], pR false [rD (dI .i64)]]
def ur79_0_1 {β : Type} (g : List RV → β) : ByteArray → Int → Rows → Rows → Rows → Int → Int → Int → β := pr79_0_1.unc g
def pr79_0_2 : PT (List RV) := pRs [pR false [rD (dIf 171 true [(dI .i64), (dI .i64)])], pR false [rD (dI .i64)]]
def ur79_0_2 {β : Type} (g : List RV → β) : Int → Int → Int → β := pr79_0_2.unc g
def E79_0g (vf113_0 : Tf113_0) : EnvK := EnvK.of [⟨113, nt113, [⟨pa113_0, Fn113_0 vf113_0⟩]⟩] noSeq
noncomputable def E79_0 : EnvK := E79_0g f113_0
theorem eo79_0 : E79_0.Ok Tryz.prog := EnvK.of_ok noSeq_ok ⟨⟨io113_0, trivial⟩, trivial⟩
abbrev Tf79_0 : Type 1 := (α : Type) → ByteArray → Int → Rows → Rows → Rows → Int → Int → (Int → Option α) → (ByteArray → Int → Rows → Rows → Rows → Int → Int → Option α) → (Int → Int → Option α) → Option α
def f79_0g (vf113_0 : Tf113_0) (α : Type) (x1 : ByteArray) (x2 : Int) (x3 x4 x5 : Rows) (x6 x7 : Int) (k1 : Int → Option α) (k2 : ByteArray → Int → Rows → Rows → Rows → Int → Int → Option α) (k3 : Int → Int → Option α) : Option α :=
 vf113_0 α x1 x2 x3 x4 x5 x6 x7
 (fun x8 x9 => cK (x9 != 0)
 (k1 x9)
 (cK (x2 == 1)
 (k2 x1 x2 x3 x4 x5 x6 x7)
 (k3 x6 x7)))
noncomputable def f79_0 (α : Type) (x1 : ByteArray) (x2 : Int) (x3 x4 x5 : Rows) (x6 x7 : Int) (k1 : Int → Option α) (k2 : ByteArray → Int → Rows → Rows → Rows → Int → Int → Option α) (k3 : Int → Int → Option α) : Option α := f79_0g f113_0 α x1 x2 x3 x4 x5 x6 x7 k1 k2 k3
def pa79_0 : PT (List DV) := pA [pV true [dS, (dI .i64), dL, dL, dL, (dI .i64), (dI .i64)]]
def Fn79_0 (v : Tf79_0) (α : Type) (k : List RV → Option α) : ByteArray → Int → Rows → Rows → Rows → Int → Int → Option α := fun x1 x2 x3 x4 x5 x6 x7 => v α x1 x2 x3 x4 x5 x6 x7 (fun (y1 : Int) => ur79_0_0 k y1) (fun (y1 : ByteArray) (y2 : Int) (y3 : Rows) (y4 : Rows) (y5 : Rows) (y6 : Int) (y7 : Int) => ur79_0_1 k y1 y2 y3 y4 y5 y6 y7 0) (fun (y1 : Int) (y2 : Int) => ur79_0_2 k y1 y2 0)
noncomputable def cm79_0g  : MCode := (.seq (.region r79_2 [] (tO [1])) (.seq (.seq (.region r79_5 [] (tO [1, 5])) (.seq (.region r79_7 [] (tO [1, 5, 12])) (.cond (.tmp 12) (.seq (.region r79_10 [] (tO [2, 3])) .ret) .skip))) (.seq (.seq (.region r79_13 [] (tO [1, 16])) (.cond (.tmp 16) (.seq (.region r79_16 [] (tO [2, 3])) .ret) .skip)) (.seq (.region r79_18 [] (tO [2, 3])) .ret))))
noncomputable def cm79_0 : MCode := cm79_0g 
theorem gm79_0 : cm79_0.Good Tryz.prog E79_0 sh79 := ⟨trivial, ⟨⟨trivial, ⟨trivial, ⟨⟨trivial, trivial⟩, trivial⟩⟩⟩, ⟨⟨trivial, ⟨⟨trivial, trivial⟩, trivial⟩⟩, ⟨trivial, trivial⟩⟩⟩⟩
theorem fm79_0g (vf113_0 : Tf113_0)  (α : Type) (k : List RV → Option α) : Fn79_0 (f79_0g vf113_0) α k = pa79_0.unc fun ds => fnM Tryz.prog (E79_0g vf113_0) sh79 (cm79_0g ) rs79 k ds := by kernel_rfl
theorem fm79_0 : ∀ (α : Type) (k : List RV → Option α), Fn79_0 f79_0 α k = pa79_0.unc fun ds => fnM Tryz.prog E79_0 sh79 cm79_0 rs79 k ds := fm79_0g f113_0
theorem is79 : FnIs Tryz.prog 79 nt79 tr79 tl79 cm79_0.erase rs79 := ⟨Tryz.f79, Tryz.func79, rfl, by kernel_rfl, by kernel_rfl, by kernel_rfl⟩
theorem io79_0 : InstOk Tryz.prog 79 nt79 ⟨pa79_0, Fn79_0 f79_0⟩ := inst_ok eo79_0 followsTry is79 ⟨⟨sh79, cm79_0, by kernel_rfl, gm79_0, fm79_0⟩⟩
abbrev nt62 : Nat := 27
def sh62 : List (Nat × List Sh) := [(9, [.str, .int .i64, .sl, .sl, .sl, .int .i64, .int .i64])]
def r62_2 : List AOper := [oO 2 (.box (.tmp 0)), oO 4 (.mv (.const .nilIface)), oO 5 (.mv (kI 0))]
def r62_4 : List AOper := [oO 9 (.load true 7 (.tmp 2)), oO 10 (.call 79 [(.tmp 9)]), oM 8 10, oO 11 (.extract 0 (.tmp 8)), oO 12 (.extract 1 (.tmp 8)), oM 6 11, oM 7 12]
def r62_8 : List AOper := [oM 14 7, oO 15 (.bin .neq 26 (.tmp 14) (kI 0)), oM 13 15]
def r62_11 : List AOper := [oM 16 7, oO 4 (.mv (.const .nilIface)), oM 5 16]
def r62_13 : List AOper := [oM 18 1, oO 19 (.call 80 [(.tmp 18)]), oO 20 (.pure (oB (.unOp .not 4 (.tmp 19)) 4)), oM 17 20]
def r62_16 : List AOper := [oO 4 (.mv (.const .nilIface)), oO 5 (.mv (kI 2))]
def r62_18 : List AOper := [oM 22 6, oM 23 1, oO 24 (.inv "etalon/glass.covers" (.tmp 22) [(.tmp 23)]), oO 25 (.pure (oB (.unOp .not 4 (.tmp 24)) 4)), oM 21 25]
def r62_21 : List AOper := [oO 4 (.mv (.const .nilIface)), oO 5 (.mv (kI 17))]
def r62_23 : List AOper := [oM 26 6, oM 4 26, oO 5 (.mv (kI 0))]
def tr62 : List (Nat × Tidy) := [tT 0 [1, 2], tT 1 [1, 6, 7], tT 2 [1, 6, 7, 13], tT 3 [4, 5], tT 4 [1, 6, 17], tT 5 [4, 5], tT 6 [6, 21], tT 7 [4, 5], tT 8 [4, 5]]
def tl62 : List (Nat × Tidy) := []
def rs62 : List AResV := [.tmp 4, .tmp 5]
def p62_0_0 : PT St := pS [sl 1 (aV false [(cD (dI .i64))]), sl 2 (aV false [(cPtr 2 0)])] [eBox 2 [(cD dS), (cD (dI .i64)), (cD dL), (cD dL), (cD dL), (cD (dI .i64)), (cD (dI .i64))]]
def u62_0_0 {β : Type} (g : St → β) : Int → ByteArray → Int → Rows → Rows → Rows → Int → Int → β := p62_0_0.unc g
def p62_0_1 : PT St := pS [sl 1 (aV false [(cD (dI .i64))]), sl 6 (aV false [(cD dNIf)]), sl 7 (aV false [(cD (dI .i64))])] []
def u62_0_1 {β : Type} (g : St → β) : Int → Int → β := p62_0_1.unc g
def p62_0_2 : PT St := pS [sl 1 (aV false [(cD (dI .i64))]), sl 6 (aV false [(cD (dIf 169 true [dS, (dI .i64), dL, dL, dL, (dI .i64), (dI .i64)]))]), sl 7 (aV false [(cD (dI .i64))])] []
def u62_0_2 {β : Type} (g : St → β) : Int → ByteArray → Int → Rows → Rows → Rows → Int → Int → Int → β := p62_0_2.unc g
def p62_0_3 : PT St := pS [sl 1 (aV false [(cD (dI .i64))]), sl 6 (aV false [(cD (dIf 171 true [(dI .i64), (dI .i64)]))]), sl 7 (aV false [(cD (dI .i64))])] []
def u62_0_3 {β : Type} (g : St → β) : Int → Int → Int → Int → β := p62_0_3.unc g
def pr62_0_0 : PT (List RV) := pRs [pR false [rD dNIf], pR false [rD (dI .i64)]]
def ur62_0_0 {β : Type} (g : List RV → β) : Int → β := pr62_0_0.unc g
def pr62_0_1 : PT (List RV) := pRs [pR false [rD (dIf 169 true [dS, (dI .i64), dL, dL, dL, (dI .i64), (dI .i64)])], pR false [rD (dI .i64)]]
def ur62_0_1 {β : Type} (g : List RV → β) : ByteArray → Int → Rows → Rows → Rows → Int → Int → Int → β := pr62_0_1.unc g
def pr62_0_2 : PT (List RV) := pRs [pR false [rD (dIf 171 true [(dI .i64), (dI .i64)])], pR false [rD (dI .i64)]]
def ur62_0_2 {β : Type} (g : List RV → β) : Int → Int → Int → β := pr62_0_2.unc g
def E62_0g (vf79_0 : Tf79_0) (vf80_0 : Tf80_0) (vf195_0 : Tf195_0) (vf201_0 : Tf201_0) : EnvK := EnvK.of [⟨79, nt79, [⟨pa79_0, Fn79_0 vf79_0⟩]⟩, ⟨80, nt80, [⟨pa80_0, Fn80_0 vf80_0⟩]⟩, ⟨195, nt195, [⟨pa195_0, Fn195_0 vf195_0⟩]⟩, ⟨201, nt201, [⟨pa201_0, Fn201_0 vf201_0⟩]⟩] noSeq
noncomputable def E62_0 : EnvK := E62_0g f79_0 f80_0 f195_0 f201_0
theorem eo62_0 : E62_0.Ok Tryz.prog := EnvK.of_ok noSeq_ok ⟨⟨io79_0, trivial⟩, ⟨io80_0, trivial⟩, ⟨io195_0, trivial⟩, ⟨io201_0, trivial⟩, trivial⟩
noncomputable def c62_0_3g  : MCode := (.region r62_4 [] (tO [1, 6, 7]))
noncomputable def c62_0_3 : MCode := c62_0_3g 
theorem g62_0_3 : c62_0_3.Good Tryz.prog E62_0 sh62 := trivial
--CODE 3 0
abbrev TJ62_0_0 : Type 1 := (α : Type) → ByteArray → Int → Rows → Rows → Rows → Int → Int → (Int → Option α) → (ByteArray → Int → Rows → Rows → Rows → Int → Int → Option α) → (Int → Int → Option α) → Option α
def J62_0_0g (vf79_0 : Tf79_0) (α : Type) (x10 : ByteArray) (x11 : Int) (x12 x13 x14 : Rows) (x15 x16 : Int) (k1 : Int → Option α) (k2 : ByteArray → Int → Rows → Rows → Rows → Int → Int → Option α) (k3 : Int → Int → Option α) : Option α :=
 vf79_0 α x10 x11 x12 x13 x14 x15 x16
 (fun x18 => k1 x18)
 (fun x19 x20 x21 x22 x23 x24 x25 => k2 x19 x20 x21 x22 x23 x24 x25)
 (fun x26 x27 => k3 x26 x27)
noncomputable def J62_0_0 (α : Type) (x10 : ByteArray) (x11 : Int) (x12 x13 x14 : Rows) (x15 x16 : Int) (k1 : Int → Option α) (k2 : ByteArray → Int → Rows → Rows → Rows → Int → Int → Option α) (k3 : Int → Int → Option α) : Option α := J62_0_0g f79_0 α x10 x11 x12 x13 x14 x15 x16 k1 k2 k3
def F62_0_0 (v : TJ62_0_0) (α : Type) (K : Exit → St → Option α) : Int → ByteArray → Int → Rows → Rows → Rows → Int → Int → Option α := fun x9 x10 x11 x12 x13 x14 x15 x16 => v α x10 x11 x12 x13 x14 x15 x16 (fun (y1 : Int) => u62_0_1 (K .normal) x9 y1) (fun (y1 : ByteArray) (y2 : Int) (y3 : Rows) (y4 : Rows) (y5 : Rows) (y6 : Int) (y7 : Int) => u62_0_2 (K .normal) x9 y1 y2 y3 y4 y5 y6 y7 0) (fun (y1 : Int) (y2 : Int) => u62_0_3 (K .normal) x9 y1 y2 0) 
theorem m62_0_0g (vf79_0 : Tf79_0) (vf80_0 : Tf80_0) (vf195_0 : Tf195_0) (vf201_0 : Tf201_0)  (α : Type) (K : Exit → St → Option α) : F62_0_0 (J62_0_0g vf79_0) α K = p62_0_0.unc fun σ => runM Tryz.prog (E62_0g vf79_0 vf80_0 vf195_0 vf201_0) sh62 (c62_0_3g ) K σ := by kernel_rfl
theorem m62_0_0 : ∀ (α : Type) (K : Exit → St → Option α), F62_0_0 J62_0_0 α K = p62_0_0.unc fun σ => runM Tryz.prog E62_0 sh62 c62_0_3 K σ := m62_0_0g f79_0 f80_0 f195_0 f201_0
abbrev Tf62_0 : Type 1 := (α : Type) → ByteArray → Int → Rows → Rows → Rows → Int → Int → Int → (Int → Option α) → (ByteArray → Int → Rows → Rows → Rows → Int → Int → Option α) → (Int → Int → Option α) → Option α
def f62_0g (vJ62_0_0 : TJ62_0_0) (vf195_0 : Tf195_0) (vf201_0 : Tf201_0) (vf80_0 : Tf80_0) (α : Type) (x1 : ByteArray) (x2 : Int) (x3 x4 x5 : Rows) (x6 x7 x8 : Int) (k1 : Int → Option α) (k2 : ByteArray → Int → Rows → Rows → Rows → Int → Int → Option α) (k3 : Int → Int → Option α) : Option α :=
 vJ62_0_0 α x1 x2 x3 x4 x5 x6 x7
 (fun x28 => cK (x28 != 0)
 (k1 x28)
 (vf80_0 α x8
 (fun x39 => cK (!x39)
 (k1 2)
 (none))))
 (fun x29 x30 x31 x32 x33 x34 x35 => vf80_0 α x8
 (fun x40 => cK (!x40)
 (k1 2)
 (vf195_0 α x29 x30 x31 x32 x33 x34 x35 x8
 (fun x41 => cK (!x41)
 (k1 17)
 (k2 x29 x30 x31 x32 x33 x34 x35)))))
 (fun x36 x37 => vf80_0 α x8
 (fun x42 => cK (!x42)
 (k1 2)
 (vf201_0 α x36 x37 x8
 (k3 x36 x37))))
noncomputable def f62_0 (α : Type) (x1 : ByteArray) (x2 : Int) (x3 x4 x5 : Rows) (x6 x7 x8 : Int) (k1 : Int → Option α) (k2 : ByteArray → Int → Rows → Rows → Rows → Int → Int → Option α) (k3 : Int → Int → Option α) : Option α := f62_0g J62_0_0 f195_0 f201_0 f80_0 α x1 x2 x3 x4 x5 x6 x7 x8 k1 k2 k3
def pa62_0 : PT (List DV) := pA [pV true [dS, (dI .i64), dL, dL, dL, (dI .i64), (dI .i64)], pV false [(dI .i64)]]
def Fn62_0 (v : Tf62_0) (α : Type) (k : List RV → Option α) : ByteArray → Int → Rows → Rows → Rows → Int → Int → Int → Option α := fun x1 x2 x3 x4 x5 x6 x7 x8 => v α x1 x2 x3 x4 x5 x6 x7 x8 (fun (y1 : Int) => ur62_0_0 k y1) (fun (y1 : ByteArray) (y2 : Int) (y3 : Rows) (y4 : Rows) (y5 : Rows) (y6 : Int) (y7 : Int) => ur62_0_1 k y1 y2 y3 y4 y5 y6 y7 0) (fun (y1 : Int) (y2 : Int) => ur62_0_2 k y1 y2 0)
noncomputable def cm62_0g (vJ62_0_0 : TJ62_0_0) : MCode := (.seq (.region r62_2 [] (tO [1, 2])) (.seq (.mark [⟨p62_0_0, F62_0_0 vJ62_0_0⟩] c62_0_3) (.seq (.block 0 (.seq (.region r62_8 [] (tO [1, 6, 7, 13])) (.cond (.tmp 13) (.seq (.region r62_11 [] (tO [4, 5])) .ret) (.seq (.region r62_13 [] (tO [1, 6, 17])) (.cond (.tmp 17) (.seq (.region r62_16 [] (tO [4, 5])) .ret) (.seq (.region r62_18 [] (tO [6, 21])) (.cond (.tmp 21) (.seq (.region r62_21 [] (tO [4, 5])) .ret) .skip))))))) (.seq (.region r62_23 [] (tO [4, 5])) .ret))))
noncomputable def cm62_0 : MCode := cm62_0g J62_0_0
theorem gm62_0 : cm62_0.Good Tryz.prog E62_0 sh62 := ⟨trivial, ⟨⟨g62_0_3, m62_0_0, trivial⟩, ⟨⟨trivial, ⟨⟨trivial, trivial⟩, ⟨trivial, ⟨⟨trivial, trivial⟩, ⟨trivial, ⟨⟨trivial, trivial⟩, trivial⟩⟩⟩⟩⟩⟩, ⟨trivial, trivial⟩⟩⟩⟩
theorem fm62_0g (vf79_0 : Tf79_0) (vf80_0 : Tf80_0) (vf195_0 : Tf195_0) (vf201_0 : Tf201_0) (vJ62_0_0 : TJ62_0_0) (α : Type) (k : List RV → Option α) : Fn62_0 (f62_0g vJ62_0_0 vf195_0 vf201_0 vf80_0) α k = pa62_0.unc fun ds => fnM Tryz.prog (E62_0g vf79_0 vf80_0 vf195_0 vf201_0) sh62 (cm62_0g vJ62_0_0) rs62 k ds := by kernel_rfl
theorem fm62_0 : ∀ (α : Type) (k : List RV → Option α), Fn62_0 f62_0 α k = pa62_0.unc fun ds => fnM Tryz.prog E62_0 sh62 cm62_0 rs62 k ds := fm62_0g f79_0 f80_0 f195_0 f201_0 J62_0_0
theorem is62 : FnIs Tryz.prog 62 nt62 tr62 tl62 cm62_0.erase rs62 := ⟨Tryz.f62, Tryz.func62, rfl, by kernel_rfl, by kernel_rfl, by kernel_rfl⟩
theorem io62_0 : InstOk Tryz.prog 62 nt62 ⟨pa62_0, Fn62_0 f62_0⟩ := inst_ok eo62_0 followsTry is62 ⟨⟨sh62, cm62_0, by kernel_rfl, gm62_0, fm62_0⟩⟩
abbrev nt17 : Nat := 29
def sh17 : List (Nat × List Sh) := [(10, [.str, .int .i64, .sl, .sl, .sl, .int .i64, .int .i64]), (23, [.int .i64, .int .i64]), (26, [.int .i64, .int .i64])]
def r17_2 : List AOper := [oO 2 (.box (.tmp 0)), oO 4 (.alloc [(cI 0), (cI 0)]), oO 5 (.mv (kI 0))]
def r17_4 : List AOper := [oO 10 (.load true 7 (.tmp 2)), oM 11 1, oO 12 (.call 62 [(.tmp 10), (.tmp 11)]), oM 9 12, oO 13 (.extract 0 (.tmp 9)), oO 14 (.extract 1 (.tmp 9)), oM 6 13, oM 7 14]
def r17_7 : List AOper := [oM 15 7, oO 16 (.bin .neq 26 (.tmp 15) (kI 0))]
def r17_10 : List AOper := [oO 17 (.build [(cI 0), (cI 0)] []), oM 18 7, oD (.store 2 (.tmp 4) (.tmp 17)), oM 5 18]
def r17_12 : List AOper := [oM 19 6, oM 20 1, oO 21 (.inv "etalon/glass.at" (.tmp 19) [(.tmp 20)]), oO 8 (.alloc [(cI 0), (cI 0), (cI 0), (cI 0)]), oD (.store 4 (.tmp 8) (.tmp 21))]
def r17_14 : List AOper := [oO 22 (.iaddr 2 (some 2) (.tmp 8) (kI 0)), oO 23 (.load true 2 (.tmp 22)), oO 24 (.call 63 [(.tmp 23)]), oO 25 (.iaddr 2 (some 2) (.tmp 8) (kI 1)), oO 26 (.load true 2 (.tmp 25)), oO 27 (.call 63 [(.tmp 26)]), oO 28 (.build [(cI 0), (cI 0)] [(0, 1, (.tmp 24)), (1, 1, (.tmp 27))]), oD (.store 2 (.tmp 4) (.tmp 28)), oO 5 (.mv (kI 0))]
def tr17 : List (Nat × Tidy) := [tT 0 [1, 2, 4], tT 1 [1, 4, 6, 7], tT 2 [1, 4, 6, 7, 16], tT 3 [4, 5], tT 4 [4, 8], tT 5 [4, 5]]
def tl17 : List (Nat × Tidy) := []
def rs17 : List AResV := [.cell 4 true 2, .tmp 5]
def p17_0_0 : PT St := pS [sl 1 (aV false [(cD (dI .i64))]), sl 2 (aV false [(cPtr 2 0)]), sl 4 (aV false [(cPtr 4 0)])] [eBox 2 [(cD dS), (cD (dI .i64)), (cD dL), (cD dL), (cD dL), (cD (dI .i64)), (cD (dI .i64))], eBox 4 [(cD (dI .i64)), (cD (dI .i64))]]
def u17_0_0 {β : Type} (g : St → β) : Int → ByteArray → Int → Rows → Rows → Rows → Int → Int → Int → Int → β := p17_0_0.unc g
def p17_0_1 : PT St := pS [sl 1 (aV false [(cD (dI .i64))]), sl 4 (aV false [(cPtr 4 0)]), sl 6 (aV false [(cD dNIf)]), sl 7 (aV false [(cD (dI .i64))])] [eBox 4 [(cD (dI .i64)), (cD (dI .i64))]]
def u17_0_1 {β : Type} (g : St → β) : Int → Int → Int → Int → β := p17_0_1.unc g
def p17_0_2 : PT St := pS [sl 1 (aV false [(cD (dI .i64))]), sl 4 (aV false [(cPtr 4 0)]), sl 6 (aV false [(cD (dIf 169 true [dS, (dI .i64), dL, dL, dL, (dI .i64), (dI .i64)]))]), sl 7 (aV false [(cD (dI .i64))])] [eBox 4 [(cD (dI .i64)), (cD (dI .i64))]]
def u17_0_2 {β : Type} (g : St → β) : Int → ByteArray → Int → Rows → Rows → Rows → Int → Int → Int → Int → Int → β := p17_0_2.unc g
def p17_0_3 : PT St := pS [sl 1 (aV false [(cD (dI .i64))]), sl 4 (aV false [(cPtr 4 0)]), sl 6 (aV false [(cD (dIf 171 true [(dI .i64), (dI .i64)]))]), sl 7 (aV false [(cD (dI .i64))])] [eBox 4 [(cD (dI .i64)), (cD (dI .i64))]]
def u17_0_3 {β : Type} (g : St → β) : Int → Int → Int → Int → Int → Int → β := p17_0_3.unc g
def pr17_0_0 : PT (List RV) := pRs [pR true [rD (dI .i64), rD (dI .i64)], pR false [rD (dI .i64)]]
def ur17_0_0 {β : Type} (g : List RV → β) : Int → Int → Int → β := pr17_0_0.unc g
def E17_0g (vf62_0 : Tf62_0) (vf193_0 : Tf193_0) (vf63_0 : Tf63_0) (vf199_0 : Tf199_0) : EnvK := EnvK.of [⟨62, nt62, [⟨pa62_0, Fn62_0 vf62_0⟩]⟩, ⟨193, nt193, [⟨pa193_0, Fn193_0 vf193_0⟩]⟩, ⟨63, nt63, [⟨pa63_0, Fn63_0 vf63_0⟩]⟩, ⟨199, nt199, [⟨pa199_0, Fn199_0 vf199_0⟩]⟩] noSeq
noncomputable def E17_0 : EnvK := E17_0g f62_0 f193_0 f63_0 f199_0
theorem eo17_0 : E17_0.Ok Tryz.prog := EnvK.of_ok noSeq_ok ⟨⟨io62_0, trivial⟩, ⟨io193_0, trivial⟩, ⟨io63_0, trivial⟩, ⟨io199_0, trivial⟩, trivial⟩
noncomputable def c17_0_3g  : MCode := (.region r17_4 [] (tO [1, 4, 6, 7]))
noncomputable def c17_0_3 : MCode := c17_0_3g 
theorem g17_0_3 : c17_0_3.Good Tryz.prog E17_0 sh17 := trivial
--CODE 3 0
abbrev TJ17_0_0 : Type 1 := (α : Type) → Int → ByteArray → Int → Rows → Rows → Rows → Int → Int → (Int → Option α) → (ByteArray → Int → Rows → Rows → Rows → Int → Int → Option α) → (Int → Int → Option α) → Option α
def J17_0_0g (vf62_0 : Tf62_0) (α : Type) (x9 : Int) (x10 : ByteArray) (x11 : Int) (x12 x13 x14 : Rows) (x15 x16 : Int) (k1 : Int → Option α) (k2 : ByteArray → Int → Rows → Rows → Rows → Int → Int → Option α) (k3 : Int → Int → Option α) : Option α :=
 vf62_0 α x10 x11 x12 x13 x14 x15 x16 x9
 (fun x20 => k1 x20)
 (fun x21 x22 x23 x24 x25 x26 x27 => k2 x21 x22 x23 x24 x25 x26 x27)
 (fun x28 x29 => k3 x28 x29)
noncomputable def J17_0_0 (α : Type) (x9 : Int) (x10 : ByteArray) (x11 : Int) (x12 x13 x14 : Rows) (x15 x16 : Int) (k1 : Int → Option α) (k2 : ByteArray → Int → Rows → Rows → Rows → Int → Int → Option α) (k3 : Int → Int → Option α) : Option α := J17_0_0g f62_0 α x9 x10 x11 x12 x13 x14 x15 x16 k1 k2 k3
def F17_0_0 (v : TJ17_0_0) (α : Type) (K : Exit → St → Option α) : Int → ByteArray → Int → Rows → Rows → Rows → Int → Int → Int → Int → Option α := fun x9 x10 x11 x12 x13 x14 x15 x16 x17 x18 => v α x9 x10 x11 x12 x13 x14 x15 x16 (fun (y1 : Int) => u17_0_1 (K .normal) x9 y1 x17 x18) (fun (y1 : ByteArray) (y2 : Int) (y3 : Rows) (y4 : Rows) (y5 : Rows) (y6 : Int) (y7 : Int) => u17_0_2 (K .normal) x9 y1 y2 y3 y4 y5 y6 y7 0 x17 x18) (fun (y1 : Int) (y2 : Int) => u17_0_3 (K .normal) x9 y1 y2 0 x17 x18) 
theorem m17_0_0g (vf62_0 : Tf62_0) (vf193_0 : Tf193_0) (vf63_0 : Tf63_0) (vf199_0 : Tf199_0)  (α : Type) (K : Exit → St → Option α) : F17_0_0 (J17_0_0g vf62_0) α K = p17_0_0.unc fun σ => runM Tryz.prog (E17_0g vf62_0 vf193_0 vf63_0 vf199_0) sh17 (c17_0_3g ) K σ := by kernel_rfl
theorem m17_0_0 : ∀ (α : Type) (K : Exit → St → Option α), F17_0_0 J17_0_0 α K = p17_0_0.unc fun σ => runM Tryz.prog E17_0 sh17 c17_0_3 K σ := m17_0_0g f62_0 f193_0 f63_0 f199_0
abbrev Tf17_0 : Type 1 := (α : Type) → ByteArray → Int → Rows → Rows → Rows → Int → Int → Int → (Int → Int → Int → Option α) → Option α
def f17_0g (vJ17_0_0 : TJ17_0_0) (vf193_0 : Tf193_0) (vf199_0 : Tf199_0) (vf63_0 : Tf63_0) (α : Type) (x1 : ByteArray) (x2 : Int) (x3 x4 x5 : Rows) (x6 x7 x8 : Int) (k1 : Int → Int → Int → Option α) : Option α :=
 vJ17_0_0 α x8 x1 x2 x3 x4 x5 x6 x7
 (fun x30 => cK (x30 != 0)
 (k1 0 0 x30)
 (none))
 (fun x31 x32 x33 x34 x35 x36 x37 => vf193_0 α x31 x32 x33 x34 x35 x36 x37 x8
 (fun x41 x42 x43 x44 => vf63_0 α x41 x42
 (fun x45 => vf63_0 α x43 x44
 (fun x46 => k1 x45 x46 0))))
 (fun x38 x39 => vf199_0 α x38 x39 x8
 (fun x47 x48 => vf63_0 α x47 x48
 (fun x49 => vf63_0 α 0 1
 (fun x50 => k1 x49 x50 0))))
noncomputable def f17_0 (α : Type) (x1 : ByteArray) (x2 : Int) (x3 x4 x5 : Rows) (x6 x7 x8 : Int) (k1 : Int → Int → Int → Option α) : Option α := f17_0g J17_0_0 f193_0 f199_0 f63_0 α x1 x2 x3 x4 x5 x6 x7 x8 k1
def pa17_0 : PT (List DV) := pA [pV true [dS, (dI .i64), dL, dL, dL, (dI .i64), (dI .i64)], pV false [(dI .i64)]]
def Fn17_0 (v : Tf17_0) (α : Type) (k : List RV → Option α) : ByteArray → Int → Rows → Rows → Rows → Int → Int → Int → Option α := fun x1 x2 x3 x4 x5 x6 x7 x8 => v α x1 x2 x3 x4 x5 x6 x7 x8 (fun (y1 : Int) (y2 : Int) (y3 : Int) => ur17_0_0 k y1 y2 y3)
noncomputable def cm17_0g (vJ17_0_0 : TJ17_0_0) : MCode := (.seq (.region r17_2 [] (tO [1, 2, 4])) (.seq (.mark [⟨p17_0_0, F17_0_0 vJ17_0_0⟩] c17_0_3) (.seq (.seq (.region r17_7 [] (tO [1, 4, 6, 7, 16])) (.cond (.tmp 16) (.seq (.region r17_10 [] (tO [4, 5])) .ret) .skip)) (.seq (.region r17_12 [] (tO [4, 8])) (.seq (.region r17_14 [(2, 4)] (tO [4, 5])) .ret)))))
noncomputable def cm17_0 : MCode := cm17_0g J17_0_0
theorem gm17_0 : cm17_0.Good Tryz.prog E17_0 sh17 := ⟨trivial, ⟨⟨g17_0_3, m17_0_0, trivial⟩, ⟨⟨trivial, ⟨⟨trivial, trivial⟩, trivial⟩⟩, ⟨trivial, ⟨trivial, trivial⟩⟩⟩⟩⟩
theorem fm17_0g (vf62_0 : Tf62_0) (vf193_0 : Tf193_0) (vf63_0 : Tf63_0) (vf199_0 : Tf199_0) (vJ17_0_0 : TJ17_0_0) (α : Type) (k : List RV → Option α) : Fn17_0 (f17_0g vJ17_0_0 vf193_0 vf199_0 vf63_0) α k = pa17_0.unc fun ds => fnM Tryz.prog (E17_0g vf62_0 vf193_0 vf63_0 vf199_0) sh17 (cm17_0g vJ17_0_0) rs17 k ds := by kernel_rfl
theorem fm17_0 : ∀ (α : Type) (k : List RV → Option α), Fn17_0 f17_0 α k = pa17_0.unc fun ds => fnM Tryz.prog E17_0 sh17 cm17_0 rs17 k ds := fm17_0g f62_0 f193_0 f63_0 f199_0 J17_0_0
theorem is17 : FnIs Tryz.prog 17 nt17 tr17 tl17 cm17_0.erase rs17 := ⟨Tryz.f17, Tryz.func17, rfl, by kernel_rfl, by kernel_rfl, by kernel_rfl⟩
theorem io17_0 : InstOk Tryz.prog 17 nt17 ⟨pa17_0, Fn17_0 f17_0⟩ := inst_ok eo17_0 followsTry is17 ⟨⟨sh17, cm17_0, by kernel_rfl, gm17_0, fm17_0⟩⟩
abbrev nt28 : Nat := 66
def sh28 : List (Nat × List Sh) := [(19, [.str, .int .i64, .sl, .sl, .sl, .int .i64, .int .i64]), (30, [.int .i64]), (34, [.int .i64]), (37, [.int .i64]), (39, [.int .i64])]
def r28_2 : List AOper := [oO 1 (.box (.tmp 0)), oO 2 (.alloc [(cI 0), (cI 0)]), oO 3 (.mv (kI 0))]
def r28_4 : List AOper := [oO 4 (.alloc [(cI 0), (cI 0), (cI 0)])]
def r28_7 : List AOper := [oO 13 (.build [(cI 0), (cI 0), (cI 0)] [(0, 1, (kI 5876)), (1, 1, (kI 4861)), (2, 1, (kI 6563))]), oO 14 (.mv (kI 0))]
def td28_9 : Option Tidy := (some ⟨[1, 2, 4, 13, 14], true, [⟨true, 1, 2, 30102, 1⟩, ⟨true, 1, 3, 30103, 1⟩, ⟨true, 1, 4, 30104, 1⟩], []⟩)
def r28_11 : List AOper := [oO 15 (.bin .lss 3 (.tmp 14) (kI 3))]
def r28_17 : List AOper := [oM 16 14, oO 17 (.index false 3 1 (.tmp 13) (.tmp 14)), oM 5 16, oM 6 17]
def r28_19 : List AOper := [oO 19 (.load true 7 (.tmp 1)), oM 20 6, oO 21 (.call 17 [(.tmp 19), (.tmp 20)]), oM 18 21, oO 22 (.extract 0 (.tmp 18)), oO 23 (.extract 1 (.tmp 18)), oO 7 (.alloc [(cI 0), (cI 0)]), oD (.store 2 (.tmp 7) (.tmp 22)), oM 8 23]
def r28_22 : List AOper := [oM 24 8, oO 25 (.bin .neq 26 (.tmp 24) (kI 0))]
def r28_25 : List AOper := [oO 26 (.build [(cI 0), (cI 0)] []), oM 27 8, oD (.store 2 (.tmp 2) (.tmp 26)), oM 3 27]
def r28_26 : List AOper := [oM 28 5, oO 29 (.iaddr 1 (some 2) (.tmp 7) (kI 0)), oO 30 (.load false 1 (.tmp 29)), oO 31 (.iaddr 1 (some 3) (.tmp 4) (.tmp 28)), oD (.store 1 (.tmp 31) (.tmp 30))]
def r28_27 : List AOper := [oO 32 (.bin .add 3 (.tmp 14) (kI 1)), oM 14 32]
def r28_29 : List AOper := [oO 33 (.iaddr 1 (some 3) (.tmp 4) (kI 0)), oO 34 (.load false 1 (.tmp 33)), oO 35 (.bin .sub 3 (.tmp 34) (kI 10000)), oO 36 (.iaddr 1 (some 3) (.tmp 4) (kI 1)), oO 37 (.load false 1 (.tmp 36)), oO 38 (.iaddr 1 (some 3) (.tmp 4) (kI 2)), oO 39 (.load false 1 (.tmp 38)), oO 40 (.bin .sub 3 (.tmp 37) (.tmp 39)), oM 9 35, oM 10 40]
def r28_32 : List AOper := [oM 41 10, oO 42 (.bin .eql 3 (.tmp 41) (kI 0))]
def r28_35 : List AOper := [oO 43 (.build [(cI 0), (cI 0)] []), oD (.store 2 (.tmp 2) (.tmp 43)), oO 3 (.mv (kI 9))]
def r28_37 : List AOper := [oM 44 9, oM 45 10, oM 11 44, oM 12 45]
def td28_40 : Option Tidy := (some ⟨[2, 9, 10, 11, 12], true, [⟨true, 1, 2, 30102, 1⟩, ⟨true, 1, 3, 30103, 1⟩, ⟨true, 1, 4, 30104, 1⟩], []⟩)
def r28_43 : List AOper := [oM 46 12, oO 47 (.bin .neq 3 (.tmp 46) (kI 0))]
def r28_46 : List AOper := [oM 48 12, oM 49 11, oM 50 12, oO 51 (.bin .rem 3 (.tmp 49) (.tmp 50)), oM 11 48, oM 12 51]
def r28_49 : List AOper := [oM 52 11, oO 53 (.bin .lss 3 (.tmp 52) (kI 0)), oM 54 10, oO 55 (.bin .lss 3 (.tmp 54) (kI 0)), oO 56 (.bin .neq 4 (.tmp 53) (.tmp 55))]
def r28_51 : List AOper := [oM 57 11, oO 58 (.pure (oB (.unOp .neg 3 (.tmp 57)) 3)), oM 11 58]
def r28_53 : List AOper := [oM 59 9, oM 60 11, oO 61 (.bin .quo 3 (.tmp 59) (.tmp 60)), oM 62 10, oM 63 11, oO 64 (.bin .quo 3 (.tmp 62) (.tmp 63)), oO 65 (.build [(cI 0), (cI 0)] [(0, 1, (.tmp 61)), (1, 1, (.tmp 64))]), oD (.store 2 (.tmp 2) (.tmp 65)), oO 3 (.mv (kI 0))]
def tr28 : List (Nat × Tidy) := [tT 0 [1, 2], tT 1 [1, 2, 4], tT 2 [1, 2, 4, 13, 14], tT 3 [1, 2, 4, 13, 14, 15], tT 4 [1, 2, 4, 5, 6, 13, 14], tT 5 [1, 2, 4, 5, 7, 8, 13, 14], tT 6 [1, 2, 4, 5, 7, 8, 13, 14, 25], tT 7 [2, 3], tT 8 [1, 2, 4, 13, 14], tT 9 [1, 2, 4, 13, 14], tT 10 [2, 9, 10], tT 11 [2, 9, 10, 42], tT 12 [2, 3], tT 13 [2, 9, 10, 11, 12], tT 14 [2, 9, 10, 11, 12, 47], tT 15 [2, 9, 10, 11, 12], tT 16 [2, 9, 10, 11, 56], tT 17 [2, 9, 10, 11], tT 18 [2, 3]]
def tl28 : List (Nat × Tidy) := [(3, ⟨[1, 2, 4, 13, 14], true, [⟨true, 1, 2, 30102, 1⟩, ⟨true, 1, 3, 30103, 1⟩, ⟨true, 1, 4, 30104, 1⟩], []⟩), (14, ⟨[2, 9, 10, 11, 12], true, [⟨true, 1, 2, 30102, 1⟩, ⟨true, 1, 3, 30103, 1⟩, ⟨true, 1, 4, 30104, 1⟩], []⟩)]
def rs28 : List AResV := [.cell 2 true 2, .tmp 3]
def p28_0_0 : PT St := pS [sl 2 (aV false [(cPtr 2 0)]), sl 9 (aV false [(cD (dI .i64))]), sl 10 (aV false [(cD (dI .i64))]), sl 11 (aV false [(cD (dI .i64))]), sl 12 (aV false [(cD (dI .i64))])] [eBox 2 [(cD (dI .i64)), (cD (dI .i64))]]
def u28_0_0 {β : Type} (g : St → β) : Int → Int → Int → Int → Int → Int → β := p28_0_0.unc g
def p28_0_1 : PT St := pS [sl 2 (aV false [(cPtr 2 0)]), sl 9 (aV false [(cD (dI .i64))]), sl 10 (aV false [(cD (dI .i64))]), sl 11 (aV false [(cD (dI .i64))]), sl 12 (aV false [(cD (dI .i64))]), sl 47 (aV false [(cD dB)])] [eBox 2 [(cD (dI .i64)), (cD (dI .i64))]]
def u28_0_1 {β : Type} (g : St → β) : Int → Int → Int → Int → Bool → Int → Int → β := p28_0_1.unc g
def p28_0_2 : PT St := pS [sl 2 (aV false [(cPtr 2 0)]), sl 9 (aV false [(cD (dI .i64))]), sl 10 (aV false [(cD (dI .i64))]), sl 11 (aV false [(cD (dI .i64))])] [eBox 2 [(cD (dI .i64)), (cD (dI .i64))]]
def u28_0_2 {β : Type} (g : St → β) : Int → Int → Int → Int → Int → β := p28_0_2.unc g
def p28_0_3 : PT St := pS [sl 2 (aV false [(cPtr 2 0)]), sl 9 (aV false [(cD (dI .i64))]), sl 10 (aV false [(cD (dI .i64))]), sl 11 (aV false [(cD (dI .i64))]), sl 56 (aV false [(cD dB)])] [eBox 2 [(cD (dI .i64)), (cD (dI .i64))]]
def u28_0_3 {β : Type} (g : St → β) : Int → Int → Int → Bool → Int → Int → β := p28_0_3.unc g
def pr28_0_0 : PT (List RV) := pRs [pR true [rD (dI .i64), rD (dI .i64)], pR false [rD (dI .i64)]]
def ur28_0_0 {β : Type} (g : List RV → β) : Int → Int → Int → β := pr28_0_0.unc g
def E28_0g (vf17_0 : Tf17_0) : EnvK := EnvK.of [⟨17, nt17, [⟨pa17_0, Fn17_0 vf17_0⟩]⟩] noSeq
noncomputable def E28_0 : EnvK := E28_0g f17_0
theorem eo28_0 : E28_0.Ok Tryz.prog := EnvK.of_ok noSeq_ok ⟨⟨io17_0, trivial⟩, trivial⟩
noncomputable def c28_0_47g  : MCode := (.seq (.region r28_49 [] (tO [2, 9, 10, 11, 56])) (.cond (.tmp 56) (.region r28_51 [] (tO [2, 9, 10, 11])) .skip))
noncomputable def c28_0_47 : MCode := c28_0_47g 
theorem g28_0_47 : c28_0_47.Good Tryz.prog E28_0 sh28 := ⟨trivial, ⟨trivial, trivial⟩⟩
--CODE 47 0
abbrev TJ28_0_1 : Type 1 := (α : Type) → Int → Int → (Int → Option α) → (Bool → Option α) → Option α
def J28_0_1g  (α : Type) (x29 x30 : Int) (k1 : Int → Option α) (k2 : Bool → Option α) : Option α :=
 cK (!((decide (x30 < 0)) == (decide (x29 < 0))))
 (k1 (w64 (0 - x30)))
 (k2 (!((decide (x30 < 0)) == (decide (x29 < 0)))))
noncomputable def J28_0_1 (α : Type) (x29 x30 : Int) (k1 : Int → Option α) (k2 : Bool → Option α) : Option α := J28_0_1g  α x29 x30 k1 k2
def F28_0_1 (v : TJ28_0_1) (α : Type) (K : Exit → St → Option α) : Int → Int → Int → Int → Bool → Int → Int → Option α := fun x28 x29 x30 x31 x32 x33 x34 => v α x29 x30 (fun (y1 : Int) => u28_0_2 (K .normal) x28 x29 y1 x33 x34) (fun (y1 : Bool) => u28_0_3 (K .normal) x28 x29 x30 y1 x33 x34) 
theorem m28_0_1g (vf17_0 : Tf17_0)  (α : Type) (K : Exit → St → Option α) : F28_0_1 (J28_0_1g ) α K = p28_0_1.unc fun σ => runM Tryz.prog (E28_0g vf17_0) sh28 (c28_0_47g ) K σ := by kernel_rfl
theorem m28_0_1 : ∀ (α : Type) (K : Exit → St → Option α), F28_0_1 J28_0_1 α K = p28_0_1.unc fun σ => runM Tryz.prog E28_0 sh28 c28_0_47 K σ := m28_0_1g f17_0
noncomputable def c28_0_40g  : MCode := (.seq (.seq (.region r28_43 [] (tO [2, 9, 10, 11, 12, 47])) (.cond (.tmp 47) .skip (.exit 2))) (.block 3 (.region r28_46 [] (tO [2, 9, 10, 11, 12]))))
noncomputable def c28_0_40 : MCode := c28_0_40g 
theorem g28_0_40 : c28_0_40.Good Tryz.prog E28_0 sh28 := ⟨⟨trivial, ⟨trivial, trivial⟩⟩, trivial⟩
--CODE 40 0
def S28_0_0g  (α : Type)  (x19 x20 : Int) (kn : Int → Int → Option α) (k1 : Int → Int → Bool → Option α) : Option α :=
 cK (x20 != 0)
 (gK (x20 != 0) (kn x20 (Int.tmod x19 x20)))
 (k1 x19 x20 (x20 != 0))
noncomputable def S28_0_0 (α : Type)  (x19 x20 : Int) (kn : Int → Int → Option α) (k1 : Int → Int → Bool → Option α) : Option α := S28_0_0g  α  x19 x20 kn k1
noncomputable def R28_0_0 (α : Type)  (k1 : Int → Int → Bool → Option α) : Nat → Int → Int → Option α
 | 0, _, _ => none
 | n + 1, x19, x20 => S28_0_0 α  x19 x20 (R28_0_0 α  k1 n) k1
noncomputable def L28_0_0 (α : Type)  (k1 : Int → Int → Bool → Option α) (x19 x20 : Int) : Option α := R28_0_0 α  k1 fuel x19 x20
abbrev TL28_0_0 : Type 1 := (α : Type) → (Int → Int → Bool → Option α) → Int → Int → Option α
def F28_0_0 (v : TL28_0_0) (α : Type) (K : Exit → St → Option α) : Int → Int → Int → Int → Int → Int → Option α := fun x17 x18 x19 x20 x21 x22 => v α  (fun (y1 : Int) (y2 : Int) (y3 : Bool) => u28_0_1 (K (.exit 2)) x17 x18 y1 y2 y3 x21 x22) x19 x20
theorem r28_0_0g (vf17_0 : Tf17_0)  (α : Type) (K : Exit → St → Option α) (Kn : St → Option α) (x17 x18 x19 x20 x21 x22 : Int) : u28_0_0 (fun σ => runM Tryz.prog (E28_0g vf17_0) sh28 (c28_0_40g ) (thenK (fun σ => tidyK td28_40 σ Kn) K) σ) x17 x18 x19 x20 x21 x22 = S28_0_0g  α  x19 x20 (fun x19 x20 => u28_0_0 Kn x17 x18 x19 x20 x21 x22) (fun (y1 : Int) (y2 : Int) (y3 : Bool) => u28_0_1 (K (.exit 2)) x17 x18 y1 y2 y3 x21 x22) := by kernel_rfl
theorem r28_0_0 (α : Type) (K : Exit → St → Option α) (Kn : St → Option α) (x17 x18 x19 x20 x21 x22 : Int) : u28_0_0 (fun σ => runM Tryz.prog E28_0 sh28 c28_0_40 (thenK (fun σ => tidyK td28_40 σ Kn) K) σ) x17 x18 x19 x20 x21 x22 = S28_0_0 α  x19 x20 (fun x19 x20 => u28_0_0 Kn x17 x18 x19 x20 x21 x22) (fun (y1 : Int) (y2 : Int) (y3 : Bool) => u28_0_1 (K (.exit 2)) x17 x18 y1 y2 y3 x21 x22) := r28_0_0g f17_0 α K Kn x17 x18 x19 x20 x21 x22
theorem t28_0_0 (α : Type) (K : Exit → St → Option α) : ∀ (n : Nat) (x17 x18 x19 x20 x21 x22 : Int), R28_0_0 α  (fun (y1 : Int) (y2 : Int) (y3 : Bool) => u28_0_1 (K (.exit 2)) x17 x18 y1 y2 y3 x21 x22) n x19 x20 = u28_0_0 (loopT (runM Tryz.prog E28_0 sh28 c28_0_40) td28_40 K n) x17 x18 x19 x20 x21 x22 := by
 intro n
 induction n with
 | zero => intros; rfl
 | succ n ih => intro x17 x18 x19 x20 x21 x22; exact (congrArg (fun kn => S28_0_0 α  x19 x20 kn (fun (y1 : Int) (y2 : Int) (y3 : Bool) => u28_0_1 (K (.exit 2)) x17 x18 y1 y2 y3 x21 x22)) (funext fun x19 => funext fun x20 => ih x17 x18 x19 x20 x21 x22)).trans (r28_0_0 α K (loopT (runM Tryz.prog E28_0 sh28 c28_0_40) td28_40 K n) x17 x18 x19 x20 x21 x22).symm
theorem m28_0_0 : ∀ (α : Type) (K : Exit → St → Option α), F28_0_0 L28_0_0 α K = p28_0_0.unc fun σ => loopT (runM Tryz.prog E28_0 sh28 c28_0_40) td28_40 K fuel σ := fun α K => funext fun x17 => funext fun x18 => funext fun x19 => funext fun x20 => funext fun x21 => funext fun x22 => t28_0_0 α K fuel x17 x18 x19 x20 x21 x22
abbrev Tf28_0 : Type 1 := (α : Type) → ByteArray → Int → Rows → Rows → Rows → Int → Int → (Int → Int → Int → Option α) → Option α
def f28_0g (vJ28_0_1 : TJ28_0_1) (vL28_0_0 : TL28_0_0) (vf17_0 : Tf17_0) (α : Type) (x1 : ByteArray) (x2 : Int) (x3 x4 x5 : Rows) (x6 x7 : Int) (k1 : Int → Int → Int → Option α) : Option α :=
 vf17_0 α x1 x2 x3 x4 x5 x6 x7 5876
 (fun x8 x9 x10 => cK (x10 != 0)
 (k1 0 0 x10)
 (vf17_0 α x1 x2 x3 x4 x5 x6 x7 4861
 (fun x11 x12 x13 => cK (x13 != 0)
 (k1 0 0 x13)
 (vf17_0 α x1 x2 x3 x4 x5 x6 x7 6563
 (fun x14 x15 x16 => cK (x16 != 0)
 (k1 0 0 x16)
 (cK ((w64 (x11 - x14)) == 0)
 (k1 0 0 9)
 (vL28_0_0 α
 (fun x24 x25 x26 => vJ28_0_1 α (w64 (x11 - x14)) x24
 (fun x36 => gK (x36 != 0) (gK (x36 != 0) (k1 (w64 (Int.tdiv (w64 (x8 - 10000)) x36)) (w64 (Int.tdiv (w64 (x11 - x14)) x36)) 0)))
 (fun x37 => gK (x24 != 0) (gK (x24 != 0) (k1 (w64 (Int.tdiv (w64 (x8 - 10000)) x24)) (w64 (Int.tdiv (w64 (x11 - x14)) x24)) 0)))) (w64 (x8 - 10000)) (w64 (x11 - x14)))))))))
noncomputable def f28_0 (α : Type) (x1 : ByteArray) (x2 : Int) (x3 x4 x5 : Rows) (x6 x7 : Int) (k1 : Int → Int → Int → Option α) : Option α := f28_0g J28_0_1 L28_0_0 f17_0 α x1 x2 x3 x4 x5 x6 x7 k1
def pa28_0 : PT (List DV) := pA [pV true [dS, (dI .i64), dL, dL, dL, (dI .i64), (dI .i64)]]
def Fn28_0 (v : Tf28_0) (α : Type) (k : List RV → Option α) : ByteArray → Int → Rows → Rows → Rows → Int → Int → Option α := fun x1 x2 x3 x4 x5 x6 x7 => v α x1 x2 x3 x4 x5 x6 x7 (fun (y1 : Int) (y2 : Int) (y3 : Int) => ur28_0_0 k y1 y2 y3)
noncomputable def cm28_0g (vL28_0_0 : TL28_0_0) (vJ28_0_1 : TJ28_0_1) : MCode := (.seq (.region r28_2 [] (tO [1, 2])) (.seq (.region r28_4 [] (tO [1, 2, 4])) (.seq (.seq (.region r28_7 [] (tO [1, 2, 4, 13, 14])) (.block 0 (.loopU 4 td28_9 (.seq (.region r28_11 [] (tO [1, 2, 4, 13, 14, 15])) (.seq (.cond (.tmp 15) .skip (.exit 0)) (.seq (.block 1 (.seq (.region r28_17 [] (tO [1, 2, 4, 5, 6, 13, 14])) (.seq (.region r28_19 [] (tO [1, 2, 4, 5, 7, 8, 13, 14])) (.seq (.seq (.region r28_22 [] (tO [1, 2, 4, 5, 7, 8, 13, 14, 25])) (.cond (.tmp 25) (.seq (.region r28_25 [] (tO [2, 3])) .ret) .skip)) (.region r28_26 [] (tO [1, 2, 4, 13, 14])))))) (.region r28_27 [] (tO [1, 2, 4, 13, 14])))))))) (.seq (.region r28_29 [] (tO [2, 9, 10])) (.seq (.seq (.region r28_32 [] (tO [2, 9, 10, 42])) (.cond (.tmp 42) (.seq (.region r28_35 [] (tO [2, 3])) .ret) .skip)) (.seq (.region r28_37 [] (tO [2, 9, 10, 11, 12])) (.seq (.block 2 (.loop td28_40 [⟨p28_0_0, F28_0_0 vL28_0_0⟩] c28_0_40)) (.seq (.mark [⟨p28_0_1, F28_0_1 vJ28_0_1⟩] c28_0_47) (.seq (.region r28_53 [] (tO [2, 3])) .ret)))))))))
noncomputable def cm28_0 : MCode := cm28_0g L28_0_0 J28_0_1
theorem gm28_0 : cm28_0.Good Tryz.prog E28_0 sh28 := ⟨trivial, ⟨trivial, ⟨⟨trivial, ⟨⟨trivial, ⟨⟨trivial, trivial⟩, ⟨⟨trivial, ⟨trivial, ⟨⟨trivial, ⟨⟨trivial, trivial⟩, trivial⟩⟩, trivial⟩⟩⟩, trivial⟩⟩⟩, by decide⟩⟩, ⟨trivial, ⟨⟨trivial, ⟨⟨trivial, trivial⟩, trivial⟩⟩, ⟨trivial, ⟨⟨g28_0_40, m28_0_0, trivial⟩, ⟨⟨g28_0_47, m28_0_1, trivial⟩, ⟨trivial, trivial⟩⟩⟩⟩⟩⟩⟩⟩⟩
theorem fm28_0g (vf17_0 : Tf17_0) (vL28_0_0 : TL28_0_0) (vJ28_0_1 : TJ28_0_1) (α : Type) (k : List RV → Option α) : Fn28_0 (f28_0g vJ28_0_1 vL28_0_0 vf17_0) α k = pa28_0.unc fun ds => fnM Tryz.prog (E28_0g vf17_0) sh28 (cm28_0g vL28_0_0 vJ28_0_1) rs28 k ds := by kernel_rfl
theorem fm28_0 : ∀ (α : Type) (k : List RV → Option α), Fn28_0 f28_0 α k = pa28_0.unc fun ds => fnM Tryz.prog E28_0 sh28 cm28_0 rs28 k ds := fm28_0g f17_0 L28_0_0 J28_0_1
theorem is28 : FnIs Tryz.prog 28 nt28 tr28 tl28 cm28_0.erase rs28 := ⟨Tryz.f28, Tryz.func28, rfl, by kernel_rfl, by kernel_rfl, by kernel_rfl⟩
theorem io28_0 : InstOk Tryz.prog 28 nt28 ⟨pa28_0, Fn28_0 f28_0⟩ := inst_ok eo28_0 followsTry is28 ⟨⟨sh28, cm28_0, by kernel_rfl, gm28_0, fm28_0⟩⟩
abbrev nt5 : Nat := 39
def sh5 : List (Nat × List Sh) := [(10, [.str, .int .i64, .sl, .sl, .sl, .int .i64, .int .i64]), (14, [.str, .int .i64, .sl, .sl, .sl, .int .i64, .int .i64]), (20, [.str, .int .i64, .sl, .sl, .sl, .int .i64, .int .i64]), (27, [.str, .int .i64, .sl, .sl, .sl, .int .i64, .int .i64]), (35, [.int .i64, .int .i64]), (36, [.int .i64, .int .i64])]
def r5_2 : List AOper := [oO 1 (.box (.tmp 0)), oO 2 (.mv (.const (.bool false)))]
def r5_5 : List AOper := [oO 8 (.call 9 []), oO 9 (.pure (oB (.unOp .not 4 (.tmp 8)) 4))]
def r5_8 : List AOper := [oO 2 (.mv (.const (.bool false)))]
def r5_11 : List AOper := [oO 10 (.load true 7 (.tmp 1)), oO 11 (.call 16 [(.tmp 10)]), oO 12 (.pure (oB (.unOp .not 4 (.tmp 11)) 4))]
def r5_14 : List AOper := [oO 2 (.mv (.const (.bool true)))]
def r5_16 : List AOper := [oO 14 (.load true 7 (.tmp 1)), oO 15 (.call 18 [(.tmp 14)]), oO 16 (.call 28 [(.tmp 15)]), oM 13 16, oO 17 (.extract 0 (.tmp 13)), oO 18 (.extract 1 (.tmp 13)), oO 3 (.alloc [(cI 0), (cI 0)]), oD (.store 2 (.tmp 3) (.tmp 17)), oM 4 18]
def r5_18 : List AOper := [oO 20 (.load true 7 (.tmp 1)), oO 21 (.call 21 [(.tmp 20)]), oM 19 21, oO 22 (.extract 0 (.tmp 19)), oO 23 (.extract 1 (.tmp 19)), oM 5 22, oM 6 23]
def r5_20 : List AOper := [oO 7 (.alloc [(cI 0), (cI 0)])]
def r5_23 : List AOper := [oM 24 6, oO 25 (.bin .eql 3 (.tmp 24) (kI 0))]
def r5_25 : List AOper := [oO 27 (.load true 7 (.tmp 1)), oO 28 (.call 29 [(.tmp 27)]), oM 26 28, oO 29 (.extract 0 (.tmp 26)), oO 30 (.extract 1 (.tmp 26)), oD (.store 2 (.tmp 7) (.tmp 29)), oM 6 30]
def r5_27 : List AOper := [oM 31 4, oM 32 6, oO 33 (.bin .eql 3 (.tmp 31) (.tmp 32)), oM 34 33, oG 35 (.load true 2 (.tmp 3)) 34 true, oG 36 (.load true 2 (.tmp 7)) 34 true, oG 37 (.bin .eql 66 (.tmp 35) (.tmp 36)) 34 true, oO 38 (.pick (.tmp 34) (.tmp 37) (.const (.bool false))), oM 2 38]
def tr5 : List (Nat × Tidy) := [tT 0 [1], tT 1 [1, 9], tT 2 [2], tT 3 [1, 12], tT 4 [2], tT 5 [1, 3, 4], tT 6 [1, 3, 4, 6], tT 7 [1, 3, 4, 6, 7], tT 8 [1, 3, 4, 6, 7, 25], tT 9 [3, 4, 6, 7], tT 10 [2]]
def tl5 : List (Nat × Tidy) := []
def rs5 : List AResV := [.tmp 2]
def p5_0_0 : PT St := pS [sl 1 (aV false [(cPtr 1 0)]), sl 3 (aV false [(cPtr 3 0)]), sl 4 (aV false [(cD (dI .i64))]), sl 6 (aV false [(cD (dI .i64))]), sl 7 (aV false [(cPtr 7 0)])] [eBox 1 [(cD dS), (cD (dI .i64)), (cD dL), (cD dL), (cD dL), (cD (dI .i64)), (cD (dI .i64))], eBox 3 [(cD (dI .i64)), (cD (dI .i64))], eBox 7 [(cD (dI .i64)), (cD (dI .i64))]]
def u5_0_0 {β : Type} (g : St → β) : Int → Int → ByteArray → Int → Rows → Rows → Rows → Int → Int → Int → Int → Int → Int → β := p5_0_0.unc g
def p5_0_1 : PT St := pS [sl 3 (aV false [(cPtr 3 0)]), sl 4 (aV false [(cD (dI .i64))]), sl 6 (aV false [(cD (dI .i64))]), sl 7 (aV false [(cPtr 7 0)])] [eBox 3 [(cD (dI .i64)), (cD (dI .i64))], eBox 7 [(cD (dI .i64)), (cD (dI .i64))]]
def u5_0_1 {β : Type} (g : St → β) : Int → Int → Int → Int → Int → Int → β := p5_0_1.unc g
def p5_0_2 : PT St := pS [sl 1 (aV false [(cPtr 1 0)]), sl 3 (aV false [(cPtr 3 0)]), sl 4 (aV false [(cD (dI .i64))]), sl 6 (aV false [(cD (dI .i64))]), sl 7 (aV false [(cPtr 7 0)]), sl 25 (aV false [(cD dB)])] [eBox 1 [(cD dS), (cD (dI .i64)), (cD dL), (cD dL), (cD dL), (cD (dI .i64)), (cD (dI .i64))], eBox 3 [(cD (dI .i64)), (cD (dI .i64))], eBox 7 [(cD (dI .i64)), (cD (dI .i64))]]
def u5_0_2 {β : Type} (g : St → β) : Int → Int → Bool → ByteArray → Int → Rows → Rows → Rows → Int → Int → Int → Int → Int → Int → β := p5_0_2.unc g
def pr5_0_0 : PT (List RV) := pRs [pR false [rD dB]]
def ur5_0_0 {β : Type} (g : List RV → β) : Bool → β := pr5_0_0.unc g
def E5_0g (vf9_0 : Tf9_0) (vf16_0 : Tf16_0) (vf18_0 : Tf18_0) (vf28_0 : Tf28_0) (vf21_0 : Tf21_0) (vf29_0 : Tf29_0) : EnvK := EnvK.of [⟨9, nt9, [⟨pa9_0, Fn9_0 vf9_0⟩]⟩, ⟨16, nt16, [⟨pa16_0, Fn16_0 vf16_0⟩]⟩, ⟨18, nt18, [⟨pa18_0, Fn18_0 vf18_0⟩]⟩, ⟨28, nt28, [⟨pa28_0, Fn28_0 vf28_0⟩]⟩, ⟨21, nt21, [⟨pa21_0, Fn21_0 vf21_0⟩]⟩, ⟨29, nt29, [⟨pa29_0, Fn29_0 vf29_0⟩]⟩] noSeq
noncomputable def E5_0 : EnvK := E5_0g f9_0 f16_0 f18_0 f28_0 f21_0 f29_0
theorem eo5_0 : E5_0.Ok Tryz.prog := EnvK.of_ok noSeq_ok ⟨⟨io9_0, trivial⟩, ⟨io16_0, trivial⟩, ⟨io18_0, trivial⟩, ⟨io28_0, trivial⟩, ⟨io21_0, trivial⟩, ⟨io29_0, trivial⟩, trivial⟩
noncomputable def c5_0_21g  : MCode := (.seq (.region r5_23 [] (tO [1, 3, 4, 6, 7, 25])) (.cond (.tmp 25) (.region r5_25 [] (tO [3, 4, 6, 7])) .skip))
noncomputable def c5_0_21 : MCode := c5_0_21g 
theorem g5_0_21 : c5_0_21.Good Tryz.prog E5_0 sh5 := ⟨trivial, ⟨trivial, trivial⟩⟩
--CODE 21 0
abbrev TJ5_0_0 : Type 1 := (α : Type) → Int → ByteArray → Int → Rows → Rows → Rows → Int → Int → (Int → Int → Int → Option α) → (Bool → Option α) → Option α
def J5_0_0g (vf29_0 : Tf29_0) (α : Type) (x22 : Int) (x23 : ByteArray) (x24 : Int) (x25 x26 x27 : Rows) (x28 x29 : Int) (k1 : Int → Int → Int → Option α) (k2 : Bool → Option α) : Option α :=
 cK (x22 == 0)
 (vf29_0 α x23 x24 x25 x26 x27 x28 x29
 (fun x35 x36 x37 => k1 x37 x35 x36))
 (k2 (x22 == 0))
noncomputable def J5_0_0 (α : Type) (x22 : Int) (x23 : ByteArray) (x24 : Int) (x25 x26 x27 : Rows) (x28 x29 : Int) (k1 : Int → Int → Int → Option α) (k2 : Bool → Option α) : Option α := J5_0_0g f29_0 α x22 x23 x24 x25 x26 x27 x28 x29 k1 k2
def F5_0_0 (v : TJ5_0_0) (α : Type) (K : Exit → St → Option α) : Int → Int → ByteArray → Int → Rows → Rows → Rows → Int → Int → Int → Int → Int → Int → Option α := fun x21 x22 x23 x24 x25 x26 x27 x28 x29 x30 x31 x32 x33 => v α x22 x23 x24 x25 x26 x27 x28 x29 (fun (y1 : Int) (y2 : Int) (y3 : Int) => u5_0_1 (K .normal) x21 y1 x30 x31 y2 y3) (fun (y1 : Bool) => u5_0_2 (K .normal) x21 x22 y1 x23 x24 x25 x26 x27 x28 x29 x30 x31 x32 x33) 
theorem m5_0_0g (vf9_0 : Tf9_0) (vf16_0 : Tf16_0) (vf18_0 : Tf18_0) (vf28_0 : Tf28_0) (vf21_0 : Tf21_0) (vf29_0 : Tf29_0)  (α : Type) (K : Exit → St → Option α) : F5_0_0 (J5_0_0g vf29_0) α K = p5_0_0.unc fun σ => runM Tryz.prog (E5_0g vf9_0 vf16_0 vf18_0 vf28_0 vf21_0 vf29_0) sh5 (c5_0_21g ) K σ := by kernel_rfl
theorem m5_0_0 : ∀ (α : Type) (K : Exit → St → Option α), F5_0_0 J5_0_0 α K = p5_0_0.unc fun σ => runM Tryz.prog E5_0 sh5 c5_0_21 K σ := m5_0_0g f9_0 f16_0 f18_0 f28_0 f21_0 f29_0
abbrev Tf5_0 : Type 1 := (α : Type) → ByteArray → Int → Rows → Rows → Rows → Int → Int → (Bool → Option α) → Option α
def f5_0g (vJ5_0_0 : TJ5_0_0) (vf16_0 : Tf16_0) (vf18_0 : Tf18_0) (vf21_0 : Tf21_0) (vf28_0 : Tf28_0) (vf9_0 : Tf9_0) (α : Type) (x1 : ByteArray) (x2 : Int) (x3 x4 x5 : Rows) (x6 x7 : Int) (k1 : Bool → Option α) : Option α :=
 vf9_0 α 
 (vf16_0 α x1 x2 x3 x4 x5 x6 x7
 (fun x8 => cK (!x8)
 (k1 true)
 (vf18_0 α x1 x2 x3 x4 x5 x6 x7
 (fun x9 x10 x11 x12 x13 x14 x15 => vf28_0 α x9 x10 x11 x12 x13 x14 x15
 (fun x16 x17 x18 => vf21_0 α x1 x2 x3 x4 x5 x6 x7
 (fun x19 x20 => vJ5_0_0 α x20 x1 x2 x3 x4 x5 x6 x7
 (fun x38 x39 x40 => cK (x18 == x38)
 (k1 ((x16 == x39) && ((x17 == x40) && true)))
 (k1 false))
 (fun x41 => cK (x18 == x20)
 (k1 ((x16 == 0) && ((x17 == 0) && true)))
 (k1 false))))))))
noncomputable def f5_0 (α : Type) (x1 : ByteArray) (x2 : Int) (x3 x4 x5 : Rows) (x6 x7 : Int) (k1 : Bool → Option α) : Option α := f5_0g J5_0_0 f16_0 f18_0 f21_0 f28_0 f9_0 α x1 x2 x3 x4 x5 x6 x7 k1
def pa5_0 : PT (List DV) := pA [pV true [dS, (dI .i64), dL, dL, dL, (dI .i64), (dI .i64)]]
def Fn5_0 (v : Tf5_0) (α : Type) (k : List RV → Option α) : ByteArray → Int → Rows → Rows → Rows → Int → Int → Option α := fun x1 x2 x3 x4 x5 x6 x7 => v α x1 x2 x3 x4 x5 x6 x7 (fun (y1 : Bool) => ur5_0_0 k y1)
noncomputable def cm5_0g (vJ5_0_0 : TJ5_0_0) : MCode := (.seq (.region r5_2 [] (tO [1])) (.seq (.seq (.region r5_5 [] (tO [1, 9])) (.cond (.tmp 9) (.seq (.region r5_8 [] (tO [2])) .ret) .skip)) (.seq (.seq (.region r5_11 [] (tO [1, 12])) (.cond (.tmp 12) (.seq (.region r5_14 [] (tO [2])) .ret) .skip)) (.seq (.region r5_16 [] (tO [1, 3, 4])) (.seq (.region r5_18 [] (tO [1, 3, 4, 6])) (.seq (.region r5_20 [] (tO [1, 3, 4, 6, 7])) (.seq (.mark [⟨p5_0_0, F5_0_0 vJ5_0_0⟩] c5_0_21) (.seq (.region r5_27 [] (tO [2])) .ret))))))))
noncomputable def cm5_0 : MCode := cm5_0g J5_0_0
theorem gm5_0 : cm5_0.Good Tryz.prog E5_0 sh5 := ⟨trivial, ⟨⟨trivial, ⟨⟨trivial, trivial⟩, trivial⟩⟩, ⟨⟨trivial, ⟨⟨trivial, trivial⟩, trivial⟩⟩, ⟨trivial, ⟨trivial, ⟨trivial, ⟨⟨g5_0_21, m5_0_0, trivial⟩, ⟨trivial, trivial⟩⟩⟩⟩⟩⟩⟩⟩
theorem fm5_0g (vf9_0 : Tf9_0) (vf16_0 : Tf16_0) (vf18_0 : Tf18_0) (vf28_0 : Tf28_0) (vf21_0 : Tf21_0) (vf29_0 : Tf29_0) (vJ5_0_0 : TJ5_0_0) (α : Type) (k : List RV → Option α) : Fn5_0 (f5_0g vJ5_0_0 vf16_0 vf18_0 vf21_0 vf28_0 vf9_0) α k = pa5_0.unc fun ds => fnM Tryz.prog (E5_0g vf9_0 vf16_0 vf18_0 vf28_0 vf21_0 vf29_0) sh5 (cm5_0g vJ5_0_0) rs5 k ds := by kernel_rfl
theorem fm5_0 : ∀ (α : Type) (k : List RV → Option α), Fn5_0 f5_0 α k = pa5_0.unc fun ds => fnM Tryz.prog E5_0 sh5 cm5_0 rs5 k ds := fm5_0g f9_0 f16_0 f18_0 f28_0 f21_0 f29_0 J5_0_0
theorem is5 : FnIs Tryz.prog 5 nt5 tr5 tl5 cm5_0.erase rs5 := ⟨Tryz.f5, Tryz.func5, rfl, by kernel_rfl, by kernel_rfl, by kernel_rfl⟩
theorem io5_0 : InstOk Tryz.prog 5 nt5 ⟨pa5_0, Fn5_0 f5_0⟩ := inst_ok eo5_0 followsTry is5 ⟨⟨sh5, cm5_0, by kernel_rfl, gm5_0, fm5_0⟩⟩
end Go.AM.K
