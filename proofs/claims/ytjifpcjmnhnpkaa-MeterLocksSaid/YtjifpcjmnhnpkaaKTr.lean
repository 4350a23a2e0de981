/- Printed by KGen. -/
import Derived.Test.YtjifpcjmnhnpkaaKTu
import Derived.Test.YtjifpcjmnhnpkaaMC1
namespace Go.AM.K
open Go.Proofs
set_option maxRecDepth 100000
set_option linter.unusedVariables false
abbrev nt57 : Nat := 21
def sh57 : List (Nat × List Sh) := []
def r57_2 : List AOper := [oO 4 (.mv (.const (.bool false)))]
def r57_4 : List AOper := [oM 5 0, oO 6 (.pure (oB (.call { callee := .builtin .real, args := #[(.tmp 5)], argTypes := #[26] }) 112)), oO 7 (.pure (oB (.call { callee := .value (.func 110), args := #[(.tmp 6)], argTypes := #[112] }) 191)), oM 8 1, oO 9 (.pure (oB (.call { callee := .builtin .real, args := #[(.tmp 8)], argTypes := #[26] }) 112)), oO 10 (.pure (oB (.call { callee := .value (.func 110), args := #[(.tmp 9)], argTypes := #[112] }) 191)), oO 11 (.bin .eql 191 (.tmp 7) (.tmp 10)), oM 12 11, oG 13 (.mv (.tmp 0)) 12 true, oG 14 (.pure (oB (.call { callee := .builtin .imag, args := #[(.tmp 13)], argTypes := #[26] }) 112)) 12 true, oG 15 (.pure (oB (.call { callee := .value (.func 110), args := #[(.tmp 14)], argTypes := #[112] }) 191)) 12 true, oG 16 (.mv (.tmp 1)) 12 true, oG 17 (.pure (oB (.call { callee := .builtin .imag, args := #[(.tmp 16)], argTypes := #[26] }) 112)) 12 true, oG 18 (.pure (oB (.call { callee := .value (.func 110), args := #[(.tmp 17)], argTypes := #[112] }) 191)) 12 true, oG 19 (.bin .eql 191 (.tmp 15) (.tmp 18)) 12 true, oO 20 (.pick (.tmp 12) (.tmp 19) (.const (.bool false))), oM 4 20]
def tr57 : List (Nat × Tidy) := [tT 0 [0, 1], tT 1 [4]]
def tl57 : List (Nat × Tidy) := []
def rs57 : List AResV := [.tmp 4]
def pr57_0_0 : PT (List RV) := pRs [pR false [rD dB]]
def ur57_0_0 {β : Type} (g : List RV → β) : Bool → β := pr57_0_0.unc g
def E57_0g  : EnvK := EnvK.of [] noSeq
noncomputable def E57_0 : EnvK := E57_0g 
theorem eo57_0 : E57_0.Ok Try.prog := EnvK.of_ok noSeq_ok trivial
abbrev Tf57_0 : Type 1 := (α : Type) → Nat → Nat → Nat → Nat → (Bool → Option α) → Option α
def f57_0g  (α : Type) (x1 x2 x3 x4 : Nat) (k1 : Bool → Option α) : Option α :=
 cK (((x1 : Nat) : Int) == ((x3 : Nat) : Int))
 (k1 (((x2 : Nat) : Int) == ((x4 : Nat) : Int)))
 (k1 false)
noncomputable def f57_0 (α : Type) (x1 x2 x3 x4 : Nat) (k1 : Bool → Option α) : Option α := f57_0g  α x1 x2 x3 x4 k1
def pa57_0 : PT (List DV) := pA [pV false [(dX .f64)], pV false [(dX .f64)]]
def Fn57_0 (v : Tf57_0) (α : Type) (k : List RV → Option α) : Nat → Nat → Nat → Nat → Option α := fun x1 x2 x3 x4 => v α x1 x2 x3 x4 (fun (y1 : Bool) => ur57_0_0 k y1)
noncomputable def cm57_0g  : MCode := (.seq (.region r57_2 [] (tO [0, 1])) (.seq (.region r57_4 [] (tO [4])) .ret))
noncomputable def cm57_0 : MCode := cm57_0g 
theorem gm57_0 : cm57_0.Good Try.prog E57_0 sh57 := ⟨trivial, ⟨trivial, trivial⟩⟩
theorem fm57_0g   (α : Type) (k : List RV → Option α) : Fn57_0 (f57_0g ) α k = pa57_0.unc fun ds => fnM Try.prog (E57_0g ) sh57 (cm57_0g ) rs57 k ds := by kernel_rfl
theorem fm57_0 : ∀ (α : Type) (k : List RV → Option α), Fn57_0 f57_0 α k = pa57_0.unc fun ds => fnM Try.prog E57_0 sh57 cm57_0 rs57 k ds := fm57_0g 
theorem is57 : FnIs Try.prog 57 nt57 tr57 tl57 cm57_0.erase rs57 := ⟨Try.f57, Try.func57, rfl, by kernel_rfl, by kernel_rfl, by kernel_rfl⟩
theorem io57_0 : InstOk Try.prog 57 nt57 ⟨pa57_0, Fn57_0 f57_0⟩ := inst_ok eo57_0 followsTry is57 ⟨⟨sh57, cm57_0, by kernel_rfl, gm57_0, fm57_0⟩⟩
abbrev nt74 : Nat := 10
def sh74 : List (Nat × List Sh) := []
def r74_2 : List AOper := [oO 4 (.mv (.const (.complex Go.FloatKind.f64 0 0)))]
def r74_4 : List AOper := [oM 5 0, oO 6 (.pure (oB (.convert 3 112 (.tmp 5)) 112)), oM 7 1, oO 8 (.pure (oB (.convert 3 112 (.tmp 7)) 112)), oO 9 (.pure (oB (.call { callee := .builtin .complex, args := #[(.tmp 6), (.tmp 8)], argTypes := #[112, 112] }) 26)), oM 4 9]
def tr74 : List (Nat × Tidy) := [tT 0 [0, 1], tT 1 [4]]
def tl74 : List (Nat × Tidy) := []
def rs74 : List AResV := [.tmp 4]
def pr74_0_0 : PT (List RV) := pRs [pR false [rD (dX .f64)]]
def ur74_0_0 {β : Type} (g : List RV → β) : Nat → Nat → β := pr74_0_0.unc g
def E74_0g  : EnvK := EnvK.of [] noSeq
noncomputable def E74_0 : EnvK := E74_0g 
theorem eo74_0 : E74_0.Ok Try.prog := EnvK.of_ok noSeq_ok trivial
abbrev Tf74_0 : Type 1 := (α : Type) → Int → Int → (Nat → Nat → Option α) → Option α
def f74_0g  (α : Type) (x1 x2 : Int) (k1 : Nat → Nat → Option α) : Option α :=
 k1 (FloatKind.nearest .f64 x1) (FloatKind.nearest .f64 x2)
noncomputable def f74_0 (α : Type) (x1 x2 : Int) (k1 : Nat → Nat → Option α) : Option α := f74_0g  α x1 x2 k1
def pa74_0 : PT (List DV) := pA [pV false [(dI .i64)], pV false [(dI .i64)]]
def Fn74_0 (v : Tf74_0) (α : Type) (k : List RV → Option α) : Int → Int → Option α := fun x1 x2 => v α x1 x2 (fun (y1 : Nat) (y2 : Nat) => ur74_0_0 k y1 y2)
noncomputable def cm74_0g  : MCode := (.seq (.region r74_2 [] (tO [0, 1])) (.seq (.region r74_4 [] (tO [4])) .ret))
noncomputable def cm74_0 : MCode := cm74_0g 
theorem gm74_0 : cm74_0.Good Try.prog E74_0 sh74 := ⟨trivial, ⟨trivial, trivial⟩⟩
theorem fm74_0g   (α : Type) (k : List RV → Option α) : Fn74_0 (f74_0g ) α k = pa74_0.unc fun ds => fnM Try.prog (E74_0g ) sh74 (cm74_0g ) rs74 k ds := by kernel_rfl
theorem fm74_0 : ∀ (α : Type) (k : List RV → Option α), Fn74_0 f74_0 α k = pa74_0.unc fun ds => fnM Try.prog E74_0 sh74 cm74_0 rs74 k ds := fm74_0g 
theorem is74 : FnIs Try.prog 74 nt74 tr74 tl74 cm74_0.erase rs74 := ⟨Try.f74, Try.func74, rfl, by kernel_rfl, by kernel_rfl, by kernel_rfl⟩
theorem io74_0 : InstOk Try.prog 74 nt74 ⟨pa74_0, Fn74_0 f74_0⟩ := inst_ok eo74_0 followsTry is74 ⟨⟨sh74, cm74_0, by kernel_rfl, gm74_0, fm74_0⟩⟩
abbrev nt69 : Nat := 10
def sh69 : List (Nat × List Sh) := [(4, [.int .i64]), (7, [.int .i64])]
def r69_2 : List AOper := [oO 1 (.box (.tmp 0)), oO 2 (.mv (.const (.complex Go.FloatKind.f64 0 0)))]
def r69_4 : List AOper := [oO 3 (.faddr 0 (.tmp 1)), oO 4 (.load false 1 (.tmp 3)), oO 5 (.pure (oB (.convert 3 112 (.tmp 4)) 112)), oO 6 (.faddr 1 (.tmp 1)), oO 7 (.load false 1 (.tmp 6)), oO 8 (.pure (oB (.convert 3 112 (.tmp 7)) 112)), oO 9 (.pure (oB (.call { callee := .builtin .complex, args := #[(.tmp 5), (.tmp 8)], argTypes := #[112, 112] }) 26)), oM 2 9]
def tr69 : List (Nat × Tidy) := [tT 0 [1], tT 1 [2]]
def tl69 : List (Nat × Tidy) := []
def rs69 : List AResV := [.tmp 2]
def pr69_0_0 : PT (List RV) := pRs [pR false [rD (dX .f64)]]
def ur69_0_0 {β : Type} (g : List RV → β) : Nat → Nat → β := pr69_0_0.unc g
def E69_0g  : EnvK := EnvK.of [] noSeq
noncomputable def E69_0 : EnvK := E69_0g 
theorem eo69_0 : E69_0.Ok Try.prog := EnvK.of_ok noSeq_ok trivial
abbrev Tf69_0 : Type 1 := (α : Type) → Int → Int → (Nat → Nat → Option α) → Option α
def f69_0g  (α : Type) (x1 x2 : Int) (k1 : Nat → Nat → Option α) : Option α :=
 k1 (FloatKind.nearest .f64 x1) (FloatKind.nearest .f64 x2)
noncomputable def f69_0 (α : Type) (x1 x2 : Int) (k1 : Nat → Nat → Option α) : Option α := f69_0g  α x1 x2 k1
def pa69_0 : PT (List DV) := pA [pV true [(dI .i64), (dI .i64)]]
def Fn69_0 (v : Tf69_0) (α : Type) (k : List RV → Option α) : Int → Int → Option α := fun x1 x2 => v α x1 x2 (fun (y1 : Nat) (y2 : Nat) => ur69_0_0 k y1 y2)
noncomputable def cm69_0g  : MCode := (.seq (.region r69_2 [] (tO [1])) (.seq (.region r69_4 [] (tO [2])) .ret))
noncomputable def cm69_0 : MCode := cm69_0g 
theorem gm69_0 : cm69_0.Good Try.prog E69_0 sh69 := ⟨trivial, ⟨trivial, trivial⟩⟩
theorem fm69_0g   (α : Type) (k : List RV → Option α) : Fn69_0 (f69_0g ) α k = pa69_0.unc fun ds => fnM Try.prog (E69_0g ) sh69 (cm69_0g ) rs69 k ds := by kernel_rfl
theorem fm69_0 : ∀ (α : Type) (k : List RV → Option α), Fn69_0 f69_0 α k = pa69_0.unc fun ds => fnM Try.prog E69_0 sh69 cm69_0 rs69 k ds := fm69_0g 
theorem is69 : FnIs Try.prog 69 nt69 tr69 tl69 cm69_0.erase rs69 := ⟨Try.f69, Try.func69, rfl, by kernel_rfl, by kernel_rfl, by kernel_rfl⟩
theorem io69_0 : InstOk Try.prog 69 nt69 ⟨pa69_0, Fn69_0 f69_0⟩ := inst_ok eo69_0 followsTry is69 ⟨⟨sh69, cm69_0, by kernel_rfl, gm69_0, fm69_0⟩⟩
abbrev nt119 : Nat := 35
def sh119 : List (Nat × List Sh) := [(12, [.int .i64]), (15, [.int .i64]), (20, [.int .i64]), (23, [.int .i64]), (29, [.int .i64]), (31, [.int .i64]), (34, [.int .i64, .int .i64])]
def r119_2 : List AOper := [oO 2 (.box (.tmp 0)), oO 4 (.alloc [(cI 0), (cI 0)])]
def r119_5 : List AOper := [oM 5 1, oO 6 (.bin .rem 3 (.tmp 5) (kI 4)), oO 7 (.bin .add 3 (.tmp 6) (kI 4)), oO 8 (.bin .rem 3 (.tmp 7) (kI 4))]
def r119_8 : List AOper := [oO 10 (.bin .eql 3 (.tmp 8) (kI 1)), oM 9 10]
def r119_11 : List AOper := [oO 11 (.faddr 1 (.tmp 2)), oO 12 (.load false 1 (.tmp 11)), oO 13 (.pure (oB (.unOp .neg 3 (.tmp 12)) 3)), oO 14 (.faddr 0 (.tmp 2)), oO 15 (.load false 1 (.tmp 14)), oO 16 (.build [(cI 0), (cI 0)] [(0, 1, (.tmp 13)), (1, 1, (.tmp 15))]), oD (.store 2 (.tmp 4) (.tmp 16))]
def r119_13 : List AOper := [oO 18 (.bin .eql 3 (.tmp 8) (kI 2)), oM 17 18]
def r119_16 : List AOper := [oO 19 (.faddr 0 (.tmp 2)), oO 20 (.load false 1 (.tmp 19)), oO 21 (.pure (oB (.unOp .neg 3 (.tmp 20)) 3)), oO 22 (.faddr 1 (.tmp 2)), oO 23 (.load false 1 (.tmp 22)), oO 24 (.pure (oB (.unOp .neg 3 (.tmp 23)) 3)), oO 25 (.build [(cI 0), (cI 0)] [(0, 1, (.tmp 21)), (1, 1, (.tmp 24))]), oD (.store 2 (.tmp 4) (.tmp 25))]
def r119_18 : List AOper := [oO 27 (.bin .eql 3 (.tmp 8) (kI 3)), oM 26 27]
def r119_21 : List AOper := [oO 28 (.faddr 1 (.tmp 2)), oO 29 (.load false 1 (.tmp 28)), oO 30 (.faddr 0 (.tmp 2)), oO 31 (.load false 1 (.tmp 30)), oO 32 (.pure (oB (.unOp .neg 3 (.tmp 31)) 3)), oO 33 (.build [(cI 0), (cI 0)] [(0, 1, (.tmp 29)), (1, 1, (.tmp 32))]), oD (.store 2 (.tmp 4) (.tmp 33))]
def r119_23 : List AOper := [oO 34 (.load true 2 (.tmp 2)), oD (.store 2 (.tmp 4) (.tmp 34))]
def tr119 : List (Nat × Tidy) := [tT 0 [1, 2, 4], tT 1 [2, 4, 8], tT 2 [2, 4, 8, 9], tT 3 [4], tT 4 [2, 4, 8, 17], tT 5 [4], tT 6 [2, 4, 26], tT 7 [4], tT 8 [4]]
def tl119 : List (Nat × Tidy) := []
def rs119 : List AResV := [.cell 4 true 2]
def pr119_0_0 : PT (List RV) := pRs [pR true [rD (dI .i64), rD (dI .i64)]]
def ur119_0_0 {β : Type} (g : List RV → β) : Int → Int → β := pr119_0_0.unc g
def E119_0g  : EnvK := EnvK.of [] noSeq
noncomputable def E119_0 : EnvK := E119_0g 
theorem eo119_0 : E119_0.Ok Try.prog := EnvK.of_ok noSeq_ok trivial
abbrev Tf119_0 : Type 1 := (α : Type) → Int → Int → Int → (Int → Int → Option α) → Option α
def f119_0g  (α : Type) (x1 x2 x3 : Int) (k1 : Int → Int → Option α) : Option α :=
 cK ((Int.tmod (w64 ((Int.tmod x3 4) + 4)) 4) == 1)
 (k1 (w64 (0 - x2)) x1)
 (cK ((Int.tmod (w64 ((Int.tmod x3 4) + 4)) 4) == 2)
 (k1 (w64 (0 - x1)) (w64 (0 - x2)))
 (cK ((Int.tmod (w64 ((Int.tmod x3 4) + 4)) 4) == 3)
 (k1 x2 (w64 (0 - x1)))
 (k1 x1 x2)))
noncomputable def f119_0 (α : Type) (x1 x2 x3 : Int) (k1 : Int → Int → Option α) : Option α := f119_0g  α x1 x2 x3 k1
def pa119_0 : PT (List DV) := pA [pV true [(dI .i64), (dI .i64)], pV false [(dI .i64)]]
def Fn119_0 (v : Tf119_0) (α : Type) (k : List RV → Option α) : Int → Int → Int → Option α := fun x1 x2 x3 => v α x1 x2 x3 (fun (y1 : Int) (y2 : Int) => ur119_0_0 k y1 y2)
noncomputable def cm119_0g  : MCode := (.seq (.region r119_2 [] (tO [1, 2, 4])) (.seq (.seq (.region r119_5 [] (tO [2, 4, 8])) (.block 0 (.seq (.region r119_8 [] (tO [2, 4, 8, 9])) (.cond (.tmp 9) (.seq (.region r119_11 [] (tO [4])) .ret) (.seq (.region r119_13 [] (tO [2, 4, 8, 17])) (.cond (.tmp 17) (.seq (.region r119_16 [] (tO [4])) .ret) (.seq (.region r119_18 [] (tO [2, 4, 26])) (.cond (.tmp 26) (.seq (.region r119_21 [] (tO [4])) .ret) .skip)))))))) (.seq (.region r119_23 [] (tO [4])) .ret)))
noncomputable def cm119_0 : MCode := cm119_0g 
theorem gm119_0 : cm119_0.Good Try.prog E119_0 sh119 := ⟨trivial, ⟨⟨trivial, ⟨trivial, ⟨⟨trivial, trivial⟩, ⟨trivial, ⟨⟨trivial, trivial⟩, ⟨trivial, ⟨⟨trivial, trivial⟩, trivial⟩⟩⟩⟩⟩⟩⟩, ⟨trivial, trivial⟩⟩⟩
theorem fm119_0g   (α : Type) (k : List RV → Option α) : Fn119_0 (f119_0g ) α k = pa119_0.unc fun ds => fnM Try.prog (E119_0g ) sh119 (cm119_0g ) rs119 k ds := by kernel_rfl
theorem fm119_0 : ∀ (α : Type) (k : List RV → Option α), Fn119_0 f119_0 α k = pa119_0.unc fun ds => fnM Try.prog E119_0 sh119 cm119_0 rs119 k ds := fm119_0g 
theorem is119 : FnIs Try.prog 119 nt119 tr119 tl119 cm119_0.erase rs119 := ⟨Try.f119, Try.func119, rfl, by kernel_rfl, by kernel_rfl, by kernel_rfl⟩
theorem io119_0 : InstOk Try.prog 119 nt119 ⟨pa119_0, Fn119_0 f119_0⟩ := inst_ok eo119_0 followsTry is119 ⟨⟨sh119, cm119_0, by kernel_rfl, gm119_0, fm119_0⟩⟩
abbrev nt107 : Nat := 70
def sh107 : List (Nat × List Sh) := [(16, [.flt .f64, .flt .f64]), (46, [.flt .f64, .flt .f64]), (64, [.flt .f64]), (67, [.flt .f64])]
def r107_2 : List AOper := [oO 4 (.alloc [(cI 0), (cI 0)]), oO 5 (.mv (kI 0))]
def r107_4 : List AOper := [oM 11 0, oO 12 (.pure (oB (.call { callee := .builtin .real, args := #[(.tmp 11)], argTypes := #[26] }) 112)), oM 13 0, oO 14 (.pure (oB (.call { callee := .builtin .imag, args := #[(.tmp 13)], argTypes := #[26] }) 112)), oO 15 (.build [(.d (.v (.float Go.FloatKind.f64 0))), (.d (.v (.float Go.FloatKind.f64 0)))] [(0, 1, (.tmp 12)), (1, 1, (.tmp 14))]), oO 6 (.alloc [(.d (.v (.float Go.FloatKind.f64 0))), (.d (.v (.float Go.FloatKind.f64 0)))]), oD (.store 2 (.tmp 6) (.tmp 15))]
def r107_7 : List AOper := [oO 16 (.load true 2 (.tmp 6)), oO 17 (.mv (kI 0))]
def td107_9 : Option Tidy := (tO [1, 4, 6, 16, 17])
def r107_11 : List AOper := [oO 18 (.bin .lss 3 (.tmp 17) (kI 2))]
def r107_17 : List AOper := [oO 19 (.index false 2 1 (.tmp 16) (.tmp 17)), oM 8 19]
def r107_19 : List AOper := [oM 20 8, oM 21 8, oO 22 (.bin .neq 112 (.tmp 20) (.tmp 21)), oM 23 22, oG 24 (.mv (.tmp 8)) 23 false, oG 25 (.mv (.tmp 8)) 23 false, oG 26 (.bin .sub 112 (.tmp 24) (.tmp 25)) 23 false, oG 27 (.bin .neq 112 (.tmp 26) (.const (.float Go.FloatKind.f64 0))) 23 false, oO 28 (.pick (.tmp 23) (.const (.bool true)) (.tmp 27)), oM 29 28, oG 30 (.mv (.tmp 8)) 29 false, oG 31 (.bin .lss 112 (.tmp 30) (.const (.float Go.FloatKind.f64 4845873199050653696))) 29 false, oG 32 (.mv (.tmp 31)) 29 false, oG 33 (.mv (.tmp 8)) 32 true, oG 34 (.bin .gtr 112 (.tmp 33) (.const (.float Go.FloatKind.f64 14069245235905429504))) 32 true, oG 35 (.pick (.tmp 32) (.tmp 34) (.const (.bool false))) 29 false, oG 36 (.mv (.tmp 35)) 29 false, oG 37 (.mv (.tmp 8)) 36 true, oG 38 (.pure (oB (.convert 112 3 (.tmp 37)) 3)) 36 true, oG 39 (.pure (oB (.convert 3 112 (.tmp 38)) 112)) 36 true, oG 40 (.mv (.tmp 8)) 36 true, oG 41 (.bin .neq 112 (.tmp 39) (.tmp 40)) 36 true, oG 42 (.pick (.tmp 36) (.tmp 41) (.const (.bool false))) 29 false, oO 43 (.pick (.tmp 29) (.const (.bool true)) (.tmp 42))]
def r107_22 : List AOper := [oO 44 (.build [(cI 0), (cI 0)] []), oD (.store 2 (.tmp 4) (.tmp 44)), oO 5 (.mv (kI 27))]
def r107_23 : List AOper := [oO 45 (.bin .add 3 (.tmp 17) (kI 1)), oM 17 45]
def r107_26 : List AOper := [oO 46 (.load true 2 (.tmp 6)), oO 47 (.mv (kI 0))]
def td107_28 : Option Tidy := (tO [1, 4, 6, 46, 47])
def r107_30 : List AOper := [oO 48 (.bin .lss 3 (.tmp 47) (kI 2))]
def r107_36 : List AOper := [oO 49 (.index false 2 1 (.tmp 46) (.tmp 47)), oM 10 49]
def r107_38 : List AOper := [oM 50 10, oM 51 1, oO 52 (.pure (oB (.convert 3 112 (.tmp 51)) 112)), oO 53 (.bin .gtr 112 (.tmp 50) (.tmp 52)), oM 54 53, oG 55 (.mv (.tmp 10)) 54 false, oG 56 (.mv (.tmp 1)) 54 false, oG 57 (.pure (oB (.convert 3 112 (.tmp 56)) 112)) 54 false, oG 58 (.pure (oB (.unOp .neg 112 (.tmp 57)) 112)) 54 false, oG 59 (.bin .lss 112 (.tmp 55) (.tmp 58)) 54 false, oO 60 (.pick (.tmp 54) (.const (.bool true)) (.tmp 59))]
def r107_41 : List AOper := [oO 61 (.build [(cI 0), (cI 0)] []), oD (.store 2 (.tmp 4) (.tmp 61)), oO 5 (.mv (kI 2))]
def r107_42 : List AOper := [oO 62 (.bin .add 3 (.tmp 47) (kI 1)), oM 47 62]
def r107_44 : List AOper := [oO 63 (.iaddr 1 (some 2) (.tmp 6) (kI 0)), oO 64 (.load false 1 (.tmp 63)), oO 65 (.pure (oB (.convert 112 3 (.tmp 64)) 3)), oO 66 (.iaddr 1 (some 2) (.tmp 6) (kI 1)), oO 67 (.load false 1 (.tmp 66)), oO 68 (.pure (oB (.convert 112 3 (.tmp 67)) 3)), oO 69 (.build [(cI 0), (cI 0)] [(0, 1, (.tmp 65)), (1, 1, (.tmp 68))]), oD (.store 2 (.tmp 4) (.tmp 69)), oO 5 (.mv (kI 0))]
def tr107 : List (Nat × Tidy) := [tT 0 [0, 1, 4], tT 1 [1, 4, 6], tT 2 [1, 4, 6, 16, 17], tT 3 [1, 4, 6, 16, 17, 18], tT 4 [1, 4, 6, 8, 16, 17], tT 5 [1, 4, 6, 16, 17, 43], tT 6 [4, 5], tT 7 [1, 4, 6, 16, 17], tT 8 [1, 4, 6, 46, 47], tT 9 [1, 4, 6, 46, 47, 48], tT 10 [1, 4, 6, 10, 46, 47], tT 11 [1, 4, 6, 46, 47, 60], tT 12 [4, 5], tT 13 [1, 4, 6, 46, 47], tT 14 [4, 5]]
def tl107 : List (Nat × Tidy) := [tT 3 [1, 4, 6, 16, 17], tT 9 [1, 4, 6, 46, 47]]
def rs107 : List AResV := [.cell 4 true 2, .tmp 5]
def p107_0_0 : PT St := pS [sl 1 (aV false [(cD (dI .i64))]), sl 4 (aV false [(cPtr 4 0)]), sl 6 (aV false [(cPtr 6 0)]), sl 16 (aV true [(cD (dF .f64)), (cD (dF .f64))]), sl 17 (aV false [(cD (dI .i64))]), sl 18 (aV false [(cD dB)])] [eBox 4 [(cD (dI .i64)), (cD (dI .i64))], eBox 6 [(cD (dF .f64)), (cD (dF .f64))]]
def u107_0_0 {β : Type} (g : St → β) : Int → Nat → Nat → Int → Bool → Int → Int → Nat → Nat → β := p107_0_0.unc g
def p107_0_1 : PT St := pS [sl 1 (aV false [(cD (dI .i64))]), sl 4 (aV false [(cPtr 4 0)]), sl 6 (aV false [(cPtr 6 0)]), sl 8 (aV false [(cD (dF .f64))]), sl 16 (aV true [(cD (dF .f64)), (cD (dF .f64))]), sl 17 (aV false [(cD (dI .i64))])] [eBox 4 [(cD (dI .i64)), (cD (dI .i64))], eBox 6 [(cD (dF .f64)), (cD (dF .f64))]]
def u107_0_1 {β : Type} (g : St → β) : Int → Nat → Nat → Nat → Int → Int → Int → Nat → Nat → β := p107_0_1.unc g
def p107_0_2 : PT St := pS [sl 1 (aV false [(cD (dI .i64))]), sl 4 (aV false [(cPtr 4 0)]), sl 6 (aV false [(cPtr 6 0)]), sl 16 (aV true [(cD (dF .f64)), (cD (dF .f64))]), sl 17 (aV false [(cD (dI .i64))]), sl 43 (aV false [(cD dB)])] [eBox 4 [(cD (dI .i64)), (cD (dI .i64))], eBox 6 [(cD (dF .f64)), (cD (dF .f64))]]
def u107_0_2 {β : Type} (g : St → β) : Int → Nat → Nat → Int → Bool → Int → Int → Nat → Nat → β := p107_0_2.unc g
def p107_0_3 : PT St := pS [sl 1 (aV false [(cD (dI .i64))]), sl 4 (aV false [(cPtr 4 0)]), sl 6 (aV false [(cPtr 6 0)]), sl 16 (aV true [(cD (dF .f64)), (cD (dF .f64))]), sl 17 (aV false [(cD (dI .i64))])] [eBox 4 [(cD (dI .i64)), (cD (dI .i64))], eBox 6 [(cD (dF .f64)), (cD (dF .f64))]]
def u107_0_3 {β : Type} (g : St → β) : Int → Nat → Nat → Int → Int → Int → Nat → Nat → β := p107_0_3.unc g
def p107_0_4 : PT St := pS [sl 4 (aV false [(cPtr 4 0)]), sl 5 (aV false [(cD (dI .i64))])] [eBox 4 [(cD (dI .i64)), (cD (dI .i64))]]
def u107_0_4 {β : Type} (g : St → β) : Int → Int → Int → β := p107_0_4.unc g
def p107_0_5 : PT St := pS [sl 1 (aV false [(cD (dI .i64))]), sl 4 (aV false [(cPtr 4 0)]), sl 6 (aV false [(cPtr 6 0)]), sl 46 (aV true [(cD (dF .f64)), (cD (dF .f64))]), sl 47 (aV false [(cD (dI .i64))]), sl 48 (aV false [(cD dB)])] [eBox 4 [(cD (dI .i64)), (cD (dI .i64))], eBox 6 [(cD (dF .f64)), (cD (dF .f64))]]
def u107_0_5 {β : Type} (g : St → β) : Int → Nat → Nat → Int → Bool → Int → Int → Nat → Nat → β := p107_0_5.unc g
def p107_0_6 : PT St := pS [sl 1 (aV false [(cD (dI .i64))]), sl 4 (aV false [(cPtr 4 0)]), sl 6 (aV false [(cPtr 6 0)]), sl 10 (aV false [(cD (dF .f64))]), sl 46 (aV true [(cD (dF .f64)), (cD (dF .f64))]), sl 47 (aV false [(cD (dI .i64))])] [eBox 4 [(cD (dI .i64)), (cD (dI .i64))], eBox 6 [(cD (dF .f64)), (cD (dF .f64))]]
def u107_0_6 {β : Type} (g : St → β) : Int → Nat → Nat → Nat → Int → Int → Int → Nat → Nat → β := p107_0_6.unc g
def p107_0_7 : PT St := pS [sl 1 (aV false [(cD (dI .i64))]), sl 4 (aV false [(cPtr 4 0)]), sl 6 (aV false [(cPtr 6 0)]), sl 46 (aV true [(cD (dF .f64)), (cD (dF .f64))]), sl 47 (aV false [(cD (dI .i64))])] [eBox 4 [(cD (dI .i64)), (cD (dI .i64))], eBox 6 [(cD (dF .f64)), (cD (dF .f64))]]
def u107_0_7 {β : Type} (g : St → β) : Int → Nat → Nat → Int → Int → Int → Nat → Nat → β := p107_0_7.unc g
def pr107_0_0 : PT (List RV) := pRs [pR true [rD (dI .i64), rD (dI .i64)], pR false [rD (dI .i64)]]
def ur107_0_0 {β : Type} (g : List RV → β) : Int → Int → Int → β := pr107_0_0.unc g
def E107_0g  : EnvK := EnvK.of [] noSeq
noncomputable def E107_0 : EnvK := E107_0g 
theorem eo107_0 : E107_0.Ok Try.prog := EnvK.of_ok noSeq_ok trivial
noncomputable def c107_0_35g  : MCode := (.region r107_36 [] (tO [1, 4, 6, 10, 46, 47]))
noncomputable def c107_0_35 : MCode := c107_0_35g 
theorem g107_0_35 : c107_0_35.Good Try.prog E107_0 sh107 := trivial
--CODE 35 0
abbrev TJ107_0_3 : Type 1 := (α : Type) → Nat → Nat → Int → (Nat → Option α) → Option α
def J107_0_3g  (α : Type) (x52 x53 : Nat) (x54 : Int) (k1 : Nat → Option α) : Option α :=
 cK (x54 == 1)
 (k1 x53)
 (cK (x54 == 0)
 (k1 x52)
 (none))
noncomputable def J107_0_3 (α : Type) (x52 x53 : Nat) (x54 : Int) (k1 : Nat → Option α) : Option α := J107_0_3g  α x52 x53 x54 k1
def F107_0_3 (v : TJ107_0_3) (α : Type) (K : Exit → St → Option α) : Int → Nat → Nat → Int → Bool → Int → Int → Nat → Nat → Option α := fun x51 x52 x53 x54 x55 x56 x57 x58 x59 => v α x52 x53 x54 (fun (y1 : Nat) => u107_0_6 (K .normal) x51 y1 x52 x53 x54 x56 x57 x58 x59) 
theorem m107_0_3g   (α : Type) (K : Exit → St → Option α) : F107_0_3 (J107_0_3g ) α K = p107_0_5.unc fun σ => runM Try.prog (E107_0g ) sh107 (c107_0_35g ) K σ := by kernel_rfl
theorem m107_0_3 : ∀ (α : Type) (K : Exit → St → Option α), F107_0_3 J107_0_3 α K = p107_0_5.unc fun σ => runM Try.prog E107_0 sh107 c107_0_35 K σ := m107_0_3g 
noncomputable def c107_0_28g (vJ107_0_3 : TJ107_0_3) : MCode := (.seq (.region r107_30 [] (tO [1, 4, 6, 46, 47, 48])) (.seq (.cond (.tmp 48) .skip (.exit 2)) (.seq (.block 3 (.seq (.mark [⟨p107_0_5, F107_0_3 vJ107_0_3⟩] c107_0_35) (.seq (.region r107_38 [] (tO [1, 4, 6, 46, 47, 60])) (.cond (.tmp 60) (.seq (.region r107_41 [] (tO [4, 5])) .ret) .skip)))) (.region r107_42 [] (tO [1, 4, 6, 46, 47])))))
noncomputable def c107_0_28 : MCode := c107_0_28g J107_0_3
theorem g107_0_28 : c107_0_28.Good Try.prog E107_0 sh107 := ⟨trivial, ⟨⟨trivial, trivial⟩, ⟨⟨⟨g107_0_35, m107_0_3, trivial⟩, ⟨trivial, ⟨⟨trivial, trivial⟩, trivial⟩⟩⟩, trivial⟩⟩⟩
--CODE 28 0
def S107_0_4g (vJ107_0_3 : TJ107_0_3) (α : Type) (x42 : Int) (x43 x44 : Nat) (x45 : Int) (kn : Int → Option α) (k1 : Option α) (k2 : Int → Bool → Option α) : Option α :=
 cK (decide (x45 < 2))
 (vJ107_0_3 α x43 x44 x45
 (fun x61 => cK ((FloatKind.format .f64).order x61 (FloatKind.nearest .f64 x42) == some Ordering.gt)
 (k1)
 (cK ((FloatKind.format .f64).order x61 (Op.negFloat .f64 (FloatKind.nearest .f64 x42)) == some Ordering.lt)
 (k1)
 (kn (w64 (x45 + 1))))))
 (k2 x45 (decide (x45 < 2)))
noncomputable def S107_0_4 (α : Type) (x42 : Int) (x43 x44 : Nat) (x45 : Int) (kn : Int → Option α) (k1 : Option α) (k2 : Int → Bool → Option α) : Option α := S107_0_4g J107_0_3 α x42 x43 x44 x45 kn k1 k2
noncomputable def R107_0_4 (α : Type) (x42 : Int) (x43 x44 : Nat) (k1 : Option α) (k2 : Int → Bool → Option α) : Nat → Int → Option α
 | 0, _ => none
 | n + 1, x45 => S107_0_4 α x42 x43 x44 x45 (R107_0_4 α x42 x43 x44 k1 k2 n) k1 k2
noncomputable def L107_0_4 (α : Type) (x42 : Int) (x43 x44 : Nat) (k1 : Option α) (k2 : Int → Bool → Option α) (x45 : Int) : Option α := R107_0_4 α x42 x43 x44 k1 k2 fuel x45
abbrev TL107_0_4 : Type 1 := (α : Type) → Int → Nat → Nat → (Option α) → (Int → Bool → Option α) → Int → Option α
def F107_0_4 (v : TL107_0_4) (α : Type) (K : Exit → St → Option α) : Int → Nat → Nat → Int → Int → Int → Nat → Nat → Option α := fun x42 x43 x44 x45 x46 x47 x48 x49 => v α x42 x43 x44 (u107_0_4 (K .ret) 2 0 0) (fun (y1 : Int) (y2 : Bool) => u107_0_5 (K (.exit 2)) x42 x43 x44 y1 y2 x46 x47 x48 x49) x45
theorem r107_0_4g  (vJ107_0_3 : TJ107_0_3) (α : Type) (K : Exit → St → Option α) (Kn : St → Option α) (x42 : Int) (x43 x44 : Nat) (x45 x46 x47 : Int) (x48 x49 : Nat) : u107_0_7 (fun σ => runM Try.prog (E107_0g ) sh107 (c107_0_28g vJ107_0_3) (thenK (fun σ => tidyK td107_28 σ Kn) K) σ) x42 x43 x44 x45 x46 x47 x48 x49 = S107_0_4g vJ107_0_3 α x42 x43 x44 x45 (fun x45 => u107_0_7 Kn x42 x43 x44 x45 x46 x47 x48 x49) (u107_0_4 (K .ret) 2 0 0) (fun (y1 : Int) (y2 : Bool) => u107_0_5 (K (.exit 2)) x42 x43 x44 y1 y2 x46 x47 x48 x49) := by kernel_rfl
theorem r107_0_4 (α : Type) (K : Exit → St → Option α) (Kn : St → Option α) (x42 : Int) (x43 x44 : Nat) (x45 x46 x47 : Int) (x48 x49 : Nat) : u107_0_7 (fun σ => runM Try.prog E107_0 sh107 c107_0_28 (thenK (fun σ => tidyK td107_28 σ Kn) K) σ) x42 x43 x44 x45 x46 x47 x48 x49 = S107_0_4 α x42 x43 x44 x45 (fun x45 => u107_0_7 Kn x42 x43 x44 x45 x46 x47 x48 x49) (u107_0_4 (K .ret) 2 0 0) (fun (y1 : Int) (y2 : Bool) => u107_0_5 (K (.exit 2)) x42 x43 x44 y1 y2 x46 x47 x48 x49) := r107_0_4g J107_0_3 α K Kn x42 x43 x44 x45 x46 x47 x48 x49
theorem t107_0_4 (α : Type) (K : Exit → St → Option α) : ∀ (n : Nat) (x42 : Int) (x43 x44 : Nat) (x45 x46 x47 : Int) (x48 x49 : Nat), R107_0_4 α x42 x43 x44 (u107_0_4 (K .ret) 2 0 0) (fun (y1 : Int) (y2 : Bool) => u107_0_5 (K (.exit 2)) x42 x43 x44 y1 y2 x46 x47 x48 x49) n x45 = u107_0_7 (loopT (runM Try.prog E107_0 sh107 c107_0_28) td107_28 K n) x42 x43 x44 x45 x46 x47 x48 x49 := by
 intro n
 induction n with
 | zero => intros; rfl
 | succ n ih => intro x42 x43 x44 x45 x46 x47 x48 x49; exact (congrArg (fun kn => S107_0_4 α x42 x43 x44 x45 kn (u107_0_4 (K .ret) 2 0 0) (fun (y1 : Int) (y2 : Bool) => u107_0_5 (K (.exit 2)) x42 x43 x44 y1 y2 x46 x47 x48 x49)) (funext fun x45 => ih x42 x43 x44 x45 x46 x47 x48 x49)).trans (r107_0_4 α K (loopT (runM Try.prog E107_0 sh107 c107_0_28) td107_28 K n) x42 x43 x44 x45 x46 x47 x48 x49).symm
theorem m107_0_4 : ∀ (α : Type) (K : Exit → St → Option α), F107_0_4 L107_0_4 α K = p107_0_7.unc fun σ => loopT (runM Try.prog E107_0 sh107 c107_0_28) td107_28 K fuel σ := fun α K => funext fun x42 => funext fun x43 => funext fun x44 => funext fun x45 => funext fun x46 => funext fun x47 => funext fun x48 => funext fun x49 => t107_0_4 α K fuel x42 x43 x44 x45 x46 x47 x48 x49
noncomputable def c107_0_18g  : MCode := (.region r107_19 [] (tO [1, 4, 6, 16, 17, 43]))
noncomputable def c107_0_18 : MCode := c107_0_18g 
theorem g107_0_18 : c107_0_18.Good Try.prog E107_0 sh107 := trivial
--CODE 18 0
abbrev TJ107_0_1 : Type 1 := (α : Type) → Nat → (Bool → Option α) → Option α
def J107_0_1g  (α : Type) (x26 : Nat) (k1 : Bool → Option α) : Option α :=
 cK ((FloatKind.format .f64).order x26 x26 != some Ordering.eq)
 (k1 true)
 (flN ((FloatKind.format .f64).sub x26 x26)
 (fun x35 => cK ((FloatKind.format .f64).order x35 0 != some Ordering.eq)
 (k1 true)
 (cK ((FloatKind.format .f64).order x26 4845873199050653696 == some Ordering.lt)
 (cK ((FloatKind.format .f64).order x26 14069245235905429504 == some Ordering.gt)
 (ivK (f2i .f64 x26 .i64)
 (fun x36 => k1 ((FloatKind.format .f64).order (FloatKind.nearest .f64 x36) x26 != some Ordering.eq)))
 (k1 false))
 (k1 false)))
 (k1 true))
noncomputable def J107_0_1 (α : Type) (x26 : Nat) (k1 : Bool → Option α) : Option α := J107_0_1g  α x26 k1
def F107_0_1 (v : TJ107_0_1) (α : Type) (K : Exit → St → Option α) : Int → Nat → Nat → Nat → Int → Int → Int → Nat → Nat → Option α := fun x25 x26 x27 x28 x29 x30 x31 x32 x33 => v α x26 (fun (y1 : Bool) => u107_0_2 (K .normal) x25 x27 x28 x29 y1 x30 x31 x32 x33) 
theorem m107_0_1g   (α : Type) (K : Exit → St → Option α) : F107_0_1 (J107_0_1g ) α K = p107_0_1.unc fun σ => runM Try.prog (E107_0g ) sh107 (c107_0_18g ) K σ := by kernel_rfl
theorem m107_0_1 : ∀ (α : Type) (K : Exit → St → Option α), F107_0_1 J107_0_1 α K = p107_0_1.unc fun σ => runM Try.prog E107_0 sh107 c107_0_18 K σ := m107_0_1g 
noncomputable def c107_0_16g  : MCode := (.region r107_17 [] (tO [1, 4, 6, 8, 16, 17]))
noncomputable def c107_0_16 : MCode := c107_0_16g 
theorem g107_0_16 : c107_0_16.Good Try.prog E107_0 sh107 := trivial
--CODE 16 0
abbrev TJ107_0_0 : Type 1 := (α : Type) → Nat → Nat → Int → (Nat → Option α) → Option α
def J107_0_0g  (α : Type) (x14 x15 : Nat) (x16 : Int) (k1 : Nat → Option α) : Option α :=
 cK (x16 == 1)
 (k1 x15)
 (cK (x16 == 0)
 (k1 x14)
 (none))
noncomputable def J107_0_0 (α : Type) (x14 x15 : Nat) (x16 : Int) (k1 : Nat → Option α) : Option α := J107_0_0g  α x14 x15 x16 k1
def F107_0_0 (v : TJ107_0_0) (α : Type) (K : Exit → St → Option α) : Int → Nat → Nat → Int → Bool → Int → Int → Nat → Nat → Option α := fun x13 x14 x15 x16 x17 x18 x19 x20 x21 => v α x14 x15 x16 (fun (y1 : Nat) => u107_0_1 (K .normal) x13 y1 x14 x15 x16 x18 x19 x20 x21) 
theorem m107_0_0g   (α : Type) (K : Exit → St → Option α) : F107_0_0 (J107_0_0g ) α K = p107_0_0.unc fun σ => runM Try.prog (E107_0g ) sh107 (c107_0_16g ) K σ := by kernel_rfl
theorem m107_0_0 : ∀ (α : Type) (K : Exit → St → Option α), F107_0_0 J107_0_0 α K = p107_0_0.unc fun σ => runM Try.prog E107_0 sh107 c107_0_16 K σ := m107_0_0g 
noncomputable def c107_0_9g (vJ107_0_0 : TJ107_0_0) (vJ107_0_1 : TJ107_0_1) : MCode := (.seq (.region r107_11 [] (tO [1, 4, 6, 16, 17, 18])) (.seq (.cond (.tmp 18) .skip (.exit 0)) (.seq (.block 1 (.seq (.mark [⟨p107_0_0, F107_0_0 vJ107_0_0⟩] c107_0_16) (.seq (.mark [⟨p107_0_1, F107_0_1 vJ107_0_1⟩] c107_0_18) (.cond (.tmp 43) (.seq (.region r107_22 [] (tO [4, 5])) .ret) .skip)))) (.region r107_23 [] (tO [1, 4, 6, 16, 17])))))
noncomputable def c107_0_9 : MCode := c107_0_9g J107_0_0 J107_0_1
theorem g107_0_9 : c107_0_9.Good Try.prog E107_0 sh107 := ⟨trivial, ⟨⟨trivial, trivial⟩, ⟨⟨⟨g107_0_16, m107_0_0, trivial⟩, ⟨⟨g107_0_18, m107_0_1, trivial⟩, ⟨⟨trivial, trivial⟩, trivial⟩⟩⟩, trivial⟩⟩⟩
--CODE 9 0
def S107_0_2g (vJ107_0_0 : TJ107_0_0) (vJ107_0_1 : TJ107_0_1) (α : Type) (x5 x6 : Nat) (x7 : Int) (kn : Int → Option α) (k1 : Option α) (k2 : Int → Bool → Option α) : Option α :=
 cK (decide (x7 < 2))
 (vJ107_0_0 α x5 x6 x7
 (fun x23 => vJ107_0_1 α x23
 (fun x37 => cK x37
 (k1)
 (kn (w64 (x7 + 1))))))
 (k2 x7 (decide (x7 < 2)))
noncomputable def S107_0_2 (α : Type) (x5 x6 : Nat) (x7 : Int) (kn : Int → Option α) (k1 : Option α) (k2 : Int → Bool → Option α) : Option α := S107_0_2g J107_0_0 J107_0_1 α x5 x6 x7 kn k1 k2
noncomputable def R107_0_2 (α : Type) (x5 x6 : Nat) (k1 : Option α) (k2 : Int → Bool → Option α) : Nat → Int → Option α
 | 0, _ => none
 | n + 1, x7 => S107_0_2 α x5 x6 x7 (R107_0_2 α x5 x6 k1 k2 n) k1 k2
noncomputable def L107_0_2 (α : Type) (x5 x6 : Nat) (k1 : Option α) (k2 : Int → Bool → Option α) (x7 : Int) : Option α := R107_0_2 α x5 x6 k1 k2 fuel x7
abbrev TL107_0_2 : Type 1 := (α : Type) → Nat → Nat → (Option α) → (Int → Bool → Option α) → Int → Option α
def F107_0_2 (v : TL107_0_2) (α : Type) (K : Exit → St → Option α) : Int → Nat → Nat → Int → Int → Int → Nat → Nat → Option α := fun x4 x5 x6 x7 x8 x9 x10 x11 => v α x5 x6 (u107_0_4 (K .ret) 27 0 0) (fun (y1 : Int) (y2 : Bool) => u107_0_0 (K (.exit 0)) x4 x5 x6 y1 y2 x8 x9 x10 x11) x7
theorem r107_0_2g  (vJ107_0_0 : TJ107_0_0) (vJ107_0_1 : TJ107_0_1) (α : Type) (K : Exit → St → Option α) (Kn : St → Option α) (x4 : Int) (x5 x6 : Nat) (x7 x8 x9 : Int) (x10 x11 : Nat) : u107_0_3 (fun σ => runM Try.prog (E107_0g ) sh107 (c107_0_9g vJ107_0_0 vJ107_0_1) (thenK (fun σ => tidyK td107_9 σ Kn) K) σ) x4 x5 x6 x7 x8 x9 x10 x11 = S107_0_2g vJ107_0_0 vJ107_0_1 α x5 x6 x7 (fun x7 => u107_0_3 Kn x4 x5 x6 x7 x8 x9 x10 x11) (u107_0_4 (K .ret) 27 0 0) (fun (y1 : Int) (y2 : Bool) => u107_0_0 (K (.exit 0)) x4 x5 x6 y1 y2 x8 x9 x10 x11) := by kernel_rfl
theorem r107_0_2 (α : Type) (K : Exit → St → Option α) (Kn : St → Option α) (x4 : Int) (x5 x6 : Nat) (x7 x8 x9 : Int) (x10 x11 : Nat) : u107_0_3 (fun σ => runM Try.prog E107_0 sh107 c107_0_9 (thenK (fun σ => tidyK td107_9 σ Kn) K) σ) x4 x5 x6 x7 x8 x9 x10 x11 = S107_0_2 α x5 x6 x7 (fun x7 => u107_0_3 Kn x4 x5 x6 x7 x8 x9 x10 x11) (u107_0_4 (K .ret) 27 0 0) (fun (y1 : Int) (y2 : Bool) => u107_0_0 (K (.exit 0)) x4 x5 x6 y1 y2 x8 x9 x10 x11) := r107_0_2g J107_0_0 J107_0_1 α K Kn x4 x5 x6 x7 x8 x9 x10 x11
theorem t107_0_2 (α : Type) (K : Exit → St → Option α) : ∀ (n : Nat) (x4 : Int) (x5 x6 : Nat) (x7 x8 x9 : Int) (x10 x11 : Nat), R107_0_2 α x5 x6 (u107_0_4 (K .ret) 27 0 0) (fun (y1 : Int) (y2 : Bool) => u107_0_0 (K (.exit 0)) x4 x5 x6 y1 y2 x8 x9 x10 x11) n x7 = u107_0_3 (loopT (runM Try.prog E107_0 sh107 c107_0_9) td107_9 K n) x4 x5 x6 x7 x8 x9 x10 x11 := by
 intro n
 induction n with
 | zero => intros; rfl
 | succ n ih => intro x4 x5 x6 x7 x8 x9 x10 x11; exact (congrArg (fun kn => S107_0_2 α x5 x6 x7 kn (u107_0_4 (K .ret) 27 0 0) (fun (y1 : Int) (y2 : Bool) => u107_0_0 (K (.exit 0)) x4 x5 x6 y1 y2 x8 x9 x10 x11)) (funext fun x7 => ih x4 x5 x6 x7 x8 x9 x10 x11)).trans (r107_0_2 α K (loopT (runM Try.prog E107_0 sh107 c107_0_9) td107_9 K n) x4 x5 x6 x7 x8 x9 x10 x11).symm
theorem m107_0_2 : ∀ (α : Type) (K : Exit → St → Option α), F107_0_2 L107_0_2 α K = p107_0_3.unc fun σ => loopT (runM Try.prog E107_0 sh107 c107_0_9) td107_9 K fuel σ := fun α K => funext fun x4 => funext fun x5 => funext fun x6 => funext fun x7 => funext fun x8 => funext fun x9 => funext fun x10 => funext fun x11 => t107_0_2 α K fuel x4 x5 x6 x7 x8 x9 x10 x11
abbrev Tf107_0 : Type 1 := (α : Type) → Nat → Nat → Int → (Int → Int → Int → Option α) → Option α
def f107_0g (vL107_0_2 : TL107_0_2) (vL107_0_4 : TL107_0_4) (α : Type) (x1 x2 : Nat) (x3 : Int) (k1 : Int → Int → Int → Option α) : Option α :=
 vL107_0_2 α x1 x2
 (k1 0 0 27)
 (fun x39 x40 => vL107_0_4 α x3 x1 x2
 (k1 0 0 2)
 (fun x63 x64 => ivK (f2i .f64 x1 .i64)
 (fun x66 => ivK (f2i .f64 x2 .i64)
 (fun x67 => k1 x66 x67 0))) 0) 0
noncomputable def f107_0 (α : Type) (x1 x2 : Nat) (x3 : Int) (k1 : Int → Int → Int → Option α) : Option α := f107_0g L107_0_2 L107_0_4 α x1 x2 x3 k1
def pa107_0 : PT (List DV) := pA [pV false [(dX .f64)], pV false [(dI .i64)]]
def Fn107_0 (v : Tf107_0) (α : Type) (k : List RV → Option α) : Nat → Nat → Int → Option α := fun x1 x2 x3 => v α x1 x2 x3 (fun (y1 : Int) (y2 : Int) (y3 : Int) => ur107_0_0 k y1 y2 y3)
noncomputable def cm107_0g (vL107_0_2 : TL107_0_2) (vL107_0_4 : TL107_0_4) : MCode := (.seq (.region r107_2 [] (tO [0, 1, 4])) (.seq (.region r107_4 [] (tO [1, 4, 6])) (.seq (.seq (.region r107_7 [] (tO [1, 4, 6, 16, 17])) (.block 0 (.loop td107_9 [⟨p107_0_3, F107_0_2 vL107_0_2⟩] c107_0_9))) (.seq (.seq (.region r107_26 [] (tO [1, 4, 6, 46, 47])) (.block 2 (.loop td107_28 [⟨p107_0_7, F107_0_4 vL107_0_4⟩] c107_0_28))) (.seq (.region r107_44 [] (tO [4, 5])) .ret)))))
noncomputable def cm107_0 : MCode := cm107_0g L107_0_2 L107_0_4
theorem gm107_0 : cm107_0.Good Try.prog E107_0 sh107 := ⟨trivial, ⟨trivial, ⟨⟨trivial, ⟨g107_0_9, m107_0_2, trivial⟩⟩, ⟨⟨trivial, ⟨g107_0_28, m107_0_4, trivial⟩⟩, ⟨trivial, trivial⟩⟩⟩⟩⟩
theorem fm107_0g  (vL107_0_2 : TL107_0_2) (vL107_0_4 : TL107_0_4) (α : Type) (k : List RV → Option α) : Fn107_0 (f107_0g vL107_0_2 vL107_0_4) α k = pa107_0.unc fun ds => fnM Try.prog (E107_0g ) sh107 (cm107_0g vL107_0_2 vL107_0_4) rs107 k ds := by kernel_rfl
theorem fm107_0 : ∀ (α : Type) (k : List RV → Option α), Fn107_0 f107_0 α k = pa107_0.unc fun ds => fnM Try.prog E107_0 sh107 cm107_0 rs107 k ds := fm107_0g L107_0_2 L107_0_4
theorem is107 : FnIs Try.prog 107 nt107 tr107 tl107 cm107_0.erase rs107 := ⟨Try.f107, Try.func107, rfl, by kernel_rfl, by kernel_rfl, by kernel_rfl⟩
theorem io107_0 : InstOk Try.prog 107 nt107 ⟨pa107_0, Fn107_0 f107_0⟩ := inst_ok eo107_0 followsTry is107 ⟨⟨sh107, cm107_0, by kernel_rfl, gm107_0, fm107_0⟩⟩
def p107_1_0 : PT St := pS [sl 1 (aV false [(cD (dI .i64))]), sl 4 (aV false [(cPtr 4 0)]), sl 6 (aV false [(cPtr 6 0)]), sl 16 (aV true [(cD (dNan .f64)), (cD (dNan .f64))]), sl 17 (aV false [(cD (dI .i64))]), sl 18 (aV false [(cD dB)])] [eBox 4 [(cD (dI .i64)), (cD (dI .i64))], eBox 6 [(cD (dNan .f64)), (cD (dNan .f64))]]
def u107_1_0 {β : Type} (g : St → β) : Int → Int → Bool → Int → Int → β := p107_1_0.unc g
def p107_1_1 : PT St := pS [sl 1 (aV false [(cD (dI .i64))]), sl 4 (aV false [(cPtr 4 0)]), sl 6 (aV false [(cPtr 6 0)]), sl 8 (aV false [(cD (dNan .f64))]), sl 16 (aV true [(cD (dNan .f64)), (cD (dNan .f64))]), sl 17 (aV false [(cD (dI .i64))])] [eBox 4 [(cD (dI .i64)), (cD (dI .i64))], eBox 6 [(cD (dNan .f64)), (cD (dNan .f64))]]
def u107_1_1 {β : Type} (g : St → β) : Int → Int → Int → Int → β := p107_1_1.unc g
def p107_1_2 : PT St := pS [sl 1 (aV false [(cD (dI .i64))]), sl 4 (aV false [(cPtr 4 0)]), sl 6 (aV false [(cPtr 6 0)]), sl 16 (aV true [(cD (dNan .f64)), (cD (dNan .f64))]), sl 17 (aV false [(cD (dI .i64))])] [eBox 4 [(cD (dI .i64)), (cD (dI .i64))], eBox 6 [(cD (dNan .f64)), (cD (dNan .f64))]]
def u107_1_2 {β : Type} (g : St → β) : Int → Int → Int → Int → β := p107_1_2.unc g
def p107_1_3 : PT St := pS [sl 4 (aV false [(cPtr 4 0)]), sl 5 (aV false [(cD (dI .i64))])] [eBox 4 [(cD (dI .i64)), (cD (dI .i64))]]
def u107_1_3 {β : Type} (g : St → β) : Int → Int → Int → β := p107_1_3.unc g
def p107_1_4 : PT St := pS [sl 1 (aV false [(cD (dI .i64))]), sl 4 (aV false [(cPtr 4 0)]), sl 6 (aV false [(cPtr 6 0)]), sl 46 (aV true [(cD (dNan .f64)), (cD (dNan .f64))]), sl 47 (aV false [(cD (dI .i64))]), sl 48 (aV false [(cD dB)])] [eBox 4 [(cD (dI .i64)), (cD (dI .i64))], eBox 6 [(cD (dNan .f64)), (cD (dNan .f64))]]
def u107_1_4 {β : Type} (g : St → β) : Int → Int → Bool → Int → Int → β := p107_1_4.unc g
def p107_1_5 : PT St := pS [sl 1 (aV false [(cD (dI .i64))]), sl 4 (aV false [(cPtr 4 0)]), sl 6 (aV false [(cPtr 6 0)]), sl 10 (aV false [(cD (dNan .f64))]), sl 46 (aV true [(cD (dNan .f64)), (cD (dNan .f64))]), sl 47 (aV false [(cD (dI .i64))])] [eBox 4 [(cD (dI .i64)), (cD (dI .i64))], eBox 6 [(cD (dNan .f64)), (cD (dNan .f64))]]
def u107_1_5 {β : Type} (g : St → β) : Int → Int → Int → Int → β := p107_1_5.unc g
def p107_1_6 : PT St := pS [sl 1 (aV false [(cD (dI .i64))]), sl 4 (aV false [(cPtr 4 0)]), sl 6 (aV false [(cPtr 6 0)]), sl 46 (aV true [(cD (dNan .f64)), (cD (dNan .f64))]), sl 47 (aV false [(cD (dI .i64))])] [eBox 4 [(cD (dI .i64)), (cD (dI .i64))], eBox 6 [(cD (dNan .f64)), (cD (dNan .f64))]]
def u107_1_6 {β : Type} (g : St → β) : Int → Int → Int → Int → β := p107_1_6.unc g
def pr107_1_0 : PT (List RV) := pRs [pR true [rD (dI .i64), rD (dI .i64)], pR false [rD (dI .i64)]]
def ur107_1_0 {β : Type} (g : List RV → β) : Int → Int → Int → β := pr107_1_0.unc g
def E107_1g  : EnvK := EnvK.of [] noSeq
noncomputable def E107_1 : EnvK := E107_1g 
theorem eo107_1 : E107_1.Ok Try.prog := EnvK.of_ok noSeq_ok trivial
noncomputable def c107_1_35g  : MCode := (.region r107_36 [] (tO [1, 4, 6, 10, 46, 47]))
noncomputable def c107_1_35 : MCode := c107_1_35g 
theorem g107_1_35 : c107_1_35.Good Try.prog E107_1 sh107 := trivial
--CODE 35 0
abbrev TJ107_1_2 : Type 1 := (α : Type) → Int → (Option α) → Option α
def J107_1_2g  (α : Type) (x22 : Int) (k1 : Option α) : Option α :=
 cK (x22 == 1)
 (k1)
 (cK (x22 == 0)
 (k1)
 (none))
noncomputable def J107_1_2 (α : Type) (x22 : Int) (k1 : Option α) : Option α := J107_1_2g  α x22 k1
def F107_1_2 (v : TJ107_1_2) (α : Type) (K : Exit → St → Option α) : Int → Int → Bool → Int → Int → Option α := fun x21 x22 x23 x24 x25 => v α x22 (u107_1_5 (K .normal) x21 x22 x24 x25) 
theorem m107_1_2g   (α : Type) (K : Exit → St → Option α) : F107_1_2 (J107_1_2g ) α K = p107_1_4.unc fun σ => runM Try.prog (E107_1g ) sh107 (c107_1_35g ) K σ := by kernel_rfl
theorem m107_1_2 : ∀ (α : Type) (K : Exit → St → Option α), F107_1_2 J107_1_2 α K = p107_1_4.unc fun σ => runM Try.prog E107_1 sh107 c107_1_35 K σ := m107_1_2g 
noncomputable def c107_1_28g (vJ107_1_2 : TJ107_1_2) : MCode := (.seq (.region r107_30 [] (tO [1, 4, 6, 46, 47, 48])) (.seq (.cond (.tmp 48) .skip (.exit 2)) (.seq (.block 3 (.seq (.mark [⟨p107_1_4, F107_1_2 vJ107_1_2⟩] c107_1_35) (.seq (.region r107_38 [] (tO [1, 4, 6, 46, 47, 60])) (.cond (.tmp 60) (.seq (.region r107_41 [] (tO [4, 5])) .ret) .skip)))) (.region r107_42 [] (tO [1, 4, 6, 46, 47])))))
noncomputable def c107_1_28 : MCode := c107_1_28g J107_1_2
theorem g107_1_28 : c107_1_28.Good Try.prog E107_1 sh107 := ⟨trivial, ⟨⟨trivial, trivial⟩, ⟨⟨⟨g107_1_35, m107_1_2, trivial⟩, ⟨trivial, ⟨⟨trivial, trivial⟩, trivial⟩⟩⟩, trivial⟩⟩⟩
--CODE 28 0
def S107_1_3g (vJ107_1_2 : TJ107_1_2) (α : Type)  (x17 : Int) (kn : Int → Option α) (k1 : Int → Bool → Option α) : Option α :=
 cK (decide (x17 < 2))
 (vJ107_1_2 α x17
 (kn (w64 (x17 + 1))))
 (k1 x17 (decide (x17 < 2)))
noncomputable def S107_1_3 (α : Type)  (x17 : Int) (kn : Int → Option α) (k1 : Int → Bool → Option α) : Option α := S107_1_3g J107_1_2 α  x17 kn k1
noncomputable def R107_1_3 (α : Type)  (k1 : Int → Bool → Option α) : Nat → Int → Option α
 | 0, _ => none
 | n + 1, x17 => S107_1_3 α  x17 (R107_1_3 α  k1 n) k1
noncomputable def L107_1_3 (α : Type)  (k1 : Int → Bool → Option α) (x17 : Int) : Option α := R107_1_3 α  k1 fuel x17
abbrev TL107_1_3 : Type 1 := (α : Type) → (Int → Bool → Option α) → Int → Option α
def F107_1_3 (v : TL107_1_3) (α : Type) (K : Exit → St → Option α) : Int → Int → Int → Int → Option α := fun x16 x17 x18 x19 => v α  (fun (y1 : Int) (y2 : Bool) => u107_1_4 (K (.exit 2)) x16 y1 y2 x18 x19) x17
theorem r107_1_3g  (vJ107_1_2 : TJ107_1_2) (α : Type) (K : Exit → St → Option α) (Kn : St → Option α) (x16 x17 x18 x19 : Int) : u107_1_6 (fun σ => runM Try.prog (E107_1g ) sh107 (c107_1_28g vJ107_1_2) (thenK (fun σ => tidyK td107_28 σ Kn) K) σ) x16 x17 x18 x19 = S107_1_3g vJ107_1_2 α  x17 (fun x17 => u107_1_6 Kn x16 x17 x18 x19) (fun (y1 : Int) (y2 : Bool) => u107_1_4 (K (.exit 2)) x16 y1 y2 x18 x19) := by kernel_rfl
theorem r107_1_3 (α : Type) (K : Exit → St → Option α) (Kn : St → Option α) (x16 x17 x18 x19 : Int) : u107_1_6 (fun σ => runM Try.prog E107_1 sh107 c107_1_28 (thenK (fun σ => tidyK td107_28 σ Kn) K) σ) x16 x17 x18 x19 = S107_1_3 α  x17 (fun x17 => u107_1_6 Kn x16 x17 x18 x19) (fun (y1 : Int) (y2 : Bool) => u107_1_4 (K (.exit 2)) x16 y1 y2 x18 x19) := r107_1_3g J107_1_2 α K Kn x16 x17 x18 x19
theorem t107_1_3 (α : Type) (K : Exit → St → Option α) : ∀ (n : Nat) (x16 x17 x18 x19 : Int), R107_1_3 α  (fun (y1 : Int) (y2 : Bool) => u107_1_4 (K (.exit 2)) x16 y1 y2 x18 x19) n x17 = u107_1_6 (loopT (runM Try.prog E107_1 sh107 c107_1_28) td107_28 K n) x16 x17 x18 x19 := by
 intro n
 induction n with
 | zero => intros; rfl
 | succ n ih => intro x16 x17 x18 x19; exact (congrArg (fun kn => S107_1_3 α  x17 kn (fun (y1 : Int) (y2 : Bool) => u107_1_4 (K (.exit 2)) x16 y1 y2 x18 x19)) (funext fun x17 => ih x16 x17 x18 x19)).trans (r107_1_3 α K (loopT (runM Try.prog E107_1 sh107 c107_1_28) td107_28 K n) x16 x17 x18 x19).symm
theorem m107_1_3 : ∀ (α : Type) (K : Exit → St → Option α), F107_1_3 L107_1_3 α K = p107_1_6.unc fun σ => loopT (runM Try.prog E107_1 sh107 c107_1_28) td107_28 K fuel σ := fun α K => funext fun x16 => funext fun x17 => funext fun x18 => funext fun x19 => t107_1_3 α K fuel x16 x17 x18 x19
noncomputable def c107_1_16g  : MCode := (.region r107_17 [] (tO [1, 4, 6, 8, 16, 17]))
noncomputable def c107_1_16 : MCode := c107_1_16g 
theorem g107_1_16 : c107_1_16.Good Try.prog E107_1 sh107 := trivial
--CODE 16 0
abbrev TJ107_1_0 : Type 1 := (α : Type) → Int → (Option α) → Option α
def J107_1_0g  (α : Type) (x8 : Int) (k1 : Option α) : Option α :=
 cK (x8 == 1)
 (k1)
 (cK (x8 == 0)
 (k1)
 (none))
noncomputable def J107_1_0 (α : Type) (x8 : Int) (k1 : Option α) : Option α := J107_1_0g  α x8 k1
def F107_1_0 (v : TJ107_1_0) (α : Type) (K : Exit → St → Option α) : Int → Int → Bool → Int → Int → Option α := fun x7 x8 x9 x10 x11 => v α x8 (u107_1_1 (K .normal) x7 x8 x10 x11) 
theorem m107_1_0g   (α : Type) (K : Exit → St → Option α) : F107_1_0 (J107_1_0g ) α K = p107_1_0.unc fun σ => runM Try.prog (E107_1g ) sh107 (c107_1_16g ) K σ := by kernel_rfl
theorem m107_1_0 : ∀ (α : Type) (K : Exit → St → Option α), F107_1_0 J107_1_0 α K = p107_1_0.unc fun σ => runM Try.prog E107_1 sh107 c107_1_16 K σ := m107_1_0g 
noncomputable def c107_1_9g (vJ107_1_0 : TJ107_1_0) : MCode := (.seq (.region r107_11 [] (tO [1, 4, 6, 16, 17, 18])) (.seq (.cond (.tmp 18) .skip (.exit 0)) (.seq (.block 1 (.seq (.mark [⟨p107_1_0, F107_1_0 vJ107_1_0⟩] c107_1_16) (.seq (.region r107_19 [] (tO [1, 4, 6, 16, 17, 43])) (.cond (.tmp 43) (.seq (.region r107_22 [] (tO [4, 5])) .ret) .skip)))) (.region r107_23 [] (tO [1, 4, 6, 16, 17])))))
noncomputable def c107_1_9 : MCode := c107_1_9g J107_1_0
theorem g107_1_9 : c107_1_9.Good Try.prog E107_1 sh107 := ⟨trivial, ⟨⟨trivial, trivial⟩, ⟨⟨⟨g107_1_16, m107_1_0, trivial⟩, ⟨trivial, ⟨⟨trivial, trivial⟩, trivial⟩⟩⟩, trivial⟩⟩⟩
--CODE 9 0
def S107_1_1g (vJ107_1_0 : TJ107_1_0) (α : Type) (x3 : Int)  (kn : Option α) (k1 : Option α) (k2 : Bool → Option α) : Option α :=
 cK (decide (x3 < 2))
 (vJ107_1_0 α x3
 (k1))
 (k2 (decide (x3 < 2)))
noncomputable def S107_1_1 (α : Type) (x3 : Int)  (kn : Option α) (k1 : Option α) (k2 : Bool → Option α) : Option α := S107_1_1g J107_1_0 α x3  kn k1 k2
noncomputable def R107_1_1 (α : Type) (x3 : Int) (k1 : Option α) (k2 : Bool → Option α) : Nat → Option α
 | 0 => none
 | n + 1 => S107_1_1 α x3  (R107_1_1 α x3 k1 k2 n) k1 k2
noncomputable def L107_1_1 (α : Type) (x3 : Int) (k1 : Option α) (k2 : Bool → Option α)  : Option α := R107_1_1 α x3 k1 k2 fuel 
abbrev TL107_1_1 : Type 1 := (α : Type) → Int → (Option α) → (Bool → Option α) → Option α
def F107_1_1 (v : TL107_1_1) (α : Type) (K : Exit → St → Option α) : Int → Int → Int → Int → Option α := fun x2 x3 x4 x5 => v α x3 (u107_1_3 (K .ret) 27 0 0) (fun (y1 : Bool) => u107_1_0 (K (.exit 0)) x2 x3 y1 x4 x5) 
theorem r107_1_1g  (vJ107_1_0 : TJ107_1_0) (α : Type) (K : Exit → St → Option α) (Kn : St → Option α) (x2 x3 x4 x5 : Int) : u107_1_2 (fun σ => runM Try.prog (E107_1g ) sh107 (c107_1_9g vJ107_1_0) (thenK (fun σ => tidyK td107_9 σ Kn) K) σ) x2 x3 x4 x5 = S107_1_1g vJ107_1_0 α x3  (u107_1_2 Kn x2 x3 x4 x5) (u107_1_3 (K .ret) 27 0 0) (fun (y1 : Bool) => u107_1_0 (K (.exit 0)) x2 x3 y1 x4 x5) := by kernel_rfl
theorem r107_1_1 (α : Type) (K : Exit → St → Option α) (Kn : St → Option α) (x2 x3 x4 x5 : Int) : u107_1_2 (fun σ => runM Try.prog E107_1 sh107 c107_1_9 (thenK (fun σ => tidyK td107_9 σ Kn) K) σ) x2 x3 x4 x5 = S107_1_1 α x3  (u107_1_2 Kn x2 x3 x4 x5) (u107_1_3 (K .ret) 27 0 0) (fun (y1 : Bool) => u107_1_0 (K (.exit 0)) x2 x3 y1 x4 x5) := r107_1_1g J107_1_0 α K Kn x2 x3 x4 x5
theorem t107_1_1 (α : Type) (K : Exit → St → Option α) : ∀ (n : Nat) (x2 x3 x4 x5 : Int), R107_1_1 α x3 (u107_1_3 (K .ret) 27 0 0) (fun (y1 : Bool) => u107_1_0 (K (.exit 0)) x2 x3 y1 x4 x5) n  = u107_1_2 (loopT (runM Try.prog E107_1 sh107 c107_1_9) td107_9 K n) x2 x3 x4 x5 := by
 intro n
 induction n with
 | zero => intros; rfl
 | succ n ih => intro x2 x3 x4 x5; exact (congrArg (fun kn => S107_1_1 α x3  kn (u107_1_3 (K .ret) 27 0 0) (fun (y1 : Bool) => u107_1_0 (K (.exit 0)) x2 x3 y1 x4 x5)) (ih x2 x3 x4 x5)).trans (r107_1_1 α K (loopT (runM Try.prog E107_1 sh107 c107_1_9) td107_9 K n) x2 x3 x4 x5).symm
theorem m107_1_1 : ∀ (α : Type) (K : Exit → St → Option α), F107_1_1 L107_1_1 α K = p107_1_2.unc fun σ => loopT (runM Try.prog E107_1 sh107 c107_1_9) td107_9 K fuel σ := fun α K => funext fun x2 => funext fun x3 => funext fun x4 => funext fun x5 => t107_1_1 α K fuel x2 x3 x4 x5
abbrev Tf107_1 : Type 1 := (α : Type) → Int → (Option α) → Option α
def f107_1g (vL107_1_1 : TL107_1_1) (vL107_1_3 : TL107_1_3) (α : Type) (x1 : Int) (k1 : Option α) : Option α :=
 vL107_1_1 α 0
 (k1)
 (fun x14 => vL107_1_3 α
 (fun x28 x29 => none) 0) 
noncomputable def f107_1 (α : Type) (x1 : Int) (k1 : Option α) : Option α := f107_1g L107_1_1 L107_1_3 α x1 k1
def pa107_1 : PT (List DV) := pA [pV false [(dCN .f64)], pV false [(dI .i64)]]
def Fn107_1 (v : Tf107_1) (α : Type) (k : List RV → Option α) : Int → Option α := fun x1 => v α x1 (ur107_1_0 k 0 0 27)
noncomputable def cm107_1g (vL107_1_1 : TL107_1_1) (vL107_1_3 : TL107_1_3) : MCode := (.seq (.region r107_2 [] (tO [0, 1, 4])) (.seq (.region r107_4 [] (tO [1, 4, 6])) (.seq (.seq (.region r107_7 [] (tO [1, 4, 6, 16, 17])) (.block 0 (.loop td107_9 [⟨p107_1_2, F107_1_1 vL107_1_1⟩] c107_1_9))) (.seq (.seq (.region r107_26 [] (tO [1, 4, 6, 46, 47])) (.block 2 (.loop td107_28 [⟨p107_1_6, F107_1_3 vL107_1_3⟩] c107_1_28))) (.seq (.region r107_44 [] (tO [4, 5])) .ret)))))
noncomputable def cm107_1 : MCode := cm107_1g L107_1_1 L107_1_3
theorem gm107_1 : cm107_1.Good Try.prog E107_1 sh107 := ⟨trivial, ⟨trivial, ⟨⟨trivial, ⟨g107_1_9, m107_1_1, trivial⟩⟩, ⟨⟨trivial, ⟨g107_1_28, m107_1_3, trivial⟩⟩, ⟨trivial, trivial⟩⟩⟩⟩⟩
theorem fm107_1g  (vL107_1_1 : TL107_1_1) (vL107_1_3 : TL107_1_3) (α : Type) (k : List RV → Option α) : Fn107_1 (f107_1g vL107_1_1 vL107_1_3) α k = pa107_1.unc fun ds => fnM Try.prog (E107_1g ) sh107 (cm107_1g vL107_1_1 vL107_1_3) rs107 k ds := by kernel_rfl
theorem fm107_1 : ∀ (α : Type) (k : List RV → Option α), Fn107_1 f107_1 α k = pa107_1.unc fun ds => fnM Try.prog E107_1 sh107 cm107_1 rs107 k ds := fm107_1g L107_1_1 L107_1_3
theorem io107_1 : InstOk Try.prog 107 nt107 ⟨pa107_1, Fn107_1 f107_1⟩ := inst_ok eo107_1 followsTry is107 ⟨⟨sh107, cm107_1, by kernel_rfl, gm107_1, fm107_1⟩⟩
def p107_2_0 : PT St := pS [sl 1 (aV false [(cD (dI .i64))]), sl 4 (aV false [(cPtr 4 0)]), sl 6 (aV false [(cPtr 6 0)]), sl 16 (aV true [(cD (dNan .f64)), (cD (dF .f64))]), sl 17 (aV false [(cD (dI .i64))]), sl 18 (aV false [(cD dB)])] [eBox 4 [(cD (dI .i64)), (cD (dI .i64))], eBox 6 [(cD (dNan .f64)), (cD (dF .f64))]]
def u107_2_0 {β : Type} (g : St → β) : Int → Nat → Int → Bool → Int → Int → Nat → β := p107_2_0.unc g
def p107_2_1 : PT St := pS [sl 1 (aV false [(cD (dI .i64))]), sl 4 (aV false [(cPtr 4 0)]), sl 6 (aV false [(cPtr 6 0)]), sl 8 (aV false [(cD (dF .f64))]), sl 16 (aV true [(cD (dNan .f64)), (cD (dF .f64))]), sl 17 (aV false [(cD (dI .i64))])] [eBox 4 [(cD (dI .i64)), (cD (dI .i64))], eBox 6 [(cD (dNan .f64)), (cD (dF .f64))]]
def u107_2_1 {β : Type} (g : St → β) : Int → Nat → Nat → Int → Int → Int → Nat → β := p107_2_1.unc g
def p107_2_2 : PT St := pS [sl 1 (aV false [(cD (dI .i64))]), sl 4 (aV false [(cPtr 4 0)]), sl 6 (aV false [(cPtr 6 0)]), sl 8 (aV false [(cD (dNan .f64))]), sl 16 (aV true [(cD (dNan .f64)), (cD (dF .f64))]), sl 17 (aV false [(cD (dI .i64))])] [eBox 4 [(cD (dI .i64)), (cD (dI .i64))], eBox 6 [(cD (dNan .f64)), (cD (dF .f64))]]
def u107_2_2 {β : Type} (g : St → β) : Int → Nat → Int → Int → Int → Nat → β := p107_2_2.unc g
def p107_2_3 : PT St := pS [sl 1 (aV false [(cD (dI .i64))]), sl 4 (aV false [(cPtr 4 0)]), sl 6 (aV false [(cPtr 6 0)]), sl 16 (aV true [(cD (dNan .f64)), (cD (dF .f64))]), sl 17 (aV false [(cD (dI .i64))]), sl 43 (aV false [(cD dB)])] [eBox 4 [(cD (dI .i64)), (cD (dI .i64))], eBox 6 [(cD (dNan .f64)), (cD (dF .f64))]]
def u107_2_3 {β : Type} (g : St → β) : Int → Nat → Int → Bool → Int → Int → Nat → β := p107_2_3.unc g
def p107_2_4 : PT St := pS [sl 1 (aV false [(cD (dI .i64))]), sl 4 (aV false [(cPtr 4 0)]), sl 6 (aV false [(cPtr 6 0)]), sl 16 (aV true [(cD (dNan .f64)), (cD (dF .f64))]), sl 17 (aV false [(cD (dI .i64))])] [eBox 4 [(cD (dI .i64)), (cD (dI .i64))], eBox 6 [(cD (dNan .f64)), (cD (dF .f64))]]
def u107_2_4 {β : Type} (g : St → β) : Int → Nat → Int → Int → Int → Nat → β := p107_2_4.unc g
def p107_2_5 : PT St := pS [sl 4 (aV false [(cPtr 4 0)]), sl 5 (aV false [(cD (dI .i64))])] [eBox 4 [(cD (dI .i64)), (cD (dI .i64))]]
def u107_2_5 {β : Type} (g : St → β) : Int → Int → Int → β := p107_2_5.unc g
def p107_2_6 : PT St := pS [sl 1 (aV false [(cD (dI .i64))]), sl 4 (aV false [(cPtr 4 0)]), sl 6 (aV false [(cPtr 6 0)]), sl 46 (aV true [(cD (dNan .f64)), (cD (dF .f64))]), sl 47 (aV false [(cD (dI .i64))]), sl 48 (aV false [(cD dB)])] [eBox 4 [(cD (dI .i64)), (cD (dI .i64))], eBox 6 [(cD (dNan .f64)), (cD (dF .f64))]]
def u107_2_6 {β : Type} (g : St → β) : Int → Nat → Int → Bool → Int → Int → Nat → β := p107_2_6.unc g
def p107_2_7 : PT St := pS [sl 1 (aV false [(cD (dI .i64))]), sl 4 (aV false [(cPtr 4 0)]), sl 6 (aV false [(cPtr 6 0)]), sl 10 (aV false [(cD (dF .f64))]), sl 46 (aV true [(cD (dNan .f64)), (cD (dF .f64))]), sl 47 (aV false [(cD (dI .i64))])] [eBox 4 [(cD (dI .i64)), (cD (dI .i64))], eBox 6 [(cD (dNan .f64)), (cD (dF .f64))]]
def u107_2_7 {β : Type} (g : St → β) : Int → Nat → Nat → Int → Int → Int → Nat → β := p107_2_7.unc g
def p107_2_8 : PT St := pS [sl 1 (aV false [(cD (dI .i64))]), sl 4 (aV false [(cPtr 4 0)]), sl 6 (aV false [(cPtr 6 0)]), sl 10 (aV false [(cD (dNan .f64))]), sl 46 (aV true [(cD (dNan .f64)), (cD (dF .f64))]), sl 47 (aV false [(cD (dI .i64))])] [eBox 4 [(cD (dI .i64)), (cD (dI .i64))], eBox 6 [(cD (dNan .f64)), (cD (dF .f64))]]
def u107_2_8 {β : Type} (g : St → β) : Int → Nat → Int → Int → Int → Nat → β := p107_2_8.unc g
def p107_2_9 : PT St := pS [sl 1 (aV false [(cD (dI .i64))]), sl 4 (aV false [(cPtr 4 0)]), sl 6 (aV false [(cPtr 6 0)]), sl 46 (aV true [(cD (dNan .f64)), (cD (dF .f64))]), sl 47 (aV false [(cD (dI .i64))])] [eBox 4 [(cD (dI .i64)), (cD (dI .i64))], eBox 6 [(cD (dNan .f64)), (cD (dF .f64))]]
def u107_2_9 {β : Type} (g : St → β) : Int → Nat → Int → Int → Int → Nat → β := p107_2_9.unc g
def pr107_2_0 : PT (List RV) := pRs [pR true [rD (dI .i64), rD (dI .i64)], pR false [rD (dI .i64)]]
def ur107_2_0 {β : Type} (g : List RV → β) : Int → Int → Int → β := pr107_2_0.unc g
def E107_2g  : EnvK := EnvK.of [] noSeq
noncomputable def E107_2 : EnvK := E107_2g 
theorem eo107_2 : E107_2.Ok Try.prog := EnvK.of_ok noSeq_ok trivial
noncomputable def c107_2_35g  : MCode := (.region r107_36 [] (tO [1, 4, 6, 10, 46, 47]))
noncomputable def c107_2_35 : MCode := c107_2_35g 
theorem g107_2_35 : c107_2_35.Good Try.prog E107_2 sh107 := trivial
--CODE 35 0
abbrev TJ107_2_3 : Type 1 := (α : Type) → Int → (Option α) → (Option α) → Option α
def J107_2_3g  (α : Type) (x43 : Int) (k1 : Option α) (k2 : Option α) : Option α :=
 cK (x43 == 1)
 (k1)
 (cK (x43 == 0)
 (k2)
 (none))
noncomputable def J107_2_3 (α : Type) (x43 : Int) (k1 : Option α) (k2 : Option α) : Option α := J107_2_3g  α x43 k1 k2
def F107_2_3 (v : TJ107_2_3) (α : Type) (K : Exit → St → Option α) : Int → Nat → Int → Bool → Int → Int → Nat → Option α := fun x41 x42 x43 x44 x45 x46 x47 => v α x43 (u107_2_7 (K .normal) x41 x42 x42 x43 x45 x46 x47) (u107_2_8 (K .normal) x41 x42 x43 x45 x46 x47) 
theorem m107_2_3g   (α : Type) (K : Exit → St → Option α) : F107_2_3 (J107_2_3g ) α K = p107_2_6.unc fun σ => runM Try.prog (E107_2g ) sh107 (c107_2_35g ) K σ := by kernel_rfl
theorem m107_2_3 : ∀ (α : Type) (K : Exit → St → Option α), F107_2_3 J107_2_3 α K = p107_2_6.unc fun σ => runM Try.prog E107_2 sh107 c107_2_35 K σ := m107_2_3g 
noncomputable def c107_2_28g (vJ107_2_3 : TJ107_2_3) : MCode := (.seq (.region r107_30 [] (tO [1, 4, 6, 46, 47, 48])) (.seq (.cond (.tmp 48) .skip (.exit 2)) (.seq (.block 3 (.seq (.mark [⟨p107_2_6, F107_2_3 vJ107_2_3⟩] c107_2_35) (.seq (.region r107_38 [] (tO [1, 4, 6, 46, 47, 60])) (.cond (.tmp 60) (.seq (.region r107_41 [] (tO [4, 5])) .ret) .skip)))) (.region r107_42 [] (tO [1, 4, 6, 46, 47])))))
noncomputable def c107_2_28 : MCode := c107_2_28g J107_2_3
theorem g107_2_28 : c107_2_28.Good Try.prog E107_2 sh107 := ⟨trivial, ⟨⟨trivial, trivial⟩, ⟨⟨⟨g107_2_35, m107_2_3, trivial⟩, ⟨trivial, ⟨⟨trivial, trivial⟩, trivial⟩⟩⟩, trivial⟩⟩⟩
--CODE 28 0
def S107_2_4g (vJ107_2_3 : TJ107_2_3) (α : Type) (x34 : Int) (x35 : Nat) (x36 : Int) (kn : Int → Option α) (k1 : Option α) (k2 : Int → Bool → Option α) : Option α :=
 cK (decide (x36 < 2))
 (vJ107_2_3 α x36
 (cK ((FloatKind.format .f64).order x35 (FloatKind.nearest .f64 x34) == some Ordering.gt)
 (k1)
 (cK ((FloatKind.format .f64).order x35 (Op.negFloat .f64 (FloatKind.nearest .f64 x34)) == some Ordering.lt)
 (k1)
 (kn (w64 (x36 + 1)))))
 (kn (w64 (x36 + 1))))
 (k2 x36 (decide (x36 < 2)))
noncomputable def S107_2_4 (α : Type) (x34 : Int) (x35 : Nat) (x36 : Int) (kn : Int → Option α) (k1 : Option α) (k2 : Int → Bool → Option α) : Option α := S107_2_4g J107_2_3 α x34 x35 x36 kn k1 k2
noncomputable def R107_2_4 (α : Type) (x34 : Int) (x35 : Nat) (k1 : Option α) (k2 : Int → Bool → Option α) : Nat → Int → Option α
 | 0, _ => none
 | n + 1, x36 => S107_2_4 α x34 x35 x36 (R107_2_4 α x34 x35 k1 k2 n) k1 k2
noncomputable def L107_2_4 (α : Type) (x34 : Int) (x35 : Nat) (k1 : Option α) (k2 : Int → Bool → Option α) (x36 : Int) : Option α := R107_2_4 α x34 x35 k1 k2 fuel x36
abbrev TL107_2_4 : Type 1 := (α : Type) → Int → Nat → (Option α) → (Int → Bool → Option α) → Int → Option α
def F107_2_4 (v : TL107_2_4) (α : Type) (K : Exit → St → Option α) : Int → Nat → Int → Int → Int → Nat → Option α := fun x34 x35 x36 x37 x38 x39 => v α x34 x35 (u107_2_5 (K .ret) 2 0 0) (fun (y1 : Int) (y2 : Bool) => u107_2_6 (K (.exit 2)) x34 x35 y1 y2 x37 x38 x39) x36
theorem r107_2_4g  (vJ107_2_3 : TJ107_2_3) (α : Type) (K : Exit → St → Option α) (Kn : St → Option α) (x34 : Int) (x35 : Nat) (x36 x37 x38 : Int) (x39 : Nat) : u107_2_9 (fun σ => runM Try.prog (E107_2g ) sh107 (c107_2_28g vJ107_2_3) (thenK (fun σ => tidyK td107_28 σ Kn) K) σ) x34 x35 x36 x37 x38 x39 = S107_2_4g vJ107_2_3 α x34 x35 x36 (fun x36 => u107_2_9 Kn x34 x35 x36 x37 x38 x39) (u107_2_5 (K .ret) 2 0 0) (fun (y1 : Int) (y2 : Bool) => u107_2_6 (K (.exit 2)) x34 x35 y1 y2 x37 x38 x39) := by kernel_rfl
theorem r107_2_4 (α : Type) (K : Exit → St → Option α) (Kn : St → Option α) (x34 : Int) (x35 : Nat) (x36 x37 x38 : Int) (x39 : Nat) : u107_2_9 (fun σ => runM Try.prog E107_2 sh107 c107_2_28 (thenK (fun σ => tidyK td107_28 σ Kn) K) σ) x34 x35 x36 x37 x38 x39 = S107_2_4 α x34 x35 x36 (fun x36 => u107_2_9 Kn x34 x35 x36 x37 x38 x39) (u107_2_5 (K .ret) 2 0 0) (fun (y1 : Int) (y2 : Bool) => u107_2_6 (K (.exit 2)) x34 x35 y1 y2 x37 x38 x39) := r107_2_4g J107_2_3 α K Kn x34 x35 x36 x37 x38 x39
theorem t107_2_4 (α : Type) (K : Exit → St → Option α) : ∀ (n : Nat) (x34 : Int) (x35 : Nat) (x36 x37 x38 : Int) (x39 : Nat), R107_2_4 α x34 x35 (u107_2_5 (K .ret) 2 0 0) (fun (y1 : Int) (y2 : Bool) => u107_2_6 (K (.exit 2)) x34 x35 y1 y2 x37 x38 x39) n x36 = u107_2_9 (loopT (runM Try.prog E107_2 sh107 c107_2_28) td107_28 K n) x34 x35 x36 x37 x38 x39 := by
 intro n
 induction n with
 | zero => intros; rfl
 | succ n ih => intro x34 x35 x36 x37 x38 x39; exact (congrArg (fun kn => S107_2_4 α x34 x35 x36 kn (u107_2_5 (K .ret) 2 0 0) (fun (y1 : Int) (y2 : Bool) => u107_2_6 (K (.exit 2)) x34 x35 y1 y2 x37 x38 x39)) (funext fun x36 => ih x34 x35 x36 x37 x38 x39)).trans (r107_2_4 α K (loopT (runM Try.prog E107_2 sh107 c107_2_28) td107_28 K n) x34 x35 x36 x37 x38 x39).symm
theorem m107_2_4 : ∀ (α : Type) (K : Exit → St → Option α), F107_2_4 L107_2_4 α K = p107_2_9.unc fun σ => loopT (runM Try.prog E107_2 sh107 c107_2_28) td107_28 K fuel σ := fun α K => funext fun x34 => funext fun x35 => funext fun x36 => funext fun x37 => funext fun x38 => funext fun x39 => t107_2_4 α K fuel x34 x35 x36 x37 x38 x39
noncomputable def c107_2_18g  : MCode := (.region r107_19 [] (tO [1, 4, 6, 16, 17, 43]))
noncomputable def c107_2_18 : MCode := c107_2_18g 
theorem g107_2_18 : c107_2_18.Good Try.prog E107_2 sh107 := trivial
--CODE 18 0
abbrev TJ107_2_1 : Type 1 := (α : Type) → Nat → (Bool → Option α) → Option α
def J107_2_1g  (α : Type) (x20 : Nat) (k1 : Bool → Option α) : Option α :=
 cK ((FloatKind.format .f64).order x20 x20 != some Ordering.eq)
 (k1 true)
 (flN ((FloatKind.format .f64).sub x20 x20)
 (fun x27 => cK ((FloatKind.format .f64).order x27 0 != some Ordering.eq)
 (k1 true)
 (cK ((FloatKind.format .f64).order x20 4845873199050653696 == some Ordering.lt)
 (cK ((FloatKind.format .f64).order x20 14069245235905429504 == some Ordering.gt)
 (ivK (f2i .f64 x20 .i64)
 (fun x28 => k1 ((FloatKind.format .f64).order (FloatKind.nearest .f64 x28) x20 != some Ordering.eq)))
 (k1 false))
 (k1 false)))
 (k1 true))
noncomputable def J107_2_1 (α : Type) (x20 : Nat) (k1 : Bool → Option α) : Option α := J107_2_1g  α x20 k1
def F107_2_1 (v : TJ107_2_1) (α : Type) (K : Exit → St → Option α) : Int → Nat → Nat → Int → Int → Int → Nat → Option α := fun x19 x20 x21 x22 x23 x24 x25 => v α x20 (fun (y1 : Bool) => u107_2_3 (K .normal) x19 x21 x22 y1 x23 x24 x25) 
theorem m107_2_1g   (α : Type) (K : Exit → St → Option α) : F107_2_1 (J107_2_1g ) α K = p107_2_1.unc fun σ => runM Try.prog (E107_2g ) sh107 (c107_2_18g ) K σ := by kernel_rfl
theorem m107_2_1 : ∀ (α : Type) (K : Exit → St → Option α), F107_2_1 J107_2_1 α K = p107_2_1.unc fun σ => runM Try.prog E107_2 sh107 c107_2_18 K σ := m107_2_1g 
noncomputable def c107_2_16g  : MCode := (.region r107_17 [] (tO [1, 4, 6, 8, 16, 17]))
noncomputable def c107_2_16 : MCode := c107_2_16g 
theorem g107_2_16 : c107_2_16.Good Try.prog E107_2 sh107 := trivial
--CODE 16 0
abbrev TJ107_2_0 : Type 1 := (α : Type) → Int → (Option α) → (Option α) → Option α
def J107_2_0g  (α : Type) (x12 : Int) (k1 : Option α) (k2 : Option α) : Option α :=
 cK (x12 == 1)
 (k1)
 (cK (x12 == 0)
 (k2)
 (none))
noncomputable def J107_2_0 (α : Type) (x12 : Int) (k1 : Option α) (k2 : Option α) : Option α := J107_2_0g  α x12 k1 k2
def F107_2_0 (v : TJ107_2_0) (α : Type) (K : Exit → St → Option α) : Int → Nat → Int → Bool → Int → Int → Nat → Option α := fun x10 x11 x12 x13 x14 x15 x16 => v α x12 (u107_2_1 (K .normal) x10 x11 x11 x12 x14 x15 x16) (u107_2_2 (K .normal) x10 x11 x12 x14 x15 x16) 
theorem m107_2_0g   (α : Type) (K : Exit → St → Option α) : F107_2_0 (J107_2_0g ) α K = p107_2_0.unc fun σ => runM Try.prog (E107_2g ) sh107 (c107_2_16g ) K σ := by kernel_rfl
theorem m107_2_0 : ∀ (α : Type) (K : Exit → St → Option α), F107_2_0 J107_2_0 α K = p107_2_0.unc fun σ => runM Try.prog E107_2 sh107 c107_2_16 K σ := m107_2_0g 
noncomputable def c107_2_9g (vJ107_2_0 : TJ107_2_0) (vJ107_2_1 : TJ107_2_1) : MCode := (.seq (.region r107_11 [] (tO [1, 4, 6, 16, 17, 18])) (.seq (.cond (.tmp 18) .skip (.exit 0)) (.seq (.block 1 (.seq (.mark [⟨p107_2_0, F107_2_0 vJ107_2_0⟩] c107_2_16) (.seq (.mark [⟨p107_2_1, F107_2_1 vJ107_2_1⟩] c107_2_18) (.cond (.tmp 43) (.seq (.region r107_22 [] (tO [4, 5])) .ret) .skip)))) (.region r107_23 [] (tO [1, 4, 6, 16, 17])))))
noncomputable def c107_2_9 : MCode := c107_2_9g J107_2_0 J107_2_1
theorem g107_2_9 : c107_2_9.Good Try.prog E107_2 sh107 := ⟨trivial, ⟨⟨trivial, trivial⟩, ⟨⟨⟨g107_2_16, m107_2_0, trivial⟩, ⟨⟨g107_2_18, m107_2_1, trivial⟩, ⟨⟨trivial, trivial⟩, trivial⟩⟩⟩, trivial⟩⟩⟩
--CODE 9 0
def S107_2_2g (vJ107_2_0 : TJ107_2_0) (vJ107_2_1 : TJ107_2_1) (α : Type) (x4 : Nat) (x5 : Int) (kn : Int → Option α) (k1 : Option α) (k2 : Int → Bool → Option α) : Option α :=
 cK (decide (x5 < 2))
 (vJ107_2_0 α x5
 (vJ107_2_1 α x4
 (fun x29 => cK x29
 (k1)
 (kn (w64 (x5 + 1)))))
 (k1))
 (k2 x5 (decide (x5 < 2)))
noncomputable def S107_2_2 (α : Type) (x4 : Nat) (x5 : Int) (kn : Int → Option α) (k1 : Option α) (k2 : Int → Bool → Option α) : Option α := S107_2_2g J107_2_0 J107_2_1 α x4 x5 kn k1 k2
noncomputable def R107_2_2 (α : Type) (x4 : Nat) (k1 : Option α) (k2 : Int → Bool → Option α) : Nat → Int → Option α
 | 0, _ => none
 | n + 1, x5 => S107_2_2 α x4 x5 (R107_2_2 α x4 k1 k2 n) k1 k2
noncomputable def L107_2_2 (α : Type) (x4 : Nat) (k1 : Option α) (k2 : Int → Bool → Option α) (x5 : Int) : Option α := R107_2_2 α x4 k1 k2 fuel x5
abbrev TL107_2_2 : Type 1 := (α : Type) → Nat → (Option α) → (Int → Bool → Option α) → Int → Option α
def F107_2_2 (v : TL107_2_2) (α : Type) (K : Exit → St → Option α) : Int → Nat → Int → Int → Int → Nat → Option α := fun x3 x4 x5 x6 x7 x8 => v α x4 (u107_2_5 (K .ret) 27 0 0) (fun (y1 : Int) (y2 : Bool) => u107_2_0 (K (.exit 0)) x3 x4 y1 y2 x6 x7 x8) x5
theorem r107_2_2g  (vJ107_2_0 : TJ107_2_0) (vJ107_2_1 : TJ107_2_1) (α : Type) (K : Exit → St → Option α) (Kn : St → Option α) (x3 : Int) (x4 : Nat) (x5 x6 x7 : Int) (x8 : Nat) : u107_2_4 (fun σ => runM Try.prog (E107_2g ) sh107 (c107_2_9g vJ107_2_0 vJ107_2_1) (thenK (fun σ => tidyK td107_9 σ Kn) K) σ) x3 x4 x5 x6 x7 x8 = S107_2_2g vJ107_2_0 vJ107_2_1 α x4 x5 (fun x5 => u107_2_4 Kn x3 x4 x5 x6 x7 x8) (u107_2_5 (K .ret) 27 0 0) (fun (y1 : Int) (y2 : Bool) => u107_2_0 (K (.exit 0)) x3 x4 y1 y2 x6 x7 x8) := by kernel_rfl
theorem r107_2_2 (α : Type) (K : Exit → St → Option α) (Kn : St → Option α) (x3 : Int) (x4 : Nat) (x5 x6 x7 : Int) (x8 : Nat) : u107_2_4 (fun σ => runM Try.prog E107_2 sh107 c107_2_9 (thenK (fun σ => tidyK td107_9 σ Kn) K) σ) x3 x4 x5 x6 x7 x8 = S107_2_2 α x4 x5 (fun x5 => u107_2_4 Kn x3 x4 x5 x6 x7 x8) (u107_2_5 (K .ret) 27 0 0) (fun (y1 : Int) (y2 : Bool) => u107_2_0 (K (.exit 0)) x3 x4 y1 y2 x6 x7 x8) := r107_2_2g J107_2_0 J107_2_1 α K Kn x3 x4 x5 x6 x7 x8
theorem t107_2_2 (α : Type) (K : Exit → St → Option α) : ∀ (n : Nat) (x3 : Int) (x4 : Nat) (x5 x6 x7 : Int) (x8 : Nat), R107_2_2 α x4 (u107_2_5 (K .ret) 27 0 0) (fun (y1 : Int) (y2 : Bool) => u107_2_0 (K (.exit 0)) x3 x4 y1 y2 x6 x7 x8) n x5 = u107_2_4 (loopT (runM Try.prog E107_2 sh107 c107_2_9) td107_9 K n) x3 x4 x5 x6 x7 x8 := by
 intro n
 induction n with
 | zero => intros; rfl
 | succ n ih => intro x3 x4 x5 x6 x7 x8; exact (congrArg (fun kn => S107_2_2 α x4 x5 kn (u107_2_5 (K .ret) 27 0 0) (fun (y1 : Int) (y2 : Bool) => u107_2_0 (K (.exit 0)) x3 x4 y1 y2 x6 x7 x8)) (funext fun x5 => ih x3 x4 x5 x6 x7 x8)).trans (r107_2_2 α K (loopT (runM Try.prog E107_2 sh107 c107_2_9) td107_9 K n) x3 x4 x5 x6 x7 x8).symm
theorem m107_2_2 : ∀ (α : Type) (K : Exit → St → Option α), F107_2_2 L107_2_2 α K = p107_2_4.unc fun σ => loopT (runM Try.prog E107_2 sh107 c107_2_9) td107_9 K fuel σ := fun α K => funext fun x3 => funext fun x4 => funext fun x5 => funext fun x6 => funext fun x7 => funext fun x8 => t107_2_2 α K fuel x3 x4 x5 x6 x7 x8
abbrev Tf107_2 : Type 1 := (α : Type) → Nat → Int → (Int → Option α) → Option α
def f107_2g (vL107_2_2 : TL107_2_2) (vL107_2_4 : TL107_2_4) (α : Type) (x1 : Nat) (x2 : Int) (k1 : Int → Option α) : Option α :=
 vL107_2_2 α x1
 (k1 27)
 (fun x31 x32 => vL107_2_4 α x2 x1
 (k1 2)
 (fun x50 x51 => none) 0) 0
noncomputable def f107_2 (α : Type) (x1 : Nat) (x2 : Int) (k1 : Int → Option α) : Option α := f107_2g L107_2_2 L107_2_4 α x1 x2 k1
def pa107_2 : PT (List DV) := pA [pV false [(dCB .f64)], pV false [(dI .i64)]]
def Fn107_2 (v : Tf107_2) (α : Type) (k : List RV → Option α) : Nat → Int → Option α := fun x1 x2 => v α x1 x2 (fun (y1 : Int) => ur107_2_0 k 0 0 y1)
noncomputable def cm107_2g (vL107_2_2 : TL107_2_2) (vL107_2_4 : TL107_2_4) : MCode := (.seq (.region r107_2 [] (tO [0, 1, 4])) (.seq (.region r107_4 [] (tO [1, 4, 6])) (.seq (.seq (.region r107_7 [] (tO [1, 4, 6, 16, 17])) (.block 0 (.loop td107_9 [⟨p107_2_4, F107_2_2 vL107_2_2⟩] c107_2_9))) (.seq (.seq (.region r107_26 [] (tO [1, 4, 6, 46, 47])) (.block 2 (.loop td107_28 [⟨p107_2_9, F107_2_4 vL107_2_4⟩] c107_2_28))) (.seq (.region r107_44 [] (tO [4, 5])) .ret)))))
noncomputable def cm107_2 : MCode := cm107_2g L107_2_2 L107_2_4
theorem gm107_2 : cm107_2.Good Try.prog E107_2 sh107 := ⟨trivial, ⟨trivial, ⟨⟨trivial, ⟨g107_2_9, m107_2_2, trivial⟩⟩, ⟨⟨trivial, ⟨g107_2_28, m107_2_4, trivial⟩⟩, ⟨trivial, trivial⟩⟩⟩⟩⟩
theorem fm107_2g  (vL107_2_2 : TL107_2_2) (vL107_2_4 : TL107_2_4) (α : Type) (k : List RV → Option α) : Fn107_2 (f107_2g vL107_2_2 vL107_2_4) α k = pa107_2.unc fun ds => fnM Try.prog (E107_2g ) sh107 (cm107_2g vL107_2_2 vL107_2_4) rs107 k ds := by kernel_rfl
theorem fm107_2 : ∀ (α : Type) (k : List RV → Option α), Fn107_2 f107_2 α k = pa107_2.unc fun ds => fnM Try.prog E107_2 sh107 cm107_2 rs107 k ds := fm107_2g L107_2_2 L107_2_4
theorem io107_2 : InstOk Try.prog 107 nt107 ⟨pa107_2, Fn107_2 f107_2⟩ := inst_ok eo107_2 followsTry is107 ⟨⟨sh107, cm107_2, by kernel_rfl, gm107_2, fm107_2⟩⟩
def p107_3_0 : PT St := pS [sl 1 (aV false [(cD (dI .i64))]), sl 4 (aV false [(cPtr 4 0)]), sl 6 (aV false [(cPtr 6 0)]), sl 16 (aV true [(cD (dF .f64)), (cD (dNan .f64))]), sl 17 (aV false [(cD (dI .i64))]), sl 18 (aV false [(cD dB)])] [eBox 4 [(cD (dI .i64)), (cD (dI .i64))], eBox 6 [(cD (dF .f64)), (cD (dNan .f64))]]
def u107_3_0 {β : Type} (g : St → β) : Int → Nat → Int → Bool → Int → Int → Nat → β := p107_3_0.unc g
def p107_3_1 : PT St := pS [sl 1 (aV false [(cD (dI .i64))]), sl 4 (aV false [(cPtr 4 0)]), sl 6 (aV false [(cPtr 6 0)]), sl 8 (aV false [(cD (dNan .f64))]), sl 16 (aV true [(cD (dF .f64)), (cD (dNan .f64))]), sl 17 (aV false [(cD (dI .i64))])] [eBox 4 [(cD (dI .i64)), (cD (dI .i64))], eBox 6 [(cD (dF .f64)), (cD (dNan .f64))]]
def u107_3_1 {β : Type} (g : St → β) : Int → Nat → Int → Int → Int → Nat → β := p107_3_1.unc g
def p107_3_2 : PT St := pS [sl 1 (aV false [(cD (dI .i64))]), sl 4 (aV false [(cPtr 4 0)]), sl 6 (aV false [(cPtr 6 0)]), sl 8 (aV false [(cD (dF .f64))]), sl 16 (aV true [(cD (dF .f64)), (cD (dNan .f64))]), sl 17 (aV false [(cD (dI .i64))])] [eBox 4 [(cD (dI .i64)), (cD (dI .i64))], eBox 6 [(cD (dF .f64)), (cD (dNan .f64))]]
def u107_3_2 {β : Type} (g : St → β) : Int → Nat → Nat → Int → Int → Int → Nat → β := p107_3_2.unc g
def p107_3_3 : PT St := pS [sl 1 (aV false [(cD (dI .i64))]), sl 4 (aV false [(cPtr 4 0)]), sl 6 (aV false [(cPtr 6 0)]), sl 16 (aV true [(cD (dF .f64)), (cD (dNan .f64))]), sl 17 (aV false [(cD (dI .i64))]), sl 43 (aV false [(cD dB)])] [eBox 4 [(cD (dI .i64)), (cD (dI .i64))], eBox 6 [(cD (dF .f64)), (cD (dNan .f64))]]
def u107_3_3 {β : Type} (g : St → β) : Int → Nat → Int → Bool → Int → Int → Nat → β := p107_3_3.unc g
def p107_3_4 : PT St := pS [sl 1 (aV false [(cD (dI .i64))]), sl 4 (aV false [(cPtr 4 0)]), sl 6 (aV false [(cPtr 6 0)]), sl 16 (aV true [(cD (dF .f64)), (cD (dNan .f64))]), sl 17 (aV false [(cD (dI .i64))])] [eBox 4 [(cD (dI .i64)), (cD (dI .i64))], eBox 6 [(cD (dF .f64)), (cD (dNan .f64))]]
def u107_3_4 {β : Type} (g : St → β) : Int → Nat → Int → Int → Int → Nat → β := p107_3_4.unc g
def p107_3_5 : PT St := pS [sl 4 (aV false [(cPtr 4 0)]), sl 5 (aV false [(cD (dI .i64))])] [eBox 4 [(cD (dI .i64)), (cD (dI .i64))]]
def u107_3_5 {β : Type} (g : St → β) : Int → Int → Int → β := p107_3_5.unc g
def p107_3_6 : PT St := pS [sl 1 (aV false [(cD (dI .i64))]), sl 4 (aV false [(cPtr 4 0)]), sl 6 (aV false [(cPtr 6 0)]), sl 46 (aV true [(cD (dF .f64)), (cD (dNan .f64))]), sl 47 (aV false [(cD (dI .i64))]), sl 48 (aV false [(cD dB)])] [eBox 4 [(cD (dI .i64)), (cD (dI .i64))], eBox 6 [(cD (dF .f64)), (cD (dNan .f64))]]
def u107_3_6 {β : Type} (g : St → β) : Int → Nat → Int → Bool → Int → Int → Nat → β := p107_3_6.unc g
def p107_3_7 : PT St := pS [sl 1 (aV false [(cD (dI .i64))]), sl 4 (aV false [(cPtr 4 0)]), sl 6 (aV false [(cPtr 6 0)]), sl 10 (aV false [(cD (dNan .f64))]), sl 46 (aV true [(cD (dF .f64)), (cD (dNan .f64))]), sl 47 (aV false [(cD (dI .i64))])] [eBox 4 [(cD (dI .i64)), (cD (dI .i64))], eBox 6 [(cD (dF .f64)), (cD (dNan .f64))]]
def u107_3_7 {β : Type} (g : St → β) : Int → Nat → Int → Int → Int → Nat → β := p107_3_7.unc g
def p107_3_8 : PT St := pS [sl 1 (aV false [(cD (dI .i64))]), sl 4 (aV false [(cPtr 4 0)]), sl 6 (aV false [(cPtr 6 0)]), sl 10 (aV false [(cD (dF .f64))]), sl 46 (aV true [(cD (dF .f64)), (cD (dNan .f64))]), sl 47 (aV false [(cD (dI .i64))])] [eBox 4 [(cD (dI .i64)), (cD (dI .i64))], eBox 6 [(cD (dF .f64)), (cD (dNan .f64))]]
def u107_3_8 {β : Type} (g : St → β) : Int → Nat → Nat → Int → Int → Int → Nat → β := p107_3_8.unc g
def p107_3_9 : PT St := pS [sl 1 (aV false [(cD (dI .i64))]), sl 4 (aV false [(cPtr 4 0)]), sl 6 (aV false [(cPtr 6 0)]), sl 46 (aV true [(cD (dF .f64)), (cD (dNan .f64))]), sl 47 (aV false [(cD (dI .i64))])] [eBox 4 [(cD (dI .i64)), (cD (dI .i64))], eBox 6 [(cD (dF .f64)), (cD (dNan .f64))]]
def u107_3_9 {β : Type} (g : St → β) : Int → Nat → Int → Int → Int → Nat → β := p107_3_9.unc g
def pr107_3_0 : PT (List RV) := pRs [pR true [rD (dI .i64), rD (dI .i64)], pR false [rD (dI .i64)]]
def ur107_3_0 {β : Type} (g : List RV → β) : Int → Int → Int → β := pr107_3_0.unc g
def E107_3g  : EnvK := EnvK.of [] noSeq
noncomputable def E107_3 : EnvK := E107_3g 
theorem eo107_3 : E107_3.Ok Try.prog := EnvK.of_ok noSeq_ok trivial
noncomputable def c107_3_35g  : MCode := (.region r107_36 [] (tO [1, 4, 6, 10, 46, 47]))
noncomputable def c107_3_35 : MCode := c107_3_35g 
theorem g107_3_35 : c107_3_35.Good Try.prog E107_3 sh107 := trivial
--CODE 35 0
abbrev TJ107_3_3 : Type 1 := (α : Type) → Int → (Option α) → (Option α) → Option α
def J107_3_3g  (α : Type) (x43 : Int) (k1 : Option α) (k2 : Option α) : Option α :=
 cK (x43 == 1)
 (k1)
 (cK (x43 == 0)
 (k2)
 (none))
noncomputable def J107_3_3 (α : Type) (x43 : Int) (k1 : Option α) (k2 : Option α) : Option α := J107_3_3g  α x43 k1 k2
def F107_3_3 (v : TJ107_3_3) (α : Type) (K : Exit → St → Option α) : Int → Nat → Int → Bool → Int → Int → Nat → Option α := fun x41 x42 x43 x44 x45 x46 x47 => v α x43 (u107_3_7 (K .normal) x41 x42 x43 x45 x46 x47) (u107_3_8 (K .normal) x41 x42 x42 x43 x45 x46 x47) 
theorem m107_3_3g   (α : Type) (K : Exit → St → Option α) : F107_3_3 (J107_3_3g ) α K = p107_3_6.unc fun σ => runM Try.prog (E107_3g ) sh107 (c107_3_35g ) K σ := by kernel_rfl
theorem m107_3_3 : ∀ (α : Type) (K : Exit → St → Option α), F107_3_3 J107_3_3 α K = p107_3_6.unc fun σ => runM Try.prog E107_3 sh107 c107_3_35 K σ := m107_3_3g 
noncomputable def c107_3_28g (vJ107_3_3 : TJ107_3_3) : MCode := (.seq (.region r107_30 [] (tO [1, 4, 6, 46, 47, 48])) (.seq (.cond (.tmp 48) .skip (.exit 2)) (.seq (.block 3 (.seq (.mark [⟨p107_3_6, F107_3_3 vJ107_3_3⟩] c107_3_35) (.seq (.region r107_38 [] (tO [1, 4, 6, 46, 47, 60])) (.cond (.tmp 60) (.seq (.region r107_41 [] (tO [4, 5])) .ret) .skip)))) (.region r107_42 [] (tO [1, 4, 6, 46, 47])))))
noncomputable def c107_3_28 : MCode := c107_3_28g J107_3_3
theorem g107_3_28 : c107_3_28.Good Try.prog E107_3 sh107 := ⟨trivial, ⟨⟨trivial, trivial⟩, ⟨⟨⟨g107_3_35, m107_3_3, trivial⟩, ⟨trivial, ⟨⟨trivial, trivial⟩, trivial⟩⟩⟩, trivial⟩⟩⟩
--CODE 28 0
def S107_3_4g (vJ107_3_3 : TJ107_3_3) (α : Type) (x34 : Int) (x35 : Nat) (x36 : Int) (kn : Int → Option α) (k1 : Option α) (k2 : Int → Bool → Option α) : Option α :=
 cK (decide (x36 < 2))
 (vJ107_3_3 α x36
 (kn (w64 (x36 + 1)))
 (cK ((FloatKind.format .f64).order x35 (FloatKind.nearest .f64 x34) == some Ordering.gt)
 (k1)
 (cK ((FloatKind.format .f64).order x35 (Op.negFloat .f64 (FloatKind.nearest .f64 x34)) == some Ordering.lt)
 (k1)
 (kn (w64 (x36 + 1))))))
 (k2 x36 (decide (x36 < 2)))
noncomputable def S107_3_4 (α : Type) (x34 : Int) (x35 : Nat) (x36 : Int) (kn : Int → Option α) (k1 : Option α) (k2 : Int → Bool → Option α) : Option α := S107_3_4g J107_3_3 α x34 x35 x36 kn k1 k2
noncomputable def R107_3_4 (α : Type) (x34 : Int) (x35 : Nat) (k1 : Option α) (k2 : Int → Bool → Option α) : Nat → Int → Option α
 | 0, _ => none
 | n + 1, x36 => S107_3_4 α x34 x35 x36 (R107_3_4 α x34 x35 k1 k2 n) k1 k2
noncomputable def L107_3_4 (α : Type) (x34 : Int) (x35 : Nat) (k1 : Option α) (k2 : Int → Bool → Option α) (x36 : Int) : Option α := R107_3_4 α x34 x35 k1 k2 fuel x36
abbrev TL107_3_4 : Type 1 := (α : Type) → Int → Nat → (Option α) → (Int → Bool → Option α) → Int → Option α
def F107_3_4 (v : TL107_3_4) (α : Type) (K : Exit → St → Option α) : Int → Nat → Int → Int → Int → Nat → Option α := fun x34 x35 x36 x37 x38 x39 => v α x34 x35 (u107_3_5 (K .ret) 2 0 0) (fun (y1 : Int) (y2 : Bool) => u107_3_6 (K (.exit 2)) x34 x35 y1 y2 x37 x38 x39) x36
theorem r107_3_4g  (vJ107_3_3 : TJ107_3_3) (α : Type) (K : Exit → St → Option α) (Kn : St → Option α) (x34 : Int) (x35 : Nat) (x36 x37 x38 : Int) (x39 : Nat) : u107_3_9 (fun σ => runM Try.prog (E107_3g ) sh107 (c107_3_28g vJ107_3_3) (thenK (fun σ => tidyK td107_28 σ Kn) K) σ) x34 x35 x36 x37 x38 x39 = S107_3_4g vJ107_3_3 α x34 x35 x36 (fun x36 => u107_3_9 Kn x34 x35 x36 x37 x38 x39) (u107_3_5 (K .ret) 2 0 0) (fun (y1 : Int) (y2 : Bool) => u107_3_6 (K (.exit 2)) x34 x35 y1 y2 x37 x38 x39) := by kernel_rfl
theorem r107_3_4 (α : Type) (K : Exit → St → Option α) (Kn : St → Option α) (x34 : Int) (x35 : Nat) (x36 x37 x38 : Int) (x39 : Nat) : u107_3_9 (fun σ => runM Try.prog E107_3 sh107 c107_3_28 (thenK (fun σ => tidyK td107_28 σ Kn) K) σ) x34 x35 x36 x37 x38 x39 = S107_3_4 α x34 x35 x36 (fun x36 => u107_3_9 Kn x34 x35 x36 x37 x38 x39) (u107_3_5 (K .ret) 2 0 0) (fun (y1 : Int) (y2 : Bool) => u107_3_6 (K (.exit 2)) x34 x35 y1 y2 x37 x38 x39) := r107_3_4g J107_3_3 α K Kn x34 x35 x36 x37 x38 x39
theorem t107_3_4 (α : Type) (K : Exit → St → Option α) : ∀ (n : Nat) (x34 : Int) (x35 : Nat) (x36 x37 x38 : Int) (x39 : Nat), R107_3_4 α x34 x35 (u107_3_5 (K .ret) 2 0 0) (fun (y1 : Int) (y2 : Bool) => u107_3_6 (K (.exit 2)) x34 x35 y1 y2 x37 x38 x39) n x36 = u107_3_9 (loopT (runM Try.prog E107_3 sh107 c107_3_28) td107_28 K n) x34 x35 x36 x37 x38 x39 := by
 intro n
 induction n with
 | zero => intros; rfl
 | succ n ih => intro x34 x35 x36 x37 x38 x39; exact (congrArg (fun kn => S107_3_4 α x34 x35 x36 kn (u107_3_5 (K .ret) 2 0 0) (fun (y1 : Int) (y2 : Bool) => u107_3_6 (K (.exit 2)) x34 x35 y1 y2 x37 x38 x39)) (funext fun x36 => ih x34 x35 x36 x37 x38 x39)).trans (r107_3_4 α K (loopT (runM Try.prog E107_3 sh107 c107_3_28) td107_28 K n) x34 x35 x36 x37 x38 x39).symm
theorem m107_3_4 : ∀ (α : Type) (K : Exit → St → Option α), F107_3_4 L107_3_4 α K = p107_3_9.unc fun σ => loopT (runM Try.prog E107_3 sh107 c107_3_28) td107_28 K fuel σ := fun α K => funext fun x34 => funext fun x35 => funext fun x36 => funext fun x37 => funext fun x38 => funext fun x39 => t107_3_4 α K fuel x34 x35 x36 x37 x38 x39
noncomputable def c107_3_18g  : MCode := (.region r107_19 [] (tO [1, 4, 6, 16, 17, 43]))
noncomputable def c107_3_18 : MCode := c107_3_18g 
theorem g107_3_18 : c107_3_18.Good Try.prog E107_3 sh107 := trivial
--CODE 18 0
abbrev TJ107_3_1 : Type 1 := (α : Type) → Nat → (Bool → Option α) → Option α
def J107_3_1g  (α : Type) (x20 : Nat) (k1 : Bool → Option α) : Option α :=
 cK ((FloatKind.format .f64).order x20 x20 != some Ordering.eq)
 (k1 true)
 (flN ((FloatKind.format .f64).sub x20 x20)
 (fun x27 => cK ((FloatKind.format .f64).order x27 0 != some Ordering.eq)
 (k1 true)
 (cK ((FloatKind.format .f64).order x20 4845873199050653696 == some Ordering.lt)
 (cK ((FloatKind.format .f64).order x20 14069245235905429504 == some Ordering.gt)
 (ivK (f2i .f64 x20 .i64)
 (fun x28 => k1 ((FloatKind.format .f64).order (FloatKind.nearest .f64 x28) x20 != some Ordering.eq)))
 (k1 false))
 (k1 false)))
 (k1 true))
noncomputable def J107_3_1 (α : Type) (x20 : Nat) (k1 : Bool → Option α) : Option α := J107_3_1g  α x20 k1
def F107_3_1 (v : TJ107_3_1) (α : Type) (K : Exit → St → Option α) : Int → Nat → Nat → Int → Int → Int → Nat → Option α := fun x19 x20 x21 x22 x23 x24 x25 => v α x20 (fun (y1 : Bool) => u107_3_3 (K .normal) x19 x21 x22 y1 x23 x24 x25) 
theorem m107_3_1g   (α : Type) (K : Exit → St → Option α) : F107_3_1 (J107_3_1g ) α K = p107_3_2.unc fun σ => runM Try.prog (E107_3g ) sh107 (c107_3_18g ) K σ := by kernel_rfl
theorem m107_3_1 : ∀ (α : Type) (K : Exit → St → Option α), F107_3_1 J107_3_1 α K = p107_3_2.unc fun σ => runM Try.prog E107_3 sh107 c107_3_18 K σ := m107_3_1g 
noncomputable def c107_3_16g  : MCode := (.region r107_17 [] (tO [1, 4, 6, 8, 16, 17]))
noncomputable def c107_3_16 : MCode := c107_3_16g 
theorem g107_3_16 : c107_3_16.Good Try.prog E107_3 sh107 := trivial
--CODE 16 0
abbrev TJ107_3_0 : Type 1 := (α : Type) → Int → (Option α) → (Option α) → Option α
def J107_3_0g  (α : Type) (x12 : Int) (k1 : Option α) (k2 : Option α) : Option α :=
 cK (x12 == 1)
 (k1)
 (cK (x12 == 0)
 (k2)
 (none))
noncomputable def J107_3_0 (α : Type) (x12 : Int) (k1 : Option α) (k2 : Option α) : Option α := J107_3_0g  α x12 k1 k2
def F107_3_0 (v : TJ107_3_0) (α : Type) (K : Exit → St → Option α) : Int → Nat → Int → Bool → Int → Int → Nat → Option α := fun x10 x11 x12 x13 x14 x15 x16 => v α x12 (u107_3_1 (K .normal) x10 x11 x12 x14 x15 x16) (u107_3_2 (K .normal) x10 x11 x11 x12 x14 x15 x16) 
theorem m107_3_0g   (α : Type) (K : Exit → St → Option α) : F107_3_0 (J107_3_0g ) α K = p107_3_0.unc fun σ => runM Try.prog (E107_3g ) sh107 (c107_3_16g ) K σ := by kernel_rfl
theorem m107_3_0 : ∀ (α : Type) (K : Exit → St → Option α), F107_3_0 J107_3_0 α K = p107_3_0.unc fun σ => runM Try.prog E107_3 sh107 c107_3_16 K σ := m107_3_0g 
noncomputable def c107_3_9g (vJ107_3_0 : TJ107_3_0) (vJ107_3_1 : TJ107_3_1) : MCode := (.seq (.region r107_11 [] (tO [1, 4, 6, 16, 17, 18])) (.seq (.cond (.tmp 18) .skip (.exit 0)) (.seq (.block 1 (.seq (.mark [⟨p107_3_0, F107_3_0 vJ107_3_0⟩] c107_3_16) (.seq (.mark [⟨p107_3_2, F107_3_1 vJ107_3_1⟩] c107_3_18) (.cond (.tmp 43) (.seq (.region r107_22 [] (tO [4, 5])) .ret) .skip)))) (.region r107_23 [] (tO [1, 4, 6, 16, 17])))))
noncomputable def c107_3_9 : MCode := c107_3_9g J107_3_0 J107_3_1
theorem g107_3_9 : c107_3_9.Good Try.prog E107_3 sh107 := ⟨trivial, ⟨⟨trivial, trivial⟩, ⟨⟨⟨g107_3_16, m107_3_0, trivial⟩, ⟨⟨g107_3_18, m107_3_1, trivial⟩, ⟨⟨trivial, trivial⟩, trivial⟩⟩⟩, trivial⟩⟩⟩
--CODE 9 0
def S107_3_2g (vJ107_3_0 : TJ107_3_0) (vJ107_3_1 : TJ107_3_1) (α : Type) (x4 : Nat) (x5 : Int) (kn : Int → Option α) (k1 : Option α) (k2 : Int → Bool → Option α) : Option α :=
 cK (decide (x5 < 2))
 (vJ107_3_0 α x5
 (k1)
 (vJ107_3_1 α x4
 (fun x29 => cK x29
 (k1)
 (kn (w64 (x5 + 1))))))
 (k2 x5 (decide (x5 < 2)))
noncomputable def S107_3_2 (α : Type) (x4 : Nat) (x5 : Int) (kn : Int → Option α) (k1 : Option α) (k2 : Int → Bool → Option α) : Option α := S107_3_2g J107_3_0 J107_3_1 α x4 x5 kn k1 k2
noncomputable def R107_3_2 (α : Type) (x4 : Nat) (k1 : Option α) (k2 : Int → Bool → Option α) : Nat → Int → Option α
 | 0, _ => none
 | n + 1, x5 => S107_3_2 α x4 x5 (R107_3_2 α x4 k1 k2 n) k1 k2
noncomputable def L107_3_2 (α : Type) (x4 : Nat) (k1 : Option α) (k2 : Int → Bool → Option α) (x5 : Int) : Option α := R107_3_2 α x4 k1 k2 fuel x5
abbrev TL107_3_2 : Type 1 := (α : Type) → Nat → (Option α) → (Int → Bool → Option α) → Int → Option α
def F107_3_2 (v : TL107_3_2) (α : Type) (K : Exit → St → Option α) : Int → Nat → Int → Int → Int → Nat → Option α := fun x3 x4 x5 x6 x7 x8 => v α x4 (u107_3_5 (K .ret) 27 0 0) (fun (y1 : Int) (y2 : Bool) => u107_3_0 (K (.exit 0)) x3 x4 y1 y2 x6 x7 x8) x5
theorem r107_3_2g  (vJ107_3_0 : TJ107_3_0) (vJ107_3_1 : TJ107_3_1) (α : Type) (K : Exit → St → Option α) (Kn : St → Option α) (x3 : Int) (x4 : Nat) (x5 x6 x7 : Int) (x8 : Nat) : u107_3_4 (fun σ => runM Try.prog (E107_3g ) sh107 (c107_3_9g vJ107_3_0 vJ107_3_1) (thenK (fun σ => tidyK td107_9 σ Kn) K) σ) x3 x4 x5 x6 x7 x8 = S107_3_2g vJ107_3_0 vJ107_3_1 α x4 x5 (fun x5 => u107_3_4 Kn x3 x4 x5 x6 x7 x8) (u107_3_5 (K .ret) 27 0 0) (fun (y1 : Int) (y2 : Bool) => u107_3_0 (K (.exit 0)) x3 x4 y1 y2 x6 x7 x8) := by kernel_rfl
theorem r107_3_2 (α : Type) (K : Exit → St → Option α) (Kn : St → Option α) (x3 : Int) (x4 : Nat) (x5 x6 x7 : Int) (x8 : Nat) : u107_3_4 (fun σ => runM Try.prog E107_3 sh107 c107_3_9 (thenK (fun σ => tidyK td107_9 σ Kn) K) σ) x3 x4 x5 x6 x7 x8 = S107_3_2 α x4 x5 (fun x5 => u107_3_4 Kn x3 x4 x5 x6 x7 x8) (u107_3_5 (K .ret) 27 0 0) (fun (y1 : Int) (y2 : Bool) => u107_3_0 (K (.exit 0)) x3 x4 y1 y2 x6 x7 x8) := r107_3_2g J107_3_0 J107_3_1 α K Kn x3 x4 x5 x6 x7 x8
theorem t107_3_2 (α : Type) (K : Exit → St → Option α) : ∀ (n : Nat) (x3 : Int) (x4 : Nat) (x5 x6 x7 : Int) (x8 : Nat), R107_3_2 α x4 (u107_3_5 (K .ret) 27 0 0) (fun (y1 : Int) (y2 : Bool) => u107_3_0 (K (.exit 0)) x3 x4 y1 y2 x6 x7 x8) n x5 = u107_3_4 (loopT (runM Try.prog E107_3 sh107 c107_3_9) td107_9 K n) x3 x4 x5 x6 x7 x8 := by
 intro n
 induction n with
 | zero => intros; rfl
 | succ n ih => intro x3 x4 x5 x6 x7 x8; exact (congrArg (fun kn => S107_3_2 α x4 x5 kn (u107_3_5 (K .ret) 27 0 0) (fun (y1 : Int) (y2 : Bool) => u107_3_0 (K (.exit 0)) x3 x4 y1 y2 x6 x7 x8)) (funext fun x5 => ih x3 x4 x5 x6 x7 x8)).trans (r107_3_2 α K (loopT (runM Try.prog E107_3 sh107 c107_3_9) td107_9 K n) x3 x4 x5 x6 x7 x8).symm
theorem m107_3_2 : ∀ (α : Type) (K : Exit → St → Option α), F107_3_2 L107_3_2 α K = p107_3_4.unc fun σ => loopT (runM Try.prog E107_3 sh107 c107_3_9) td107_9 K fuel σ := fun α K => funext fun x3 => funext fun x4 => funext fun x5 => funext fun x6 => funext fun x7 => funext fun x8 => t107_3_2 α K fuel x3 x4 x5 x6 x7 x8
abbrev Tf107_3 : Type 1 := (α : Type) → Nat → Int → (Int → Option α) → Option α
def f107_3g (vL107_3_2 : TL107_3_2) (vL107_3_4 : TL107_3_4) (α : Type) (x1 : Nat) (x2 : Int) (k1 : Int → Option α) : Option α :=
 vL107_3_2 α x1
 (k1 27)
 (fun x31 x32 => vL107_3_4 α x2 x1
 (k1 2)
 (fun x50 x51 => ivK (f2i .f64 x1 .i64)
 (fun x53 => none)) 0) 0
noncomputable def f107_3 (α : Type) (x1 : Nat) (x2 : Int) (k1 : Int → Option α) : Option α := f107_3g L107_3_2 L107_3_4 α x1 x2 k1
def pa107_3 : PT (List DV) := pA [pV false [(dCA .f64)], pV false [(dI .i64)]]
def Fn107_3 (v : Tf107_3) (α : Type) (k : List RV → Option α) : Nat → Int → Option α := fun x1 x2 => v α x1 x2 (fun (y1 : Int) => ur107_3_0 k 0 0 y1)
noncomputable def cm107_3g (vL107_3_2 : TL107_3_2) (vL107_3_4 : TL107_3_4) : MCode := (.seq (.region r107_2 [] (tO [0, 1, 4])) (.seq (.region r107_4 [] (tO [1, 4, 6])) (.seq (.seq (.region r107_7 [] (tO [1, 4, 6, 16, 17])) (.block 0 (.loop td107_9 [⟨p107_3_4, F107_3_2 vL107_3_2⟩] c107_3_9))) (.seq (.seq (.region r107_26 [] (tO [1, 4, 6, 46, 47])) (.block 2 (.loop td107_28 [⟨p107_3_9, F107_3_4 vL107_3_4⟩] c107_3_28))) (.seq (.region r107_44 [] (tO [4, 5])) .ret)))))
noncomputable def cm107_3 : MCode := cm107_3g L107_3_2 L107_3_4
theorem gm107_3 : cm107_3.Good Try.prog E107_3 sh107 := ⟨trivial, ⟨trivial, ⟨⟨trivial, ⟨g107_3_9, m107_3_2, trivial⟩⟩, ⟨⟨trivial, ⟨g107_3_28, m107_3_4, trivial⟩⟩, ⟨trivial, trivial⟩⟩⟩⟩⟩
theorem fm107_3g  (vL107_3_2 : TL107_3_2) (vL107_3_4 : TL107_3_4) (α : Type) (k : List RV → Option α) : Fn107_3 (f107_3g vL107_3_2 vL107_3_4) α k = pa107_3.unc fun ds => fnM Try.prog (E107_3g ) sh107 (cm107_3g vL107_3_2 vL107_3_4) rs107 k ds := by kernel_rfl
theorem fm107_3 : ∀ (α : Type) (k : List RV → Option α), Fn107_3 f107_3 α k = pa107_3.unc fun ds => fnM Try.prog E107_3 sh107 cm107_3 rs107 k ds := fm107_3g L107_3_2 L107_3_4
theorem io107_3 : InstOk Try.prog 107 nt107 ⟨pa107_3, Fn107_3 f107_3⟩ := inst_ok eo107_3 followsTry is107 ⟨⟨sh107, cm107_3, by kernel_rfl, gm107_3, fm107_3⟩⟩
abbrev nt31 : Nat := 14
def sh31 : List (Nat × List Sh) := []
def r31_2 : List AOper := [oO 4 (.mv (kI 0))]
def r31_4 : List AOper := [oM 5 0, oM 6 1, oO 7 (.bin .rem 3 (.tmp 5) (.tmp 6)), oM 0 7]
def r31_7 : List AOper := [oM 8 0, oO 9 (.bin .lss 3 (.tmp 8) (kI 0))]
def r31_9 : List AOper := [oM 10 0, oM 11 1, oO 12 (.bin .add 3 (.tmp 10) (.tmp 11)), oM 0 12]
def r31_11 : List AOper := [oM 13 0, oM 4 13]
def tr31 : List (Nat × Tidy) := [tT 0 [0, 1], tT 1 [0, 1], tT 2 [0, 1, 9], tT 3 [0], tT 4 [4]]
def tl31 : List (Nat × Tidy) := []
def rs31 : List AResV := [.tmp 4]
def pr31_0_0 : PT (List RV) := pRs [pR false [rD (dI .i64)]]
def ur31_0_0 {β : Type} (g : List RV → β) : Int → β := pr31_0_0.unc g
def E31_0g  : EnvK := EnvK.of [] noSeq
noncomputable def E31_0 : EnvK := E31_0g 
theorem eo31_0 : E31_0.Ok Try.prog := EnvK.of_ok noSeq_ok trivial
abbrev Tf31_0 : Type 1 := (α : Type) → Int → Int → (Int → Option α) → Option α
def f31_0g  (α : Type) (x1 x2 : Int) (k1 : Int → Option α) : Option α :=
 gK (x2 != 0) (cK (decide ((Int.tmod x1 x2) < 0))
 (k1 (w64 ((Int.tmod x1 x2) + x2)))
 (k1 (Int.tmod x1 x2)))
noncomputable def f31_0 (α : Type) (x1 x2 : Int) (k1 : Int → Option α) : Option α := f31_0g  α x1 x2 k1
def pa31_0 : PT (List DV) := pA [pV false [(dI .i64)], pV false [(dI .i64)]]
def Fn31_0 (v : Tf31_0) (α : Type) (k : List RV → Option α) : Int → Int → Option α := fun x1 x2 => v α x1 x2 (fun (y1 : Int) => ur31_0_0 k y1)
noncomputable def cm31_0g  : MCode := (.seq (.region r31_2 [] (tO [0, 1])) (.seq (.region r31_4 [] (tO [0, 1])) (.seq (.seq (.region r31_7 [] (tO [0, 1, 9])) (.cond (.tmp 9) (.region r31_9 [] (tO [0])) .skip)) (.seq (.region r31_11 [] (tO [4])) .ret))))
noncomputable def cm31_0 : MCode := cm31_0g 
theorem gm31_0 : cm31_0.Good Try.prog E31_0 sh31 := ⟨trivial, ⟨trivial, ⟨⟨trivial, ⟨trivial, trivial⟩⟩, ⟨trivial, trivial⟩⟩⟩⟩
theorem fm31_0g   (α : Type) (k : List RV → Option α) : Fn31_0 (f31_0g ) α k = pa31_0.unc fun ds => fnM Try.prog (E31_0g ) sh31 (cm31_0g ) rs31 k ds := by kernel_rfl
theorem fm31_0 : ∀ (α : Type) (k : List RV → Option α), Fn31_0 f31_0 α k = pa31_0.unc fun ds => fnM Try.prog E31_0 sh31 cm31_0 rs31 k ds := fm31_0g 
theorem is31 : FnIs Try.prog 31 nt31 tr31 tl31 cm31_0.erase rs31 := ⟨Try.f31, Try.func31, rfl, by kernel_rfl, by kernel_rfl, by kernel_rfl⟩
theorem io31_0 : InstOk Try.prog 31 nt31 ⟨pa31_0, Fn31_0 f31_0⟩ := inst_ok eo31_0 followsTry is31 ⟨⟨sh31, cm31_0, by kernel_rfl, gm31_0, fm31_0⟩⟩
abbrev nt71 : Nat := 24
def sh71 : List (Nat × List Sh) := []
def r71_2 : List AOper := [oO 2 (.mv (.const (.bool false)))]
def r71_5 : List AOper := [oM 3 0, oM 4 0, oO 5 (.bin .neq 112 (.tmp 3) (.tmp 4)), oM 6 5, oG 7 (.mv (.tmp 0)) 6 false, oG 8 (.mv (.tmp 0)) 6 false, oG 9 (.bin .sub 112 (.tmp 7) (.tmp 8)) 6 false, oG 10 (.bin .neq 112 (.tmp 9) (.const (.float Go.FloatKind.f64 0))) 6 false, oO 11 (.pick (.tmp 6) (.const (.bool true)) (.tmp 10))]
def r71_8 : List AOper := [oO 2 (.mv (.const (.bool false)))]
def r71_11 : List AOper := [oM 12 0, oO 13 (.bin .geq 112 (.tmp 12) (.const (.float Go.FloatKind.f64 14069741636278059008))), oM 14 13, oG 15 (.mv (.tmp 0)) 14 true, oG 16 (.bin .leq 112 (.tmp 15) (.const (.float Go.FloatKind.f64 4846369599423283200))) 14 true, oO 17 (.pick (.tmp 14) (.tmp 16) (.const (.bool false))), oO 18 (.pure (oB (.unOp .not 4 (.tmp 17)) 4))]
def r71_14 : List AOper := [oO 2 (.mv (.const (.bool true)))]
def r71_16 : List AOper := [oM 19 0, oO 20 (.pure (oB (.convert 112 3 (.tmp 19)) 3)), oO 21 (.pure (oB (.convert 3 112 (.tmp 20)) 112)), oM 22 0, oO 23 (.bin .eql 112 (.tmp 21) (.tmp 22)), oM 2 23]
def tr71 : List (Nat × Tidy) := [tT 0 [0], tT 1 [0, 11], tT 2 [2], tT 3 [0, 18], tT 4 [2], tT 5 [2]]
def tl71 : List (Nat × Tidy) := []
def rs71 : List AResV := [.tmp 2]
def pr71_0_0 : PT (List RV) := pRs [pR false [rD dB]]
def ur71_0_0 {β : Type} (g : List RV → β) : Bool → β := pr71_0_0.unc g
def E71_0g  : EnvK := EnvK.of [] noSeq
noncomputable def E71_0 : EnvK := E71_0g 
theorem eo71_0 : E71_0.Ok Try.prog := EnvK.of_ok noSeq_ok trivial
abbrev Tf71_0 : Type 1 := (α : Type) → (Option α) → Option α
def f71_0g  (α : Type)  (k1 : Option α) : Option α :=
 k1
noncomputable def f71_0 (α : Type)  (k1 : Option α) : Option α := f71_0g  α  k1
def pa71_0 : PT (List DV) := pA [pV false [(dNan .f64)]]
def Fn71_0 (v : Tf71_0) (α : Type) (k : List RV → Option α) : Option α := v α  (ur71_0_0 k false)
noncomputable def cm71_0g  : MCode := (.seq (.region r71_2 [] (tO [0])) (.seq (.seq (.region r71_5 [] (tO [0, 11])) (.cond (.tmp 11) (.seq (.region r71_8 [] (tO [2])) .ret) .skip)) (.seq (.seq (.region r71_11 [] (tO [0, 18])) (.cond (.tmp 18) (.seq (.region r71_14 [] (tO [2])) .ret) .skip)) (.seq (.region r71_16 [] (tO [2])) .ret))))
noncomputable def cm71_0 : MCode := cm71_0g 
theorem gm71_0 : cm71_0.Good Try.prog E71_0 sh71 := ⟨trivial, ⟨⟨trivial, ⟨⟨trivial, trivial⟩, trivial⟩⟩, ⟨⟨trivial, ⟨⟨trivial, trivial⟩, trivial⟩⟩, ⟨trivial, trivial⟩⟩⟩⟩
theorem fm71_0g   (α : Type) (k : List RV → Option α) : Fn71_0 (f71_0g ) α k = pa71_0.unc fun ds => fnM Try.prog (E71_0g ) sh71 (cm71_0g ) rs71 k ds := by kernel_rfl
theorem fm71_0 : ∀ (α : Type) (k : List RV → Option α), Fn71_0 f71_0 α k = pa71_0.unc fun ds => fnM Try.prog E71_0 sh71 cm71_0 rs71 k ds := fm71_0g 
theorem is71 : FnIs Try.prog 71 nt71 tr71 tl71 cm71_0.erase rs71 := ⟨Try.f71, Try.func71, rfl, by kernel_rfl, by kernel_rfl, by kernel_rfl⟩
theorem io71_0 : InstOk Try.prog 71 nt71 ⟨pa71_0, Fn71_0 f71_0⟩ := inst_ok eo71_0 followsTry is71 ⟨⟨sh71, cm71_0, by kernel_rfl, gm71_0, fm71_0⟩⟩
def pr71_1_0 : PT (List RV) := pRs [pR false [rD dB]]
def ur71_1_0 {β : Type} (g : List RV → β) : Bool → β := pr71_1_0.unc g
def E71_1g  : EnvK := EnvK.of [] noSeq
noncomputable def E71_1 : EnvK := E71_1g 
theorem eo71_1 : E71_1.Ok Try.prog := EnvK.of_ok noSeq_ok trivial
abbrev Tf71_1 : Type 1 := (α : Type) → Nat → (Bool → Option α) → Option α
def f71_1g  (α : Type) (x1 : Nat) (k1 : Bool → Option α) : Option α :=
 cK ((FloatKind.format .f64).order x1 x1 != some Ordering.eq)
 (k1 false)
 (flN ((FloatKind.format .f64).sub x1 x1)
 (fun x2 => cK ((FloatKind.format .f64).order x2 0 != some Ordering.eq)
 (k1 false)
 (cK ((FloatKind.format .f64).order x1 14069741636278059008 == some Ordering.gt || (FloatKind.format .f64).order x1 14069741636278059008 == some Ordering.eq)
 (cK (!((FloatKind.format .f64).order x1 4846369599423283200 == some Ordering.lt || (FloatKind.format .f64).order x1 4846369599423283200 == some Ordering.eq))
 (k1 true)
 (ivK (f2i .f64 x1 .i64)
 (fun x3 => k1 ((FloatKind.format .f64).order (FloatKind.nearest .f64 x3) x1 == some Ordering.eq))))
 (k1 true)))
 (k1 false))
noncomputable def f71_1 (α : Type) (x1 : Nat) (k1 : Bool → Option α) : Option α := f71_1g  α x1 k1
def pa71_1 : PT (List DV) := pA [pV false [(dF .f64)]]
def Fn71_1 (v : Tf71_1) (α : Type) (k : List RV → Option α) : Nat → Option α := fun x1 => v α x1 (fun (y1 : Bool) => ur71_1_0 k y1)
noncomputable def cm71_1g  : MCode := (.seq (.region r71_2 [] (tO [0])) (.seq (.seq (.region r71_5 [] (tO [0, 11])) (.cond (.tmp 11) (.seq (.region r71_8 [] (tO [2])) .ret) .skip)) (.seq (.seq (.region r71_11 [] (tO [0, 18])) (.cond (.tmp 18) (.seq (.region r71_14 [] (tO [2])) .ret) .skip)) (.seq (.region r71_16 [] (tO [2])) .ret))))
noncomputable def cm71_1 : MCode := cm71_1g 
theorem gm71_1 : cm71_1.Good Try.prog E71_1 sh71 := ⟨trivial, ⟨⟨trivial, ⟨⟨trivial, trivial⟩, trivial⟩⟩, ⟨⟨trivial, ⟨⟨trivial, trivial⟩, trivial⟩⟩, ⟨trivial, trivial⟩⟩⟩⟩
theorem fm71_1g   (α : Type) (k : List RV → Option α) : Fn71_1 (f71_1g ) α k = pa71_1.unc fun ds => fnM Try.prog (E71_1g ) sh71 (cm71_1g ) rs71 k ds := by kernel_rfl
theorem fm71_1 : ∀ (α : Type) (k : List RV → Option α), Fn71_1 f71_1 α k = pa71_1.unc fun ds => fnM Try.prog E71_1 sh71 cm71_1 rs71 k ds := fm71_1g 
theorem io71_1 : InstOk Try.prog 71 nt71 ⟨pa71_1, Fn71_1 f71_1⟩ := inst_ok eo71_1 followsTry is71 ⟨⟨sh71, cm71_1, by kernel_rfl, gm71_1, fm71_1⟩⟩
abbrev nt29 : Nat := 15
def sh29 : List (Nat × List Sh) := []
def r29_2 : List AOper := [oO 6 (.mv (.const (.bool false)))]
def r29_4 : List AOper := [oM 7 1, oM 8 0, oO 9 (.bin .leq 3 (.tmp 7) (.tmp 8)), oM 10 9, oG 11 (.mv (.tmp 0)) 10 true, oG 12 (.mv (.tmp 2)) 10 true, oG 13 (.bin .leq 3 (.tmp 11) (.tmp 12)) 10 true, oO 14 (.pick (.tmp 10) (.tmp 13) (.const (.bool false))), oM 6 14]
def tr29 : List (Nat × Tidy) := [tT 0 [0, 1, 2], tT 1 [6]]
def tl29 : List (Nat × Tidy) := []
def rs29 : List AResV := [.tmp 6]
def pr29_0_0 : PT (List RV) := pRs [pR false [rD dB]]
def ur29_0_0 {β : Type} (g : List RV → β) : Bool → β := pr29_0_0.unc g
def E29_0g  : EnvK := EnvK.of [] noSeq
noncomputable def E29_0 : EnvK := E29_0g 
theorem eo29_0 : E29_0.Ok Try.prog := EnvK.of_ok noSeq_ok trivial
abbrev Tf29_0 : Type 1 := (α : Type) → Int → Int → Int → (Bool → Option α) → Option α
def f29_0g  (α : Type) (x1 x2 x3 : Int) (k1 : Bool → Option α) : Option α :=
 cK (decide (x2 ≤ x1))
 (k1 (decide (x1 ≤ x3)))
 (k1 false)
noncomputable def f29_0 (α : Type) (x1 x2 x3 : Int) (k1 : Bool → Option α) : Option α := f29_0g  α x1 x2 x3 k1
def pa29_0 : PT (List DV) := pA [pV false [(dI .i64)], pV false [(dI .i64)], pV false [(dI .i64)]]
def Fn29_0 (v : Tf29_0) (α : Type) (k : List RV → Option α) : Int → Int → Int → Option α := fun x1 x2 x3 => v α x1 x2 x3 (fun (y1 : Bool) => ur29_0_0 k y1)
noncomputable def cm29_0g  : MCode := (.seq (.region r29_2 [] (tO [0, 1, 2])) (.seq (.region r29_4 [] (tO [6])) .ret))
noncomputable def cm29_0 : MCode := cm29_0g 
theorem gm29_0 : cm29_0.Good Try.prog E29_0 sh29 := ⟨trivial, ⟨trivial, trivial⟩⟩
theorem fm29_0g   (α : Type) (k : List RV → Option α) : Fn29_0 (f29_0g ) α k = pa29_0.unc fun ds => fnM Try.prog (E29_0g ) sh29 (cm29_0g ) rs29 k ds := by kernel_rfl
theorem fm29_0 : ∀ (α : Type) (k : List RV → Option α), Fn29_0 f29_0 α k = pa29_0.unc fun ds => fnM Try.prog E29_0 sh29 cm29_0 rs29 k ds := fm29_0g 
theorem is29 : FnIs Try.prog 29 nt29 tr29 tl29 cm29_0.erase rs29 := ⟨Try.f29, Try.func29, rfl, by kernel_rfl, by kernel_rfl, by kernel_rfl⟩
theorem io29_0 : InstOk Try.prog 29 nt29 ⟨pa29_0, Fn29_0 f29_0⟩ := inst_ok eo29_0 followsTry is29 ⟨⟨sh29, cm29_0, by kernel_rfl, gm29_0, fm29_0⟩⟩
abbrev nt98 : Nat := 15
def sh98 : List (Nat × List Sh) := []
def r98_2 : List AOper := [oO 6 (.mv (.const (.bool false)))]
def r98_4 : List AOper := [oM 7 1, oM 8 0, oO 9 (.bin .leq 3 (.tmp 7) (.tmp 8)), oM 10 9, oG 11 (.mv (.tmp 0)) 10 true, oG 12 (.mv (.tmp 2)) 10 true, oG 13 (.bin .leq 3 (.tmp 11) (.tmp 12)) 10 true, oO 14 (.pick (.tmp 10) (.tmp 13) (.const (.bool false))), oM 6 14]
def tr98 : List (Nat × Tidy) := [tT 0 [0, 1, 2], tT 1 [6]]
def tl98 : List (Nat × Tidy) := []
def rs98 : List AResV := [.tmp 6]
def pr98_0_0 : PT (List RV) := pRs [pR false [rD dB]]
def ur98_0_0 {β : Type} (g : List RV → β) : Bool → β := pr98_0_0.unc g
def E98_0g  : EnvK := EnvK.of [] noSeq
noncomputable def E98_0 : EnvK := E98_0g 
theorem eo98_0 : E98_0.Ok Try.prog := EnvK.of_ok noSeq_ok trivial
abbrev Tf98_0 : Type 1 := (α : Type) → Int → Int → Int → (Bool → Option α) → Option α
def f98_0g  (α : Type) (x1 x2 x3 : Int) (k1 : Bool → Option α) : Option α :=
 cK (decide (x2 ≤ x1))
 (k1 (decide (x1 ≤ x3)))
 (k1 false)
noncomputable def f98_0 (α : Type) (x1 x2 x3 : Int) (k1 : Bool → Option α) : Option α := f98_0g  α x1 x2 x3 k1
def pa98_0 : PT (List DV) := pA [pV false [(dI .i64)], pV false [(dI .i64)], pV false [(dI .i64)]]
def Fn98_0 (v : Tf98_0) (α : Type) (k : List RV → Option α) : Int → Int → Int → Option α := fun x1 x2 x3 => v α x1 x2 x3 (fun (y1 : Bool) => ur98_0_0 k y1)
noncomputable def cm98_0g  : MCode := (.seq (.region r98_2 [] (tO [0, 1, 2])) (.seq (.region r98_4 [] (tO [6])) .ret))
noncomputable def cm98_0 : MCode := cm98_0g 
theorem gm98_0 : cm98_0.Good Try.prog E98_0 sh98 := ⟨trivial, ⟨trivial, trivial⟩⟩
theorem fm98_0g   (α : Type) (k : List RV → Option α) : Fn98_0 (f98_0g ) α k = pa98_0.unc fun ds => fnM Try.prog (E98_0g ) sh98 (cm98_0g ) rs98 k ds := by kernel_rfl
theorem fm98_0 : ∀ (α : Type) (k : List RV → Option α), Fn98_0 f98_0 α k = pa98_0.unc fun ds => fnM Try.prog E98_0 sh98 cm98_0 rs98 k ds := fm98_0g 
theorem is98 : FnIs Try.prog 98 nt98 tr98 tl98 cm98_0.erase rs98 := ⟨Try.f98, Try.func98, rfl, by kernel_rfl, by kernel_rfl, by kernel_rfl⟩
theorem io98_0 : InstOk Try.prog 98 nt98 ⟨pa98_0, Fn98_0 f98_0⟩ := inst_ok eo98_0 followsTry is98 ⟨⟨sh98, cm98_0, by kernel_rfl, gm98_0, fm98_0⟩⟩
abbrev nt121 : Nat := 54
def sh121 : List (Nat × List Sh) := [(12, [.int .u8]), (13, [.int .u8])]
def r121_2 : List AOper := [oO 2 (.mv (.const (.bool false)))]
def r121_5 : List AOper := [oM 6 0, oO 7 (.bytes (.tmp 6)), oO 8 (.len (.tmp 7)), oO 9 (.mv (kI 0))]
def td121_7 : Option Tidy := (some ⟨[0, 7, 8, 9], true, [⟨false, 7, 0, 20007, 1⟩], []⟩)
def r121_9 : List AOper := [oO 10 (.bin .lss 3 (.tmp 9) (.tmp 8))]
def r121_15 : List AOper := [oM 11 9, oO 12 (.iaddr 1 none (.tmp 7) (.tmp 9)), oO 13 (.load false 1 (.tmp 12)), oM 3 11, oM 4 13]
def r121_17 : List AOper := [oM 14 4, oO 15 (.bin .geq 5 (.tmp 14) (.const (.int .u8 97))), oM 16 15, oG 17 (.mv (.tmp 4)) 16 true, oG 18 (.bin .leq 5 (.tmp 17) (.const (.int .u8 122))) 16 true, oO 19 (.pick (.tmp 16) (.tmp 18) (.const (.bool false))), oM 20 19, oG 21 (.mv (.tmp 4)) 20 false, oG 22 (.bin .geq 5 (.tmp 21) (.const (.int .u8 65))) 20 false, oG 23 (.mv (.tmp 22)) 20 false, oG 24 (.mv (.tmp 4)) 23 true, oG 25 (.bin .leq 5 (.tmp 24) (.const (.int .u8 90))) 23 true, oG 26 (.pick (.tmp 23) (.tmp 25) (.const (.bool false))) 20 false, oO 27 (.pick (.tmp 20) (.const (.bool true)) (.tmp 26)), oM 5 27]
def r121_19 : List AOper := [oM 28 5, oO 29 (.pure (oB (.unOp .not 4 (.tmp 28)) 4)), oM 30 29, oG 31 (.mv (.tmp 3)) 30 true, oG 32 (.bin .eql 3 (.tmp 31) (kI 0)) 30 true, oG 33 (.mv (.tmp 32)) 30 true, oG 34 (.mv (.tmp 4)) 33 false, oG 35 (.bin .neq 5 (.tmp 34) (.const (.int .u8 45))) 33 false, oG 36 (.mv (.tmp 35)) 33 false, oG 37 (.mv (.tmp 4)) 36 true, oG 38 (.bin .lss 5 (.tmp 37) (.const (.int .u8 48))) 36 true, oG 39 (.mv (.tmp 38)) 36 true, oG 40 (.mv (.tmp 4)) 39 false, oG 41 (.bin .gtr 5 (.tmp 40) (.const (.int .u8 57))) 39 false, oG 42 (.pick (.tmp 39) (.const (.bool true)) (.tmp 41)) 36 true, oG 43 (.pick (.tmp 36) (.tmp 42) (.const (.bool false))) 33 false, oG 44 (.pick (.tmp 33) (.const (.bool true)) (.tmp 43)) 30 true, oO 45 (.pick (.tmp 30) (.tmp 44) (.const (.bool false)))]
def r121_22 : List AOper := [oO 2 (.mv (.const (.bool false)))]
def r121_23 : List AOper := [oO 46 (.bin .add 3 (.tmp 9) (kI 1)), oM 9 46]
def r121_25 : List AOper := [oM 47 0, ⟨(some 48), (.bin .neq 9 (.tmp 47) (.const (.string ⟨#[]⟩))), none⟩, oM 49 48, oG 50 (.mv (.tmp 0)) 49 true, oG 51 (.pure (oB (.call { callee := .builtin .len, args := #[(.tmp 50)], argTypes := #[9] }) 3)) 49 true, oG 52 (.bin .leq 3 (.tmp 51) (kI 12)) 49 true, oO 53 (.pick (.tmp 49) (.tmp 52) (.const (.bool false))), oM 2 53]
def tr121 : List (Nat × Tidy) := [tT 0 [0], tT 1 [0, 7, 8, 9], tT 2 [0, 7, 8, 9, 10], tT 3 [0, 3, 4, 7, 8, 9], tT 4 [0, 3, 4, 5, 7, 8, 9], tT 5 [0, 7, 8, 9, 45], tT 6 [2], tT 7 [0, 7, 8, 9], tT 8 [2]]
def tl121 : List (Nat × Tidy) := [(2, ⟨[0, 7, 8, 9], true, [⟨false, 7, 0, 20007, 1⟩], []⟩)]
def rs121 : List AResV := [.tmp 2]
def p121_0_0 : PT St := pS [sl 0 (aV false [(cD dS)]), sl 3 (aV false [(cD (dI .i64))]), sl 4 (aV false [(cD (dI .u8))]), sl 7 (aV false [(cRef 20007)]), sl 8 (aV false [(cD (dI .i64))]), sl 9 (aV false [(cD (dI .i64))])] [eOwn 20007 1]
def u121_0_0 {β : Type} (g : St → β) : ByteArray → Int → Int → Int → Int → Rows → β := p121_0_0.unc g
def p121_0_1 : PT St := pS [sl 0 (aV false [(cD dS)]), sl 3 (aV false [(cD (dI .i64))]), sl 4 (aV false [(cD (dI .u8))]), sl 5 (aV false [(cD dB)]), sl 7 (aV false [(cRef 20007)]), sl 8 (aV false [(cD (dI .i64))]), sl 9 (aV false [(cD (dI .i64))])] [eOwn 20007 1]
def u121_0_1 {β : Type} (g : St → β) : ByteArray → Int → Int → Bool → Int → Int → Rows → β := p121_0_1.unc g
def p121_0_2 : PT St := pS [sl 0 (aV false [(cD dS)]), sl 7 (aV false [(cRef 20007)]), sl 8 (aV false [(cD (dI .i64))]), sl 9 (aV false [(cD (dI .i64))]), sl 45 (aV false [(cD dB)])] [eOwn 20007 1]
def u121_0_2 {β : Type} (g : St → β) : ByteArray → Int → Int → Bool → Rows → β := p121_0_2.unc g
def p121_0_3 : PT St := pS [sl 0 (aV false [(cD dS)]), sl 7 (aV false [(cRef 20007)]), sl 8 (aV false [(cD (dI .i64))]), sl 9 (aV false [(cD (dI .i64))])] [eOwn 20007 1]
def u121_0_3 {β : Type} (g : St → β) : ByteArray → Int → Int → Rows → β := p121_0_3.unc g
def p121_0_4 : PT St := pS [sl 2 (aV false [(cD dB)])] []
def u121_0_4 {β : Type} (g : St → β) : Bool → β := p121_0_4.unc g
def p121_0_5 : PT St := pS [sl 0 (aV false [(cD dS)]), sl 7 (aV false [(cRef 20007)]), sl 8 (aV false [(cD (dI .i64))]), sl 9 (aV false [(cD (dI .i64))]), sl 10 (aV false [(cD dB)])] [eOwn 20007 1]
def u121_0_5 {β : Type} (g : St → β) : ByteArray → Int → Int → Bool → Rows → β := p121_0_5.unc g
def pr121_0_0 : PT (List RV) := pRs [pR false [rD dB]]
def ur121_0_0 {β : Type} (g : List RV → β) : Bool → β := pr121_0_0.unc g
def E121_0g  : EnvK := EnvK.of [] noSeq
noncomputable def E121_0 : EnvK := E121_0g 
theorem eo121_0 : E121_0.Ok Try.prog := EnvK.of_ok noSeq_ok trivial
noncomputable def c121_0_18g  : MCode := (.region r121_19 [] (tO [0, 7, 8, 9, 45]))
noncomputable def c121_0_18 : MCode := c121_0_18g 
theorem g121_0_18 : c121_0_18.Good Try.prog E121_0 sh121 := trivial
--CODE 18 0
abbrev TJ121_0_1 : Type 1 := (α : Type) → Int → Int → Bool → (Bool → Option α) → Option α
def J121_0_1g  (α : Type) (x18 x19 : Int) (x20 : Bool) (k1 : Bool → Option α) : Option α :=
 cK (!x20)
 (cK (x18 == 0)
 (k1 true)
 (cK (x19 != 45)
 (cK (decide (x19 < 48))
 (k1 true)
 (k1 (decide (57 < x19))))
 (k1 false)))
 (k1 false)
noncomputable def J121_0_1 (α : Type) (x18 x19 : Int) (x20 : Bool) (k1 : Bool → Option α) : Option α := J121_0_1g  α x18 x19 x20 k1
def F121_0_1 (v : TJ121_0_1) (α : Type) (K : Exit → St → Option α) : ByteArray → Int → Int → Bool → Int → Int → Rows → Option α := fun x17 x18 x19 x20 x21 x22 x23 => v α x18 x19 x20 (fun (y1 : Bool) => u121_0_2 (K .normal) x17 x21 x22 y1 x23) 
theorem m121_0_1g   (α : Type) (K : Exit → St → Option α) : F121_0_1 (J121_0_1g ) α K = p121_0_1.unc fun σ => runM Try.prog (E121_0g ) sh121 (c121_0_18g ) K σ := by kernel_rfl
theorem m121_0_1 : ∀ (α : Type) (K : Exit → St → Option α), F121_0_1 J121_0_1 α K = p121_0_1.unc fun σ => runM Try.prog E121_0 sh121 c121_0_18 K σ := m121_0_1g 
noncomputable def c121_0_16g  : MCode := (.region r121_17 [] (tO [0, 3, 4, 5, 7, 8, 9]))
noncomputable def c121_0_16 : MCode := c121_0_16g 
theorem g121_0_16 : c121_0_16.Good Try.prog E121_0 sh121 := trivial
--CODE 16 0
abbrev TJ121_0_0 : Type 1 := (α : Type) → Int → (Bool → Option α) → Option α
def J121_0_0g  (α : Type) (x10 : Int) (k1 : Bool → Option α) : Option α :=
 cK (decide (97 ≤ x10))
 (cK (decide (x10 ≤ 122))
 (k1 true)
 (cK (decide (65 ≤ x10))
 (k1 (decide (x10 ≤ 90)))
 (k1 false)))
 (cK (decide (65 ≤ x10))
 (k1 (decide (x10 ≤ 90)))
 (k1 false))
noncomputable def J121_0_0 (α : Type) (x10 : Int) (k1 : Bool → Option α) : Option α := J121_0_0g  α x10 k1
def F121_0_0 (v : TJ121_0_0) (α : Type) (K : Exit → St → Option α) : ByteArray → Int → Int → Int → Int → Rows → Option α := fun x8 x9 x10 x11 x12 x13 => v α x10 (fun (y1 : Bool) => u121_0_1 (K .normal) x8 x9 x10 y1 x11 x12 x13) 
theorem m121_0_0g   (α : Type) (K : Exit → St → Option α) : F121_0_0 (J121_0_0g ) α K = p121_0_0.unc fun σ => runM Try.prog (E121_0g ) sh121 (c121_0_16g ) K σ := by kernel_rfl
theorem m121_0_0 : ∀ (α : Type) (K : Exit → St → Option α), F121_0_0 J121_0_0 α K = p121_0_0.unc fun σ => runM Try.prog E121_0 sh121 c121_0_16 K σ := m121_0_0g 
noncomputable def c121_0_7g (vJ121_0_0 : TJ121_0_0) (vJ121_0_1 : TJ121_0_1) : MCode := (.seq (.region r121_9 [] (tO [0, 7, 8, 9, 10])) (.seq (.cond (.tmp 10) .skip (.exit 0)) (.seq (.block 1 (.seq (.region r121_15 [] (tO [0, 3, 4, 7, 8, 9])) (.seq (.mark [⟨p121_0_0, F121_0_0 vJ121_0_0⟩] c121_0_16) (.seq (.mark [⟨p121_0_1, F121_0_1 vJ121_0_1⟩] c121_0_18) (.cond (.tmp 45) (.seq (.region r121_22 [] (tO [2])) .ret) .skip))))) (.region r121_23 [] (tO [0, 7, 8, 9])))))
noncomputable def c121_0_7 : MCode := c121_0_7g J121_0_0 J121_0_1
theorem g121_0_7 : c121_0_7.Good Try.prog E121_0 sh121 := ⟨trivial, ⟨⟨trivial, trivial⟩, ⟨⟨trivial, ⟨⟨g121_0_16, m121_0_0, trivial⟩, ⟨⟨g121_0_18, m121_0_1, trivial⟩, ⟨⟨trivial, trivial⟩, trivial⟩⟩⟩⟩, trivial⟩⟩⟩
--CODE 7 0
def S121_0_2g (vJ121_0_0 : TJ121_0_0) (vJ121_0_1 : TJ121_0_1) (α : Type) (x3 : Int) (x5 : Rows) (x4 : Int) (kn : Int → Option α) (k1 : Option α) (k2 : Int → Bool → Option α) : Option α :=
 cK (decide (x4 < x3))
 (ixK x5 x4 1
 (ldK x5 (Int.toNat x4) 0 [.int .u8]
 (fun x7 => vJ121_0_0 α x7
 (fun x15 => vJ121_0_1 α x4 x7 x15
 (fun x25 => cK x25
 (k1)
 (kn (w64 (x4 + 1))))))))
 (k2 x4 (decide (x4 < x3)))
noncomputable def S121_0_2 (α : Type) (x3 : Int) (x5 : Rows) (x4 : Int) (kn : Int → Option α) (k1 : Option α) (k2 : Int → Bool → Option α) : Option α := S121_0_2g J121_0_0 J121_0_1 α x3 x5 x4 kn k1 k2
noncomputable def R121_0_2 (α : Type) (x3 : Int) (x5 : Rows) (k1 : Option α) (k2 : Int → Bool → Option α) : Nat → Int → Option α
 | 0, _ => none
 | n + 1, x4 => S121_0_2 α x3 x5 x4 (R121_0_2 α x3 x5 k1 k2 n) k1 k2
noncomputable def L121_0_2 (α : Type) (x3 : Int) (x5 : Rows) (k1 : Option α) (k2 : Int → Bool → Option α) (x4 : Int) : Option α := R121_0_2 α x3 x5 k1 k2 fuel x4
abbrev TL121_0_2 : Type 1 := (α : Type) → Int → Rows → (Option α) → (Int → Bool → Option α) → Int → Option α
def F121_0_2 (v : TL121_0_2) (α : Type) (K : Exit → St → Option α) : ByteArray → Int → Int → Rows → Option α := fun x2 x3 x4 x5 => v α x3 x5 (u121_0_4 (K .ret) false) (fun (y1 : Int) (y2 : Bool) => u121_0_5 (K (.exit 0)) x2 x3 y1 y2 x5) x4
theorem r121_0_2g  (vJ121_0_0 : TJ121_0_0) (vJ121_0_1 : TJ121_0_1) (α : Type) (K : Exit → St → Option α) (Kn : St → Option α) (x2 : ByteArray) (x3 x4 : Int) (x5 : Rows) : u121_0_3 (fun σ => runM Try.prog (E121_0g ) sh121 (c121_0_7g vJ121_0_0 vJ121_0_1) (thenK (fun σ => tidyK td121_7 σ Kn) K) σ) x2 x3 x4 x5 = S121_0_2g vJ121_0_0 vJ121_0_1 α x3 x5 x4 (fun x4 => u121_0_3 Kn x2 x3 x4 x5) (u121_0_4 (K .ret) false) (fun (y1 : Int) (y2 : Bool) => u121_0_5 (K (.exit 0)) x2 x3 y1 y2 x5) := by kernel_rfl
theorem r121_0_2 (α : Type) (K : Exit → St → Option α) (Kn : St → Option α) (x2 : ByteArray) (x3 x4 : Int) (x5 : Rows) : u121_0_3 (fun σ => runM Try.prog E121_0 sh121 c121_0_7 (thenK (fun σ => tidyK td121_7 σ Kn) K) σ) x2 x3 x4 x5 = S121_0_2 α x3 x5 x4 (fun x4 => u121_0_3 Kn x2 x3 x4 x5) (u121_0_4 (K .ret) false) (fun (y1 : Int) (y2 : Bool) => u121_0_5 (K (.exit 0)) x2 x3 y1 y2 x5) := r121_0_2g J121_0_0 J121_0_1 α K Kn x2 x3 x4 x5
theorem t121_0_2 (α : Type) (K : Exit → St → Option α) : ∀ (n : Nat) (x2 : ByteArray) (x3 x4 : Int) (x5 : Rows), R121_0_2 α x3 x5 (u121_0_4 (K .ret) false) (fun (y1 : Int) (y2 : Bool) => u121_0_5 (K (.exit 0)) x2 x3 y1 y2 x5) n x4 = u121_0_3 (loopT (runM Try.prog E121_0 sh121 c121_0_7) td121_7 K n) x2 x3 x4 x5 := by
 intro n
 induction n with
 | zero => intros; rfl
 | succ n ih => intro x2 x3 x4 x5; exact (congrArg (fun kn => S121_0_2 α x3 x5 x4 kn (u121_0_4 (K .ret) false) (fun (y1 : Int) (y2 : Bool) => u121_0_5 (K (.exit 0)) x2 x3 y1 y2 x5)) (funext fun x4 => ih x2 x3 x4 x5)).trans (r121_0_2 α K (loopT (runM Try.prog E121_0 sh121 c121_0_7) td121_7 K n) x2 x3 x4 x5).symm
theorem m121_0_2 : ∀ (α : Type) (K : Exit → St → Option α), F121_0_2 L121_0_2 α K = p121_0_3.unc fun σ => loopT (runM Try.prog E121_0 sh121 c121_0_7) td121_7 K fuel σ := fun α K => funext fun x2 => funext fun x3 => funext fun x4 => funext fun x5 => t121_0_2 α K fuel x2 x3 x4 x5
abbrev Tf121_0 : Type 1 := (α : Type) → ByteArray → (Bool → Option α) → Option α
def f121_0g (vL121_0_2 : TL121_0_2) (α : Type) (x1 : ByteArray) (k1 : Bool → Option α) : Option α :=
 gK (decide (ByteArray.size x1 ≤ 9223372036854775807)) (vL121_0_2 α ((List.length (bytesR x1) : Nat) : Int) (bytesR x1)
 (k1 false)
 (fun x27 x28 => cK (!(x1.toList == (⟨#[]⟩ : ByteArray).toList))
 (k1 (decide (((ByteArray.size x1 : Nat) : Int) ≤ 12)))
 (k1 false)) 0)
noncomputable def f121_0 (α : Type) (x1 : ByteArray) (k1 : Bool → Option α) : Option α := f121_0g L121_0_2 α x1 k1
def pa121_0 : PT (List DV) := pA [pV false [dS]]
def Fn121_0 (v : Tf121_0) (α : Type) (k : List RV → Option α) : ByteArray → Option α := fun x1 => v α x1 (fun (y1 : Bool) => ur121_0_0 k y1)
noncomputable def cm121_0g (vL121_0_2 : TL121_0_2) : MCode := (.seq (.region r121_2 [] (tO [0])) (.seq (.seq (.region r121_5 [] (tO [0, 7, 8, 9])) (.block 0 (.loop td121_7 [⟨p121_0_3, F121_0_2 vL121_0_2⟩] c121_0_7))) (.seq (.region r121_25 [] (tO [2])) .ret)))
noncomputable def cm121_0 : MCode := cm121_0g L121_0_2
theorem gm121_0 : cm121_0.Good Try.prog E121_0 sh121 := ⟨trivial, ⟨⟨trivial, ⟨g121_0_7, m121_0_2, trivial⟩⟩, ⟨trivial, trivial⟩⟩⟩
theorem fm121_0g  (vL121_0_2 : TL121_0_2) (α : Type) (k : List RV → Option α) : Fn121_0 (f121_0g vL121_0_2) α k = pa121_0.unc fun ds => fnM Try.prog (E121_0g ) sh121 (cm121_0g vL121_0_2) rs121 k ds := by kernel_rfl
theorem fm121_0 : ∀ (α : Type) (k : List RV → Option α), Fn121_0 f121_0 α k = pa121_0.unc fun ds => fnM Try.prog E121_0 sh121 cm121_0 rs121 k ds := fm121_0g L121_0_2
theorem is121 : FnIs Try.prog 121 nt121 tr121 tl121 cm121_0.erase rs121 := ⟨Try.f121, Try.func121, rfl, by kernel_rfl, by kernel_rfl, by kernel_rfl⟩
theorem io121_0 : InstOk Try.prog 121 nt121 ⟨pa121_0, Fn121_0 f121_0⟩ := inst_ok eo121_0 followsTry is121 ⟨⟨sh121, cm121_0, by kernel_rfl, gm121_0, fm121_0⟩⟩
abbrev nt73 : Nat := 20
def sh73 : List (Nat × List Sh) := []
def r73_2 : List AOper := [oO 6 (.mv (kI 0)), oO 7 (.mv (kI 0))]
def r73_5 : List AOper := [oO 8 (.mv (kI 0))]
def td73_7 : Option Tidy := (tO [0, 1, 2, 8])
def r73_10 : List AOper := [oM 9 8, oM 10 2, oO 11 (.call 31 [(.tmp 10), (kI 4)]), oO 12 (.bin .lss 3 (.tmp 9) (.tmp 11))]
def r73_14 : List AOper := [oM 15 1, oO 16 (.pure (oB (.unOp .neg 3 (.tmp 15)) 3)), oM 17 0, oM 0 16, oM 1 17]
def r73_15 : List AOper := [oM 13 8, oO 14 (.bin .add 3 (.tmp 13) (kI 1)), oM 8 14]
def r73_17 : List AOper := [oM 18 0, oM 19 1, oM 6 18, oM 7 19]
def tr73 : List (Nat × Tidy) := [tT 0 [0, 1, 2], tT 1 [0, 1, 2, 8], tT 2 [0, 1, 2, 8, 12], tT 4 [0, 1, 2, 8], tT 3 [0, 1, 2, 8], tT 5 [6, 7]]
def tl73 : List (Nat × Tidy) := [tT 2 [0, 1, 2, 8]]
def rs73 : List AResV := [.tmp 6, .tmp 7]
def p73_0_0 : PT St := pS [sl 0 (aV false [(cD (dI .i64))]), sl 1 (aV false [(cD (dI .i64))]), sl 2 (aV false [(cD (dI .i64))]), sl 8 (aV false [(cD (dI .i64))])] []
def u73_0_0 {β : Type} (g : St → β) : Int → Int → Int → Int → β := p73_0_0.unc g
def p73_0_1 : PT St := pS [sl 0 (aV false [(cD (dI .i64))]), sl 1 (aV false [(cD (dI .i64))]), sl 2 (aV false [(cD (dI .i64))]), sl 8 (aV false [(cD (dI .i64))]), sl 12 (aV false [(cD dB)])] []
def u73_0_1 {β : Type} (g : St → β) : Int → Int → Int → Int → Bool → β := p73_0_1.unc g
def pr73_0_0 : PT (List RV) := pRs [pR false [rD (dI .i64)], pR false [rD (dI .i64)]]
def ur73_0_0 {β : Type} (g : List RV → β) : Int → Int → β := pr73_0_0.unc g
def E73_0g (vf31_0 : Tf31_0) : EnvK := EnvK.of [⟨31, nt31, [⟨pa31_0, Fn31_0 vf31_0⟩]⟩] noSeq
noncomputable def E73_0 : EnvK := E73_0g f31_0
theorem eo73_0 : E73_0.Ok Try.prog := EnvK.of_ok noSeq_ok ⟨⟨io31_0, trivial⟩, trivial⟩
noncomputable def c73_0_7g  : MCode := (.seq (.seq (.region r73_10 [] (tO [0, 1, 2, 8, 12])) (.cond (.tmp 12) .skip (.exit 0))) (.seq (.block 1 (.region r73_14 [] (tO [0, 1, 2, 8]))) (.region r73_15 [] (tO [0, 1, 2, 8]))))
noncomputable def c73_0_7 : MCode := c73_0_7g 
theorem g73_0_7 : c73_0_7.Good Try.prog E73_0 sh73 := ⟨⟨trivial, ⟨trivial, trivial⟩⟩, ⟨trivial, trivial⟩⟩
--CODE 7 0
def S73_0_0g (vf31_0 : Tf31_0) (α : Type) (x6 x4 x5 x7 : Int) (kn : Int → Int → Int → Option α) (k1 : Int → Int → Int → Bool → Option α) : Option α :=
 vf31_0 α x6 4
 (fun x9 => cK (decide (x7 < x9))
 (kn (w64 (0 - x5)) x4 (w64 (x7 + 1)))
 (k1 x4 x5 x7 (decide (x7 < x9))))
noncomputable def S73_0_0 (α : Type) (x6 x4 x5 x7 : Int) (kn : Int → Int → Int → Option α) (k1 : Int → Int → Int → Bool → Option α) : Option α := S73_0_0g f31_0 α x6 x4 x5 x7 kn k1
noncomputable def R73_0_0 (α : Type) (x6 : Int) (k1 : Int → Int → Int → Bool → Option α) : Nat → Int → Int → Int → Option α
 | 0, _, _, _ => none
 | n + 1, x4, x5, x7 => S73_0_0 α x6 x4 x5 x7 (R73_0_0 α x6 k1 n) k1
noncomputable def L73_0_0 (α : Type) (x6 : Int) (k1 : Int → Int → Int → Bool → Option α) (x4 x5 x7 : Int) : Option α := R73_0_0 α x6 k1 fuel x4 x5 x7
abbrev TL73_0_0 : Type 1 := (α : Type) → Int → (Int → Int → Int → Bool → Option α) → Int → Int → Int → Option α
def F73_0_0 (v : TL73_0_0) (α : Type) (K : Exit → St → Option α) : Int → Int → Int → Int → Option α := fun x4 x5 x6 x7 => v α x6 (fun (y1 : Int) (y2 : Int) (y3 : Int) (y4 : Bool) => u73_0_1 (K (.exit 0)) y1 y2 x6 y3 y4) x4 x5 x7
theorem r73_0_0g (vf31_0 : Tf31_0)  (α : Type) (K : Exit → St → Option α) (Kn : St → Option α) (x4 x5 x6 x7 : Int) : u73_0_0 (fun σ => runM Try.prog (E73_0g vf31_0) sh73 (c73_0_7g ) (thenK (fun σ => tidyK td73_7 σ Kn) K) σ) x4 x5 x6 x7 = S73_0_0g vf31_0 α x6 x4 x5 x7 (fun x4 x5 x7 => u73_0_0 Kn x4 x5 x6 x7) (fun (y1 : Int) (y2 : Int) (y3 : Int) (y4 : Bool) => u73_0_1 (K (.exit 0)) y1 y2 x6 y3 y4) := by kernel_rfl
theorem r73_0_0 (α : Type) (K : Exit → St → Option α) (Kn : St → Option α) (x4 x5 x6 x7 : Int) : u73_0_0 (fun σ => runM Try.prog E73_0 sh73 c73_0_7 (thenK (fun σ => tidyK td73_7 σ Kn) K) σ) x4 x5 x6 x7 = S73_0_0 α x6 x4 x5 x7 (fun x4 x5 x7 => u73_0_0 Kn x4 x5 x6 x7) (fun (y1 : Int) (y2 : Int) (y3 : Int) (y4 : Bool) => u73_0_1 (K (.exit 0)) y1 y2 x6 y3 y4) := r73_0_0g f31_0 α K Kn x4 x5 x6 x7
theorem t73_0_0 (α : Type) (K : Exit → St → Option α) : ∀ (n : Nat) (x4 x5 x6 x7 : Int), R73_0_0 α x6 (fun (y1 : Int) (y2 : Int) (y3 : Int) (y4 : Bool) => u73_0_1 (K (.exit 0)) y1 y2 x6 y3 y4) n x4 x5 x7 = u73_0_0 (loopT (runM Try.prog E73_0 sh73 c73_0_7) td73_7 K n) x4 x5 x6 x7 := by
 intro n
 induction n with
 | zero => intros; rfl
 | succ n ih => intro x4 x5 x6 x7; exact (congrArg (fun kn => S73_0_0 α x6 x4 x5 x7 kn (fun (y1 : Int) (y2 : Int) (y3 : Int) (y4 : Bool) => u73_0_1 (K (.exit 0)) y1 y2 x6 y3 y4)) (funext fun x4 => funext fun x5 => funext fun x7 => ih x4 x5 x6 x7)).trans (r73_0_0 α K (loopT (runM Try.prog E73_0 sh73 c73_0_7) td73_7 K n) x4 x5 x6 x7).symm
theorem m73_0_0 : ∀ (α : Type) (K : Exit → St → Option α), F73_0_0 L73_0_0 α K = p73_0_0.unc fun σ => loopT (runM Try.prog E73_0 sh73 c73_0_7) td73_7 K fuel σ := fun α K => funext fun x4 => funext fun x5 => funext fun x6 => funext fun x7 => t73_0_0 α K fuel x4 x5 x6 x7
abbrev Tf73_0 : Type 1 := (α : Type) → Int → Int → Int → (Int → Int → Option α) → Option α
def f73_0g (vL73_0_0 : TL73_0_0) (α : Type) (x1 x2 x3 : Int) (k1 : Int → Int → Option α) : Option α :=
 vL73_0_0 α x3
 (fun x10 x11 x12 x13 => k1 x10 x11) x1 x2 0
noncomputable def f73_0 (α : Type) (x1 x2 x3 : Int) (k1 : Int → Int → Option α) : Option α := f73_0g L73_0_0 α x1 x2 x3 k1
def pa73_0 : PT (List DV) := pA [pV false [(dI .i64)], pV false [(dI .i64)], pV false [(dI .i64)]]
def Fn73_0 (v : Tf73_0) (α : Type) (k : List RV → Option α) : Int → Int → Int → Option α := fun x1 x2 x3 => v α x1 x2 x3 (fun (y1 : Int) (y2 : Int) => ur73_0_0 k y1 y2)
noncomputable def cm73_0g (vL73_0_0 : TL73_0_0) : MCode := (.seq (.region r73_2 [] (tO [0, 1, 2])) (.seq (.seq (.region r73_5 [] (tO [0, 1, 2, 8])) (.block 0 (.loop td73_7 [⟨p73_0_0, F73_0_0 vL73_0_0⟩] c73_0_7))) (.seq (.region r73_17 [] (tO [6, 7])) .ret)))
noncomputable def cm73_0 : MCode := cm73_0g L73_0_0
theorem gm73_0 : cm73_0.Good Try.prog E73_0 sh73 := ⟨trivial, ⟨⟨trivial, ⟨g73_0_7, m73_0_0, trivial⟩⟩, ⟨trivial, trivial⟩⟩⟩
theorem fm73_0g (vf31_0 : Tf31_0) (vL73_0_0 : TL73_0_0) (α : Type) (k : List RV → Option α) : Fn73_0 (f73_0g vL73_0_0) α k = pa73_0.unc fun ds => fnM Try.prog (E73_0g vf31_0) sh73 (cm73_0g vL73_0_0) rs73 k ds := by kernel_rfl
theorem fm73_0 : ∀ (α : Type) (k : List RV → Option α), Fn73_0 f73_0 α k = pa73_0.unc fun ds => fnM Try.prog E73_0 sh73 cm73_0 rs73 k ds := fm73_0g f31_0 L73_0_0
theorem is73 : FnIs Try.prog 73 nt73 tr73 tl73 cm73_0.erase rs73 := ⟨Try.f73, Try.func73, rfl, by kernel_rfl, by kernel_rfl, by kernel_rfl⟩
theorem io73_0 : InstOk Try.prog 73 nt73 ⟨pa73_0, Fn73_0 f73_0⟩ := inst_ok eo73_0 followsTry is73 ⟨⟨sh73, cm73_0, by kernel_rfl, gm73_0, fm73_0⟩⟩
abbrev nt129 : Nat := 22
def sh129 : List (Nat × List Sh) := []
def r129_2 : List AOper := [oO 4 (.mv (kI 0)), oO 5 (.mv (kI 0))]
def r129_5 : List AOper := [oM 6 0, oO 7 (.call 71 [(.tmp 6)]), oO 8 (.pure (oB (.unOp .not 4 (.tmp 7)) 4))]
def r129_8 : List AOper := [oO 4 (.mv (kI 0)), oO 5 (.mv (kI 27))]
def r129_11 : List AOper := [oM 9 0, oM 10 1, oO 11 (.pure (oB (.convert 3 112 (.tmp 10)) 112)), oO 12 (.bin .gtr 112 (.tmp 9) (.tmp 11)), oM 13 12, oG 14 (.mv (.tmp 0)) 13 false, oG 15 (.mv (.tmp 1)) 13 false, oG 16 (.pure (oB (.convert 3 112 (.tmp 15)) 112)) 13 false, oG 17 (.pure (oB (.unOp .neg 112 (.tmp 16)) 112)) 13 false, oG 18 (.bin .lss 112 (.tmp 14) (.tmp 17)) 13 false, oO 19 (.pick (.tmp 13) (.const (.bool true)) (.tmp 18))]
def r129_14 : List AOper := [oO 4 (.mv (kI 0)), oO 5 (.mv (kI 2))]
def r129_16 : List AOper := [oM 20 0, oO 21 (.pure (oB (.convert 112 3 (.tmp 20)) 3)), oM 4 21, oO 5 (.mv (kI 0))]
def tr129 : List (Nat × Tidy) := [tT 0 [0, 1], tT 1 [0, 1, 8], tT 2 [4, 5], tT 3 [0, 19], tT 4 [4, 5], tT 5 [4, 5]]
def tl129 : List (Nat × Tidy) := []
def rs129 : List AResV := [.tmp 4, .tmp 5]
def pr129_0_0 : PT (List RV) := pRs [pR false [rD (dI .i64)], pR false [rD (dI .i64)]]
def ur129_0_0 {β : Type} (g : List RV → β) : Int → Int → β := pr129_0_0.unc g
def E129_0g (vf71_1 : Tf71_1) : EnvK := EnvK.of [⟨71, nt71, [⟨pa71_1, Fn71_1 vf71_1⟩]⟩] noSeq
noncomputable def E129_0 : EnvK := E129_0g f71_1
theorem eo129_0 : E129_0.Ok Try.prog := EnvK.of_ok noSeq_ok ⟨⟨io71_1, trivial⟩, trivial⟩
abbrev Tf129_0 : Type 1 := (α : Type) → Nat → Int → (Int → Int → Option α) → Option α
def f129_0g (vf71_1 : Tf71_1) (α : Type) (x1 : Nat) (x2 : Int) (k1 : Int → Int → Option α) : Option α :=
 vf71_1 α x1
 (fun x3 => cK (!x3)
 (k1 0 27)
 (cK ((FloatKind.format .f64).order x1 (FloatKind.nearest .f64 x2) == some Ordering.gt)
 (k1 0 2)
 (cK ((FloatKind.format .f64).order x1 (Op.negFloat .f64 (FloatKind.nearest .f64 x2)) == some Ordering.lt)
 (k1 0 2)
 (ivK (f2i .f64 x1 .i64)
 (fun x4 => k1 x4 0)))))
noncomputable def f129_0 (α : Type) (x1 : Nat) (x2 : Int) (k1 : Int → Int → Option α) : Option α := f129_0g f71_1 α x1 x2 k1
def pa129_0 : PT (List DV) := pA [pV false [(dF .f64)], pV false [(dI .i64)]]
def Fn129_0 (v : Tf129_0) (α : Type) (k : List RV → Option α) : Nat → Int → Option α := fun x1 x2 => v α x1 x2 (fun (y1 : Int) (y2 : Int) => ur129_0_0 k y1 y2)
noncomputable def cm129_0g  : MCode := (.seq (.region r129_2 [] (tO [0, 1])) (.seq (.seq (.region r129_5 [] (tO [0, 1, 8])) (.cond (.tmp 8) (.seq (.region r129_8 [] (tO [4, 5])) .ret) .skip)) (.seq (.seq (.region r129_11 [] (tO [0, 19])) (.cond (.tmp 19) (.seq (.region r129_14 [] (tO [4, 5])) .ret) .skip)) (.seq (.region r129_16 [] (tO [4, 5])) .ret))))
noncomputable def cm129_0 : MCode := cm129_0g 
theorem gm129_0 : cm129_0.Good Try.prog E129_0 sh129 := ⟨trivial, ⟨⟨trivial, ⟨⟨trivial, trivial⟩, trivial⟩⟩, ⟨⟨trivial, ⟨⟨trivial, trivial⟩, trivial⟩⟩, ⟨trivial, trivial⟩⟩⟩⟩
theorem fm129_0g (vf71_1 : Tf71_1)  (α : Type) (k : List RV → Option α) : Fn129_0 (f129_0g vf71_1) α k = pa129_0.unc fun ds => fnM Try.prog (E129_0g vf71_1) sh129 (cm129_0g ) rs129 k ds := by kernel_rfl
theorem fm129_0 : ∀ (α : Type) (k : List RV → Option α), Fn129_0 f129_0 α k = pa129_0.unc fun ds => fnM Try.prog E129_0 sh129 cm129_0 rs129 k ds := fm129_0g f71_1
theorem is129 : FnIs Try.prog 129 nt129 tr129 tl129 cm129_0.erase rs129 := ⟨Try.f129, Try.func129, rfl, by kernel_rfl, by kernel_rfl, by kernel_rfl⟩
theorem io129_0 : InstOk Try.prog 129 nt129 ⟨pa129_0, Fn129_0 f129_0⟩ := inst_ok eo129_0 followsTry is129 ⟨⟨sh129, cm129_0, by kernel_rfl, gm129_0, fm129_0⟩⟩
def pr129_1_0 : PT (List RV) := pRs [pR false [rD (dI .i64)], pR false [rD (dI .i64)]]
def ur129_1_0 {β : Type} (g : List RV → β) : Int → Int → β := pr129_1_0.unc g
def E129_1g (vf71_0 : Tf71_0) : EnvK := EnvK.of [⟨71, nt71, [⟨pa71_0, Fn71_0 vf71_0⟩]⟩] noSeq
noncomputable def E129_1 : EnvK := E129_1g f71_0
theorem eo129_1 : E129_1.Ok Try.prog := EnvK.of_ok noSeq_ok ⟨⟨io71_0, trivial⟩, trivial⟩
abbrev Tf129_1 : Type 1 := (α : Type) → Int → (Option α) → Option α
def f129_1g (vf71_0 : Tf71_0) (α : Type) (x1 : Int) (k1 : Option α) : Option α :=
 vf71_0 α 
 (k1)
noncomputable def f129_1 (α : Type) (x1 : Int) (k1 : Option α) : Option α := f129_1g f71_0 α x1 k1
def pa129_1 : PT (List DV) := pA [pV false [(dNan .f64)], pV false [(dI .i64)]]
def Fn129_1 (v : Tf129_1) (α : Type) (k : List RV → Option α) : Int → Option α := fun x1 => v α x1 (ur129_1_0 k 0 27)
noncomputable def cm129_1g  : MCode := (.seq (.region r129_2 [] (tO [0, 1])) (.seq (.seq (.region r129_5 [] (tO [0, 1, 8])) (.cond (.tmp 8) (.seq (.region r129_8 [] (tO [4, 5])) .ret) .skip)) (.seq (.seq (.region r129_11 [] (tO [0, 19])) (.cond (.tmp 19) (.seq (.region r129_14 [] (tO [4, 5])) .ret) .skip)) (.seq (.region r129_16 [] (tO [4, 5])) .ret))))
noncomputable def cm129_1 : MCode := cm129_1g 
theorem gm129_1 : cm129_1.Good Try.prog E129_1 sh129 := ⟨trivial, ⟨⟨trivial, ⟨⟨trivial, trivial⟩, trivial⟩⟩, ⟨⟨trivial, ⟨⟨trivial, trivial⟩, trivial⟩⟩, ⟨trivial, trivial⟩⟩⟩⟩
theorem fm129_1g (vf71_0 : Tf71_0)  (α : Type) (k : List RV → Option α) : Fn129_1 (f129_1g vf71_0) α k = pa129_1.unc fun ds => fnM Try.prog (E129_1g vf71_0) sh129 (cm129_1g ) rs129 k ds := by kernel_rfl
theorem fm129_1 : ∀ (α : Type) (k : List RV → Option α), Fn129_1 f129_1 α k = pa129_1.unc fun ds => fnM Try.prog E129_1 sh129 cm129_1 rs129 k ds := fm129_1g f71_0
theorem io129_1 : InstOk Try.prog 129 nt129 ⟨pa129_1, Fn129_1 f129_1⟩ := inst_ok eo129_1 followsTry is129 ⟨⟨sh129, cm129_1, by kernel_rfl, gm129_1, fm129_1⟩⟩
abbrev nt68 : Nat := 35
def sh68 : List (Nat × List Sh) := [(13, [.int .i64, .int .i64]), (14, [.int .i64, .int .i64]), (15, [.int .i64, .int .i64]), (23, [.int .i64]), (25, [.int .i64]), (28, [.int .i64]), (30, [.int .i64]), (34, [.int .i64, .int .i64])]
def r68_2 : List AOper := [oO 4 (.alloc [(cI 0), (cI 0)])]
def r68_4 : List AOper := [oO 5 (.alloc [(cI 0), (cI 0)])]
def r68_7 : List AOper := [oM 8 0, oO 9 (.len (.tmp 8)), oO 10 (.mv (kI 0))]
def td68_9 : Option Tidy := (some ⟨[1, 4, 5, 8, 9, 10], true, [⟨false, 8, 0, 20008, 2⟩], []⟩)
def r68_11 : List AOper := [oO 11 (.bin .lss 3 (.tmp 10) (.tmp 9))]
def r68_17 : List AOper := [oM 12 10, oO 13 (.iaddr 2 none (.tmp 8) (.tmp 10)), oO 14 (.load true 2 (.tmp 13)), oO 7 (.alloc [(cI 0), (cI 0)]), oM 6 12, oD (.store 2 (.tmp 7) (.tmp 14))]
def r68_19 : List AOper := [oO 15 (.load true 2 (.tmp 7)), oM 16 6, oO 17 (.bin .rem 3 (.tmp 16) (kI 4)), oM 18 1, oO 19 (.bin .rem 3 (.tmp 18) (kI 4)), oO 20 (.bin .mul 3 (.tmp 17) (.tmp 19)), oO 21 (.call 119 [(.tmp 15), (.tmp 20)]), oD (.store 2 (.tmp 7) (.tmp 21))]
def r68_20 : List AOper := [oO 22 (.faddr 0 (.tmp 5)), oO 23 (.load false 1 (.tmp 22)), oO 24 (.faddr 0 (.tmp 7)), oO 25 (.load false 1 (.tmp 24)), oO 26 (.bin .add 3 (.tmp 23) (.tmp 25)), oO 27 (.faddr 1 (.tmp 5)), oO 28 (.load false 1 (.tmp 27)), oO 29 (.faddr 1 (.tmp 7)), oO 30 (.load false 1 (.tmp 29)), oO 31 (.bin .add 3 (.tmp 28) (.tmp 30)), oO 32 (.build [(cI 0), (cI 0)] [(0, 1, (.tmp 26)), (1, 1, (.tmp 31))]), oD (.store 2 (.tmp 5) (.tmp 32))]
def r68_21 : List AOper := [oO 33 (.bin .add 3 (.tmp 10) (kI 1)), oM 10 33]
def r68_23 : List AOper := [oO 34 (.load true 2 (.tmp 5)), oD (.store 2 (.tmp 4) (.tmp 34))]
def tr68 : List (Nat × Tidy) := [tT 0 [0, 1, 4], tT 1 [0, 1, 4, 5], tT 2 [1, 4, 5, 8, 9, 10], tT 3 [1, 4, 5, 8, 9, 10, 11], tT 4 [1, 4, 5, 6, 7, 8, 9, 10], tT 5 [1, 4, 5, 7, 8, 9, 10], tT 6 [1, 4, 5, 8, 9, 10], tT 7 [1, 4, 5, 8, 9, 10], tT 8 [4]]
def tl68 : List (Nat × Tidy) := [(3, ⟨[1, 4, 5, 8, 9, 10], true, [⟨false, 8, 0, 20008, 2⟩], []⟩)]
def rs68 : List AResV := [.cell 4 true 2]
def p68_0_0 : PT St := pS [sl 1 (aV false [(cD (dI .i64))]), sl 4 (aV false [(cPtr 4 0)]), sl 5 (aV false [(cPtr 5 0)]), sl 8 (aV false [(cD dL)]), sl 9 (aV false [(cD (dI .i64))]), sl 10 (aV false [(cD (dI .i64))])] [eBox 4 [(cD (dI .i64)), (cD (dI .i64))], eBox 5 [(cD (dI .i64)), (cD (dI .i64))]]
def u68_0_0 {β : Type} (g : St → β) : Int → Rows → Int → Int → Int → Int → Int → Int → β := p68_0_0.unc g
def p68_0_1 : PT St := pS [sl 1 (aV false [(cD (dI .i64))]), sl 4 (aV false [(cPtr 4 0)]), sl 5 (aV false [(cPtr 5 0)]), sl 8 (aV false [(cD dL)]), sl 9 (aV false [(cD (dI .i64))]), sl 10 (aV false [(cD (dI .i64))]), sl 11 (aV false [(cD dB)])] [eBox 4 [(cD (dI .i64)), (cD (dI .i64))], eBox 5 [(cD (dI .i64)), (cD (dI .i64))]]
def u68_0_1 {β : Type} (g : St → β) : Int → Rows → Int → Int → Bool → Int → Int → Int → Int → β := p68_0_1.unc g
def pr68_0_0 : PT (List RV) := pRs [pR true [rD (dI .i64), rD (dI .i64)]]
def ur68_0_0 {β : Type} (g : List RV → β) : Int → Int → β := pr68_0_0.unc g
def E68_0g (vf119_0 : Tf119_0) : EnvK := EnvK.of [⟨119, nt119, [⟨pa119_0, Fn119_0 vf119_0⟩]⟩] noSeq
noncomputable def E68_0 : EnvK := E68_0g f119_0
theorem eo68_0 : E68_0.Ok Try.prog := EnvK.of_ok noSeq_ok ⟨⟨io119_0, trivial⟩, trivial⟩
noncomputable def c68_0_9g  : MCode := (.seq (.region r68_11 [] (tO [1, 4, 5, 8, 9, 10, 11])) (.seq (.cond (.tmp 11) .skip (.exit 0)) (.seq (.block 1 (.seq (.region r68_17 [] (tO [1, 4, 5, 6, 7, 8, 9, 10])) (.seq (.region r68_19 [] (tO [1, 4, 5, 7, 8, 9, 10])) (.region r68_20 [] (tO [1, 4, 5, 8, 9, 10]))))) (.region r68_21 [] (tO [1, 4, 5, 8, 9, 10])))))
noncomputable def c68_0_9 : MCode := c68_0_9g 
theorem g68_0_9 : c68_0_9.Good Try.prog E68_0 sh68 := ⟨trivial, ⟨⟨trivial, trivial⟩, ⟨⟨trivial, ⟨trivial, trivial⟩⟩, trivial⟩⟩⟩
--CODE 9 0
def S68_0_0g (vf119_0 : Tf119_0) (α : Type) (x3 : Int) (x4 : Rows) (x5 x6 x9 x10 : Int) (kn : Int → Int → Int → Option α) (k1 : Int → Bool → Int → Int → Option α) : Option α :=
 cK (decide (x6 < x5))
 (rowK x4 x6 [.int .i64, .int .i64]
 (fun x12 x13 => vf119_0 α x12 x13 (w64 ((Int.tmod x6 4) * (Int.tmod x3 4)))
 (fun x14 x15 => kn (w64 (x6 + 1)) (w64 (x9 + x14)) (w64 (x10 + x15)))))
 (k1 x6 (decide (x6 < x5)) x9 x10)
noncomputable def S68_0_0 (α : Type) (x3 : Int) (x4 : Rows) (x5 x6 x9 x10 : Int) (kn : Int → Int → Int → Option α) (k1 : Int → Bool → Int → Int → Option α) : Option α := S68_0_0g f119_0 α x3 x4 x5 x6 x9 x10 kn k1
noncomputable def R68_0_0 (α : Type) (x3 : Int) (x4 : Rows) (x5 : Int) (k1 : Int → Bool → Int → Int → Option α) : Nat → Int → Int → Int → Option α
 | 0, _, _, _ => none
 | n + 1, x6, x9, x10 => S68_0_0 α x3 x4 x5 x6 x9 x10 (R68_0_0 α x3 x4 x5 k1 n) k1
noncomputable def L68_0_0 (α : Type) (x3 : Int) (x4 : Rows) (x5 : Int) (k1 : Int → Bool → Int → Int → Option α) (x6 x9 x10 : Int) : Option α := R68_0_0 α x3 x4 x5 k1 fuel x6 x9 x10
abbrev TL68_0_0 : Type 1 := (α : Type) → Int → Rows → Int → (Int → Bool → Int → Int → Option α) → Int → Int → Int → Option α
def F68_0_0 (v : TL68_0_0) (α : Type) (K : Exit → St → Option α) : Int → Rows → Int → Int → Int → Int → Int → Int → Option α := fun x3 x4 x5 x6 x7 x8 x9 x10 => v α x3 x4 x5 (fun (y1 : Int) (y2 : Bool) (y3 : Int) (y4 : Int) => u68_0_1 (K (.exit 0)) x3 x4 x5 y1 y2 x7 x8 y3 y4) x6 x9 x10
theorem r68_0_0g (vf119_0 : Tf119_0)  (α : Type) (K : Exit → St → Option α) (Kn : St → Option α) (x3 : Int) (x4 : Rows) (x5 x6 x7 x8 x9 x10 : Int) : u68_0_0 (fun σ => runM Try.prog (E68_0g vf119_0) sh68 (c68_0_9g ) (thenK (fun σ => tidyK td68_9 σ Kn) K) σ) x3 x4 x5 x6 x7 x8 x9 x10 = S68_0_0g vf119_0 α x3 x4 x5 x6 x9 x10 (fun x6 x9 x10 => u68_0_0 Kn x3 x4 x5 x6 x7 x8 x9 x10) (fun (y1 : Int) (y2 : Bool) (y3 : Int) (y4 : Int) => u68_0_1 (K (.exit 0)) x3 x4 x5 y1 y2 x7 x8 y3 y4) := by kernel_rfl
theorem r68_0_0 (α : Type) (K : Exit → St → Option α) (Kn : St → Option α) (x3 : Int) (x4 : Rows) (x5 x6 x7 x8 x9 x10 : Int) : u68_0_0 (fun σ => runM Try.prog E68_0 sh68 c68_0_9 (thenK (fun σ => tidyK td68_9 σ Kn) K) σ) x3 x4 x5 x6 x7 x8 x9 x10 = S68_0_0 α x3 x4 x5 x6 x9 x10 (fun x6 x9 x10 => u68_0_0 Kn x3 x4 x5 x6 x7 x8 x9 x10) (fun (y1 : Int) (y2 : Bool) (y3 : Int) (y4 : Int) => u68_0_1 (K (.exit 0)) x3 x4 x5 y1 y2 x7 x8 y3 y4) := r68_0_0g f119_0 α K Kn x3 x4 x5 x6 x7 x8 x9 x10
theorem t68_0_0 (α : Type) (K : Exit → St → Option α) : ∀ (n : Nat) (x3 : Int) (x4 : Rows) (x5 x6 x7 x8 x9 x10 : Int), R68_0_0 α x3 x4 x5 (fun (y1 : Int) (y2 : Bool) (y3 : Int) (y4 : Int) => u68_0_1 (K (.exit 0)) x3 x4 x5 y1 y2 x7 x8 y3 y4) n x6 x9 x10 = u68_0_0 (loopT (runM Try.prog E68_0 sh68 c68_0_9) td68_9 K n) x3 x4 x5 x6 x7 x8 x9 x10 := by
 intro n
 induction n with
 | zero => intros; rfl
 | succ n ih => intro x3 x4 x5 x6 x7 x8 x9 x10; exact (congrArg (fun kn => S68_0_0 α x3 x4 x5 x6 x9 x10 kn (fun (y1 : Int) (y2 : Bool) (y3 : Int) (y4 : Int) => u68_0_1 (K (.exit 0)) x3 x4 x5 y1 y2 x7 x8 y3 y4)) (funext fun x6 => funext fun x9 => funext fun x10 => ih x3 x4 x5 x6 x7 x8 x9 x10)).trans (r68_0_0 α K (loopT (runM Try.prog E68_0 sh68 c68_0_9) td68_9 K n) x3 x4 x5 x6 x7 x8 x9 x10).symm
theorem m68_0_0 : ∀ (α : Type) (K : Exit → St → Option α), F68_0_0 L68_0_0 α K = p68_0_0.unc fun σ => loopT (runM Try.prog E68_0 sh68 c68_0_9) td68_9 K fuel σ := fun α K => funext fun x3 => funext fun x4 => funext fun x5 => funext fun x6 => funext fun x7 => funext fun x8 => funext fun x9 => funext fun x10 => t68_0_0 α K fuel x3 x4 x5 x6 x7 x8 x9 x10
abbrev Tf68_0 : Type 1 := (α : Type) → Rows → Int → (Int → Int → Option α) → Option α
def f68_0g (vL68_0_0 : TL68_0_0) (α : Type) (x1 : Rows) (x2 : Int) (k1 : Int → Int → Option α) : Option α :=
 vL68_0_0 α x2 x1 ((List.length x1 : Nat) : Int)
 (fun x16 x17 x18 x19 => k1 x18 x19) 0 0 0
noncomputable def f68_0 (α : Type) (x1 : Rows) (x2 : Int) (k1 : Int → Int → Option α) : Option α := f68_0g L68_0_0 α x1 x2 k1
def pa68_0 : PT (List DV) := pA [pV false [dL], pV false [(dI .i64)]]
def Fn68_0 (v : Tf68_0) (α : Type) (k : List RV → Option α) : Rows → Int → Option α := fun x1 x2 => v α x1 x2 (fun (y1 : Int) (y2 : Int) => ur68_0_0 k y1 y2)
noncomputable def cm68_0g (vL68_0_0 : TL68_0_0) : MCode := (.seq (.region r68_2 [] (tO [0, 1, 4])) (.seq (.region r68_4 [] (tO [0, 1, 4, 5])) (.seq (.seq (.region r68_7 [] (tO [1, 4, 5, 8, 9, 10])) (.block 0 (.loop td68_9 [⟨p68_0_0, F68_0_0 vL68_0_0⟩] c68_0_9))) (.seq (.region r68_23 [] (tO [4])) .ret))))
noncomputable def cm68_0 : MCode := cm68_0g L68_0_0
theorem gm68_0 : cm68_0.Good Try.prog E68_0 sh68 := ⟨trivial, ⟨trivial, ⟨⟨trivial, ⟨g68_0_9, m68_0_0, trivial⟩⟩, ⟨trivial, trivial⟩⟩⟩⟩
theorem fm68_0g (vf119_0 : Tf119_0) (vL68_0_0 : TL68_0_0) (α : Type) (k : List RV → Option α) : Fn68_0 (f68_0g vL68_0_0) α k = pa68_0.unc fun ds => fnM Try.prog (E68_0g vf119_0) sh68 (cm68_0g vL68_0_0) rs68 k ds := by kernel_rfl
theorem fm68_0 : ∀ (α : Type) (k : List RV → Option α), Fn68_0 f68_0 α k = pa68_0.unc fun ds => fnM Try.prog E68_0 sh68 cm68_0 rs68 k ds := fm68_0g f119_0 L68_0_0
theorem is68 : FnIs Try.prog 68 nt68 tr68 tl68 cm68_0.erase rs68 := ⟨Try.f68, Try.func68, rfl, by kernel_rfl, by kernel_rfl, by kernel_rfl⟩
theorem io68_0 : InstOk Try.prog 68 nt68 ⟨pa68_0, Fn68_0 f68_0⟩ := inst_ok eo68_0 followsTry is68 ⟨⟨sh68, cm68_0, by kernel_rfl, gm68_0, fm68_0⟩⟩
abbrev nt70 : Nat := 5
def sh70 : List (Nat × List Sh) := []
def r70_2 : List AOper := [oO 2 (.mv (.const (.bool false)))]
def r70_4 : List AOper := [oM 3 0, oO 4 (.call 29 [(.tmp 3), (kI 0), (kI 65535)]), oM 2 4]
def tr70 : List (Nat × Tidy) := [tT 0 [0], tT 1 [2]]
def tl70 : List (Nat × Tidy) := []
def rs70 : List AResV := [.tmp 2]
def pr70_0_0 : PT (List RV) := pRs [pR false [rD dB]]
def ur70_0_0 {β : Type} (g : List RV → β) : Bool → β := pr70_0_0.unc g
def E70_0g (vf29_0 : Tf29_0) : EnvK := EnvK.of [⟨29, nt29, [⟨pa29_0, Fn29_0 vf29_0⟩]⟩] noSeq
noncomputable def E70_0 : EnvK := E70_0g f29_0
theorem eo70_0 : E70_0.Ok Try.prog := EnvK.of_ok noSeq_ok ⟨⟨io29_0, trivial⟩, trivial⟩
abbrev Tf70_0 : Type 1 := (α : Type) → Int → (Bool → Option α) → Option α
def f70_0g (vf29_0 : Tf29_0) (α : Type) (x1 : Int) (k1 : Bool → Option α) : Option α :=
 vf29_0 α x1 0 65535
 (fun x2 => k1 x2)
noncomputable def f70_0 (α : Type) (x1 : Int) (k1 : Bool → Option α) : Option α := f70_0g f29_0 α x1 k1
def pa70_0 : PT (List DV) := pA [pV false [(dI .i64)]]
def Fn70_0 (v : Tf70_0) (α : Type) (k : List RV → Option α) : Int → Option α := fun x1 => v α x1 (fun (y1 : Bool) => ur70_0_0 k y1)
noncomputable def cm70_0g  : MCode := (.seq (.region r70_2 [] (tO [0])) (.seq (.region r70_4 [] (tO [2])) .ret))
noncomputable def cm70_0 : MCode := cm70_0g 
theorem gm70_0 : cm70_0.Good Try.prog E70_0 sh70 := ⟨trivial, ⟨trivial, trivial⟩⟩
theorem fm70_0g (vf29_0 : Tf29_0)  (α : Type) (k : List RV → Option α) : Fn70_0 (f70_0g vf29_0) α k = pa70_0.unc fun ds => fnM Try.prog (E70_0g vf29_0) sh70 (cm70_0g ) rs70 k ds := by kernel_rfl
theorem fm70_0 : ∀ (α : Type) (k : List RV → Option α), Fn70_0 f70_0 α k = pa70_0.unc fun ds => fnM Try.prog E70_0 sh70 cm70_0 rs70 k ds := fm70_0g f29_0
theorem is70 : FnIs Try.prog 70 nt70 tr70 tl70 cm70_0.erase rs70 := ⟨Try.f70, Try.func70, rfl, by kernel_rfl, by kernel_rfl, by kernel_rfl⟩
theorem io70_0 : InstOk Try.prog 70 nt70 ⟨pa70_0, Fn70_0 f70_0⟩ := inst_ok eo70_0 followsTry is70 ⟨⟨sh70, cm70_0, by kernel_rfl, gm70_0, fm70_0⟩⟩
abbrev nt109 : Nat := 10
def sh109 : List (Nat × List Sh) := []
def r109_2 : List AOper := [oO 4 (.mv (.const (.bool false)))]
def r109_4 : List AOper := [oM 5 0, oM 6 1, oO 7 (.pure (oB (.unOp .neg 3 (.tmp 6)) 3)), oM 8 1, oO 9 (.call 98 [(.tmp 5), (.tmp 7), (.tmp 8)]), oM 4 9]
def tr109 : List (Nat × Tidy) := [tT 0 [0, 1], tT 1 [4]]
def tl109 : List (Nat × Tidy) := []
def rs109 : List AResV := [.tmp 4]
def pr109_0_0 : PT (List RV) := pRs [pR false [rD dB]]
def ur109_0_0 {β : Type} (g : List RV → β) : Bool → β := pr109_0_0.unc g
def E109_0g (vf98_0 : Tf98_0) : EnvK := EnvK.of [⟨98, nt98, [⟨pa98_0, Fn98_0 vf98_0⟩]⟩] noSeq
noncomputable def E109_0 : EnvK := E109_0g f98_0
theorem eo109_0 : E109_0.Ok Try.prog := EnvK.of_ok noSeq_ok ⟨⟨io98_0, trivial⟩, trivial⟩
abbrev Tf109_0 : Type 1 := (α : Type) → Int → Int → (Bool → Option α) → Option α
def f109_0g (vf98_0 : Tf98_0) (α : Type) (x1 x2 : Int) (k1 : Bool → Option α) : Option α :=
 vf98_0 α x1 (w64 (0 - x2)) x2
 (fun x3 => k1 x3)
noncomputable def f109_0 (α : Type) (x1 x2 : Int) (k1 : Bool → Option α) : Option α := f109_0g f98_0 α x1 x2 k1
def pa109_0 : PT (List DV) := pA [pV false [(dI .i64)], pV false [(dI .i64)]]
def Fn109_0 (v : Tf109_0) (α : Type) (k : List RV → Option α) : Int → Int → Option α := fun x1 x2 => v α x1 x2 (fun (y1 : Bool) => ur109_0_0 k y1)
noncomputable def cm109_0g  : MCode := (.seq (.region r109_2 [] (tO [0, 1])) (.seq (.region r109_4 [] (tO [4])) .ret))
noncomputable def cm109_0 : MCode := cm109_0g 
theorem gm109_0 : cm109_0.Good Try.prog E109_0 sh109 := ⟨trivial, ⟨trivial, trivial⟩⟩
theorem fm109_0g (vf98_0 : Tf98_0)  (α : Type) (k : List RV → Option α) : Fn109_0 (f109_0g vf98_0) α k = pa109_0.unc fun ds => fnM Try.prog (E109_0g vf98_0) sh109 (cm109_0g ) rs109 k ds := by kernel_rfl
theorem fm109_0 : ∀ (α : Type) (k : List RV → Option α), Fn109_0 f109_0 α k = pa109_0.unc fun ds => fnM Try.prog E109_0 sh109 cm109_0 rs109 k ds := fm109_0g f98_0
theorem is109 : FnIs Try.prog 109 nt109 tr109 tl109 cm109_0.erase rs109 := ⟨Try.f109, Try.func109, rfl, by kernel_rfl, by kernel_rfl, by kernel_rfl⟩
theorem io109_0 : InstOk Try.prog 109 nt109 ⟨pa109_0, Fn109_0 f109_0⟩ := inst_ok eo109_0 followsTry is109 ⟨⟨sh109, cm109_0, by kernel_rfl, gm109_0, fm109_0⟩⟩
abbrev nt83 : Nat := 27
def sh83 : List (Nat × List Sh) := [(17, [.int .i64]), (23, [.int .i64])]
def r83_2 : List AOper := [oO 5 (.box (.tmp 2)), oO 6 (.mv (kI 0))]
def r83_6 : List AOper := [oM 8 0, oO 9 (.call 121 [(.tmp 8)]), oO 10 (.pure (oB (.unOp .not 4 (.tmp 9)) 4)), oM 7 10]
def r83_9 : List AOper := [oO 6 (.mv (kI 3))]
def r83_11 : List AOper := [oM 12 1, oO 13 (.call 98 [(.tmp 12), (kI 1000), (kI 200000)]), oO 14 (.pure (oB (.unOp .not 4 (.tmp 13)) 4)), oM 15 14, oG 16 (.faddr 0 (.tmp 5)) 15 false, oG 17 (.load false 1 (.tmp 16)) 15 false, oG 18 (.call 98 [(.tmp 17), (kI 5000), (kI 80000)]) 15 false, oG 19 (.pure (oB (.unOp .not 4 (.tmp 18)) 4)) 15 false, oO 20 (.pick (.tmp 15) (.const (.bool true)) (.tmp 19)), oM 21 20, oG 22 (.faddr 1 (.tmp 5)) 21 false, oG 23 (.load false 1 (.tmp 22)) 21 false, oG 24 (.call 98 [(.tmp 23), (kI 0), (kI 9999)]) 21 false, oG 25 (.pure (oB (.unOp .not 4 (.tmp 24)) 4)) 21 false, oO 26 (.pick (.tmp 21) (.const (.bool true)) (.tmp 25)), oM 11 26]
def r83_14 : List AOper := [oO 6 (.mv (kI 2))]
def r83_16 : List AOper := [oO 6 (.mv (kI 0))]
def tr83 : List (Nat × Tidy) := [tT 0 [0, 1, 5], tT 1 [1, 5, 7], tT 2 [6], tT 3 [11], tT 4 [6], tT 5 [6]]
def tl83 : List (Nat × Tidy) := []
def rs83 : List AResV := [.tmp 6]
def pr83_0_0 : PT (List RV) := pRs [pR false [rD (dI .i64)]]
def ur83_0_0 {β : Type} (g : List RV → β) : Int → β := pr83_0_0.unc g
def E83_0g (vf121_0 : Tf121_0) (vf98_0 : Tf98_0) : EnvK := EnvK.of [⟨121, nt121, [⟨pa121_0, Fn121_0 vf121_0⟩]⟩, ⟨98, nt98, [⟨pa98_0, Fn98_0 vf98_0⟩]⟩] noSeq
noncomputable def E83_0 : EnvK := E83_0g f121_0 f98_0
theorem eo83_0 : E83_0.Ok Try.prog := EnvK.of_ok noSeq_ok ⟨⟨io121_0, trivial⟩, ⟨io98_0, trivial⟩, trivial⟩
abbrev Tf83_0 : Type 1 := (α : Type) → ByteArray → Int → Int → Int → (Int → Option α) → Option α
def f83_0g (vf121_0 : Tf121_0) (vf98_0 : Tf98_0) (α : Type) (x1 : ByteArray) (x2 x3 x4 : Int) (k1 : Int → Option α) : Option α :=
 vf121_0 α x1
 (fun x5 => cK (!x5)
 (k1 3)
 (vf98_0 α x2 1000 200000
 (fun x6 => cK (!x6)
 (k1 2)
 (vf98_0 α x3 5000 80000
 (fun x7 => cK (!x7)
 (k1 2)
 (vf98_0 α x4 0 9999
 (fun x8 => cK (!x8)
 (k1 2)
 (k1 0))))))))
noncomputable def f83_0 (α : Type) (x1 : ByteArray) (x2 x3 x4 : Int) (k1 : Int → Option α) : Option α := f83_0g f121_0 f98_0 α x1 x2 x3 x4 k1
def pa83_0 : PT (List DV) := pA [pV false [dS], pV false [(dI .i64)], pV true [(dI .i64), (dI .i64)]]
def Fn83_0 (v : Tf83_0) (α : Type) (k : List RV → Option α) : ByteArray → Int → Int → Int → Option α := fun x1 x2 x3 x4 => v α x1 x2 x3 x4 (fun (y1 : Int) => ur83_0_0 k y1)
noncomputable def cm83_0g  : MCode := (.seq (.region r83_2 [] (tO [0, 1, 5])) (.seq (.block 0 (.seq (.region r83_6 [] (tO [1, 5, 7])) (.cond (.tmp 7) (.seq (.region r83_9 [] (tO [6])) .ret) (.seq (.region r83_11 [] (tO [11])) (.cond (.tmp 11) (.seq (.region r83_14 [] (tO [6])) .ret) .skip))))) (.seq (.region r83_16 [] (tO [6])) .ret)))
noncomputable def cm83_0 : MCode := cm83_0g 
theorem gm83_0 : cm83_0.Good Try.prog E83_0 sh83 := ⟨trivial, ⟨⟨trivial, ⟨⟨trivial, trivial⟩, ⟨trivial, ⟨⟨trivial, trivial⟩, trivial⟩⟩⟩⟩, ⟨trivial, trivial⟩⟩⟩
theorem fm83_0g (vf121_0 : Tf121_0) (vf98_0 : Tf98_0)  (α : Type) (k : List RV → Option α) : Fn83_0 (f83_0g vf121_0 vf98_0) α k = pa83_0.unc fun ds => fnM Try.prog (E83_0g vf121_0 vf98_0) sh83 (cm83_0g ) rs83 k ds := by kernel_rfl
theorem fm83_0 : ∀ (α : Type) (k : List RV → Option α), Fn83_0 f83_0 α k = pa83_0.unc fun ds => fnM Try.prog E83_0 sh83 cm83_0 rs83 k ds := fm83_0g f121_0 f98_0
theorem is83 : FnIs Try.prog 83 nt83 tr83 tl83 cm83_0.erase rs83 := ⟨Try.f83, Try.func83, rfl, by kernel_rfl, by kernel_rfl, by kernel_rfl⟩
theorem io83_0 : InstOk Try.prog 83 nt83 ⟨pa83_0, Fn83_0 f83_0⟩ := inst_ok eo83_0 followsTry is83 ⟨⟨sh83, cm83_0, by kernel_rfl, gm83_0, fm83_0⟩⟩
abbrev nt108 : Nat := 36
def sh108 : List (Nat × List Sh) := []
def r108_2 : List AOper := [oO 4 (.mv (kI 0)), oO 5 (.mv (kI 0)), oO 6 (.mv (kI 0))]
def r108_4 : List AOper := [oM 12 0, oO 13 (.pure (oB (.call { callee := .builtin .real, args := #[(.tmp 12)], argTypes := #[26] }) 112)), oM 14 1, oO 15 (.call 129 [(.tmp 13), (.tmp 14)]), oM 11 15, oO 16 (.extract 0 (.tmp 11)), oO 17 (.extract 1 (.tmp 11)), oM 7 16, oM 8 17]
def r108_6 : List AOper := [oM 19 0, oO 20 (.pure (oB (.call { callee := .builtin .imag, args := #[(.tmp 19)], argTypes := #[26] }) 112)), oM 21 1, oO 22 (.call 129 [(.tmp 20), (.tmp 21)]), oM 18 22, oO 23 (.extract 0 (.tmp 18)), oO 24 (.extract 1 (.tmp 18)), oM 9 23, oM 10 24]
def r108_9 : List AOper := [oM 25 8, oO 26 (.bin .eql 3 (.tmp 25) (kI 27)), oM 27 26, oG 28 (.mv (.tmp 10)) 27 false, oG 29 (.bin .eql 3 (.tmp 28) (kI 27)) 27 false, oO 30 (.pick (.tmp 27) (.const (.bool true)) (.tmp 29))]
def r108_12 : List AOper := [oO 4 (.mv (kI 0)), oO 5 (.mv (kI 0)), oO 6 (.mv (kI 27))]
def r108_14 : List AOper := [oM 31 7, oM 32 9, oM 33 8, oM 34 10, oO 35 (.pure (oB (.call { callee := .builtin .max, args := #[(.tmp 33), (.tmp 34)], argTypes := #[3, 3] }) 3)), oM 4 31, oM 5 32, oM 6 35]
def tr108 : List (Nat × Tidy) := [tT 0 [0, 1], tT 1 [0, 1, 7, 8], tT 2 [7, 8, 9, 10], tT 3 [7, 8, 9, 10, 30], tT 4 [4, 5, 6], tT 5 [4, 5, 6]]
def tl108 : List (Nat × Tidy) := []
def rs108 : List AResV := [.tmp 4, .tmp 5, .tmp 6]
def pr108_0_0 : PT (List RV) := pRs [pR false [rD (dI .i64)], pR false [rD (dI .i64)], pR false [rD (dI .i64)]]
def ur108_0_0 {β : Type} (g : List RV → β) : Int → Int → Int → β := pr108_0_0.unc g
def E108_0g (vf129_0 : Tf129_0) : EnvK := EnvK.of [⟨129, nt129, [⟨pa129_0, Fn129_0 vf129_0⟩]⟩] noSeq
noncomputable def E108_0 : EnvK := E108_0g f129_0
theorem eo108_0 : E108_0.Ok Try.prog := EnvK.of_ok noSeq_ok ⟨⟨io129_0, trivial⟩, trivial⟩
abbrev Tf108_0 : Type 1 := (α : Type) → Nat → Nat → Int → (Int → Int → Int → Option α) → Option α
def f108_0g (vf129_0 : Tf129_0) (α : Type) (x1 x2 : Nat) (x3 : Int) (k1 : Int → Int → Int → Option α) : Option α :=
 vf129_0 α x1 x3
 (fun x4 x5 => vf129_0 α x2 x3
 (fun x6 x7 => cK (x5 == 27)
 (k1 0 0 27)
 (cK (x7 == 27)
 (k1 0 0 27)
 (k1 x4 x6 (if x7 > x5 then x7 else x5)))))
noncomputable def f108_0 (α : Type) (x1 x2 : Nat) (x3 : Int) (k1 : Int → Int → Int → Option α) : Option α := f108_0g f129_0 α x1 x2 x3 k1
def pa108_0 : PT (List DV) := pA [pV false [(dX .f64)], pV false [(dI .i64)]]
def Fn108_0 (v : Tf108_0) (α : Type) (k : List RV → Option α) : Nat → Nat → Int → Option α := fun x1 x2 x3 => v α x1 x2 x3 (fun (y1 : Int) (y2 : Int) (y3 : Int) => ur108_0_0 k y1 y2 y3)
noncomputable def cm108_0g  : MCode := (.seq (.region r108_2 [] (tO [0, 1])) (.seq (.region r108_4 [] (tO [0, 1, 7, 8])) (.seq (.region r108_6 [] (tO [7, 8, 9, 10])) (.seq (.seq (.region r108_9 [] (tO [7, 8, 9, 10, 30])) (.cond (.tmp 30) (.seq (.region r108_12 [] (tO [4, 5, 6])) .ret) .skip)) (.seq (.region r108_14 [] (tO [4, 5, 6])) .ret)))))
noncomputable def cm108_0 : MCode := cm108_0g 
theorem gm108_0 : cm108_0.Good Try.prog E108_0 sh108 := ⟨trivial, ⟨trivial, ⟨trivial, ⟨⟨trivial, ⟨⟨trivial, trivial⟩, trivial⟩⟩, ⟨trivial, trivial⟩⟩⟩⟩⟩
theorem fm108_0g (vf129_0 : Tf129_0)  (α : Type) (k : List RV → Option α) : Fn108_0 (f108_0g vf129_0) α k = pa108_0.unc fun ds => fnM Try.prog (E108_0g vf129_0) sh108 (cm108_0g ) rs108 k ds := by kernel_rfl
theorem fm108_0 : ∀ (α : Type) (k : List RV → Option α), Fn108_0 f108_0 α k = pa108_0.unc fun ds => fnM Try.prog E108_0 sh108 cm108_0 rs108 k ds := fm108_0g f129_0
theorem is108 : FnIs Try.prog 108 nt108 tr108 tl108 cm108_0.erase rs108 := ⟨Try.f108, Try.func108, rfl, by kernel_rfl, by kernel_rfl, by kernel_rfl⟩
theorem io108_0 : InstOk Try.prog 108 nt108 ⟨pa108_0, Fn108_0 f108_0⟩ := inst_ok eo108_0 followsTry is108 ⟨⟨sh108, cm108_0, by kernel_rfl, gm108_0, fm108_0⟩⟩
def pr108_1_0 : PT (List RV) := pRs [pR false [rD (dI .i64)], pR false [rD (dI .i64)], pR false [rD (dI .i64)]]
def ur108_1_0 {β : Type} (g : List RV → β) : Int → Int → Int → β := pr108_1_0.unc g
def E108_1g (vf129_1 : Tf129_1) : EnvK := EnvK.of [⟨129, nt129, [⟨pa129_1, Fn129_1 vf129_1⟩]⟩] noSeq
noncomputable def E108_1 : EnvK := E108_1g f129_1
theorem eo108_1 : E108_1.Ok Try.prog := EnvK.of_ok noSeq_ok ⟨⟨io129_1, trivial⟩, trivial⟩
abbrev Tf108_1 : Type 1 := (α : Type) → Int → (Option α) → Option α
def f108_1g (vf129_1 : Tf129_1) (α : Type) (x1 : Int) (k1 : Option α) : Option α :=
 vf129_1 α x1
 (vf129_1 α x1
 (k1))
noncomputable def f108_1 (α : Type) (x1 : Int) (k1 : Option α) : Option α := f108_1g f129_1 α x1 k1
def pa108_1 : PT (List DV) := pA [pV false [(dCN .f64)], pV false [(dI .i64)]]
def Fn108_1 (v : Tf108_1) (α : Type) (k : List RV → Option α) : Int → Option α := fun x1 => v α x1 (ur108_1_0 k 0 0 27)
noncomputable def cm108_1g  : MCode := (.seq (.region r108_2 [] (tO [0, 1])) (.seq (.region r108_4 [] (tO [0, 1, 7, 8])) (.seq (.region r108_6 [] (tO [7, 8, 9, 10])) (.seq (.seq (.region r108_9 [] (tO [7, 8, 9, 10, 30])) (.cond (.tmp 30) (.seq (.region r108_12 [] (tO [4, 5, 6])) .ret) .skip)) (.seq (.region r108_14 [] (tO [4, 5, 6])) .ret)))))
noncomputable def cm108_1 : MCode := cm108_1g 
theorem gm108_1 : cm108_1.Good Try.prog E108_1 sh108 := ⟨trivial, ⟨trivial, ⟨trivial, ⟨⟨trivial, ⟨⟨trivial, trivial⟩, trivial⟩⟩, ⟨trivial, trivial⟩⟩⟩⟩⟩
theorem fm108_1g (vf129_1 : Tf129_1)  (α : Type) (k : List RV → Option α) : Fn108_1 (f108_1g vf129_1) α k = pa108_1.unc fun ds => fnM Try.prog (E108_1g vf129_1) sh108 (cm108_1g ) rs108 k ds := by kernel_rfl
theorem fm108_1 : ∀ (α : Type) (k : List RV → Option α), Fn108_1 f108_1 α k = pa108_1.unc fun ds => fnM Try.prog E108_1 sh108 cm108_1 rs108 k ds := fm108_1g f129_1
theorem io108_1 : InstOk Try.prog 108 nt108 ⟨pa108_1, Fn108_1 f108_1⟩ := inst_ok eo108_1 followsTry is108 ⟨⟨sh108, cm108_1, by kernel_rfl, gm108_1, fm108_1⟩⟩
def pr108_2_0 : PT (List RV) := pRs [pR false [rD (dI .i64)], pR false [rD (dI .i64)], pR false [rD (dI .i64)]]
def ur108_2_0 {β : Type} (g : List RV → β) : Int → Int → Int → β := pr108_2_0.unc g
def E108_2g (vf129_1 : Tf129_1) (vf129_0 : Tf129_0) : EnvK := EnvK.of [⟨129, nt129, [⟨pa129_1, Fn129_1 vf129_1⟩, ⟨pa129_0, Fn129_0 vf129_0⟩]⟩] noSeq
noncomputable def E108_2 : EnvK := E108_2g f129_1 f129_0
theorem eo108_2 : E108_2.Ok Try.prog := EnvK.of_ok noSeq_ok ⟨⟨io129_1, io129_0, trivial⟩, trivial⟩
abbrev Tf108_2 : Type 1 := (α : Type) → Nat → Int → (Option α) → Option α
def f108_2g (vf129_0 : Tf129_0) (vf129_1 : Tf129_1) (α : Type) (x1 : Nat) (x2 : Int) (k1 : Option α) : Option α :=
 vf129_1 α x2
 (vf129_0 α x1 x2
 (fun x3 x4 => k1))
noncomputable def f108_2 (α : Type) (x1 : Nat) (x2 : Int) (k1 : Option α) : Option α := f108_2g f129_0 f129_1 α x1 x2 k1
def pa108_2 : PT (List DV) := pA [pV false [(dCB .f64)], pV false [(dI .i64)]]
def Fn108_2 (v : Tf108_2) (α : Type) (k : List RV → Option α) : Nat → Int → Option α := fun x1 x2 => v α x1 x2 (ur108_2_0 k 0 0 27)
noncomputable def cm108_2g  : MCode := (.seq (.region r108_2 [] (tO [0, 1])) (.seq (.region r108_4 [] (tO [0, 1, 7, 8])) (.seq (.region r108_6 [] (tO [7, 8, 9, 10])) (.seq (.seq (.region r108_9 [] (tO [7, 8, 9, 10, 30])) (.cond (.tmp 30) (.seq (.region r108_12 [] (tO [4, 5, 6])) .ret) .skip)) (.seq (.region r108_14 [] (tO [4, 5, 6])) .ret)))))
noncomputable def cm108_2 : MCode := cm108_2g 
theorem gm108_2 : cm108_2.Good Try.prog E108_2 sh108 := ⟨trivial, ⟨trivial, ⟨trivial, ⟨⟨trivial, ⟨⟨trivial, trivial⟩, trivial⟩⟩, ⟨trivial, trivial⟩⟩⟩⟩⟩
theorem fm108_2g (vf129_1 : Tf129_1) (vf129_0 : Tf129_0)  (α : Type) (k : List RV → Option α) : Fn108_2 (f108_2g vf129_0 vf129_1) α k = pa108_2.unc fun ds => fnM Try.prog (E108_2g vf129_1 vf129_0) sh108 (cm108_2g ) rs108 k ds := by kernel_rfl
theorem fm108_2 : ∀ (α : Type) (k : List RV → Option α), Fn108_2 f108_2 α k = pa108_2.unc fun ds => fnM Try.prog E108_2 sh108 cm108_2 rs108 k ds := fm108_2g f129_1 f129_0
theorem io108_2 : InstOk Try.prog 108 nt108 ⟨pa108_2, Fn108_2 f108_2⟩ := inst_ok eo108_2 followsTry is108 ⟨⟨sh108, cm108_2, by kernel_rfl, gm108_2, fm108_2⟩⟩
def pr108_3_0 : PT (List RV) := pRs [pR false [rD (dI .i64)], pR false [rD (dI .i64)], pR false [rD (dI .i64)]]
def ur108_3_0 {β : Type} (g : List RV → β) : Int → Int → Int → β := pr108_3_0.unc g
def E108_3g (vf129_0 : Tf129_0) (vf129_1 : Tf129_1) : EnvK := EnvK.of [⟨129, nt129, [⟨pa129_0, Fn129_0 vf129_0⟩, ⟨pa129_1, Fn129_1 vf129_1⟩]⟩] noSeq
noncomputable def E108_3 : EnvK := E108_3g f129_0 f129_1
theorem eo108_3 : E108_3.Ok Try.prog := EnvK.of_ok noSeq_ok ⟨⟨io129_0, io129_1, trivial⟩, trivial⟩
abbrev Tf108_3 : Type 1 := (α : Type) → Nat → Int → (Option α) → Option α
def f108_3g (vf129_0 : Tf129_0) (vf129_1 : Tf129_1) (α : Type) (x1 : Nat) (x2 : Int) (k1 : Option α) : Option α :=
 vf129_0 α x1 x2
 (fun x3 x4 => vf129_1 α x2
 (cK (x4 == 27)
 (k1)
 (k1)))
noncomputable def f108_3 (α : Type) (x1 : Nat) (x2 : Int) (k1 : Option α) : Option α := f108_3g f129_0 f129_1 α x1 x2 k1
def pa108_3 : PT (List DV) := pA [pV false [(dCA .f64)], pV false [(dI .i64)]]
def Fn108_3 (v : Tf108_3) (α : Type) (k : List RV → Option α) : Nat → Int → Option α := fun x1 x2 => v α x1 x2 (ur108_3_0 k 0 0 27)
noncomputable def cm108_3g  : MCode := (.seq (.region r108_2 [] (tO [0, 1])) (.seq (.region r108_4 [] (tO [0, 1, 7, 8])) (.seq (.region r108_6 [] (tO [7, 8, 9, 10])) (.seq (.seq (.region r108_9 [] (tO [7, 8, 9, 10, 30])) (.cond (.tmp 30) (.seq (.region r108_12 [] (tO [4, 5, 6])) .ret) .skip)) (.seq (.region r108_14 [] (tO [4, 5, 6])) .ret)))))
noncomputable def cm108_3 : MCode := cm108_3g 
theorem gm108_3 : cm108_3.Good Try.prog E108_3 sh108 := ⟨trivial, ⟨trivial, ⟨trivial, ⟨⟨trivial, ⟨⟨trivial, trivial⟩, trivial⟩⟩, ⟨trivial, trivial⟩⟩⟩⟩⟩
theorem fm108_3g (vf129_0 : Tf129_0) (vf129_1 : Tf129_1)  (α : Type) (k : List RV → Option α) : Fn108_3 (f108_3g vf129_0 vf129_1) α k = pa108_3.unc fun ds => fnM Try.prog (E108_3g vf129_0 vf129_1) sh108 (cm108_3g ) rs108 k ds := by kernel_rfl
theorem fm108_3 : ∀ (α : Type) (k : List RV → Option α), Fn108_3 f108_3 α k = pa108_3.unc fun ds => fnM Try.prog E108_3 sh108 cm108_3 rs108 k ds := fm108_3g f129_0 f129_1
theorem io108_3 : InstOk Try.prog 108 nt108 ⟨pa108_3, Fn108_3 f108_3⟩ := inst_ok eo108_3 followsTry is108 ⟨⟨sh108, cm108_3, by kernel_rfl, gm108_3, fm108_3⟩⟩
abbrev nt55 : Nat := 47
def sh55 : List (Nat × List Sh) := [(23, [.cpx .f32]), (24, [.cpx .f32]), (35, [.int .i64, .int .i64])]
def r55_2 : List AOper := [oO 4 (.mv (.const (.complex Go.FloatKind.f64 0 0))), oO 5 (.mv (kI 0))]
def r55_6 : List AOper := [oM 12 0, oO 13 (.len (.tmp 12)), oO 14 (.bin .eql 3 (.tmp 13) (kI 0)), oM 11 14]
def r55_9 : List AOper := [oO 4 (.mv (.const (.complex Go.FloatKind.f64 0 0))), oO 5 (.mv (kI 12))]
def r55_11 : List AOper := [oM 16 0, oO 17 (.len (.tmp 16)), oO 18 (.bin .gtr 3 (.tmp 17) (kI 64)), oM 15 18]
def r55_14 : List AOper := [oO 4 (.mv (.const (.complex Go.FloatKind.f64 0 0))), oO 5 (.mv (kI 8))]
def r55_16 : List AOper := [oO 6 (.mv (.const (.slice none 0 0)))]
def r55_19 : List AOper := [oM 19 0, oO 20 (.len (.tmp 19)), oO 21 (.mv (kI 0))]
def td55_21 : Option Tidy := (some ⟨[1, 6, 19, 20, 21], true, [⟨false, 6, 0, 20006, 2⟩, ⟨false, 19, 0, 20019, 1⟩], []⟩)
def r55_23 : List AOper := [oO 22 (.bin .lss 3 (.tmp 21) (.tmp 20))]
def r55_29 : List AOper := [oO 23 (.iaddr 1 none (.tmp 19) (.tmp 21)), oO 24 (.load false 1 (.tmp 23)), oM 8 24]
def r55_31 : List AOper := [oM 26 8, oO 27 (.pure (oB (.convert 118 26 (.tmp 26)) 26)), oO 28 (.call 107 [(.tmp 27), (kI 4095)]), oM 25 28, oO 29 (.extract 0 (.tmp 25)), oO 30 (.extract 1 (.tmp 25)), oO 9 (.alloc [(cI 0), (cI 0)]), oD (.store 2 (.tmp 9) (.tmp 29)), oM 10 30]
def r55_34 : List AOper := [oM 31 10, oO 32 (.bin .neq 28 (.tmp 31) (kI 0))]
def r55_37 : List AOper := [oM 33 10, oO 4 (.mv (.const (.complex Go.FloatKind.f64 0 0))), oM 5 33]
def r55_38 : List AOper := [oM 34 6, oO 35 (.load true 2 (.tmp 9)), oO 36 (.bslice 2 1 [(.v (.int .i64 0)), (.v (.int .i64 0))] [(0, (.tmp 35))]), oO 37 (.append 2 16 (.tmp 34) (.tmp 36)), oM 6 37]
def r55_39 : List AOper := [oO 38 (.bin .add 3 (.tmp 21) (kI 1)), oM 21 38]
def r55_42 : List AOper := [oM 39 1, oO 40 (.call 109 [(.tmp 39), (kI 1000)]), oO 41 (.pure (oB (.unOp .not 4 (.tmp 40)) 4))]
def r55_45 : List AOper := [oO 4 (.mv (.const (.complex Go.FloatKind.f64 0 0))), oO 5 (.mv (kI 2))]
def r55_47 : List AOper := [oM 42 6, oM 43 1, oO 44 (.pure (oB (.unOp .neg 3 (.tmp 43)) 3)), oO 45 (.call 68 [(.tmp 42), (.tmp 44)]), oO 46 (.call 69 [(.tmp 45)]), oM 4 46, oO 5 (.mv (kI 0))]
def tr55 : List (Nat × Tidy) := [tT 0 [0, 1], tT 1 [0, 1, 11], tT 2 [4, 5], tT 3 [0, 1, 15], tT 4 [4, 5], tT 5 [0, 1, 6], tT 6 [1, 6, 19, 20, 21], tT 7 [1, 6, 19, 20, 21, 22], tT 8 [1, 6, 8, 19, 20, 21], tT 9 [1, 6, 9, 10, 19, 20, 21], tT 10 [1, 6, 9, 10, 19, 20, 21, 32], tT 11 [4, 5], tT 12 [1, 6, 19, 20, 21], tT 13 [1, 6, 19, 20, 21], tT 14 [1, 6, 41], tT 15 [4, 5], tT 16 [4, 5]]
def tl55 : List (Nat × Tidy) := [(7, ⟨[1, 6, 19, 20, 21], true, [⟨false, 6, 0, 20006, 2⟩, ⟨false, 19, 0, 20019, 1⟩], []⟩)]
def rs55 : List AResV := [.tmp 4, .tmp 5]
def p55_0_0 : PT St := pS [sl 1 (aV false [(cD (dI .i64))]), sl 6 (aV false [(cRef 20006)]), sl 8 (aV false [(cD (dX .f32))]), sl 19 (aV false [(cD dL)]), sl 20 (aV false [(cD (dI .i64))]), sl 21 (aV false [(cD (dI .i64))])] [eOwn 20006 2]
def u55_0_0 {β : Type} (g : St → β) : Int → Nat → Nat → Rows → Int → Int → Rows → β := p55_0_0.unc g
def p55_0_1 : PT St := pS [sl 1 (aV false [(cD (dI .i64))]), sl 6 (aV false [(cRef 20006)]), sl 9 (aV false [(cPtr 9 0)]), sl 10 (aV false [(cD (dI .i64))]), sl 19 (aV false [(cD dL)]), sl 20 (aV false [(cD (dI .i64))]), sl 21 (aV false [(cD (dI .i64))])] [eOwn 20006 2, eBox 9 [(cD (dI .i64)), (cD (dI .i64))]]
def u55_0_1 {β : Type} (g : St → β) : Int → Int → Rows → Int → Int → Rows → Int → Int → β := p55_0_1.unc g
def p55_0_2 : PT St := pS [sl 1 (aV false [(cD (dI .i64))]), sl 6 (aV false [(cRef 20006)]), sl 19 (aV false [(cD dL)]), sl 20 (aV false [(cD (dI .i64))]), sl 21 (aV false [(cD (dI .i64))])] [eOwn 20006 2]
def u55_0_2 {β : Type} (g : St → β) : Int → Rows → Int → Int → Rows → β := p55_0_2.unc g
def p55_0_3 : PT St := pS [sl 4 (aV false [(cD (dX .f64))]), sl 5 (aV false [(cD (dI .i64))])] []
def u55_0_3 {β : Type} (g : St → β) : Nat → Nat → Int → β := p55_0_3.unc g
def p55_0_4 : PT St := pS [sl 1 (aV false [(cD (dI .i64))]), sl 6 (aV false [(cRef 20006)]), sl 19 (aV false [(cD dL)]), sl 20 (aV false [(cD (dI .i64))]), sl 21 (aV false [(cD (dI .i64))]), sl 22 (aV false [(cD dB)])] [eOwn 20006 2]
def u55_0_4 {β : Type} (g : St → β) : Int → Rows → Int → Int → Bool → Rows → β := p55_0_4.unc g
def pr55_0_0 : PT (List RV) := pRs [pR false [rD (dX .f64)], pR false [rD (dI .i64)]]
def ur55_0_0 {β : Type} (g : List RV → β) : Nat → Nat → Int → β := pr55_0_0.unc g
def E55_0g (vf107_1 : Tf107_1) (vf107_2 : Tf107_2) (vf107_3 : Tf107_3) (vf107_0 : Tf107_0) (vf109_0 : Tf109_0) (vf68_0 : Tf68_0) (vf69_0 : Tf69_0) : EnvK := EnvK.of [⟨107, nt107, [⟨pa107_1, Fn107_1 vf107_1⟩, ⟨pa107_2, Fn107_2 vf107_2⟩, ⟨pa107_3, Fn107_3 vf107_3⟩, ⟨pa107_0, Fn107_0 vf107_0⟩]⟩, ⟨109, nt109, [⟨pa109_0, Fn109_0 vf109_0⟩]⟩, ⟨68, nt68, [⟨pa68_0, Fn68_0 vf68_0⟩]⟩, ⟨69, nt69, [⟨pa69_0, Fn69_0 vf69_0⟩]⟩] noSeq
noncomputable def E55_0 : EnvK := E55_0g f107_1 f107_2 f107_3 f107_0 f109_0 f68_0 f69_0
theorem eo55_0 : E55_0.Ok Try.prog := EnvK.of_ok noSeq_ok ⟨⟨io107_1, io107_2, io107_3, io107_0, trivial⟩, ⟨io109_0, trivial⟩, ⟨io68_0, trivial⟩, ⟨io69_0, trivial⟩, trivial⟩
noncomputable def c55_0_30g  : MCode := (.region r55_31 [] (tO [1, 6, 9, 10, 19, 20, 21]))
noncomputable def c55_0_30 : MCode := c55_0_30g 
theorem g55_0_30 : c55_0_30.Good Try.prog E55_0 sh55 := trivial
--CODE 30 0
abbrev TJ55_0_0 : Type 1 := (α : Type) → Nat → Nat → (Int → Int → Int → Option α) → Option α
def J55_0_0g (vf107_0 : Tf107_0) (vf107_1 : Tf107_1) (vf107_2 : Tf107_2) (vf107_3 : Tf107_3) (α : Type) (x12 x13 : Nat) (k1 : Int → Int → Int → Option α) : Option α :=
 cK (isNaNb .f32 x12)
 (cK (isNaNb .f32 x13)
 (vf107_1 α 4095
 (k1 27 0 0))
 (flK (f2f .f32 x13 .f64)
 (fun x19 => vf107_2 α x19 4095
 (fun x20 => k1 x20 0 0))))
 (flK (f2f .f32 x12 .f64)
 (fun x21 => cK (isNaNb .f32 x13)
 (vf107_3 α x21 4095
 (fun x22 => k1 x22 0 0))
 (flK (f2f .f32 x13 .f64)
 (fun x23 => vf107_0 α x21 x23 4095
 (fun x24 x25 x26 => k1 x26 x24 x25)))))
noncomputable def J55_0_0 (α : Type) (x12 x13 : Nat) (k1 : Int → Int → Int → Option α) : Option α := J55_0_0g f107_0 f107_1 f107_2 f107_3 α x12 x13 k1
def F55_0_0 (v : TJ55_0_0) (α : Type) (K : Exit → St → Option α) : Int → Nat → Nat → Rows → Int → Int → Rows → Option α := fun x11 x12 x13 x14 x15 x16 x17 => v α x12 x13 (fun (y1 : Int) (y2 : Int) (y3 : Int) => u55_0_1 (K .normal) x11 y1 x14 x15 x16 x17 y2 y3) 
theorem m55_0_0g (vf107_1 : Tf107_1) (vf107_2 : Tf107_2) (vf107_3 : Tf107_3) (vf107_0 : Tf107_0) (vf109_0 : Tf109_0) (vf68_0 : Tf68_0) (vf69_0 : Tf69_0)  (α : Type) (K : Exit → St → Option α) : F55_0_0 (J55_0_0g vf107_0 vf107_1 vf107_2 vf107_3) α K = p55_0_0.unc fun σ => runM Try.prog (E55_0g vf107_1 vf107_2 vf107_3 vf107_0 vf109_0 vf68_0 vf69_0) sh55 (c55_0_30g ) K σ := by kernel_rfl
theorem m55_0_0 : ∀ (α : Type) (K : Exit → St → Option α), F55_0_0 J55_0_0 α K = p55_0_0.unc fun σ => runM Try.prog E55_0 sh55 c55_0_30 K σ := m55_0_0g f107_1 f107_2 f107_3 f107_0 f109_0 f68_0 f69_0
noncomputable def c55_0_21g (vJ55_0_0 : TJ55_0_0) : MCode := (.seq (.region r55_23 [] (tO [1, 6, 19, 20, 21, 22])) (.seq (.cond (.tmp 22) .skip (.exit 1)) (.seq (.block 2 (.seq (.region r55_29 [] (tO [1, 6, 8, 19, 20, 21])) (.seq (.mark [⟨p55_0_0, F55_0_0 vJ55_0_0⟩] c55_0_30) (.seq (.seq (.region r55_34 [] (tO [1, 6, 9, 10, 19, 20, 21, 32])) (.cond (.tmp 32) (.seq (.region r55_37 [] (tO [4, 5])) .ret) .skip)) (.region r55_38 [] (tO [1, 6, 19, 20, 21])))))) (.region r55_39 [] (tO [1, 6, 19, 20, 21])))))
noncomputable def c55_0_21 : MCode := c55_0_21g J55_0_0
theorem g55_0_21 : c55_0_21.Good Try.prog E55_0 sh55 := ⟨trivial, ⟨⟨trivial, trivial⟩, ⟨⟨trivial, ⟨⟨g55_0_30, m55_0_0, trivial⟩, ⟨⟨trivial, ⟨⟨trivial, trivial⟩, trivial⟩⟩, trivial⟩⟩⟩, trivial⟩⟩⟩
--CODE 21 0
def S55_0_1g (vJ55_0_0 : TJ55_0_0) (α : Type) (x4 : Rows) (x5 x6 : Int) (x7 : Rows) (kn : Int → Rows → Option α) (k1 : Int → Option α) (k2 : Int → Bool → Rows → Option α) : Option α :=
 cK (decide (x6 < x5))
 (rowK x4 x6 [.cpx .f32]
 (fun x9 x10 => vJ55_0_0 α x9 x10
 (fun x27 x28 x29 => cK (x27 != 0)
 (k1 x27)
 (gK (apOk 2 16 x7 [[DC.v (.int .i64 x28), DC.v (.int .i64 x29)]]) (kn (w64 (x6 + 1)) (x7 ++ [[DC.v (.int .i64 x28), DC.v (.int .i64 x29)]]))))))
 (k2 x6 (decide (x6 < x5)) x7)
noncomputable def S55_0_1 (α : Type) (x4 : Rows) (x5 x6 : Int) (x7 : Rows) (kn : Int → Rows → Option α) (k1 : Int → Option α) (k2 : Int → Bool → Rows → Option α) : Option α := S55_0_1g J55_0_0 α x4 x5 x6 x7 kn k1 k2
noncomputable def R55_0_1 (α : Type) (x4 : Rows) (x5 : Int) (k1 : Int → Option α) (k2 : Int → Bool → Rows → Option α) : Nat → Int → Rows → Option α
 | 0, _, _ => none
 | n + 1, x6, x7 => S55_0_1 α x4 x5 x6 x7 (R55_0_1 α x4 x5 k1 k2 n) k1 k2
noncomputable def L55_0_1 (α : Type) (x4 : Rows) (x5 : Int) (k1 : Int → Option α) (k2 : Int → Bool → Rows → Option α) (x6 : Int) (x7 : Rows) : Option α := R55_0_1 α x4 x5 k1 k2 fuel x6 x7
abbrev TL55_0_1 : Type 1 := (α : Type) → Rows → Int → (Int → Option α) → (Int → Bool → Rows → Option α) → Int → Rows → Option α
def F55_0_1 (v : TL55_0_1) (α : Type) (K : Exit → St → Option α) : Int → Rows → Int → Int → Rows → Option α := fun x3 x4 x5 x6 x7 => v α x4 x5 (fun (y1 : Int) => u55_0_3 (K .ret) 0 0 y1) (fun (y1 : Int) (y2 : Bool) (y3 : Rows) => u55_0_4 (K (.exit 1)) x3 x4 x5 y1 y2 y3) x6 x7
theorem r55_0_1g (vf107_1 : Tf107_1) (vf107_2 : Tf107_2) (vf107_3 : Tf107_3) (vf107_0 : Tf107_0) (vf109_0 : Tf109_0) (vf68_0 : Tf68_0) (vf69_0 : Tf69_0) (vJ55_0_0 : TJ55_0_0) (α : Type) (K : Exit → St → Option α) (Kn : St → Option α) (x3 : Int) (x4 : Rows) (x5 x6 : Int) (x7 : Rows) : u55_0_2 (fun σ => runM Try.prog (E55_0g vf107_1 vf107_2 vf107_3 vf107_0 vf109_0 vf68_0 vf69_0) sh55 (c55_0_21g vJ55_0_0) (thenK (fun σ => tidyK td55_21 σ Kn) K) σ) x3 x4 x5 x6 x7 = S55_0_1g vJ55_0_0 α x4 x5 x6 x7 (fun x6 x7 => u55_0_2 Kn x3 x4 x5 x6 x7) (fun (y1 : Int) => u55_0_3 (K .ret) 0 0 y1) (fun (y1 : Int) (y2 : Bool) (y3 : Rows) => u55_0_4 (K (.exit 1)) x3 x4 x5 y1 y2 y3) := by kernel_rfl
theorem r55_0_1 (α : Type) (K : Exit → St → Option α) (Kn : St → Option α) (x3 : Int) (x4 : Rows) (x5 x6 : Int) (x7 : Rows) : u55_0_2 (fun σ => runM Try.prog E55_0 sh55 c55_0_21 (thenK (fun σ => tidyK td55_21 σ Kn) K) σ) x3 x4 x5 x6 x7 = S55_0_1 α x4 x5 x6 x7 (fun x6 x7 => u55_0_2 Kn x3 x4 x5 x6 x7) (fun (y1 : Int) => u55_0_3 (K .ret) 0 0 y1) (fun (y1 : Int) (y2 : Bool) (y3 : Rows) => u55_0_4 (K (.exit 1)) x3 x4 x5 y1 y2 y3) := r55_0_1g f107_1 f107_2 f107_3 f107_0 f109_0 f68_0 f69_0 J55_0_0 α K Kn x3 x4 x5 x6 x7
theorem t55_0_1 (α : Type) (K : Exit → St → Option α) : ∀ (n : Nat) (x3 : Int) (x4 : Rows) (x5 x6 : Int) (x7 : Rows), R55_0_1 α x4 x5 (fun (y1 : Int) => u55_0_3 (K .ret) 0 0 y1) (fun (y1 : Int) (y2 : Bool) (y3 : Rows) => u55_0_4 (K (.exit 1)) x3 x4 x5 y1 y2 y3) n x6 x7 = u55_0_2 (loopT (runM Try.prog E55_0 sh55 c55_0_21) td55_21 K n) x3 x4 x5 x6 x7 := by
 intro n
 induction n with
 | zero => intros; rfl
 | succ n ih => intro x3 x4 x5 x6 x7; exact (congrArg (fun kn => S55_0_1 α x4 x5 x6 x7 kn (fun (y1 : Int) => u55_0_3 (K .ret) 0 0 y1) (fun (y1 : Int) (y2 : Bool) (y3 : Rows) => u55_0_4 (K (.exit 1)) x3 x4 x5 y1 y2 y3)) (funext fun x6 => funext fun x7 => ih x3 x4 x5 x6 x7)).trans (r55_0_1 α K (loopT (runM Try.prog E55_0 sh55 c55_0_21) td55_21 K n) x3 x4 x5 x6 x7).symm
theorem m55_0_1 : ∀ (α : Type) (K : Exit → St → Option α), F55_0_1 L55_0_1 α K = p55_0_2.unc fun σ => loopT (runM Try.prog E55_0 sh55 c55_0_21) td55_21 K fuel σ := fun α K => funext fun x3 => funext fun x4 => funext fun x5 => funext fun x6 => funext fun x7 => t55_0_1 α K fuel x3 x4 x5 x6 x7
abbrev Tf55_0 : Type 1 := (α : Type) → Rows → Int → (Nat → Nat → Int → Option α) → Option α
def f55_0g (vL55_0_1 : TL55_0_1) (vf109_0 : Tf109_0) (vf68_0 : Tf68_0) (vf69_0 : Tf69_0) (α : Type) (x1 : Rows) (x2 : Int) (k1 : Nat → Nat → Int → Option α) : Option α :=
 cK (((List.length x1 : Nat) : Int) == 0)
 (k1 0 0 12)
 (cK (decide (64 < ((List.length x1 : Nat) : Int)))
 (k1 0 0 8)
 (vL55_0_1 α x1 ((List.length x1 : Nat) : Int)
 (fun x31 => k1 0 0 x31)
 (fun x32 x33 x34 => vf109_0 α x2 1000
 (fun x36 => cK (!x36)
 (k1 0 0 2)
 (vf68_0 α x34 (w64 (0 - x2))
 (fun x37 x38 => vf69_0 α x37 x38
 (fun x39 x40 => k1 x39 x40 0))))) 0 ([] : Rows)))
noncomputable def f55_0 (α : Type) (x1 : Rows) (x2 : Int) (k1 : Nat → Nat → Int → Option α) : Option α := f55_0g L55_0_1 f109_0 f68_0 f69_0 α x1 x2 k1
def pa55_0 : PT (List DV) := pA [pV false [dL], pV false [(dI .i64)]]
def Fn55_0 (v : Tf55_0) (α : Type) (k : List RV → Option α) : Rows → Int → Option α := fun x1 x2 => v α x1 x2 (fun (y1 : Nat) (y2 : Nat) (y3 : Int) => ur55_0_0 k y1 y2 y3)
noncomputable def cm55_0g (vL55_0_1 : TL55_0_1) : MCode := (.seq (.region r55_2 [] (tO [0, 1])) (.seq (.block 0 (.seq (.region r55_6 [] (tO [0, 1, 11])) (.cond (.tmp 11) (.seq (.region r55_9 [] (tO [4, 5])) .ret) (.seq (.region r55_11 [] (tO [0, 1, 15])) (.cond (.tmp 15) (.seq (.region r55_14 [] (tO [4, 5])) .ret) .skip))))) (.seq (.region r55_16 [] (tO [0, 1, 6])) (.seq (.seq (.region r55_19 [] (tO [1, 6, 19, 20, 21])) (.block 1 (.loop td55_21 [⟨p55_0_2, F55_0_1 vL55_0_1⟩] c55_0_21))) (.seq (.seq (.region r55_42 [] (tO [1, 6, 41])) (.cond (.tmp 41) (.seq (.region r55_45 [] (tO [4, 5])) .ret) .skip)) (.seq (.region r55_47 [] (tO [4, 5])) .ret))))))
noncomputable def cm55_0 : MCode := cm55_0g L55_0_1
theorem gm55_0 : cm55_0.Good Try.prog E55_0 sh55 := ⟨trivial, ⟨⟨trivial, ⟨⟨trivial, trivial⟩, ⟨trivial, ⟨⟨trivial, trivial⟩, trivial⟩⟩⟩⟩, ⟨trivial, ⟨⟨trivial, ⟨g55_0_21, m55_0_1, trivial⟩⟩, ⟨⟨trivial, ⟨⟨trivial, trivial⟩, trivial⟩⟩, ⟨trivial, trivial⟩⟩⟩⟩⟩⟩
theorem fm55_0g (vf107_1 : Tf107_1) (vf107_2 : Tf107_2) (vf107_3 : Tf107_3) (vf107_0 : Tf107_0) (vf109_0 : Tf109_0) (vf68_0 : Tf68_0) (vf69_0 : Tf69_0) (vL55_0_1 : TL55_0_1) (α : Type) (k : List RV → Option α) : Fn55_0 (f55_0g vL55_0_1 vf109_0 vf68_0 vf69_0) α k = pa55_0.unc fun ds => fnM Try.prog (E55_0g vf107_1 vf107_2 vf107_3 vf107_0 vf109_0 vf68_0 vf69_0) sh55 (cm55_0g vL55_0_1) rs55 k ds := by kernel_rfl
theorem fm55_0 : ∀ (α : Type) (k : List RV → Option α), Fn55_0 f55_0 α k = pa55_0.unc fun ds => fnM Try.prog E55_0 sh55 cm55_0 rs55 k ds := fm55_0g f107_1 f107_2 f107_3 f107_0 f109_0 f68_0 f69_0 L55_0_1
theorem is55 : FnIs Try.prog 55 nt55 tr55 tl55 cm55_0.erase rs55 := ⟨Try.f55, Try.func55, rfl, by kernel_rfl, by kernel_rfl, by kernel_rfl⟩
theorem io55_0 : InstOk Try.prog 55 nt55 ⟨pa55_0, Fn55_0 f55_0⟩ := inst_ok eo55_0 followsTry is55 ⟨⟨sh55, cm55_0, by kernel_rfl, gm55_0, fm55_0⟩⟩
abbrev nt18 : Nat := 56
def sh18 : List (Nat × List Sh) := [(7, [.sl]), (18, [.int .i64]), (23, [.int .i64]), (33, [.sl]), (35, [.flt .f32]), (36, [.flt .f32]), (42, [.sl]), (44, [.flt .f32]), (45, [.flt .f32]), (49, [.sl]), (51, [.flt .f32]), (52, [.flt .f32])]
def r18_2 : List AOper := [oO 1 (.box (.tmp 0)), oO 2 (.mv (kI 0)), oO 3 (.mv (kI 0))]
def r18_4 : List AOper := [oO 6 (.faddr 0 (.tmp 1)), oO 7 (.load false 1 (.tmp 6)), oO 8 (.len (.tmp 7)), oM 4 8]
def r18_7 : List AOper := [oM 9 4, oO 10 (.call 29 [(.tmp 9), (kI 4), (kI 64)]), oO 11 (.pure (oB (.unOp .not 4 (.tmp 10)) 4)), oM 12 11, oG 13 (.mv (.tmp 4)) 12 false, oG 14 (.bin .rem 3 (.tmp 13) (kI 4)) 12 false, oG 15 (.bin .neq 3 (.tmp 14) (kI 0)) 12 false, oO 16 (.pick (.tmp 12) (.const (.bool true)) (.tmp 15))]
def r18_10 : List AOper := [oO 2 (.mv (kI 0)), oO 3 (.mv (kI 12))]
def r18_13 : List AOper := [oO 17 (.faddr 1 (.tmp 1)), oO 18 (.load false 1 (.tmp 17)), oO 19 (.call 70 [(.tmp 18)]), oO 20 (.pure (oB (.unOp .not 4 (.tmp 19)) 4)), oM 21 20, oG 22 (.faddr 2 (.tmp 1)) 21 false, oG 23 (.load false 1 (.tmp 22)) 21 false, oG 24 (.call 29 [(.tmp 23), (kI 1), (kI 65536)]) 21 false, oG 25 (.pure (oB (.unOp .not 4 (.tmp 24)) 4)) 21 false, oO 26 (.pick (.tmp 21) (.const (.bool true)) (.tmp 25))]
def r18_16 : List AOper := [oO 2 (.mv (kI 0)), oO 3 (.mv (kI 2))]
def r18_19 : List AOper := [oO 5 (.mv (kI 0))]
def td18_21 : Option Tidy := (some ⟨[1, 4, 5], true, [⟨true, 1, 0, 30100, 1⟩], []⟩)
def r18_24 : List AOper := [oM 27 5, oM 28 4, oO 29 (.bin .lss 3 (.tmp 27) (.tmp 28))]
def r18_30 : List AOper := [oO 32 (.faddr 0 (.tmp 1)), oO 33 (.load false 1 (.tmp 32)), oM 34 5, oO 35 (.iaddr 1 none (.tmp 33) (.tmp 34)), oO 36 (.load false 1 (.tmp 35)), oO 37 (.pure (oB (.convert 74 112 (.tmp 36)) 112)), oO 38 (.call 71 [(.tmp 37)]), oO 39 (.pure (oB (.unOp .not 4 (.tmp 38)) 4))]
def r18_33 : List AOper := [oM 40 5, oM 2 40, oO 3 (.mv (kI 27))]
def r18_35 : List AOper := [oO 41 (.faddr 0 (.tmp 1)), oO 42 (.load false 1 (.tmp 41)), oM 43 5, oO 44 (.iaddr 1 none (.tmp 42) (.tmp 43)), oO 45 (.load false 1 (.tmp 44)), oO 46 (.bin .lss 74 (.tmp 45) (.const (.float Go.FloatKind.f32 0))), oM 47 46, oG 48 (.faddr 0 (.tmp 1)) 47 false, oG 49 (.load false 1 (.tmp 48)) 47 false, oG 50 (.mv (.tmp 5)) 47 false, oG 51 (.iaddr 1 none (.tmp 49) (.tmp 50)) 47 false, oG 52 (.load false 1 (.tmp 51)) 47 false, oG 53 (.bin .gtr 74 (.tmp 52) (.const (.float Go.FloatKind.f32 1199570688))) 47 false, oO 54 (.pick (.tmp 47) (.const (.bool true)) (.tmp 53))]
def r18_38 : List AOper := [oM 55 5, oM 2 55, oO 3 (.mv (kI 2))]
def r18_39 : List AOper := [oM 30 5, oO 31 (.bin .add 3 (.tmp 30) (kI 1)), oM 5 31]
def r18_41 : List AOper := [oO 2 (.mv (kI 0)), oO 3 (.mv (kI 0))]
def tr18 : List (Nat × Tidy) := [tT 0 [1], tT 1 [1, 4], tT 2 [1, 4, 16], tT 3 [2, 3], tT 4 [1, 4, 26], tT 5 [2, 3], tT 6 [1, 4, 5], tT 7 [1, 4, 5, 29], tT 9 [1, 4, 5, 39], tT 10 [2, 3], tT 11 [1, 4, 5, 54], tT 12 [2, 3], tT 8 [1, 4, 5], tT 13 [2, 3]]
def tl18 : List (Nat × Tidy) := [(7, ⟨[1, 4, 5], true, [⟨true, 1, 0, 30100, 1⟩], []⟩)]
def rs18 : List AResV := [.tmp 2, .tmp 3]
def p18_0_0 : PT St := pS [sl 1 (aV false [(cPtr 1 0)]), sl 4 (aV false [(cD (dI .i64))]), sl 5 (aV false [(cD (dI .i64))])] [eBox 1 [(cD dL), (cD (dI .i64)), (cD (dI .i64))]]
def u18_0_0 {β : Type} (g : St → β) : Int → Int → Rows → Int → Int → β := p18_0_0.unc g
def p18_0_1 : PT St := pS [sl 2 (aV false [(cD (dI .i64))]), sl 3 (aV false [(cD (dI .i64))])] []
def u18_0_1 {β : Type} (g : St → β) : Int → Int → β := p18_0_1.unc g
def p18_0_2 : PT St := pS [sl 1 (aV false [(cPtr 1 0)]), sl 4 (aV false [(cD (dI .i64))]), sl 5 (aV false [(cD (dI .i64))]), sl 29 (aV false [(cD dB)])] [eBox 1 [(cD dL), (cD (dI .i64)), (cD (dI .i64))]]
def u18_0_2 {β : Type} (g : St → β) : Int → Int → Bool → Rows → Int → Int → β := p18_0_2.unc g
def pr18_0_0 : PT (List RV) := pRs [pR false [rD (dI .i64)], pR false [rD (dI .i64)]]
def ur18_0_0 {β : Type} (g : List RV → β) : Int → Int → β := pr18_0_0.unc g
def E18_0g (vf29_0 : Tf29_0) (vf70_0 : Tf70_0) (vf71_0 : Tf71_0) (vf71_1 : Tf71_1) : EnvK := EnvK.of [⟨29, nt29, [⟨pa29_0, Fn29_0 vf29_0⟩]⟩, ⟨70, nt70, [⟨pa70_0, Fn70_0 vf70_0⟩]⟩, ⟨71, nt71, [⟨pa71_0, Fn71_0 vf71_0⟩, ⟨pa71_1, Fn71_1 vf71_1⟩]⟩] noSeq
noncomputable def E18_0 : EnvK := E18_0g f29_0 f70_0 f71_0 f71_1
theorem eo18_0 : E18_0.Ok Try.prog := EnvK.of_ok noSeq_ok ⟨⟨io29_0, trivial⟩, ⟨io70_0, trivial⟩, ⟨io71_0, io71_1, trivial⟩, trivial⟩
noncomputable def c18_0_21g  : MCode := (.seq (.seq (.region r18_24 [] (tO [1, 4, 5, 29])) (.cond (.tmp 29) .skip (.exit 0))) (.seq (.block 1 (.seq (.seq (.region r18_30 [] (tO [1, 4, 5, 39])) (.cond (.tmp 39) (.seq (.region r18_33 [] (tO [2, 3])) .ret) .skip)) (.seq (.region r18_35 [] (tO [1, 4, 5, 54])) (.cond (.tmp 54) (.seq (.region r18_38 [] (tO [2, 3])) .ret) .skip)))) (.region r18_39 [] (tO [1, 4, 5]))))
noncomputable def c18_0_21 : MCode := c18_0_21g 
theorem g18_0_21 : c18_0_21.Good Try.prog E18_0 sh18 := ⟨⟨trivial, ⟨trivial, trivial⟩⟩, ⟨⟨⟨trivial, ⟨⟨trivial, trivial⟩, trivial⟩⟩, ⟨trivial, ⟨⟨trivial, trivial⟩, trivial⟩⟩⟩, trivial⟩⟩
--CODE 21 0
def S18_0_0g (vf71_0 : Tf71_0) (vf71_1 : Tf71_1) (α : Type) (x7 : Int) (x9 : Rows) (x8 : Int) (kn : Int → Option α) (k1 : Int → Int → Option α) (k2 : Int → Bool → Option α) : Option α :=
 cK (decide (x8 < x7))
 (rowK x9 x8 [.flt .f32]
 (fun x13 => cK (isNaNb .f32 x13)
 (vf71_0 α 
 (k1 x8 27))
 (flK (f2f .f32 x13 .f64)
 (fun x14 => vf71_1 α x14
 (fun x15 => cK (!x15)
 (k1 x8 27)
 (rowK x9 x8 [.flt .f32]
 (fun x16 => cK ((FloatKind.format .f32).order x16 0 == some Ordering.lt)
 (k1 x8 2)
 (rowK x9 x8 [.flt .f32]
 (fun x17 => cK ((FloatKind.format .f32).order x17 1199570688 == some Ordering.gt)
 (k1 x8 2)
 (kn (w64 (x8 + 1))))))))))))
 (k2 x8 (decide (x8 < x7)))
noncomputable def S18_0_0 (α : Type) (x7 : Int) (x9 : Rows) (x8 : Int) (kn : Int → Option α) (k1 : Int → Int → Option α) (k2 : Int → Bool → Option α) : Option α := S18_0_0g f71_0 f71_1 α x7 x9 x8 kn k1 k2
noncomputable def R18_0_0 (α : Type) (x7 : Int) (x9 : Rows) (k1 : Int → Int → Option α) (k2 : Int → Bool → Option α) : Nat → Int → Option α
 | 0, _ => none
 | n + 1, x8 => S18_0_0 α x7 x9 x8 (R18_0_0 α x7 x9 k1 k2 n) k1 k2
noncomputable def L18_0_0 (α : Type) (x7 : Int) (x9 : Rows) (k1 : Int → Int → Option α) (k2 : Int → Bool → Option α) (x8 : Int) : Option α := R18_0_0 α x7 x9 k1 k2 fuel x8
abbrev TL18_0_0 : Type 1 := (α : Type) → Int → Rows → (Int → Int → Option α) → (Int → Bool → Option α) → Int → Option α
def F18_0_0 (v : TL18_0_0) (α : Type) (K : Exit → St → Option α) : Int → Int → Rows → Int → Int → Option α := fun x7 x8 x9 x10 x11 => v α x7 x9 (fun (y1 : Int) (y2 : Int) => u18_0_1 (K .ret) y1 y2) (fun (y1 : Int) (y2 : Bool) => u18_0_2 (K (.exit 0)) x7 y1 y2 x9 x10 x11) x8
theorem r18_0_0g (vf29_0 : Tf29_0) (vf70_0 : Tf70_0) (vf71_0 : Tf71_0) (vf71_1 : Tf71_1)  (α : Type) (K : Exit → St → Option α) (Kn : St → Option α) (x7 x8 : Int) (x9 : Rows) (x10 x11 : Int) : u18_0_0 (fun σ => runM Try.prog (E18_0g vf29_0 vf70_0 vf71_0 vf71_1) sh18 (c18_0_21g ) (thenK (fun σ => tidyK td18_21 σ Kn) K) σ) x7 x8 x9 x10 x11 = S18_0_0g vf71_0 vf71_1 α x7 x9 x8 (fun x8 => u18_0_0 Kn x7 x8 x9 x10 x11) (fun (y1 : Int) (y2 : Int) => u18_0_1 (K .ret) y1 y2) (fun (y1 : Int) (y2 : Bool) => u18_0_2 (K (.exit 0)) x7 y1 y2 x9 x10 x11) := by kernel_rfl
theorem r18_0_0 (α : Type) (K : Exit → St → Option α) (Kn : St → Option α) (x7 x8 : Int) (x9 : Rows) (x10 x11 : Int) : u18_0_0 (fun σ => runM Try.prog E18_0 sh18 c18_0_21 (thenK (fun σ => tidyK td18_21 σ Kn) K) σ) x7 x8 x9 x10 x11 = S18_0_0 α x7 x9 x8 (fun x8 => u18_0_0 Kn x7 x8 x9 x10 x11) (fun (y1 : Int) (y2 : Int) => u18_0_1 (K .ret) y1 y2) (fun (y1 : Int) (y2 : Bool) => u18_0_2 (K (.exit 0)) x7 y1 y2 x9 x10 x11) := r18_0_0g f29_0 f70_0 f71_0 f71_1 α K Kn x7 x8 x9 x10 x11
theorem t18_0_0 (α : Type) (K : Exit → St → Option α) : ∀ (n : Nat) (x7 x8 : Int) (x9 : Rows) (x10 x11 : Int), R18_0_0 α x7 x9 (fun (y1 : Int) (y2 : Int) => u18_0_1 (K .ret) y1 y2) (fun (y1 : Int) (y2 : Bool) => u18_0_2 (K (.exit 0)) x7 y1 y2 x9 x10 x11) n x8 = u18_0_0 (loopT (runM Try.prog E18_0 sh18 c18_0_21) td18_21 K n) x7 x8 x9 x10 x11 := by
 intro n
 induction n with
 | zero => intros; rfl
 | succ n ih => intro x7 x8 x9 x10 x11; exact (congrArg (fun kn => S18_0_0 α x7 x9 x8 kn (fun (y1 : Int) (y2 : Int) => u18_0_1 (K .ret) y1 y2) (fun (y1 : Int) (y2 : Bool) => u18_0_2 (K (.exit 0)) x7 y1 y2 x9 x10 x11)) (funext fun x8 => ih x7 x8 x9 x10 x11)).trans (r18_0_0 α K (loopT (runM Try.prog E18_0 sh18 c18_0_21) td18_21 K n) x7 x8 x9 x10 x11).symm
theorem m18_0_0 : ∀ (α : Type) (K : Exit → St → Option α), F18_0_0 L18_0_0 α K = p18_0_0.unc fun σ => loopT (runM Try.prog E18_0 sh18 c18_0_21) td18_21 K fuel σ := fun α K => funext fun x7 => funext fun x8 => funext fun x9 => funext fun x10 => funext fun x11 => t18_0_0 α K fuel x7 x8 x9 x10 x11
abbrev Tf18_0 : Type 1 := (α : Type) → Rows → Int → Int → (Int → Int → Option α) → Option α
def f18_0g (vL18_0_0 : TL18_0_0) (vf29_0 : Tf29_0) (vf70_0 : Tf70_0) (α : Type) (x1 : Rows) (x2 x3 : Int) (k1 : Int → Int → Option α) : Option α :=
 vf29_0 α ((List.length x1 : Nat) : Int) 4 64
 (fun x4 => cK (!x4)
 (k1 0 12)
 (cK ((Int.tmod ((List.length x1 : Nat) : Int) 4) != 0)
 (k1 0 12)
 (vf70_0 α x2
 (fun x5 => cK (!x5)
 (k1 0 2)
 (vf29_0 α x3 1 65536
 (fun x6 => cK (!x6)
 (k1 0 2)
 (vL18_0_0 α ((List.length x1 : Nat) : Int) x1
 (fun x18 x19 => k1 x18 x19)
 (fun x20 x21 => k1 0 0) 0)))))))
noncomputable def f18_0 (α : Type) (x1 : Rows) (x2 x3 : Int) (k1 : Int → Int → Option α) : Option α := f18_0g L18_0_0 f29_0 f70_0 α x1 x2 x3 k1
def pa18_0 : PT (List DV) := pA [pV true [dL, (dI .i64), (dI .i64)]]
def Fn18_0 (v : Tf18_0) (α : Type) (k : List RV → Option α) : Rows → Int → Int → Option α := fun x1 x2 x3 => v α x1 x2 x3 (fun (y1 : Int) (y2 : Int) => ur18_0_0 k y1 y2)
noncomputable def cm18_0g (vL18_0_0 : TL18_0_0) : MCode := (.seq (.region r18_2 [] (tO [1])) (.seq (.region r18_4 [] (tO [1, 4])) (.seq (.seq (.region r18_7 [] (tO [1, 4, 16])) (.cond (.tmp 16) (.seq (.region r18_10 [] (tO [2, 3])) .ret) .skip)) (.seq (.seq (.region r18_13 [] (tO [1, 4, 26])) (.cond (.tmp 26) (.seq (.region r18_16 [] (tO [2, 3])) .ret) .skip)) (.seq (.seq (.region r18_19 [] (tO [1, 4, 5])) (.block 0 (.loop td18_21 [⟨p18_0_0, F18_0_0 vL18_0_0⟩] c18_0_21))) (.seq (.region r18_41 [] (tO [2, 3])) .ret))))))
noncomputable def cm18_0 : MCode := cm18_0g L18_0_0
theorem gm18_0 : cm18_0.Good Try.prog E18_0 sh18 := ⟨trivial, ⟨trivial, ⟨⟨trivial, ⟨⟨trivial, trivial⟩, trivial⟩⟩, ⟨⟨trivial, ⟨⟨trivial, trivial⟩, trivial⟩⟩, ⟨⟨trivial, ⟨g18_0_21, m18_0_0, trivial⟩⟩, ⟨trivial, trivial⟩⟩⟩⟩⟩⟩
theorem fm18_0g (vf29_0 : Tf29_0) (vf70_0 : Tf70_0) (vf71_0 : Tf71_0) (vf71_1 : Tf71_1) (vL18_0_0 : TL18_0_0) (α : Type) (k : List RV → Option α) : Fn18_0 (f18_0g vL18_0_0 vf29_0 vf70_0) α k = pa18_0.unc fun ds => fnM Try.prog (E18_0g vf29_0 vf70_0 vf71_0 vf71_1) sh18 (cm18_0g vL18_0_0) rs18 k ds := by kernel_rfl
theorem fm18_0 : ∀ (α : Type) (k : List RV → Option α), Fn18_0 f18_0 α k = pa18_0.unc fun ds => fnM Try.prog E18_0 sh18 cm18_0 rs18 k ds := fm18_0g f29_0 f70_0 f71_0 f71_1 L18_0_0
theorem is18 : FnIs Try.prog 18 nt18 tr18 tl18 cm18_0.erase rs18 := ⟨Try.f18, Try.func18, rfl, by kernel_rfl, by kernel_rfl, by kernel_rfl⟩
theorem io18_0 : InstOk Try.prog 18 nt18 ⟨pa18_0, Fn18_0 f18_0⟩ := inst_ok eo18_0 followsTry is18 ⟨⟨sh18, cm18_0, by kernel_rfl, gm18_0, fm18_0⟩⟩
abbrev nt125 : Nat := 24
def sh125 : List (Nat × List Sh) := [(7, [.int .i64]), (13, [.int .i64]), (20, [.int .i64]), (22, [.int .i64])]
def r125_2 : List AOper := [oO 2 (.box (.tmp 0)), oO 4 (.mv (kI 0))]
def r125_6 : List AOper := [oO 6 (.faddr 0 (.tmp 2)), oO 7 (.load false 1 (.tmp 6)), oM 8 1, oO 9 (.call 109 [(.tmp 7), (.tmp 8)]), oO 10 (.pure (oB (.unOp .not 4 (.tmp 9)) 4)), oM 11 10, oG 12 (.faddr 1 (.tmp 2)) 11 false, oG 13 (.load false 1 (.tmp 12)) 11 false, oG 14 (.mv (.tmp 1)) 11 false, oG 15 (.call 109 [(.tmp 13), (.tmp 14)]) 11 false, oG 16 (.pure (oB (.unOp .not 4 (.tmp 15)) 4)) 11 false, oO 17 (.pick (.tmp 11) (.const (.bool true)) (.tmp 16)), oM 5 17]
def r125_9 : List AOper := [oO 4 (.mv (kI 2))]
def r125_11 : List AOper := [oO 19 (.faddr 0 (.tmp 2)), oO 20 (.load false 1 (.tmp 19)), oO 21 (.faddr 1 (.tmp 2)), oO 22 (.load false 1 (.tmp 21)), oO 23 (.bin .gtr 3 (.tmp 20) (.tmp 22)), oM 18 23]
def r125_14 : List AOper := [oO 4 (.mv (kI 10))]
def r125_16 : List AOper := [oO 4 (.mv (kI 0))]
def tr125 : List (Nat × Tidy) := [tT 0 [1, 2], tT 1 [2, 5], tT 2 [4], tT 3 [18], tT 4 [4], tT 5 [4]]
def tl125 : List (Nat × Tidy) := []
def rs125 : List AResV := [.tmp 4]
def p125_0_0 : PT St := pS [sl 1 (aV false [(cD (dI .i64))]), sl 2 (aV false [(cPtr 2 0)])] [eBox 2 [(cD (dI .i64)), (cD (dI .i64))]]
def u125_0_0 {β : Type} (g : St → β) : Int → Int → Int → β := p125_0_0.unc g
def p125_0_1 : PT St := pS [sl 2 (aV false [(cPtr 2 0)]), sl 5 (aV false [(cD dB)])] [eBox 2 [(cD (dI .i64)), (cD (dI .i64))]]
def u125_0_1 {β : Type} (g : St → β) : Bool → Int → Int → β := p125_0_1.unc g
def pr125_0_0 : PT (List RV) := pRs [pR false [rD (dI .i64)]]
def ur125_0_0 {β : Type} (g : List RV → β) : Int → β := pr125_0_0.unc g
def E125_0g (vf109_0 : Tf109_0) : EnvK := EnvK.of [⟨109, nt109, [⟨pa109_0, Fn109_0 vf109_0⟩]⟩] noSeq
noncomputable def E125_0 : EnvK := E125_0g f109_0
theorem eo125_0 : E125_0.Ok Try.prog := EnvK.of_ok noSeq_ok ⟨⟨io109_0, trivial⟩, trivial⟩
noncomputable def c125_0_5g  : MCode := (.region r125_6 [] (tO [2, 5]))
noncomputable def c125_0_5 : MCode := c125_0_5g 
theorem g125_0_5 : c125_0_5.Good Try.prog E125_0 sh125 := trivial
--CODE 5 0
abbrev TJ125_0_0 : Type 1 := (α : Type) → Int → Int → Int → (Bool → Option α) → Option α
def J125_0_0g (vf109_0 : Tf109_0) (α : Type) (x4 x5 x6 : Int) (k1 : Bool → Option α) : Option α :=
 vf109_0 α x5 x4
 (fun x8 => cK (!x8)
 (k1 true)
 (vf109_0 α x6 x4
 (fun x9 => k1 (!x9))))
noncomputable def J125_0_0 (α : Type) (x4 x5 x6 : Int) (k1 : Bool → Option α) : Option α := J125_0_0g f109_0 α x4 x5 x6 k1
def F125_0_0 (v : TJ125_0_0) (α : Type) (K : Exit → St → Option α) : Int → Int → Int → Option α := fun x4 x5 x6 => v α x4 x5 x6 (fun (y1 : Bool) => u125_0_1 (K .normal) y1 x5 x6) 
theorem m125_0_0g (vf109_0 : Tf109_0)  (α : Type) (K : Exit → St → Option α) : F125_0_0 (J125_0_0g vf109_0) α K = p125_0_0.unc fun σ => runM Try.prog (E125_0g vf109_0) sh125 (c125_0_5g ) K σ := by kernel_rfl
theorem m125_0_0 : ∀ (α : Type) (K : Exit → St → Option α), F125_0_0 J125_0_0 α K = p125_0_0.unc fun σ => runM Try.prog E125_0 sh125 c125_0_5 K σ := m125_0_0g f109_0
abbrev Tf125_0 : Type 1 := (α : Type) → Int → Int → Int → (Int → Option α) → Option α
def f125_0g (vJ125_0_0 : TJ125_0_0) (α : Type) (x1 x2 x3 : Int) (k1 : Int → Option α) : Option α :=
 vJ125_0_0 α x3 x1 x2
 (fun x10 => cK x10
 (k1 2)
 (cK (decide (x2 < x1))
 (k1 10)
 (k1 0)))
noncomputable def f125_0 (α : Type) (x1 x2 x3 : Int) (k1 : Int → Option α) : Option α := f125_0g J125_0_0 α x1 x2 x3 k1
def pa125_0 : PT (List DV) := pA [pV true [(dI .i64), (dI .i64)], pV false [(dI .i64)]]
def Fn125_0 (v : Tf125_0) (α : Type) (k : List RV → Option α) : Int → Int → Int → Option α := fun x1 x2 x3 => v α x1 x2 x3 (fun (y1 : Int) => ur125_0_0 k y1)
noncomputable def cm125_0g (vJ125_0_0 : TJ125_0_0) : MCode := (.seq (.region r125_2 [] (tO [1, 2])) (.seq (.block 0 (.seq (.mark [⟨p125_0_0, F125_0_0 vJ125_0_0⟩] c125_0_5) (.cond (.tmp 5) (.seq (.region r125_9 [] (tO [4])) .ret) (.seq (.region r125_11 [] (tO [18])) (.cond (.tmp 18) (.seq (.region r125_14 [] (tO [4])) .ret) .skip))))) (.seq (.region r125_16 [] (tO [4])) .ret)))
noncomputable def cm125_0 : MCode := cm125_0g J125_0_0
theorem gm125_0 : cm125_0.Good Try.prog E125_0 sh125 := ⟨trivial, ⟨⟨⟨g125_0_5, m125_0_0, trivial⟩, ⟨⟨trivial, trivial⟩, ⟨trivial, ⟨⟨trivial, trivial⟩, trivial⟩⟩⟩⟩, ⟨trivial, trivial⟩⟩⟩
theorem fm125_0g (vf109_0 : Tf109_0) (vJ125_0_0 : TJ125_0_0) (α : Type) (k : List RV → Option α) : Fn125_0 (f125_0g vJ125_0_0) α k = pa125_0.unc fun ds => fnM Try.prog (E125_0g vf109_0) sh125 (cm125_0g vJ125_0_0) rs125 k ds := by kernel_rfl
theorem fm125_0 : ∀ (α : Type) (k : List RV → Option α), Fn125_0 f125_0 α k = pa125_0.unc fun ds => fnM Try.prog E125_0 sh125 cm125_0 rs125 k ds := fm125_0g f109_0 J125_0_0
theorem is125 : FnIs Try.prog 125 nt125 tr125 tl125 cm125_0.erase rs125 := ⟨Try.f125, Try.func125, rfl, by kernel_rfl, by kernel_rfl, by kernel_rfl⟩
theorem io125_0 : InstOk Try.prog 125 nt125 ⟨pa125_0, Fn125_0 f125_0⟩ := inst_ok eo125_0 followsTry is125 ⟨⟨sh125, cm125_0, by kernel_rfl, gm125_0, fm125_0⟩⟩
abbrev nt56 : Nat := 62
def sh56 : List (Nat × List Sh) := [(29, [.cpx .f32]), (30, [.cpx .f32])]
def r56_2 : List AOper := [oO 4 (.mv (.const (.complex Go.FloatKind.f64 0 0))), oO 5 (.mv (kI 0))]
def r56_5 : List AOper := [oM 14 0, oO 15 (.len (.tmp 14)), oO 16 (.bin .eql 3 (.tmp 15) (kI 0))]
def r56_8 : List AOper := [oO 4 (.mv (.const (.complex Go.FloatKind.f64 0 0))), oO 5 (.mv (kI 12))]
def r56_11 : List AOper := [oM 17 0, oO 18 (.len (.tmp 17)), oO 19 (.bin .gtr 3 (.tmp 18) (kI 64))]
def r56_14 : List AOper := [oO 4 (.mv (.const (.complex Go.FloatKind.f64 0 0))), oO 5 (.mv (kI 8))]
def r56_16 : List AOper := [oO 6 (.mv (kI 0)), oO 7 (.mv (kI 0))]
def r56_19 : List AOper := [oO 8 (.mv (kI 0))]
def td56_21 : Option Tidy := (tO [0, 1, 6, 7, 8])
def r56_24 : List AOper := [oM 20 8, oM 21 0, oO 22 (.len (.tmp 21)), oO 23 (.bin .lss 3 (.tmp 20) (.tmp 22))]
def r56_29 : List AOper := [oM 27 0, oM 28 8, oO 29 (.iaddr 1 none (.tmp 27) (.tmp 28)), oO 30 (.load false 1 (.tmp 29)), oO 31 (.pure (oB (.convert 118 26 (.tmp 30)) 26)), oO 32 (.call 108 [(.tmp 31), (kI 4095)]), oM 26 32, oO 33 (.extract 0 (.tmp 26)), oO 34 (.extract 1 (.tmp 26)), oO 35 (.extract 2 (.tmp 26)), oM 9 33, oM 10 34, oM 11 35]
def r56_32 : List AOper := [oM 36 11, oO 37 (.bin .neq 3 (.tmp 36) (kI 0))]
def r56_35 : List AOper := [oM 38 11, oO 4 (.mv (.const (.complex Go.FloatKind.f64 0 0))), oM 5 38]
def r56_37 : List AOper := [oM 40 9, oM 41 10, oM 42 8, oO 43 (.pure (oB (.unOp .neg 3 (.tmp 42)) 3)), oM 44 1, oO 45 (.call 31 [(.tmp 44), (kI 4)]), oO 46 (.bin .mul 3 (.tmp 43) (.tmp 45)), oO 47 (.call 73 [(.tmp 40), (.tmp 41), (.tmp 46)]), oM 39 47, oO 48 (.extract 0 (.tmp 39)), oO 49 (.extract 1 (.tmp 39)), oM 12 48, oM 13 49]
def r56_38 : List AOper := [oM 50 6, oM 51 12, oO 52 (.bin .add 3 (.tmp 50) (.tmp 51)), oM 53 7, oM 54 13, oO 55 (.bin .add 3 (.tmp 53) (.tmp 54)), oM 6 52, oM 7 55]
def r56_39 : List AOper := [oM 24 8, oO 25 (.bin .add 3 (.tmp 24) (kI 1)), oM 8 25]
def r56_42 : List AOper := [oM 56 1, oO 57 (.call 29 [(.tmp 56), (kI (-1000)), (kI 1000)]), oO 58 (.pure (oB (.unOp .not 4 (.tmp 57)) 4))]
def r56_45 : List AOper := [oO 4 (.mv (.const (.complex Go.FloatKind.f64 0 0))), oO 5 (.mv (kI 2))]
def r56_47 : List AOper := [oM 59 6, oM 60 7, oO 61 (.call 74 [(.tmp 59), (.tmp 60)]), oM 4 61, oO 5 (.mv (kI 0))]
def tr56 : List (Nat × Tidy) := [tT 0 [0, 1], tT 1 [0, 1, 16], tT 2 [4, 5], tT 3 [0, 1, 19], tT 4 [4, 5], tT 5 [0, 1, 6, 7], tT 6 [0, 1, 6, 7, 8], tT 7 [0, 1, 6, 7, 8, 23], tT 9 [0, 1, 6, 7, 8, 9, 10, 11], tT 10 [0, 1, 6, 7, 8, 9, 10, 11, 37], tT 11 [4, 5], tT 12 [0, 1, 6, 7, 8, 12, 13], tT 13 [0, 1, 6, 7, 8], tT 8 [0, 1, 6, 7, 8], tT 14 [6, 7, 58], tT 15 [4, 5], tT 16 [4, 5]]
def tl56 : List (Nat × Tidy) := [tT 7 [0, 1, 6, 7, 8]]
def rs56 : List AResV := [.tmp 4, .tmp 5]
def p56_0_0 : PT St := pS [sl 0 (aV false [(cD dL)]), sl 1 (aV false [(cD (dI .i64))]), sl 6 (aV false [(cD (dI .i64))]), sl 7 (aV false [(cD (dI .i64))]), sl 8 (aV false [(cD (dI .i64))]), sl 23 (aV false [(cD dB)])] []
def u56_0_0 {β : Type} (g : St → β) : Rows → Int → Int → Int → Int → Bool → β := p56_0_0.unc g
def p56_0_1 : PT St := pS [sl 0 (aV false [(cD dL)]), sl 1 (aV false [(cD (dI .i64))]), sl 6 (aV false [(cD (dI .i64))]), sl 7 (aV false [(cD (dI .i64))]), sl 8 (aV false [(cD (dI .i64))]), sl 9 (aV false [(cD (dI .i64))]), sl 10 (aV false [(cD (dI .i64))]), sl 11 (aV false [(cD (dI .i64))])] []
def u56_0_1 {β : Type} (g : St → β) : Rows → Int → Int → Int → Int → Int → Int → Int → β := p56_0_1.unc g
def p56_0_2 : PT St := pS [sl 0 (aV false [(cD dL)]), sl 1 (aV false [(cD (dI .i64))]), sl 6 (aV false [(cD (dI .i64))]), sl 7 (aV false [(cD (dI .i64))]), sl 8 (aV false [(cD (dI .i64))])] []
def u56_0_2 {β : Type} (g : St → β) : Rows → Int → Int → Int → Int → β := p56_0_2.unc g
def p56_0_3 : PT St := pS [sl 4 (aV false [(cD (dX .f64))]), sl 5 (aV false [(cD (dI .i64))])] []
def u56_0_3 {β : Type} (g : St → β) : Nat → Nat → Int → β := p56_0_3.unc g
def pr56_0_0 : PT (List RV) := pRs [pR false [rD (dX .f64)], pR false [rD (dI .i64)]]
def ur56_0_0 {β : Type} (g : List RV → β) : Nat → Nat → Int → β := pr56_0_0.unc g
def E56_0g (vf108_1 : Tf108_1) (vf108_2 : Tf108_2) (vf108_3 : Tf108_3) (vf108_0 : Tf108_0) (vf31_0 : Tf31_0) (vf73_0 : Tf73_0) (vf29_0 : Tf29_0) (vf74_0 : Tf74_0) : EnvK := EnvK.of [⟨108, nt108, [⟨pa108_1, Fn108_1 vf108_1⟩, ⟨pa108_2, Fn108_2 vf108_2⟩, ⟨pa108_3, Fn108_3 vf108_3⟩, ⟨pa108_0, Fn108_0 vf108_0⟩]⟩, ⟨31, nt31, [⟨pa31_0, Fn31_0 vf31_0⟩]⟩, ⟨73, nt73, [⟨pa73_0, Fn73_0 vf73_0⟩]⟩, ⟨29, nt29, [⟨pa29_0, Fn29_0 vf29_0⟩]⟩, ⟨74, nt74, [⟨pa74_0, Fn74_0 vf74_0⟩]⟩] noSeq
noncomputable def E56_0 : EnvK := E56_0g f108_1 f108_2 f108_3 f108_0 f31_0 f73_0 f29_0 f74_0
theorem eo56_0 : E56_0.Ok Try.prog := EnvK.of_ok noSeq_ok ⟨⟨io108_1, io108_2, io108_3, io108_0, trivial⟩, ⟨io31_0, trivial⟩, ⟨io73_0, trivial⟩, ⟨io29_0, trivial⟩, ⟨io74_0, trivial⟩, trivial⟩
noncomputable def c56_0_28g  : MCode := (.region r56_29 [] (tO [0, 1, 6, 7, 8, 9, 10, 11]))
noncomputable def c56_0_28 : MCode := c56_0_28g 
theorem g56_0_28 : c56_0_28.Good Try.prog E56_0 sh56 := trivial
--CODE 28 0
abbrev TJ56_0_0 : Type 1 := (α : Type) → Rows → Int → (Int → Int → Int → Option α) → Option α
def J56_0_0g (vf108_0 : Tf108_0) (vf108_1 : Tf108_1) (vf108_2 : Tf108_2) (vf108_3 : Tf108_3) (α : Type) (x9 : Rows) (x13 : Int) (k1 : Int → Int → Int → Option α) : Option α :=
 rowK x9 x13 [.cpx .f32]
 (fun x16 x17 => cK (isNaNb .f32 x16)
 (cK (isNaNb .f32 x17)
 (vf108_1 α 4095
 (k1 0 0 27))
 (flK (f2f .f32 x17 .f64)
 (fun x18 => vf108_2 α x18 4095
 (k1 0 0 27))))
 (flK (f2f .f32 x16 .f64)
 (fun x19 => cK (isNaNb .f32 x17)
 (vf108_3 α x19 4095
 (k1 0 0 27))
 (flK (f2f .f32 x17 .f64)
 (fun x20 => vf108_0 α x19 x20 4095
 (fun x21 x22 x23 => k1 x21 x22 x23))))))
noncomputable def J56_0_0 (α : Type) (x9 : Rows) (x13 : Int) (k1 : Int → Int → Int → Option α) : Option α := J56_0_0g f108_0 f108_1 f108_2 f108_3 α x9 x13 k1
def F56_0_0 (v : TJ56_0_0) (α : Type) (K : Exit → St → Option α) : Rows → Int → Int → Int → Int → Bool → Option α := fun x9 x10 x11 x12 x13 x14 => v α x9 x13 (fun (y1 : Int) (y2 : Int) (y3 : Int) => u56_0_1 (K .normal) x9 x10 x11 x12 x13 y1 y2 y3) 
theorem m56_0_0g (vf108_1 : Tf108_1) (vf108_2 : Tf108_2) (vf108_3 : Tf108_3) (vf108_0 : Tf108_0) (vf31_0 : Tf31_0) (vf73_0 : Tf73_0) (vf29_0 : Tf29_0) (vf74_0 : Tf74_0)  (α : Type) (K : Exit → St → Option α) : F56_0_0 (J56_0_0g vf108_0 vf108_1 vf108_2 vf108_3) α K = p56_0_0.unc fun σ => runM Try.prog (E56_0g vf108_1 vf108_2 vf108_3 vf108_0 vf31_0 vf73_0 vf29_0 vf74_0) sh56 (c56_0_28g ) K σ := by kernel_rfl
theorem m56_0_0 : ∀ (α : Type) (K : Exit → St → Option α), F56_0_0 J56_0_0 α K = p56_0_0.unc fun σ => runM Try.prog E56_0 sh56 c56_0_28 K σ := m56_0_0g f108_1 f108_2 f108_3 f108_0 f31_0 f73_0 f29_0 f74_0
noncomputable def c56_0_21g (vJ56_0_0 : TJ56_0_0) : MCode := (.seq (.seq (.region r56_24 [] (tO [0, 1, 6, 7, 8, 23])) (.cond (.tmp 23) .skip (.exit 0))) (.seq (.block 1 (.seq (.mark [⟨p56_0_0, F56_0_0 vJ56_0_0⟩] c56_0_28) (.seq (.seq (.region r56_32 [] (tO [0, 1, 6, 7, 8, 9, 10, 11, 37])) (.cond (.tmp 37) (.seq (.region r56_35 [] (tO [4, 5])) .ret) .skip)) (.seq (.region r56_37 [] (tO [0, 1, 6, 7, 8, 12, 13])) (.region r56_38 [] (tO [0, 1, 6, 7, 8])))))) (.region r56_39 [] (tO [0, 1, 6, 7, 8]))))
noncomputable def c56_0_21 : MCode := c56_0_21g J56_0_0
theorem g56_0_21 : c56_0_21.Good Try.prog E56_0 sh56 := ⟨⟨trivial, ⟨trivial, trivial⟩⟩, ⟨⟨⟨g56_0_28, m56_0_0, trivial⟩, ⟨⟨trivial, ⟨⟨trivial, trivial⟩, trivial⟩⟩, ⟨trivial, trivial⟩⟩⟩, trivial⟩⟩
--CODE 21 0
def S56_0_1g (vJ56_0_0 : TJ56_0_0) (vf31_0 : Tf31_0) (vf73_0 : Tf73_0) (α : Type) (x3 : Rows) (x4 x5 x6 x7 : Int) (kn : Int → Int → Int → Option α) (k1 : Int → Option α) (k2 : Int → Int → Int → Bool → Option α) : Option α :=
 cK (decide (x7 < ((List.length x3 : Nat) : Int)))
 (vJ56_0_0 α x3 x7
 (fun x24 x25 x26 => cK (x26 != 0)
 (k1 x26)
 (vf31_0 α x4 4
 (fun x28 => vf73_0 α x24 x25 (w64 ((w64 (0 - x7)) * x28))
 (fun x29 x30 => kn (w64 (x5 + x29)) (w64 (x6 + x30)) (w64 (x7 + 1)))))))
 (k2 x5 x6 x7 (decide (x7 < ((List.length x3 : Nat) : Int))))
noncomputable def S56_0_1 (α : Type) (x3 : Rows) (x4 x5 x6 x7 : Int) (kn : Int → Int → Int → Option α) (k1 : Int → Option α) (k2 : Int → Int → Int → Bool → Option α) : Option α := S56_0_1g J56_0_0 f31_0 f73_0 α x3 x4 x5 x6 x7 kn k1 k2
noncomputable def R56_0_1 (α : Type) (x3 : Rows) (x4 : Int) (k1 : Int → Option α) (k2 : Int → Int → Int → Bool → Option α) : Nat → Int → Int → Int → Option α
 | 0, _, _, _ => none
 | n + 1, x5, x6, x7 => S56_0_1 α x3 x4 x5 x6 x7 (R56_0_1 α x3 x4 k1 k2 n) k1 k2
noncomputable def L56_0_1 (α : Type) (x3 : Rows) (x4 : Int) (k1 : Int → Option α) (k2 : Int → Int → Int → Bool → Option α) (x5 x6 x7 : Int) : Option α := R56_0_1 α x3 x4 k1 k2 fuel x5 x6 x7
abbrev TL56_0_1 : Type 1 := (α : Type) → Rows → Int → (Int → Option α) → (Int → Int → Int → Bool → Option α) → Int → Int → Int → Option α
def F56_0_1 (v : TL56_0_1) (α : Type) (K : Exit → St → Option α) : Rows → Int → Int → Int → Int → Option α := fun x3 x4 x5 x6 x7 => v α x3 x4 (fun (y1 : Int) => u56_0_3 (K .ret) 0 0 y1) (fun (y1 : Int) (y2 : Int) (y3 : Int) (y4 : Bool) => u56_0_0 (K (.exit 0)) x3 x4 y1 y2 y3 y4) x5 x6 x7
theorem r56_0_1g (vf108_1 : Tf108_1) (vf108_2 : Tf108_2) (vf108_3 : Tf108_3) (vf108_0 : Tf108_0) (vf31_0 : Tf31_0) (vf73_0 : Tf73_0) (vf29_0 : Tf29_0) (vf74_0 : Tf74_0) (vJ56_0_0 : TJ56_0_0) (α : Type) (K : Exit → St → Option α) (Kn : St → Option α) (x3 : Rows) (x4 x5 x6 x7 : Int) : u56_0_2 (fun σ => runM Try.prog (E56_0g vf108_1 vf108_2 vf108_3 vf108_0 vf31_0 vf73_0 vf29_0 vf74_0) sh56 (c56_0_21g vJ56_0_0) (thenK (fun σ => tidyK td56_21 σ Kn) K) σ) x3 x4 x5 x6 x7 = S56_0_1g vJ56_0_0 vf31_0 vf73_0 α x3 x4 x5 x6 x7 (fun x5 x6 x7 => u56_0_2 Kn x3 x4 x5 x6 x7) (fun (y1 : Int) => u56_0_3 (K .ret) 0 0 y1) (fun (y1 : Int) (y2 : Int) (y3 : Int) (y4 : Bool) => u56_0_0 (K (.exit 0)) x3 x4 y1 y2 y3 y4) := by kernel_rfl
theorem r56_0_1 (α : Type) (K : Exit → St → Option α) (Kn : St → Option α) (x3 : Rows) (x4 x5 x6 x7 : Int) : u56_0_2 (fun σ => runM Try.prog E56_0 sh56 c56_0_21 (thenK (fun σ => tidyK td56_21 σ Kn) K) σ) x3 x4 x5 x6 x7 = S56_0_1 α x3 x4 x5 x6 x7 (fun x5 x6 x7 => u56_0_2 Kn x3 x4 x5 x6 x7) (fun (y1 : Int) => u56_0_3 (K .ret) 0 0 y1) (fun (y1 : Int) (y2 : Int) (y3 : Int) (y4 : Bool) => u56_0_0 (K (.exit 0)) x3 x4 y1 y2 y3 y4) := r56_0_1g f108_1 f108_2 f108_3 f108_0 f31_0 f73_0 f29_0 f74_0 J56_0_0 α K Kn x3 x4 x5 x6 x7
theorem t56_0_1 (α : Type) (K : Exit → St → Option α) : ∀ (n : Nat) (x3 : Rows) (x4 x5 x6 x7 : Int), R56_0_1 α x3 x4 (fun (y1 : Int) => u56_0_3 (K .ret) 0 0 y1) (fun (y1 : Int) (y2 : Int) (y3 : Int) (y4 : Bool) => u56_0_0 (K (.exit 0)) x3 x4 y1 y2 y3 y4) n x5 x6 x7 = u56_0_2 (loopT (runM Try.prog E56_0 sh56 c56_0_21) td56_21 K n) x3 x4 x5 x6 x7 := by
 intro n
 induction n with
 | zero => intros; rfl
 | succ n ih => intro x3 x4 x5 x6 x7; exact (congrArg (fun kn => S56_0_1 α x3 x4 x5 x6 x7 kn (fun (y1 : Int) => u56_0_3 (K .ret) 0 0 y1) (fun (y1 : Int) (y2 : Int) (y3 : Int) (y4 : Bool) => u56_0_0 (K (.exit 0)) x3 x4 y1 y2 y3 y4)) (funext fun x5 => funext fun x6 => funext fun x7 => ih x3 x4 x5 x6 x7)).trans (r56_0_1 α K (loopT (runM Try.prog E56_0 sh56 c56_0_21) td56_21 K n) x3 x4 x5 x6 x7).symm
theorem m56_0_1 : ∀ (α : Type) (K : Exit → St → Option α), F56_0_1 L56_0_1 α K = p56_0_2.unc fun σ => loopT (runM Try.prog E56_0 sh56 c56_0_21) td56_21 K fuel σ := fun α K => funext fun x3 => funext fun x4 => funext fun x5 => funext fun x6 => funext fun x7 => t56_0_1 α K fuel x3 x4 x5 x6 x7
abbrev Tf56_0 : Type 1 := (α : Type) → Rows → Int → (Nat → Nat → Int → Option α) → Option α
def f56_0g (vL56_0_1 : TL56_0_1) (vf29_0 : Tf29_0) (vf74_0 : Tf74_0) (α : Type) (x1 : Rows) (x2 : Int) (k1 : Nat → Nat → Int → Option α) : Option α :=
 cK (((List.length x1 : Nat) : Int) == 0)
 (k1 0 0 12)
 (cK (decide (64 < ((List.length x1 : Nat) : Int)))
 (k1 0 0 8)
 (vL56_0_1 α x1 x2
 (fun x31 => k1 0 0 x31)
 (fun x32 x33 x34 x35 => vf29_0 α x2 (-1000) 1000
 (fun x37 => cK (!x37)
 (k1 0 0 2)
 (vf74_0 α x32 x33
 (fun x38 x39 => k1 x38 x39 0)))) 0 0 0))
noncomputable def f56_0 (α : Type) (x1 : Rows) (x2 : Int) (k1 : Nat → Nat → Int → Option α) : Option α := f56_0g L56_0_1 f29_0 f74_0 α x1 x2 k1
def pa56_0 : PT (List DV) := pA [pV false [dL], pV false [(dI .i64)]]
def Fn56_0 (v : Tf56_0) (α : Type) (k : List RV → Option α) : Rows → Int → Option α := fun x1 x2 => v α x1 x2 (fun (y1 : Nat) (y2 : Nat) (y3 : Int) => ur56_0_0 k y1 y2 y3)
noncomputable def cm56_0g (vL56_0_1 : TL56_0_1) : MCode := (.seq (.region r56_2 [] (tO [0, 1])) (.seq (.seq (.region r56_5 [] (tO [0, 1, 16])) (.cond (.tmp 16) (.seq (.region r56_8 [] (tO [4, 5])) .ret) .skip)) (.seq (.seq (.region r56_11 [] (tO [0, 1, 19])) (.cond (.tmp 19) (.seq (.region r56_14 [] (tO [4, 5])) .ret) .skip)) (.seq (.region r56_16 [] (tO [0, 1, 6, 7])) (.seq (.seq (.region r56_19 [] (tO [0, 1, 6, 7, 8])) (.block 0 (.loop td56_21 [⟨p56_0_2, F56_0_1 vL56_0_1⟩] c56_0_21))) (.seq (.seq (.region r56_42 [] (tO [6, 7, 58])) (.cond (.tmp 58) (.seq (.region r56_45 [] (tO [4, 5])) .ret) .skip)) (.seq (.region r56_47 [] (tO [4, 5])) .ret)))))))
noncomputable def cm56_0 : MCode := cm56_0g L56_0_1
theorem gm56_0 : cm56_0.Good Try.prog E56_0 sh56 := ⟨trivial, ⟨⟨trivial, ⟨⟨trivial, trivial⟩, trivial⟩⟩, ⟨⟨trivial, ⟨⟨trivial, trivial⟩, trivial⟩⟩, ⟨trivial, ⟨⟨trivial, ⟨g56_0_21, m56_0_1, trivial⟩⟩, ⟨⟨trivial, ⟨⟨trivial, trivial⟩, trivial⟩⟩, ⟨trivial, trivial⟩⟩⟩⟩⟩⟩⟩
theorem fm56_0g (vf108_1 : Tf108_1) (vf108_2 : Tf108_2) (vf108_3 : Tf108_3) (vf108_0 : Tf108_0) (vf31_0 : Tf31_0) (vf73_0 : Tf73_0) (vf29_0 : Tf29_0) (vf74_0 : Tf74_0) (vL56_0_1 : TL56_0_1) (α : Type) (k : List RV → Option α) : Fn56_0 (f56_0g vL56_0_1 vf29_0 vf74_0) α k = pa56_0.unc fun ds => fnM Try.prog (E56_0g vf108_1 vf108_2 vf108_3 vf108_0 vf31_0 vf73_0 vf29_0 vf74_0) sh56 (cm56_0g vL56_0_1) rs56 k ds := by kernel_rfl
theorem fm56_0 : ∀ (α : Type) (k : List RV → Option α), Fn56_0 f56_0 α k = pa56_0.unc fun ds => fnM Try.prog E56_0 sh56 cm56_0 rs56 k ds := fm56_0g f108_1 f108_2 f108_3 f108_0 f31_0 f73_0 f29_0 f74_0 L56_0_1
theorem is56 : FnIs Try.prog 56 nt56 tr56 tl56 cm56_0.erase rs56 := ⟨Try.f56, Try.func56, rfl, by kernel_rfl, by kernel_rfl, by kernel_rfl⟩
theorem io56_0 : InstOk Try.prog 56 nt56 ⟨pa56_0, Fn56_0 f56_0⟩ := inst_ok eo56_0 followsTry is56 ⟨⟨sh56, cm56_0, by kernel_rfl, gm56_0, fm56_0⟩⟩
abbrev nt96 : Nat := 21
def sh96 : List (Nat × List Sh) := [(12, [.int .i64, .int .i64]), (13, [.int .i64, .int .i64]), (14, [.int .i64, .int .i64])]
def r96_2 : List AOper := [oO 4 (.mv (kI 0))]
def r96_5 : List AOper := [oM 8 1, oO 9 (.len (.tmp 8)), oO 10 (.mv (kI 0))]
def td96_7 : Option Tidy := (some ⟨[0, 8, 9, 10], true, [⟨false, 8, 0, 20008, 2⟩], []⟩)
def r96_9 : List AOper := [oO 11 (.bin .lss 3 (.tmp 10) (.tmp 9))]
def r96_15 : List AOper := [oO 12 (.iaddr 2 none (.tmp 8) (.tmp 10)), oO 13 (.load true 2 (.tmp 12)), oO 6 (.alloc [(cI 0), (cI 0)]), oD (.store 2 (.tmp 6) (.tmp 13))]
def r96_17 : List AOper := [oO 14 (.load true 2 (.tmp 6)), oM 15 0, oO 16 (.call 125 [(.tmp 14), (.tmp 15)]), oM 7 16]
def r96_19 : List AOper := [oM 17 7, oO 18 (.bin .neq 28 (.tmp 17) (kI 0))]
def r96_22 : List AOper := [oM 19 7, oM 4 19]
def r96_23 : List AOper := [oO 20 (.bin .add 3 (.tmp 10) (kI 1)), oM 10 20]
def r96_25 : List AOper := [oO 4 (.mv (kI 0))]
def tr96 : List (Nat × Tidy) := [tT 0 [0, 1], tT 1 [0, 8, 9, 10], tT 2 [0, 8, 9, 10, 11], tT 3 [0, 6, 8, 9, 10], tT 4 [0, 7, 8, 9, 10], tT 5 [0, 7, 8, 9, 10, 18], tT 6 [4], tT 7 [0, 8, 9, 10], tT 8 [4]]
def tl96 : List (Nat × Tidy) := [(2, ⟨[0, 8, 9, 10], true, [⟨false, 8, 0, 20008, 2⟩], []⟩)]
def rs96 : List AResV := [.tmp 4]
def p96_0_0 : PT St := pS [sl 0 (aV false [(cD (dI .i64))]), sl 8 (aV false [(cD dL)]), sl 9 (aV false [(cD (dI .i64))]), sl 10 (aV false [(cD (dI .i64))])] []
def u96_0_0 {β : Type} (g : St → β) : Int → Rows → Int → Int → β := p96_0_0.unc g
def p96_0_1 : PT St := pS [sl 4 (aV false [(cD (dI .i64))])] []
def u96_0_1 {β : Type} (g : St → β) : Int → β := p96_0_1.unc g
def p96_0_2 : PT St := pS [sl 0 (aV false [(cD (dI .i64))]), sl 8 (aV false [(cD dL)]), sl 9 (aV false [(cD (dI .i64))]), sl 10 (aV false [(cD (dI .i64))]), sl 11 (aV false [(cD dB)])] []
def u96_0_2 {β : Type} (g : St → β) : Int → Rows → Int → Int → Bool → β := p96_0_2.unc g
def pr96_0_0 : PT (List RV) := pRs [pR false [rD (dI .i64)]]
def ur96_0_0 {β : Type} (g : List RV → β) : Int → β := pr96_0_0.unc g
def E96_0g (vf125_0 : Tf125_0) : EnvK := EnvK.of [⟨125, nt125, [⟨pa125_0, Fn125_0 vf125_0⟩]⟩] noSeq
noncomputable def E96_0 : EnvK := E96_0g f125_0
theorem eo96_0 : E96_0.Ok Try.prog := EnvK.of_ok noSeq_ok ⟨⟨io125_0, trivial⟩, trivial⟩
noncomputable def c96_0_7g  : MCode := (.seq (.region r96_9 [] (tO [0, 8, 9, 10, 11])) (.seq (.cond (.tmp 11) .skip (.exit 0)) (.seq (.block 1 (.seq (.region r96_15 [] (tO [0, 6, 8, 9, 10])) (.seq (.region r96_17 [] (tO [0, 7, 8, 9, 10])) (.seq (.region r96_19 [] (tO [0, 7, 8, 9, 10, 18])) (.cond (.tmp 18) (.seq (.region r96_22 [] (tO [4])) .ret) .skip))))) (.region r96_23 [] (tO [0, 8, 9, 10])))))
noncomputable def c96_0_7 : MCode := c96_0_7g 
theorem g96_0_7 : c96_0_7.Good Try.prog E96_0 sh96 := ⟨trivial, ⟨⟨trivial, trivial⟩, ⟨⟨trivial, ⟨trivial, ⟨trivial, ⟨⟨trivial, trivial⟩, trivial⟩⟩⟩⟩, trivial⟩⟩⟩
--CODE 7 0
def S96_0_0g (vf125_0 : Tf125_0) (α : Type) (x3 : Int) (x4 : Rows) (x5 x6 : Int) (kn : Int → Option α) (k1 : Int → Option α) (k2 : Int → Bool → Option α) : Option α :=
 cK (decide (x6 < x5))
 (rowK x4 x6 [.int .i64, .int .i64]
 (fun x8 x9 => vf125_0 α x8 x9 x3
 (fun x10 => cK (x10 != 0)
 (k1 x10)
 (kn (w64 (x6 + 1))))))
 (k2 x6 (decide (x6 < x5)))
noncomputable def S96_0_0 (α : Type) (x3 : Int) (x4 : Rows) (x5 x6 : Int) (kn : Int → Option α) (k1 : Int → Option α) (k2 : Int → Bool → Option α) : Option α := S96_0_0g f125_0 α x3 x4 x5 x6 kn k1 k2
noncomputable def R96_0_0 (α : Type) (x3 : Int) (x4 : Rows) (x5 : Int) (k1 : Int → Option α) (k2 : Int → Bool → Option α) : Nat → Int → Option α
 | 0, _ => none
 | n + 1, x6 => S96_0_0 α x3 x4 x5 x6 (R96_0_0 α x3 x4 x5 k1 k2 n) k1 k2
noncomputable def L96_0_0 (α : Type) (x3 : Int) (x4 : Rows) (x5 : Int) (k1 : Int → Option α) (k2 : Int → Bool → Option α) (x6 : Int) : Option α := R96_0_0 α x3 x4 x5 k1 k2 fuel x6
abbrev TL96_0_0 : Type 1 := (α : Type) → Int → Rows → Int → (Int → Option α) → (Int → Bool → Option α) → Int → Option α
def F96_0_0 (v : TL96_0_0) (α : Type) (K : Exit → St → Option α) : Int → Rows → Int → Int → Option α := fun x3 x4 x5 x6 => v α x3 x4 x5 (fun (y1 : Int) => u96_0_1 (K .ret) y1) (fun (y1 : Int) (y2 : Bool) => u96_0_2 (K (.exit 0)) x3 x4 x5 y1 y2) x6
theorem r96_0_0g (vf125_0 : Tf125_0)  (α : Type) (K : Exit → St → Option α) (Kn : St → Option α) (x3 : Int) (x4 : Rows) (x5 x6 : Int) : u96_0_0 (fun σ => runM Try.prog (E96_0g vf125_0) sh96 (c96_0_7g ) (thenK (fun σ => tidyK td96_7 σ Kn) K) σ) x3 x4 x5 x6 = S96_0_0g vf125_0 α x3 x4 x5 x6 (fun x6 => u96_0_0 Kn x3 x4 x5 x6) (fun (y1 : Int) => u96_0_1 (K .ret) y1) (fun (y1 : Int) (y2 : Bool) => u96_0_2 (K (.exit 0)) x3 x4 x5 y1 y2) := by kernel_rfl
theorem r96_0_0 (α : Type) (K : Exit → St → Option α) (Kn : St → Option α) (x3 : Int) (x4 : Rows) (x5 x6 : Int) : u96_0_0 (fun σ => runM Try.prog E96_0 sh96 c96_0_7 (thenK (fun σ => tidyK td96_7 σ Kn) K) σ) x3 x4 x5 x6 = S96_0_0 α x3 x4 x5 x6 (fun x6 => u96_0_0 Kn x3 x4 x5 x6) (fun (y1 : Int) => u96_0_1 (K .ret) y1) (fun (y1 : Int) (y2 : Bool) => u96_0_2 (K (.exit 0)) x3 x4 x5 y1 y2) := r96_0_0g f125_0 α K Kn x3 x4 x5 x6
theorem t96_0_0 (α : Type) (K : Exit → St → Option α) : ∀ (n : Nat) (x3 : Int) (x4 : Rows) (x5 x6 : Int), R96_0_0 α x3 x4 x5 (fun (y1 : Int) => u96_0_1 (K .ret) y1) (fun (y1 : Int) (y2 : Bool) => u96_0_2 (K (.exit 0)) x3 x4 x5 y1 y2) n x6 = u96_0_0 (loopT (runM Try.prog E96_0 sh96 c96_0_7) td96_7 K n) x3 x4 x5 x6 := by
 intro n
 induction n with
 | zero => intros; rfl
 | succ n ih => intro x3 x4 x5 x6; exact (congrArg (fun kn => S96_0_0 α x3 x4 x5 x6 kn (fun (y1 : Int) => u96_0_1 (K .ret) y1) (fun (y1 : Int) (y2 : Bool) => u96_0_2 (K (.exit 0)) x3 x4 x5 y1 y2)) (funext fun x6 => ih x3 x4 x5 x6)).trans (r96_0_0 α K (loopT (runM Try.prog E96_0 sh96 c96_0_7) td96_7 K n) x3 x4 x5 x6).symm
theorem m96_0_0 : ∀ (α : Type) (K : Exit → St → Option α), F96_0_0 L96_0_0 α K = p96_0_0.unc fun σ => loopT (runM Try.prog E96_0 sh96 c96_0_7) td96_7 K fuel σ := fun α K => funext fun x3 => funext fun x4 => funext fun x5 => funext fun x6 => t96_0_0 α K fuel x3 x4 x5 x6
abbrev Tf96_0 : Type 1 := (α : Type) → Int → Rows → (Int → Option α) → Option α
def f96_0g (vL96_0_0 : TL96_0_0) (α : Type) (x1 : Int) (x2 : Rows) (k1 : Int → Option α) : Option α :=
 vL96_0_0 α x1 x2 ((List.length x2 : Nat) : Int)
 (fun x11 => k1 x11)
 (fun x12 x13 => k1 0) 0
noncomputable def f96_0 (α : Type) (x1 : Int) (x2 : Rows) (k1 : Int → Option α) : Option α := f96_0g L96_0_0 α x1 x2 k1
def pa96_0 : PT (List DV) := pA [pV false [(dI .i64)], pV false [dL]]
def Fn96_0 (v : Tf96_0) (α : Type) (k : List RV → Option α) : Int → Rows → Option α := fun x1 x2 => v α x1 x2 (fun (y1 : Int) => ur96_0_0 k y1)
noncomputable def cm96_0g (vL96_0_0 : TL96_0_0) : MCode := (.seq (.region r96_2 [] (tO [0, 1])) (.seq (.seq (.region r96_5 [] (tO [0, 8, 9, 10])) (.block 0 (.loop td96_7 [⟨p96_0_0, F96_0_0 vL96_0_0⟩] c96_0_7))) (.seq (.region r96_25 [] (tO [4])) .ret)))
noncomputable def cm96_0 : MCode := cm96_0g L96_0_0
theorem gm96_0 : cm96_0.Good Try.prog E96_0 sh96 := ⟨trivial, ⟨⟨trivial, ⟨g96_0_7, m96_0_0, trivial⟩⟩, ⟨trivial, trivial⟩⟩⟩
theorem fm96_0g (vf125_0 : Tf125_0) (vL96_0_0 : TL96_0_0) (α : Type) (k : List RV → Option α) : Fn96_0 (f96_0g vL96_0_0) α k = pa96_0.unc fun ds => fnM Try.prog (E96_0g vf125_0) sh96 (cm96_0g vL96_0_0) rs96 k ds := by kernel_rfl
theorem fm96_0 : ∀ (α : Type) (k : List RV → Option α), Fn96_0 f96_0 α k = pa96_0.unc fun ds => fnM Try.prog E96_0 sh96 cm96_0 rs96 k ds := fm96_0g f125_0 L96_0_0
theorem is96 : FnIs Try.prog 96 nt96 tr96 tl96 cm96_0.erase rs96 := ⟨Try.f96, Try.func96, rfl, by kernel_rfl, by kernel_rfl, by kernel_rfl⟩
theorem io96_0 : InstOk Try.prog 96 nt96 ⟨pa96_0, Fn96_0 f96_0⟩ := inst_ok eo96_0 followsTry is96 ⟨⟨sh96, cm96_0, by kernel_rfl, gm96_0, fm96_0⟩⟩
abbrev nt28 : Nat := 22
def sh28 : List (Nat × List Sh) := [(5, [.str]), (7, [.int .i64]), (9, [.int .i64, .int .i64]), (15, [.int .i64, .int .i64]), (17, [.int .i64, .int .i64]), (19, [.int .i64, .int .i64])]
def r28_2 : List AOper := [oO 1 (.box (.tmp 0)), oO 2 (.mv (kI 0))]
def r28_5 : List AOper := [oO 4 (.faddr 0 (.tmp 1)), oO 5 (.load false 1 (.tmp 4)), oO 6 (.faddr 1 (.tmp 1)), oO 7 (.load false 1 (.tmp 6)), oO 8 (.faddr 2 (.tmp 1)), oO 9 (.load true 2 (.tmp 8)), oO 10 (.call 83 [(.tmp 5), (.tmp 7), (.tmp 9)]), oM 3 10]
def r28_7 : List AOper := [oM 11 3, oO 12 (.bin .neq 28 (.tmp 11) (kI 0))]
def r28_10 : List AOper := [oM 13 3, oM 2 13]
def r28_12 : List AOper := [oO 14 (.faddr 4 (.tmp 1)), oO 15 (.load true 2 (.tmp 14)), oO 16 (.faddr 6 (.tmp 1)), oO 17 (.load true 2 (.tmp 16)), oO 18 (.faddr 8 (.tmp 1)), oO 19 (.load true 2 (.tmp 18)), oO 20 (.bslice 2 3 [(.v (.int .i64 0)), (.v (.int .i64 0))] [(0, (.tmp 15)), (1, (.tmp 17)), (2, (.tmp 19))]), oO 21 (.call 96 [(kI 1048576), (.tmp 20)]), oM 2 21]
def tr28 : List (Nat × Tidy) := [tT 0 [1], tT 1 [1, 3], tT 2 [1, 3, 12], tT 3 [2], tT 4 [2]]
def tl28 : List (Nat × Tidy) := []
def rs28 : List AResV := [.tmp 2]
def pr28_0_0 : PT (List RV) := pRs [pR false [rD (dI .i64)]]
def ur28_0_0 {β : Type} (g : List RV → β) : Int → β := pr28_0_0.unc g
def E28_0g (vf83_0 : Tf83_0) (vf96_0 : Tf96_0) : EnvK := EnvK.of [⟨83, nt83, [⟨pa83_0, Fn83_0 vf83_0⟩]⟩, ⟨96, nt96, [⟨pa96_0, Fn96_0 vf96_0⟩]⟩] noSeq
noncomputable def E28_0 : EnvK := E28_0g f83_0 f96_0
theorem eo28_0 : E28_0.Ok Try.prog := EnvK.of_ok noSeq_ok ⟨⟨io83_0, trivial⟩, ⟨io96_0, trivial⟩, trivial⟩
abbrev Tf28_0 : Type 1 := (α : Type) → ByteArray → Int → Int → Int → Int → Int → Int → Int → Int → Int → (Int → Option α) → Option α
def f28_0g (vf83_0 : Tf83_0) (vf96_0 : Tf96_0) (α : Type) (x1 : ByteArray) (x2 x3 x4 x5 x6 x7 x8 x9 x10 : Int) (k1 : Int → Option α) : Option α :=
 vf83_0 α x1 x2 x3 x4
 (fun x11 => cK (x11 != 0)
 (k1 x11)
 (vf96_0 α 1048576 [[DC.v (.int .i64 x5), DC.v (.int .i64 x6)], [DC.v (.int .i64 x7), DC.v (.int .i64 x8)], [DC.v (.int .i64 x9), DC.v (.int .i64 x10)]]
 (fun x12 => k1 x12)))
noncomputable def f28_0 (α : Type) (x1 : ByteArray) (x2 x3 x4 x5 x6 x7 x8 x9 x10 : Int) (k1 : Int → Option α) : Option α := f28_0g f83_0 f96_0 α x1 x2 x3 x4 x5 x6 x7 x8 x9 x10 k1
def pa28_0 : PT (List DV) := pA [pV true [dS, (dI .i64), (dI .i64), (dI .i64), (dI .i64), (dI .i64), (dI .i64), (dI .i64), (dI .i64), (dI .i64)]]
def Fn28_0 (v : Tf28_0) (α : Type) (k : List RV → Option α) : ByteArray → Int → Int → Int → Int → Int → Int → Int → Int → Int → Option α := fun x1 x2 x3 x4 x5 x6 x7 x8 x9 x10 => v α x1 x2 x3 x4 x5 x6 x7 x8 x9 x10 (fun (y1 : Int) => ur28_0_0 k y1)
noncomputable def cm28_0g  : MCode := (.seq (.region r28_2 [] (tO [1])) (.seq (.seq (.region r28_5 [] (tO [1, 3])) (.seq (.region r28_7 [] (tO [1, 3, 12])) (.cond (.tmp 12) (.seq (.region r28_10 [] (tO [2])) .ret) .skip))) (.seq (.region r28_12 [] (tO [2])) .ret)))
noncomputable def cm28_0 : MCode := cm28_0g 
theorem gm28_0 : cm28_0.Good Try.prog E28_0 sh28 := ⟨trivial, ⟨⟨trivial, ⟨trivial, ⟨⟨trivial, trivial⟩, trivial⟩⟩⟩, ⟨trivial, trivial⟩⟩⟩
theorem fm28_0g (vf83_0 : Tf83_0) (vf96_0 : Tf96_0)  (α : Type) (k : List RV → Option α) : Fn28_0 (f28_0g vf83_0 vf96_0) α k = pa28_0.unc fun ds => fnM Try.prog (E28_0g vf83_0 vf96_0) sh28 (cm28_0g ) rs28 k ds := by kernel_rfl
theorem fm28_0 : ∀ (α : Type) (k : List RV → Option α), Fn28_0 f28_0 α k = pa28_0.unc fun ds => fnM Try.prog E28_0 sh28 cm28_0 rs28 k ds := fm28_0g f83_0 f96_0
theorem is28 : FnIs Try.prog 28 nt28 tr28 tl28 cm28_0.erase rs28 := ⟨Try.f28, Try.func28, rfl, by kernel_rfl, by kernel_rfl, by kernel_rfl⟩
theorem io28_0 : InstOk Try.prog 28 nt28 ⟨pa28_0, Fn28_0 f28_0⟩ := inst_ok eo28_0 followsTry is28 ⟨⟨sh28, cm28_0, by kernel_rfl, gm28_0, fm28_0⟩⟩
abbrev nt48 : Nat := 39
def sh48 : List (Nat × List Sh) := [(9, [.str, .int .i64, .int .i64, .int .i64, .int .i64, .int .i64, .int .i64, .int .i64, .int .i64, .int .i64]), (19, [.int .i64]), (22, [.int .i64]), (27, [.int .i64]), (30, [.int .i64]), (33, [.bool]), (38, [.int .i64, .int .i64])]
def r48_2 : List AOper := [oO 1 (.box (.tmp 0)), oO 2 (.alloc [(cI 0), (cI 0)]), oO 3 (.mv (kI 0))]
def r48_5 : List AOper := [oO 9 (.load true 10 (.tmp 1)), oO 10 (.call 28 [(.tmp 9)]), oM 4 10]
def r48_7 : List AOper := [oM 11 4, oO 12 (.bin .neq 28 (.tmp 11) (kI 0))]
def r48_10 : List AOper := [oO 13 (.build [(cI 0), (cI 0)] []), oM 14 4, oD (.store 2 (.tmp 2) (.tmp 13)), oM 3 14]
def r48_12 : List AOper := [oO 15 (.build [(cI 0), (cI 0)] [(0, 1, (kI 0)), (1, 1, (kI 1024))]), oO 5 (.alloc [(cI 0), (cI 0)]), oD (.store 2 (.tmp 5) (.tmp 15))]
def r48_14 : List AOper := [oO 6 (.alloc [(.d (.v (.bool false)))]), oD (.store 1 (.tmp 6) (.const (.bool false)))]
def td48_17 : Option Tidy := (tO [1, 2, 3, 5, 6])
def r48_19 : List AOper := [oM 7 16]
def r48_20 : List AOper := [oO 8 (.alloc [(cI 0), (cI 0)]), oD (.store 2 (.tmp 8) (.tmp 17))]
def r48_24 : List AOper := [oO 18 (.faddr 0 (.tmp 8)), oO 19 (.load false 1 (.tmp 18)), oO 20 (.faddr 4 (.tmp 1)), oO 21 (.faddr 1 (.tmp 20)), oO 22 (.load false 1 (.tmp 21)), oO 23 (.bin .geq 3 (.tmp 19) (.tmp 22))]
def r48_26 : List AOper := [oM 24 7, oO 25 (.faddr 0 (.tmp 5)), oD (.store 1 (.tmp 25) (.tmp 24))]
def r48_28 : List AOper := [oO 26 (.faddr 1 (.tmp 8)), oO 27 (.load false 1 (.tmp 26)), oO 28 (.faddr 4 (.tmp 1)), oO 29 (.faddr 0 (.tmp 28)), oO 30 (.load false 1 (.tmp 29)), oO 31 (.bin .leq 3 (.tmp 27) (.tmp 30)), oM 32 31, oG 33 (.load false 1 (.tmp 6)) 32 true, oG 34 (.pure (oB (.unOp .not 4 (.tmp 33)) 4)) 32 true, oO 35 (.pick (.tmp 32) (.tmp 34) (.const (.bool false)))]
def r48_30 : List AOper := [oM 36 7, oO 37 (.faddr 1 (.tmp 5)), oD (.store 1 (.tmp 37) (.tmp 36)), oD (.store 1 (.tmp 6) (.const (.bool true)))]
def r48_32 : List AOper := [oO 38 (.load true 2 (.tmp 5)), oD (.store 2 (.tmp 2) (.tmp 38)), oO 3 (.mv (kI 0))]
def tr48 : List (Nat × Tidy) := [tT 0 [1, 2, 3], tT 1 [1, 2, 3, 4], tT 2 [1, 2, 3, 4, 12], tT 3 [2, 3], tT 4 [1, 2, 3, 5], tT 5 [1, 2, 3, 5, 6], tT 6 [1, 2, 3, 5, 6, 7, 17], tT 7 [1, 2, 3, 5, 6, 7, 8], tT 8 [1, 2, 3, 5, 6, 7, 8, 23], tT 9 [1, 2, 3, 5, 6, 7, 8], tT 10 [1, 2, 3, 5, 6, 7, 35], tT 11 [1, 2, 3, 5, 6], tT 12 [2, 3]]
def tl48 : List (Nat × Tidy) := [tT 8 [1, 2, 3, 5, 6]]
def rs48 : List AResV := [.cell 2 true 2, .tmp 3]
def p48_0_0 : PT St := pS [sl 1 (aV false [(cPtr 1 0)]), sl 2 (aV false [(cPtr 2 0)]), sl 3 (aV false [(cD (dI .i64))]), sl 5 (aV false [(cPtr 5 0)]), sl 6 (aV false [(cPtr 6 0)])] [eBox 1 [(cD dS), (cD (dI .i64)), (cD (dI .i64)), (cD (dI .i64)), (cD (dI .i64)), (cD (dI .i64)), (cD (dI .i64)), (cD (dI .i64)), (cD (dI .i64)), (cD (dI .i64))], eBox 2 [(cD (dI .i64)), (cD (dI .i64))], eBox 5 [(cD (dI .i64)), (cD (dI .i64))], eBox 6 [(cD dB)]]
def u48_0_0 {β : Type} (g : St → β) : Int → ByteArray → Int → Int → Int → Int → Int → Int → Int → Int → Int → Int → Int → Int → Int → Bool → β := p48_0_0.unc g
def pr48_0_0 : PT (List RV) := pRs [pR true [rD (dI .i64), rD (dI .i64)], pR false [rD (dI .i64)]]
def ur48_0_0 {β : Type} (g : List RV → β) : Int → Int → Int → β := pr48_0_0.unc g
def E48_0g (vf28_0 : Tf28_0) (vq102 : Tq102) : EnvK := EnvK.of [⟨28, nt28, [⟨pa28_0, Fn28_0 vf28_0⟩]⟩] (seqE [⟨102, pq102, vq102⟩])
noncomputable def E48_0 : EnvK := E48_0g f28_0 q102
theorem eo48_0 : E48_0.Ok Try.prog := EnvK.of_ok (seqE_ok (l := [⟨102, pq102, q102⟩]) ⟨sqok102, trivial⟩) ⟨⟨io28_0, trivial⟩, trivial⟩
noncomputable def ca48_0_17 : MCode := (.seq (.region r48_19 [] (tO [1, 2, 3, 5, 6, 7, 17])) (.region r48_20 [] (tO [1, 2, 3, 5, 6, 7, 8])))
theorem ga48_0_17 : ca48_0_17.Good Try.prog E48_0 sh48 := ⟨trivial, trivial⟩
noncomputable def c48_0_17g  : MCode := (.block 1 (.seq (.seq (.region r48_24 [] (tO [1, 2, 3, 5, 6, 7, 8, 23])) (.cond (.tmp 23) (.region r48_26 [] (tO [1, 2, 3, 5, 6, 7, 8])) .skip)) (.seq (.region r48_28 [] (tO [1, 2, 3, 5, 6, 7, 35])) (.cond (.tmp 35) (.region r48_30 [] (tO [1, 2, 3, 5, 6])) .skip))))
noncomputable def c48_0_17 : MCode := c48_0_17g 
theorem g48_0_17 : c48_0_17.Good Try.prog E48_0 sh48 := ⟨⟨trivial, ⟨trivial, trivial⟩⟩, ⟨trivial, ⟨trivial, trivial⟩⟩⟩
--CODE 17 0
def S48_0_0g  (α : Type) (x17 x18 : Int) (y28 : Int × Int × Int) (x25 x26 : Int) (x27 : Bool) (kn : Int → Int → Bool → Option α) (k1 : Int → Int → Bool → Option α) : Option α :=
 cK (decide (x18 ≤ y28.2.1))
 (cK (decide (y28.2.2 ≤ x17))
 (cK (!x27)
 (kn y28.1 y28.1 true)
 (kn y28.1 x26 x27))
 (kn y28.1 x26 x27))
 (cK (decide (y28.2.2 ≤ x17))
 (cK (!x27)
 (kn x25 y28.1 true)
 (kn x25 x26 x27))
 (kn x25 x26 x27))
noncomputable def S48_0_0 (α : Type) (x17 x18 : Int) (y28 : Int × Int × Int) (x25 x26 : Int) (x27 : Bool) (kn : Int → Int → Bool → Option α) (k1 : Int → Int → Bool → Option α) : Option α := S48_0_0g  α x17 x18 y28 x25 x26 x27 kn k1
noncomputable def V48_0_0 (α : Type) (x17 x18 : Int) (k1 : Int → Int → Bool → Option α) : List (Int × Int × Int) → Int → Int → Bool → Option α
 | [], x25, x26, x27 => k1 x25 x26 x27
 | y28 :: ys, x25, x26, x27 => S48_0_0 α x17 x18 y28 x25 x26 x27 (V48_0_0 α x17 x18 k1 ys) k1
abbrev TV48_0_0 : Type 1 := (α : Type) → Int → Int → (Int → Int → Bool → Option α) → List (Int × Int × Int) → Int → Int → Bool → Option α
def F48_0_0 (v : TV48_0_0) (α : Type) (K : Exit → St → Option α) (ys : List (Int × Int × Int)) : Int → ByteArray → Int → Int → Int → Int → Int → Int → Int → Int → Int → Int → Int → Int → Int → Bool → Option α := fun x12 x13 x14 x15 x16 x17 x18 x19 x20 x21 x22 x23 x24 x25 x26 x27 => v α x17 x18 (fun (y1 : Int) (y2 : Int) (y3 : Bool) => u48_0_0 (K .normal) x12 x13 x14 x15 x16 x17 x18 x19 x20 x21 x22 x23 x24 y1 y2 y3) ys x25 x26 x27
theorem r48_0_0g (vf28_0 : Tf28_0) (vq102 : Tq102)  (α : Type) (K : Exit → St → Option α) (Kn : St → Option α) (y28 : Int × Int × Int) (x12 : Int) (x13 : ByteArray) (x14 x15 x16 x17 x18 x19 x20 x21 x22 x23 x24 x25 x26 : Int) (x27 : Bool) : u48_0_0 (fun σ => roundT (runM Try.prog (E48_0g vf28_0 vq102) sh48 ca48_0_17) (runM Try.prog (E48_0g vf28_0 vq102) sh48 c48_0_17) [16, 17] td48_17 Kn K (xIP.ex y28) σ) x12 x13 x14 x15 x16 x17 x18 x19 x20 x21 x22 x23 x24 x25 x26 x27 = S48_0_0g  α x17 x18 y28 x25 x26 x27 (fun x25 x26 x27 => u48_0_0 Kn x12 x13 x14 x15 x16 x17 x18 x19 x20 x21 x22 x23 x24 x25 x26 x27) (fun (y1 : Int) (y2 : Int) (y3 : Bool) => u48_0_0 (K .normal) x12 x13 x14 x15 x16 x17 x18 x19 x20 x21 x22 x23 x24 y1 y2 y3) := by kernel_rfl
theorem r48_0_0 (α : Type) (K : Exit → St → Option α) (Kn : St → Option α) (y28 : Int × Int × Int) (x12 : Int) (x13 : ByteArray) (x14 x15 x16 x17 x18 x19 x20 x21 x22 x23 x24 x25 x26 : Int) (x27 : Bool) : u48_0_0 (fun σ => roundT (runM Try.prog E48_0 sh48 ca48_0_17) (runM Try.prog E48_0 sh48 c48_0_17) [16, 17] td48_17 Kn K (xIP.ex y28) σ) x12 x13 x14 x15 x16 x17 x18 x19 x20 x21 x22 x23 x24 x25 x26 x27 = S48_0_0 α x17 x18 y28 x25 x26 x27 (fun x25 x26 x27 => u48_0_0 Kn x12 x13 x14 x15 x16 x17 x18 x19 x20 x21 x22 x23 x24 x25 x26 x27) (fun (y1 : Int) (y2 : Int) (y3 : Bool) => u48_0_0 (K .normal) x12 x13 x14 x15 x16 x17 x18 x19 x20 x21 x22 x23 x24 y1 y2 y3) := r48_0_0g f28_0 q102 α K Kn y28 x12 x13 x14 x15 x16 x17 x18 x19 x20 x21 x22 x23 x24 x25 x26 x27
theorem t48_0_0 (α : Type) (K : Exit → St → Option α) : ∀ (ys : List (Int × Int × Int)) (x12 : Int) (x13 : ByteArray) (x14 x15 x16 x17 x18 x19 x20 x21 x22 x23 x24 x25 x26 : Int) (x27 : Bool), V48_0_0 α x17 x18 (fun (y1 : Int) (y2 : Int) (y3 : Bool) => u48_0_0 (K .normal) x12 x13 x14 x15 x16 x17 x18 x19 x20 x21 x22 x23 x24 y1 y2 y3) ys x25 x26 x27 = u48_0_0 (roundsK (runM Try.prog E48_0 sh48 ca48_0_17) (runM Try.prog E48_0 sh48 c48_0_17) [16, 17] td48_17 K (ys.map xIP.ex)) x12 x13 x14 x15 x16 x17 x18 x19 x20 x21 x22 x23 x24 x25 x26 x27 := by
 intro ys
 induction ys with
 | nil => intros; rfl
 | cons y28 ys ih => intro x12 x13 x14 x15 x16 x17 x18 x19 x20 x21 x22 x23 x24 x25 x26 x27; exact (congrArg (fun kn => S48_0_0 α x17 x18 y28 x25 x26 x27 kn (fun (y1 : Int) (y2 : Int) (y3 : Bool) => u48_0_0 (K .normal) x12 x13 x14 x15 x16 x17 x18 x19 x20 x21 x22 x23 x24 y1 y2 y3)) (funext fun x25 => funext fun x26 => funext fun x27 => ih x12 x13 x14 x15 x16 x17 x18 x19 x20 x21 x22 x23 x24 x25 x26 x27)).trans (r48_0_0 α K (roundsK (runM Try.prog E48_0 sh48 ca48_0_17) (runM Try.prog E48_0 sh48 c48_0_17) [16, 17] td48_17 K (ys.map xIP.ex)) y28 x12 x13 x14 x15 x16 x17 x18 x19 x20 x21 x22 x23 x24 x25 x26 x27).symm
theorem m48_0_0 : ∀ (α : Type) (K : Exit → St → Option α) (ys : List (Int × Int × Int)), F48_0_0 V48_0_0 α K ys = p48_0_0.unc fun σ => roundsK (runM Try.prog E48_0 sh48 ca48_0_17) (runM Try.prog E48_0 sh48 c48_0_17) [16, 17] td48_17 K (ys.map xIP.ex) σ := fun α K ys => funext fun x12 => funext fun x13 => funext fun x14 => funext fun x15 => funext fun x16 => funext fun x17 => funext fun x18 => funext fun x19 => funext fun x20 => funext fun x21 => funext fun x22 => funext fun x23 => funext fun x24 => funext fun x25 => funext fun x26 => funext fun x27 => t48_0_0 α K ys x12 x13 x14 x15 x16 x17 x18 x19 x20 x21 x22 x23 x24 x25 x26 x27
abbrev Tf48_0 : Type 1 := (α : Type) → ByteArray → Int → Int → Int → Int → Int → Int → Int → Int → Int → (Int → Int → Int → Option α) → Option α
def f48_0g (vV48_0_0 : TV48_0_0) (vf28_0 : Tf28_0) (vq102 : Tq102) (α : Type) (x1 : ByteArray) (x2 x3 x4 x5 x6 x7 x8 x9 x10 : Int) (k1 : Int → Int → Int → Option α) : Option α :=
 vf28_0 α x1 x2 x3 x4 x5 x6 x7 x8 x9 x10
 (fun x11 => cK (x11 != 0)
 (k1 0 0 x11)
 (qK vq102 xIP fun y32 => vV48_0_0 α x5 x6
 (fun x29 x30 x31 => k1 x29 x30 0) y32 0 1024 false))
noncomputable def f48_0 (α : Type) (x1 : ByteArray) (x2 x3 x4 x5 x6 x7 x8 x9 x10 : Int) (k1 : Int → Int → Int → Option α) : Option α := f48_0g V48_0_0 f28_0 q102 α x1 x2 x3 x4 x5 x6 x7 x8 x9 x10 k1
def pa48_0 : PT (List DV) := pA [pV true [dS, (dI .i64), (dI .i64), (dI .i64), (dI .i64), (dI .i64), (dI .i64), (dI .i64), (dI .i64), (dI .i64)]]
def Fn48_0 (v : Tf48_0) (α : Type) (k : List RV → Option α) : ByteArray → Int → Int → Int → Int → Int → Int → Int → Int → Int → Option α := fun x1 x2 x3 x4 x5 x6 x7 x8 x9 x10 => v α x1 x2 x3 x4 x5 x6 x7 x8 x9 x10 (fun (y1 : Int) (y2 : Int) (y3 : Int) => ur48_0_0 k y1 y2 y3)
noncomputable def cm48_0g (vV48_0_0 : TV48_0_0) : MCode := (.seq (.region r48_2 [] (tO [1, 2, 3])) (.seq (.seq (.region r48_5 [] (tO [1, 2, 3, 4])) (.seq (.region r48_7 [] (tO [1, 2, 3, 4, 12])) (.cond (.tmp 12) (.seq (.region r48_10 [] (tO [2, 3])) .ret) .skip))) (.seq (.region r48_12 [] (tO [1, 2, 3, 5])) (.seq (.region r48_14 [] (tO [1, 2, 3, 5, 6])) (.seq (.block 0 (.rangeF (.func 102) [16, 17] td48_17 [⟨xIP, p48_0_0, F48_0_0 vV48_0_0⟩] ca48_0_17 c48_0_17)) (.seq (.region r48_32 [] (tO [2, 3])) .ret))))))
noncomputable def cm48_0 : MCode := cm48_0g V48_0_0
theorem gm48_0 : cm48_0.Good Try.prog E48_0 sh48 := ⟨trivial, ⟨⟨trivial, ⟨trivial, ⟨⟨trivial, trivial⟩, trivial⟩⟩⟩, ⟨trivial, ⟨trivial, ⟨⟨⟨ga48_0_17, g48_0_17⟩, m48_0_0, trivial⟩, ⟨trivial, trivial⟩⟩⟩⟩⟩⟩
theorem fm48_0g (vf28_0 : Tf28_0) (vq102 : Tq102) (vV48_0_0 : TV48_0_0) (α : Type) (k : List RV → Option α) : Fn48_0 (f48_0g vV48_0_0 vf28_0 vq102) α k = pa48_0.unc fun ds => fnM Try.prog (E48_0g vf28_0 vq102) sh48 (cm48_0g vV48_0_0) rs48 k ds := by kernel_rfl
theorem fm48_0 : ∀ (α : Type) (k : List RV → Option α), Fn48_0 f48_0 α k = pa48_0.unc fun ds => fnM Try.prog E48_0 sh48 cm48_0 rs48 k ds := fm48_0g f28_0 q102 V48_0_0
theorem is48 : FnIs Try.prog 48 nt48 tr48 tl48 cm48_0.erase rs48 := ⟨Try.f48, Try.func48, rfl, by kernel_rfl, by kernel_rfl, by kernel_rfl⟩
theorem io48_0 : InstOk Try.prog 48 nt48 ⟨pa48_0, Fn48_0 f48_0⟩ := inst_ok eo48_0 followsTry is48 ⟨⟨sh48, cm48_0, by kernel_rfl, gm48_0, fm48_0⟩⟩
end Go.AM.K
