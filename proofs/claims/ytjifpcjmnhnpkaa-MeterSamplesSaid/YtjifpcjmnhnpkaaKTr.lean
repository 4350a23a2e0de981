/- Printed by KGen. -/
import Derived.Test.YtjifpcjmnhnpkaaKTu
import Derived.Test.YtjifpcjmnhnpkaaMC1
namespace Go.AM.K
open Go.Proofs
set_option maxRecDepth 100000
set_option linter.unusedVariables false
abbrev nt78 : Nat := 23
def sh78 : List (Nat × List Sh) := []
def r78_2 : List AOper := [oO 4 (.mv (kI 0))]
def r78_4 : List AOper := [oM 6 0, oM 7 1, oO 8 (.bin .quo 3 (.tmp 6) (.tmp 7)), oM 5 8]
def r78_7 : List AOper := [oM 9 0, oM 10 1, oO 11 (.bin .rem 3 (.tmp 9) (.tmp 10)), oO 12 (.bin .neq 3 (.tmp 11) (kI 0)), oM 13 12, oG 14 (.mv (.tmp 0)) 13 true, oG 15 (.bin .lss 3 (.tmp 14) (kI 0)) 13 true, oG 16 (.mv (.tmp 1)) 13 true, oG 17 (.bin .lss 3 (.tmp 16) (kI 0)) 13 true, oG 18 (.bin .neq 4 (.tmp 15) (.tmp 17)) 13 true, oO 19 (.pick (.tmp 13) (.tmp 18) (.const (.bool false)))]
def r78_9 : List AOper := [oM 20 5, oO 21 (.bin .sub 3 (.tmp 20) (kI 1)), oM 5 21]
def r78_11 : List AOper := [oM 22 5, oM 4 22]
def tr78 : List (Nat × Tidy) := [tT 0 [0, 1], tT 1 [0, 1, 5], tT 2 [5, 19], tT 3 [5], tT 4 [4]]
def tl78 : List (Nat × Tidy) := []
def rs78 : List AResV := [.tmp 4]
def pr78_0_0 : PT (List RV) := pRs [pR false [rD (dI .i64)]]
def ur78_0_0 {β : Type} (g : List RV → β) : Int → β := pr78_0_0.unc g
def E78_0g  : EnvK := EnvK.of [] noSeq
noncomputable def E78_0 : EnvK := E78_0g 
theorem eo78_0 : E78_0.Ok Try.prog := EnvK.of_ok noSeq_ok trivial
abbrev Tf78_0 : Type 1 := (α : Type) → Int → Int → (Int → Option α) → Option α
def f78_0g  (α : Type) (x1 x2 : Int) (k1 : Int → Option α) : Option α :=
 gK (x2 != 0) (gK (x2 != 0) (cK ((Int.tmod x1 x2) != 0)
 (cK (!((decide (x1 < 0)) == (decide (x2 < 0))))
 (k1 (w64 ((w64 (Int.tdiv x1 x2)) - 1)))
 (k1 (w64 (Int.tdiv x1 x2))))
 (k1 (w64 (Int.tdiv x1 x2)))))
noncomputable def f78_0 (α : Type) (x1 x2 : Int) (k1 : Int → Option α) : Option α := f78_0g  α x1 x2 k1
def pa78_0 : PT (List DV) := pA [pV false [(dI .i64)], pV false [(dI .i64)]]
def Fn78_0 (v : Tf78_0) (α : Type) (k : List RV → Option α) : Int → Int → Option α := fun x1 x2 => v α x1 x2 (fun (y1 : Int) => ur78_0_0 k y1)
noncomputable def cm78_0g  : MCode := (.seq (.region r78_2 [] (tO [0, 1])) (.seq (.region r78_4 [] (tO [0, 1, 5])) (.seq (.seq (.region r78_7 [] (tO [5, 19])) (.cond (.tmp 19) (.region r78_9 [] (tO [5])) .skip)) (.seq (.region r78_11 [] (tO [4])) .ret))))
noncomputable def cm78_0 : MCode := cm78_0g 
theorem gm78_0 : cm78_0.Good Try.prog E78_0 sh78 := ⟨trivial, ⟨trivial, ⟨⟨trivial, ⟨trivial, trivial⟩⟩, ⟨trivial, trivial⟩⟩⟩⟩
theorem fm78_0g   (α : Type) (k : List RV → Option α) : Fn78_0 (f78_0g ) α k = pa78_0.unc fun ds => fnM Try.prog (E78_0g ) sh78 (cm78_0g ) rs78 k ds := by kernel_rfl
theorem fm78_0 : ∀ (α : Type) (k : List RV → Option α), Fn78_0 f78_0 α k = pa78_0.unc fun ds => fnM Try.prog E78_0 sh78 cm78_0 rs78 k ds := fm78_0g 
theorem is78 : FnIs Try.prog 78 nt78 tr78 tl78 cm78_0.erase rs78 := ⟨Try.f78, Try.func78, rfl, by kernel_rfl, by kernel_rfl, by kernel_rfl⟩
theorem io78_0 : InstOk Try.prog 78 nt78 ⟨pa78_0, Fn78_0 f78_0⟩ := inst_ok eo78_0 followsTry is78 ⟨⟨sh78, cm78_0, by kernel_rfl, gm78_0, fm78_0⟩⟩
abbrev nt119 : Nat := 35
def sh119 : List (Nat × List Sh) := [(12, [.int .i64]), (15, [.int .i64]), (20, [.int .i64]), (23, [.int .i64]), (29, [.int .i64]), (31, [.int .i64]), (34, [.int .i64, .int .i64])]
def r119_2 : List AOper := [oO 2 (.box (.tmp 0)), oO 4 (.alloc [(cI 0), (cI 0)])]
def r119_5 : List AOper := [oM 5 1, oO 6 (.bin .rem 3 (.tmp 5) (kI 4)), oO 7 (.bin .add 3 (.tmp 6) (kI 4)), oO 8 (.bin .rem 3 (.tmp 7) (kI 4))]
def r119_8 : List AOper := [oO 10 (.bin .eql 3 (.tmp 8) (kI 1)), oM 9 10]
def r119_11 : List AOper := [oO 11 (.faddr 1 (.tmp 2)), oO 12 (.load false 1 (.tmp 11)), oO 13 (.pure (oB (.unOp .neg 3 (.tmp 12)) 3)), oO 14 (.faddr 0 (.tmp 2)), oO 15 (.load false 1 (.tmp 14)), oO 16 (.build [(cI 0), (cI 0)] [(0, 1, (.tmp 13)), (1, 1, (.tmp 15))]), oD (.store 2 (.tmp 4) (.tmp 16))]
def r119_13 : List AOper := [oO 18 (.bin .eql 3 (.tmp 8) (kI 2)), oM 17 18]
def r119_16 : List AOper := [oO 19 (.faddr 0 (.tmp 2)), oO 20 (.load false 1 (.tmp 19)), oO 21 (.pure (oB (.unOp .neg 3 (.tmp 20)) 3)), oO 22 (.faddr 1 (.tmp 2)), oO 23 (.load false 1 (.tmp 22)), oO 24 (.pure (oB (.unOp .neg 3 (.tmp 23)) 3)), oO 25 (.build [(cI 0), (cI 0)] [(0, 1, (.tmp 21)), (1, 1, (.tmp 24))]), oD (.store 2 (.tmp 4) (.tmp 25))]
def r119_18 : List AOper := [oO 27 (.bin .eql 3 (.tmp 8) (kI 3)), oM 26 27]
def r119_21 : List AOper := [oO 28 (.faddr 1 (.tmp 2)), oO 29 (.load false 1 (.tmp 28)), oO 30 (.faddr 0 (.tmp 2)), oO 31 (.load false 1 (.tmp 30)), oO 32 (.pure (oB (.unOp .neg 3 (.tmp 31)) 3)), oO 33 (.build [(cI 0), (cI 0)] [(0, 1, (.tmp 29)), (1, 1, (.tmp 32))]), oD (.store 2 (.tmp 4) (.tmp 33))]
def r119_23 : List AOper := [oO 34 (.load true 2 (.tmp 2)), oD (.store 2 (.tmp 4) (.tmp 34))]
def tr119 : List (Nat × Tidy) := [tT 0 [1, 2, 4], tT 1 [2, 4, 8], tT 2 [2, 4, 8, 9], tT 3 [4], tT 4 [2, 4, 8, 17], tT 5 [4], tT 6 [2, 4, 26], tT 7 [4], tT 8 [4]]
def tl119 : List (Nat × Tidy) := []
def rs119 : List AResV := [.cell 4 true 2]
def pr119_0_0 : PT (List RV) := pRs [pR true [rD (dI .i64), rD (dI .i64)]]
def ur119_0_0 {β : Type} (g : List RV → β) : Int → Int → β := pr119_0_0.unc g
def E119_0g  : EnvK := EnvK.of [] noSeq
noncomputable def E119_0 : EnvK := E119_0g 
theorem eo119_0 : E119_0.Ok Try.prog := EnvK.of_ok noSeq_ok trivial
abbrev Tf119_0 : Type 1 := (α : Type) → Int → Int → Int → (Int → Int → Option α) → Option α
def f119_0g  (α : Type) (x1 x2 x3 : Int) (k1 : Int → Int → Option α) : Option α :=
 cK ((Int.tmod (w64 ((Int.tmod x3 4) + 4)) 4) == 1)
 (k1 (w64 (0 - x2)) x1)
 (cK ((Int.tmod (w64 ((Int.tmod x3 4) + 4)) 4) == 2)
 (k1 (w64 (0 - x1)) (w64 (0 - x2)))
 (cK ((Int.tmod (w64 ((Int.tmod x3 4) + 4)) 4) == 3)
 (k1 x2 (w64 (0 - x1)))
 (k1 x1 x2)))
noncomputable def f119_0 (α : Type) (x1 x2 x3 : Int) (k1 : Int → Int → Option α) : Option α := f119_0g  α x1 x2 x3 k1
def pa119_0 : PT (List DV) := pA [pV true [(dI .i64), (dI .i64)], pV false [(dI .i64)]]
def Fn119_0 (v : Tf119_0) (α : Type) (k : List RV → Option α) : Int → Int → Int → Option α := fun x1 x2 x3 => v α x1 x2 x3 (fun (y1 : Int) (y2 : Int) => ur119_0_0 k y1 y2)
noncomputable def cm119_0g  : MCode := (.seq (.region r119_2 [] (tO [1, 2, 4])) (.seq (.seq (.region r119_5 [] (tO [2, 4, 8])) (.block 0 (.seq (.region r119_8 [] (tO [2, 4, 8, 9])) (.cond (.tmp 9) (.seq (.region r119_11 [] (tO [4])) .ret) (.seq (.region r119_13 [] (tO [2, 4, 8, 17])) (.cond (.tmp 17) (.seq (.region r119_16 [] (tO [4])) .ret) (.seq (.region r119_18 [] (tO [2, 4, 26])) (.cond (.tmp 26) (.seq (.region r119_21 [] (tO [4])) .ret) .skip)))))))) (.seq (.region r119_23 [] (tO [4])) .ret)))
noncomputable def cm119_0 : MCode := cm119_0g 
theorem gm119_0 : cm119_0.Good Try.prog E119_0 sh119 := ⟨trivial, ⟨⟨trivial, ⟨trivial, ⟨⟨trivial, trivial⟩, ⟨trivial, ⟨⟨trivial, trivial⟩, ⟨trivial, ⟨⟨trivial, trivial⟩, trivial⟩⟩⟩⟩⟩⟩⟩, ⟨trivial, trivial⟩⟩⟩
theorem fm119_0g   (α : Type) (k : List RV → Option α) : Fn119_0 (f119_0g ) α k = pa119_0.unc fun ds => fnM Try.prog (E119_0g ) sh119 (cm119_0g ) rs119 k ds := by kernel_rfl
theorem fm119_0 : ∀ (α : Type) (k : List RV → Option α), Fn119_0 f119_0 α k = pa119_0.unc fun ds => fnM Try.prog E119_0 sh119 cm119_0 rs119 k ds := fm119_0g 
theorem is119 : FnIs Try.prog 119 nt119 tr119 tl119 cm119_0.erase rs119 := ⟨Try.f119, Try.func119, rfl, by kernel_rfl, by kernel_rfl, by kernel_rfl⟩
theorem io119_0 : InstOk Try.prog 119 nt119 ⟨pa119_0, Fn119_0 f119_0⟩ := inst_ok eo119_0 followsTry is119 ⟨⟨sh119, cm119_0, by kernel_rfl, gm119_0, fm119_0⟩⟩
abbrev nt107 : Nat := 70
def sh107 : List (Nat × List Sh) := [(16, [.flt .f64, .flt .f64]), (46, [.flt .f64, .flt .f64]), (64, [.flt .f64]), (67, [.flt .f64])]
def r107_2 : List AOper := [oO 4 (.alloc [(cI 0), (cI 0)]), oO 5 (.mv (kI 0))]
def r107_4 : List AOper := [oM 11 0, oO 12 (.pure (oB (.call { callee := .builtin .real, args := #[(.tmp 11)], argTypes := #[26] }) 112)), oM 13 0, oO 14 (.pure (oB (.call { callee := .builtin .imag, args := #[(.tmp 13)], argTypes := #[26] }) 112)), oO 15 (.build [(.d (.v (.float Go.FloatKind.f64 0))), (.d (.v (.float Go.FloatKind.f64 0)))] [(0, 1, (.tmp 12)), (1, 1, (.tmp 14))]), oO 6 (.alloc [(.d (.v (.float Go.FloatKind.f64 0))), (.d (.v (.float Go.FloatKind.f64 0)))]), oD (.store 2 (.tmp 6) (.tmp 15))]
def r107_7 : List AOper := [oO 16 (.load true 2 (.tmp 6)), oO 17 (.mv (kI 0))]
def td107_9 : Option Tidy := (tO [1, 4, 6, 16, 17])
def r107_11 : List AOper := [oO 18 (.bin .lss 3 (.tmp 17) (kI 2))]
def r107_17 : List AOper := [oO 19 (.index false 2 1 (.tmp 16) (.tmp 17)), oM 8 19]
def r107_19 : List AOper := [oM 20 8, oM 21 8, oO 22 (.bin .neq 112 (.tmp 20) (.tmp 21)), oM 23 22, oG 24 (.mv (.tmp 8)) 23 false, oG 25 (.mv (.tmp 8)) 23 false, oG 26 (.bin .sub 112 (.tmp 24) (.tmp 25)) 23 false, oG 27 (.bin .neq 112 (.tmp 26) (.const (.float Go.FloatKind.f64 0))) 23 false, oO 28 (.pick (.tmp 23) (.const (.bool true)) (.tmp 27)), oM 29 28, oG 30 (.mv (.tmp 8)) 29 false, oG 31 (.bin .lss 112 (.tmp 30) (.const (.float Go.FloatKind.f64 4845873199050653696))) 29 false, oG 32 (.mv (.tmp 31)) 29 false, oG 33 (.mv (.tmp 8)) 32 true, oG 34 (.bin .gtr 112 (.tmp 33) (.const (.float Go.FloatKind.f64 14069245235905429504))) 32 true, oG 35 (.pick (.tmp 32) (.tmp 34) (.const (.bool false))) 29 false, oG 36 (.mv (.tmp 35)) 29 false, oG 37 (.mv (.tmp 8)) 36 true, oG 38 (.pure (oB (.convert 112 3 (.tmp 37)) 3)) 36 true, oG 39 (.pure (oB (.convert 3 112 (.tmp 38)) 112)) 36 true, oG 40 (.mv (.tmp 8)) 36 true, oG 41 (.bin .neq 112 (.tmp 39) (.tmp 40)) 36 true, oG 42 (.pick (.tmp 36) (.tmp 41) (.const (.bool false))) 29 false, oO 43 (.pick (.tmp 29) (.const (.bool true)) (.tmp 42))]
def r107_22 : List AOper := [oO 44 (.build [(cI 0), (cI 0)] []), oD (.store 2 (.tmp 4) (.tmp 44)), oO 5 (.mv (kI 27))]
def r107_23 : List AOper := [oO 45 (.bin .add 3 (.tmp 17) (kI 1)), oM 17 45]
def r107_26 : List AOper := [oO 46 (.load true 2 (.tmp 6)), oO 47 (.mv (kI 0))]
def td107_28 : Option Tidy := (tO [1, 4, 6, 46, 47])
def r107_30 : List AOper := [oO 48 (.bin .lss 3 (.tmp 47) (kI 2))]
def r107_36 : List AOper := [oO 49 (.index false 2 1 (.tmp 46) (.tmp 47)), oM 10 49]
def r107_38 : List AOper := [oM 50 10, oM 51 1, oO 52 (.pure (oB (.convert 3 112 (.tmp 51)) 112)), oO 53 (.bin .gtr 112 (.tmp 50) (.tmp 52)), oM 54 53, oG 55 (.mv (.tmp 10)) 54 false, oG 56 (.mv (.tmp 1)) 54 false, oG 57 (.pure (oB (.convert 3 112 (.tmp 56)) 112)) 54 false, oG 58 (.pure (oB (.unOp .neg 112 (.tmp 57)) 112)) 54 false, oG 59 (.bin .lss 112 (.tmp 55) (.tmp 58)) 54 false, oO 60 (.pick (.tmp 54) (.const (.bool true)) (.tmp 59))]
def r107_41 : List AOper := [oO 61 (.build [(cI 0), (cI 0)] []), oD (.store 2 (.tmp 4) (.tmp 61)), oO 5 (.mv (kI 2))]
def r107_42 : List AOper := [oO 62 (.bin .add 3 (.tmp 47) (kI 1)), oM 47 62]
def r107_44 : List AOper := [oO 63 (.iaddr 1 (some 2) (.tmp 6) (kI 0)), oO 64 (.load false 1 (.tmp 63)), oO 65 (.pure (oB (.convert 112 3 (.tmp 64)) 3)), oO 66 (.iaddr 1 (some 2) (.tmp 6) (kI 1)), oO 67 (.load false 1 (.tmp 66)), oO 68 (.pure (oB (.convert 112 3 (.tmp 67)) 3)), oO 69 (.build [(cI 0), (cI 0)] [(0, 1, (.tmp 65)), (1, 1, (.tmp 68))]), oD (.store 2 (.tmp 4) (.tmp 69)), oO 5 (.mv (kI 0))]
def tr107 : List (Nat × Tidy) := [tT 0 [0, 1, 4], tT 1 [1, 4, 6], tT 2 [1, 4, 6, 16, 17], tT 3 [1, 4, 6, 16, 17, 18], tT 4 [1, 4, 6, 8, 16, 17], tT 5 [1, 4, 6, 16, 17, 43], tT 6 [4, 5], tT 7 [1, 4, 6, 16, 17], tT 8 [1, 4, 6, 46, 47], tT 9 [1, 4, 6, 46, 47, 48], tT 10 [1, 4, 6, 10, 46, 47], tT 11 [1, 4, 6, 46, 47, 60], tT 12 [4, 5], tT 13 [1, 4, 6, 46, 47], tT 14 [4, 5]]
def tl107 : List (Nat × Tidy) := [tT 3 [1, 4, 6, 16, 17], tT 9 [1, 4, 6, 46, 47]]
def rs107 : List AResV := [.cell 4 true 2, .tmp 5]
def p107_0_0 : PT St := pS [sl 1 (aV false [(cD (dI .i64))]), sl 4 (aV false [(cPtr 4 0)]), sl 6 (aV false [(cPtr 6 0)]), sl 16 (aV true [(cD (dF .f64)), (cD (dF .f64))]), sl 17 (aV false [(cD (dI .i64))]), sl 18 (aV false [(cD dB)])] [eBox 4 [(cD (dI .i64)), (cD (dI .i64))], eBox 6 [(cD (dF .f64)), (cD (dF .f64))]]
def u107_0_0 {β : Type} (g : St → β) : Int → Nat → Nat → Int → Bool → Int → Int → Nat → Nat → β := p107_0_0.unc g
def p107_0_1 : PT St := pS [sl 1 (aV false [(cD (dI .i64))]), sl 4 (aV false [(cPtr 4 0)]), sl 6 (aV false [(cPtr 6 0)]), sl 8 (aV false [(cD (dF .f64))]), sl 16 (aV true [(cD (dF .f64)), (cD (dF .f64))]), sl 17 (aV false [(cD (dI .i64))])] [eBox 4 [(cD (dI .i64)), (cD (dI .i64))], eBox 6 [(cD (dF .f64)), (cD (dF .f64))]]
def u107_0_1 {β : Type} (g : St → β) : Int → Nat → Nat → Nat → Int → Int → Int → Nat → Nat → β := p107_0_1.unc g
def p107_0_2 : PT St := pS [sl 1 (aV false [(cD (dI .i64))]), sl 4 (aV false [(cPtr 4 0)]), sl 6 (aV false [(cPtr 6 0)]), sl 16 (aV true [(cD (dF .f64)), (cD (dF .f64))]), sl 17 (aV false [(cD (dI .i64))]), sl 43 (aV false [(cD dB)])] [eBox 4 [(cD (dI .i64)), (cD (dI .i64))], eBox 6 [(cD (dF .f64)), (cD (dF .f64))]]
def u107_0_2 {β : Type} (g : St → β) : Int → Nat → Nat → Int → Bool → Int → Int → Nat → Nat → β := p107_0_2.unc g
def p107_0_3 : PT St := pS [sl 1 (aV false [(cD (dI .i64))]), sl 4 (aV false [(cPtr 4 0)]), sl 6 (aV false [(cPtr 6 0)]), sl 16 (aV true [(cD (dF .f64)), (cD (dF .f64))]), sl 17 (aV false [(cD (dI .i64))])] [eBox 4 [(cD (dI .i64)), (cD (dI .i64))], eBox 6 [(cD (dF .f64)), (cD (dF .f64))]]
def u107_0_3 {β : Type} (g : St → β) : Int → Nat → Nat → Int → Int → Int → Nat → Nat → β := p107_0_3.unc g
def p107_0_4 : PT St := pS [sl 4 (aV false [(cPtr 4 0)]), sl 5 (aV false [(cD (dI .i64))])] [eBox 4 [(cD (dI .i64)), (cD (dI .i64))]]
def u107_0_4 {β : Type} (g : St → β) : Int → Int → Int → β := p107_0_4.unc g
def p107_0_5 : PT St := pS [sl 1 (aV false [(cD (dI .i64))]), sl 4 (aV false [(cPtr 4 0)]), sl 6 (aV false [(cPtr 6 0)]), sl 46 (aV true [(cD (dF .f64)), (cD (dF .f64))]), sl 47 (aV false [(cD (dI .i64))]), sl 48 (aV false [(cD dB)])] [eBox 4 [(cD (dI .i64)), (cD (dI .i64))], eBox 6 [(cD (dF .f64)), (cD (dF .f64))]]
def u107_0_5 {β : Type} (g : St → β) : Int → Nat → Nat → Int → Bool → Int → Int → Nat → Nat → β := p107_0_5.unc g
def p107_0_6 : PT St := pS [sl 1 (aV false [(cD (dI .i64))]), sl 4 (aV false [(cPtr 4 0)]), sl 6 (aV false [(cPtr 6 0)]), sl 10 (aV false [(cD (dF .f64))]), sl 46 (aV true [(cD (dF .f64)), (cD (dF .f64))]), sl 47 (aV false [(cD (dI .i64))])] [eBox 4 [(cD (dI .i64)), (cD (dI .i64))], eBox 6 [(cD (dF .f64)), (cD (dF .f64))]]
def u107_0_6 {β : Type} (g : St → β) : Int → Nat → Nat → Nat → Int → Int → Int → Nat → Nat → β := p107_0_6.unc g
def p107_0_7 : PT St := pS [sl 1 (aV false [(cD (dI .i64))]), sl 4 (aV false [(cPtr 4 0)]), sl 6 (aV false [(cPtr 6 0)]), sl 46 (aV true [(cD (dF .f64)), (cD (dF .f64))]), sl 47 (aV false [(cD (dI .i64))])] [eBox 4 [(cD (dI .i64)), (cD (dI .i64))], eBox 6 [(cD (dF .f64)), (cD (dF .f64))]]
def u107_0_7 {β : Type} (g : St → β) : Int → Nat → Nat → Int → Int → Int → Nat → Nat → β := p107_0_7.unc g
def pr107_0_0 : PT (List RV) := pRs [pR true [rD (dI .i64), rD (dI .i64)], pR false [rD (dI .i64)]]
def ur107_0_0 {β : Type} (g : List RV → β) : Int → Int → Int → β := pr107_0_0.unc g
def E107_0g  : EnvK := EnvK.of [] noSeq
noncomputable def E107_0 : EnvK := E107_0g 
theorem eo107_0 : E107_0.Ok Try.prog := EnvK.of_ok noSeq_ok trivial
noncomputable def c107_0_35g  : MCode := (.region r107_36 [] (tO [1, 4, 6, 10, 46, 47]))
noncomputable def c107_0_35 : MCode := c107_0_35g 
theorem g107_0_35 : c107_0_35.Good Try.prog E107_0 sh107 := trivial
--CODE 35 0
abbrev TJ107_0_3 : Type 1 := (α : Type) → Nat → Nat → Int → (Nat → Option α) → Option α
def J107_0_3g  (α : Type) (x52 x53 : Nat) (x54 : Int) (k1 : Nat → Option α) : Option α :=
 cK (x54 == 1)
 (k1 x53)
 (cK (x54 == 0)
 (k1 x52)
 (none))
noncomputable def J107_0_3 (α : Type) (x52 x53 : Nat) (x54 : Int) (k1 : Nat → Option α) : Option α := J107_0_3g  α x52 x53 x54 k1
def F107_0_3 (v : TJ107_0_3) (α : Type) (K : Exit → St → Option α) : Int → Nat → Nat → Int → Bool → Int → Int → Nat → Nat → Option α := fun x51 x52 x53 x54 x55 x56 x57 x58 x59 => v α x52 x53 x54 (fun (y1 : Nat) => u107_0_6 (K .normal) x51 y1 x52 x53 x54 x56 x57 x58 x59) 
theorem m107_0_3g   (α : Type) (K : Exit → St → Option α) : F107_0_3 (J107_0_3g ) α K = p107_0_5.unc fun σ => runM Try.prog (E107_0g ) sh107 (c107_0_35g ) K σ := by kernel_rfl
theorem m107_0_3 : ∀ (α : Type) (K : Exit → St → Option α), F107_0_3 J107_0_3 α K = p107_0_5.unc fun σ => runM Try.prog E107_0 sh107 c107_0_35 K σ := m107_0_3g 
noncomputable def c107_0_28g (vJ107_0_3 : TJ107_0_3) : MCode := (.seq (.region r107_30 [] (tO [1, 4, 6, 46, 47, 48])) (.seq (.cond (.tmp 48) .skip (.exit 2)) (.seq (.block 3 (.seq (.mark [⟨p107_0_5, F107_0_3 vJ107_0_3⟩] c107_0_35) (.seq (.region r107_38 [] (tO [1, 4, 6, 46, 47, 60])) (.cond (.tmp 60) (.seq (.region r107_41 [] (tO [4, 5])) .ret) .skip)))) (.region r107_42 [] (tO [1, 4, 6, 46, 47])))))
noncomputable def c107_0_28 : MCode := c107_0_28g J107_0_3
theorem g107_0_28 : c107_0_28.Good Try.prog E107_0 sh107 := ⟨trivial, ⟨⟨trivial, trivial⟩, ⟨⟨⟨g107_0_35, m107_0_3, trivial⟩, ⟨trivial, ⟨⟨trivial, trivial⟩, trivial⟩⟩⟩, trivial⟩⟩⟩
--CODE 28 0
def S107_0_4g (vJ107_0_3 : TJ107_0_3) (α : Type) (x42 : Int) (x43 x44 : Nat) (x45 : Int) (kn : Int → Option α) (k1 : Option α) (k2 : Int → Bool → Option α) : Option α :=
 cK (decide (x45 < 2))
 (vJ107_0_3 α x43 x44 x45
 (fun x61 => cK ((FloatKind.format .f64).order x61 (FloatKind.nearest .f64 x42) == some Ordering.gt)
 (k1)
 (cK ((FloatKind.format .f64).order x61 (Op.negFloat .f64 (FloatKind.nearest .f64 x42)) == some Ordering.lt)
 (k1)
 (kn (w64 (x45 + 1))))))
 (k2 x45 (decide (x45 < 2)))
noncomputable def S107_0_4 (α : Type) (x42 : Int) (x43 x44 : Nat) (x45 : Int) (kn : Int → Option α) (k1 : Option α) (k2 : Int → Bool → Option α) : Option α := S107_0_4g J107_0_3 α x42 x43 x44 x45 kn k1 k2
noncomputable def R107_0_4 (α : Type) (x42 : Int) (x43 x44 : Nat) (k1 : Option α) (k2 : Int → Bool → Option α) : Nat → Int → Option α
 | 0, _ => none
 | n + 1, x45 => S107_0_4 α x42 x43 x44 x45 (R107_0_4 α x42 x43 x44 k1 k2 n) k1 k2
noncomputable def L107_0_4 (α : Type) (x42 : Int) (x43 x44 : Nat) (k1 : Option α) (k2 : Int → Bool → Option α) (x45 : Int) : Option α := R107_0_4 α x42 x43 x44 k1 k2 fuel x45
abbrev TL107_0_4 : Type 1 := (α : Type) → Int → Nat → Nat → (Option α) → (Int → Bool → Option α) → Int → Option α
def F107_0_4 (v : TL107_0_4) (α : Type) (K : Exit → St → Option α) : Int → Nat → Nat → Int → Int → Int → Nat → Nat → Option α := fun x42 x43 x44 x45 x46 x47 x48 x49 => v α x42 x43 x44 (u107_0_4 (K .ret) 2 0 0) (fun (y1 : Int) (y2 : Bool) => u107_0_5 (K (.exit 2)) x42 x43 x44 y1 y2 x46 x47 x48 x49) x45
theorem r107_0_4g  (vJ107_0_3 : TJ107_0_3) (α : Type) (K : Exit → St → Option α) (Kn : St → Option α) (x42 : Int) (x43 x44 : Nat) (x45 x46 x47 : Int) (x48 x49 : Nat) : u107_0_7 (fun σ => runM Try.prog (E107_0g ) sh107 (c107_0_28g vJ107_0_3) (thenK (fun σ => tidyK td107_28 σ Kn) K) σ) x42 x43 x44 x45 x46 x47 x48 x49 = S107_0_4g vJ107_0_3 α x42 x43 x44 x45 (fun x45 => u107_0_7 Kn x42 x43 x44 x45 x46 x47 x48 x49) (u107_0_4 (K .ret) 2 0 0) (fun (y1 : Int) (y2 : Bool) => u107_0_5 (K (.exit 2)) x42 x43 x44 y1 y2 x46 x47 x48 x49) := by kernel_rfl
theorem r107_0_4 (α : Type) (K : Exit → St → Option α) (Kn : St → Option α) (x42 : Int) (x43 x44 : Nat) (x45 x46 x47 : Int) (x48 x49 : Nat) : u107_0_7 (fun σ => runM Try.prog E107_0 sh107 c107_0_28 (thenK (fun σ => tidyK td107_28 σ Kn) K) σ) x42 x43 x44 x45 x46 x47 x48 x49 = S107_0_4 α x42 x43 x44 x45 (fun x45 => u107_0_7 Kn x42 x43 x44 x45 x46 x47 x48 x49) (u107_0_4 (K .ret) 2 0 0) (fun (y1 : Int) (y2 : Bool) => u107_0_5 (K (.exit 2)) x42 x43 x44 y1 y2 x46 x47 x48 x49) := r107_0_4g J107_0_3 α K Kn x42 x43 x44 x45 x46 x47 x48 x49
theorem t107_0_4 (α : Type) (K : Exit → St → Option α) : ∀ (n : Nat) (x42 : Int) (x43 x44 : Nat) (x45 x46 x47 : Int) (x48 x49 : Nat), R107_0_4 α x42 x43 x44 (u107_0_4 (K .ret) 2 0 0) (fun (y1 : Int) (y2 : Bool) => u107_0_5 (K (.exit 2)) x42 x43 x44 y1 y2 x46 x47 x48 x49) n x45 = u107_0_7 (loopT (runM Try.prog E107_0 sh107 c107_0_28) td107_28 K n) x42 x43 x44 x45 x46 x47 x48 x49 := by
 intro n
 induction n with
 | zero => intros; rfl
 | succ n ih => intro x42 x43 x44 x45 x46 x47 x48 x49; exact (congrArg (fun kn => S107_0_4 α x42 x43 x44 x45 kn (u107_0_4 (K .ret) 2 0 0) (fun (y1 : Int) (y2 : Bool) => u107_0_5 (K (.exit 2)) x42 x43 x44 y1 y2 x46 x47 x48 x49)) (funext fun x45 => ih x42 x43 x44 x45 x46 x47 x48 x49)).trans (r107_0_4 α K (loopT (runM Try.prog E107_0 sh107 c107_0_28) td107_28 K n) x42 x43 x44 x45 x46 x47 x48 x49).symm
theorem m107_0_4 : ∀ (α : Type) (K : Exit → St → Option α), F107_0_4 L107_0_4 α K = p107_0_7.unc fun σ => loopT (runM Try.prog E107_0 sh107 c107_0_28) td107_28 K fuel σ := fun α K => funext fun x42 => funext fun x43 => funext fun x44 => funext fun x45 => funext fun x46 => funext fun x47 => funext fun x48 => funext fun x49 => t107_0_4 α K fuel x42 x43 x44 x45 x46 x47 x48 x49
noncomputable def c107_0_18g  : MCode := (.region r107_19 [] (tO [1, 4, 6, 16, 17, 43]))
noncomputable def c107_0_18 : MCode := c107_0_18g 
theorem g107_0_18 : c107_0_18.Good Try.prog E107_0 sh107 := trivial
--CODE 18 0
abbrev TJ107_0_1 : Type 1 := (α : Type) → Nat → (Bool → Option α) → Option α
def J107_0_1g  (α : Type) (x26 : Nat) (k1 : Bool → Option α) : Option α :=
 cK ((FloatKind.format .f64).order x26 x26 != some Ordering.eq)
 (k1 true)
 (flN ((FloatKind.format .f64).sub x26 x26)
 (fun x35 => cK ((FloatKind.format .f64).order x35 0 != some Ordering.eq)
 (k1 true)
 (cK ((FloatKind.format .f64).order x26 4845873199050653696 == some Ordering.lt)
 (cK ((FloatKind.format .f64).order x26 14069245235905429504 == some Ordering.gt)
 (ivK (f2i .f64 x26 .i64)
 (fun x36 => k1 ((FloatKind.format .f64).order (FloatKind.nearest .f64 x36) x26 != some Ordering.eq)))
 (k1 false))
 (k1 false)))
 (k1 true))
noncomputable def J107_0_1 (α : Type) (x26 : Nat) (k1 : Bool → Option α) : Option α := J107_0_1g  α x26 k1
def F107_0_1 (v : TJ107_0_1) (α : Type) (K : Exit → St → Option α) : Int → Nat → Nat → Nat → Int → Int → Int → Nat → Nat → Option α := fun x25 x26 x27 x28 x29 x30 x31 x32 x33 => v α x26 (fun (y1 : Bool) => u107_0_2 (K .normal) x25 x27 x28 x29 y1 x30 x31 x32 x33) 
theorem m107_0_1g   (α : Type) (K : Exit → St → Option α) : F107_0_1 (J107_0_1g ) α K = p107_0_1.unc fun σ => runM Try.prog (E107_0g ) sh107 (c107_0_18g ) K σ := by kernel_rfl
theorem m107_0_1 : ∀ (α : Type) (K : Exit → St → Option α), F107_0_1 J107_0_1 α K = p107_0_1.unc fun σ => runM Try.prog E107_0 sh107 c107_0_18 K σ := m107_0_1g 
noncomputable def c107_0_16g  : MCode := (.region r107_17 [] (tO [1, 4, 6, 8, 16, 17]))
noncomputable def c107_0_16 : MCode := c107_0_16g 
theorem g107_0_16 : c107_0_16.Good Try.prog E107_0 sh107 := trivial
--CODE 16 0
abbrev TJ107_0_0 : Type 1 := (α : Type) → Nat → Nat → Int → (Nat → Option α) → Option α
def J107_0_0g  (α : Type) (x14 x15 : Nat) (x16 : Int) (k1 : Nat → Option α) : Option α :=
 cK (x16 == 1)
 (k1 x15)
 (cK (x16 == 0)
 (k1 x14)
 (none))
noncomputable def J107_0_0 (α : Type) (x14 x15 : Nat) (x16 : Int) (k1 : Nat → Option α) : Option α := J107_0_0g  α x14 x15 x16 k1
def F107_0_0 (v : TJ107_0_0) (α : Type) (K : Exit → St → Option α) : Int → Nat → Nat → Int → Bool → Int → Int → Nat → Nat → Option α := fun x13 x14 x15 x16 x17 x18 x19 x20 x21 => v α x14 x15 x16 (fun (y1 : Nat) => u107_0_1 (K .normal) x13 y1 x14 x15 x16 x18 x19 x20 x21) 
theorem m107_0_0g   (α : Type) (K : Exit → St → Option α) : F107_0_0 (J107_0_0g ) α K = p107_0_0.unc fun σ => runM Try.prog (E107_0g ) sh107 (c107_0_16g ) K σ := by kernel_rfl
theorem m107_0_0 : ∀ (α : Type) (K : Exit → St → Option α), F107_0_0 J107_0_0 α K = p107_0_0.unc fun σ => runM Try.prog E107_0 sh107 c107_0_16 K σ := m107_0_0g 
noncomputable def c107_0_9g (vJ107_0_0 : TJ107_0_0) (vJ107_0_1 : TJ107_0_1) : MCode := (.seq (.region r107_11 [] (tO [1, 4, 6, 16, 17, 18])) (.seq (.cond (.tmp 18) .skip (.exit 0)) (.seq (.block 1 (.seq (.mark [⟨p107_0_0, F107_0_0 vJ107_0_0⟩] c107_0_16) (.seq (.mark [⟨p107_0_1, F107_0_1 vJ107_0_1⟩] c107_0_18) (.cond (.tmp 43) (.seq (.region r107_22 [] (tO [4, 5])) .ret) .skip)))) (.region r107_23 [] (tO [1, 4, 6, 16, 17])))))
noncomputable def c107_0_9 : MCode := c107_0_9g J107_0_0 J107_0_1
theorem g107_0_9 : c107_0_9.Good Try.prog E107_0 sh107 := ⟨trivial, ⟨⟨trivial, trivial⟩, ⟨⟨⟨g107_0_16, m107_0_0, trivial⟩, ⟨⟨g107_0_18, m107_0_1, trivial⟩, ⟨⟨trivial, trivial⟩, trivial⟩⟩⟩, trivial⟩⟩⟩
--CODE 9 0
def S107_0_2g (vJ107_0_0 : TJ107_0_0) (vJ107_0_1 : TJ107_0_1) (α : Type) (x5 x6 : Nat) (x7 : Int) (kn : Int → Option α) (k1 : Option α) (k2 : Int → Bool → Option α) : Option α :=
 cK (decide (x7 < 2))
 (vJ107_0_0 α x5 x6 x7
 (fun x23 => vJ107_0_1 α x23
 (fun x37 => cK x37
 (k1)
 (kn (w64 (x7 + 1))))))
 (k2 x7 (decide (x7 < 2)))
noncomputable def S107_0_2 (α : Type) (x5 x6 : Nat) (x7 : Int) (kn : Int → Option α) (k1 : Option α) (k2 : Int → Bool → Option α) : Option α := S107_0_2g J107_0_0 J107_0_1 α x5 x6 x7 kn k1 k2
noncomputable def R107_0_2 (α : Type) (x5 x6 : Nat) (k1 : Option α) (k2 : Int → Bool → Option α) : Nat → Int → Option α
 | 0, _ => none
 | n + 1, x7 => S107_0_2 α x5 x6 x7 (R107_0_2 α x5 x6 k1 k2 n) k1 k2
noncomputable def L107_0_2 (α : Type) (x5 x6 : Nat) (k1 : Option α) (k2 : Int → Bool → Option α) (x7 : Int) : Option α := R107_0_2 α x5 x6 k1 k2 fuel x7
abbrev TL107_0_2 : Type 1 := (α : Type) → Nat → Nat → (Option α) → (Int → Bool → Option α) → Int → Option α
def F107_0_2 (v : TL107_0_2) (α : Type) (K : Exit → St → Option α) : Int → Nat → Nat → Int → Int → Int → Nat → Nat → Option α := fun x4 x5 x6 x7 x8 x9 x10 x11 => v α x5 x6 (u107_0_4 (K .ret) 27 0 0) (fun (y1 : Int) (y2 : Bool) => u107_0_0 (K (.exit 0)) x4 x5 x6 y1 y2 x8 x9 x10 x11) x7
theorem r107_0_2g  (vJ107_0_0 : TJ107_0_0) (vJ107_0_1 : TJ107_0_1) (α : Type) (K : Exit → St → Option α) (Kn : St → Option α) (x4 : Int) (x5 x6 : Nat) (x7 x8 x9 : Int) (x10 x11 : Nat) : u107_0_3 (fun σ => runM Try.prog (E107_0g ) sh107 (c107_0_9g vJ107_0_0 vJ107_0_1) (thenK (fun σ => tidyK td107_9 σ Kn) K) σ) x4 x5 x6 x7 x8 x9 x10 x11 = S107_0_2g vJ107_0_0 vJ107_0_1 α x5 x6 x7 (fun x7 => u107_0_3 Kn x4 x5 x6 x7 x8 x9 x10 x11) (u107_0_4 (K .ret) 27 0 0) (fun (y1 : Int) (y2 : Bool) => u107_0_0 (K (.exit 0)) x4 x5 x6 y1 y2 x8 x9 x10 x11) := by kernel_rfl
theorem r107_0_2 (α : Type) (K : Exit → St → Option α) (Kn : St → Option α) (x4 : Int) (x5 x6 : Nat) (x7 x8 x9 : Int) (x10 x11 : Nat) : u107_0_3 (fun σ => runM Try.prog E107_0 sh107 c107_0_9 (thenK (fun σ => tidyK td107_9 σ Kn) K) σ) x4 x5 x6 x7 x8 x9 x10 x11 = S107_0_2 α x5 x6 x7 (fun x7 => u107_0_3 Kn x4 x5 x6 x7 x8 x9 x10 x11) (u107_0_4 (K .ret) 27 0 0) (fun (y1 : Int) (y2 : Bool) => u107_0_0 (K (.exit 0)) x4 x5 x6 y1 y2 x8 x9 x10 x11) := r107_0_2g J107_0_0 J107_0_1 α K Kn x4 x5 x6 x7 x8 x9 x10 x11
theorem t107_0_2 (α : Type) (K : Exit → St → Option α) : ∀ (n : Nat) (x4 : Int) (x5 x6 : Nat) (x7 x8 x9 : Int) (x10 x11 : Nat), R107_0_2 α x5 x6 (u107_0_4 (K .ret) 27 0 0) (fun (y1 : Int) (y2 : Bool) => u107_0_0 (K (.exit 0)) x4 x5 x6 y1 y2 x8 x9 x10 x11) n x7 = u107_0_3 (loopT (runM Try.prog E107_0 sh107 c107_0_9) td107_9 K n) x4 x5 x6 x7 x8 x9 x10 x11 := by
 intro n
 induction n with
 | zero => intros; rfl
 | succ n ih => intro x4 x5 x6 x7 x8 x9 x10 x11; exact (congrArg (fun kn => S107_0_2 α x5 x6 x7 kn (u107_0_4 (K .ret) 27 0 0) (fun (y1 : Int) (y2 : Bool) => u107_0_0 (K (.exit 0)) x4 x5 x6 y1 y2 x8 x9 x10 x11)) (funext fun x7 => ih x4 x5 x6 x7 x8 x9 x10 x11)).trans (r107_0_2 α K (loopT (runM Try.prog E107_0 sh107 c107_0_9) td107_9 K n) x4 x5 x6 x7 x8 x9 x10 x11).symm
theorem m107_0_2 : ∀ (α : Type) (K : Exit → St → Option α), F107_0_2 L107_0_2 α K = p107_0_3.unc fun σ => loopT (runM Try.prog E107_0 sh107 c107_0_9) td107_9 K fuel σ := fun α K => funext fun x4 => funext fun x5 => funext fun x6 => funext fun x7 => funext fun x8 => funext fun x9 => funext fun x10 => funext fun x11 => t107_0_2 α K fuel x4 x5 x6 x7 x8 x9 x10 x11
abbrev Tf107_0 : Type 1 := (α : Type) → Nat → Nat → Int → (Int → Int → Int → Option α) → Option α
def f107_0g (vL107_0_2 : TL107_0_2) (vL107_0_4 : TL107_0_4) (α : Type) (x1 x2 : Nat) (x3 : Int) (k1 : Int → Int → Int → Option α) : Option α :=
 vL107_0_2 α x1 x2
 (k1 0 0 27)
 (fun x39 x40 => vL107_0_4 α x3 x1 x2
 (k1 0 0 2)
 (fun x63 x64 => ivK (f2i .f64 x1 .i64)
 (fun x66 => ivK (f2i .f64 x2 .i64)
 (fun x67 => k1 x66 x67 0))) 0) 0
noncomputable def f107_0 (α : Type) (x1 x2 : Nat) (x3 : Int) (k1 : Int → Int → Int → Option α) : Option α := f107_0g L107_0_2 L107_0_4 α x1 x2 x3 k1
def pa107_0 : PT (List DV) := pA [pV false [(dX .f64)], pV false [(dI .i64)]]
def Fn107_0 (v : Tf107_0) (α : Type) (k : List RV → Option α) : Nat → Nat → Int → Option α := fun x1 x2 x3 => v α x1 x2 x3 (fun (y1 : Int) (y2 : Int) (y3 : Int) => ur107_0_0 k y1 y2 y3)
noncomputable def cm107_0g (vL107_0_2 : TL107_0_2) (vL107_0_4 : TL107_0_4) : MCode := (.seq (.region r107_2 [] (tO [0, 1, 4])) (.seq (.region r107_4 [] (tO [1, 4, 6])) (.seq (.seq (.region r107_7 [] (tO [1, 4, 6, 16, 17])) (.block 0 (.loop td107_9 [⟨p107_0_3, F107_0_2 vL107_0_2⟩] c107_0_9))) (.seq (.seq (.region r107_26 [] (tO [1, 4, 6, 46, 47])) (.block 2 (.loop td107_28 [⟨p107_0_7, F107_0_4 vL107_0_4⟩] c107_0_28))) (.seq (.region r107_44 [] (tO [4, 5])) .ret)))))
noncomputable def cm107_0 : MCode := cm107_0g L107_0_2 L107_0_4
theorem gm107_0 : cm107_0.Good Try.prog E107_0 sh107 := ⟨trivial, ⟨trivial, ⟨⟨trivial, ⟨g107_0_9, m107_0_2, trivial⟩⟩, ⟨⟨trivial, ⟨g107_0_28, m107_0_4, trivial⟩⟩, ⟨trivial, trivial⟩⟩⟩⟩⟩
theorem fm107_0g  (vL107_0_2 : TL107_0_2) (vL107_0_4 : TL107_0_4) (α : Type) (k : List RV → Option α) : Fn107_0 (f107_0g vL107_0_2 vL107_0_4) α k = pa107_0.unc fun ds => fnM Try.prog (E107_0g ) sh107 (cm107_0g vL107_0_2 vL107_0_4) rs107 k ds := by kernel_rfl
theorem fm107_0 : ∀ (α : Type) (k : List RV → Option α), Fn107_0 f107_0 α k = pa107_0.unc fun ds => fnM Try.prog E107_0 sh107 cm107_0 rs107 k ds := fm107_0g L107_0_2 L107_0_4
theorem is107 : FnIs Try.prog 107 nt107 tr107 tl107 cm107_0.erase rs107 := ⟨Try.f107, Try.func107, rfl, by kernel_rfl, by kernel_rfl, by kernel_rfl⟩
theorem io107_0 : InstOk Try.prog 107 nt107 ⟨pa107_0, Fn107_0 f107_0⟩ := inst_ok eo107_0 followsTry is107 ⟨⟨sh107, cm107_0, by kernel_rfl, gm107_0, fm107_0⟩⟩
abbrev nt103 : Nat := 10
def sh103 : List (Nat × List Sh) := [(4, [.int .i64, .int .i64]), (6, [.int .i64, .int .i64]), (8, [.int .i64, .int .i64])]
def r103_2 : List AOper := [oO 1 (.box (.tmp 0)), oO 2 (.alloc [(cI 0), (cI 0), (cI 0), (cI 0), (cI 0), (cI 0)])]
def r103_4 : List AOper := [oO 3 (.faddr 4 (.tmp 1)), oO 4 (.load true 2 (.tmp 3)), oO 5 (.faddr 6 (.tmp 1)), oO 6 (.load true 2 (.tmp 5)), oO 7 (.faddr 8 (.tmp 1)), oO 8 (.load true 2 (.tmp 7)), oO 9 (.build [(cI 0), (cI 0), (cI 0), (cI 0), (cI 0), (cI 0)] [(0, 2, (.tmp 4)), (2, 2, (.tmp 6)), (4, 2, (.tmp 8))]), oD (.store 6 (.tmp 2) (.tmp 9))]
def tr103 : List (Nat × Tidy) := [tT 0 [1, 2], tT 1 [2]]
def tl103 : List (Nat × Tidy) := []
def rs103 : List AResV := [.cell 2 true 6]
def pr103_0_0 : PT (List RV) := pRs [pR true [rD (dI .i64), rD (dI .i64), rD (dI .i64), rD (dI .i64), rD (dI .i64), rD (dI .i64)]]
def ur103_0_0 {β : Type} (g : List RV → β) : Int → Int → Int → Int → Int → Int → β := pr103_0_0.unc g
def E103_0g  : EnvK := EnvK.of [] noSeq
noncomputable def E103_0 : EnvK := E103_0g 
theorem eo103_0 : E103_0.Ok Try.prog := EnvK.of_ok noSeq_ok trivial
abbrev Tf103_0 : Type 1 := (α : Type) → ByteArray → Int → Int → Int → Int → Int → Int → Int → Int → Int → (Int → Int → Int → Int → Int → Int → Option α) → Option α
def f103_0g  (α : Type) (x1 : ByteArray) (x2 x3 x4 x5 x6 x7 x8 x9 x10 : Int) (k1 : Int → Int → Int → Int → Int → Int → Option α) : Option α :=
 k1 x5 x6 x7 x8 x9 x10
noncomputable def f103_0 (α : Type) (x1 : ByteArray) (x2 x3 x4 x5 x6 x7 x8 x9 x10 : Int) (k1 : Int → Int → Int → Int → Int → Int → Option α) : Option α := f103_0g  α x1 x2 x3 x4 x5 x6 x7 x8 x9 x10 k1
def pa103_0 : PT (List DV) := pA [pV true [dS, (dI .i64), (dI .i64), (dI .i64), (dI .i64), (dI .i64), (dI .i64), (dI .i64), (dI .i64), (dI .i64)]]
def Fn103_0 (v : Tf103_0) (α : Type) (k : List RV → Option α) : ByteArray → Int → Int → Int → Int → Int → Int → Int → Int → Int → Option α := fun x1 x2 x3 x4 x5 x6 x7 x8 x9 x10 => v α x1 x2 x3 x4 x5 x6 x7 x8 x9 x10 (fun (y1 : Int) (y2 : Int) (y3 : Int) (y4 : Int) (y5 : Int) (y6 : Int) => ur103_0_0 k y1 y2 y3 y4 y5 y6)
noncomputable def cm103_0g  : MCode := (.seq (.region r103_2 [] (tO [1, 2])) (.seq (.region r103_4 [] (tO [2])) .ret))
noncomputable def cm103_0 : MCode := cm103_0g 
theorem gm103_0 : cm103_0.Good Try.prog E103_0 sh103 := ⟨trivial, ⟨trivial, trivial⟩⟩
theorem fm103_0g   (α : Type) (k : List RV → Option α) : Fn103_0 (f103_0g ) α k = pa103_0.unc fun ds => fnM Try.prog (E103_0g ) sh103 (cm103_0g ) rs103 k ds := by kernel_rfl
theorem fm103_0 : ∀ (α : Type) (k : List RV → Option α), Fn103_0 f103_0 α k = pa103_0.unc fun ds => fnM Try.prog E103_0 sh103 cm103_0 rs103 k ds := fm103_0g 
theorem is103 : FnIs Try.prog 103 nt103 tr103 tl103 cm103_0.erase rs103 := ⟨Try.f103, Try.func103, rfl, by kernel_rfl, by kernel_rfl, by kernel_rfl⟩
theorem io103_0 : InstOk Try.prog 103 nt103 ⟨pa103_0, Fn103_0 f103_0⟩ := inst_ok eo103_0 followsTry is103 ⟨⟨sh103, cm103_0, by kernel_rfl, gm103_0, fm103_0⟩⟩
abbrev nt123 : Nat := 55
def sh123 : List (Nat × List Sh) := []
def r123_2 : List AOper := [oO 2 (.mv (.const (.bool false)))]
def r123_5 : List AOper := [oM 6 0, oO 7 (.pure (oB (.call { callee := .builtin .len, args := #[(.tmp 6)], argTypes := #[9] }) 3)), oO 8 (.bin .lss 3 (.tmp 7) (kI 1)), oM 9 8, oG 10 (.mv (.tmp 0)) 9 false, oG 11 (.pure (oB (.call { callee := .builtin .len, args := #[(.tmp 10)], argTypes := #[9] }) 3)) 9 false, oG 12 (.bin .gtr 3 (.tmp 11) (kI 12)) 9 false, oO 13 (.pick (.tmp 9) (.const (.bool true)) (.tmp 12))]
def r123_8 : List AOper := [oO 2 (.mv (.const (.bool false)))]
def r123_11 : List AOper := [oO 3 (.mv (kI 0))]
def td123_13 : Option Tidy := (tO [0, 3])
def r123_16 : List AOper := [oM 14 3, oM 15 0, oO 16 (.pure (oB (.call { callee := .builtin .len, args := #[(.tmp 15)], argTypes := #[9] }) 3)), oO 17 (.bin .lss 3 (.tmp 14) (.tmp 16))]
def r123_21 : List AOper := [oM 20 0, oM 21 3, oO 22 (.pure (oB (.index 9 (.tmp 20) (.tmp 21)) 5)), oM 4 22]
def r123_23 : List AOper := [oM 23 4, oO 24 (.bin .geq 5 (.tmp 23) (.const (.int .u8 97))), oM 25 24, oG 26 (.mv (.tmp 4)) 25 true, oG 27 (.bin .leq 5 (.tmp 26) (.const (.int .u8 122))) 25 true, oO 28 (.pick (.tmp 25) (.tmp 27) (.const (.bool false))), oM 29 28, oG 30 (.mv (.tmp 4)) 29 false, oG 31 (.bin .geq 5 (.tmp 30) (.const (.int .u8 65))) 29 false, oG 32 (.mv (.tmp 31)) 29 false, oG 33 (.mv (.tmp 4)) 32 true, oG 34 (.bin .leq 5 (.tmp 33) (.const (.int .u8 90))) 32 true, oG 35 (.pick (.tmp 32) (.tmp 34) (.const (.bool false))) 29 false, oO 36 (.pick (.tmp 29) (.const (.bool true)) (.tmp 35)), oM 5 36]
def r123_25 : List AOper := [oM 37 5, oO 38 (.pure (oB (.unOp .not 4 (.tmp 37)) 4)), oM 39 38, oG 40 (.mv (.tmp 3)) 39 true, oG 41 (.bin .eql 3 (.tmp 40) (kI 0)) 39 true, oG 42 (.mv (.tmp 41)) 39 true, oG 43 (.mv (.tmp 4)) 42 false, oG 44 (.bin .neq 5 (.tmp 43) (.const (.int .u8 45))) 42 false, oG 45 (.mv (.tmp 44)) 42 false, oG 46 (.mv (.tmp 4)) 45 true, oG 47 (.bin .lss 5 (.tmp 46) (.const (.int .u8 48))) 45 true, oG 48 (.mv (.tmp 47)) 45 true, oG 49 (.mv (.tmp 4)) 48 false, oG 50 (.bin .gtr 5 (.tmp 49) (.const (.int .u8 57))) 48 false, oG 51 (.pick (.tmp 48) (.const (.bool true)) (.tmp 50)) 45 true, oG 52 (.pick (.tmp 45) (.tmp 51) (.const (.bool false))) 42 false, oG 53 (.pick (.tmp 42) (.const (.bool true)) (.tmp 52)) 39 true, oO 54 (.pick (.tmp 39) (.tmp 53) (.const (.bool false)))]
def r123_28 : List AOper := [oO 2 (.mv (.const (.bool false)))]
def r123_29 : List AOper := [oM 18 3, oO 19 (.bin .add 3 (.tmp 18) (kI 1)), oM 3 19]
def r123_31 : List AOper := [oO 2 (.mv (.const (.bool true)))]
def tr123 : List (Nat × Tidy) := [tT 0 [0], tT 1 [0, 13], tT 2 [2], tT 3 [0, 3], tT 4 [0, 3, 17], tT 6 [0, 3, 4], tT 7 [0, 3, 4, 5], tT 8 [0, 3, 54], tT 9 [2], tT 5 [0, 3], tT 10 [2]]
def tl123 : List (Nat × Tidy) := [tT 4 [0, 3]]
def rs123 : List AResV := [.tmp 2]
def p123_0_0 : PT St := pS [sl 0 (aV false [(cD dS)]), sl 3 (aV false [(cD (dI .i64))]), sl 4 (aV false [(cD (dI .u8))])] []
def u123_0_0 {β : Type} (g : St → β) : ByteArray → Int → Int → β := p123_0_0.unc g
def p123_0_1 : PT St := pS [sl 0 (aV false [(cD dS)]), sl 3 (aV false [(cD (dI .i64))]), sl 4 (aV false [(cD (dI .u8))]), sl 5 (aV false [(cD dB)])] []
def u123_0_1 {β : Type} (g : St → β) : ByteArray → Int → Int → Bool → β := p123_0_1.unc g
def p123_0_2 : PT St := pS [sl 0 (aV false [(cD dS)]), sl 3 (aV false [(cD (dI .i64))]), sl 54 (aV false [(cD dB)])] []
def u123_0_2 {β : Type} (g : St → β) : ByteArray → Int → Bool → β := p123_0_2.unc g
def p123_0_3 : PT St := pS [sl 0 (aV false [(cD dS)]), sl 3 (aV false [(cD (dI .i64))])] []
def u123_0_3 {β : Type} (g : St → β) : ByteArray → Int → β := p123_0_3.unc g
def p123_0_4 : PT St := pS [sl 2 (aV false [(cD dB)])] []
def u123_0_4 {β : Type} (g : St → β) : Bool → β := p123_0_4.unc g
def p123_0_5 : PT St := pS [sl 0 (aV false [(cD dS)]), sl 3 (aV false [(cD (dI .i64))]), sl 17 (aV false [(cD dB)])] []
def u123_0_5 {β : Type} (g : St → β) : ByteArray → Int → Bool → β := p123_0_5.unc g
def pr123_0_0 : PT (List RV) := pRs [pR false [rD dB]]
def ur123_0_0 {β : Type} (g : List RV → β) : Bool → β := pr123_0_0.unc g
def E123_0g  : EnvK := EnvK.of [] noSeq
noncomputable def E123_0 : EnvK := E123_0g 
theorem eo123_0 : E123_0.Ok Try.prog := EnvK.of_ok noSeq_ok trivial
noncomputable def c123_0_24g  : MCode := (.region r123_25 [] (tO [0, 3, 54]))
noncomputable def c123_0_24 : MCode := c123_0_24g 
theorem g123_0_24 : c123_0_24.Good Try.prog E123_0 sh123 := trivial
--CODE 24 0
abbrev TJ123_0_1 : Type 1 := (α : Type) → Int → Int → Bool → (Bool → Option α) → Option α
def J123_0_1g  (α : Type) (x13 x14 : Int) (x15 : Bool) (k1 : Bool → Option α) : Option α :=
 cK (!x15)
 (cK (x13 == 0)
 (k1 true)
 (cK (x14 != 45)
 (cK (decide (x14 < 48))
 (k1 true)
 (k1 (decide (57 < x14))))
 (k1 false)))
 (k1 false)
noncomputable def J123_0_1 (α : Type) (x13 x14 : Int) (x15 : Bool) (k1 : Bool → Option α) : Option α := J123_0_1g  α x13 x14 x15 k1
def F123_0_1 (v : TJ123_0_1) (α : Type) (K : Exit → St → Option α) : ByteArray → Int → Int → Bool → Option α := fun x12 x13 x14 x15 => v α x13 x14 x15 (fun (y1 : Bool) => u123_0_2 (K .normal) x12 x13 y1) 
theorem m123_0_1g   (α : Type) (K : Exit → St → Option α) : F123_0_1 (J123_0_1g ) α K = p123_0_1.unc fun σ => runM Try.prog (E123_0g ) sh123 (c123_0_24g ) K σ := by kernel_rfl
theorem m123_0_1 : ∀ (α : Type) (K : Exit → St → Option α), F123_0_1 J123_0_1 α K = p123_0_1.unc fun σ => runM Try.prog E123_0 sh123 c123_0_24 K σ := m123_0_1g 
noncomputable def c123_0_22g  : MCode := (.region r123_23 [] (tO [0, 3, 4, 5]))
noncomputable def c123_0_22 : MCode := c123_0_22g 
theorem g123_0_22 : c123_0_22.Good Try.prog E123_0 sh123 := trivial
--CODE 22 0
abbrev TJ123_0_0 : Type 1 := (α : Type) → Int → (Bool → Option α) → Option α
def J123_0_0g  (α : Type) (x8 : Int) (k1 : Bool → Option α) : Option α :=
 cK (decide (97 ≤ x8))
 (cK (decide (x8 ≤ 122))
 (k1 true)
 (cK (decide (65 ≤ x8))
 (k1 (decide (x8 ≤ 90)))
 (k1 false)))
 (cK (decide (65 ≤ x8))
 (k1 (decide (x8 ≤ 90)))
 (k1 false))
noncomputable def J123_0_0 (α : Type) (x8 : Int) (k1 : Bool → Option α) : Option α := J123_0_0g  α x8 k1
def F123_0_0 (v : TJ123_0_0) (α : Type) (K : Exit → St → Option α) : ByteArray → Int → Int → Option α := fun x6 x7 x8 => v α x8 (fun (y1 : Bool) => u123_0_1 (K .normal) x6 x7 x8 y1) 
theorem m123_0_0g   (α : Type) (K : Exit → St → Option α) : F123_0_0 (J123_0_0g ) α K = p123_0_0.unc fun σ => runM Try.prog (E123_0g ) sh123 (c123_0_22g ) K σ := by kernel_rfl
theorem m123_0_0 : ∀ (α : Type) (K : Exit → St → Option α), F123_0_0 J123_0_0 α K = p123_0_0.unc fun σ => runM Try.prog E123_0 sh123 c123_0_22 K σ := m123_0_0g 
noncomputable def c123_0_13g (vJ123_0_0 : TJ123_0_0) (vJ123_0_1 : TJ123_0_1) : MCode := (.seq (.seq (.region r123_16 [] (tO [0, 3, 17])) (.cond (.tmp 17) .skip (.exit 0))) (.seq (.block 1 (.seq (.region r123_21 [] (tO [0, 3, 4])) (.seq (.mark [⟨p123_0_0, F123_0_0 vJ123_0_0⟩] c123_0_22) (.seq (.mark [⟨p123_0_1, F123_0_1 vJ123_0_1⟩] c123_0_24) (.cond (.tmp 54) (.seq (.region r123_28 [] (tO [2])) .ret) .skip))))) (.region r123_29 [] (tO [0, 3]))))
noncomputable def c123_0_13 : MCode := c123_0_13g J123_0_0 J123_0_1
theorem g123_0_13 : c123_0_13.Good Try.prog E123_0 sh123 := ⟨⟨trivial, ⟨trivial, trivial⟩⟩, ⟨⟨trivial, ⟨⟨g123_0_22, m123_0_0, trivial⟩, ⟨⟨g123_0_24, m123_0_1, trivial⟩, ⟨⟨trivial, trivial⟩, trivial⟩⟩⟩⟩, trivial⟩⟩
--CODE 13 0
def S123_0_2g (vJ123_0_0 : TJ123_0_0) (vJ123_0_1 : TJ123_0_1) (α : Type) (x2 : ByteArray) (x3 : Int) (kn : Int → Option α) (k1 : Option α) (k2 : Int → Bool → Option α) : Option α :=
 cK (decide (x3 < ((ByteArray.size x2 : Nat) : Int)))
 (sixK x2 x3
 (fun x5 => vJ123_0_0 α ((UInt8.toNat x5 : Nat) : Int)
 (fun x10 => vJ123_0_1 α x3 ((UInt8.toNat x5 : Nat) : Int) x10
 (fun x17 => cK x17
 (k1)
 (kn (w64 (x3 + 1)))))))
 (k2 x3 (decide (x3 < ((ByteArray.size x2 : Nat) : Int))))
noncomputable def S123_0_2 (α : Type) (x2 : ByteArray) (x3 : Int) (kn : Int → Option α) (k1 : Option α) (k2 : Int → Bool → Option α) : Option α := S123_0_2g J123_0_0 J123_0_1 α x2 x3 kn k1 k2
noncomputable def R123_0_2 (α : Type) (x2 : ByteArray) (k1 : Option α) (k2 : Int → Bool → Option α) : Nat → Int → Option α
 | 0, _ => none
 | n + 1, x3 => S123_0_2 α x2 x3 (R123_0_2 α x2 k1 k2 n) k1 k2
noncomputable def L123_0_2 (α : Type) (x2 : ByteArray) (k1 : Option α) (k2 : Int → Bool → Option α) (x3 : Int) : Option α := R123_0_2 α x2 k1 k2 fuel x3
abbrev TL123_0_2 : Type 1 := (α : Type) → ByteArray → (Option α) → (Int → Bool → Option α) → Int → Option α
def F123_0_2 (v : TL123_0_2) (α : Type) (K : Exit → St → Option α) : ByteArray → Int → Option α := fun x2 x3 => v α x2 (u123_0_4 (K .ret) false) (fun (y1 : Int) (y2 : Bool) => u123_0_5 (K (.exit 0)) x2 y1 y2) x3
theorem r123_0_2g  (vJ123_0_0 : TJ123_0_0) (vJ123_0_1 : TJ123_0_1) (α : Type) (K : Exit → St → Option α) (Kn : St → Option α) (x2 : ByteArray) (x3 : Int) : u123_0_3 (fun σ => runM Try.prog (E123_0g ) sh123 (c123_0_13g vJ123_0_0 vJ123_0_1) (thenK (fun σ => tidyK td123_13 σ Kn) K) σ) x2 x3 = S123_0_2g vJ123_0_0 vJ123_0_1 α x2 x3 (fun x3 => u123_0_3 Kn x2 x3) (u123_0_4 (K .ret) false) (fun (y1 : Int) (y2 : Bool) => u123_0_5 (K (.exit 0)) x2 y1 y2) := by kernel_rfl
theorem r123_0_2 (α : Type) (K : Exit → St → Option α) (Kn : St → Option α) (x2 : ByteArray) (x3 : Int) : u123_0_3 (fun σ => runM Try.prog E123_0 sh123 c123_0_13 (thenK (fun σ => tidyK td123_13 σ Kn) K) σ) x2 x3 = S123_0_2 α x2 x3 (fun x3 => u123_0_3 Kn x2 x3) (u123_0_4 (K .ret) false) (fun (y1 : Int) (y2 : Bool) => u123_0_5 (K (.exit 0)) x2 y1 y2) := r123_0_2g J123_0_0 J123_0_1 α K Kn x2 x3
theorem t123_0_2 (α : Type) (K : Exit → St → Option α) : ∀ (n : Nat) (x2 : ByteArray) (x3 : Int), R123_0_2 α x2 (u123_0_4 (K .ret) false) (fun (y1 : Int) (y2 : Bool) => u123_0_5 (K (.exit 0)) x2 y1 y2) n x3 = u123_0_3 (loopT (runM Try.prog E123_0 sh123 c123_0_13) td123_13 K n) x2 x3 := by
 intro n
 induction n with
 | zero => intros; rfl
 | succ n ih => intro x2 x3; exact (congrArg (fun kn => S123_0_2 α x2 x3 kn (u123_0_4 (K .ret) false) (fun (y1 : Int) (y2 : Bool) => u123_0_5 (K (.exit 0)) x2 y1 y2)) (funext fun x3 => ih x2 x3)).trans (r123_0_2 α K (loopT (runM Try.prog E123_0 sh123 c123_0_13) td123_13 K n) x2 x3).symm
theorem m123_0_2 : ∀ (α : Type) (K : Exit → St → Option α), F123_0_2 L123_0_2 α K = p123_0_3.unc fun σ => loopT (runM Try.prog E123_0 sh123 c123_0_13) td123_13 K fuel σ := fun α K => funext fun x2 => funext fun x3 => t123_0_2 α K fuel x2 x3
abbrev Tf123_0 : Type 1 := (α : Type) → ByteArray → (Bool → Option α) → Option α
def f123_0g (vL123_0_2 : TL123_0_2) (α : Type) (x1 : ByteArray) (k1 : Bool → Option α) : Option α :=
 cK (decide (((ByteArray.size x1 : Nat) : Int) < 1))
 (k1 false)
 (cK (decide (12 < ((ByteArray.size x1 : Nat) : Int)))
 (k1 false)
 (vL123_0_2 α x1
 (k1 false)
 (fun x19 x20 => k1 true) 0))
noncomputable def f123_0 (α : Type) (x1 : ByteArray) (k1 : Bool → Option α) : Option α := f123_0g L123_0_2 α x1 k1
def pa123_0 : PT (List DV) := pA [pV false [dS]]
def Fn123_0 (v : Tf123_0) (α : Type) (k : List RV → Option α) : ByteArray → Option α := fun x1 => v α x1 (fun (y1 : Bool) => ur123_0_0 k y1)
noncomputable def cm123_0g (vL123_0_2 : TL123_0_2) : MCode := (.seq (.region r123_2 [] (tO [0])) (.seq (.seq (.region r123_5 [] (tO [0, 13])) (.cond (.tmp 13) (.seq (.region r123_8 [] (tO [2])) .ret) .skip)) (.seq (.seq (.region r123_11 [] (tO [0, 3])) (.block 0 (.loop td123_13 [⟨p123_0_3, F123_0_2 vL123_0_2⟩] c123_0_13))) (.seq (.region r123_31 [] (tO [2])) .ret))))
noncomputable def cm123_0 : MCode := cm123_0g L123_0_2
theorem gm123_0 : cm123_0.Good Try.prog E123_0 sh123 := ⟨trivial, ⟨⟨trivial, ⟨⟨trivial, trivial⟩, trivial⟩⟩, ⟨⟨trivial, ⟨g123_0_13, m123_0_2, trivial⟩⟩, ⟨trivial, trivial⟩⟩⟩⟩
theorem fm123_0g  (vL123_0_2 : TL123_0_2) (α : Type) (k : List RV → Option α) : Fn123_0 (f123_0g vL123_0_2) α k = pa123_0.unc fun ds => fnM Try.prog (E123_0g ) sh123 (cm123_0g vL123_0_2) rs123 k ds := by kernel_rfl
theorem fm123_0 : ∀ (α : Type) (k : List RV → Option α), Fn123_0 f123_0 α k = pa123_0.unc fun ds => fnM Try.prog E123_0 sh123 cm123_0 rs123 k ds := fm123_0g L123_0_2
theorem is123 : FnIs Try.prog 123 nt123 tr123 tl123 cm123_0.erase rs123 := ⟨Try.f123, Try.func123, rfl, by kernel_rfl, by kernel_rfl, by kernel_rfl⟩
theorem io123_0 : InstOk Try.prog 123 nt123 ⟨pa123_0, Fn123_0 f123_0⟩ := inst_ok eo123_0 followsTry is123 ⟨⟨sh123, cm123_0, by kernel_rfl, gm123_0, fm123_0⟩⟩
abbrev nt99 : Nat := 16
def sh99 : List (Nat × List Sh) := []
def r99_2 : List AOper := [oO 4 (.mv (kI 0))]
def r99_4 : List AOper := [oM 6 0, oM 7 1, oO 8 (.bin .quo 3 (.tmp 6) (.tmp 7)), oM 5 8]
def r99_7 : List AOper := [oM 9 0, oM 10 1, oO 11 (.bin .rem 3 (.tmp 9) (.tmp 10)), oO 12 (.bin .lss 3 (.tmp 11) (kI 0))]
def r99_9 : List AOper := [oM 13 5, oO 14 (.bin .sub 3 (.tmp 13) (kI 1)), oM 5 14]
def r99_11 : List AOper := [oM 15 5, oM 4 15]
def tr99 : List (Nat × Tidy) := [tT 0 [0, 1], tT 1 [0, 1, 5], tT 2 [5, 12], tT 3 [5], tT 4 [4]]
def tl99 : List (Nat × Tidy) := []
def rs99 : List AResV := [.tmp 4]
def pr99_0_0 : PT (List RV) := pRs [pR false [rD (dI .i64)]]
def ur99_0_0 {β : Type} (g : List RV → β) : Int → β := pr99_0_0.unc g
def E99_0g  : EnvK := EnvK.of [] noSeq
noncomputable def E99_0 : EnvK := E99_0g 
theorem eo99_0 : E99_0.Ok Try.prog := EnvK.of_ok noSeq_ok trivial
abbrev Tf99_0 : Type 1 := (α : Type) → Int → Int → (Int → Option α) → Option α
def f99_0g  (α : Type) (x1 x2 : Int) (k1 : Int → Option α) : Option α :=
 gK (x2 != 0) (gK (x2 != 0) (cK (decide ((Int.tmod x1 x2) < 0))
 (k1 (w64 ((w64 (Int.tdiv x1 x2)) - 1)))
 (k1 (w64 (Int.tdiv x1 x2)))))
noncomputable def f99_0 (α : Type) (x1 x2 : Int) (k1 : Int → Option α) : Option α := f99_0g  α x1 x2 k1
def pa99_0 : PT (List DV) := pA [pV false [(dI .i64)], pV false [(dI .i64)]]
def Fn99_0 (v : Tf99_0) (α : Type) (k : List RV → Option α) : Int → Int → Option α := fun x1 x2 => v α x1 x2 (fun (y1 : Int) => ur99_0_0 k y1)
noncomputable def cm99_0g  : MCode := (.seq (.region r99_2 [] (tO [0, 1])) (.seq (.region r99_4 [] (tO [0, 1, 5])) (.seq (.seq (.region r99_7 [] (tO [5, 12])) (.cond (.tmp 12) (.region r99_9 [] (tO [5])) .skip)) (.seq (.region r99_11 [] (tO [4])) .ret))))
noncomputable def cm99_0 : MCode := cm99_0g 
theorem gm99_0 : cm99_0.Good Try.prog E99_0 sh99 := ⟨trivial, ⟨trivial, ⟨⟨trivial, ⟨trivial, trivial⟩⟩, ⟨trivial, trivial⟩⟩⟩⟩
theorem fm99_0g   (α : Type) (k : List RV → Option α) : Fn99_0 (f99_0g ) α k = pa99_0.unc fun ds => fnM Try.prog (E99_0g ) sh99 (cm99_0g ) rs99 k ds := by kernel_rfl
theorem fm99_0 : ∀ (α : Type) (k : List RV → Option α), Fn99_0 f99_0 α k = pa99_0.unc fun ds => fnM Try.prog E99_0 sh99 cm99_0 rs99 k ds := fm99_0g 
theorem is99 : FnIs Try.prog 99 nt99 tr99 tl99 cm99_0.erase rs99 := ⟨Try.f99, Try.func99, rfl, by kernel_rfl, by kernel_rfl, by kernel_rfl⟩
theorem io99_0 : InstOk Try.prog 99 nt99 ⟨pa99_0, Fn99_0 f99_0⟩ := inst_ok eo99_0 followsTry is99 ⟨⟨sh99, cm99_0, by kernel_rfl, gm99_0, fm99_0⟩⟩
abbrev nt31 : Nat := 14
def sh31 : List (Nat × List Sh) := []
def r31_2 : List AOper := [oO 4 (.mv (kI 0))]
def r31_4 : List AOper := [oM 5 0, oM 6 1, oO 7 (.bin .rem 3 (.tmp 5) (.tmp 6)), oM 0 7]
def r31_7 : List AOper := [oM 8 0, oO 9 (.bin .lss 3 (.tmp 8) (kI 0))]
def r31_9 : List AOper := [oM 10 0, oM 11 1, oO 12 (.bin .add 3 (.tmp 10) (.tmp 11)), oM 0 12]
def r31_11 : List AOper := [oM 13 0, oM 4 13]
def tr31 : List (Nat × Tidy) := [tT 0 [0, 1], tT 1 [0, 1], tT 2 [0, 1, 9], tT 3 [0], tT 4 [4]]
def tl31 : List (Nat × Tidy) := []
def rs31 : List AResV := [.tmp 4]
def pr31_0_0 : PT (List RV) := pRs [pR false [rD (dI .i64)]]
def ur31_0_0 {β : Type} (g : List RV → β) : Int → β := pr31_0_0.unc g
def E31_0g  : EnvK := EnvK.of [] noSeq
noncomputable def E31_0 : EnvK := E31_0g 
theorem eo31_0 : E31_0.Ok Try.prog := EnvK.of_ok noSeq_ok trivial
abbrev Tf31_0 : Type 1 := (α : Type) → Int → Int → (Int → Option α) → Option α
def f31_0g  (α : Type) (x1 x2 : Int) (k1 : Int → Option α) : Option α :=
 gK (x2 != 0) (cK (decide ((Int.tmod x1 x2) < 0))
 (k1 (w64 ((Int.tmod x1 x2) + x2)))
 (k1 (Int.tmod x1 x2)))
noncomputable def f31_0 (α : Type) (x1 x2 : Int) (k1 : Int → Option α) : Option α := f31_0g  α x1 x2 k1
def pa31_0 : PT (List DV) := pA [pV false [(dI .i64)], pV false [(dI .i64)]]
def Fn31_0 (v : Tf31_0) (α : Type) (k : List RV → Option α) : Int → Int → Option α := fun x1 x2 => v α x1 x2 (fun (y1 : Int) => ur31_0_0 k y1)
noncomputable def cm31_0g  : MCode := (.seq (.region r31_2 [] (tO [0, 1])) (.seq (.region r31_4 [] (tO [0, 1])) (.seq (.seq (.region r31_7 [] (tO [0, 1, 9])) (.cond (.tmp 9) (.region r31_9 [] (tO [0])) .skip)) (.seq (.region r31_11 [] (tO [4])) .ret))))
noncomputable def cm31_0 : MCode := cm31_0g 
theorem gm31_0 : cm31_0.Good Try.prog E31_0 sh31 := ⟨trivial, ⟨trivial, ⟨⟨trivial, ⟨trivial, trivial⟩⟩, ⟨trivial, trivial⟩⟩⟩⟩
theorem fm31_0g   (α : Type) (k : List RV → Option α) : Fn31_0 (f31_0g ) α k = pa31_0.unc fun ds => fnM Try.prog (E31_0g ) sh31 (cm31_0g ) rs31 k ds := by kernel_rfl
theorem fm31_0 : ∀ (α : Type) (k : List RV → Option α), Fn31_0 f31_0 α k = pa31_0.unc fun ds => fnM Try.prog E31_0 sh31 cm31_0 rs31 k ds := fm31_0g 
theorem is31 : FnIs Try.prog 31 nt31 tr31 tl31 cm31_0.erase rs31 := ⟨Try.f31, Try.func31, rfl, by kernel_rfl, by kernel_rfl, by kernel_rfl⟩
theorem io31_0 : InstOk Try.prog 31 nt31 ⟨pa31_0, Fn31_0 f31_0⟩ := inst_ok eo31_0 followsTry is31 ⟨⟨sh31, cm31_0, by kernel_rfl, gm31_0, fm31_0⟩⟩
abbrev nt71 : Nat := 24
def sh71 : List (Nat × List Sh) := []
def r71_2 : List AOper := [oO 2 (.mv (.const (.bool false)))]
def r71_5 : List AOper := [oM 3 0, oM 4 0, oO 5 (.bin .neq 112 (.tmp 3) (.tmp 4)), oM 6 5, oG 7 (.mv (.tmp 0)) 6 false, oG 8 (.mv (.tmp 0)) 6 false, oG 9 (.bin .sub 112 (.tmp 7) (.tmp 8)) 6 false, oG 10 (.bin .neq 112 (.tmp 9) (.const (.float Go.FloatKind.f64 0))) 6 false, oO 11 (.pick (.tmp 6) (.const (.bool true)) (.tmp 10))]
def r71_8 : List AOper := [oO 2 (.mv (.const (.bool false)))]
def r71_11 : List AOper := [oM 12 0, oO 13 (.bin .geq 112 (.tmp 12) (.const (.float Go.FloatKind.f64 14069741636278059008))), oM 14 13, oG 15 (.mv (.tmp 0)) 14 true, oG 16 (.bin .leq 112 (.tmp 15) (.const (.float Go.FloatKind.f64 4846369599423283200))) 14 true, oO 17 (.pick (.tmp 14) (.tmp 16) (.const (.bool false))), oO 18 (.pure (oB (.unOp .not 4 (.tmp 17)) 4))]
def r71_14 : List AOper := [oO 2 (.mv (.const (.bool true)))]
def r71_16 : List AOper := [oM 19 0, oO 20 (.pure (oB (.convert 112 3 (.tmp 19)) 3)), oO 21 (.pure (oB (.convert 3 112 (.tmp 20)) 112)), oM 22 0, oO 23 (.bin .eql 112 (.tmp 21) (.tmp 22)), oM 2 23]
def tr71 : List (Nat × Tidy) := [tT 0 [0], tT 1 [0, 11], tT 2 [2], tT 3 [0, 18], tT 4 [2], tT 5 [2]]
def tl71 : List (Nat × Tidy) := []
def rs71 : List AResV := [.tmp 2]
def pr71_0_0 : PT (List RV) := pRs [pR false [rD dB]]
def ur71_0_0 {β : Type} (g : List RV → β) : Bool → β := pr71_0_0.unc g
def E71_0g  : EnvK := EnvK.of [] noSeq
noncomputable def E71_0 : EnvK := E71_0g 
theorem eo71_0 : E71_0.Ok Try.prog := EnvK.of_ok noSeq_ok trivial
abbrev Tf71_0 : Type 1 := (α : Type) → (Option α) → Option α
def f71_0g  (α : Type)  (k1 : Option α) : Option α :=
 k1
noncomputable def f71_0 (α : Type)  (k1 : Option α) : Option α := f71_0g  α  k1
def pa71_0 : PT (List DV) := pA [pV false [(dNan .f64)]]
def Fn71_0 (v : Tf71_0) (α : Type) (k : List RV → Option α) : Option α := v α  (ur71_0_0 k false)
noncomputable def cm71_0g  : MCode := (.seq (.region r71_2 [] (tO [0])) (.seq (.seq (.region r71_5 [] (tO [0, 11])) (.cond (.tmp 11) (.seq (.region r71_8 [] (tO [2])) .ret) .skip)) (.seq (.seq (.region r71_11 [] (tO [0, 18])) (.cond (.tmp 18) (.seq (.region r71_14 [] (tO [2])) .ret) .skip)) (.seq (.region r71_16 [] (tO [2])) .ret))))
noncomputable def cm71_0 : MCode := cm71_0g 
theorem gm71_0 : cm71_0.Good Try.prog E71_0 sh71 := ⟨trivial, ⟨⟨trivial, ⟨⟨trivial, trivial⟩, trivial⟩⟩, ⟨⟨trivial, ⟨⟨trivial, trivial⟩, trivial⟩⟩, ⟨trivial, trivial⟩⟩⟩⟩
theorem fm71_0g   (α : Type) (k : List RV → Option α) : Fn71_0 (f71_0g ) α k = pa71_0.unc fun ds => fnM Try.prog (E71_0g ) sh71 (cm71_0g ) rs71 k ds := by kernel_rfl
theorem fm71_0 : ∀ (α : Type) (k : List RV → Option α), Fn71_0 f71_0 α k = pa71_0.unc fun ds => fnM Try.prog E71_0 sh71 cm71_0 rs71 k ds := fm71_0g 
theorem is71 : FnIs Try.prog 71 nt71 tr71 tl71 cm71_0.erase rs71 := ⟨Try.f71, Try.func71, rfl, by kernel_rfl, by kernel_rfl, by kernel_rfl⟩
theorem io71_0 : InstOk Try.prog 71 nt71 ⟨pa71_0, Fn71_0 f71_0⟩ := inst_ok eo71_0 followsTry is71 ⟨⟨sh71, cm71_0, by kernel_rfl, gm71_0, fm71_0⟩⟩
def pr71_1_0 : PT (List RV) := pRs [pR false [rD dB]]
def ur71_1_0 {β : Type} (g : List RV → β) : Bool → β := pr71_1_0.unc g
def E71_1g  : EnvK := EnvK.of [] noSeq
noncomputable def E71_1 : EnvK := E71_1g 
theorem eo71_1 : E71_1.Ok Try.prog := EnvK.of_ok noSeq_ok trivial
abbrev Tf71_1 : Type 1 := (α : Type) → Nat → (Bool → Option α) → Option α
def f71_1g  (α : Type) (x1 : Nat) (k1 : Bool → Option α) : Option α :=
 cK ((FloatKind.format .f64).order x1 x1 != some Ordering.eq)
 (k1 false)
 (flN ((FloatKind.format .f64).sub x1 x1)
 (fun x2 => cK ((FloatKind.format .f64).order x2 0 != some Ordering.eq)
 (k1 false)
 (cK ((FloatKind.format .f64).order x1 14069741636278059008 == some Ordering.gt || (FloatKind.format .f64).order x1 14069741636278059008 == some Ordering.eq)
 (cK (!((FloatKind.format .f64).order x1 4846369599423283200 == some Ordering.lt || (FloatKind.format .f64).order x1 4846369599423283200 == some Ordering.eq))
 (k1 true)
 (ivK (f2i .f64 x1 .i64)
 (fun x3 => k1 ((FloatKind.format .f64).order (FloatKind.nearest .f64 x3) x1 == some Ordering.eq))))
 (k1 true)))
 (k1 false))
noncomputable def f71_1 (α : Type) (x1 : Nat) (k1 : Bool → Option α) : Option α := f71_1g  α x1 k1
def pa71_1 : PT (List DV) := pA [pV false [(dF .f64)]]
def Fn71_1 (v : Tf71_1) (α : Type) (k : List RV → Option α) : Nat → Option α := fun x1 => v α x1 (fun (y1 : Bool) => ur71_1_0 k y1)
noncomputable def cm71_1g  : MCode := (.seq (.region r71_2 [] (tO [0])) (.seq (.seq (.region r71_5 [] (tO [0, 11])) (.cond (.tmp 11) (.seq (.region r71_8 [] (tO [2])) .ret) .skip)) (.seq (.seq (.region r71_11 [] (tO [0, 18])) (.cond (.tmp 18) (.seq (.region r71_14 [] (tO [2])) .ret) .skip)) (.seq (.region r71_16 [] (tO [2])) .ret))))
noncomputable def cm71_1 : MCode := cm71_1g 
theorem gm71_1 : cm71_1.Good Try.prog E71_1 sh71 := ⟨trivial, ⟨⟨trivial, ⟨⟨trivial, trivial⟩, trivial⟩⟩, ⟨⟨trivial, ⟨⟨trivial, trivial⟩, trivial⟩⟩, ⟨trivial, trivial⟩⟩⟩⟩
theorem fm71_1g   (α : Type) (k : List RV → Option α) : Fn71_1 (f71_1g ) α k = pa71_1.unc fun ds => fnM Try.prog (E71_1g ) sh71 (cm71_1g ) rs71 k ds := by kernel_rfl
theorem fm71_1 : ∀ (α : Type) (k : List RV → Option α), Fn71_1 f71_1 α k = pa71_1.unc fun ds => fnM Try.prog E71_1 sh71 cm71_1 rs71 k ds := fm71_1g 
theorem io71_1 : InstOk Try.prog 71 nt71 ⟨pa71_1, Fn71_1 f71_1⟩ := inst_ok eo71_1 followsTry is71 ⟨⟨sh71, cm71_1, by kernel_rfl, gm71_1, fm71_1⟩⟩
abbrev nt29 : Nat := 15
def sh29 : List (Nat × List Sh) := []
def r29_2 : List AOper := [oO 6 (.mv (.const (.bool false)))]
def r29_4 : List AOper := [oM 7 1, oM 8 0, oO 9 (.bin .leq 3 (.tmp 7) (.tmp 8)), oM 10 9, oG 11 (.mv (.tmp 0)) 10 true, oG 12 (.mv (.tmp 2)) 10 true, oG 13 (.bin .leq 3 (.tmp 11) (.tmp 12)) 10 true, oO 14 (.pick (.tmp 10) (.tmp 13) (.const (.bool false))), oM 6 14]
def tr29 : List (Nat × Tidy) := [tT 0 [0, 1, 2], tT 1 [6]]
def tl29 : List (Nat × Tidy) := []
def rs29 : List AResV := [.tmp 6]
def pr29_0_0 : PT (List RV) := pRs [pR false [rD dB]]
def ur29_0_0 {β : Type} (g : List RV → β) : Bool → β := pr29_0_0.unc g
def E29_0g  : EnvK := EnvK.of [] noSeq
noncomputable def E29_0 : EnvK := E29_0g 
theorem eo29_0 : E29_0.Ok Try.prog := EnvK.of_ok noSeq_ok trivial
abbrev Tf29_0 : Type 1 := (α : Type) → Int → Int → Int → (Bool → Option α) → Option α
def f29_0g  (α : Type) (x1 x2 x3 : Int) (k1 : Bool → Option α) : Option α :=
 cK (decide (x2 ≤ x1))
 (k1 (decide (x1 ≤ x3)))
 (k1 false)
noncomputable def f29_0 (α : Type) (x1 x2 x3 : Int) (k1 : Bool → Option α) : Option α := f29_0g  α x1 x2 x3 k1
def pa29_0 : PT (List DV) := pA [pV false [(dI .i64)], pV false [(dI .i64)], pV false [(dI .i64)]]
def Fn29_0 (v : Tf29_0) (α : Type) (k : List RV → Option α) : Int → Int → Int → Option α := fun x1 x2 x3 => v α x1 x2 x3 (fun (y1 : Bool) => ur29_0_0 k y1)
noncomputable def cm29_0g  : MCode := (.seq (.region r29_2 [] (tO [0, 1, 2])) (.seq (.region r29_4 [] (tO [6])) .ret))
noncomputable def cm29_0 : MCode := cm29_0g 
theorem gm29_0 : cm29_0.Good Try.prog E29_0 sh29 := ⟨trivial, ⟨trivial, trivial⟩⟩
theorem fm29_0g   (α : Type) (k : List RV → Option α) : Fn29_0 (f29_0g ) α k = pa29_0.unc fun ds => fnM Try.prog (E29_0g ) sh29 (cm29_0g ) rs29 k ds := by kernel_rfl
theorem fm29_0 : ∀ (α : Type) (k : List RV → Option α), Fn29_0 f29_0 α k = pa29_0.unc fun ds => fnM Try.prog E29_0 sh29 cm29_0 rs29 k ds := fm29_0g 
theorem is29 : FnIs Try.prog 29 nt29 tr29 tl29 cm29_0.erase rs29 := ⟨Try.f29, Try.func29, rfl, by kernel_rfl, by kernel_rfl, by kernel_rfl⟩
theorem io29_0 : InstOk Try.prog 29 nt29 ⟨pa29_0, Fn29_0 f29_0⟩ := inst_ok eo29_0 followsTry is29 ⟨⟨sh29, cm29_0, by kernel_rfl, gm29_0, fm29_0⟩⟩
abbrev nt98 : Nat := 15
def sh98 : List (Nat × List Sh) := []
def r98_2 : List AOper := [oO 6 (.mv (.const (.bool false)))]
def r98_4 : List AOper := [oM 7 1, oM 8 0, oO 9 (.bin .leq 3 (.tmp 7) (.tmp 8)), oM 10 9, oG 11 (.mv (.tmp 0)) 10 true, oG 12 (.mv (.tmp 2)) 10 true, oG 13 (.bin .leq 3 (.tmp 11) (.tmp 12)) 10 true, oO 14 (.pick (.tmp 10) (.tmp 13) (.const (.bool false))), oM 6 14]
def tr98 : List (Nat × Tidy) := [tT 0 [0, 1, 2], tT 1 [6]]
def tl98 : List (Nat × Tidy) := []
def rs98 : List AResV := [.tmp 6]
def pr98_0_0 : PT (List RV) := pRs [pR false [rD dB]]
def ur98_0_0 {β : Type} (g : List RV → β) : Bool → β := pr98_0_0.unc g
def E98_0g  : EnvK := EnvK.of [] noSeq
noncomputable def E98_0 : EnvK := E98_0g 
theorem eo98_0 : E98_0.Ok Try.prog := EnvK.of_ok noSeq_ok trivial
abbrev Tf98_0 : Type 1 := (α : Type) → Int → Int → Int → (Bool → Option α) → Option α
def f98_0g  (α : Type) (x1 x2 x3 : Int) (k1 : Bool → Option α) : Option α :=
 cK (decide (x2 ≤ x1))
 (k1 (decide (x1 ≤ x3)))
 (k1 false)
noncomputable def f98_0 (α : Type) (x1 x2 x3 : Int) (k1 : Bool → Option α) : Option α := f98_0g  α x1 x2 x3 k1
def pa98_0 : PT (List DV) := pA [pV false [(dI .i64)], pV false [(dI .i64)], pV false [(dI .i64)]]
def Fn98_0 (v : Tf98_0) (α : Type) (k : List RV → Option α) : Int → Int → Int → Option α := fun x1 x2 x3 => v α x1 x2 x3 (fun (y1 : Bool) => ur98_0_0 k y1)
noncomputable def cm98_0g  : MCode := (.seq (.region r98_2 [] (tO [0, 1, 2])) (.seq (.region r98_4 [] (tO [6])) .ret))
noncomputable def cm98_0 : MCode := cm98_0g 
theorem gm98_0 : cm98_0.Good Try.prog E98_0 sh98 := ⟨trivial, ⟨trivial, trivial⟩⟩
theorem fm98_0g   (α : Type) (k : List RV → Option α) : Fn98_0 (f98_0g ) α k = pa98_0.unc fun ds => fnM Try.prog (E98_0g ) sh98 (cm98_0g ) rs98 k ds := by kernel_rfl
theorem fm98_0 : ∀ (α : Type) (k : List RV → Option α), Fn98_0 f98_0 α k = pa98_0.unc fun ds => fnM Try.prog E98_0 sh98 cm98_0 rs98 k ds := fm98_0g 
theorem is98 : FnIs Try.prog 98 nt98 tr98 tl98 cm98_0.erase rs98 := ⟨Try.f98, Try.func98, rfl, by kernel_rfl, by kernel_rfl, by kernel_rfl⟩
theorem io98_0 : InstOk Try.prog 98 nt98 ⟨pa98_0, Fn98_0 f98_0⟩ := inst_ok eo98_0 followsTry is98 ⟨⟨sh98, cm98_0, by kernel_rfl, gm98_0, fm98_0⟩⟩
abbrev nt121 : Nat := 54
def sh121 : List (Nat × List Sh) := [(12, [.int .u8]), (13, [.int .u8])]
def r121_2 : List AOper := [oO 2 (.mv (.const (.bool false)))]
def r121_5 : List AOper := [oM 6 0, oO 7 (.bytes (.tmp 6)), oO 8 (.len (.tmp 7)), oO 9 (.mv (kI 0))]
def td121_7 : Option Tidy := (some ⟨[0, 7, 8, 9], true, [⟨false, 7, 0, 20007, 1⟩], []⟩)
def r121_9 : List AOper := [oO 10 (.bin .lss 3 (.tmp 9) (.tmp 8))]
def r121_15 : List AOper := [oM 11 9, oO 12 (.iaddr 1 none (.tmp 7) (.tmp 9)), oO 13 (.load false 1 (.tmp 12)), oM 3 11, oM 4 13]
def r121_17 : List AOper := [oM 14 4, oO 15 (.bin .geq 5 (.tmp 14) (.const (.int .u8 97))), oM 16 15, oG 17 (.mv (.tmp 4)) 16 true, oG 18 (.bin .leq 5 (.tmp 17) (.const (.int .u8 122))) 16 true, oO 19 (.pick (.tmp 16) (.tmp 18) (.const (.bool false))), oM 20 19, oG 21 (.mv (.tmp 4)) 20 false, oG 22 (.bin .geq 5 (.tmp 21) (.const (.int .u8 65))) 20 false, oG 23 (.mv (.tmp 22)) 20 false, oG 24 (.mv (.tmp 4)) 23 true, oG 25 (.bin .leq 5 (.tmp 24) (.const (.int .u8 90))) 23 true, oG 26 (.pick (.tmp 23) (.tmp 25) (.const (.bool false))) 20 false, oO 27 (.pick (.tmp 20) (.const (.bool true)) (.tmp 26)), oM 5 27]
def r121_19 : List AOper := [oM 28 5, oO 29 (.pure (oB (.unOp .not 4 (.tmp 28)) 4)), oM 30 29, oG 31 (.mv (.tmp 3)) 30 true, oG 32 (.bin .eql 3 (.tmp 31) (kI 0)) 30 true, oG 33 (.mv (.tmp 32)) 30 true, oG 34 (.mv (.tmp 4)) 33 false, oG 35 (.bin .neq 5 (.tmp 34) (.const (.int .u8 45))) 33 false, oG 36 (.mv (.tmp 35)) 33 false, oG 37 (.mv (.tmp 4)) 36 true, oG 38 (.bin .lss 5 (.tmp 37) (.const (.int .u8 48))) 36 true, oG 39 (.mv (.tmp 38)) 36 true, oG 40 (.mv (.tmp 4)) 39 false, oG 41 (.bin .gtr 5 (.tmp 40) (.const (.int .u8 57))) 39 false, oG 42 (.pick (.tmp 39) (.const (.bool true)) (.tmp 41)) 36 true, oG 43 (.pick (.tmp 36) (.tmp 42) (.const (.bool false))) 33 false, oG 44 (.pick (.tmp 33) (.const (.bool true)) (.tmp 43)) 30 true, oO 45 (.pick (.tmp 30) (.tmp 44) (.const (.bool false)))]
def r121_22 : List AOper := [oO 2 (.mv (.const (.bool false)))]
def r121_23 : List AOper := [oO 46 (.bin .add 3 (.tmp 9) (kI 1)), oM 9 46]
def r121_25 : List AOper := [oM 47 0, ⟨(some 48), (.bin .neq 9 (.tmp 47) (.const (.string ⟨#[]⟩))), none⟩, oM 49 48, oG 50 (.mv (.tmp 0)) 49 true, oG 51 (.pure (oB (.call { callee := .builtin .len, args := #[(.tmp 50)], argTypes := #[9] }) 3)) 49 true, oG 52 (.bin .leq 3 (.tmp 51) (kI 12)) 49 true, oO 53 (.pick (.tmp 49) (.tmp 52) (.const (.bool false))), oM 2 53]
def tr121 : List (Nat × Tidy) := [tT 0 [0], tT 1 [0, 7, 8, 9], tT 2 [0, 7, 8, 9, 10], tT 3 [0, 3, 4, 7, 8, 9], tT 4 [0, 3, 4, 5, 7, 8, 9], tT 5 [0, 7, 8, 9, 45], tT 6 [2], tT 7 [0, 7, 8, 9], tT 8 [2]]
def tl121 : List (Nat × Tidy) := [(2, ⟨[0, 7, 8, 9], true, [⟨false, 7, 0, 20007, 1⟩], []⟩)]
def rs121 : List AResV := [.tmp 2]
def p121_0_0 : PT St := pS [sl 0 (aV false [(cD dS)]), sl 3 (aV false [(cD (dI .i64))]), sl 4 (aV false [(cD (dI .u8))]), sl 7 (aV false [(cRef 20007)]), sl 8 (aV false [(cD (dI .i64))]), sl 9 (aV false [(cD (dI .i64))])] [eOwn 20007 1]
def u121_0_0 {β : Type} (g : St → β) : ByteArray → Int → Int → Int → Int → Rows → β := p121_0_0.unc g
def p121_0_1 : PT St := pS [sl 0 (aV false [(cD dS)]), sl 3 (aV false [(cD (dI .i64))]), sl 4 (aV false [(cD (dI .u8))]), sl 5 (aV false [(cD dB)]), sl 7 (aV false [(cRef 20007)]), sl 8 (aV false [(cD (dI .i64))]), sl 9 (aV false [(cD (dI .i64))])] [eOwn 20007 1]
def u121_0_1 {β : Type} (g : St → β) : ByteArray → Int → Int → Bool → Int → Int → Rows → β := p121_0_1.unc g
def p121_0_2 : PT St := pS [sl 0 (aV false [(cD dS)]), sl 7 (aV false [(cRef 20007)]), sl 8 (aV false [(cD (dI .i64))]), sl 9 (aV false [(cD (dI .i64))]), sl 45 (aV false [(cD dB)])] [eOwn 20007 1]
def u121_0_2 {β : Type} (g : St → β) : ByteArray → Int → Int → Bool → Rows → β := p121_0_2.unc g
def p121_0_3 : PT St := pS [sl 0 (aV false [(cD dS)]), sl 7 (aV false [(cRef 20007)]), sl 8 (aV false [(cD (dI .i64))]), sl 9 (aV false [(cD (dI .i64))])] [eOwn 20007 1]
def u121_0_3 {β : Type} (g : St → β) : ByteArray → Int → Int → Rows → β := p121_0_3.unc g
def p121_0_4 : PT St := pS [sl 2 (aV false [(cD dB)])] []
def u121_0_4 {β : Type} (g : St → β) : Bool → β := p121_0_4.unc g
def p121_0_5 : PT St := pS [sl 0 (aV false [(cD dS)]), sl 7 (aV false [(cRef 20007)]), sl 8 (aV false [(cD (dI .i64))]), sl 9 (aV false [(cD (dI .i64))]), sl 10 (aV false [(cD dB)])] [eOwn 20007 1]
def u121_0_5 {β : Type} (g : St → β) : ByteArray → Int → Int → Bool → Rows → β := p121_0_5.unc g
def pr121_0_0 : PT (List RV) := pRs [pR false [rD dB]]
def ur121_0_0 {β : Type} (g : List RV → β) : Bool → β := pr121_0_0.unc g
def E121_0g  : EnvK := EnvK.of [] noSeq
noncomputable def E121_0 : EnvK := E121_0g 
theorem eo121_0 : E121_0.Ok Try.prog := EnvK.of_ok noSeq_ok trivial
noncomputable def c121_0_18g  : MCode := (.region r121_19 [] (tO [0, 7, 8, 9, 45]))
noncomputable def c121_0_18 : MCode := c121_0_18g 
theorem g121_0_18 : c121_0_18.Good Try.prog E121_0 sh121 := trivial
--CODE 18 0
abbrev TJ121_0_1 : Type 1 := (α : Type) → Int → Int → Bool → (Bool → Option α) → Option α
def J121_0_1g  (α : Type) (x18 x19 : Int) (x20 : Bool) (k1 : Bool → Option α) : Option α :=
 cK (!x20)
 (cK (x18 == 0)
 (k1 true)
 (cK (x19 != 45)
 (cK (decide (x19 < 48))
 (k1 true)
 (k1 (decide (57 < x19))))
 (k1 false)))
 (k1 false)
noncomputable def J121_0_1 (α : Type) (x18 x19 : Int) (x20 : Bool) (k1 : Bool → Option α) : Option α := J121_0_1g  α x18 x19 x20 k1
def F121_0_1 (v : TJ121_0_1) (α : Type) (K : Exit → St → Option α) : ByteArray → Int → Int → Bool → Int → Int → Rows → Option α := fun x17 x18 x19 x20 x21 x22 x23 => v α x18 x19 x20 (fun (y1 : Bool) => u121_0_2 (K .normal) x17 x21 x22 y1 x23) 
theorem m121_0_1g   (α : Type) (K : Exit → St → Option α) : F121_0_1 (J121_0_1g ) α K = p121_0_1.unc fun σ => runM Try.prog (E121_0g ) sh121 (c121_0_18g ) K σ := by kernel_rfl
theorem m121_0_1 : ∀ (α : Type) (K : Exit → St → Option α), F121_0_1 J121_0_1 α K = p121_0_1.unc fun σ => runM Try.prog E121_0 sh121 c121_0_18 K σ := m121_0_1g 
noncomputable def c121_0_16g  : MCode := (.region r121_17 [] (tO [0, 3, 4, 5, 7, 8, 9]))
noncomputable def c121_0_16 : MCode := c121_0_16g 
theorem g121_0_16 : c121_0_16.Good Try.prog E121_0 sh121 := trivial
--CODE 16 0
abbrev TJ121_0_0 : Type 1 := (α : Type) → Int → (Bool → Option α) → Option α
def J121_0_0g  (α : Type) (x10 : Int) (k1 : Bool → Option α) : Option α :=
 cK (decide (97 ≤ x10))
 (cK (decide (x10 ≤ 122))
 (k1 true)
 (cK (decide (65 ≤ x10))
 (k1 (decide (x10 ≤ 90)))
 (k1 false)))
 (cK (decide (65 ≤ x10))
 (k1 (decide (x10 ≤ 90)))
 (k1 false))
noncomputable def J121_0_0 (α : Type) (x10 : Int) (k1 : Bool → Option α) : Option α := J121_0_0g  α x10 k1
def F121_0_0 (v : TJ121_0_0) (α : Type) (K : Exit → St → Option α) : ByteArray → Int → Int → Int → Int → Rows → Option α := fun x8 x9 x10 x11 x12 x13 => v α x10 (fun (y1 : Bool) => u121_0_1 (K .normal) x8 x9 x10 y1 x11 x12 x13) 
theorem m121_0_0g   (α : Type) (K : Exit → St → Option α) : F121_0_0 (J121_0_0g ) α K = p121_0_0.unc fun σ => runM Try.prog (E121_0g ) sh121 (c121_0_16g ) K σ := by kernel_rfl
theorem m121_0_0 : ∀ (α : Type) (K : Exit → St → Option α), F121_0_0 J121_0_0 α K = p121_0_0.unc fun σ => runM Try.prog E121_0 sh121 c121_0_16 K σ := m121_0_0g 
noncomputable def c121_0_7g (vJ121_0_0 : TJ121_0_0) (vJ121_0_1 : TJ121_0_1) : MCode := (.seq (.region r121_9 [] (tO [0, 7, 8, 9, 10])) (.seq (.cond (.tmp 10) .skip (.exit 0)) (.seq (.block 1 (.seq (.region r121_15 [] (tO [0, 3, 4, 7, 8, 9])) (.seq (.mark [⟨p121_0_0, F121_0_0 vJ121_0_0⟩] c121_0_16) (.seq (.mark [⟨p121_0_1, F121_0_1 vJ121_0_1⟩] c121_0_18) (.cond (.tmp 45) (.seq (.region r121_22 [] (tO [2])) .ret) .skip))))) (.region r121_23 [] (tO [0, 7, 8, 9])))))
noncomputable def c121_0_7 : MCode := c121_0_7g J121_0_0 J121_0_1
theorem g121_0_7 : c121_0_7.Good Try.prog E121_0 sh121 := ⟨trivial, ⟨⟨trivial, trivial⟩, ⟨⟨trivial, ⟨⟨g121_0_16, m121_0_0, trivial⟩, ⟨⟨g121_0_18, m121_0_1, trivial⟩, ⟨⟨trivial, trivial⟩, trivial⟩⟩⟩⟩, trivial⟩⟩⟩
--CODE 7 0
def S121_0_2g (vJ121_0_0 : TJ121_0_0) (vJ121_0_1 : TJ121_0_1) (α : Type) (x3 : Int) (x5 : Rows) (x4 : Int) (kn : Int → Option α) (k1 : Option α) (k2 : Int → Bool → Option α) : Option α :=
 cK (decide (x4 < x3))
 (ixK x5 x4 1
 (ldK x5 (Int.toNat x4) 0 [.int .u8]
 (fun x7 => vJ121_0_0 α x7
 (fun x15 => vJ121_0_1 α x4 x7 x15
 (fun x25 => cK x25
 (k1)
 (kn (w64 (x4 + 1))))))))
 (k2 x4 (decide (x4 < x3)))
noncomputable def S121_0_2 (α : Type) (x3 : Int) (x5 : Rows) (x4 : Int) (kn : Int → Option α) (k1 : Option α) (k2 : Int → Bool → Option α) : Option α := S121_0_2g J121_0_0 J121_0_1 α x3 x5 x4 kn k1 k2
noncomputable def R121_0_2 (α : Type) (x3 : Int) (x5 : Rows) (k1 : Option α) (k2 : Int → Bool → Option α) : Nat → Int → Option α
 | 0, _ => none
 | n + 1, x4 => S121_0_2 α x3 x5 x4 (R121_0_2 α x3 x5 k1 k2 n) k1 k2
noncomputable def L121_0_2 (α : Type) (x3 : Int) (x5 : Rows) (k1 : Option α) (k2 : Int → Bool → Option α) (x4 : Int) : Option α := R121_0_2 α x3 x5 k1 k2 fuel x4
abbrev TL121_0_2 : Type 1 := (α : Type) → Int → Rows → (Option α) → (Int → Bool → Option α) → Int → Option α
def F121_0_2 (v : TL121_0_2) (α : Type) (K : Exit → St → Option α) : ByteArray → Int → Int → Rows → Option α := fun x2 x3 x4 x5 => v α x3 x5 (u121_0_4 (K .ret) false) (fun (y1 : Int) (y2 : Bool) => u121_0_5 (K (.exit 0)) x2 x3 y1 y2 x5) x4
theorem r121_0_2g  (vJ121_0_0 : TJ121_0_0) (vJ121_0_1 : TJ121_0_1) (α : Type) (K : Exit → St → Option α) (Kn : St → Option α) (x2 : ByteArray) (x3 x4 : Int) (x5 : Rows) : u121_0_3 (fun σ => runM Try.prog (E121_0g ) sh121 (c121_0_7g vJ121_0_0 vJ121_0_1) (thenK (fun σ => tidyK td121_7 σ Kn) K) σ) x2 x3 x4 x5 = S121_0_2g vJ121_0_0 vJ121_0_1 α x3 x5 x4 (fun x4 => u121_0_3 Kn x2 x3 x4 x5) (u121_0_4 (K .ret) false) (fun (y1 : Int) (y2 : Bool) => u121_0_5 (K (.exit 0)) x2 x3 y1 y2 x5) := by kernel_rfl
theorem r121_0_2 (α : Type) (K : Exit → St → Option α) (Kn : St → Option α) (x2 : ByteArray) (x3 x4 : Int) (x5 : Rows) : u121_0_3 (fun σ => runM Try.prog E121_0 sh121 c121_0_7 (thenK (fun σ => tidyK td121_7 σ Kn) K) σ) x2 x3 x4 x5 = S121_0_2 α x3 x5 x4 (fun x4 => u121_0_3 Kn x2 x3 x4 x5) (u121_0_4 (K .ret) false) (fun (y1 : Int) (y2 : Bool) => u121_0_5 (K (.exit 0)) x2 x3 y1 y2 x5) := r121_0_2g J121_0_0 J121_0_1 α K Kn x2 x3 x4 x5
theorem t121_0_2 (α : Type) (K : Exit → St → Option α) : ∀ (n : Nat) (x2 : ByteArray) (x3 x4 : Int) (x5 : Rows), R121_0_2 α x3 x5 (u121_0_4 (K .ret) false) (fun (y1 : Int) (y2 : Bool) => u121_0_5 (K (.exit 0)) x2 x3 y1 y2 x5) n x4 = u121_0_3 (loopT (runM Try.prog E121_0 sh121 c121_0_7) td121_7 K n) x2 x3 x4 x5 := by
 intro n
 induction n with
 | zero => intros; rfl
 | succ n ih => intro x2 x3 x4 x5; exact (congrArg (fun kn => S121_0_2 α x3 x5 x4 kn (u121_0_4 (K .ret) false) (fun (y1 : Int) (y2 : Bool) => u121_0_5 (K (.exit 0)) x2 x3 y1 y2 x5)) (funext fun x4 => ih x2 x3 x4 x5)).trans (r121_0_2 α K (loopT (runM Try.prog E121_0 sh121 c121_0_7) td121_7 K n) x2 x3 x4 x5).symm
theorem m121_0_2 : ∀ (α : Type) (K : Exit → St → Option α), F121_0_2 L121_0_2 α K = p121_0_3.unc fun σ => loopT (runM Try.prog E121_0 sh121 c121_0_7) td121_7 K fuel σ := fun α K => funext fun x2 => funext fun x3 => funext fun x4 => funext fun x5 => t121_0_2 α K fuel x2 x3 x4 x5
abbrev Tf121_0 : Type 1 := (α : Type) → ByteArray → (Bool → Option α) → Option α
def f121_0g (vL121_0_2 : TL121_0_2) (α : Type) (x1 : ByteArray) (k1 : Bool → Option α) : Option α :=
 gK (decide (ByteArray.size x1 ≤ 9223372036854775807)) (vL121_0_2 α ((List.length (bytesR x1) : Nat) : Int) (bytesR x1)
 (k1 false)
 (fun x27 x28 => cK (!(x1.toList == (⟨#[]⟩ : ByteArray).toList))
 (k1 (decide (((ByteArray.size x1 : Nat) : Int) ≤ 12)))
 (k1 false)) 0)
noncomputable def f121_0 (α : Type) (x1 : ByteArray) (k1 : Bool → Option α) : Option α := f121_0g L121_0_2 α x1 k1
def pa121_0 : PT (List DV) := pA [pV false [dS]]
def Fn121_0 (v : Tf121_0) (α : Type) (k : List RV → Option α) : ByteArray → Option α := fun x1 => v α x1 (fun (y1 : Bool) => ur121_0_0 k y1)
noncomputable def cm121_0g (vL121_0_2 : TL121_0_2) : MCode := (.seq (.region r121_2 [] (tO [0])) (.seq (.seq (.region r121_5 [] (tO [0, 7, 8, 9])) (.block 0 (.loop td121_7 [⟨p121_0_3, F121_0_2 vL121_0_2⟩] c121_0_7))) (.seq (.region r121_25 [] (tO [2])) .ret)))
noncomputable def cm121_0 : MCode := cm121_0g L121_0_2
theorem gm121_0 : cm121_0.Good Try.prog E121_0 sh121 := ⟨trivial, ⟨⟨trivial, ⟨g121_0_7, m121_0_2, trivial⟩⟩, ⟨trivial, trivial⟩⟩⟩
theorem fm121_0g  (vL121_0_2 : TL121_0_2) (α : Type) (k : List RV → Option α) : Fn121_0 (f121_0g vL121_0_2) α k = pa121_0.unc fun ds => fnM Try.prog (E121_0g ) sh121 (cm121_0g vL121_0_2) rs121 k ds := by kernel_rfl
theorem fm121_0 : ∀ (α : Type) (k : List RV → Option α), Fn121_0 f121_0 α k = pa121_0.unc fun ds => fnM Try.prog E121_0 sh121 cm121_0 rs121 k ds := fm121_0g L121_0_2
theorem is121 : FnIs Try.prog 121 nt121 tr121 tl121 cm121_0.erase rs121 := ⟨Try.f121, Try.func121, rfl, by kernel_rfl, by kernel_rfl, by kernel_rfl⟩
theorem io121_0 : InstOk Try.prog 121 nt121 ⟨pa121_0, Fn121_0 f121_0⟩ := inst_ok eo121_0 followsTry is121 ⟨⟨sh121, cm121_0, by kernel_rfl, gm121_0, fm121_0⟩⟩
abbrev nt118 : Nat := 40
def sh118 : List (Nat × List Sh) := []
def r118_2 : List AOper := [oO 6 (.mv (kI 0)), oO 7 (.mv (kI 0))]
def r118_6 : List AOper := [oM 9 0, oM 10 0, oO 11 (.bin .neq 74 (.tmp 9) (.tmp 10)), oM 12 11, oG 13 (.mv (.tmp 0)) 12 false, oG 14 (.mv (.tmp 0)) 12 false, oG 15 (.bin .sub 74 (.tmp 13) (.tmp 14)) 12 false, oG 16 (.bin .neq 74 (.tmp 15) (.const (.float Go.FloatKind.f32 0))) 12 false, oO 17 (.pick (.tmp 12) (.const (.bool true)) (.tmp 16)), oM 8 17]
def r118_9 : List AOper := [oO 6 (.mv (kI 0)), oO 7 (.mv (kI 27))]
def r118_11 : List AOper := [oM 19 0, oO 20 (.bin .gtr 74 (.tmp 19) (.const (.float Go.FloatKind.f32 1317011456))), oM 21 20, oG 22 (.mv (.tmp 0)) 21 false, oG 23 (.bin .lss 74 (.tmp 22) (.const (.float Go.FloatKind.f32 3464495104))) 21 false, oO 24 (.pick (.tmp 21) (.const (.bool true)) (.tmp 23)), oM 18 24]
def r118_14 : List AOper := [oO 6 (.mv (kI 0)), oO 7 (.mv (kI 2))]
def r118_16 : List AOper := [oM 26 0, oO 27 (.pure (oB (.convert 74 3 (.tmp 26)) 3)), oO 28 (.pure (oB (.convert 3 74 (.tmp 27)) 74)), oM 29 0, oO 30 (.bin .neq 74 (.tmp 28) (.tmp 29)), oM 25 30]
def r118_19 : List AOper := [oO 6 (.mv (kI 0)), oO 7 (.mv (kI 27))]
def r118_21 : List AOper := [oM 32 0, oO 33 (.pure (oB (.convert 74 3 (.tmp 32)) 3)), oM 34 1, oM 35 2, oO 36 (.call 98 [(.tmp 33), (.tmp 34), (.tmp 35)]), oO 37 (.pure (oB (.unOp .not 4 (.tmp 36)) 4)), oM 31 37]
def r118_24 : List AOper := [oO 6 (.mv (kI 0)), oO 7 (.mv (kI 2))]
def r118_26 : List AOper := [oM 38 0, oO 39 (.pure (oB (.convert 74 3 (.tmp 38)) 3)), oM 6 39, oO 7 (.mv (kI 0))]
def tr118 : List (Nat × Tidy) := [tT 0 [0, 1, 2], tT 1 [0, 1, 2, 8], tT 2 [6, 7], tT 3 [0, 1, 2, 18], tT 4 [6, 7], tT 5 [0, 1, 2, 25], tT 6 [6, 7], tT 7 [0, 31], tT 8 [6, 7], tT 9 [6, 7]]
def tl118 : List (Nat × Tidy) := []
def rs118 : List AResV := [.tmp 6, .tmp 7]
def p118_0_0 : PT St := pS [sl 0 (aV false [(cD (dF .f32))]), sl 1 (aV false [(cD (dI .i64))]), sl 2 (aV false [(cD (dI .i64))])] []
def u118_0_0 {β : Type} (g : St → β) : Nat → Int → Int → β := p118_0_0.unc g
def p118_0_1 : PT St := pS [sl 0 (aV false [(cD (dF .f32))]), sl 1 (aV false [(cD (dI .i64))]), sl 2 (aV false [(cD (dI .i64))]), sl 8 (aV false [(cD dB)])] []
def u118_0_1 {β : Type} (g : St → β) : Nat → Int → Int → Bool → β := p118_0_1.unc g
def p118_0_2 : PT St := pS [sl 0 (aV false [(cD (dF .f32))]), sl 1 (aV false [(cD (dI .i64))]), sl 2 (aV false [(cD (dI .i64))]), sl 18 (aV false [(cD dB)])] []
def u118_0_2 {β : Type} (g : St → β) : Nat → Int → Int → Bool → β := p118_0_2.unc g
def pr118_0_0 : PT (List RV) := pRs [pR false [rD (dI .i64)], pR false [rD (dI .i64)]]
def ur118_0_0 {β : Type} (g : List RV → β) : Int → Int → β := pr118_0_0.unc g
def E118_0g (vf98_0 : Tf98_0) : EnvK := EnvK.of [⟨98, nt98, [⟨pa98_0, Fn98_0 vf98_0⟩]⟩] noSeq
noncomputable def E118_0 : EnvK := E118_0g f98_0
theorem eo118_0 : E118_0.Ok Try.prog := EnvK.of_ok noSeq_ok ⟨⟨io98_0, trivial⟩, trivial⟩
noncomputable def c118_0_10g  : MCode := (.region r118_11 [] (tO [0, 1, 2, 18]))
noncomputable def c118_0_10 : MCode := c118_0_10g 
theorem g118_0_10 : c118_0_10.Good Try.prog E118_0 sh118 := trivial
--CODE 10 0
abbrev TJ118_0_1 : Type 1 := (α : Type) → Nat → (Bool → Option α) → Option α
def J118_0_1g  (α : Type) (x11 : Nat) (k1 : Bool → Option α) : Option α :=
 cK ((FloatKind.format .f32).order x11 1317011456 == some Ordering.gt)
 (k1 true)
 (k1 ((FloatKind.format .f32).order x11 3464495104 == some Ordering.lt))
noncomputable def J118_0_1 (α : Type) (x11 : Nat) (k1 : Bool → Option α) : Option α := J118_0_1g  α x11 k1
def F118_0_1 (v : TJ118_0_1) (α : Type) (K : Exit → St → Option α) : Nat → Int → Int → Bool → Option α := fun x11 x12 x13 x14 => v α x11 (fun (y1 : Bool) => u118_0_2 (K .normal) x11 x12 x13 y1) 
theorem m118_0_1g (vf98_0 : Tf98_0)  (α : Type) (K : Exit → St → Option α) : F118_0_1 (J118_0_1g ) α K = p118_0_1.unc fun σ => runM Try.prog (E118_0g vf98_0) sh118 (c118_0_10g ) K σ := by kernel_rfl
theorem m118_0_1 : ∀ (α : Type) (K : Exit → St → Option α), F118_0_1 J118_0_1 α K = p118_0_1.unc fun σ => runM Try.prog E118_0 sh118 c118_0_10 K σ := m118_0_1g f98_0
noncomputable def c118_0_5g  : MCode := (.region r118_6 [] (tO [0, 1, 2, 8]))
noncomputable def c118_0_5 : MCode := c118_0_5g 
theorem g118_0_5 : c118_0_5.Good Try.prog E118_0 sh118 := trivial
--CODE 5 0
abbrev TJ118_0_0 : Type 1 := (α : Type) → Nat → (Bool → Option α) → Option α
def J118_0_0g  (α : Type) (x4 : Nat) (k1 : Bool → Option α) : Option α :=
 cK ((FloatKind.format .f32).order x4 x4 != some Ordering.eq)
 (k1 true)
 (flN ((FloatKind.format .f32).sub x4 x4)
 (fun x8 => k1 ((FloatKind.format .f32).order x8 0 != some Ordering.eq))
 (k1 true))
noncomputable def J118_0_0 (α : Type) (x4 : Nat) (k1 : Bool → Option α) : Option α := J118_0_0g  α x4 k1
def F118_0_0 (v : TJ118_0_0) (α : Type) (K : Exit → St → Option α) : Nat → Int → Int → Option α := fun x4 x5 x6 => v α x4 (fun (y1 : Bool) => u118_0_1 (K .normal) x4 x5 x6 y1) 
theorem m118_0_0g (vf98_0 : Tf98_0)  (α : Type) (K : Exit → St → Option α) : F118_0_0 (J118_0_0g ) α K = p118_0_0.unc fun σ => runM Try.prog (E118_0g vf98_0) sh118 (c118_0_5g ) K σ := by kernel_rfl
theorem m118_0_0 : ∀ (α : Type) (K : Exit → St → Option α), F118_0_0 J118_0_0 α K = p118_0_0.unc fun σ => runM Try.prog E118_0 sh118 c118_0_5 K σ := m118_0_0g f98_0
abbrev Tf118_0 : Type 1 := (α : Type) → Nat → Int → Int → (Int → Int → Option α) → Option α
def f118_0g (vJ118_0_0 : TJ118_0_0) (vJ118_0_1 : TJ118_0_1) (vf98_0 : Tf98_0) (α : Type) (x1 : Nat) (x2 x3 : Int) (k1 : Int → Int → Option α) : Option α :=
 vJ118_0_0 α x1
 (fun x9 => cK x9
 (k1 0 27)
 (vJ118_0_1 α x1
 (fun x16 => cK x16
 (k1 0 2)
 (ivK (f2i .f32 x1 .i64)
 (fun x18 => cK ((FloatKind.format .f32).order (FloatKind.nearest .f32 x18) x1 != some Ordering.eq)
 (k1 0 27)
 (ivK (f2i .f32 x1 .i64)
 (fun x19 => vf98_0 α x19 x2 x3
 (fun x20 => cK (!x20)
 (k1 0 2)
 (ivK (f2i .f32 x1 .i64)
 (fun x21 => k1 x21 0))))))))))
noncomputable def f118_0 (α : Type) (x1 : Nat) (x2 x3 : Int) (k1 : Int → Int → Option α) : Option α := f118_0g J118_0_0 J118_0_1 f98_0 α x1 x2 x3 k1
def pa118_0 : PT (List DV) := pA [pV false [(dF .f32)], pV false [(dI .i64)], pV false [(dI .i64)]]
def Fn118_0 (v : Tf118_0) (α : Type) (k : List RV → Option α) : Nat → Int → Int → Option α := fun x1 x2 x3 => v α x1 x2 x3 (fun (y1 : Int) (y2 : Int) => ur118_0_0 k y1 y2)
noncomputable def cm118_0g (vJ118_0_0 : TJ118_0_0) (vJ118_0_1 : TJ118_0_1) : MCode := (.seq (.region r118_2 [] (tO [0, 1, 2])) (.seq (.block 0 (.seq (.mark [⟨p118_0_0, F118_0_0 vJ118_0_0⟩] c118_0_5) (.cond (.tmp 8) (.seq (.region r118_9 [] (tO [6, 7])) .ret) (.seq (.mark [⟨p118_0_1, F118_0_1 vJ118_0_1⟩] c118_0_10) (.cond (.tmp 18) (.seq (.region r118_14 [] (tO [6, 7])) .ret) (.seq (.region r118_16 [] (tO [0, 1, 2, 25])) (.cond (.tmp 25) (.seq (.region r118_19 [] (tO [6, 7])) .ret) (.seq (.region r118_21 [] (tO [0, 31])) (.cond (.tmp 31) (.seq (.region r118_24 [] (tO [6, 7])) .ret) .skip))))))))) (.seq (.region r118_26 [] (tO [6, 7])) .ret)))
noncomputable def cm118_0 : MCode := cm118_0g J118_0_0 J118_0_1
theorem gm118_0 : cm118_0.Good Try.prog E118_0 sh118 := ⟨trivial, ⟨⟨⟨g118_0_5, m118_0_0, trivial⟩, ⟨⟨trivial, trivial⟩, ⟨⟨g118_0_10, m118_0_1, trivial⟩, ⟨⟨trivial, trivial⟩, ⟨trivial, ⟨⟨trivial, trivial⟩, ⟨trivial, ⟨⟨trivial, trivial⟩, trivial⟩⟩⟩⟩⟩⟩⟩⟩, ⟨trivial, trivial⟩⟩⟩
theorem fm118_0g (vf98_0 : Tf98_0) (vJ118_0_0 : TJ118_0_0) (vJ118_0_1 : TJ118_0_1) (α : Type) (k : List RV → Option α) : Fn118_0 (f118_0g vJ118_0_0 vJ118_0_1 vf98_0) α k = pa118_0.unc fun ds => fnM Try.prog (E118_0g vf98_0) sh118 (cm118_0g vJ118_0_0 vJ118_0_1) rs118 k ds := by kernel_rfl
theorem fm118_0 : ∀ (α : Type) (k : List RV → Option α), Fn118_0 f118_0 α k = pa118_0.unc fun ds => fnM Try.prog E118_0 sh118 cm118_0 rs118 k ds := fm118_0g f98_0 J118_0_0 J118_0_1
theorem is118 : FnIs Try.prog 118 nt118 tr118 tl118 cm118_0.erase rs118 := ⟨Try.f118, Try.func118, rfl, by kernel_rfl, by kernel_rfl, by kernel_rfl⟩
theorem io118_0 : InstOk Try.prog 118 nt118 ⟨pa118_0, Fn118_0 f118_0⟩ := inst_ok eo118_0 followsTry is118 ⟨⟨sh118, cm118_0, by kernel_rfl, gm118_0, fm118_0⟩⟩
abbrev nt79 : Nat := 10
def sh79 : List (Nat × List Sh) := []
def r79_2 : List AOper := [oO 4 (.mv (kI 0))]
def r79_4 : List AOper := [oM 5 0, oO 6 (.pure (oB (.unOp .neg 3 (.tmp 5)) 3)), oM 7 1, oO 8 (.call 78 [(.tmp 6), (.tmp 7)]), oO 9 (.pure (oB (.unOp .neg 3 (.tmp 8)) 3)), oM 4 9]
def tr79 : List (Nat × Tidy) := [tT 0 [0, 1], tT 1 [4]]
def tl79 : List (Nat × Tidy) := []
def rs79 : List AResV := [.tmp 4]
def pr79_0_0 : PT (List RV) := pRs [pR false [rD (dI .i64)]]
def ur79_0_0 {β : Type} (g : List RV → β) : Int → β := pr79_0_0.unc g
def E79_0g (vf78_0 : Tf78_0) : EnvK := EnvK.of [⟨78, nt78, [⟨pa78_0, Fn78_0 vf78_0⟩]⟩] noSeq
noncomputable def E79_0 : EnvK := E79_0g f78_0
theorem eo79_0 : E79_0.Ok Try.prog := EnvK.of_ok noSeq_ok ⟨⟨io78_0, trivial⟩, trivial⟩
abbrev Tf79_0 : Type 1 := (α : Type) → Int → Int → (Int → Option α) → Option α
def f79_0g (vf78_0 : Tf78_0) (α : Type) (x1 x2 : Int) (k1 : Int → Option α) : Option α :=
 vf78_0 α (w64 (0 - x1)) x2
 (fun x3 => k1 (w64 (0 - x3)))
noncomputable def f79_0 (α : Type) (x1 x2 : Int) (k1 : Int → Option α) : Option α := f79_0g f78_0 α x1 x2 k1
def pa79_0 : PT (List DV) := pA [pV false [(dI .i64)], pV false [(dI .i64)]]
def Fn79_0 (v : Tf79_0) (α : Type) (k : List RV → Option α) : Int → Int → Option α := fun x1 x2 => v α x1 x2 (fun (y1 : Int) => ur79_0_0 k y1)
noncomputable def cm79_0g  : MCode := (.seq (.region r79_2 [] (tO [0, 1])) (.seq (.region r79_4 [] (tO [4])) .ret))
noncomputable def cm79_0 : MCode := cm79_0g 
theorem gm79_0 : cm79_0.Good Try.prog E79_0 sh79 := ⟨trivial, ⟨trivial, trivial⟩⟩
theorem fm79_0g (vf78_0 : Tf78_0)  (α : Type) (k : List RV → Option α) : Fn79_0 (f79_0g vf78_0) α k = pa79_0.unc fun ds => fnM Try.prog (E79_0g vf78_0) sh79 (cm79_0g ) rs79 k ds := by kernel_rfl
theorem fm79_0 : ∀ (α : Type) (k : List RV → Option α), Fn79_0 f79_0 α k = pa79_0.unc fun ds => fnM Try.prog E79_0 sh79 cm79_0 rs79 k ds := fm79_0g f78_0
theorem is79 : FnIs Try.prog 79 nt79 tr79 tl79 cm79_0.erase rs79 := ⟨Try.f79, Try.func79, rfl, by kernel_rfl, by kernel_rfl, by kernel_rfl⟩
theorem io79_0 : InstOk Try.prog 79 nt79 ⟨pa79_0, Fn79_0 f79_0⟩ := inst_ok eo79_0 followsTry is79 ⟨⟨sh79, cm79_0, by kernel_rfl, gm79_0, fm79_0⟩⟩
abbrev nt73 : Nat := 20
def sh73 : List (Nat × List Sh) := []
def r73_2 : List AOper := [oO 6 (.mv (kI 0)), oO 7 (.mv (kI 0))]
def r73_5 : List AOper := [oO 8 (.mv (kI 0))]
def td73_7 : Option Tidy := (tO [0, 1, 2, 8])
def r73_10 : List AOper := [oM 9 8, oM 10 2, oO 11 (.call 31 [(.tmp 10), (kI 4)]), oO 12 (.bin .lss 3 (.tmp 9) (.tmp 11))]
def r73_14 : List AOper := [oM 15 1, oO 16 (.pure (oB (.unOp .neg 3 (.tmp 15)) 3)), oM 17 0, oM 0 16, oM 1 17]
def r73_15 : List AOper := [oM 13 8, oO 14 (.bin .add 3 (.tmp 13) (kI 1)), oM 8 14]
def r73_17 : List AOper := [oM 18 0, oM 19 1, oM 6 18, oM 7 19]
def tr73 : List (Nat × Tidy) := [tT 0 [0, 1, 2], tT 1 [0, 1, 2, 8], tT 2 [0, 1, 2, 8, 12], tT 4 [0, 1, 2, 8], tT 3 [0, 1, 2, 8], tT 5 [6, 7]]
def tl73 : List (Nat × Tidy) := [tT 2 [0, 1, 2, 8]]
def rs73 : List AResV := [.tmp 6, .tmp 7]
def p73_0_0 : PT St := pS [sl 0 (aV false [(cD (dI .i64))]), sl 1 (aV false [(cD (dI .i64))]), sl 2 (aV false [(cD (dI .i64))]), sl 8 (aV false [(cD (dI .i64))])] []
def u73_0_0 {β : Type} (g : St → β) : Int → Int → Int → Int → β := p73_0_0.unc g
def p73_0_1 : PT St := pS [sl 0 (aV false [(cD (dI .i64))]), sl 1 (aV false [(cD (dI .i64))]), sl 2 (aV false [(cD (dI .i64))]), sl 8 (aV false [(cD (dI .i64))]), sl 12 (aV false [(cD dB)])] []
def u73_0_1 {β : Type} (g : St → β) : Int → Int → Int → Int → Bool → β := p73_0_1.unc g
def pr73_0_0 : PT (List RV) := pRs [pR false [rD (dI .i64)], pR false [rD (dI .i64)]]
def ur73_0_0 {β : Type} (g : List RV → β) : Int → Int → β := pr73_0_0.unc g
def E73_0g (vf31_0 : Tf31_0) : EnvK := EnvK.of [⟨31, nt31, [⟨pa31_0, Fn31_0 vf31_0⟩]⟩] noSeq
noncomputable def E73_0 : EnvK := E73_0g f31_0
theorem eo73_0 : E73_0.Ok Try.prog := EnvK.of_ok noSeq_ok ⟨⟨io31_0, trivial⟩, trivial⟩
noncomputable def c73_0_7g  : MCode := (.seq (.seq (.region r73_10 [] (tO [0, 1, 2, 8, 12])) (.cond (.tmp 12) .skip (.exit 0))) (.seq (.block 1 (.region r73_14 [] (tO [0, 1, 2, 8]))) (.region r73_15 [] (tO [0, 1, 2, 8]))))
noncomputable def c73_0_7 : MCode := c73_0_7g 
theorem g73_0_7 : c73_0_7.Good Try.prog E73_0 sh73 := ⟨⟨trivial, ⟨trivial, trivial⟩⟩, ⟨trivial, trivial⟩⟩
--CODE 7 0
def S73_0_0g (vf31_0 : Tf31_0) (α : Type) (x6 x4 x5 x7 : Int) (kn : Int → Int → Int → Option α) (k1 : Int → Int → Int → Bool → Option α) : Option α :=
 vf31_0 α x6 4
 (fun x9 => cK (decide (x7 < x9))
 (kn (w64 (0 - x5)) x4 (w64 (x7 + 1)))
 (k1 x4 x5 x7 (decide (x7 < x9))))
noncomputable def S73_0_0 (α : Type) (x6 x4 x5 x7 : Int) (kn : Int → Int → Int → Option α) (k1 : Int → Int → Int → Bool → Option α) : Option α := S73_0_0g f31_0 α x6 x4 x5 x7 kn k1
noncomputable def R73_0_0 (α : Type) (x6 : Int) (k1 : Int → Int → Int → Bool → Option α) : Nat → Int → Int → Int → Option α
 | 0, _, _, _ => none
 | n + 1, x4, x5, x7 => S73_0_0 α x6 x4 x5 x7 (R73_0_0 α x6 k1 n) k1
noncomputable def L73_0_0 (α : Type) (x6 : Int) (k1 : Int → Int → Int → Bool → Option α) (x4 x5 x7 : Int) : Option α := R73_0_0 α x6 k1 fuel x4 x5 x7
abbrev TL73_0_0 : Type 1 := (α : Type) → Int → (Int → Int → Int → Bool → Option α) → Int → Int → Int → Option α
def F73_0_0 (v : TL73_0_0) (α : Type) (K : Exit → St → Option α) : Int → Int → Int → Int → Option α := fun x4 x5 x6 x7 => v α x6 (fun (y1 : Int) (y2 : Int) (y3 : Int) (y4 : Bool) => u73_0_1 (K (.exit 0)) y1 y2 x6 y3 y4) x4 x5 x7
theorem r73_0_0g (vf31_0 : Tf31_0)  (α : Type) (K : Exit → St → Option α) (Kn : St → Option α) (x4 x5 x6 x7 : Int) : u73_0_0 (fun σ => runM Try.prog (E73_0g vf31_0) sh73 (c73_0_7g ) (thenK (fun σ => tidyK td73_7 σ Kn) K) σ) x4 x5 x6 x7 = S73_0_0g vf31_0 α x6 x4 x5 x7 (fun x4 x5 x7 => u73_0_0 Kn x4 x5 x6 x7) (fun (y1 : Int) (y2 : Int) (y3 : Int) (y4 : Bool) => u73_0_1 (K (.exit 0)) y1 y2 x6 y3 y4) := by kernel_rfl
theorem r73_0_0 (α : Type) (K : Exit → St → Option α) (Kn : St → Option α) (x4 x5 x6 x7 : Int) : u73_0_0 (fun σ => runM Try.prog E73_0 sh73 c73_0_7 (thenK (fun σ => tidyK td73_7 σ Kn) K) σ) x4 x5 x6 x7 = S73_0_0 α x6 x4 x5 x7 (fun x4 x5 x7 => u73_0_0 Kn x4 x5 x6 x7) (fun (y1 : Int) (y2 : Int) (y3 : Int) (y4 : Bool) => u73_0_1 (K (.exit 0)) y1 y2 x6 y3 y4) := r73_0_0g f31_0 α K Kn x4 x5 x6 x7
theorem t73_0_0 (α : Type) (K : Exit → St → Option α) : ∀ (n : Nat) (x4 x5 x6 x7 : Int), R73_0_0 α x6 (fun (y1 : Int) (y2 : Int) (y3 : Int) (y4 : Bool) => u73_0_1 (K (.exit 0)) y1 y2 x6 y3 y4) n x4 x5 x7 = u73_0_0 (loopT (runM Try.prog E73_0 sh73 c73_0_7) td73_7 K n) x4 x5 x6 x7 := by
 intro n
 induction n with
 | zero => intros; rfl
 | succ n ih => intro x4 x5 x6 x7; exact (congrArg (fun kn => S73_0_0 α x6 x4 x5 x7 kn (fun (y1 : Int) (y2 : Int) (y3 : Int) (y4 : Bool) => u73_0_1 (K (.exit 0)) y1 y2 x6 y3 y4)) (funext fun x4 => funext fun x5 => funext fun x7 => ih x4 x5 x6 x7)).trans (r73_0_0 α K (loopT (runM Try.prog E73_0 sh73 c73_0_7) td73_7 K n) x4 x5 x6 x7).symm
theorem m73_0_0 : ∀ (α : Type) (K : Exit → St → Option α), F73_0_0 L73_0_0 α K = p73_0_0.unc fun σ => loopT (runM Try.prog E73_0 sh73 c73_0_7) td73_7 K fuel σ := fun α K => funext fun x4 => funext fun x5 => funext fun x6 => funext fun x7 => t73_0_0 α K fuel x4 x5 x6 x7
abbrev Tf73_0 : Type 1 := (α : Type) → Int → Int → Int → (Int → Int → Option α) → Option α
def f73_0g (vL73_0_0 : TL73_0_0) (α : Type) (x1 x2 x3 : Int) (k1 : Int → Int → Option α) : Option α :=
 vL73_0_0 α x3
 (fun x10 x11 x12 x13 => k1 x10 x11) x1 x2 0
noncomputable def f73_0 (α : Type) (x1 x2 x3 : Int) (k1 : Int → Int → Option α) : Option α := f73_0g L73_0_0 α x1 x2 x3 k1
def pa73_0 : PT (List DV) := pA [pV false [(dI .i64)], pV false [(dI .i64)], pV false [(dI .i64)]]
def Fn73_0 (v : Tf73_0) (α : Type) (k : List RV → Option α) : Int → Int → Int → Option α := fun x1 x2 x3 => v α x1 x2 x3 (fun (y1 : Int) (y2 : Int) => ur73_0_0 k y1 y2)
noncomputable def cm73_0g (vL73_0_0 : TL73_0_0) : MCode := (.seq (.region r73_2 [] (tO [0, 1, 2])) (.seq (.seq (.region r73_5 [] (tO [0, 1, 2, 8])) (.block 0 (.loop td73_7 [⟨p73_0_0, F73_0_0 vL73_0_0⟩] c73_0_7))) (.seq (.region r73_17 [] (tO [6, 7])) .ret)))
noncomputable def cm73_0 : MCode := cm73_0g L73_0_0
theorem gm73_0 : cm73_0.Good Try.prog E73_0 sh73 := ⟨trivial, ⟨⟨trivial, ⟨g73_0_7, m73_0_0, trivial⟩⟩, ⟨trivial, trivial⟩⟩⟩
theorem fm73_0g (vf31_0 : Tf31_0) (vL73_0_0 : TL73_0_0) (α : Type) (k : List RV → Option α) : Fn73_0 (f73_0g vL73_0_0) α k = pa73_0.unc fun ds => fnM Try.prog (E73_0g vf31_0) sh73 (cm73_0g vL73_0_0) rs73 k ds := by kernel_rfl
theorem fm73_0 : ∀ (α : Type) (k : List RV → Option α), Fn73_0 f73_0 α k = pa73_0.unc fun ds => fnM Try.prog E73_0 sh73 cm73_0 rs73 k ds := fm73_0g f31_0 L73_0_0
theorem is73 : FnIs Try.prog 73 nt73 tr73 tl73 cm73_0.erase rs73 := ⟨Try.f73, Try.func73, rfl, by kernel_rfl, by kernel_rfl, by kernel_rfl⟩
theorem io73_0 : InstOk Try.prog 73 nt73 ⟨pa73_0, Fn73_0 f73_0⟩ := inst_ok eo73_0 followsTry is73 ⟨⟨sh73, cm73_0, by kernel_rfl, gm73_0, fm73_0⟩⟩
abbrev nt129 : Nat := 22
def sh129 : List (Nat × List Sh) := []
def r129_2 : List AOper := [oO 4 (.mv (kI 0)), oO 5 (.mv (kI 0))]
def r129_5 : List AOper := [oM 6 0, oO 7 (.call 71 [(.tmp 6)]), oO 8 (.pure (oB (.unOp .not 4 (.tmp 7)) 4))]
def r129_8 : List AOper := [oO 4 (.mv (kI 0)), oO 5 (.mv (kI 27))]
def r129_11 : List AOper := [oM 9 0, oM 10 1, oO 11 (.pure (oB (.convert 3 112 (.tmp 10)) 112)), oO 12 (.bin .gtr 112 (.tmp 9) (.tmp 11)), oM 13 12, oG 14 (.mv (.tmp 0)) 13 false, oG 15 (.mv (.tmp 1)) 13 false, oG 16 (.pure (oB (.convert 3 112 (.tmp 15)) 112)) 13 false, oG 17 (.pure (oB (.unOp .neg 112 (.tmp 16)) 112)) 13 false, oG 18 (.bin .lss 112 (.tmp 14) (.tmp 17)) 13 false, oO 19 (.pick (.tmp 13) (.const (.bool true)) (.tmp 18))]
def r129_14 : List AOper := [oO 4 (.mv (kI 0)), oO 5 (.mv (kI 2))]
def r129_16 : List AOper := [oM 20 0, oO 21 (.pure (oB (.convert 112 3 (.tmp 20)) 3)), oM 4 21, oO 5 (.mv (kI 0))]
def tr129 : List (Nat × Tidy) := [tT 0 [0, 1], tT 1 [0, 1, 8], tT 2 [4, 5], tT 3 [0, 19], tT 4 [4, 5], tT 5 [4, 5]]
def tl129 : List (Nat × Tidy) := []
def rs129 : List AResV := [.tmp 4, .tmp 5]
def pr129_0_0 : PT (List RV) := pRs [pR false [rD (dI .i64)], pR false [rD (dI .i64)]]
def ur129_0_0 {β : Type} (g : List RV → β) : Int → Int → β := pr129_0_0.unc g
def E129_0g (vf71_1 : Tf71_1) : EnvK := EnvK.of [⟨71, nt71, [⟨pa71_1, Fn71_1 vf71_1⟩]⟩] noSeq
noncomputable def E129_0 : EnvK := E129_0g f71_1
theorem eo129_0 : E129_0.Ok Try.prog := EnvK.of_ok noSeq_ok ⟨⟨io71_1, trivial⟩, trivial⟩
abbrev Tf129_0 : Type 1 := (α : Type) → Nat → Int → (Int → Int → Option α) → Option α
def f129_0g (vf71_1 : Tf71_1) (α : Type) (x1 : Nat) (x2 : Int) (k1 : Int → Int → Option α) : Option α :=
 vf71_1 α x1
 (fun x3 => cK (!x3)
 (k1 0 27)
 (cK ((FloatKind.format .f64).order x1 (FloatKind.nearest .f64 x2) == some Ordering.gt)
 (k1 0 2)
 (cK ((FloatKind.format .f64).order x1 (Op.negFloat .f64 (FloatKind.nearest .f64 x2)) == some Ordering.lt)
 (k1 0 2)
 (ivK (f2i .f64 x1 .i64)
 (fun x4 => k1 x4 0)))))
noncomputable def f129_0 (α : Type) (x1 : Nat) (x2 : Int) (k1 : Int → Int → Option α) : Option α := f129_0g f71_1 α x1 x2 k1
def pa129_0 : PT (List DV) := pA [pV false [(dF .f64)], pV false [(dI .i64)]]
def Fn129_0 (v : Tf129_0) (α : Type) (k : List RV → Option α) : Nat → Int → Option α := fun x1 x2 => v α x1 x2 (fun (y1 : Int) (y2 : Int) => ur129_0_0 k y1 y2)
noncomputable def cm129_0g  : MCode := (.seq (.region r129_2 [] (tO [0, 1])) (.seq (.seq (.region r129_5 [] (tO [0, 1, 8])) (.cond (.tmp 8) (.seq (.region r129_8 [] (tO [4, 5])) .ret) .skip)) (.seq (.seq (.region r129_11 [] (tO [0, 19])) (.cond (.tmp 19) (.seq (.region r129_14 [] (tO [4, 5])) .ret) .skip)) (.seq (.region r129_16 [] (tO [4, 5])) .ret))))
noncomputable def cm129_0 : MCode := cm129_0g 
theorem gm129_0 : cm129_0.Good Try.prog E129_0 sh129 := ⟨trivial, ⟨⟨trivial, ⟨⟨trivial, trivial⟩, trivial⟩⟩, ⟨⟨trivial, ⟨⟨trivial, trivial⟩, trivial⟩⟩, ⟨trivial, trivial⟩⟩⟩⟩
theorem fm129_0g (vf71_1 : Tf71_1)  (α : Type) (k : List RV → Option α) : Fn129_0 (f129_0g vf71_1) α k = pa129_0.unc fun ds => fnM Try.prog (E129_0g vf71_1) sh129 (cm129_0g ) rs129 k ds := by kernel_rfl
theorem fm129_0 : ∀ (α : Type) (k : List RV → Option α), Fn129_0 f129_0 α k = pa129_0.unc fun ds => fnM Try.prog E129_0 sh129 cm129_0 rs129 k ds := fm129_0g f71_1
theorem is129 : FnIs Try.prog 129 nt129 tr129 tl129 cm129_0.erase rs129 := ⟨Try.f129, Try.func129, rfl, by kernel_rfl, by kernel_rfl, by kernel_rfl⟩
theorem io129_0 : InstOk Try.prog 129 nt129 ⟨pa129_0, Fn129_0 f129_0⟩ := inst_ok eo129_0 followsTry is129 ⟨⟨sh129, cm129_0, by kernel_rfl, gm129_0, fm129_0⟩⟩
abbrev nt68 : Nat := 35
def sh68 : List (Nat × List Sh) := [(13, [.int .i64, .int .i64]), (14, [.int .i64, .int .i64]), (15, [.int .i64, .int .i64]), (23, [.int .i64]), (25, [.int .i64]), (28, [.int .i64]), (30, [.int .i64]), (34, [.int .i64, .int .i64])]
def r68_2 : List AOper := [oO 4 (.alloc [(cI 0), (cI 0)])]
def r68_4 : List AOper := [oO 5 (.alloc [(cI 0), (cI 0)])]
def r68_7 : List AOper := [oM 8 0, oO 9 (.len (.tmp 8)), oO 10 (.mv (kI 0))]
def td68_9 : Option Tidy := (some ⟨[1, 4, 5, 8, 9, 10], true, [⟨false, 8, 0, 20008, 2⟩], []⟩)
def r68_11 : List AOper := [oO 11 (.bin .lss 3 (.tmp 10) (.tmp 9))]
def r68_17 : List AOper := [oM 12 10, oO 13 (.iaddr 2 none (.tmp 8) (.tmp 10)), oO 14 (.load true 2 (.tmp 13)), oO 7 (.alloc [(cI 0), (cI 0)]), oM 6 12, oD (.store 2 (.tmp 7) (.tmp 14))]
def r68_19 : List AOper := [oO 15 (.load true 2 (.tmp 7)), oM 16 6, oO 17 (.bin .rem 3 (.tmp 16) (kI 4)), oM 18 1, oO 19 (.bin .rem 3 (.tmp 18) (kI 4)), oO 20 (.bin .mul 3 (.tmp 17) (.tmp 19)), oO 21 (.call 119 [(.tmp 15), (.tmp 20)]), oD (.store 2 (.tmp 7) (.tmp 21))]
def r68_20 : List AOper := [oO 22 (.faddr 0 (.tmp 5)), oO 23 (.load false 1 (.tmp 22)), oO 24 (.faddr 0 (.tmp 7)), oO 25 (.load false 1 (.tmp 24)), oO 26 (.bin .add 3 (.tmp 23) (.tmp 25)), oO 27 (.faddr 1 (.tmp 5)), oO 28 (.load false 1 (.tmp 27)), oO 29 (.faddr 1 (.tmp 7)), oO 30 (.load false 1 (.tmp 29)), oO 31 (.bin .add 3 (.tmp 28) (.tmp 30)), oO 32 (.build [(cI 0), (cI 0)] [(0, 1, (.tmp 26)), (1, 1, (.tmp 31))]), oD (.store 2 (.tmp 5) (.tmp 32))]
def r68_21 : List AOper := [oO 33 (.bin .add 3 (.tmp 10) (kI 1)), oM 10 33]
def r68_23 : List AOper := [oO 34 (.load true 2 (.tmp 5)), oD (.store 2 (.tmp 4) (.tmp 34))]
def tr68 : List (Nat × Tidy) := [tT 0 [0, 1, 4], tT 1 [0, 1, 4, 5], tT 2 [1, 4, 5, 8, 9, 10], tT 3 [1, 4, 5, 8, 9, 10, 11], tT 4 [1, 4, 5, 6, 7, 8, 9, 10], tT 5 [1, 4, 5, 7, 8, 9, 10], tT 6 [1, 4, 5, 8, 9, 10], tT 7 [1, 4, 5, 8, 9, 10], tT 8 [4]]
def tl68 : List (Nat × Tidy) := [(3, ⟨[1, 4, 5, 8, 9, 10], true, [⟨false, 8, 0, 20008, 2⟩], []⟩)]
def rs68 : List AResV := [.cell 4 true 2]
def p68_0_0 : PT St := pS [sl 1 (aV false [(cD (dI .i64))]), sl 4 (aV false [(cPtr 4 0)]), sl 5 (aV false [(cPtr 5 0)]), sl 8 (aV false [(cD dL)]), sl 9 (aV false [(cD (dI .i64))]), sl 10 (aV false [(cD (dI .i64))])] [eBox 4 [(cD (dI .i64)), (cD (dI .i64))], eBox 5 [(cD (dI .i64)), (cD (dI .i64))]]
def u68_0_0 {β : Type} (g : St → β) : Int → Rows → Int → Int → Int → Int → Int → Int → β := p68_0_0.unc g
def p68_0_1 : PT St := pS [sl 1 (aV false [(cD (dI .i64))]), sl 4 (aV false [(cPtr 4 0)]), sl 5 (aV false [(cPtr 5 0)]), sl 8 (aV false [(cD dL)]), sl 9 (aV false [(cD (dI .i64))]), sl 10 (aV false [(cD (dI .i64))]), sl 11 (aV false [(cD dB)])] [eBox 4 [(cD (dI .i64)), (cD (dI .i64))], eBox 5 [(cD (dI .i64)), (cD (dI .i64))]]
def u68_0_1 {β : Type} (g : St → β) : Int → Rows → Int → Int → Bool → Int → Int → Int → Int → β := p68_0_1.unc g
def pr68_0_0 : PT (List RV) := pRs [pR true [rD (dI .i64), rD (dI .i64)]]
def ur68_0_0 {β : Type} (g : List RV → β) : Int → Int → β := pr68_0_0.unc g
def E68_0g (vf119_0 : Tf119_0) : EnvK := EnvK.of [⟨119, nt119, [⟨pa119_0, Fn119_0 vf119_0⟩]⟩] noSeq
noncomputable def E68_0 : EnvK := E68_0g f119_0
theorem eo68_0 : E68_0.Ok Try.prog := EnvK.of_ok noSeq_ok ⟨⟨io119_0, trivial⟩, trivial⟩
noncomputable def c68_0_9g  : MCode := (.seq (.region r68_11 [] (tO [1, 4, 5, 8, 9, 10, 11])) (.seq (.cond (.tmp 11) .skip (.exit 0)) (.seq (.block 1 (.seq (.region r68_17 [] (tO [1, 4, 5, 6, 7, 8, 9, 10])) (.seq (.region r68_19 [] (tO [1, 4, 5, 7, 8, 9, 10])) (.region r68_20 [] (tO [1, 4, 5, 8, 9, 10]))))) (.region r68_21 [] (tO [1, 4, 5, 8, 9, 10])))))
noncomputable def c68_0_9 : MCode := c68_0_9g 
theorem g68_0_9 : c68_0_9.Good Try.prog E68_0 sh68 := ⟨trivial, ⟨⟨trivial, trivial⟩, ⟨⟨trivial, ⟨trivial, trivial⟩⟩, trivial⟩⟩⟩
--CODE 9 0
def S68_0_0g (vf119_0 : Tf119_0) (α : Type) (x3 : Int) (x4 : Rows) (x5 x6 x9 x10 : Int) (kn : Int → Int → Int → Option α) (k1 : Int → Bool → Int → Int → Option α) : Option α :=
 cK (decide (x6 < x5))
 (rowK x4 x6 [.int .i64, .int .i64]
 (fun x12 x13 => vf119_0 α x12 x13 (w64 ((Int.tmod x6 4) * (Int.tmod x3 4)))
 (fun x14 x15 => kn (w64 (x6 + 1)) (w64 (x9 + x14)) (w64 (x10 + x15)))))
 (k1 x6 (decide (x6 < x5)) x9 x10)
noncomputable def S68_0_0 (α : Type) (x3 : Int) (x4 : Rows) (x5 x6 x9 x10 : Int) (kn : Int → Int → Int → Option α) (k1 : Int → Bool → Int → Int → Option α) : Option α := S68_0_0g f119_0 α x3 x4 x5 x6 x9 x10 kn k1
noncomputable def R68_0_0 (α : Type) (x3 : Int) (x4 : Rows) (x5 : Int) (k1 : Int → Bool → Int → Int → Option α) : Nat → Int → Int → Int → Option α
 | 0, _, _, _ => none
 | n + 1, x6, x9, x10 => S68_0_0 α x3 x4 x5 x6 x9 x10 (R68_0_0 α x3 x4 x5 k1 n) k1
noncomputable def L68_0_0 (α : Type) (x3 : Int) (x4 : Rows) (x5 : Int) (k1 : Int → Bool → Int → Int → Option α) (x6 x9 x10 : Int) : Option α := R68_0_0 α x3 x4 x5 k1 fuel x6 x9 x10
abbrev TL68_0_0 : Type 1 := (α : Type) → Int → Rows → Int → (Int → Bool → Int → Int → Option α) → Int → Int → Int → Option α
def F68_0_0 (v : TL68_0_0) (α : Type) (K : Exit → St → Option α) : Int → Rows → Int → Int → Int → Int → Int → Int → Option α := fun x3 x4 x5 x6 x7 x8 x9 x10 => v α x3 x4 x5 (fun (y1 : Int) (y2 : Bool) (y3 : Int) (y4 : Int) => u68_0_1 (K (.exit 0)) x3 x4 x5 y1 y2 x7 x8 y3 y4) x6 x9 x10
theorem r68_0_0g (vf119_0 : Tf119_0)  (α : Type) (K : Exit → St → Option α) (Kn : St → Option α) (x3 : Int) (x4 : Rows) (x5 x6 x7 x8 x9 x10 : Int) : u68_0_0 (fun σ => runM Try.prog (E68_0g vf119_0) sh68 (c68_0_9g ) (thenK (fun σ => tidyK td68_9 σ Kn) K) σ) x3 x4 x5 x6 x7 x8 x9 x10 = S68_0_0g vf119_0 α x3 x4 x5 x6 x9 x10 (fun x6 x9 x10 => u68_0_0 Kn x3 x4 x5 x6 x7 x8 x9 x10) (fun (y1 : Int) (y2 : Bool) (y3 : Int) (y4 : Int) => u68_0_1 (K (.exit 0)) x3 x4 x5 y1 y2 x7 x8 y3 y4) := by kernel_rfl
theorem r68_0_0 (α : Type) (K : Exit → St → Option α) (Kn : St → Option α) (x3 : Int) (x4 : Rows) (x5 x6 x7 x8 x9 x10 : Int) : u68_0_0 (fun σ => runM Try.prog E68_0 sh68 c68_0_9 (thenK (fun σ => tidyK td68_9 σ Kn) K) σ) x3 x4 x5 x6 x7 x8 x9 x10 = S68_0_0 α x3 x4 x5 x6 x9 x10 (fun x6 x9 x10 => u68_0_0 Kn x3 x4 x5 x6 x7 x8 x9 x10) (fun (y1 : Int) (y2 : Bool) (y3 : Int) (y4 : Int) => u68_0_1 (K (.exit 0)) x3 x4 x5 y1 y2 x7 x8 y3 y4) := r68_0_0g f119_0 α K Kn x3 x4 x5 x6 x7 x8 x9 x10
theorem t68_0_0 (α : Type) (K : Exit → St → Option α) : ∀ (n : Nat) (x3 : Int) (x4 : Rows) (x5 x6 x7 x8 x9 x10 : Int), R68_0_0 α x3 x4 x5 (fun (y1 : Int) (y2 : Bool) (y3 : Int) (y4 : Int) => u68_0_1 (K (.exit 0)) x3 x4 x5 y1 y2 x7 x8 y3 y4) n x6 x9 x10 = u68_0_0 (loopT (runM Try.prog E68_0 sh68 c68_0_9) td68_9 K n) x3 x4 x5 x6 x7 x8 x9 x10 := by
 intro n
 induction n with
 | zero => intros; rfl
 | succ n ih => intro x3 x4 x5 x6 x7 x8 x9 x10; exact (congrArg (fun kn => S68_0_0 α x3 x4 x5 x6 x9 x10 kn (fun (y1 : Int) (y2 : Bool) (y3 : Int) (y4 : Int) => u68_0_1 (K (.exit 0)) x3 x4 x5 y1 y2 x7 x8 y3 y4)) (funext fun x6 => funext fun x9 => funext fun x10 => ih x3 x4 x5 x6 x7 x8 x9 x10)).trans (r68_0_0 α K (loopT (runM Try.prog E68_0 sh68 c68_0_9) td68_9 K n) x3 x4 x5 x6 x7 x8 x9 x10).symm
theorem m68_0_0 : ∀ (α : Type) (K : Exit → St → Option α), F68_0_0 L68_0_0 α K = p68_0_0.unc fun σ => loopT (runM Try.prog E68_0 sh68 c68_0_9) td68_9 K fuel σ := fun α K => funext fun x3 => funext fun x4 => funext fun x5 => funext fun x6 => funext fun x7 => funext fun x8 => funext fun x9 => funext fun x10 => t68_0_0 α K fuel x3 x4 x5 x6 x7 x8 x9 x10
abbrev Tf68_0 : Type 1 := (α : Type) → Rows → Int → (Int → Int → Option α) → Option α
def f68_0g (vL68_0_0 : TL68_0_0) (α : Type) (x1 : Rows) (x2 : Int) (k1 : Int → Int → Option α) : Option α :=
 vL68_0_0 α x2 x1 ((List.length x1 : Nat) : Int)
 (fun x16 x17 x18 x19 => k1 x18 x19) 0 0 0
noncomputable def f68_0 (α : Type) (x1 : Rows) (x2 : Int) (k1 : Int → Int → Option α) : Option α := f68_0g L68_0_0 α x1 x2 k1
def pa68_0 : PT (List DV) := pA [pV false [dL], pV false [(dI .i64)]]
def Fn68_0 (v : Tf68_0) (α : Type) (k : List RV → Option α) : Rows → Int → Option α := fun x1 x2 => v α x1 x2 (fun (y1 : Int) (y2 : Int) => ur68_0_0 k y1 y2)
noncomputable def cm68_0g (vL68_0_0 : TL68_0_0) : MCode := (.seq (.region r68_2 [] (tO [0, 1, 4])) (.seq (.region r68_4 [] (tO [0, 1, 4, 5])) (.seq (.seq (.region r68_7 [] (tO [1, 4, 5, 8, 9, 10])) (.block 0 (.loop td68_9 [⟨p68_0_0, F68_0_0 vL68_0_0⟩] c68_0_9))) (.seq (.region r68_23 [] (tO [4])) .ret))))
noncomputable def cm68_0 : MCode := cm68_0g L68_0_0
theorem gm68_0 : cm68_0.Good Try.prog E68_0 sh68 := ⟨trivial, ⟨trivial, ⟨⟨trivial, ⟨g68_0_9, m68_0_0, trivial⟩⟩, ⟨trivial, trivial⟩⟩⟩⟩
theorem fm68_0g (vf119_0 : Tf119_0) (vL68_0_0 : TL68_0_0) (α : Type) (k : List RV → Option α) : Fn68_0 (f68_0g vL68_0_0) α k = pa68_0.unc fun ds => fnM Try.prog (E68_0g vf119_0) sh68 (cm68_0g vL68_0_0) rs68 k ds := by kernel_rfl
theorem fm68_0 : ∀ (α : Type) (k : List RV → Option α), Fn68_0 f68_0 α k = pa68_0.unc fun ds => fnM Try.prog E68_0 sh68 cm68_0 rs68 k ds := fm68_0g f119_0 L68_0_0
theorem is68 : FnIs Try.prog 68 nt68 tr68 tl68 cm68_0.erase rs68 := ⟨Try.f68, Try.func68, rfl, by kernel_rfl, by kernel_rfl, by kernel_rfl⟩
theorem io68_0 : InstOk Try.prog 68 nt68 ⟨pa68_0, Fn68_0 f68_0⟩ := inst_ok eo68_0 followsTry is68 ⟨⟨sh68, cm68_0, by kernel_rfl, gm68_0, fm68_0⟩⟩
abbrev nt91 : Nat := 25
def sh91 : List (Nat × List Sh) := [(15, [.int .i64]), (21, [.int .i64])]
def r91_2 : List AOper := [oO 5 (.box (.tmp 2)), oO 6 (.mv (kI 0))]
def r91_5 : List AOper := [oM 7 0, oO 8 (.call 123 [(.tmp 7)]), oO 9 (.pure (oB (.unOp .not 4 (.tmp 8)) 4))]
def r91_8 : List AOper := [oO 6 (.mv (kI 3))]
def r91_11 : List AOper := [oM 10 1, oO 11 (.call 29 [(.tmp 10), (kI 1000), (kI 200000)]), oO 12 (.pure (oB (.unOp .not 4 (.tmp 11)) 4)), oM 13 12, oG 14 (.faddr 0 (.tmp 5)) 13 false, oG 15 (.load false 1 (.tmp 14)) 13 false, oG 16 (.call 29 [(.tmp 15), (kI 5000), (kI 80000)]) 13 false, oG 17 (.pure (oB (.unOp .not 4 (.tmp 16)) 4)) 13 false, oO 18 (.pick (.tmp 13) (.const (.bool true)) (.tmp 17)), oM 19 18, oG 20 (.faddr 1 (.tmp 5)) 19 false, oG 21 (.load false 1 (.tmp 20)) 19 false, oG 22 (.call 29 [(.tmp 21), (kI 0), (kI 9999)]) 19 false, oG 23 (.pure (oB (.unOp .not 4 (.tmp 22)) 4)) 19 false, oO 24 (.pick (.tmp 19) (.const (.bool true)) (.tmp 23))]
def r91_14 : List AOper := [oO 6 (.mv (kI 2))]
def r91_16 : List AOper := [oO 6 (.mv (kI 0))]
def tr91 : List (Nat × Tidy) := [tT 0 [0, 1, 5], tT 1 [1, 5, 9], tT 2 [6], tT 3 [24], tT 4 [6], tT 5 [6]]
def tl91 : List (Nat × Tidy) := []
def rs91 : List AResV := [.tmp 6]
def pr91_0_0 : PT (List RV) := pRs [pR false [rD (dI .i64)]]
def ur91_0_0 {β : Type} (g : List RV → β) : Int → β := pr91_0_0.unc g
def E91_0g (vf123_0 : Tf123_0) (vf29_0 : Tf29_0) : EnvK := EnvK.of [⟨123, nt123, [⟨pa123_0, Fn123_0 vf123_0⟩]⟩, ⟨29, nt29, [⟨pa29_0, Fn29_0 vf29_0⟩]⟩] noSeq
noncomputable def E91_0 : EnvK := E91_0g f123_0 f29_0
theorem eo91_0 : E91_0.Ok Try.prog := EnvK.of_ok noSeq_ok ⟨⟨io123_0, trivial⟩, ⟨io29_0, trivial⟩, trivial⟩
abbrev Tf91_0 : Type 1 := (α : Type) → ByteArray → Int → Int → Int → (Int → Option α) → Option α
def f91_0g (vf123_0 : Tf123_0) (vf29_0 : Tf29_0) (α : Type) (x1 : ByteArray) (x2 x3 x4 : Int) (k1 : Int → Option α) : Option α :=
 vf123_0 α x1
 (fun x5 => cK (!x5)
 (k1 3)
 (vf29_0 α x2 1000 200000
 (fun x6 => cK (!x6)
 (k1 2)
 (vf29_0 α x3 5000 80000
 (fun x7 => cK (!x7)
 (k1 2)
 (vf29_0 α x4 0 9999
 (fun x8 => cK (!x8)
 (k1 2)
 (k1 0))))))))
noncomputable def f91_0 (α : Type) (x1 : ByteArray) (x2 x3 x4 : Int) (k1 : Int → Option α) : Option α := f91_0g f123_0 f29_0 α x1 x2 x3 x4 k1
def pa91_0 : PT (List DV) := pA [pV false [dS], pV false [(dI .i64)], pV true [(dI .i64), (dI .i64)]]
def Fn91_0 (v : Tf91_0) (α : Type) (k : List RV → Option α) : ByteArray → Int → Int → Int → Option α := fun x1 x2 x3 x4 => v α x1 x2 x3 x4 (fun (y1 : Int) => ur91_0_0 k y1)
noncomputable def cm91_0g  : MCode := (.seq (.region r91_2 [] (tO [0, 1, 5])) (.seq (.seq (.region r91_5 [] (tO [1, 5, 9])) (.cond (.tmp 9) (.seq (.region r91_8 [] (tO [6])) .ret) .skip)) (.seq (.seq (.region r91_11 [] (tO [24])) (.cond (.tmp 24) (.seq (.region r91_14 [] (tO [6])) .ret) .skip)) (.seq (.region r91_16 [] (tO [6])) .ret))))
noncomputable def cm91_0 : MCode := cm91_0g 
theorem gm91_0 : cm91_0.Good Try.prog E91_0 sh91 := ⟨trivial, ⟨⟨trivial, ⟨⟨trivial, trivial⟩, trivial⟩⟩, ⟨⟨trivial, ⟨⟨trivial, trivial⟩, trivial⟩⟩, ⟨trivial, trivial⟩⟩⟩⟩
theorem fm91_0g (vf123_0 : Tf123_0) (vf29_0 : Tf29_0)  (α : Type) (k : List RV → Option α) : Fn91_0 (f91_0g vf123_0 vf29_0) α k = pa91_0.unc fun ds => fnM Try.prog (E91_0g vf123_0 vf29_0) sh91 (cm91_0g ) rs91 k ds := by kernel_rfl
theorem fm91_0 : ∀ (α : Type) (k : List RV → Option α), Fn91_0 f91_0 α k = pa91_0.unc fun ds => fnM Try.prog E91_0 sh91 cm91_0 rs91 k ds := fm91_0g f123_0 f29_0
theorem is91 : FnIs Try.prog 91 nt91 tr91 tl91 cm91_0.erase rs91 := ⟨Try.f91, Try.func91, rfl, by kernel_rfl, by kernel_rfl, by kernel_rfl⟩
theorem io91_0 : InstOk Try.prog 91 nt91 ⟨pa91_0, Fn91_0 f91_0⟩ := inst_ok eo91_0 followsTry is91 ⟨⟨sh91, cm91_0, by kernel_rfl, gm91_0, fm91_0⟩⟩
abbrev nt42 : Nat := 10
def sh42 : List (Nat × List Sh) := []
def r42_2 : List AOper := [oO 4 (.mv (kI 0))]
def r42_4 : List AOper := [oM 5 0, oO 6 (.pure (oB (.unOp .neg 3 (.tmp 5)) 3)), oM 7 1, oO 8 (.call 99 [(.tmp 6), (.tmp 7)]), oO 9 (.pure (oB (.unOp .neg 3 (.tmp 8)) 3)), oM 4 9]
def tr42 : List (Nat × Tidy) := [tT 0 [0, 1], tT 1 [4]]
def tl42 : List (Nat × Tidy) := []
def rs42 : List AResV := [.tmp 4]
def pr42_0_0 : PT (List RV) := pRs [pR false [rD (dI .i64)]]
def ur42_0_0 {β : Type} (g : List RV → β) : Int → β := pr42_0_0.unc g
def E42_0g (vf99_0 : Tf99_0) : EnvK := EnvK.of [⟨99, nt99, [⟨pa99_0, Fn99_0 vf99_0⟩]⟩] noSeq
noncomputable def E42_0 : EnvK := E42_0g f99_0
theorem eo42_0 : E42_0.Ok Try.prog := EnvK.of_ok noSeq_ok ⟨⟨io99_0, trivial⟩, trivial⟩
abbrev Tf42_0 : Type 1 := (α : Type) → Int → Int → (Int → Option α) → Option α
def f42_0g (vf99_0 : Tf99_0) (α : Type) (x1 x2 : Int) (k1 : Int → Option α) : Option α :=
 vf99_0 α (w64 (0 - x1)) x2
 (fun x3 => k1 (w64 (0 - x3)))
noncomputable def f42_0 (α : Type) (x1 x2 : Int) (k1 : Int → Option α) : Option α := f42_0g f99_0 α x1 x2 k1
def pa42_0 : PT (List DV) := pA [pV false [(dI .i64)], pV false [(dI .i64)]]
def Fn42_0 (v : Tf42_0) (α : Type) (k : List RV → Option α) : Int → Int → Option α := fun x1 x2 => v α x1 x2 (fun (y1 : Int) => ur42_0_0 k y1)
noncomputable def cm42_0g  : MCode := (.seq (.region r42_2 [] (tO [0, 1])) (.seq (.region r42_4 [] (tO [4])) .ret))
noncomputable def cm42_0 : MCode := cm42_0g 
theorem gm42_0 : cm42_0.Good Try.prog E42_0 sh42 := ⟨trivial, ⟨trivial, trivial⟩⟩
theorem fm42_0g (vf99_0 : Tf99_0)  (α : Type) (k : List RV → Option α) : Fn42_0 (f42_0g vf99_0) α k = pa42_0.unc fun ds => fnM Try.prog (E42_0g vf99_0) sh42 (cm42_0g ) rs42 k ds := by kernel_rfl
theorem fm42_0 : ∀ (α : Type) (k : List RV → Option α), Fn42_0 f42_0 α k = pa42_0.unc fun ds => fnM Try.prog E42_0 sh42 cm42_0 rs42 k ds := fm42_0g f99_0
theorem is42 : FnIs Try.prog 42 nt42 tr42 tl42 cm42_0.erase rs42 := ⟨Try.f42, Try.func42, rfl, by kernel_rfl, by kernel_rfl, by kernel_rfl⟩
theorem io42_0 : InstOk Try.prog 42 nt42 ⟨pa42_0, Fn42_0 f42_0⟩ := inst_ok eo42_0 followsTry is42 ⟨⟨sh42, cm42_0, by kernel_rfl, gm42_0, fm42_0⟩⟩
abbrev nt70 : Nat := 5
def sh70 : List (Nat × List Sh) := []
def r70_2 : List AOper := [oO 2 (.mv (.const (.bool false)))]
def r70_4 : List AOper := [oM 3 0, oO 4 (.call 29 [(.tmp 3), (kI 0), (kI 65535)]), oM 2 4]
def tr70 : List (Nat × Tidy) := [tT 0 [0], tT 1 [2]]
def tl70 : List (Nat × Tidy) := []
def rs70 : List AResV := [.tmp 2]
def pr70_0_0 : PT (List RV) := pRs [pR false [rD dB]]
def ur70_0_0 {β : Type} (g : List RV → β) : Bool → β := pr70_0_0.unc g
def E70_0g (vf29_0 : Tf29_0) : EnvK := EnvK.of [⟨29, nt29, [⟨pa29_0, Fn29_0 vf29_0⟩]⟩] noSeq
noncomputable def E70_0 : EnvK := E70_0g f29_0
theorem eo70_0 : E70_0.Ok Try.prog := EnvK.of_ok noSeq_ok ⟨⟨io29_0, trivial⟩, trivial⟩
abbrev Tf70_0 : Type 1 := (α : Type) → Int → (Bool → Option α) → Option α
def f70_0g (vf29_0 : Tf29_0) (α : Type) (x1 : Int) (k1 : Bool → Option α) : Option α :=
 vf29_0 α x1 0 65535
 (fun x2 => k1 x2)
noncomputable def f70_0 (α : Type) (x1 : Int) (k1 : Bool → Option α) : Option α := f70_0g f29_0 α x1 k1
def pa70_0 : PT (List DV) := pA [pV false [(dI .i64)]]
def Fn70_0 (v : Tf70_0) (α : Type) (k : List RV → Option α) : Int → Option α := fun x1 => v α x1 (fun (y1 : Bool) => ur70_0_0 k y1)
noncomputable def cm70_0g  : MCode := (.seq (.region r70_2 [] (tO [0])) (.seq (.region r70_4 [] (tO [2])) .ret))
noncomputable def cm70_0 : MCode := cm70_0g 
theorem gm70_0 : cm70_0.Good Try.prog E70_0 sh70 := ⟨trivial, ⟨trivial, trivial⟩⟩
theorem fm70_0g (vf29_0 : Tf29_0)  (α : Type) (k : List RV → Option α) : Fn70_0 (f70_0g vf29_0) α k = pa70_0.unc fun ds => fnM Try.prog (E70_0g vf29_0) sh70 (cm70_0g ) rs70 k ds := by kernel_rfl
theorem fm70_0 : ∀ (α : Type) (k : List RV → Option α), Fn70_0 f70_0 α k = pa70_0.unc fun ds => fnM Try.prog E70_0 sh70 cm70_0 rs70 k ds := fm70_0g f29_0
theorem is70 : FnIs Try.prog 70 nt70 tr70 tl70 cm70_0.erase rs70 := ⟨Try.f70, Try.func70, rfl, by kernel_rfl, by kernel_rfl, by kernel_rfl⟩
theorem io70_0 : InstOk Try.prog 70 nt70 ⟨pa70_0, Fn70_0 f70_0⟩ := inst_ok eo70_0 followsTry is70 ⟨⟨sh70, cm70_0, by kernel_rfl, gm70_0, fm70_0⟩⟩
abbrev nt109 : Nat := 10
def sh109 : List (Nat × List Sh) := []
def r109_2 : List AOper := [oO 4 (.mv (.const (.bool false)))]
def r109_4 : List AOper := [oM 5 0, oM 6 1, oO 7 (.pure (oB (.unOp .neg 3 (.tmp 6)) 3)), oM 8 1, oO 9 (.call 98 [(.tmp 5), (.tmp 7), (.tmp 8)]), oM 4 9]
def tr109 : List (Nat × Tidy) := [tT 0 [0, 1], tT 1 [4]]
def tl109 : List (Nat × Tidy) := []
def rs109 : List AResV := [.tmp 4]
def pr109_0_0 : PT (List RV) := pRs [pR false [rD dB]]
def ur109_0_0 {β : Type} (g : List RV → β) : Bool → β := pr109_0_0.unc g
def E109_0g (vf98_0 : Tf98_0) : EnvK := EnvK.of [⟨98, nt98, [⟨pa98_0, Fn98_0 vf98_0⟩]⟩] noSeq
noncomputable def E109_0 : EnvK := E109_0g f98_0
theorem eo109_0 : E109_0.Ok Try.prog := EnvK.of_ok noSeq_ok ⟨⟨io98_0, trivial⟩, trivial⟩
abbrev Tf109_0 : Type 1 := (α : Type) → Int → Int → (Bool → Option α) → Option α
def f109_0g (vf98_0 : Tf98_0) (α : Type) (x1 x2 : Int) (k1 : Bool → Option α) : Option α :=
 vf98_0 α x1 (w64 (0 - x2)) x2
 (fun x3 => k1 x3)
noncomputable def f109_0 (α : Type) (x1 x2 : Int) (k1 : Bool → Option α) : Option α := f109_0g f98_0 α x1 x2 k1
def pa109_0 : PT (List DV) := pA [pV false [(dI .i64)], pV false [(dI .i64)]]
def Fn109_0 (v : Tf109_0) (α : Type) (k : List RV → Option α) : Int → Int → Option α := fun x1 x2 => v α x1 x2 (fun (y1 : Bool) => ur109_0_0 k y1)
noncomputable def cm109_0g  : MCode := (.seq (.region r109_2 [] (tO [0, 1])) (.seq (.region r109_4 [] (tO [4])) .ret))
noncomputable def cm109_0 : MCode := cm109_0g 
theorem gm109_0 : cm109_0.Good Try.prog E109_0 sh109 := ⟨trivial, ⟨trivial, trivial⟩⟩
theorem fm109_0g (vf98_0 : Tf98_0)  (α : Type) (k : List RV → Option α) : Fn109_0 (f109_0g vf98_0) α k = pa109_0.unc fun ds => fnM Try.prog (E109_0g vf98_0) sh109 (cm109_0g ) rs109 k ds := by kernel_rfl
theorem fm109_0 : ∀ (α : Type) (k : List RV → Option α), Fn109_0 f109_0 α k = pa109_0.unc fun ds => fnM Try.prog E109_0 sh109 cm109_0 rs109 k ds := fm109_0g f98_0
theorem is109 : FnIs Try.prog 109 nt109 tr109 tl109 cm109_0.erase rs109 := ⟨Try.f109, Try.func109, rfl, by kernel_rfl, by kernel_rfl, by kernel_rfl⟩
theorem io109_0 : InstOk Try.prog 109 nt109 ⟨pa109_0, Fn109_0 f109_0⟩ := inst_ok eo109_0 followsTry is109 ⟨⟨sh109, cm109_0, by kernel_rfl, gm109_0, fm109_0⟩⟩
abbrev nt83 : Nat := 27
def sh83 : List (Nat × List Sh) := [(17, [.int .i64]), (23, [.int .i64])]
def r83_2 : List AOper := [oO 5 (.box (.tmp 2)), oO 6 (.mv (kI 0))]
def r83_6 : List AOper := [oM 8 0, oO 9 (.call 121 [(.tmp 8)]), oO 10 (.pure (oB (.unOp .not 4 (.tmp 9)) 4)), oM 7 10]
def r83_9 : List AOper := [oO 6 (.mv (kI 3))]
def r83_11 : List AOper := [oM 12 1, oO 13 (.call 98 [(.tmp 12), (kI 1000), (kI 200000)]), oO 14 (.pure (oB (.unOp .not 4 (.tmp 13)) 4)), oM 15 14, oG 16 (.faddr 0 (.tmp 5)) 15 false, oG 17 (.load false 1 (.tmp 16)) 15 false, oG 18 (.call 98 [(.tmp 17), (kI 5000), (kI 80000)]) 15 false, oG 19 (.pure (oB (.unOp .not 4 (.tmp 18)) 4)) 15 false, oO 20 (.pick (.tmp 15) (.const (.bool true)) (.tmp 19)), oM 21 20, oG 22 (.faddr 1 (.tmp 5)) 21 false, oG 23 (.load false 1 (.tmp 22)) 21 false, oG 24 (.call 98 [(.tmp 23), (kI 0), (kI 9999)]) 21 false, oG 25 (.pure (oB (.unOp .not 4 (.tmp 24)) 4)) 21 false, oO 26 (.pick (.tmp 21) (.const (.bool true)) (.tmp 25)), oM 11 26]
def r83_14 : List AOper := [oO 6 (.mv (kI 2))]
def r83_16 : List AOper := [oO 6 (.mv (kI 0))]
def tr83 : List (Nat × Tidy) := [tT 0 [0, 1, 5], tT 1 [1, 5, 7], tT 2 [6], tT 3 [11], tT 4 [6], tT 5 [6]]
def tl83 : List (Nat × Tidy) := []
def rs83 : List AResV := [.tmp 6]
def pr83_0_0 : PT (List RV) := pRs [pR false [rD (dI .i64)]]
def ur83_0_0 {β : Type} (g : List RV → β) : Int → β := pr83_0_0.unc g
def E83_0g (vf121_0 : Tf121_0) (vf98_0 : Tf98_0) : EnvK := EnvK.of [⟨121, nt121, [⟨pa121_0, Fn121_0 vf121_0⟩]⟩, ⟨98, nt98, [⟨pa98_0, Fn98_0 vf98_0⟩]⟩] noSeq
noncomputable def E83_0 : EnvK := E83_0g f121_0 f98_0
theorem eo83_0 : E83_0.Ok Try.prog := EnvK.of_ok noSeq_ok ⟨⟨io121_0, trivial⟩, ⟨io98_0, trivial⟩, trivial⟩
abbrev Tf83_0 : Type 1 := (α : Type) → ByteArray → Int → Int → Int → (Int → Option α) → Option α
def f83_0g (vf121_0 : Tf121_0) (vf98_0 : Tf98_0) (α : Type) (x1 : ByteArray) (x2 x3 x4 : Int) (k1 : Int → Option α) : Option α :=
 vf121_0 α x1
 (fun x5 => cK (!x5)
 (k1 3)
 (vf98_0 α x2 1000 200000
 (fun x6 => cK (!x6)
 (k1 2)
 (vf98_0 α x3 5000 80000
 (fun x7 => cK (!x7)
 (k1 2)
 (vf98_0 α x4 0 9999
 (fun x8 => cK (!x8)
 (k1 2)
 (k1 0))))))))
noncomputable def f83_0 (α : Type) (x1 : ByteArray) (x2 x3 x4 : Int) (k1 : Int → Option α) : Option α := f83_0g f121_0 f98_0 α x1 x2 x3 x4 k1
def pa83_0 : PT (List DV) := pA [pV false [dS], pV false [(dI .i64)], pV true [(dI .i64), (dI .i64)]]
def Fn83_0 (v : Tf83_0) (α : Type) (k : List RV → Option α) : ByteArray → Int → Int → Int → Option α := fun x1 x2 x3 x4 => v α x1 x2 x3 x4 (fun (y1 : Int) => ur83_0_0 k y1)
noncomputable def cm83_0g  : MCode := (.seq (.region r83_2 [] (tO [0, 1, 5])) (.seq (.block 0 (.seq (.region r83_6 [] (tO [1, 5, 7])) (.cond (.tmp 7) (.seq (.region r83_9 [] (tO [6])) .ret) (.seq (.region r83_11 [] (tO [11])) (.cond (.tmp 11) (.seq (.region r83_14 [] (tO [6])) .ret) .skip))))) (.seq (.region r83_16 [] (tO [6])) .ret)))
noncomputable def cm83_0 : MCode := cm83_0g 
theorem gm83_0 : cm83_0.Good Try.prog E83_0 sh83 := ⟨trivial, ⟨⟨trivial, ⟨⟨trivial, trivial⟩, ⟨trivial, ⟨⟨trivial, trivial⟩, trivial⟩⟩⟩⟩, ⟨trivial, trivial⟩⟩⟩
theorem fm83_0g (vf121_0 : Tf121_0) (vf98_0 : Tf98_0)  (α : Type) (k : List RV → Option α) : Fn83_0 (f83_0g vf121_0 vf98_0) α k = pa83_0.unc fun ds => fnM Try.prog (E83_0g vf121_0 vf98_0) sh83 (cm83_0g ) rs83 k ds := by kernel_rfl
theorem fm83_0 : ∀ (α : Type) (k : List RV → Option α), Fn83_0 f83_0 α k = pa83_0.unc fun ds => fnM Try.prog E83_0 sh83 cm83_0 rs83 k ds := fm83_0g f121_0 f98_0
theorem is83 : FnIs Try.prog 83 nt83 tr83 tl83 cm83_0.erase rs83 := ⟨Try.f83, Try.func83, rfl, by kernel_rfl, by kernel_rfl, by kernel_rfl⟩
theorem io83_0 : InstOk Try.prog 83 nt83 ⟨pa83_0, Fn83_0 f83_0⟩ := inst_ok eo83_0 followsTry is83 ⟨⟨sh83, cm83_0, by kernel_rfl, gm83_0, fm83_0⟩⟩
abbrev nt108 : Nat := 36
def sh108 : List (Nat × List Sh) := []
def r108_2 : List AOper := [oO 4 (.mv (kI 0)), oO 5 (.mv (kI 0)), oO 6 (.mv (kI 0))]
def r108_4 : List AOper := [oM 12 0, oO 13 (.pure (oB (.call { callee := .builtin .real, args := #[(.tmp 12)], argTypes := #[26] }) 112)), oM 14 1, oO 15 (.call 129 [(.tmp 13), (.tmp 14)]), oM 11 15, oO 16 (.extract 0 (.tmp 11)), oO 17 (.extract 1 (.tmp 11)), oM 7 16, oM 8 17]
def r108_6 : List AOper := [oM 19 0, oO 20 (.pure (oB (.call { callee := .builtin .imag, args := #[(.tmp 19)], argTypes := #[26] }) 112)), oM 21 1, oO 22 (.call 129 [(.tmp 20), (.tmp 21)]), oM 18 22, oO 23 (.extract 0 (.tmp 18)), oO 24 (.extract 1 (.tmp 18)), oM 9 23, oM 10 24]
def r108_9 : List AOper := [oM 25 8, oO 26 (.bin .eql 3 (.tmp 25) (kI 27)), oM 27 26, oG 28 (.mv (.tmp 10)) 27 false, oG 29 (.bin .eql 3 (.tmp 28) (kI 27)) 27 false, oO 30 (.pick (.tmp 27) (.const (.bool true)) (.tmp 29))]
def r108_12 : List AOper := [oO 4 (.mv (kI 0)), oO 5 (.mv (kI 0)), oO 6 (.mv (kI 27))]
def r108_14 : List AOper := [oM 31 7, oM 32 9, oM 33 8, oM 34 10, oO 35 (.pure (oB (.call { callee := .builtin .max, args := #[(.tmp 33), (.tmp 34)], argTypes := #[3, 3] }) 3)), oM 4 31, oM 5 32, oM 6 35]
def tr108 : List (Nat × Tidy) := [tT 0 [0, 1], tT 1 [0, 1, 7, 8], tT 2 [7, 8, 9, 10], tT 3 [7, 8, 9, 10, 30], tT 4 [4, 5, 6], tT 5 [4, 5, 6]]
def tl108 : List (Nat × Tidy) := []
def rs108 : List AResV := [.tmp 4, .tmp 5, .tmp 6]
def pr108_0_0 : PT (List RV) := pRs [pR false [rD (dI .i64)], pR false [rD (dI .i64)], pR false [rD (dI .i64)]]
def ur108_0_0 {β : Type} (g : List RV → β) : Int → Int → Int → β := pr108_0_0.unc g
def E108_0g (vf129_0 : Tf129_0) : EnvK := EnvK.of [⟨129, nt129, [⟨pa129_0, Fn129_0 vf129_0⟩]⟩] noSeq
noncomputable def E108_0 : EnvK := E108_0g f129_0
theorem eo108_0 : E108_0.Ok Try.prog := EnvK.of_ok noSeq_ok ⟨⟨io129_0, trivial⟩, trivial⟩
abbrev Tf108_0 : Type 1 := (α : Type) → Nat → Nat → Int → (Int → Int → Int → Option α) → Option α
def f108_0g (vf129_0 : Tf129_0) (α : Type) (x1 x2 : Nat) (x3 : Int) (k1 : Int → Int → Int → Option α) : Option α :=
 vf129_0 α x1 x3
 (fun x4 x5 => vf129_0 α x2 x3
 (fun x6 x7 => cK (x5 == 27)
 (k1 0 0 27)
 (cK (x7 == 27)
 (k1 0 0 27)
 (k1 x4 x6 (if x7 > x5 then x7 else x5)))))
noncomputable def f108_0 (α : Type) (x1 x2 : Nat) (x3 : Int) (k1 : Int → Int → Int → Option α) : Option α := f108_0g f129_0 α x1 x2 x3 k1
def pa108_0 : PT (List DV) := pA [pV false [(dX .f64)], pV false [(dI .i64)]]
def Fn108_0 (v : Tf108_0) (α : Type) (k : List RV → Option α) : Nat → Nat → Int → Option α := fun x1 x2 x3 => v α x1 x2 x3 (fun (y1 : Int) (y2 : Int) (y3 : Int) => ur108_0_0 k y1 y2 y3)
noncomputable def cm108_0g  : MCode := (.seq (.region r108_2 [] (tO [0, 1])) (.seq (.region r108_4 [] (tO [0, 1, 7, 8])) (.seq (.region r108_6 [] (tO [7, 8, 9, 10])) (.seq (.seq (.region r108_9 [] (tO [7, 8, 9, 10, 30])) (.cond (.tmp 30) (.seq (.region r108_12 [] (tO [4, 5, 6])) .ret) .skip)) (.seq (.region r108_14 [] (tO [4, 5, 6])) .ret)))))
noncomputable def cm108_0 : MCode := cm108_0g 
theorem gm108_0 : cm108_0.Good Try.prog E108_0 sh108 := ⟨trivial, ⟨trivial, ⟨trivial, ⟨⟨trivial, ⟨⟨trivial, trivial⟩, trivial⟩⟩, ⟨trivial, trivial⟩⟩⟩⟩⟩
theorem fm108_0g (vf129_0 : Tf129_0)  (α : Type) (k : List RV → Option α) : Fn108_0 (f108_0g vf129_0) α k = pa108_0.unc fun ds => fnM Try.prog (E108_0g vf129_0) sh108 (cm108_0g ) rs108 k ds := by kernel_rfl
theorem fm108_0 : ∀ (α : Type) (k : List RV → Option α), Fn108_0 f108_0 α k = pa108_0.unc fun ds => fnM Try.prog E108_0 sh108 cm108_0 rs108 k ds := fm108_0g f129_0
theorem is108 : FnIs Try.prog 108 nt108 tr108 tl108 cm108_0.erase rs108 := ⟨Try.f108, Try.func108, rfl, by kernel_rfl, by kernel_rfl, by kernel_rfl⟩
theorem io108_0 : InstOk Try.prog 108 nt108 ⟨pa108_0, Fn108_0 f108_0⟩ := inst_ok eo108_0 followsTry is108 ⟨⟨sh108, cm108_0, by kernel_rfl, gm108_0, fm108_0⟩⟩
abbrev nt53 : Nat := 53
def sh53 : List (Nat × List Sh) := [(12, [.cpx .f64, .cpx .f64, .cpx .f64, .cpx .f64]), (26, [.int .i64, .int .i64]), (37, [.int .i64]), (41, [.int .i64]), (48, [.int .i64]), (52, [.int .i64, .int .i64, .int .i64, .int .i64])]
def r53_2 : List AOper := [oO 1 (.box (.tmp 0)), oO 2 (.alloc [(cI 0), (cI 0), (cI 0), (cI 0)]), oO 3 (.mv (kI 0))]
def r53_4 : List AOper := [oO 4 (.mv (.const (.slice none 0 0)))]
def r53_7 : List AOper := [oO 12 (.load true 4 (.tmp 1)), oO 13 (.mv (kI 0))]
def td53_9 : Option Tidy := (some ⟨[2, 4, 12, 13], true, [⟨false, 4, 0, 20004, 2⟩], []⟩)
def r53_11 : List AOper := [oO 14 (.bin .lss 3 (.tmp 13) (kI 4))]
def r53_17 : List AOper := [oO 15 (.index false 4 1 (.tmp 12) (.tmp 13)), oM 6 15]
def r53_19 : List AOper := [oM 17 6, oO 18 (.call 107 [(.tmp 17), (kI 10000000)]), oM 16 18, oO 19 (.extract 0 (.tmp 16)), oO 20 (.extract 1 (.tmp 16)), oO 7 (.alloc [(cI 0), (cI 0)]), oD (.store 2 (.tmp 7) (.tmp 19)), oM 8 20]
def r53_22 : List AOper := [oM 21 8, oO 22 (.bin .neq 28 (.tmp 21) (kI 0))]
def r53_25 : List AOper := [oO 23 (.build [(cI 0), (cI 0), (cI 0), (cI 0)] []), oM 24 8, oD (.store 4 (.tmp 2) (.tmp 23)), oM 3 24]
def r53_26 : List AOper := [oM 25 4, oO 26 (.load true 2 (.tmp 7)), oO 27 (.bslice 2 1 [(.v (.int .i64 0)), (.v (.int .i64 0))] [(0, (.tmp 26))]), oO 28 (.append 2 16 (.tmp 25) (.tmp 27)), oM 4 28]
def r53_27 : List AOper := [oO 29 (.bin .add 3 (.tmp 13) (kI 1)), oM 13 29]
def r53_29 : List AOper := [oO 9 (.alloc [(cI 0), (cI 0), (cI 0), (cI 0)])]
def r53_32 : List AOper := [oO 30 (.mv (kI 0))]
def td53_34 : Option Tidy := (some ⟨[2, 4, 9, 30], true, [⟨false, 4, 0, 20004, 2⟩], []⟩)
def r53_36 : List AOper := [oO 31 (.bin .lss 3 (.tmp 30) (kI 4))]
def r53_42 : List AOper := [oM 32 30, oM 10 32]
def r53_44 : List AOper := [oM 33 4, oM 34 10, oO 35 (.call 68 [(.tmp 33), (.tmp 34)]), oO 11 (.alloc [(cI 0), (cI 0)]), oD (.store 2 (.tmp 11) (.tmp 35))]
def r53_47 : List AOper := [oO 36 (.faddr 1 (.tmp 11)), oO 37 (.load false 1 (.tmp 36)), oO 38 (.bin .neq 3 (.tmp 37) (kI 0)), oM 39 38, oG 40 (.faddr 0 (.tmp 11)) 39 false, oG 41 (.load false 1 (.tmp 40)) 39 false, oG 42 (.bin .rem 3 (.tmp 41) (kI 4)) 39 false, oG 43 (.bin .neq 3 (.tmp 42) (kI 0)) 39 false, oO 44 (.pick (.tmp 39) (.const (.bool true)) (.tmp 43))]
def r53_50 : List AOper := [oO 45 (.build [(cI 0), (cI 0), (cI 0), (cI 0)] []), oD (.store 4 (.tmp 2) (.tmp 45)), oO 3 (.mv (kI 13))]
def r53_51 : List AOper := [oM 46 10, oO 47 (.faddr 0 (.tmp 11)), oO 48 (.load false 1 (.tmp 47)), oO 49 (.bin .quo 3 (.tmp 48) (kI 4)), oO 50 (.iaddr 1 (some 4) (.tmp 9) (.tmp 46)), oD (.store 1 (.tmp 50) (.tmp 49))]
def r53_52 : List AOper := [oO 51 (.bin .add 3 (.tmp 30) (kI 1)), oM 30 51]
def r53_54 : List AOper := [oO 52 (.load true 4 (.tmp 9)), oD (.store 4 (.tmp 2) (.tmp 52)), oO 3 (.mv (kI 0))]
def tr53 : List (Nat × Tidy) := [tT 0 [1, 2], tT 1 [1, 2, 4], tT 2 [2, 4, 12, 13], tT 3 [2, 4, 12, 13, 14], tT 4 [2, 4, 6, 12, 13], tT 5 [2, 4, 7, 8, 12, 13], tT 6 [2, 4, 7, 8, 12, 13, 22], tT 7 [2, 3], tT 8 [2, 4, 12, 13], tT 9 [2, 4, 12, 13], tT 10 [2, 4, 9], tT 11 [2, 4, 9, 30], tT 12 [2, 4, 9, 30, 31], tT 13 [2, 4, 9, 10, 30], tT 14 [2, 4, 9, 10, 11, 30], tT 15 [2, 4, 9, 10, 11, 30, 44], tT 16 [2, 3], tT 17 [2, 4, 9, 30], tT 18 [2, 4, 9, 30], tT 19 [2, 3]]
def tl53 : List (Nat × Tidy) := [(3, ⟨[2, 4, 12, 13], true, [⟨false, 4, 0, 20004, 2⟩], []⟩), (12, ⟨[2, 4, 9, 30], true, [⟨false, 4, 0, 20004, 2⟩], []⟩)]
def rs53 : List AResV := [.cell 2 true 4, .tmp 3]
def pr53_0_0 : PT (List RV) := pRs [pR true [rD (dI .i64), rD (dI .i64), rD (dI .i64), rD (dI .i64)], pR false [rD (dI .i64)]]
def ur53_0_0 {β : Type} (g : List RV → β) : Int → Int → Int → Int → Int → β := pr53_0_0.unc g
def E53_0g (vf107_0 : Tf107_0) (vf68_0 : Tf68_0) : EnvK := EnvK.of [⟨107, nt107, [⟨pa107_0, Fn107_0 vf107_0⟩]⟩, ⟨68, nt68, [⟨pa68_0, Fn68_0 vf68_0⟩]⟩] noSeq
noncomputable def E53_0 : EnvK := E53_0g f107_0 f68_0
theorem eo53_0 : E53_0.Ok Try.prog := EnvK.of_ok noSeq_ok ⟨⟨io107_0, trivial⟩, ⟨io68_0, trivial⟩, trivial⟩
abbrev Tf53_0 : Type 1 := (α : Type) → Nat → Nat → Nat → Nat → Nat → Nat → Nat → Nat → (Int → Int → Int → Int → Int → Option α) → Option α
def f53_0g (vf107_0 : Tf107_0) (vf68_0 : Tf68_0) (α : Type) (x1 x2 x3 x4 x5 x6 x7 x8 : Nat) (k1 : Int → Int → Int → Int → Int → Option α) : Option α :=
 vf107_0 α x1 x2 10000000
 (fun x9 x10 x11 => cK (x11 != 0)
 (k1 0 0 0 0 x11)
 (vf107_0 α x3 x4 10000000
 (fun x12 x13 x14 => cK (x14 != 0)
 (k1 0 0 0 0 x14)
 (vf107_0 α x5 x6 10000000
 (fun x15 x16 x17 => cK (x17 != 0)
 (k1 0 0 0 0 x17)
 (vf107_0 α x7 x8 10000000
 (fun x18 x19 x20 => cK (x20 != 0)
 (k1 0 0 0 0 x20)
 (vf68_0 α [[DC.v (.int .i64 x9), DC.v (.int .i64 x10)], [DC.v (.int .i64 x12), DC.v (.int .i64 x13)], [DC.v (.int .i64 x15), DC.v (.int .i64 x16)], [DC.v (.int .i64 x18), DC.v (.int .i64 x19)]] 0
 (fun x21 x22 => cK (x22 != 0)
 (k1 0 0 0 0 13)
 (cK ((Int.tmod x21 4) != 0)
 (k1 0 0 0 0 13)
 (vf68_0 α [[DC.v (.int .i64 x9), DC.v (.int .i64 x10)], [DC.v (.int .i64 x12), DC.v (.int .i64 x13)], [DC.v (.int .i64 x15), DC.v (.int .i64 x16)], [DC.v (.int .i64 x18), DC.v (.int .i64 x19)]] 1
 (fun x23 x24 => cK (x24 != 0)
 (k1 0 0 0 0 13)
 (cK ((Int.tmod x23 4) != 0)
 (k1 0 0 0 0 13)
 (vf68_0 α [[DC.v (.int .i64 x9), DC.v (.int .i64 x10)], [DC.v (.int .i64 x12), DC.v (.int .i64 x13)], [DC.v (.int .i64 x15), DC.v (.int .i64 x16)], [DC.v (.int .i64 x18), DC.v (.int .i64 x19)]] 2
 (fun x25 x26 => cK (x26 != 0)
 (k1 0 0 0 0 13)
 (cK ((Int.tmod x25 4) != 0)
 (k1 0 0 0 0 13)
 (vf68_0 α [[DC.v (.int .i64 x9), DC.v (.int .i64 x10)], [DC.v (.int .i64 x12), DC.v (.int .i64 x13)], [DC.v (.int .i64 x15), DC.v (.int .i64 x16)], [DC.v (.int .i64 x18), DC.v (.int .i64 x19)]] 3
 (fun x27 x28 => cK (x28 != 0)
 (k1 0 0 0 0 13)
 (cK ((Int.tmod x27 4) != 0)
 (k1 0 0 0 0 13)
 (k1 (w64 (Int.tdiv x21 4)) (w64 (Int.tdiv x23 4)) (w64 (Int.tdiv x25 4)) (w64 (Int.tdiv x27 4)) 0))))))))))))))))))))
noncomputable def f53_0 (α : Type) (x1 x2 x3 x4 x5 x6 x7 x8 : Nat) (k1 : Int → Int → Int → Int → Int → Option α) : Option α := f53_0g f107_0 f68_0 α x1 x2 x3 x4 x5 x6 x7 x8 k1
def pa53_0 : PT (List DV) := pA [pV true [(dX .f64), (dX .f64), (dX .f64), (dX .f64)]]
def Fn53_0 (v : Tf53_0) (α : Type) (k : List RV → Option α) : Nat → Nat → Nat → Nat → Nat → Nat → Nat → Nat → Option α := fun x1 x2 x3 x4 x5 x6 x7 x8 => v α x1 x2 x3 x4 x5 x6 x7 x8 (fun (y1 : Int) (y2 : Int) (y3 : Int) (y4 : Int) (y5 : Int) => ur53_0_0 k y1 y2 y3 y4 y5)
noncomputable def cm53_0g  : MCode := (.seq (.region r53_2 [] (tO [1, 2])) (.seq (.region r53_4 [] (tO [1, 2, 4])) (.seq (.seq (.region r53_7 [] (tO [2, 4, 12, 13])) (.block 0 (.loopU 5 td53_9 (.seq (.region r53_11 [] (tO [2, 4, 12, 13, 14])) (.seq (.cond (.tmp 14) .skip (.exit 0)) (.seq (.block 1 (.seq (.region r53_17 [] (tO [2, 4, 6, 12, 13])) (.seq (.region r53_19 [] (tO [2, 4, 7, 8, 12, 13])) (.seq (.seq (.region r53_22 [] (tO [2, 4, 7, 8, 12, 13, 22])) (.cond (.tmp 22) (.seq (.region r53_25 [] (tO [2, 3])) .ret) .skip)) (.region r53_26 [] (tO [2, 4, 12, 13])))))) (.region r53_27 [] (tO [2, 4, 12, 13])))))))) (.seq (.region r53_29 [] (tO [2, 4, 9])) (.seq (.seq (.region r53_32 [] (tO [2, 4, 9, 30])) (.block 2 (.loopU 5 td53_34 (.seq (.region r53_36 [] (tO [2, 4, 9, 30, 31])) (.seq (.cond (.tmp 31) .skip (.exit 2)) (.seq (.block 3 (.seq (.region r53_42 [] (tO [2, 4, 9, 10, 30])) (.seq (.region r53_44 [] (tO [2, 4, 9, 10, 11, 30])) (.seq (.seq (.region r53_47 [] (tO [2, 4, 9, 10, 11, 30, 44])) (.cond (.tmp 44) (.seq (.region r53_50 [] (tO [2, 3])) .ret) .skip)) (.region r53_51 [] (tO [2, 4, 9, 30])))))) (.region r53_52 [] (tO [2, 4, 9, 30])))))))) (.seq (.region r53_54 [] (tO [2, 3])) .ret))))))
noncomputable def cm53_0 : MCode := cm53_0g 
theorem gm53_0 : cm53_0.Good Try.prog E53_0 sh53 := ⟨trivial, ⟨trivial, ⟨⟨trivial, ⟨⟨trivial, ⟨⟨trivial, trivial⟩, ⟨⟨trivial, ⟨trivial, ⟨⟨trivial, ⟨⟨trivial, trivial⟩, trivial⟩⟩, trivial⟩⟩⟩, trivial⟩⟩⟩, by decide⟩⟩, ⟨trivial, ⟨⟨trivial, ⟨⟨trivial, ⟨⟨trivial, trivial⟩, ⟨⟨trivial, ⟨trivial, ⟨⟨trivial, ⟨⟨trivial, trivial⟩, trivial⟩⟩, trivial⟩⟩⟩, trivial⟩⟩⟩, by decide⟩⟩, ⟨trivial, trivial⟩⟩⟩⟩⟩⟩
theorem fm53_0g (vf107_0 : Tf107_0) (vf68_0 : Tf68_0)  (α : Type) (k : List RV → Option α) : Fn53_0 (f53_0g vf107_0 vf68_0) α k = pa53_0.unc fun ds => fnM Try.prog (E53_0g vf107_0 vf68_0) sh53 (cm53_0g ) rs53 k ds := by kernel_rfl
theorem fm53_0 : ∀ (α : Type) (k : List RV → Option α), Fn53_0 f53_0 α k = pa53_0.unc fun ds => fnM Try.prog E53_0 sh53 cm53_0 rs53 k ds := fm53_0g f107_0 f68_0
theorem is53 : FnIs Try.prog 53 nt53 tr53 tl53 cm53_0.erase rs53 := ⟨Try.f53, Try.func53, rfl, by kernel_rfl, by kernel_rfl, by kernel_rfl⟩
theorem io53_0 : InstOk Try.prog 53 nt53 ⟨pa53_0, Fn53_0 f53_0⟩ := inst_ok eo53_0 followsTry is53 ⟨⟨sh53, cm53_0, by kernel_rfl, gm53_0, fm53_0⟩⟩
abbrev nt49 : Nat := 45
def sh49 : List (Nat × List Sh) := [(7, [.str]), (9, [.int .i64]), (11, [.int .i64, .int .i64]), (16, [.str, .int .i64, .int .i64, .int .i64, .int .i64, .int .i64, .int .i64, .int .i64, .int .i64, .int .i64]), (25, [.int .i64]), (32, [.int .i64]), (39, [.int .i64]), (43, [.int .i64])]
def r49_2 : List AOper := [oO 1 (.box (.tmp 0)), oO 2 (.mv (kI 0))]
def r49_5 : List AOper := [oO 6 (.faddr 0 (.tmp 1)), oO 7 (.load false 1 (.tmp 6)), oO 8 (.faddr 1 (.tmp 1)), oO 9 (.load false 1 (.tmp 8)), oO 10 (.faddr 2 (.tmp 1)), oO 11 (.load true 2 (.tmp 10)), oO 12 (.call 91 [(.tmp 7), (.tmp 9), (.tmp 11)]), oM 3 12]
def r49_7 : List AOper := [oM 13 3, oO 14 (.bin .neq 3 (.tmp 13) (kI 0))]
def r49_10 : List AOper := [oM 15 3, oM 2 15]
def r49_12 : List AOper := [oO 16 (.load true 10 (.tmp 1)), oO 17 (.call 103 [(.tmp 16)]), oO 4 (.alloc [(cI 0), (cI 0), (cI 0), (cI 0), (cI 0), (cI 0)]), oD (.store 6 (.tmp 4) (.tmp 17))]
def r49_15 : List AOper := [oO 5 (.mv (kI 0))]
def td49_17 : Option Tidy := (tO [4, 5])
def r49_20 : List AOper := [oM 18 5, oO 19 (.bin .lss 3 (.tmp 18) (kI 3))]
def r49_26 : List AOper := [oM 22 5, oO 23 (.iaddr 2 (some 3) (.tmp 4) (.tmp 22)), oO 24 (.faddr 0 (.tmp 23)), oO 25 (.load false 1 (.tmp 24)), oO 26 (.call 29 [(.tmp 25), (kI (-1048576)), (kI 1048576)]), oO 27 (.pure (oB (.unOp .not 4 (.tmp 26)) 4)), oM 28 27, oG 29 (.mv (.tmp 5)) 28 false, oG 30 (.iaddr 2 (some 3) (.tmp 4) (.tmp 29)) 28 false, oG 31 (.faddr 1 (.tmp 30)) 28 false, oG 32 (.load false 1 (.tmp 31)) 28 false, oG 33 (.call 29 [(.tmp 32), (kI (-1048576)), (kI 1048576)]) 28 false, oG 34 (.pure (oB (.unOp .not 4 (.tmp 33)) 4)) 28 false, oO 35 (.pick (.tmp 28) (.const (.bool true)) (.tmp 34))]
def r49_29 : List AOper := [oO 2 (.mv (kI 2))]
def r49_31 : List AOper := [oM 36 5, oO 37 (.iaddr 2 (some 3) (.tmp 4) (.tmp 36)), oO 38 (.faddr 0 (.tmp 37)), oO 39 (.load false 1 (.tmp 38)), oM 40 5, oO 41 (.iaddr 2 (some 3) (.tmp 4) (.tmp 40)), oO 42 (.faddr 1 (.tmp 41)), oO 43 (.load false 1 (.tmp 42)), oO 44 (.bin .gtr 3 (.tmp 39) (.tmp 43))]
def r49_34 : List AOper := [oO 2 (.mv (kI 10))]
def r49_35 : List AOper := [oM 20 5, oO 21 (.bin .add 3 (.tmp 20) (kI 1)), oM 5 21]
def r49_37 : List AOper := [oO 2 (.mv (kI 0))]
def tr49 : List (Nat × Tidy) := [tT 0 [1], tT 1 [1, 3], tT 2 [1, 3, 14], tT 3 [2], tT 4 [4], tT 5 [4, 5], tT 6 [4, 5, 19], tT 8 [4, 5, 35], tT 9 [2], tT 10 [4, 5, 44], tT 11 [2], tT 7 [4, 5], tT 12 [2]]
def tl49 : List (Nat × Tidy) := [tT 6 [4, 5]]
def rs49 : List AResV := [.tmp 2]
def p49_0_0 : PT St := pS [sl 4 (aV false [(cPtr 4 0)]), sl 5 (aV false [(cD (dI .i64))]), sl 19 (aV false [(cD dB)])] [eBox 4 [(cD (dI .i64)), (cD (dI .i64)), (cD (dI .i64)), (cD (dI .i64)), (cD (dI .i64)), (cD (dI .i64))]]
def u49_0_0 {β : Type} (g : St → β) : Int → Bool → Int → Int → Int → Int → Int → Int → β := p49_0_0.unc g
def p49_0_1 : PT St := pS [sl 4 (aV false [(cPtr 4 0)]), sl 5 (aV false [(cD (dI .i64))]), sl 35 (aV false [(cD dB)])] [eBox 4 [(cD (dI .i64)), (cD (dI .i64)), (cD (dI .i64)), (cD (dI .i64)), (cD (dI .i64)), (cD (dI .i64))]]
def u49_0_1 {β : Type} (g : St → β) : Int → Bool → Int → Int → Int → Int → Int → Int → β := p49_0_1.unc g
def p49_0_2 : PT St := pS [sl 4 (aV false [(cPtr 4 0)]), sl 5 (aV false [(cD (dI .i64))]), sl 44 (aV false [(cD dB)])] [eBox 4 [(cD (dI .i64)), (cD (dI .i64)), (cD (dI .i64)), (cD (dI .i64)), (cD (dI .i64)), (cD (dI .i64))]]
def u49_0_2 {β : Type} (g : St → β) : Int → Bool → Int → Int → Int → Int → Int → Int → β := p49_0_2.unc g
def p49_0_3 : PT St := pS [sl 4 (aV false [(cPtr 4 0)]), sl 5 (aV false [(cD (dI .i64))])] [eBox 4 [(cD (dI .i64)), (cD (dI .i64)), (cD (dI .i64)), (cD (dI .i64)), (cD (dI .i64)), (cD (dI .i64))]]
def u49_0_3 {β : Type} (g : St → β) : Int → Int → Int → Int → Int → Int → Int → β := p49_0_3.unc g
def p49_0_4 : PT St := pS [sl 2 (aV false [(cD (dI .i64))])] []
def u49_0_4 {β : Type} (g : St → β) : Int → β := p49_0_4.unc g
def pr49_0_0 : PT (List RV) := pRs [pR false [rD (dI .i64)]]
def ur49_0_0 {β : Type} (g : List RV → β) : Int → β := pr49_0_0.unc g
def E49_0g (vf91_0 : Tf91_0) (vf103_0 : Tf103_0) (vf29_0 : Tf29_0) : EnvK := EnvK.of [⟨91, nt91, [⟨pa91_0, Fn91_0 vf91_0⟩]⟩, ⟨103, nt103, [⟨pa103_0, Fn103_0 vf103_0⟩]⟩, ⟨29, nt29, [⟨pa29_0, Fn29_0 vf29_0⟩]⟩] noSeq
noncomputable def E49_0 : EnvK := E49_0g f91_0 f103_0 f29_0
theorem eo49_0 : E49_0.Ok Try.prog := EnvK.of_ok noSeq_ok ⟨⟨io91_0, trivial⟩, ⟨io103_0, trivial⟩, ⟨io29_0, trivial⟩, trivial⟩
noncomputable def c49_0_30g  : MCode := (.region r49_31 [] (tO [4, 5, 44]))
noncomputable def c49_0_30 : MCode := c49_0_30g 
theorem g49_0_30 : c49_0_30.Good Try.prog E49_0 sh49 := trivial
--CODE 30 0
abbrev TJ49_0_1 : Type 1 := (α : Type) → Int → Int → Int → Int → Int → Int → Int → (Bool → Option α) → Option α
def J49_0_1g  (α : Type) (x49 x51 x52 x53 x54 x55 x56 : Int) (k1 : Bool → Option α) : Option α :=
 cK (x49 == 2)
 (cK (x49 == 2)
 (k1 (decide (x56 < x55)))
 (cK (x49 == 1)
 (k1 (decide (x54 < x55)))
 (cK (x49 == 0)
 (k1 (decide (x52 < x55)))
 (none))))
 (cK (x49 == 1)
 (cK (x49 == 2)
 (k1 (decide (x56 < x53)))
 (cK (x49 == 1)
 (k1 (decide (x54 < x53)))
 (cK (x49 == 0)
 (k1 (decide (x52 < x53)))
 (none))))
 (cK (x49 == 0)
 (cK (x49 == 2)
 (k1 (decide (x56 < x51)))
 (cK (x49 == 1)
 (k1 (decide (x54 < x51)))
 (cK (x49 == 0)
 (k1 (decide (x52 < x51)))
 (none))))
 (none)))
noncomputable def J49_0_1 (α : Type) (x49 x51 x52 x53 x54 x55 x56 : Int) (k1 : Bool → Option α) : Option α := J49_0_1g  α x49 x51 x52 x53 x54 x55 x56 k1
def F49_0_1 (v : TJ49_0_1) (α : Type) (K : Exit → St → Option α) : Int → Bool → Int → Int → Int → Int → Int → Int → Option α := fun x49 x50 x51 x52 x53 x54 x55 x56 => v α x49 x51 x52 x53 x54 x55 x56 (fun (y1 : Bool) => u49_0_2 (K .normal) x49 y1 x51 x52 x53 x54 x55 x56) 
theorem m49_0_1g (vf91_0 : Tf91_0) (vf103_0 : Tf103_0) (vf29_0 : Tf29_0)  (α : Type) (K : Exit → St → Option α) : F49_0_1 (J49_0_1g ) α K = p49_0_1.unc fun σ => runM Try.prog (E49_0g vf91_0 vf103_0 vf29_0) sh49 (c49_0_30g ) K σ := by kernel_rfl
theorem m49_0_1 : ∀ (α : Type) (K : Exit → St → Option α), F49_0_1 J49_0_1 α K = p49_0_1.unc fun σ => runM Try.prog E49_0 sh49 c49_0_30 K σ := m49_0_1g f91_0 f103_0 f29_0
noncomputable def c49_0_25g  : MCode := (.region r49_26 [] (tO [4, 5, 35]))
noncomputable def c49_0_25 : MCode := c49_0_25g 
theorem g49_0_25 : c49_0_25.Good Try.prog E49_0 sh49 := trivial
--CODE 25 0
abbrev TJ49_0_0 : Type 1 := (α : Type) → Int → Int → Int → Int → Int → Int → Int → (Bool → Option α) → Option α
def J49_0_0g (vf29_0 : Tf29_0) (α : Type) (x26 x28 x29 x30 x31 x32 x33 : Int) (k1 : Bool → Option α) : Option α :=
 cK (x26 == 2)
 (vf29_0 α x32 (-1048576) 1048576
 (fun x35 => cK (!x35)
 (k1 true)
 (cK (x26 == 2)
 (vf29_0 α x33 (-1048576) 1048576
 (fun x36 => k1 (!x36)))
 (cK (x26 == 1)
 (vf29_0 α x31 (-1048576) 1048576
 (fun x37 => k1 (!x37)))
 (cK (x26 == 0)
 (vf29_0 α x29 (-1048576) 1048576
 (fun x38 => k1 (!x38)))
 (none))))))
 (cK (x26 == 1)
 (vf29_0 α x30 (-1048576) 1048576
 (fun x39 => cK (!x39)
 (k1 true)
 (cK (x26 == 2)
 (vf29_0 α x33 (-1048576) 1048576
 (fun x40 => k1 (!x40)))
 (cK (x26 == 1)
 (vf29_0 α x31 (-1048576) 1048576
 (fun x41 => k1 (!x41)))
 (cK (x26 == 0)
 (vf29_0 α x29 (-1048576) 1048576
 (fun x42 => k1 (!x42)))
 (none))))))
 (cK (x26 == 0)
 (vf29_0 α x28 (-1048576) 1048576
 (fun x43 => cK (!x43)
 (k1 true)
 (cK (x26 == 2)
 (vf29_0 α x33 (-1048576) 1048576
 (fun x44 => k1 (!x44)))
 (cK (x26 == 1)
 (vf29_0 α x31 (-1048576) 1048576
 (fun x45 => k1 (!x45)))
 (cK (x26 == 0)
 (vf29_0 α x29 (-1048576) 1048576
 (fun x46 => k1 (!x46)))
 (none))))))
 (none)))
noncomputable def J49_0_0 (α : Type) (x26 x28 x29 x30 x31 x32 x33 : Int) (k1 : Bool → Option α) : Option α := J49_0_0g f29_0 α x26 x28 x29 x30 x31 x32 x33 k1
def F49_0_0 (v : TJ49_0_0) (α : Type) (K : Exit → St → Option α) : Int → Bool → Int → Int → Int → Int → Int → Int → Option α := fun x26 x27 x28 x29 x30 x31 x32 x33 => v α x26 x28 x29 x30 x31 x32 x33 (fun (y1 : Bool) => u49_0_1 (K .normal) x26 y1 x28 x29 x30 x31 x32 x33) 
theorem m49_0_0g (vf91_0 : Tf91_0) (vf103_0 : Tf103_0) (vf29_0 : Tf29_0)  (α : Type) (K : Exit → St → Option α) : F49_0_0 (J49_0_0g vf29_0) α K = p49_0_0.unc fun σ => runM Try.prog (E49_0g vf91_0 vf103_0 vf29_0) sh49 (c49_0_25g ) K σ := by kernel_rfl
theorem m49_0_0 : ∀ (α : Type) (K : Exit → St → Option α), F49_0_0 J49_0_0 α K = p49_0_0.unc fun σ => runM Try.prog E49_0 sh49 c49_0_25 K σ := m49_0_0g f91_0 f103_0 f29_0
noncomputable def c49_0_17g (vJ49_0_0 : TJ49_0_0) (vJ49_0_1 : TJ49_0_1) : MCode := (.seq (.seq (.region r49_20 [] (tO [4, 5, 19])) (.cond (.tmp 19) .skip (.exit 0))) (.seq (.block 1 (.seq (.seq (.mark [⟨p49_0_0, F49_0_0 vJ49_0_0⟩] c49_0_25) (.cond (.tmp 35) (.seq (.region r49_29 [] (tO [2])) .ret) .skip)) (.seq (.mark [⟨p49_0_1, F49_0_1 vJ49_0_1⟩] c49_0_30) (.cond (.tmp 44) (.seq (.region r49_34 [] (tO [2])) .ret) .skip)))) (.region r49_35 [] (tO [4, 5]))))
noncomputable def c49_0_17 : MCode := c49_0_17g J49_0_0 J49_0_1
theorem g49_0_17 : c49_0_17.Good Try.prog E49_0 sh49 := ⟨⟨trivial, ⟨trivial, trivial⟩⟩, ⟨⟨⟨⟨g49_0_25, m49_0_0, trivial⟩, ⟨⟨trivial, trivial⟩, trivial⟩⟩, ⟨⟨g49_0_30, m49_0_1, trivial⟩, ⟨⟨trivial, trivial⟩, trivial⟩⟩⟩, trivial⟩⟩
--CODE 17 0
def S49_0_2g (vJ49_0_0 : TJ49_0_0) (vJ49_0_1 : TJ49_0_1) (α : Type) (x19 x20 x21 x22 x23 x24 x18 : Int) (kn : Int → Option α) (k1 : Int → Option α) (k2 : Int → Bool → Option α) : Option α :=
 cK (decide (x18 < 3))
 (vJ49_0_0 α x18 x19 x20 x21 x22 x23 x24
 (fun x47 => cK x47
 (k1 2)
 (vJ49_0_1 α x18 x19 x20 x21 x22 x23 x24
 (fun x58 => cK x58
 (k1 10)
 (kn (w64 (x18 + 1)))))))
 (k2 x18 (decide (x18 < 3)))
noncomputable def S49_0_2 (α : Type) (x19 x20 x21 x22 x23 x24 x18 : Int) (kn : Int → Option α) (k1 : Int → Option α) (k2 : Int → Bool → Option α) : Option α := S49_0_2g J49_0_0 J49_0_1 α x19 x20 x21 x22 x23 x24 x18 kn k1 k2
noncomputable def R49_0_2 (α : Type) (x19 x20 x21 x22 x23 x24 : Int) (k1 : Int → Option α) (k2 : Int → Bool → Option α) : Nat → Int → Option α
 | 0, _ => none
 | n + 1, x18 => S49_0_2 α x19 x20 x21 x22 x23 x24 x18 (R49_0_2 α x19 x20 x21 x22 x23 x24 k1 k2 n) k1 k2
noncomputable def L49_0_2 (α : Type) (x19 x20 x21 x22 x23 x24 : Int) (k1 : Int → Option α) (k2 : Int → Bool → Option α) (x18 : Int) : Option α := R49_0_2 α x19 x20 x21 x22 x23 x24 k1 k2 fuel x18
abbrev TL49_0_2 : Type 1 := (α : Type) → Int → Int → Int → Int → Int → Int → (Int → Option α) → (Int → Bool → Option α) → Int → Option α
def F49_0_2 (v : TL49_0_2) (α : Type) (K : Exit → St → Option α) : Int → Int → Int → Int → Int → Int → Int → Option α := fun x18 x19 x20 x21 x22 x23 x24 => v α x19 x20 x21 x22 x23 x24 (fun (y1 : Int) => u49_0_4 (K .ret) y1) (fun (y1 : Int) (y2 : Bool) => u49_0_0 (K (.exit 0)) y1 y2 x19 x20 x21 x22 x23 x24) x18
theorem r49_0_2g (vf91_0 : Tf91_0) (vf103_0 : Tf103_0) (vf29_0 : Tf29_0) (vJ49_0_0 : TJ49_0_0) (vJ49_0_1 : TJ49_0_1) (α : Type) (K : Exit → St → Option α) (Kn : St → Option α) (x18 x19 x20 x21 x22 x23 x24 : Int) : u49_0_3 (fun σ => runM Try.prog (E49_0g vf91_0 vf103_0 vf29_0) sh49 (c49_0_17g vJ49_0_0 vJ49_0_1) (thenK (fun σ => tidyK td49_17 σ Kn) K) σ) x18 x19 x20 x21 x22 x23 x24 = S49_0_2g vJ49_0_0 vJ49_0_1 α x19 x20 x21 x22 x23 x24 x18 (fun x18 => u49_0_3 Kn x18 x19 x20 x21 x22 x23 x24) (fun (y1 : Int) => u49_0_4 (K .ret) y1) (fun (y1 : Int) (y2 : Bool) => u49_0_0 (K (.exit 0)) y1 y2 x19 x20 x21 x22 x23 x24) := by kernel_rfl
theorem r49_0_2 (α : Type) (K : Exit → St → Option α) (Kn : St → Option α) (x18 x19 x20 x21 x22 x23 x24 : Int) : u49_0_3 (fun σ => runM Try.prog E49_0 sh49 c49_0_17 (thenK (fun σ => tidyK td49_17 σ Kn) K) σ) x18 x19 x20 x21 x22 x23 x24 = S49_0_2 α x19 x20 x21 x22 x23 x24 x18 (fun x18 => u49_0_3 Kn x18 x19 x20 x21 x22 x23 x24) (fun (y1 : Int) => u49_0_4 (K .ret) y1) (fun (y1 : Int) (y2 : Bool) => u49_0_0 (K (.exit 0)) y1 y2 x19 x20 x21 x22 x23 x24) := r49_0_2g f91_0 f103_0 f29_0 J49_0_0 J49_0_1 α K Kn x18 x19 x20 x21 x22 x23 x24
theorem t49_0_2 (α : Type) (K : Exit → St → Option α) : ∀ (n : Nat) (x18 x19 x20 x21 x22 x23 x24 : Int), R49_0_2 α x19 x20 x21 x22 x23 x24 (fun (y1 : Int) => u49_0_4 (K .ret) y1) (fun (y1 : Int) (y2 : Bool) => u49_0_0 (K (.exit 0)) y1 y2 x19 x20 x21 x22 x23 x24) n x18 = u49_0_3 (loopT (runM Try.prog E49_0 sh49 c49_0_17) td49_17 K n) x18 x19 x20 x21 x22 x23 x24 := by
 intro n
 induction n with
 | zero => intros; rfl
 | succ n ih => intro x18 x19 x20 x21 x22 x23 x24; exact (congrArg (fun kn => S49_0_2 α x19 x20 x21 x22 x23 x24 x18 kn (fun (y1 : Int) => u49_0_4 (K .ret) y1) (fun (y1 : Int) (y2 : Bool) => u49_0_0 (K (.exit 0)) y1 y2 x19 x20 x21 x22 x23 x24)) (funext fun x18 => ih x18 x19 x20 x21 x22 x23 x24)).trans (r49_0_2 α K (loopT (runM Try.prog E49_0 sh49 c49_0_17) td49_17 K n) x18 x19 x20 x21 x22 x23 x24).symm
theorem m49_0_2 : ∀ (α : Type) (K : Exit → St → Option α), F49_0_2 L49_0_2 α K = p49_0_3.unc fun σ => loopT (runM Try.prog E49_0 sh49 c49_0_17) td49_17 K fuel σ := fun α K => funext fun x18 => funext fun x19 => funext fun x20 => funext fun x21 => funext fun x22 => funext fun x23 => funext fun x24 => t49_0_2 α K fuel x18 x19 x20 x21 x22 x23 x24
abbrev Tf49_0 : Type 1 := (α : Type) → ByteArray → Int → Int → Int → Int → Int → Int → Int → Int → Int → (Int → Option α) → Option α
def f49_0g (vL49_0_2 : TL49_0_2) (vf103_0 : Tf103_0) (vf91_0 : Tf91_0) (α : Type) (x1 : ByteArray) (x2 x3 x4 x5 x6 x7 x8 x9 x10 : Int) (k1 : Int → Option α) : Option α :=
 vf91_0 α x1 x2 x3 x4
 (fun x11 => cK (x11 != 0)
 (k1 x11)
 (vf103_0 α x1 x2 x3 x4 x5 x6 x7 x8 x9 x10
 (fun x12 x13 x14 x15 x16 x17 => vL49_0_2 α x12 x13 x14 x15 x16 x17
 (fun x60 => k1 x60)
 (fun x61 x62 => k1 0) 0)))
noncomputable def f49_0 (α : Type) (x1 : ByteArray) (x2 x3 x4 x5 x6 x7 x8 x9 x10 : Int) (k1 : Int → Option α) : Option α := f49_0g L49_0_2 f103_0 f91_0 α x1 x2 x3 x4 x5 x6 x7 x8 x9 x10 k1
def pa49_0 : PT (List DV) := pA [pV true [dS, (dI .i64), (dI .i64), (dI .i64), (dI .i64), (dI .i64), (dI .i64), (dI .i64), (dI .i64), (dI .i64)]]
def Fn49_0 (v : Tf49_0) (α : Type) (k : List RV → Option α) : ByteArray → Int → Int → Int → Int → Int → Int → Int → Int → Int → Option α := fun x1 x2 x3 x4 x5 x6 x7 x8 x9 x10 => v α x1 x2 x3 x4 x5 x6 x7 x8 x9 x10 (fun (y1 : Int) => ur49_0_0 k y1)
noncomputable def cm49_0g (vL49_0_2 : TL49_0_2) : MCode := (.seq (.region r49_2 [] (tO [1])) (.seq (.seq (.region r49_5 [] (tO [1, 3])) (.seq (.region r49_7 [] (tO [1, 3, 14])) (.cond (.tmp 14) (.seq (.region r49_10 [] (tO [2])) .ret) .skip))) (.seq (.region r49_12 [] (tO [4])) (.seq (.seq (.region r49_15 [] (tO [4, 5])) (.block 0 (.loop td49_17 [⟨p49_0_3, F49_0_2 vL49_0_2⟩] c49_0_17))) (.seq (.region r49_37 [] (tO [2])) .ret)))))
noncomputable def cm49_0 : MCode := cm49_0g L49_0_2
theorem gm49_0 : cm49_0.Good Try.prog E49_0 sh49 := ⟨trivial, ⟨⟨trivial, ⟨trivial, ⟨⟨trivial, trivial⟩, trivial⟩⟩⟩, ⟨trivial, ⟨⟨trivial, ⟨g49_0_17, m49_0_2, trivial⟩⟩, ⟨trivial, trivial⟩⟩⟩⟩⟩
theorem fm49_0g (vf91_0 : Tf91_0) (vf103_0 : Tf103_0) (vf29_0 : Tf29_0) (vL49_0_2 : TL49_0_2) (α : Type) (k : List RV → Option α) : Fn49_0 (f49_0g vL49_0_2 vf103_0 vf91_0) α k = pa49_0.unc fun ds => fnM Try.prog (E49_0g vf91_0 vf103_0 vf29_0) sh49 (cm49_0g vL49_0_2) rs49 k ds := by kernel_rfl
theorem fm49_0 : ∀ (α : Type) (k : List RV → Option α), Fn49_0 f49_0 α k = pa49_0.unc fun ds => fnM Try.prog E49_0 sh49 cm49_0 rs49 k ds := fm49_0g f91_0 f103_0 f29_0 L49_0_2
theorem is49 : FnIs Try.prog 49 nt49 tr49 tl49 cm49_0.erase rs49 := ⟨Try.f49, Try.func49, rfl, by kernel_rfl, by kernel_rfl, by kernel_rfl⟩
theorem io49_0 : InstOk Try.prog 49 nt49 ⟨pa49_0, Fn49_0 f49_0⟩ := inst_ok eo49_0 followsTry is49 ⟨⟨sh49, cm49_0, by kernel_rfl, gm49_0, fm49_0⟩⟩
abbrev nt18 : Nat := 56
def sh18 : List (Nat × List Sh) := [(7, [.sl]), (18, [.int .i64]), (23, [.int .i64]), (33, [.sl]), (35, [.flt .f32]), (36, [.flt .f32]), (42, [.sl]), (44, [.flt .f32]), (45, [.flt .f32]), (49, [.sl]), (51, [.flt .f32]), (52, [.flt .f32])]
def r18_2 : List AOper := [oO 1 (.box (.tmp 0)), oO 2 (.mv (kI 0)), oO 3 (.mv (kI 0))]
def r18_4 : List AOper := [oO 6 (.faddr 0 (.tmp 1)), oO 7 (.load false 1 (.tmp 6)), oO 8 (.len (.tmp 7)), oM 4 8]
def r18_7 : List AOper := [oM 9 4, oO 10 (.call 29 [(.tmp 9), (kI 4), (kI 64)]), oO 11 (.pure (oB (.unOp .not 4 (.tmp 10)) 4)), oM 12 11, oG 13 (.mv (.tmp 4)) 12 false, oG 14 (.bin .rem 3 (.tmp 13) (kI 4)) 12 false, oG 15 (.bin .neq 3 (.tmp 14) (kI 0)) 12 false, oO 16 (.pick (.tmp 12) (.const (.bool true)) (.tmp 15))]
def r18_10 : List AOper := [oO 2 (.mv (kI 0)), oO 3 (.mv (kI 12))]
def r18_13 : List AOper := [oO 17 (.faddr 1 (.tmp 1)), oO 18 (.load false 1 (.tmp 17)), oO 19 (.call 70 [(.tmp 18)]), oO 20 (.pure (oB (.unOp .not 4 (.tmp 19)) 4)), oM 21 20, oG 22 (.faddr 2 (.tmp 1)) 21 false, oG 23 (.load false 1 (.tmp 22)) 21 false, oG 24 (.call 29 [(.tmp 23), (kI 1), (kI 65536)]) 21 false, oG 25 (.pure (oB (.unOp .not 4 (.tmp 24)) 4)) 21 false, oO 26 (.pick (.tmp 21) (.const (.bool true)) (.tmp 25))]
def r18_16 : List AOper := [oO 2 (.mv (kI 0)), oO 3 (.mv (kI 2))]
def r18_19 : List AOper := [oO 5 (.mv (kI 0))]
def td18_21 : Option Tidy := (some ⟨[1, 4, 5], true, [⟨true, 1, 0, 30100, 1⟩], []⟩)
def r18_24 : List AOper := [oM 27 5, oM 28 4, oO 29 (.bin .lss 3 (.tmp 27) (.tmp 28))]
def r18_30 : List AOper := [oO 32 (.faddr 0 (.tmp 1)), oO 33 (.load false 1 (.tmp 32)), oM 34 5, oO 35 (.iaddr 1 none (.tmp 33) (.tmp 34)), oO 36 (.load false 1 (.tmp 35)), oO 37 (.pure (oB (.convert 74 112 (.tmp 36)) 112)), oO 38 (.call 71 [(.tmp 37)]), oO 39 (.pure (oB (.unOp .not 4 (.tmp 38)) 4))]
def r18_33 : List AOper := [oM 40 5, oM 2 40, oO 3 (.mv (kI 27))]
def r18_35 : List AOper := [oO 41 (.faddr 0 (.tmp 1)), oO 42 (.load false 1 (.tmp 41)), oM 43 5, oO 44 (.iaddr 1 none (.tmp 42) (.tmp 43)), oO 45 (.load false 1 (.tmp 44)), oO 46 (.bin .lss 74 (.tmp 45) (.const (.float Go.FloatKind.f32 0))), oM 47 46, oG 48 (.faddr 0 (.tmp 1)) 47 false, oG 49 (.load false 1 (.tmp 48)) 47 false, oG 50 (.mv (.tmp 5)) 47 false, oG 51 (.iaddr 1 none (.tmp 49) (.tmp 50)) 47 false, oG 52 (.load false 1 (.tmp 51)) 47 false, oG 53 (.bin .gtr 74 (.tmp 52) (.const (.float Go.FloatKind.f32 1199570688))) 47 false, oO 54 (.pick (.tmp 47) (.const (.bool true)) (.tmp 53))]
def r18_38 : List AOper := [oM 55 5, oM 2 55, oO 3 (.mv (kI 2))]
def r18_39 : List AOper := [oM 30 5, oO 31 (.bin .add 3 (.tmp 30) (kI 1)), oM 5 31]
def r18_41 : List AOper := [oO 2 (.mv (kI 0)), oO 3 (.mv (kI 0))]
def tr18 : List (Nat × Tidy) := [tT 0 [1], tT 1 [1, 4], tT 2 [1, 4, 16], tT 3 [2, 3], tT 4 [1, 4, 26], tT 5 [2, 3], tT 6 [1, 4, 5], tT 7 [1, 4, 5, 29], tT 9 [1, 4, 5, 39], tT 10 [2, 3], tT 11 [1, 4, 5, 54], tT 12 [2, 3], tT 8 [1, 4, 5], tT 13 [2, 3]]
def tl18 : List (Nat × Tidy) := [(7, ⟨[1, 4, 5], true, [⟨true, 1, 0, 30100, 1⟩], []⟩)]
def rs18 : List AResV := [.tmp 2, .tmp 3]
def p18_0_0 : PT St := pS [sl 1 (aV false [(cPtr 1 0)]), sl 4 (aV false [(cD (dI .i64))]), sl 5 (aV false [(cD (dI .i64))])] [eBox 1 [(cD dL), (cD (dI .i64)), (cD (dI .i64))]]
def u18_0_0 {β : Type} (g : St → β) : Int → Int → Rows → Int → Int → β := p18_0_0.unc g
def p18_0_1 : PT St := pS [sl 2 (aV false [(cD (dI .i64))]), sl 3 (aV false [(cD (dI .i64))])] []
def u18_0_1 {β : Type} (g : St → β) : Int → Int → β := p18_0_1.unc g
def p18_0_2 : PT St := pS [sl 1 (aV false [(cPtr 1 0)]), sl 4 (aV false [(cD (dI .i64))]), sl 5 (aV false [(cD (dI .i64))]), sl 29 (aV false [(cD dB)])] [eBox 1 [(cD dL), (cD (dI .i64)), (cD (dI .i64))]]
def u18_0_2 {β : Type} (g : St → β) : Int → Int → Bool → Rows → Int → Int → β := p18_0_2.unc g
def pr18_0_0 : PT (List RV) := pRs [pR false [rD (dI .i64)], pR false [rD (dI .i64)]]
def ur18_0_0 {β : Type} (g : List RV → β) : Int → Int → β := pr18_0_0.unc g
def E18_0g (vf29_0 : Tf29_0) (vf70_0 : Tf70_0) (vf71_0 : Tf71_0) (vf71_1 : Tf71_1) : EnvK := EnvK.of [⟨29, nt29, [⟨pa29_0, Fn29_0 vf29_0⟩]⟩, ⟨70, nt70, [⟨pa70_0, Fn70_0 vf70_0⟩]⟩, ⟨71, nt71, [⟨pa71_0, Fn71_0 vf71_0⟩, ⟨pa71_1, Fn71_1 vf71_1⟩]⟩] noSeq
noncomputable def E18_0 : EnvK := E18_0g f29_0 f70_0 f71_0 f71_1
theorem eo18_0 : E18_0.Ok Try.prog := EnvK.of_ok noSeq_ok ⟨⟨io29_0, trivial⟩, ⟨io70_0, trivial⟩, ⟨io71_0, io71_1, trivial⟩, trivial⟩
noncomputable def c18_0_21g  : MCode := (.seq (.seq (.region r18_24 [] (tO [1, 4, 5, 29])) (.cond (.tmp 29) .skip (.exit 0))) (.seq (.block 1 (.seq (.seq (.region r18_30 [] (tO [1, 4, 5, 39])) (.cond (.tmp 39) (.seq (.region r18_33 [] (tO [2, 3])) .ret) .skip)) (.seq (.region r18_35 [] (tO [1, 4, 5, 54])) (.cond (.tmp 54) (.seq (.region r18_38 [] (tO [2, 3])) .ret) .skip)))) (.region r18_39 [] (tO [1, 4, 5]))))
noncomputable def c18_0_21 : MCode := c18_0_21g 
theorem g18_0_21 : c18_0_21.Good Try.prog E18_0 sh18 := ⟨⟨trivial, ⟨trivial, trivial⟩⟩, ⟨⟨⟨trivial, ⟨⟨trivial, trivial⟩, trivial⟩⟩, ⟨trivial, ⟨⟨trivial, trivial⟩, trivial⟩⟩⟩, trivial⟩⟩
--CODE 21 0
def S18_0_0g (vf71_0 : Tf71_0) (vf71_1 : Tf71_1) (α : Type) (x7 : Int) (x9 : Rows) (x8 : Int) (kn : Int → Option α) (k1 : Int → Int → Option α) (k2 : Int → Bool → Option α) : Option α :=
 cK (decide (x8 < x7))
 (rowK x9 x8 [.flt .f32]
 (fun x13 => cK (isNaNb .f32 x13)
 (vf71_0 α 
 (k1 x8 27))
 (flK (f2f .f32 x13 .f64)
 (fun x14 => vf71_1 α x14
 (fun x15 => cK (!x15)
 (k1 x8 27)
 (rowK x9 x8 [.flt .f32]
 (fun x16 => cK ((FloatKind.format .f32).order x16 0 == some Ordering.lt)
 (k1 x8 2)
 (rowK x9 x8 [.flt .f32]
 (fun x17 => cK ((FloatKind.format .f32).order x17 1199570688 == some Ordering.gt)
 (k1 x8 2)
 (kn (w64 (x8 + 1))))))))))))
 (k2 x8 (decide (x8 < x7)))
noncomputable def S18_0_0 (α : Type) (x7 : Int) (x9 : Rows) (x8 : Int) (kn : Int → Option α) (k1 : Int → Int → Option α) (k2 : Int → Bool → Option α) : Option α := S18_0_0g f71_0 f71_1 α x7 x9 x8 kn k1 k2
noncomputable def R18_0_0 (α : Type) (x7 : Int) (x9 : Rows) (k1 : Int → Int → Option α) (k2 : Int → Bool → Option α) : Nat → Int → Option α
 | 0, _ => none
 | n + 1, x8 => S18_0_0 α x7 x9 x8 (R18_0_0 α x7 x9 k1 k2 n) k1 k2
noncomputable def L18_0_0 (α : Type) (x7 : Int) (x9 : Rows) (k1 : Int → Int → Option α) (k2 : Int → Bool → Option α) (x8 : Int) : Option α := R18_0_0 α x7 x9 k1 k2 fuel x8
abbrev TL18_0_0 : Type 1 := (α : Type) → Int → Rows → (Int → Int → Option α) → (Int → Bool → Option α) → Int → Option α
def F18_0_0 (v : TL18_0_0) (α : Type) (K : Exit → St → Option α) : Int → Int → Rows → Int → Int → Option α := fun x7 x8 x9 x10 x11 => v α x7 x9 (fun (y1 : Int) (y2 : Int) => u18_0_1 (K .ret) y1 y2) (fun (y1 : Int) (y2 : Bool) => u18_0_2 (K (.exit 0)) x7 y1 y2 x9 x10 x11) x8
theorem r18_0_0g (vf29_0 : Tf29_0) (vf70_0 : Tf70_0) (vf71_0 : Tf71_0) (vf71_1 : Tf71_1)  (α : Type) (K : Exit → St → Option α) (Kn : St → Option α) (x7 x8 : Int) (x9 : Rows) (x10 x11 : Int) : u18_0_0 (fun σ => runM Try.prog (E18_0g vf29_0 vf70_0 vf71_0 vf71_1) sh18 (c18_0_21g ) (thenK (fun σ => tidyK td18_21 σ Kn) K) σ) x7 x8 x9 x10 x11 = S18_0_0g vf71_0 vf71_1 α x7 x9 x8 (fun x8 => u18_0_0 Kn x7 x8 x9 x10 x11) (fun (y1 : Int) (y2 : Int) => u18_0_1 (K .ret) y1 y2) (fun (y1 : Int) (y2 : Bool) => u18_0_2 (K (.exit 0)) x7 y1 y2 x9 x10 x11) := by kernel_rfl
theorem r18_0_0 (α : Type) (K : Exit → St → Option α) (Kn : St → Option α) (x7 x8 : Int) (x9 : Rows) (x10 x11 : Int) : u18_0_0 (fun σ => runM Try.prog E18_0 sh18 c18_0_21 (thenK (fun σ => tidyK td18_21 σ Kn) K) σ) x7 x8 x9 x10 x11 = S18_0_0 α x7 x9 x8 (fun x8 => u18_0_0 Kn x7 x8 x9 x10 x11) (fun (y1 : Int) (y2 : Int) => u18_0_1 (K .ret) y1 y2) (fun (y1 : Int) (y2 : Bool) => u18_0_2 (K (.exit 0)) x7 y1 y2 x9 x10 x11) := r18_0_0g f29_0 f70_0 f71_0 f71_1 α K Kn x7 x8 x9 x10 x11
theorem t18_0_0 (α : Type) (K : Exit → St → Option α) : ∀ (n : Nat) (x7 x8 : Int) (x9 : Rows) (x10 x11 : Int), R18_0_0 α x7 x9 (fun (y1 : Int) (y2 : Int) => u18_0_1 (K .ret) y1 y2) (fun (y1 : Int) (y2 : Bool) => u18_0_2 (K (.exit 0)) x7 y1 y2 x9 x10 x11) n x8 = u18_0_0 (loopT (runM Try.prog E18_0 sh18 c18_0_21) td18_21 K n) x7 x8 x9 x10 x11 := by
 intro n
 induction n with
 | zero => intros; rfl
 | succ n ih => intro x7 x8 x9 x10 x11; exact (congrArg (fun kn => S18_0_0 α x7 x9 x8 kn (fun (y1 : Int) (y2 : Int) => u18_0_1 (K .ret) y1 y2) (fun (y1 : Int) (y2 : Bool) => u18_0_2 (K (.exit 0)) x7 y1 y2 x9 x10 x11)) (funext fun x8 => ih x7 x8 x9 x10 x11)).trans (r18_0_0 α K (loopT (runM Try.prog E18_0 sh18 c18_0_21) td18_21 K n) x7 x8 x9 x10 x11).symm
theorem m18_0_0 : ∀ (α : Type) (K : Exit → St → Option α), F18_0_0 L18_0_0 α K = p18_0_0.unc fun σ => loopT (runM Try.prog E18_0 sh18 c18_0_21) td18_21 K fuel σ := fun α K => funext fun x7 => funext fun x8 => funext fun x9 => funext fun x10 => funext fun x11 => t18_0_0 α K fuel x7 x8 x9 x10 x11
abbrev Tf18_0 : Type 1 := (α : Type) → Rows → Int → Int → (Int → Int → Option α) → Option α
def f18_0g (vL18_0_0 : TL18_0_0) (vf29_0 : Tf29_0) (vf70_0 : Tf70_0) (α : Type) (x1 : Rows) (x2 x3 : Int) (k1 : Int → Int → Option α) : Option α :=
 vf29_0 α ((List.length x1 : Nat) : Int) 4 64
 (fun x4 => cK (!x4)
 (k1 0 12)
 (cK ((Int.tmod ((List.length x1 : Nat) : Int) 4) != 0)
 (k1 0 12)
 (vf70_0 α x2
 (fun x5 => cK (!x5)
 (k1 0 2)
 (vf29_0 α x3 1 65536
 (fun x6 => cK (!x6)
 (k1 0 2)
 (vL18_0_0 α ((List.length x1 : Nat) : Int) x1
 (fun x18 x19 => k1 x18 x19)
 (fun x20 x21 => k1 0 0) 0)))))))
noncomputable def f18_0 (α : Type) (x1 : Rows) (x2 x3 : Int) (k1 : Int → Int → Option α) : Option α := f18_0g L18_0_0 f29_0 f70_0 α x1 x2 x3 k1
def pa18_0 : PT (List DV) := pA [pV true [dL, (dI .i64), (dI .i64)]]
def Fn18_0 (v : Tf18_0) (α : Type) (k : List RV → Option α) : Rows → Int → Int → Option α := fun x1 x2 x3 => v α x1 x2 x3 (fun (y1 : Int) (y2 : Int) => ur18_0_0 k y1 y2)
noncomputable def cm18_0g (vL18_0_0 : TL18_0_0) : MCode := (.seq (.region r18_2 [] (tO [1])) (.seq (.region r18_4 [] (tO [1, 4])) (.seq (.seq (.region r18_7 [] (tO [1, 4, 16])) (.cond (.tmp 16) (.seq (.region r18_10 [] (tO [2, 3])) .ret) .skip)) (.seq (.seq (.region r18_13 [] (tO [1, 4, 26])) (.cond (.tmp 26) (.seq (.region r18_16 [] (tO [2, 3])) .ret) .skip)) (.seq (.seq (.region r18_19 [] (tO [1, 4, 5])) (.block 0 (.loop td18_21 [⟨p18_0_0, F18_0_0 vL18_0_0⟩] c18_0_21))) (.seq (.region r18_41 [] (tO [2, 3])) .ret))))))
noncomputable def cm18_0 : MCode := cm18_0g L18_0_0
theorem gm18_0 : cm18_0.Good Try.prog E18_0 sh18 := ⟨trivial, ⟨trivial, ⟨⟨trivial, ⟨⟨trivial, trivial⟩, trivial⟩⟩, ⟨⟨trivial, ⟨⟨trivial, trivial⟩, trivial⟩⟩, ⟨⟨trivial, ⟨g18_0_21, m18_0_0, trivial⟩⟩, ⟨trivial, trivial⟩⟩⟩⟩⟩⟩
theorem fm18_0g (vf29_0 : Tf29_0) (vf70_0 : Tf70_0) (vf71_0 : Tf71_0) (vf71_1 : Tf71_1) (vL18_0_0 : TL18_0_0) (α : Type) (k : List RV → Option α) : Fn18_0 (f18_0g vL18_0_0 vf29_0 vf70_0) α k = pa18_0.unc fun ds => fnM Try.prog (E18_0g vf29_0 vf70_0 vf71_0 vf71_1) sh18 (cm18_0g vL18_0_0) rs18 k ds := by kernel_rfl
theorem fm18_0 : ∀ (α : Type) (k : List RV → Option α), Fn18_0 f18_0 α k = pa18_0.unc fun ds => fnM Try.prog E18_0 sh18 cm18_0 rs18 k ds := fm18_0g f29_0 f70_0 f71_0 f71_1 L18_0_0
theorem is18 : FnIs Try.prog 18 nt18 tr18 tl18 cm18_0.erase rs18 := ⟨Try.f18, Try.func18, rfl, by kernel_rfl, by kernel_rfl, by kernel_rfl⟩
theorem io18_0 : InstOk Try.prog 18 nt18 ⟨pa18_0, Fn18_0 f18_0⟩ := inst_ok eo18_0 followsTry is18 ⟨⟨sh18, cm18_0, by kernel_rfl, gm18_0, fm18_0⟩⟩
abbrev nt125 : Nat := 24
def sh125 : List (Nat × List Sh) := [(7, [.int .i64]), (13, [.int .i64]), (20, [.int .i64]), (22, [.int .i64])]
def r125_2 : List AOper := [oO 2 (.box (.tmp 0)), oO 4 (.mv (kI 0))]
def r125_6 : List AOper := [oO 6 (.faddr 0 (.tmp 2)), oO 7 (.load false 1 (.tmp 6)), oM 8 1, oO 9 (.call 109 [(.tmp 7), (.tmp 8)]), oO 10 (.pure (oB (.unOp .not 4 (.tmp 9)) 4)), oM 11 10, oG 12 (.faddr 1 (.tmp 2)) 11 false, oG 13 (.load false 1 (.tmp 12)) 11 false, oG 14 (.mv (.tmp 1)) 11 false, oG 15 (.call 109 [(.tmp 13), (.tmp 14)]) 11 false, oG 16 (.pure (oB (.unOp .not 4 (.tmp 15)) 4)) 11 false, oO 17 (.pick (.tmp 11) (.const (.bool true)) (.tmp 16)), oM 5 17]
def r125_9 : List AOper := [oO 4 (.mv (kI 2))]
def r125_11 : List AOper := [oO 19 (.faddr 0 (.tmp 2)), oO 20 (.load false 1 (.tmp 19)), oO 21 (.faddr 1 (.tmp 2)), oO 22 (.load false 1 (.tmp 21)), oO 23 (.bin .gtr 3 (.tmp 20) (.tmp 22)), oM 18 23]
def r125_14 : List AOper := [oO 4 (.mv (kI 10))]
def r125_16 : List AOper := [oO 4 (.mv (kI 0))]
def tr125 : List (Nat × Tidy) := [tT 0 [1, 2], tT 1 [2, 5], tT 2 [4], tT 3 [18], tT 4 [4], tT 5 [4]]
def tl125 : List (Nat × Tidy) := []
def rs125 : List AResV := [.tmp 4]
def p125_0_0 : PT St := pS [sl 1 (aV false [(cD (dI .i64))]), sl 2 (aV false [(cPtr 2 0)])] [eBox 2 [(cD (dI .i64)), (cD (dI .i64))]]
def u125_0_0 {β : Type} (g : St → β) : Int → Int → Int → β := p125_0_0.unc g
def p125_0_1 : PT St := pS [sl 2 (aV false [(cPtr 2 0)]), sl 5 (aV false [(cD dB)])] [eBox 2 [(cD (dI .i64)), (cD (dI .i64))]]
def u125_0_1 {β : Type} (g : St → β) : Bool → Int → Int → β := p125_0_1.unc g
def pr125_0_0 : PT (List RV) := pRs [pR false [rD (dI .i64)]]
def ur125_0_0 {β : Type} (g : List RV → β) : Int → β := pr125_0_0.unc g
def E125_0g (vf109_0 : Tf109_0) : EnvK := EnvK.of [⟨109, nt109, [⟨pa109_0, Fn109_0 vf109_0⟩]⟩] noSeq
noncomputable def E125_0 : EnvK := E125_0g f109_0
theorem eo125_0 : E125_0.Ok Try.prog := EnvK.of_ok noSeq_ok ⟨⟨io109_0, trivial⟩, trivial⟩
noncomputable def c125_0_5g  : MCode := (.region r125_6 [] (tO [2, 5]))
noncomputable def c125_0_5 : MCode := c125_0_5g 
theorem g125_0_5 : c125_0_5.Good Try.prog E125_0 sh125 := trivial
--CODE 5 0
abbrev TJ125_0_0 : Type 1 := (α : Type) → Int → Int → Int → (Bool → Option α) → Option α
def J125_0_0g (vf109_0 : Tf109_0) (α : Type) (x4 x5 x6 : Int) (k1 : Bool → Option α) : Option α :=
 vf109_0 α x5 x4
 (fun x8 => cK (!x8)
 (k1 true)
 (vf109_0 α x6 x4
 (fun x9 => k1 (!x9))))
noncomputable def J125_0_0 (α : Type) (x4 x5 x6 : Int) (k1 : Bool → Option α) : Option α := J125_0_0g f109_0 α x4 x5 x6 k1
def F125_0_0 (v : TJ125_0_0) (α : Type) (K : Exit → St → Option α) : Int → Int → Int → Option α := fun x4 x5 x6 => v α x4 x5 x6 (fun (y1 : Bool) => u125_0_1 (K .normal) y1 x5 x6) 
theorem m125_0_0g (vf109_0 : Tf109_0)  (α : Type) (K : Exit → St → Option α) : F125_0_0 (J125_0_0g vf109_0) α K = p125_0_0.unc fun σ => runM Try.prog (E125_0g vf109_0) sh125 (c125_0_5g ) K σ := by kernel_rfl
theorem m125_0_0 : ∀ (α : Type) (K : Exit → St → Option α), F125_0_0 J125_0_0 α K = p125_0_0.unc fun σ => runM Try.prog E125_0 sh125 c125_0_5 K σ := m125_0_0g f109_0
abbrev Tf125_0 : Type 1 := (α : Type) → Int → Int → Int → (Int → Option α) → Option α
def f125_0g (vJ125_0_0 : TJ125_0_0) (α : Type) (x1 x2 x3 : Int) (k1 : Int → Option α) : Option α :=
 vJ125_0_0 α x3 x1 x2
 (fun x10 => cK x10
 (k1 2)
 (cK (decide (x2 < x1))
 (k1 10)
 (k1 0)))
noncomputable def f125_0 (α : Type) (x1 x2 x3 : Int) (k1 : Int → Option α) : Option α := f125_0g J125_0_0 α x1 x2 x3 k1
def pa125_0 : PT (List DV) := pA [pV true [(dI .i64), (dI .i64)], pV false [(dI .i64)]]
def Fn125_0 (v : Tf125_0) (α : Type) (k : List RV → Option α) : Int → Int → Int → Option α := fun x1 x2 x3 => v α x1 x2 x3 (fun (y1 : Int) => ur125_0_0 k y1)
noncomputable def cm125_0g (vJ125_0_0 : TJ125_0_0) : MCode := (.seq (.region r125_2 [] (tO [1, 2])) (.seq (.block 0 (.seq (.mark [⟨p125_0_0, F125_0_0 vJ125_0_0⟩] c125_0_5) (.cond (.tmp 5) (.seq (.region r125_9 [] (tO [4])) .ret) (.seq (.region r125_11 [] (tO [18])) (.cond (.tmp 18) (.seq (.region r125_14 [] (tO [4])) .ret) .skip))))) (.seq (.region r125_16 [] (tO [4])) .ret)))
noncomputable def cm125_0 : MCode := cm125_0g J125_0_0
theorem gm125_0 : cm125_0.Good Try.prog E125_0 sh125 := ⟨trivial, ⟨⟨⟨g125_0_5, m125_0_0, trivial⟩, ⟨⟨trivial, trivial⟩, ⟨trivial, ⟨⟨trivial, trivial⟩, trivial⟩⟩⟩⟩, ⟨trivial, trivial⟩⟩⟩
theorem fm125_0g (vf109_0 : Tf109_0) (vJ125_0_0 : TJ125_0_0) (α : Type) (k : List RV → Option α) : Fn125_0 (f125_0g vJ125_0_0) α k = pa125_0.unc fun ds => fnM Try.prog (E125_0g vf109_0) sh125 (cm125_0g vJ125_0_0) rs125 k ds := by kernel_rfl
theorem fm125_0 : ∀ (α : Type) (k : List RV → Option α), Fn125_0 f125_0 α k = pa125_0.unc fun ds => fnM Try.prog E125_0 sh125 cm125_0 rs125 k ds := fm125_0g f109_0 J125_0_0
theorem is125 : FnIs Try.prog 125 nt125 tr125 tl125 cm125_0.erase rs125 := ⟨Try.f125, Try.func125, rfl, by kernel_rfl, by kernel_rfl, by kernel_rfl⟩
theorem io125_0 : InstOk Try.prog 125 nt125 ⟨pa125_0, Fn125_0 f125_0⟩ := inst_ok eo125_0 followsTry is125 ⟨⟨sh125, cm125_0, by kernel_rfl, gm125_0, fm125_0⟩⟩
abbrev nt54 : Nat := 79
def sh54 : List (Nat × List Sh) := [(24, [.cpx .f64]), (50, [.int .i64]), (53, [.int .i64]), (78, [.int .i64, .int .i64, .int .i64, .int .i64])]
def r54_2 : List AOper := [oO 1 (.box (.tmp 0)), oO 2 (.alloc [(cI 0), (cI 0), (cI 0), (cI 0)]), oO 3 (.mv (kI 0))]
def r54_4 : List AOper := [oO 4 (.alloc [(cI 0), (cI 0), (cI 0), (cI 0)]), oO 5 (.alloc [(cI 0), (cI 0), (cI 0), (cI 0)])]
def r54_7 : List AOper := [oO 6 (.mv (kI 0))]
def td54_9 : Option Tidy := (tO [1, 2, 4, 5, 6])
def r54_12 : List AOper := [oM 17 6, oO 18 (.bin .lss 3 (.tmp 17) (kI 4))]
def r54_17 : List AOper := [oM 22 6, oO 23 (.iaddr 1 (some 4) (.tmp 1) (.tmp 22)), oO 24 (.load false 1 (.tmp 23)), oO 25 (.call 108 [(.tmp 24), (kI 10000000)]), oM 21 25, oO 26 (.extract 0 (.tmp 21)), oO 27 (.extract 1 (.tmp 21)), oO 28 (.extract 2 (.tmp 21)), oM 7 26, oM 8 27, oM 9 28]
def r54_20 : List AOper := [oM 29 9, oO 30 (.bin .neq 3 (.tmp 29) (kI 0))]
def r54_23 : List AOper := [oO 31 (.build [(cI 0), (cI 0), (cI 0), (cI 0)] []), oM 32 9, oD (.store 4 (.tmp 2) (.tmp 31)), oM 3 32]
def r54_24 : List AOper := [oM 33 6, oM 34 6, oM 35 7, oM 36 8, oO 37 (.iaddr 1 (some 4) (.tmp 4) (.tmp 33)), oD (.store 1 (.tmp 37) (.tmp 35)), oO 38 (.iaddr 1 (some 4) (.tmp 5) (.tmp 34)), oD (.store 1 (.tmp 38) (.tmp 36))]
def r54_25 : List AOper := [oM 19 6, oO 20 (.bin .add 3 (.tmp 19) (kI 1)), oM 6 20]
def r54_27 : List AOper := [oO 10 (.alloc [(cI 0), (cI 0), (cI 0), (cI 0)])]
def r54_30 : List AOper := [oO 11 (.mv (kI 0))]
def td54_32 : Option Tidy := (tO [2, 4, 5, 10, 11])
def r54_35 : List AOper := [oM 39 11, oO 40 (.bin .lss 3 (.tmp 39) (kI 4))]
def r54_40 : List AOper := [oO 12 (.mv (kI 0)), oO 13 (.mv (kI 0))]
def r54_43 : List AOper := [oO 14 (.mv (kI 0))]
def td54_45 : Option Tidy := (tO [2, 4, 5, 10, 11, 12, 13, 14])
def r54_48 : List AOper := [oM 43 14, oO 44 (.bin .lss 3 (.tmp 43) (kI 4))]
def r54_53 : List AOper := [oM 48 14, oO 49 (.iaddr 1 (some 4) (.tmp 4) (.tmp 48)), oO 50 (.load false 1 (.tmp 49)), oM 51 14, oO 52 (.iaddr 1 (some 4) (.tmp 5) (.tmp 51)), oO 53 (.load false 1 (.tmp 52)), oM 54 11, oM 55 14, oO 56 (.bin .mul 3 (.tmp 54) (.tmp 55)), oO 57 (.call 73 [(.tmp 50), (.tmp 53), (.tmp 56)]), oM 47 57, oO 58 (.extract 0 (.tmp 47)), oO 59 (.extract 1 (.tmp 47)), oM 15 58, oM 16 59]
def r54_54 : List AOper := [oM 60 12, oM 61 15, oO 62 (.bin .add 3 (.tmp 60) (.tmp 61)), oM 63 13, oM 64 16, oO 65 (.bin .add 3 (.tmp 63) (.tmp 64)), oM 12 62, oM 13 65]
def r54_55 : List AOper := [oM 45 14, oO 46 (.bin .add 3 (.tmp 45) (kI 1)), oM 14 46]
def r54_58 : List AOper := [oM 66 13, oO 67 (.bin .neq 3 (.tmp 66) (kI 0)), oM 68 67, oG 69 (.mv (.tmp 12)) 68 false, oG 70 (.call 31 [(.tmp 69), (kI 4)]) 68 false, oG 71 (.bin .neq 3 (.tmp 70) (kI 0)) 68 false, oO 72 (.pick (.tmp 68) (.const (.bool true)) (.tmp 71))]
def r54_61 : List AOper := [oO 73 (.build [(cI 0), (cI 0), (cI 0), (cI 0)] []), oD (.store 4 (.tmp 2) (.tmp 73)), oO 3 (.mv (kI 13))]
def r54_62 : List AOper := [oM 74 11, oM 75 12, oO 76 (.call 99 [(.tmp 75), (kI 4)]), oO 77 (.iaddr 1 (some 4) (.tmp 10) (.tmp 74)), oD (.store 1 (.tmp 77) (.tmp 76))]
def r54_63 : List AOper := [oM 41 11, oO 42 (.bin .add 3 (.tmp 41) (kI 1)), oM 11 42]
def r54_65 : List AOper := [oO 78 (.load true 4 (.tmp 10)), oD (.store 4 (.tmp 2) (.tmp 78)), oO 3 (.mv (kI 0))]
def tr54 : List (Nat × Tidy) := [tT 0 [1, 2], tT 1 [1, 2, 4, 5], tT 2 [1, 2, 4, 5, 6], tT 3 [1, 2, 4, 5, 6, 18], tT 5 [1, 2, 4, 5, 6, 7, 8, 9], tT 6 [1, 2, 4, 5, 6, 7, 8, 9, 30], tT 7 [2, 3], tT 8 [1, 2, 4, 5, 6], tT 4 [1, 2, 4, 5, 6], tT 9 [2, 4, 5, 10], tT 10 [2, 4, 5, 10, 11], tT 11 [2, 4, 5, 10, 11, 40], tT 13 [2, 4, 5, 10, 11, 12, 13], tT 14 [2, 4, 5, 10, 11, 12, 13, 14], tT 15 [2, 4, 5, 10, 11, 12, 13, 14, 44], tT 17 [2, 4, 5, 10, 11, 12, 13, 14, 15, 16], tT 18 [2, 4, 5, 10, 11, 12, 13, 14], tT 16 [2, 4, 5, 10, 11, 12, 13, 14], tT 19 [2, 4, 5, 10, 11, 12, 72], tT 20 [2, 3], tT 21 [2, 4, 5, 10, 11], tT 12 [2, 4, 5, 10, 11], tT 22 [2, 3]]
def tl54 : List (Nat × Tidy) := [tT 3 [1, 2, 4, 5, 6], tT 11 [2, 4, 5, 10, 11], tT 15 [2, 4, 5, 10, 11, 12, 13, 14]]
def rs54 : List AResV := [.cell 2 true 4, .tmp 3]
def pr54_0_0 : PT (List RV) := pRs [pR true [rD (dI .i64), rD (dI .i64), rD (dI .i64), rD (dI .i64)], pR false [rD (dI .i64)]]
def ur54_0_0 {β : Type} (g : List RV → β) : Int → Int → Int → Int → Int → β := pr54_0_0.unc g
def E54_0g (vf108_0 : Tf108_0) (vf73_0 : Tf73_0) (vf31_0 : Tf31_0) (vf99_0 : Tf99_0) : EnvK := EnvK.of [⟨108, nt108, [⟨pa108_0, Fn108_0 vf108_0⟩]⟩, ⟨73, nt73, [⟨pa73_0, Fn73_0 vf73_0⟩]⟩, ⟨31, nt31, [⟨pa31_0, Fn31_0 vf31_0⟩]⟩, ⟨99, nt99, [⟨pa99_0, Fn99_0 vf99_0⟩]⟩] noSeq
noncomputable def E54_0 : EnvK := E54_0g f108_0 f73_0 f31_0 f99_0
theorem eo54_0 : E54_0.Ok Try.prog := EnvK.of_ok noSeq_ok ⟨⟨io108_0, trivial⟩, ⟨io73_0, trivial⟩, ⟨io31_0, trivial⟩, ⟨io99_0, trivial⟩, trivial⟩
abbrev Tf54_0 : Type 1 := (α : Type) → Nat → Nat → Nat → Nat → Nat → Nat → Nat → Nat → (Int → Int → Int → Int → Int → Option α) → Option α
def f54_0g (vf108_0 : Tf108_0) (vf31_0 : Tf31_0) (vf73_0 : Tf73_0) (vf99_0 : Tf99_0) (α : Type) (x1 x2 x3 x4 x5 x6 x7 x8 : Nat) (k1 : Int → Int → Int → Int → Int → Option α) : Option α :=
 vf108_0 α x1 x2 10000000
 (fun x9 x10 x11 => cK (x11 != 0)
 (k1 0 0 0 0 x11)
 (vf108_0 α x3 x4 10000000
 (fun x12 x13 x14 => cK (x14 != 0)
 (k1 0 0 0 0 x14)
 (vf108_0 α x5 x6 10000000
 (fun x15 x16 x17 => cK (x17 != 0)
 (k1 0 0 0 0 x17)
 (vf108_0 α x7 x8 10000000
 (fun x18 x19 x20 => cK (x20 != 0)
 (k1 0 0 0 0 x20)
 (vf73_0 α x9 x10 0
 (fun x21 x22 => vf73_0 α x12 x13 0
 (fun x23 x24 => vf73_0 α x15 x16 0
 (fun x25 x26 => vf73_0 α x18 x19 0
 (fun x27 x28 => cK ((w64 ((w64 ((w64 ((w64 (0 + x22)) + x24)) + x26)) + x28)) != 0)
 (k1 0 0 0 0 13)
 (vf31_0 α (w64 ((w64 ((w64 ((w64 (0 + x21)) + x23)) + x25)) + x27)) 4
 (fun x29 => cK (x29 != 0)
 (k1 0 0 0 0 13)
 (vf99_0 α (w64 ((w64 ((w64 ((w64 (0 + x21)) + x23)) + x25)) + x27)) 4
 (fun x30 => vf73_0 α x9 x10 0
 (fun x31 x32 => vf73_0 α x12 x13 1
 (fun x33 x34 => vf73_0 α x15 x16 2
 (fun x35 x36 => vf73_0 α x18 x19 3
 (fun x37 x38 => cK ((w64 ((w64 ((w64 ((w64 (0 + x32)) + x34)) + x36)) + x38)) != 0)
 (k1 0 0 0 0 13)
 (vf31_0 α (w64 ((w64 ((w64 ((w64 (0 + x31)) + x33)) + x35)) + x37)) 4
 (fun x39 => cK (x39 != 0)
 (k1 0 0 0 0 13)
 (vf99_0 α (w64 ((w64 ((w64 ((w64 (0 + x31)) + x33)) + x35)) + x37)) 4
 (fun x40 => vf73_0 α x9 x10 0
 (fun x41 x42 => vf73_0 α x12 x13 2
 (fun x43 x44 => vf73_0 α x15 x16 4
 (fun x45 x46 => vf73_0 α x18 x19 6
 (fun x47 x48 => cK ((w64 ((w64 ((w64 ((w64 (0 + x42)) + x44)) + x46)) + x48)) != 0)
 (k1 0 0 0 0 13)
 (vf31_0 α (w64 ((w64 ((w64 ((w64 (0 + x41)) + x43)) + x45)) + x47)) 4
 (fun x49 => cK (x49 != 0)
 (k1 0 0 0 0 13)
 (vf99_0 α (w64 ((w64 ((w64 ((w64 (0 + x41)) + x43)) + x45)) + x47)) 4
 (fun x50 => vf73_0 α x9 x10 0
 (fun x51 x52 => vf73_0 α x12 x13 3
 (fun x53 x54 => vf73_0 α x15 x16 6
 (fun x55 x56 => vf73_0 α x18 x19 9
 (fun x57 x58 => cK ((w64 ((w64 ((w64 ((w64 (0 + x52)) + x54)) + x56)) + x58)) != 0)
 (k1 0 0 0 0 13)
 (vf31_0 α (w64 ((w64 ((w64 ((w64 (0 + x51)) + x53)) + x55)) + x57)) 4
 (fun x59 => cK (x59 != 0)
 (k1 0 0 0 0 13)
 (vf99_0 α (w64 ((w64 ((w64 ((w64 (0 + x51)) + x53)) + x55)) + x57)) 4
 (fun x60 => k1 x30 x40 x50 x60 0))))))))))))))))))))))))))))))))))))))))
noncomputable def f54_0 (α : Type) (x1 x2 x3 x4 x5 x6 x7 x8 : Nat) (k1 : Int → Int → Int → Int → Int → Option α) : Option α := f54_0g f108_0 f31_0 f73_0 f99_0 α x1 x2 x3 x4 x5 x6 x7 x8 k1
def pa54_0 : PT (List DV) := pA [pV true [(dX .f64), (dX .f64), (dX .f64), (dX .f64)]]
def Fn54_0 (v : Tf54_0) (α : Type) (k : List RV → Option α) : Nat → Nat → Nat → Nat → Nat → Nat → Nat → Nat → Option α := fun x1 x2 x3 x4 x5 x6 x7 x8 => v α x1 x2 x3 x4 x5 x6 x7 x8 (fun (y1 : Int) (y2 : Int) (y3 : Int) (y4 : Int) (y5 : Int) => ur54_0_0 k y1 y2 y3 y4 y5)
noncomputable def cm54_0g  : MCode := (.seq (.region r54_2 [] (tO [1, 2])) (.seq (.region r54_4 [] (tO [1, 2, 4, 5])) (.seq (.seq (.region r54_7 [] (tO [1, 2, 4, 5, 6])) (.block 0 (.loopU 5 td54_9 (.seq (.seq (.region r54_12 [] (tO [1, 2, 4, 5, 6, 18])) (.cond (.tmp 18) .skip (.exit 0))) (.seq (.block 1 (.seq (.region r54_17 [] (tO [1, 2, 4, 5, 6, 7, 8, 9])) (.seq (.seq (.region r54_20 [] (tO [1, 2, 4, 5, 6, 7, 8, 9, 30])) (.cond (.tmp 30) (.seq (.region r54_23 [] (tO [2, 3])) .ret) .skip)) (.region r54_24 [] (tO [1, 2, 4, 5, 6]))))) (.region r54_25 [] (tO [1, 2, 4, 5, 6]))))))) (.seq (.region r54_27 [] (tO [2, 4, 5, 10])) (.seq (.seq (.region r54_30 [] (tO [2, 4, 5, 10, 11])) (.block 2 (.loopU 5 td54_32 (.seq (.seq (.region r54_35 [] (tO [2, 4, 5, 10, 11, 40])) (.cond (.tmp 40) .skip (.exit 2))) (.seq (.block 3 (.seq (.region r54_40 [] (tO [2, 4, 5, 10, 11, 12, 13])) (.seq (.seq (.region r54_43 [] (tO [2, 4, 5, 10, 11, 12, 13, 14])) (.block 4 (.loopU 5 td54_45 (.seq (.seq (.region r54_48 [] (tO [2, 4, 5, 10, 11, 12, 13, 14, 44])) (.cond (.tmp 44) .skip (.exit 4))) (.seq (.block 5 (.seq (.region r54_53 [] (tO [2, 4, 5, 10, 11, 12, 13, 14, 15, 16])) (.region r54_54 [] (tO [2, 4, 5, 10, 11, 12, 13, 14])))) (.region r54_55 [] (tO [2, 4, 5, 10, 11, 12, 13, 14]))))))) (.seq (.seq (.region r54_58 [] (tO [2, 4, 5, 10, 11, 12, 72])) (.cond (.tmp 72) (.seq (.region r54_61 [] (tO [2, 3])) .ret) .skip)) (.region r54_62 [] (tO [2, 4, 5, 10, 11])))))) (.region r54_63 [] (tO [2, 4, 5, 10, 11]))))))) (.seq (.region r54_65 [] (tO [2, 3])) .ret))))))
noncomputable def cm54_0 : MCode := cm54_0g 
theorem gm54_0 : cm54_0.Good Try.prog E54_0 sh54 := ⟨trivial, ⟨trivial, ⟨⟨trivial, ⟨⟨⟨trivial, ⟨trivial, trivial⟩⟩, ⟨⟨trivial, ⟨⟨trivial, ⟨⟨trivial, trivial⟩, trivial⟩⟩, trivial⟩⟩, trivial⟩⟩, by decide⟩⟩, ⟨trivial, ⟨⟨trivial, ⟨⟨⟨trivial, ⟨trivial, trivial⟩⟩, ⟨⟨trivial, ⟨⟨trivial, ⟨⟨⟨trivial, ⟨trivial, trivial⟩⟩, ⟨⟨trivial, trivial⟩, trivial⟩⟩, by decide⟩⟩, ⟨⟨trivial, ⟨⟨trivial, trivial⟩, trivial⟩⟩, trivial⟩⟩⟩, trivial⟩⟩, by decide⟩⟩, ⟨trivial, trivial⟩⟩⟩⟩⟩⟩
theorem fm54_0g (vf108_0 : Tf108_0) (vf73_0 : Tf73_0) (vf31_0 : Tf31_0) (vf99_0 : Tf99_0)  (α : Type) (k : List RV → Option α) : Fn54_0 (f54_0g vf108_0 vf31_0 vf73_0 vf99_0) α k = pa54_0.unc fun ds => fnM Try.prog (E54_0g vf108_0 vf73_0 vf31_0 vf99_0) sh54 (cm54_0g ) rs54 k ds := by kernel_rfl
theorem fm54_0 : ∀ (α : Type) (k : List RV → Option α), Fn54_0 f54_0 α k = pa54_0.unc fun ds => fnM Try.prog E54_0 sh54 cm54_0 rs54 k ds := fm54_0g f108_0 f73_0 f31_0 f99_0
theorem is54 : FnIs Try.prog 54 nt54 tr54 tl54 cm54_0.erase rs54 := ⟨Try.f54, Try.func54, rfl, by kernel_rfl, by kernel_rfl, by kernel_rfl⟩
theorem io54_0 : InstOk Try.prog 54 nt54 ⟨pa54_0, Fn54_0 f54_0⟩ := inst_ok eo54_0 followsTry is54 ⟨⟨sh54, cm54_0, by kernel_rfl, gm54_0, fm54_0⟩⟩
abbrev nt96 : Nat := 21
def sh96 : List (Nat × List Sh) := [(12, [.int .i64, .int .i64]), (13, [.int .i64, .int .i64]), (14, [.int .i64, .int .i64])]
def r96_2 : List AOper := [oO 4 (.mv (kI 0))]
def r96_5 : List AOper := [oM 8 1, oO 9 (.len (.tmp 8)), oO 10 (.mv (kI 0))]
def td96_7 : Option Tidy := (some ⟨[0, 8, 9, 10], true, [⟨false, 8, 0, 20008, 2⟩], []⟩)
def r96_9 : List AOper := [oO 11 (.bin .lss 3 (.tmp 10) (.tmp 9))]
def r96_15 : List AOper := [oO 12 (.iaddr 2 none (.tmp 8) (.tmp 10)), oO 13 (.load true 2 (.tmp 12)), oO 6 (.alloc [(cI 0), (cI 0)]), oD (.store 2 (.tmp 6) (.tmp 13))]
def r96_17 : List AOper := [oO 14 (.load true 2 (.tmp 6)), oM 15 0, oO 16 (.call 125 [(.tmp 14), (.tmp 15)]), oM 7 16]
def r96_19 : List AOper := [oM 17 7, oO 18 (.bin .neq 28 (.tmp 17) (kI 0))]
def r96_22 : List AOper := [oM 19 7, oM 4 19]
def r96_23 : List AOper := [oO 20 (.bin .add 3 (.tmp 10) (kI 1)), oM 10 20]
def r96_25 : List AOper := [oO 4 (.mv (kI 0))]
def tr96 : List (Nat × Tidy) := [tT 0 [0, 1], tT 1 [0, 8, 9, 10], tT 2 [0, 8, 9, 10, 11], tT 3 [0, 6, 8, 9, 10], tT 4 [0, 7, 8, 9, 10], tT 5 [0, 7, 8, 9, 10, 18], tT 6 [4], tT 7 [0, 8, 9, 10], tT 8 [4]]
def tl96 : List (Nat × Tidy) := [(2, ⟨[0, 8, 9, 10], true, [⟨false, 8, 0, 20008, 2⟩], []⟩)]
def rs96 : List AResV := [.tmp 4]
def p96_0_0 : PT St := pS [sl 0 (aV false [(cD (dI .i64))]), sl 8 (aV false [(cD dL)]), sl 9 (aV false [(cD (dI .i64))]), sl 10 (aV false [(cD (dI .i64))])] []
def u96_0_0 {β : Type} (g : St → β) : Int → Rows → Int → Int → β := p96_0_0.unc g
def p96_0_1 : PT St := pS [sl 4 (aV false [(cD (dI .i64))])] []
def u96_0_1 {β : Type} (g : St → β) : Int → β := p96_0_1.unc g
def p96_0_2 : PT St := pS [sl 0 (aV false [(cD (dI .i64))]), sl 8 (aV false [(cD dL)]), sl 9 (aV false [(cD (dI .i64))]), sl 10 (aV false [(cD (dI .i64))]), sl 11 (aV false [(cD dB)])] []
def u96_0_2 {β : Type} (g : St → β) : Int → Rows → Int → Int → Bool → β := p96_0_2.unc g
def pr96_0_0 : PT (List RV) := pRs [pR false [rD (dI .i64)]]
def ur96_0_0 {β : Type} (g : List RV → β) : Int → β := pr96_0_0.unc g
def E96_0g (vf125_0 : Tf125_0) : EnvK := EnvK.of [⟨125, nt125, [⟨pa125_0, Fn125_0 vf125_0⟩]⟩] noSeq
noncomputable def E96_0 : EnvK := E96_0g f125_0
theorem eo96_0 : E96_0.Ok Try.prog := EnvK.of_ok noSeq_ok ⟨⟨io125_0, trivial⟩, trivial⟩
noncomputable def c96_0_7g  : MCode := (.seq (.region r96_9 [] (tO [0, 8, 9, 10, 11])) (.seq (.cond (.tmp 11) .skip (.exit 0)) (.seq (.block 1 (.seq (.region r96_15 [] (tO [0, 6, 8, 9, 10])) (.seq (.region r96_17 [] (tO [0, 7, 8, 9, 10])) (.seq (.region r96_19 [] (tO [0, 7, 8, 9, 10, 18])) (.cond (.tmp 18) (.seq (.region r96_22 [] (tO [4])) .ret) .skip))))) (.region r96_23 [] (tO [0, 8, 9, 10])))))
noncomputable def c96_0_7 : MCode := c96_0_7g 
theorem g96_0_7 : c96_0_7.Good Try.prog E96_0 sh96 := ⟨trivial, ⟨⟨trivial, trivial⟩, ⟨⟨trivial, ⟨trivial, ⟨trivial, ⟨⟨trivial, trivial⟩, trivial⟩⟩⟩⟩, trivial⟩⟩⟩
--CODE 7 0
def S96_0_0g (vf125_0 : Tf125_0) (α : Type) (x3 : Int) (x4 : Rows) (x5 x6 : Int) (kn : Int → Option α) (k1 : Int → Option α) (k2 : Int → Bool → Option α) : Option α :=
 cK (decide (x6 < x5))
 (rowK x4 x6 [.int .i64, .int .i64]
 (fun x8 x9 => vf125_0 α x8 x9 x3
 (fun x10 => cK (x10 != 0)
 (k1 x10)
 (kn (w64 (x6 + 1))))))
 (k2 x6 (decide (x6 < x5)))
noncomputable def S96_0_0 (α : Type) (x3 : Int) (x4 : Rows) (x5 x6 : Int) (kn : Int → Option α) (k1 : Int → Option α) (k2 : Int → Bool → Option α) : Option α := S96_0_0g f125_0 α x3 x4 x5 x6 kn k1 k2
noncomputable def R96_0_0 (α : Type) (x3 : Int) (x4 : Rows) (x5 : Int) (k1 : Int → Option α) (k2 : Int → Bool → Option α) : Nat → Int → Option α
 | 0, _ => none
 | n + 1, x6 => S96_0_0 α x3 x4 x5 x6 (R96_0_0 α x3 x4 x5 k1 k2 n) k1 k2
noncomputable def L96_0_0 (α : Type) (x3 : Int) (x4 : Rows) (x5 : Int) (k1 : Int → Option α) (k2 : Int → Bool → Option α) (x6 : Int) : Option α := R96_0_0 α x3 x4 x5 k1 k2 fuel x6
abbrev TL96_0_0 : Type 1 := (α : Type) → Int → Rows → Int → (Int → Option α) → (Int → Bool → Option α) → Int → Option α
def F96_0_0 (v : TL96_0_0) (α : Type) (K : Exit → St → Option α) : Int → Rows → Int → Int → Option α := fun x3 x4 x5 x6 => v α x3 x4 x5 (fun (y1 : Int) => u96_0_1 (K .ret) y1) (fun (y1 : Int) (y2 : Bool) => u96_0_2 (K (.exit 0)) x3 x4 x5 y1 y2) x6
theorem r96_0_0g (vf125_0 : Tf125_0)  (α : Type) (K : Exit → St → Option α) (Kn : St → Option α) (x3 : Int) (x4 : Rows) (x5 x6 : Int) : u96_0_0 (fun σ => runM Try.prog (E96_0g vf125_0) sh96 (c96_0_7g ) (thenK (fun σ => tidyK td96_7 σ Kn) K) σ) x3 x4 x5 x6 = S96_0_0g vf125_0 α x3 x4 x5 x6 (fun x6 => u96_0_0 Kn x3 x4 x5 x6) (fun (y1 : Int) => u96_0_1 (K .ret) y1) (fun (y1 : Int) (y2 : Bool) => u96_0_2 (K (.exit 0)) x3 x4 x5 y1 y2) := by kernel_rfl
theorem r96_0_0 (α : Type) (K : Exit → St → Option α) (Kn : St → Option α) (x3 : Int) (x4 : Rows) (x5 x6 : Int) : u96_0_0 (fun σ => runM Try.prog E96_0 sh96 c96_0_7 (thenK (fun σ => tidyK td96_7 σ Kn) K) σ) x3 x4 x5 x6 = S96_0_0 α x3 x4 x5 x6 (fun x6 => u96_0_0 Kn x3 x4 x5 x6) (fun (y1 : Int) => u96_0_1 (K .ret) y1) (fun (y1 : Int) (y2 : Bool) => u96_0_2 (K (.exit 0)) x3 x4 x5 y1 y2) := r96_0_0g f125_0 α K Kn x3 x4 x5 x6
theorem t96_0_0 (α : Type) (K : Exit → St → Option α) : ∀ (n : Nat) (x3 : Int) (x4 : Rows) (x5 x6 : Int), R96_0_0 α x3 x4 x5 (fun (y1 : Int) => u96_0_1 (K .ret) y1) (fun (y1 : Int) (y2 : Bool) => u96_0_2 (K (.exit 0)) x3 x4 x5 y1 y2) n x6 = u96_0_0 (loopT (runM Try.prog E96_0 sh96 c96_0_7) td96_7 K n) x3 x4 x5 x6 := by
 intro n
 induction n with
 | zero => intros; rfl
 | succ n ih => intro x3 x4 x5 x6; exact (congrArg (fun kn => S96_0_0 α x3 x4 x5 x6 kn (fun (y1 : Int) => u96_0_1 (K .ret) y1) (fun (y1 : Int) (y2 : Bool) => u96_0_2 (K (.exit 0)) x3 x4 x5 y1 y2)) (funext fun x6 => ih x3 x4 x5 x6)).trans (r96_0_0 α K (loopT (runM Try.prog E96_0 sh96 c96_0_7) td96_7 K n) x3 x4 x5 x6).symm
theorem m96_0_0 : ∀ (α : Type) (K : Exit → St → Option α), F96_0_0 L96_0_0 α K = p96_0_0.unc fun σ => loopT (runM Try.prog E96_0 sh96 c96_0_7) td96_7 K fuel σ := fun α K => funext fun x3 => funext fun x4 => funext fun x5 => funext fun x6 => t96_0_0 α K fuel x3 x4 x5 x6
abbrev Tf96_0 : Type 1 := (α : Type) → Int → Rows → (Int → Option α) → Option α
def f96_0g (vL96_0_0 : TL96_0_0) (α : Type) (x1 : Int) (x2 : Rows) (k1 : Int → Option α) : Option α :=
 vL96_0_0 α x1 x2 ((List.length x2 : Nat) : Int)
 (fun x11 => k1 x11)
 (fun x12 x13 => k1 0) 0
noncomputable def f96_0 (α : Type) (x1 : Int) (x2 : Rows) (k1 : Int → Option α) : Option α := f96_0g L96_0_0 α x1 x2 k1
def pa96_0 : PT (List DV) := pA [pV false [(dI .i64)], pV false [dL]]
def Fn96_0 (v : Tf96_0) (α : Type) (k : List RV → Option α) : Int → Rows → Option α := fun x1 x2 => v α x1 x2 (fun (y1 : Int) => ur96_0_0 k y1)
noncomputable def cm96_0g (vL96_0_0 : TL96_0_0) : MCode := (.seq (.region r96_2 [] (tO [0, 1])) (.seq (.seq (.region r96_5 [] (tO [0, 8, 9, 10])) (.block 0 (.loop td96_7 [⟨p96_0_0, F96_0_0 vL96_0_0⟩] c96_0_7))) (.seq (.region r96_25 [] (tO [4])) .ret)))
noncomputable def cm96_0 : MCode := cm96_0g L96_0_0
theorem gm96_0 : cm96_0.Good Try.prog E96_0 sh96 := ⟨trivial, ⟨⟨trivial, ⟨g96_0_7, m96_0_0, trivial⟩⟩, ⟨trivial, trivial⟩⟩⟩
theorem fm96_0g (vf125_0 : Tf125_0) (vL96_0_0 : TL96_0_0) (α : Type) (k : List RV → Option α) : Fn96_0 (f96_0g vL96_0_0) α k = pa96_0.unc fun ds => fnM Try.prog (E96_0g vf125_0) sh96 (cm96_0g vL96_0_0) rs96 k ds := by kernel_rfl
theorem fm96_0 : ∀ (α : Type) (k : List RV → Option α), Fn96_0 f96_0 α k = pa96_0.unc fun ds => fnM Try.prog E96_0 sh96 cm96_0 rs96 k ds := fm96_0g f125_0 L96_0_0
theorem is96 : FnIs Try.prog 96 nt96 tr96 tl96 cm96_0.erase rs96 := ⟨Try.f96, Try.func96, rfl, by kernel_rfl, by kernel_rfl, by kernel_rfl⟩
theorem io96_0 : InstOk Try.prog 96 nt96 ⟨pa96_0, Fn96_0 f96_0⟩ := inst_ok eo96_0 followsTry is96 ⟨⟨sh96, cm96_0, by kernel_rfl, gm96_0, fm96_0⟩⟩
abbrev nt28 : Nat := 22
def sh28 : List (Nat × List Sh) := [(5, [.str]), (7, [.int .i64]), (9, [.int .i64, .int .i64]), (15, [.int .i64, .int .i64]), (17, [.int .i64, .int .i64]), (19, [.int .i64, .int .i64])]
def r28_2 : List AOper := [oO 1 (.box (.tmp 0)), oO 2 (.mv (kI 0))]
def r28_5 : List AOper := [oO 4 (.faddr 0 (.tmp 1)), oO 5 (.load false 1 (.tmp 4)), oO 6 (.faddr 1 (.tmp 1)), oO 7 (.load false 1 (.tmp 6)), oO 8 (.faddr 2 (.tmp 1)), oO 9 (.load true 2 (.tmp 8)), oO 10 (.call 83 [(.tmp 5), (.tmp 7), (.tmp 9)]), oM 3 10]
def r28_7 : List AOper := [oM 11 3, oO 12 (.bin .neq 28 (.tmp 11) (kI 0))]
def r28_10 : List AOper := [oM 13 3, oM 2 13]
def r28_12 : List AOper := [oO 14 (.faddr 4 (.tmp 1)), oO 15 (.load true 2 (.tmp 14)), oO 16 (.faddr 6 (.tmp 1)), oO 17 (.load true 2 (.tmp 16)), oO 18 (.faddr 8 (.tmp 1)), oO 19 (.load true 2 (.tmp 18)), oO 20 (.bslice 2 3 [(.v (.int .i64 0)), (.v (.int .i64 0))] [(0, (.tmp 15)), (1, (.tmp 17)), (2, (.tmp 19))]), oO 21 (.call 96 [(kI 1048576), (.tmp 20)]), oM 2 21]
def tr28 : List (Nat × Tidy) := [tT 0 [1], tT 1 [1, 3], tT 2 [1, 3, 12], tT 3 [2], tT 4 [2]]
def tl28 : List (Nat × Tidy) := []
def rs28 : List AResV := [.tmp 2]
def pr28_0_0 : PT (List RV) := pRs [pR false [rD (dI .i64)]]
def ur28_0_0 {β : Type} (g : List RV → β) : Int → β := pr28_0_0.unc g
def E28_0g (vf83_0 : Tf83_0) (vf96_0 : Tf96_0) : EnvK := EnvK.of [⟨83, nt83, [⟨pa83_0, Fn83_0 vf83_0⟩]⟩, ⟨96, nt96, [⟨pa96_0, Fn96_0 vf96_0⟩]⟩] noSeq
noncomputable def E28_0 : EnvK := E28_0g f83_0 f96_0
theorem eo28_0 : E28_0.Ok Try.prog := EnvK.of_ok noSeq_ok ⟨⟨io83_0, trivial⟩, ⟨io96_0, trivial⟩, trivial⟩
abbrev Tf28_0 : Type 1 := (α : Type) → ByteArray → Int → Int → Int → Int → Int → Int → Int → Int → Int → (Int → Option α) → Option α
def f28_0g (vf83_0 : Tf83_0) (vf96_0 : Tf96_0) (α : Type) (x1 : ByteArray) (x2 x3 x4 x5 x6 x7 x8 x9 x10 : Int) (k1 : Int → Option α) : Option α :=
 vf83_0 α x1 x2 x3 x4
 (fun x11 => cK (x11 != 0)
 (k1 x11)
 (vf96_0 α 1048576 [[DC.v (.int .i64 x5), DC.v (.int .i64 x6)], [DC.v (.int .i64 x7), DC.v (.int .i64 x8)], [DC.v (.int .i64 x9), DC.v (.int .i64 x10)]]
 (fun x12 => k1 x12)))
noncomputable def f28_0 (α : Type) (x1 : ByteArray) (x2 x3 x4 x5 x6 x7 x8 x9 x10 : Int) (k1 : Int → Option α) : Option α := f28_0g f83_0 f96_0 α x1 x2 x3 x4 x5 x6 x7 x8 x9 x10 k1
def pa28_0 : PT (List DV) := pA [pV true [dS, (dI .i64), (dI .i64), (dI .i64), (dI .i64), (dI .i64), (dI .i64), (dI .i64), (dI .i64), (dI .i64)]]
def Fn28_0 (v : Tf28_0) (α : Type) (k : List RV → Option α) : ByteArray → Int → Int → Int → Int → Int → Int → Int → Int → Int → Option α := fun x1 x2 x3 x4 x5 x6 x7 x8 x9 x10 => v α x1 x2 x3 x4 x5 x6 x7 x8 x9 x10 (fun (y1 : Int) => ur28_0_0 k y1)
noncomputable def cm28_0g  : MCode := (.seq (.region r28_2 [] (tO [1])) (.seq (.seq (.region r28_5 [] (tO [1, 3])) (.seq (.region r28_7 [] (tO [1, 3, 12])) (.cond (.tmp 12) (.seq (.region r28_10 [] (tO [2])) .ret) .skip))) (.seq (.region r28_12 [] (tO [2])) .ret)))
noncomputable def cm28_0 : MCode := cm28_0g 
theorem gm28_0 : cm28_0.Good Try.prog E28_0 sh28 := ⟨trivial, ⟨⟨trivial, ⟨trivial, ⟨⟨trivial, trivial⟩, trivial⟩⟩⟩, ⟨trivial, trivial⟩⟩⟩
theorem fm28_0g (vf83_0 : Tf83_0) (vf96_0 : Tf96_0)  (α : Type) (k : List RV → Option α) : Fn28_0 (f28_0g vf83_0 vf96_0) α k = pa28_0.unc fun ds => fnM Try.prog (E28_0g vf83_0 vf96_0) sh28 (cm28_0g ) rs28 k ds := by kernel_rfl
theorem fm28_0 : ∀ (α : Type) (k : List RV → Option α), Fn28_0 f28_0 α k = pa28_0.unc fun ds => fnM Try.prog E28_0 sh28 cm28_0 rs28 k ds := fm28_0g f83_0 f96_0
theorem is28 : FnIs Try.prog 28 nt28 tr28 tl28 cm28_0.erase rs28 := ⟨Try.f28, Try.func28, rfl, by kernel_rfl, by kernel_rfl, by kernel_rfl⟩
theorem io28_0 : InstOk Try.prog 28 nt28 ⟨pa28_0, Fn28_0 f28_0⟩ := inst_ok eo28_0 followsTry is28 ⟨⟨sh28, cm28_0, by kernel_rfl, gm28_0, fm28_0⟩⟩
abbrev nt48 : Nat := 39
def sh48 : List (Nat × List Sh) := [(9, [.str, .int .i64, .int .i64, .int .i64, .int .i64, .int .i64, .int .i64, .int .i64, .int .i64, .int .i64]), (19, [.int .i64]), (22, [.int .i64]), (27, [.int .i64]), (30, [.int .i64]), (33, [.bool]), (38, [.int .i64, .int .i64])]
def r48_2 : List AOper := [oO 1 (.box (.tmp 0)), oO 2 (.alloc [(cI 0), (cI 0)]), oO 3 (.mv (kI 0))]
def r48_5 : List AOper := [oO 9 (.load true 10 (.tmp 1)), oO 10 (.call 28 [(.tmp 9)]), oM 4 10]
def r48_7 : List AOper := [oM 11 4, oO 12 (.bin .neq 28 (.tmp 11) (kI 0))]
def r48_10 : List AOper := [oO 13 (.build [(cI 0), (cI 0)] []), oM 14 4, oD (.store 2 (.tmp 2) (.tmp 13)), oM 3 14]
def r48_12 : List AOper := [oO 15 (.build [(cI 0), (cI 0)] [(0, 1, (kI 0)), (1, 1, (kI 1024))]), oO 5 (.alloc [(cI 0), (cI 0)]), oD (.store 2 (.tmp 5) (.tmp 15))]
def r48_14 : List AOper := [oO 6 (.alloc [(.d (.v (.bool false)))]), oD (.store 1 (.tmp 6) (.const (.bool false)))]
def td48_17 : Option Tidy := (tO [1, 2, 3, 5, 6])
def r48_19 : List AOper := [oM 7 16]
def r48_20 : List AOper := [oO 8 (.alloc [(cI 0), (cI 0)]), oD (.store 2 (.tmp 8) (.tmp 17))]
def r48_24 : List AOper := [oO 18 (.faddr 0 (.tmp 8)), oO 19 (.load false 1 (.tmp 18)), oO 20 (.faddr 4 (.tmp 1)), oO 21 (.faddr 1 (.tmp 20)), oO 22 (.load false 1 (.tmp 21)), oO 23 (.bin .geq 3 (.tmp 19) (.tmp 22))]
def r48_26 : List AOper := [oM 24 7, oO 25 (.faddr 0 (.tmp 5)), oD (.store 1 (.tmp 25) (.tmp 24))]
def r48_28 : List AOper := [oO 26 (.faddr 1 (.tmp 8)), oO 27 (.load false 1 (.tmp 26)), oO 28 (.faddr 4 (.tmp 1)), oO 29 (.faddr 0 (.tmp 28)), oO 30 (.load false 1 (.tmp 29)), oO 31 (.bin .leq 3 (.tmp 27) (.tmp 30)), oM 32 31, oG 33 (.load false 1 (.tmp 6)) 32 true, oG 34 (.pure (oB (.unOp .not 4 (.tmp 33)) 4)) 32 true, oO 35 (.pick (.tmp 32) (.tmp 34) (.const (.bool false)))]
def r48_30 : List AOper := [oM 36 7, oO 37 (.faddr 1 (.tmp 5)), oD (.store 1 (.tmp 37) (.tmp 36)), oD (.store 1 (.tmp 6) (.const (.bool true)))]
def r48_32 : List AOper := [oO 38 (.load true 2 (.tmp 5)), oD (.store 2 (.tmp 2) (.tmp 38)), oO 3 (.mv (kI 0))]
def tr48 : List (Nat × Tidy) := [tT 0 [1, 2, 3], tT 1 [1, 2, 3, 4], tT 2 [1, 2, 3, 4, 12], tT 3 [2, 3], tT 4 [1, 2, 3, 5], tT 5 [1, 2, 3, 5, 6], tT 6 [1, 2, 3, 5, 6, 7, 17], tT 7 [1, 2, 3, 5, 6, 7, 8], tT 8 [1, 2, 3, 5, 6, 7, 8, 23], tT 9 [1, 2, 3, 5, 6, 7, 8], tT 10 [1, 2, 3, 5, 6, 7, 35], tT 11 [1, 2, 3, 5, 6], tT 12 [2, 3]]
def tl48 : List (Nat × Tidy) := [tT 8 [1, 2, 3, 5, 6]]
def rs48 : List AResV := [.cell 2 true 2, .tmp 3]
def p48_0_0 : PT St := pS [sl 1 (aV false [(cPtr 1 0)]), sl 2 (aV false [(cPtr 2 0)]), sl 3 (aV false [(cD (dI .i64))]), sl 5 (aV false [(cPtr 5 0)]), sl 6 (aV false [(cPtr 6 0)])] [eBox 1 [(cD dS), (cD (dI .i64)), (cD (dI .i64)), (cD (dI .i64)), (cD (dI .i64)), (cD (dI .i64)), (cD (dI .i64)), (cD (dI .i64)), (cD (dI .i64)), (cD (dI .i64))], eBox 2 [(cD (dI .i64)), (cD (dI .i64))], eBox 5 [(cD (dI .i64)), (cD (dI .i64))], eBox 6 [(cD dB)]]
def u48_0_0 {β : Type} (g : St → β) : Int → ByteArray → Int → Int → Int → Int → Int → Int → Int → Int → Int → Int → Int → Int → Int → Bool → β := p48_0_0.unc g
def pr48_0_0 : PT (List RV) := pRs [pR true [rD (dI .i64), rD (dI .i64)], pR false [rD (dI .i64)]]
def ur48_0_0 {β : Type} (g : List RV → β) : Int → Int → Int → β := pr48_0_0.unc g
def E48_0g (vf28_0 : Tf28_0) (vq102 : Tq102) : EnvK := EnvK.of [⟨28, nt28, [⟨pa28_0, Fn28_0 vf28_0⟩]⟩] (seqE [⟨102, pq102, vq102⟩])
noncomputable def E48_0 : EnvK := E48_0g f28_0 q102
theorem eo48_0 : E48_0.Ok Try.prog := EnvK.of_ok (seqE_ok (l := [⟨102, pq102, q102⟩]) ⟨sqok102, trivial⟩) ⟨⟨io28_0, trivial⟩, trivial⟩
noncomputable def ca48_0_17 : MCode := (.seq (.region r48_19 [] (tO [1, 2, 3, 5, 6, 7, 17])) (.region r48_20 [] (tO [1, 2, 3, 5, 6, 7, 8])))
theorem ga48_0_17 : ca48_0_17.Good Try.prog E48_0 sh48 := ⟨trivial, trivial⟩
noncomputable def c48_0_17g  : MCode := (.block 1 (.seq (.seq (.region r48_24 [] (tO [1, 2, 3, 5, 6, 7, 8, 23])) (.cond (.tmp 23) (.region r48_26 [] (tO [1, 2, 3, 5, 6, 7, 8])) .skip)) (.seq (.region r48_28 [] (tO [1, 2, 3, 5, 6, 7, 35])) (.cond (.tmp 35) (.region r48_30 [] (tO [1, 2, 3, 5, 6])) .skip))))
noncomputable def c48_0_17 : MCode := c48_0_17g 
theorem g48_0_17 : c48_0_17.Good Try.prog E48_0 sh48 := ⟨⟨trivial, ⟨trivial, trivial⟩⟩, ⟨trivial, ⟨trivial, trivial⟩⟩⟩
--CODE 17 0
def S48_0_0g  (α : Type) (x17 x18 : Int) (y28 : Int × Int × Int) (x25 x26 : Int) (x27 : Bool) (kn : Int → Int → Bool → Option α) (k1 : Int → Int → Bool → Option α) : Option α :=
 cK (decide (x18 ≤ y28.2.1))
 (cK (decide (y28.2.2 ≤ x17))
 (cK (!x27)
 (kn y28.1 y28.1 true)
 (kn y28.1 x26 x27))
 (kn y28.1 x26 x27))
 (cK (decide (y28.2.2 ≤ x17))
 (cK (!x27)
 (kn x25 y28.1 true)
 (kn x25 x26 x27))
 (kn x25 x26 x27))
noncomputable def S48_0_0 (α : Type) (x17 x18 : Int) (y28 : Int × Int × Int) (x25 x26 : Int) (x27 : Bool) (kn : Int → Int → Bool → Option α) (k1 : Int → Int → Bool → Option α) : Option α := S48_0_0g  α x17 x18 y28 x25 x26 x27 kn k1
noncomputable def V48_0_0 (α : Type) (x17 x18 : Int) (k1 : Int → Int → Bool → Option α) : List (Int × Int × Int) → Int → Int → Bool → Option α
 | [], x25, x26, x27 => k1 x25 x26 x27
 | y28 :: ys, x25, x26, x27 => S48_0_0 α x17 x18 y28 x25 x26 x27 (V48_0_0 α x17 x18 k1 ys) k1
abbrev TV48_0_0 : Type 1 := (α : Type) → Int → Int → (Int → Int → Bool → Option α) → List (Int × Int × Int) → Int → Int → Bool → Option α
def F48_0_0 (v : TV48_0_0) (α : Type) (K : Exit → St → Option α) (ys : List (Int × Int × Int)) : Int → ByteArray → Int → Int → Int → Int → Int → Int → Int → Int → Int → Int → Int → Int → Int → Bool → Option α := fun x12 x13 x14 x15 x16 x17 x18 x19 x20 x21 x22 x23 x24 x25 x26 x27 => v α x17 x18 (fun (y1 : Int) (y2 : Int) (y3 : Bool) => u48_0_0 (K .normal) x12 x13 x14 x15 x16 x17 x18 x19 x20 x21 x22 x23 x24 y1 y2 y3) ys x25 x26 x27
theorem r48_0_0g (vf28_0 : Tf28_0) (vq102 : Tq102)  (α : Type) (K : Exit → St → Option α) (Kn : St → Option α) (y28 : Int × Int × Int) (x12 : Int) (x13 : ByteArray) (x14 x15 x16 x17 x18 x19 x20 x21 x22 x23 x24 x25 x26 : Int) (x27 : Bool) : u48_0_0 (fun σ => roundT (runM Try.prog (E48_0g vf28_0 vq102) sh48 ca48_0_17) (runM Try.prog (E48_0g vf28_0 vq102) sh48 c48_0_17) [16, 17] td48_17 Kn K (xIP.ex y28) σ) x12 x13 x14 x15 x16 x17 x18 x19 x20 x21 x22 x23 x24 x25 x26 x27 = S48_0_0g  α x17 x18 y28 x25 x26 x27 (fun x25 x26 x27 => u48_0_0 Kn x12 x13 x14 x15 x16 x17 x18 x19 x20 x21 x22 x23 x24 x25 x26 x27) (fun (y1 : Int) (y2 : Int) (y3 : Bool) => u48_0_0 (K .normal) x12 x13 x14 x15 x16 x17 x18 x19 x20 x21 x22 x23 x24 y1 y2 y3) := by kernel_rfl
theorem r48_0_0 (α : Type) (K : Exit → St → Option α) (Kn : St → Option α) (y28 : Int × Int × Int) (x12 : Int) (x13 : ByteArray) (x14 x15 x16 x17 x18 x19 x20 x21 x22 x23 x24 x25 x26 : Int) (x27 : Bool) : u48_0_0 (fun σ => roundT (runM Try.prog E48_0 sh48 ca48_0_17) (runM Try.prog E48_0 sh48 c48_0_17) [16, 17] td48_17 Kn K (xIP.ex y28) σ) x12 x13 x14 x15 x16 x17 x18 x19 x20 x21 x22 x23 x24 x25 x26 x27 = S48_0_0 α x17 x18 y28 x25 x26 x27 (fun x25 x26 x27 => u48_0_0 Kn x12 x13 x14 x15 x16 x17 x18 x19 x20 x21 x22 x23 x24 x25 x26 x27) (fun (y1 : Int) (y2 : Int) (y3 : Bool) => u48_0_0 (K .normal) x12 x13 x14 x15 x16 x17 x18 x19 x20 x21 x22 x23 x24 y1 y2 y3) := r48_0_0g f28_0 q102 α K Kn y28 x12 x13 x14 x15 x16 x17 x18 x19 x20 x21 x22 x23 x24 x25 x26 x27
theorem t48_0_0 (α : Type) (K : Exit → St → Option α) : ∀ (ys : List (Int × Int × Int)) (x12 : Int) (x13 : ByteArray) (x14 x15 x16 x17 x18 x19 x20 x21 x22 x23 x24 x25 x26 : Int) (x27 : Bool), V48_0_0 α x17 x18 (fun (y1 : Int) (y2 : Int) (y3 : Bool) => u48_0_0 (K .normal) x12 x13 x14 x15 x16 x17 x18 x19 x20 x21 x22 x23 x24 y1 y2 y3) ys x25 x26 x27 = u48_0_0 (roundsK (runM Try.prog E48_0 sh48 ca48_0_17) (runM Try.prog E48_0 sh48 c48_0_17) [16, 17] td48_17 K (ys.map xIP.ex)) x12 x13 x14 x15 x16 x17 x18 x19 x20 x21 x22 x23 x24 x25 x26 x27 := by
 intro ys
 induction ys with
 | nil => intros; rfl
 | cons y28 ys ih => intro x12 x13 x14 x15 x16 x17 x18 x19 x20 x21 x22 x23 x24 x25 x26 x27; exact (congrArg (fun kn => S48_0_0 α x17 x18 y28 x25 x26 x27 kn (fun (y1 : Int) (y2 : Int) (y3 : Bool) => u48_0_0 (K .normal) x12 x13 x14 x15 x16 x17 x18 x19 x20 x21 x22 x23 x24 y1 y2 y3)) (funext fun x25 => funext fun x26 => funext fun x27 => ih x12 x13 x14 x15 x16 x17 x18 x19 x20 x21 x22 x23 x24 x25 x26 x27)).trans (r48_0_0 α K (roundsK (runM Try.prog E48_0 sh48 ca48_0_17) (runM Try.prog E48_0 sh48 c48_0_17) [16, 17] td48_17 K (ys.map xIP.ex)) y28 x12 x13 x14 x15 x16 x17 x18 x19 x20 x21 x22 x23 x24 x25 x26 x27).symm
theorem m48_0_0 : ∀ (α : Type) (K : Exit → St → Option α) (ys : List (Int × Int × Int)), F48_0_0 V48_0_0 α K ys = p48_0_0.unc fun σ => roundsK (runM Try.prog E48_0 sh48 ca48_0_17) (runM Try.prog E48_0 sh48 c48_0_17) [16, 17] td48_17 K (ys.map xIP.ex) σ := fun α K ys => funext fun x12 => funext fun x13 => funext fun x14 => funext fun x15 => funext fun x16 => funext fun x17 => funext fun x18 => funext fun x19 => funext fun x20 => funext fun x21 => funext fun x22 => funext fun x23 => funext fun x24 => funext fun x25 => funext fun x26 => funext fun x27 => t48_0_0 α K ys x12 x13 x14 x15 x16 x17 x18 x19 x20 x21 x22 x23 x24 x25 x26 x27
abbrev Tf48_0 : Type 1 := (α : Type) → ByteArray → Int → Int → Int → Int → Int → Int → Int → Int → Int → (Int → Int → Int → Option α) → Option α
def f48_0g (vV48_0_0 : TV48_0_0) (vf28_0 : Tf28_0) (vq102 : Tq102) (α : Type) (x1 : ByteArray) (x2 x3 x4 x5 x6 x7 x8 x9 x10 : Int) (k1 : Int → Int → Int → Option α) : Option α :=
 vf28_0 α x1 x2 x3 x4 x5 x6 x7 x8 x9 x10
 (fun x11 => cK (x11 != 0)
 (k1 0 0 x11)
 (qK vq102 xIP fun y32 => vV48_0_0 α x5 x6
 (fun x29 x30 x31 => k1 x29 x30 0) y32 0 1024 false))
noncomputable def f48_0 (α : Type) (x1 : ByteArray) (x2 x3 x4 x5 x6 x7 x8 x9 x10 : Int) (k1 : Int → Int → Int → Option α) : Option α := f48_0g V48_0_0 f28_0 q102 α x1 x2 x3 x4 x5 x6 x7 x8 x9 x10 k1
def pa48_0 : PT (List DV) := pA [pV true [dS, (dI .i64), (dI .i64), (dI .i64), (dI .i64), (dI .i64), (dI .i64), (dI .i64), (dI .i64), (dI .i64)]]
def Fn48_0 (v : Tf48_0) (α : Type) (k : List RV → Option α) : ByteArray → Int → Int → Int → Int → Int → Int → Int → Int → Int → Option α := fun x1 x2 x3 x4 x5 x6 x7 x8 x9 x10 => v α x1 x2 x3 x4 x5 x6 x7 x8 x9 x10 (fun (y1 : Int) (y2 : Int) (y3 : Int) => ur48_0_0 k y1 y2 y3)
noncomputable def cm48_0g (vV48_0_0 : TV48_0_0) : MCode := (.seq (.region r48_2 [] (tO [1, 2, 3])) (.seq (.seq (.region r48_5 [] (tO [1, 2, 3, 4])) (.seq (.region r48_7 [] (tO [1, 2, 3, 4, 12])) (.cond (.tmp 12) (.seq (.region r48_10 [] (tO [2, 3])) .ret) .skip))) (.seq (.region r48_12 [] (tO [1, 2, 3, 5])) (.seq (.region r48_14 [] (tO [1, 2, 3, 5, 6])) (.seq (.block 0 (.rangeF (.func 102) [16, 17] td48_17 [⟨xIP, p48_0_0, F48_0_0 vV48_0_0⟩] ca48_0_17 c48_0_17)) (.seq (.region r48_32 [] (tO [2, 3])) .ret))))))
noncomputable def cm48_0 : MCode := cm48_0g V48_0_0
theorem gm48_0 : cm48_0.Good Try.prog E48_0 sh48 := ⟨trivial, ⟨⟨trivial, ⟨trivial, ⟨⟨trivial, trivial⟩, trivial⟩⟩⟩, ⟨trivial, ⟨trivial, ⟨⟨⟨ga48_0_17, g48_0_17⟩, m48_0_0, trivial⟩, ⟨trivial, trivial⟩⟩⟩⟩⟩⟩
theorem fm48_0g (vf28_0 : Tf28_0) (vq102 : Tq102) (vV48_0_0 : TV48_0_0) (α : Type) (k : List RV → Option α) : Fn48_0 (f48_0g vV48_0_0 vf28_0 vq102) α k = pa48_0.unc fun ds => fnM Try.prog (E48_0g vf28_0 vq102) sh48 (cm48_0g vV48_0_0) rs48 k ds := by kernel_rfl
theorem fm48_0 : ∀ (α : Type) (k : List RV → Option α), Fn48_0 f48_0 α k = pa48_0.unc fun ds => fnM Try.prog E48_0 sh48 cm48_0 rs48 k ds := fm48_0g f28_0 q102 V48_0_0
theorem is48 : FnIs Try.prog 48 nt48 tr48 tl48 cm48_0.erase rs48 := ⟨Try.f48, Try.func48, rfl, by kernel_rfl, by kernel_rfl, by kernel_rfl⟩
theorem io48_0 : InstOk Try.prog 48 nt48 ⟨pa48_0, Fn48_0 f48_0⟩ := inst_ok eo48_0 followsTry is48 ⟨⟨sh48, cm48_0, by kernel_rfl, gm48_0, fm48_0⟩⟩
end Go.AM.K
