/- Printed by KGen. -/
import Derived.Test.YtjifpcjmnhnpkaaKTu
import Derived.Test.YtjifpcjmnhnpkaaMC1
namespace Go.AM.K
open Go.Proofs
set_option maxRecDepth 100000
set_option linter.unusedVariables false
abbrev nt78 : Nat := 23
def sh78 : List (Nat × List Sh) := []
def r78_2 : List AOper := [oO 4 (.mv (kI 0))]
def r78_4 : List AOper := [oM 6 0, oM 7 1, oO 8 (.bin .quo 3 (.tmp 6) (.tmp 7)), oM 5 8]
def r78_7 : List AOper := [oM 9 0, oM 10 1, oO 11 (.bin .rem 3 (.tmp 9) (.tmp 10)), oO 12 (.bin .neq 3 (.tmp 11) (kI 0)), oM 13 12, oG 14 (.mv (.tmp 0)) 13 true, oG 15 (.bin .lss 3 (.tmp 14) (kI 0)) 13 true, oG 16 (.mv (.tmp 1)) 13 true, oG 17 (.bin .lss 3 (.tmp 16) (kI 0)) 13 true, oG 18 (.bin .neq 4 (.tmp 15) (.tmp 17)) 13 true, oO 19 (.pick (.tmp 13) (.tmp 18) (.const (.bool false)))]
def r78_9 : List AOper := [oM 20 5, oO 21 (.bin .sub 3 (.tmp 20) (kI 1)), oM 5 21]
def r78_11 : List AOper := [oM 22 5, oM 4 22]
def tr78 : List (Nat × Tidy) := [tT 0 [0, 1], tT 1 [0, 1, 5], tT 2 [5, 19], tT 3 [5], tT 4 [4]]
def tl78 : List (Nat × Tidy) := []
def rs78 : List AResV := [.tmp 4]
def pr78_0_0 : PT (List RV) := pRs [pR false [rD (dI .i64)]]
def ur78_0_0 {β : Type} (g : List RV → β) : Int → β := pr78_0_0.unc g
def E78_0g  : EnvK := EnvK.of [] noSeq
noncomputable def E78_0 : EnvK := E78_0g 
theorem eo78_0 : E78_0.Ok Try.prog := EnvK.of_ok noSeq_ok trivial
abbrev Tf78_0 : Type 1 := (α : Type) → Int → Int → (Int → Option α) → Option α
def f78_0g  (α : Type) (x1 x2 : Int) (k1 : Int → Option α) : Option α :=
 gK (x2 != 0) (gK (x2 != 0) (cK ((Int.tmod x1 x2) != 0)
 (cK (!((decide (x1 < 0)) == (decide (x2 < 0))))
 (k1 (w64 ((w64 (Int.tdiv x1 x2)) - 1)))
 (k1 (w64 (Int.tdiv x1 x2))))
 (k1 (w64 (Int.tdiv x1 x2)))))
noncomputable def f78_0 (α : Type) (x1 x2 : Int) (k1 : Int → Option α) : Option α := f78_0g  α x1 x2 k1
def pa78_0 : PT (List DV) := pA [pV false [(dI .i64)], pV false [(dI .i64)]]
def Fn78_0 (v : Tf78_0) (α : Type) (k : List RV → Option α) : Int → Int → Option α := fun x1 x2 => v α x1 x2 (fun (y1 : Int) => ur78_0_0 k y1)
noncomputable def cm78_0g  : MCode := (.seq (.region r78_2 [] (tO [0, 1])) (.seq (.region r78_4 [] (tO [0, 1, 5])) (.seq (.seq (.region r78_7 [] (tO [5, 19])) (.cond (.tmp 19) (.region r78_9 [] (tO [5])) .skip)) (.seq (.region r78_11 [] (tO [4])) .ret))))
noncomputable def cm78_0 : MCode := cm78_0g 
theorem gm78_0 : cm78_0.Good Try.prog E78_0 sh78 := ⟨trivial, ⟨trivial, ⟨⟨trivial, ⟨trivial, trivial⟩⟩, ⟨trivial, trivial⟩⟩⟩⟩
theorem fm78_0g   (α : Type) (k : List RV → Option α) : Fn78_0 (f78_0g ) α k = pa78_0.unc fun ds => fnM Try.prog (E78_0g ) sh78 (cm78_0g ) rs78 k ds := by kernel_rfl
theorem fm78_0 : ∀ (α : Type) (k : List RV → Option α), Fn78_0 f78_0 α k = pa78_0.unc fun ds => fnM Try.prog E78_0 sh78 cm78_0 rs78 k ds := fm78_0g 
theorem is78 : FnIs Try.prog 78 nt78 tr78 tl78 cm78_0.erase rs78 := ⟨Try.f78, Try.func78, rfl, by kernel_rfl, by kernel_rfl, by kernel_rfl⟩
theorem io78_0 : InstOk Try.prog 78 nt78 ⟨pa78_0, Fn78_0 f78_0⟩ := inst_ok eo78_0 followsTry is78 ⟨⟨sh78, cm78_0, by kernel_rfl, gm78_0, fm78_0⟩⟩
abbrev nt107 : Nat := 70
def sh107 : List (Nat × List Sh) := [(16, [.flt .f64, .flt .f64]), (46, [.flt .f64, .flt .f64]), (64, [.flt .f64]), (67, [.flt .f64])]
def r107_2 : List AOper := [oO 4 (.alloc [(cI 0), (cI 0)]), oO 5 (.mv (kI 0))]
def r107_4 : List AOper := [oM 11 0, oO 12 (.pure (oB (.call { callee := .builtin .real, args := #[(.tmp 11)], argTypes := #[26] }) 112)), oM 13 0, oO 14 (.pure (oB (.call { callee := .builtin .imag, args := #[(.tmp 13)], argTypes := #[26] }) 112)), oO 15 (.build [(.d (.v (.float Go.FloatKind.f64 0))), (.d (.v (.float Go.FloatKind.f64 0)))] [(0, 1, (.tmp 12)), (1, 1, (.tmp 14))]), oO 6 (.alloc [(.d (.v (.float Go.FloatKind.f64 0))), (.d (.v (.float Go.FloatKind.f64 0)))]), oD (.store 2 (.tmp 6) (.tmp 15))]
def r107_7 : List AOper := [oO 16 (.load true 2 (.tmp 6)), oO 17 (.mv (kI 0))]
def td107_9 : Option Tidy := (tO [1, 4, 6, 16, 17])
def r107_11 : List AOper := [oO 18 (.bin .lss 3 (.tmp 17) (kI 2))]
def r107_17 : List AOper := [oO 19 (.index false 2 1 (.tmp 16) (.tmp 17)), oM 8 19]
def r107_19 : List AOper := [oM 20 8, oM 21 8, oO 22 (.bin .neq 112 (.tmp 20) (.tmp 21)), oM 23 22, oG 24 (.mv (.tmp 8)) 23 false, oG 25 (.mv (.tmp 8)) 23 false, oG 26 (.bin .sub 112 (.tmp 24) (.tmp 25)) 23 false, oG 27 (.bin .neq 112 (.tmp 26) (.const (.float Go.FloatKind.f64 0))) 23 false, oO 28 (.pick (.tmp 23) (.const (.bool true)) (.tmp 27)), oM 29 28, oG 30 (.mv (.tmp 8)) 29 false, oG 31 (.bin .lss 112 (.tmp 30) (.const (.float Go.FloatKind.f64 4845873199050653696))) 29 false, oG 32 (.mv (.tmp 31)) 29 false, oG 33 (.mv (.tmp 8)) 32 true, oG 34 (.bin .gtr 112 (.tmp 33) (.const (.float Go.FloatKind.f64 14069245235905429504))) 32 true, oG 35 (.pick (.tmp 32) (.tmp 34) (.const (.bool false))) 29 false, oG 36 (.mv (.tmp 35)) 29 false, oG 37 (.mv (.tmp 8)) 36 true, oG 38 (.pure (oB (.convert 112 3 (.tmp 37)) 3)) 36 true, oG 39 (.pure (oB (.convert 3 112 (.tmp 38)) 112)) 36 true, oG 40 (.mv (.tmp 8)) 36 true, oG 41 (.bin .neq 112 (.tmp 39) (.tmp 40)) 36 true, oG 42 (.pick (.tmp 36) (.tmp 41) (.const (.bool false))) 29 false, oO 43 (.pick (.tmp 29) (.const (.bool true)) (.tmp 42))]
def r107_22 : List AOper := [oO 44 (.build [(cI 0), (cI 0)] []), oD (.store 2 (.tmp 4) (.tmp 44)), oO 5 (.mv (kI 27))]
def r107_23 : List AOper := [oO 45 (.bin .add 3 (.tmp 17) (kI 1)), oM 17 45]
def r107_26 : List AOper := [oO 46 (.load true 2 (.tmp 6)), oO 47 (.mv (kI 0))]
def td107_28 : Option Tidy := (tO [1, 4, 6, 46, 47])
def r107_30 : List AOper := [oO 48 (.bin .lss 3 (.tmp 47) (kI 2))]
def r107_36 : List AOper := [oO 49 (.index false 2 1 (.tmp 46) (.tmp 47)), oM 10 49]
def r107_38 : List AOper := [oM 50 10, oM 51 1, oO 52 (.pure (oB (.convert 3 112 (.tmp 51)) 112)), oO 53 (.bin .gtr 112 (.tmp 50) (.tmp 52)), oM 54 53, oG 55 (.mv (.tmp 10)) 54 false, oG 56 (.mv (.tmp 1)) 54 false, oG 57 (.pure (oB (.convert 3 112 (.tmp 56)) 112)) 54 false, oG 58 (.pure (oB (.unOp .neg 112 (.tmp 57)) 112)) 54 false, oG 59 (.bin .lss 112 (.tmp 55) (.tmp 58)) 54 false, oO 60 (.pick (.tmp 54) (.const (.bool true)) (.tmp 59))]
def r107_41 : List AOper := [oO 61 (.build [(cI 0), (cI 0)] []), oD (.store 2 (.tmp 4) (.tmp 61)), oO 5 (.mv (kI 2))]
def r107_42 : List AOper := [oO 62 (.bin .add 3 (.tmp 47) (kI 1)), oM 47 62]
def r107_44 : List AOper := [oO 63 (.iaddr 1 (some 2) (.tmp 6) (kI 0)), oO 64 (.load false 1 (.tmp 63)), oO 65 (.pure (oB (.convert 112 3 (.tmp 64)) 3)), oO 66 (.iaddr 1 (some 2) (.tmp 6) (kI 1)), oO 67 (.load false 1 (.tmp 66)), oO 68 (.pure (oB (.convert 112 3 (.tmp 67)) 3)), oO 69 (.build [(cI 0), (cI 0)] [(0, 1, (.tmp 65)), (1, 1, (.tmp 68))]), oD (.store 2 (.tmp 4) (.tmp 69)), oO 5 (.mv (kI 0))]
def tr107 : List (Nat × Tidy) := [tT 0 [0, 1, 4], tT 1 [1, 4, 6], tT 2 [1, 4, 6, 16, 17], tT 3 [1, 4, 6, 16, 17, 18], tT 4 [1, 4, 6, 8, 16, 17], tT 5 [1, 4, 6, 16, 17, 43], tT 6 [4, 5], tT 7 [1, 4, 6, 16, 17], tT 8 [1, 4, 6, 46, 47], tT 9 [1, 4, 6, 46, 47, 48], tT 10 [1, 4, 6, 10, 46, 47], tT 11 [1, 4, 6, 46, 47, 60], tT 12 [4, 5], tT 13 [1, 4, 6, 46, 47], tT 14 [4, 5]]
def tl107 : List (Nat × Tidy) := [tT 3 [1, 4, 6, 16, 17], tT 9 [1, 4, 6, 46, 47]]
def rs107 : List AResV := [.cell 4 true 2, .tmp 5]
def p107_0_0 : PT St := pS [sl 1 (aV false [(cD (dI .i64))]), sl 4 (aV false [(cPtr 4 0)]), sl 6 (aV false [(cPtr 6 0)]), sl 16 (aV true [(cD (dF .f64)), (cD (dF .f64))]), sl 17 (aV false [(cD (dI .i64))]), sl 18 (aV false [(cD dB)])] [eBox 4 [(cD (dI .i64)), (cD (dI .i64))], eBox 6 [(cD (dF .f64)), (cD (dF .f64))]]
def u107_0_0 {β : Type} (g : St → β) : Int → Nat → Nat → Int → Bool → Int → Int → Nat → Nat → β := p107_0_0.unc g
def p107_0_1 : PT St := pS [sl 1 (aV false [(cD (dI .i64))]), sl 4 (aV false [(cPtr 4 0)]), sl 6 (aV false [(cPtr 6 0)]), sl 8 (aV false [(cD (dF .f64))]), sl 16 (aV true [(cD (dF .f64)), (cD (dF .f64))]), sl 17 (aV false [(cD (dI .i64))])] [eBox 4 [(cD (dI .i64)), (cD (dI .i64))], eBox 6 [(cD (dF .f64)), (cD (dF .f64))]]
def u107_0_1 {β : Type} (g : St → β) : Int → Nat → Nat → Nat → Int → Int → Int → Nat → Nat → β := p107_0_1.unc g
def p107_0_2 : PT St := pS [sl 1 (aV false [(cD (dI .i64))]), sl 4 (aV false [(cPtr 4 0)]), sl 6 (aV false [(cPtr 6 0)]), sl 16 (aV true [(cD (dF .f64)), (cD (dF .f64))]), sl 17 (aV false [(cD (dI .i64))]), sl 43 (aV false [(cD dB)])] [eBox 4 [(cD (dI .i64)), (cD (dI .i64))], eBox 6 [(cD (dF .f64)), (cD (dF .f64))]]
def u107_0_2 {β : Type} (g : St → β) : Int → Nat → Nat → Int → Bool → Int → Int → Nat → Nat → β := p107_0_2.unc g
def p107_0_3 : PT St := pS [sl 1 (aV false [(cD (dI .i64))]), sl 4 (aV false [(cPtr 4 0)]), sl 6 (aV false [(cPtr 6 0)]), sl 16 (aV true [(cD (dF .f64)), (cD (dF .f64))]), sl 17 (aV false [(cD (dI .i64))])] [eBox 4 [(cD (dI .i64)), (cD (dI .i64))], eBox 6 [(cD (dF .f64)), (cD (dF .f64))]]
def u107_0_3 {β : Type} (g : St → β) : Int → Nat → Nat → Int → Int → Int → Nat → Nat → β := p107_0_3.unc g
def p107_0_4 : PT St := pS [sl 4 (aV false [(cPtr 4 0)]), sl 5 (aV false [(cD (dI .i64))])] [eBox 4 [(cD (dI .i64)), (cD (dI .i64))]]
def u107_0_4 {β : Type} (g : St → β) : Int → Int → Int → β := p107_0_4.unc g
def p107_0_5 : PT St := pS [sl 1 (aV false [(cD (dI .i64))]), sl 4 (aV false [(cPtr 4 0)]), sl 6 (aV false [(cPtr 6 0)]), sl 46 (aV true [(cD (dF .f64)), (cD (dF .f64))]), sl 47 (aV false [(cD (dI .i64))]), sl 48 (aV false [(cD dB)])] [eBox 4 [(cD (dI .i64)), (cD (dI .i64))], eBox 6 [(cD (dF .f64)), (cD (dF .f64))]]
def u107_0_5 {β : Type} (g : St → β) : Int → Nat → Nat → Int → Bool → Int → Int → Nat → Nat → β := p107_0_5.unc g
def p107_0_6 : PT St := pS [sl 1 (aV false [(cD (dI .i64))]), sl 4 (aV false [(cPtr 4 0)]), sl 6 (aV false [(cPtr 6 0)]), sl 10 (aV false [(cD (dF .f64))]), sl 46 (aV true [(cD (dF .f64)), (cD (dF .f64))]), sl 47 (aV false [(cD (dI .i64))])] [eBox 4 [(cD (dI .i64)), (cD (dI .i64))], eBox 6 [(cD (dF .f64)), (cD (dF .f64))]]
def u107_0_6 {β : Type} (g : St → β) : Int → Nat → Nat → Nat → Int → Int → Int → Nat → Nat → β := p107_0_6.unc g
def p107_0_7 : PT St := pS [sl 1 (aV false [(cD (dI .i64))]), sl 4 (aV false [(cPtr 4 0)]), sl 6 (aV false [(cPtr 6 0)]), sl 46 (aV true [(cD (dF .f64)), (cD (dF .f64))]), sl 47 (aV false [(cD (dI .i64))])] [eBox 4 [(cD (dI .i64)), (cD (dI .i64))], eBox 6 [(cD (dF .f64)), (cD (dF .f64))]]
def u107_0_7 {β : Type} (g : St → β) : Int → Nat → Nat → Int → Int → Int → Nat → Nat → β := p107_0_7.unc g
def pr107_0_0 : PT (List RV) := pRs [pR true [rD (dI .i64), rD (dI .i64)], pR false [rD (dI .i64)]]
def ur107_0_0 {β : Type} (g : List RV → β) : Int → Int → Int → β := pr107_0_0.unc g
def E107_0g  : EnvK := EnvK.of [] noSeq
noncomputable def E107_0 : EnvK := E107_0g 
theorem eo107_0 : E107_0.Ok Try.prog := EnvK.of_ok noSeq_ok trivial
noncomputable def c107_0_35g  : MCode := (.region r107_36 [] (tO [1, 4, 6, 10, 46, 47]))
noncomputable def c107_0_35 : MCode := c107_0_35g 
theorem g107_0_35 : c107_0_35.Good Try.prog E107_0 sh107 := trivial
--CODE 35 0
abbrev TJ107_0_3 : Type 1 := (α : Type) → Nat → Nat → Int → (Nat → Option α) → Option α
def J107_0_3g  (α : Type) (x52 x53 : Nat) (x54 : Int) (k1 : Nat → Option α) : Option α :=
 cK (x54 == 1)
 (k1 x53)
 (cK (x54 == 0)
 (k1 x52)
 (none))
noncomputable def J107_0_3 (α : Type) (x52 x53 : Nat) (x54 : Int) (k1 : Nat → Option α) : Option α := J107_0_3g  α x52 x53 x54 k1
def F107_0_3 (v : TJ107_0_3) (α : Type) (K : Exit → St → Option α) : Int → Nat → Nat → Int → Bool → Int → Int → Nat → Nat → Option α := fun x51 x52 x53 x54 x55 x56 x57 x58 x59 => v α x52 x53 x54 (fun (y1 : Nat) => u107_0_6 (K .normal) x51 y1 x52 x53 x54 x56 x57 x58 x59) 
theorem m107_0_3g   (α : Type) (K : Exit → St → Option α) : F107_0_3 (J107_0_3g ) α K = p107_0_5.unc fun σ => runM Try.prog (E107_0g ) sh107 (c107_0_35g ) K σ := by kernel_rfl
theorem m107_0_3 : ∀ (α : Type) (K : Exit → St → Option α), F107_0_3 J107_0_3 α K = p107_0_5.unc fun σ => runM Try.prog E107_0 sh107 c107_0_35 K σ := m107_0_3g 
noncomputable def c107_0_28g (vJ107_0_3 : TJ107_0_3) : MCode := (.seq (.region r107_30 [] (tO [1, 4, 6, 46, 47, 48])) (.seq (.cond (.tmp 48) .skip (.exit 2)) (.seq (.block 3 (.seq (.mark [⟨p107_0_5, F107_0_3 vJ107_0_3⟩] c107_0_35) (.seq (.region r107_38 [] (tO [1, 4, 6, 46, 47, 60])) (.cond (.tmp 60) (.seq (.region r107_41 [] (tO [4, 5])) .ret) .skip)))) (.region r107_42 [] (tO [1, 4, 6, 46, 47])))))
noncomputable def c107_0_28 : MCode := c107_0_28g J107_0_3
theorem g107_0_28 : c107_0_28.Good Try.prog E107_0 sh107 := ⟨trivial, ⟨⟨trivial, trivial⟩, ⟨⟨⟨g107_0_35, m107_0_3, trivial⟩, ⟨trivial, ⟨⟨trivial, trivial⟩, trivial⟩⟩⟩, trivial⟩⟩⟩
--CODE 28 0
def S107_0_4g (vJ107_0_3 : TJ107_0_3) (α : Type) (x42 : Int) (x43 x44 : Nat) (x45 : Int) (kn : Int → Option α) (k1 : Option α) (k2 : Int → Bool → Option α) : Option α :=
 cK (decide (x45 < 2))
 (vJ107_0_3 α x43 x44 x45
 (fun x61 => cK ((FloatKind.format .f64).order x61 (FloatKind.nearest .f64 x42) == some Ordering.gt)
 (k1)
 (cK ((FloatKind.format .f64).order x61 (Op.negFloat .f64 (FloatKind.nearest .f64 x42)) == some Ordering.lt)
 (k1)
 (kn (w64 (x45 + 1))))))
 (k2 x45 (decide (x45 < 2)))
noncomputable def S107_0_4 (α : Type) (x42 : Int) (x43 x44 : Nat) (x45 : Int) (kn : Int → Option α) (k1 : Option α) (k2 : Int → Bool → Option α) : Option α := S107_0_4g J107_0_3 α x42 x43 x44 x45 kn k1 k2
noncomputable def R107_0_4 (α : Type) (x42 : Int) (x43 x44 : Nat) (k1 : Option α) (k2 : Int → Bool → Option α) : Nat → Int → Option α
 | 0, _ => none
 | n + 1, x45 => S107_0_4 α x42 x43 x44 x45 (R107_0_4 α x42 x43 x44 k1 k2 n) k1 k2
noncomputable def L107_0_4 (α : Type) (x42 : Int) (x43 x44 : Nat) (k1 : Option α) (k2 : Int → Bool → Option α) (x45 : Int) : Option α := R107_0_4 α x42 x43 x44 k1 k2 fuel x45
abbrev TL107_0_4 : Type 1 := (α : Type) → Int → Nat → Nat → (Option α) → (Int → Bool → Option α) → Int → Option α
def F107_0_4 (v : TL107_0_4) (α : Type) (K : Exit → St → Option α) : Int → Nat → Nat → Int → Int → Int → Nat → Nat → Option α := fun x42 x43 x44 x45 x46 x47 x48 x49 => v α x42 x43 x44 (u107_0_4 (K .ret) 2 0 0) (fun (y1 : Int) (y2 : Bool) => u107_0_5 (K (.exit 2)) x42 x43 x44 y1 y2 x46 x47 x48 x49) x45
theorem r107_0_4g  (vJ107_0_3 : TJ107_0_3) (α : Type) (K : Exit → St → Option α) (Kn : St → Option α) (x42 : Int) (x43 x44 : Nat) (x45 x46 x47 : Int) (x48 x49 : Nat) : u107_0_7 (fun σ => runM Try.prog (E107_0g ) sh107 (c107_0_28g vJ107_0_3) (thenK (fun σ => tidyK td107_28 σ Kn) K) σ) x42 x43 x44 x45 x46 x47 x48 x49 = S107_0_4g vJ107_0_3 α x42 x43 x44 x45 (fun x45 => u107_0_7 Kn x42 x43 x44 x45 x46 x47 x48 x49) (u107_0_4 (K .ret) 2 0 0) (fun (y1 : Int) (y2 : Bool) => u107_0_5 (K (.exit 2)) x42 x43 x44 y1 y2 x46 x47 x48 x49) := by kernel_rfl
theorem r107_0_4 (α : Type) (K : Exit → St → Option α) (Kn : St → Option α) (x42 : Int) (x43 x44 : Nat) (x45 x46 x47 : Int) (x48 x49 : Nat) : u107_0_7 (fun σ => runM Try.prog E107_0 sh107 c107_0_28 (thenK (fun σ => tidyK td107_28 σ Kn) K) σ) x42 x43 x44 x45 x46 x47 x48 x49 = S107_0_4 α x42 x43 x44 x45 (fun x45 => u107_0_7 Kn x42 x43 x44 x45 x46 x47 x48 x49) (u107_0_4 (K .ret) 2 0 0) (fun (y1 : Int) (y2 : Bool) => u107_0_5 (K (.exit 2)) x42 x43 x44 y1 y2 x46 x47 x48 x49) := r107_0_4g J107_0_3 α K Kn x42 x43 x44 x45 x46 x47 x48 x49
theorem t107_0_4 (α : Type) (K : Exit → St → Option α) : ∀ (n : Nat) (x42 : Int) (x43 x44 : Nat) (x45 x46 x47 : Int) (x48 x49 : Nat), R107_0_4 α x42 x43 x44 (u107_0_4 (K .ret) 2 0 0) (fun (y1 : Int) (y2 : Bool) => u107_0_5 (K (.exit 2)) x42 x43 x44 y1 y2 x46 x47 x48 x49) n x45 = u107_0_7 (loopT (runM Try.prog E107_0 sh107 c107_0_28) td107_28 K n) x42 x43 x44 x45 x46 x47 x48 x49 := by
 intro n
 induction n with
 | zero => intros; rfl
 | succ n ih => intro x42 x43 x44 x45 x46 x47 x48 x49; exact (congrArg (fun kn => S107_0_4 α x42 x43 x44 x45 kn (u107_0_4 (K .ret) 2 0 0) (fun (y1 : Int) (y2 : Bool) => u107_0_5 (K (.exit 2)) x42 x43 x44 y1 y2 x46 x47 x48 x49)) (funext fun x45 => ih x42 x43 x44 x45 x46 x47 x48 x49)).trans (r107_0_4 α K (loopT (runM Try.prog E107_0 sh107 c107_0_28) td107_28 K n) x42 x43 x44 x45 x46 x47 x48 x49).symm
theorem m107_0_4 : ∀ (α : Type) (K : Exit → St → Option α), F107_0_4 L107_0_4 α K = p107_0_7.unc fun σ => loopT (runM Try.prog E107_0 sh107 c107_0_28) td107_28 K fuel σ := fun α K => funext fun x42 => funext fun x43 => funext fun x44 => funext fun x45 => funext fun x46 => funext fun x47 => funext fun x48 => funext fun x49 => t107_0_4 α K fuel x42 x43 x44 x45 x46 x47 x48 x49
noncomputable def c107_0_18g  : MCode := (.region r107_19 [] (tO [1, 4, 6, 16, 17, 43]))
noncomputable def c107_0_18 : MCode := c107_0_18g 
theorem g107_0_18 : c107_0_18.Good Try.prog E107_0 sh107 := trivial
--CODE 18 0
abbrev TJ107_0_1 : Type 1 := (α : Type) → Nat → (Bool → Option α) → Option α
def J107_0_1g  (α : Type) (x26 : Nat) (k1 : Bool → Option α) : Option α :=
 cK ((FloatKind.format .f64).order x26 x26 != some Ordering.eq)
 (k1 true)
 (flN ((FloatKind.format .f64).sub x26 x26)
 (fun x35 => cK ((FloatKind.format .f64).order x35 0 != some Ordering.eq)
 (k1 true)
 (cK ((FloatKind.format .f64).order x26 4845873199050653696 == some Ordering.lt)
 (cK ((FloatKind.format .f64).order x26 14069245235905429504 == some Ordering.gt)
 (ivK (f2i .f64 x26 .i64)
 (fun x36 => k1 ((FloatKind.format .f64).order (FloatKind.nearest .f64 x36) x26 != some Ordering.eq)))
 (k1 false))
 (k1 false)))
 (k1 true))
noncomputable def J107_0_1 (α : Type) (x26 : Nat) (k1 : Bool → Option α) : Option α := J107_0_1g  α x26 k1
def F107_0_1 (v : TJ107_0_1) (α : Type) (K : Exit → St → Option α) : Int → Nat → Nat → Nat → Int → Int → Int → Nat → Nat → Option α := fun x25 x26 x27 x28 x29 x30 x31 x32 x33 => v α x26 (fun (y1 : Bool) => u107_0_2 (K .normal) x25 x27 x28 x29 y1 x30 x31 x32 x33) 
theorem m107_0_1g   (α : Type) (K : Exit → St → Option α) : F107_0_1 (J107_0_1g ) α K = p107_0_1.unc fun σ => runM Try.prog (E107_0g ) sh107 (c107_0_18g ) K σ := by kernel_rfl
theorem m107_0_1 : ∀ (α : Type) (K : Exit → St → Option α), F107_0_1 J107_0_1 α K = p107_0_1.unc fun σ => runM Try.prog E107_0 sh107 c107_0_18 K σ := m107_0_1g 
noncomputable def c107_0_16g  : MCode := (.region r107_17 [] (tO [1, 4, 6, 8, 16, 17]))
noncomputable def c107_0_16 : MCode := c107_0_16g 
theorem g107_0_16 : c107_0_16.Good Try.prog E107_0 sh107 := trivial
--CODE 16 0
abbrev TJ107_0_0 : Type 1 := (α : Type) → Nat → Nat → Int → (Nat → Option α) → Option α
def J107_0_0g  (α : Type) (x14 x15 : Nat) (x16 : Int) (k1 : Nat → Option α) : Option α :=
 cK (x16 == 1)
 (k1 x15)
 (cK (x16 == 0)
 (k1 x14)
 (none))
noncomputable def J107_0_0 (α : Type) (x14 x15 : Nat) (x16 : Int) (k1 : Nat → Option α) : Option α := J107_0_0g  α x14 x15 x16 k1
def F107_0_0 (v : TJ107_0_0) (α : Type) (K : Exit → St → Option α) : Int → Nat → Nat → Int → Bool → Int → Int → Nat → Nat → Option α := fun x13 x14 x15 x16 x17 x18 x19 x20 x21 => v α x14 x15 x16 (fun (y1 : Nat) => u107_0_1 (K .normal) x13 y1 x14 x15 x16 x18 x19 x20 x21) 
theorem m107_0_0g   (α : Type) (K : Exit → St → Option α) : F107_0_0 (J107_0_0g ) α K = p107_0_0.unc fun σ => runM Try.prog (E107_0g ) sh107 (c107_0_16g ) K σ := by kernel_rfl
theorem m107_0_0 : ∀ (α : Type) (K : Exit → St → Option α), F107_0_0 J107_0_0 α K = p107_0_0.unc fun σ => runM Try.prog E107_0 sh107 c107_0_16 K σ := m107_0_0g 
noncomputable def c107_0_9g (vJ107_0_0 : TJ107_0_0) (vJ107_0_1 : TJ107_0_1) : MCode := (.seq (.region r107_11 [] (tO [1, 4, 6, 16, 17, 18])) (.seq (.cond (.tmp 18) .skip (.exit 0)) (.seq (.block 1 (.seq (.mark [⟨p107_0_0, F107_0_0 vJ107_0_0⟩] c107_0_16) (.seq (.mark [⟨p107_0_1, F107_0_1 vJ107_0_1⟩] c107_0_18) (.cond (.tmp 43) (.seq (.region r107_22 [] (tO [4, 5])) .ret) .skip)))) (.region r107_23 [] (tO [1, 4, 6, 16, 17])))))
noncomputable def c107_0_9 : MCode := c107_0_9g J107_0_0 J107_0_1
theorem g107_0_9 : c107_0_9.Good Try.prog E107_0 sh107 := ⟨trivial, ⟨⟨trivial, trivial⟩, ⟨⟨⟨g107_0_16, m107_0_0, trivial⟩, ⟨⟨g107_0_18, m107_0_1, trivial⟩, ⟨⟨trivial, trivial⟩, trivial⟩⟩⟩, trivial⟩⟩⟩
--CODE 9 0
def S107_0_2g (vJ107_0_0 : TJ107_0_0) (vJ107_0_1 : TJ107_0_1) (α : Type) (x5 x6 : Nat) (x7 : Int) (kn : Int → Option α) (k1 : Option α) (k2 : Int → Bool → Option α) : Option α :=
 cK (decide (x7 < 2))
 (vJ107_0_0 α x5 x6 x7
 (fun x23 => vJ107_0_1 α x23
 (fun x37 => cK x37
 (k1)
 (kn (w64 (x7 + 1))))))
 (k2 x7 (decide (x7 < 2)))
noncomputable def S107_0_2 (α : Type) (x5 x6 : Nat) (x7 : Int) (kn : Int → Option α) (k1 : Option α) (k2 : Int → Bool → Option α) : Option α := S107_0_2g J107_0_0 J107_0_1 α x5 x6 x7 kn k1 k2
noncomputable def R107_0_2 (α : Type) (x5 x6 : Nat) (k1 : Option α) (k2 : Int → Bool → Option α) : Nat → Int → Option α
 | 0, _ => none
 | n + 1, x7 => S107_0_2 α x5 x6 x7 (R107_0_2 α x5 x6 k1 k2 n) k1 k2
noncomputable def L107_0_2 (α : Type) (x5 x6 : Nat) (k1 : Option α) (k2 : Int → Bool → Option α) (x7 : Int) : Option α := R107_0_2 α x5 x6 k1 k2 fuel x7
abbrev TL107_0_2 : Type 1 := (α : Type) → Nat → Nat → (Option α) → (Int → Bool → Option α) → Int → Option α
def F107_0_2 (v : TL107_0_2) (α : Type) (K : Exit → St → Option α) : Int → Nat → Nat → Int → Int → Int → Nat → Nat → Option α := fun x4 x5 x6 x7 x8 x9 x10 x11 => v α x5 x6 (u107_0_4 (K .ret) 27 0 0) (fun (y1 : Int) (y2 : Bool) => u107_0_0 (K (.exit 0)) x4 x5 x6 y1 y2 x8 x9 x10 x11) x7
theorem r107_0_2g  (vJ107_0_0 : TJ107_0_0) (vJ107_0_1 : TJ107_0_1) (α : Type) (K : Exit → St → Option α) (Kn : St → Option α) (x4 : Int) (x5 x6 : Nat) (x7 x8 x9 : Int) (x10 x11 : Nat) : u107_0_3 (fun σ => runM Try.prog (E107_0g ) sh107 (c107_0_9g vJ107_0_0 vJ107_0_1) (thenK (fun σ => tidyK td107_9 σ Kn) K) σ) x4 x5 x6 x7 x8 x9 x10 x11 = S107_0_2g vJ107_0_0 vJ107_0_1 α x5 x6 x7 (fun x7 => u107_0_3 Kn x4 x5 x6 x7 x8 x9 x10 x11) (u107_0_4 (K .ret) 27 0 0) (fun (y1 : Int) (y2 : Bool) => u107_0_0 (K (.exit 0)) x4 x5 x6 y1 y2 x8 x9 x10 x11) := by kernel_rfl
theorem r107_0_2 (α : Type) (K : Exit → St → Option α) (Kn : St → Option α) (x4 : Int) (x5 x6 : Nat) (x7 x8 x9 : Int) (x10 x11 : Nat) : u107_0_3 (fun σ => runM Try.prog E107_0 sh107 c107_0_9 (thenK (fun σ => tidyK td107_9 σ Kn) K) σ) x4 x5 x6 x7 x8 x9 x10 x11 = S107_0_2 α x5 x6 x7 (fun x7 => u107_0_3 Kn x4 x5 x6 x7 x8 x9 x10 x11) (u107_0_4 (K .ret) 27 0 0) (fun (y1 : Int) (y2 : Bool) => u107_0_0 (K (.exit 0)) x4 x5 x6 y1 y2 x8 x9 x10 x11) := r107_0_2g J107_0_0 J107_0_1 α K Kn x4 x5 x6 x7 x8 x9 x10 x11
theorem t107_0_2 (α : Type) (K : Exit → St → Option α) : ∀ (n : Nat) (x4 : Int) (x5 x6 : Nat) (x7 x8 x9 : Int) (x10 x11 : Nat), R107_0_2 α x5 x6 (u107_0_4 (K .ret) 27 0 0) (fun (y1 : Int) (y2 : Bool) => u107_0_0 (K (.exit 0)) x4 x5 x6 y1 y2 x8 x9 x10 x11) n x7 = u107_0_3 (loopT (runM Try.prog E107_0 sh107 c107_0_9) td107_9 K n) x4 x5 x6 x7 x8 x9 x10 x11 := by
 intro n
 induction n with
 | zero => intros; rfl
 | succ n ih => intro x4 x5 x6 x7 x8 x9 x10 x11; exact (congrArg (fun kn => S107_0_2 α x5 x6 x7 kn (u107_0_4 (K .ret) 27 0 0) (fun (y1 : Int) (y2 : Bool) => u107_0_0 (K (.exit 0)) x4 x5 x6 y1 y2 x8 x9 x10 x11)) (funext fun x7 => ih x4 x5 x6 x7 x8 x9 x10 x11)).trans (r107_0_2 α K (loopT (runM Try.prog E107_0 sh107 c107_0_9) td107_9 K n) x4 x5 x6 x7 x8 x9 x10 x11).symm
theorem m107_0_2 : ∀ (α : Type) (K : Exit → St → Option α), F107_0_2 L107_0_2 α K = p107_0_3.unc fun σ => loopT (runM Try.prog E107_0 sh107 c107_0_9) td107_9 K fuel σ := fun α K => funext fun x4 => funext fun x5 => funext fun x6 => funext fun x7 => funext fun x8 => funext fun x9 => funext fun x10 => funext fun x11 => t107_0_2 α K fuel x4 x5 x6 x7 x8 x9 x10 x11
abbrev Tf107_0 : Type 1 := (α : Type) → Nat → Nat → Int → (Int → Int → Int → Option α) → Option α
def f107_0g (vL107_0_2 : TL107_0_2) (vL107_0_4 : TL107_0_4) (α : Type) (x1 x2 : Nat) (x3 : Int) (k1 : Int → Int → Int → Option α) : Option α :=
 vL107_0_2 α x1 x2
 (k1 0 0 27)
 (fun x39 x40 => vL107_0_4 α x3 x1 x2
 (k1 0 0 2)
 (fun x63 x64 => ivK (f2i .f64 x1 .i64)
 (fun x66 => ivK (f2i .f64 x2 .i64)
 (fun x67 => k1 x66 x67 0))) 0) 0
noncomputable def f107_0 (α : Type) (x1 x2 : Nat) (x3 : Int) (k1 : Int → Int → Int → Option α) : Option α := f107_0g L107_0_2 L107_0_4 α x1 x2 x3 k1
def pa107_0 : PT (List DV) := pA [pV false [(dX .f64)], pV false [(dI .i64)]]
def Fn107_0 (v : Tf107_0) (α : Type) (k : List RV → Option α) : Nat → Nat → Int → Option α := fun x1 x2 x3 => v α x1 x2 x3 (fun (y1 : Int) (y2 : Int) (y3 : Int) => ur107_0_0 k y1 y2 y3)
noncomputable def cm107_0g (vL107_0_2 : TL107_0_2) (vL107_0_4 : TL107_0_4) : MCode := (.seq (.region r107_2 [] (tO [0, 1, 4])) (.seq (.region r107_4 [] (tO [1, 4, 6])) (.seq (.seq (.region r107_7 [] (tO [1, 4, 6, 16, 17])) (.block 0 (.loop td107_9 [⟨p107_0_3, F107_0_2 vL107_0_2⟩] c107_0_9))) (.seq (.seq (.region r107_26 [] (tO [1, 4, 6, 46, 47])) (.block 2 (.loop td107_28 [⟨p107_0_7, F107_0_4 vL107_0_4⟩] c107_0_28))) (.seq (.region r107_44 [] (tO [4, 5])) .ret)))))
noncomputable def cm107_0 : MCode := cm107_0g L107_0_2 L107_0_4
theorem gm107_0 : cm107_0.Good Try.prog E107_0 sh107 := ⟨trivial, ⟨trivial, ⟨⟨trivial, ⟨g107_0_9, m107_0_2, trivial⟩⟩, ⟨⟨trivial, ⟨g107_0_28, m107_0_4, trivial⟩⟩, ⟨trivial, trivial⟩⟩⟩⟩⟩
theorem fm107_0g  (vL107_0_2 : TL107_0_2) (vL107_0_4 : TL107_0_4) (α : Type) (k : List RV → Option α) : Fn107_0 (f107_0g vL107_0_2 vL107_0_4) α k = pa107_0.unc fun ds => fnM Try.prog (E107_0g ) sh107 (cm107_0g vL107_0_2 vL107_0_4) rs107 k ds := by kernel_rfl
theorem fm107_0 : ∀ (α : Type) (k : List RV → Option α), Fn107_0 f107_0 α k = pa107_0.unc fun ds => fnM Try.prog E107_0 sh107 cm107_0 rs107 k ds := fm107_0g L107_0_2 L107_0_4
theorem is107 : FnIs Try.prog 107 nt107 tr107 tl107 cm107_0.erase rs107 := ⟨Try.f107, Try.func107, rfl, by kernel_rfl, by kernel_rfl, by kernel_rfl⟩
theorem io107_0 : InstOk Try.prog 107 nt107 ⟨pa107_0, Fn107_0 f107_0⟩ := inst_ok eo107_0 followsTry is107 ⟨⟨sh107, cm107_0, by kernel_rfl, gm107_0, fm107_0⟩⟩
abbrev nt103 : Nat := 10
def sh103 : List (Nat × List Sh) := [(4, [.int .i64, .int .i64]), (6, [.int .i64, .int .i64]), (8, [.int .i64, .int .i64])]
def r103_2 : List AOper := [oO 1 (.box (.tmp 0)), oO 2 (.alloc [(cI 0), (cI 0), (cI 0), (cI 0), (cI 0), (cI 0)])]
def r103_4 : List AOper := [oO 3 (.faddr 4 (.tmp 1)), oO 4 (.load true 2 (.tmp 3)), oO 5 (.faddr 6 (.tmp 1)), oO 6 (.load true 2 (.tmp 5)), oO 7 (.faddr 8 (.tmp 1)), oO 8 (.load true 2 (.tmp 7)), oO 9 (.build [(cI 0), (cI 0), (cI 0), (cI 0), (cI 0), (cI 0)] [(0, 2, (.tmp 4)), (2, 2, (.tmp 6)), (4, 2, (.tmp 8))]), oD (.store 6 (.tmp 2) (.tmp 9))]
def tr103 : List (Nat × Tidy) := [tT 0 [1, 2], tT 1 [2]]
def tl103 : List (Nat × Tidy) := []
def rs103 : List AResV := [.cell 2 true 6]
def pr103_0_0 : PT (List RV) := pRs [pR true [rD (dI .i64), rD (dI .i64), rD (dI .i64), rD (dI .i64), rD (dI .i64), rD (dI .i64)]]
def ur103_0_0 {β : Type} (g : List RV → β) : Int → Int → Int → Int → Int → Int → β := pr103_0_0.unc g
def E103_0g  : EnvK := EnvK.of [] noSeq
noncomputable def E103_0 : EnvK := E103_0g 
theorem eo103_0 : E103_0.Ok Try.prog := EnvK.of_ok noSeq_ok trivial
abbrev Tf103_0 : Type 1 := (α : Type) → ByteArray → Int → Int → Int → Int → Int → Int → Int → Int → Int → (Int → Int → Int → Int → Int → Int → Option α) → Option α
def f103_0g  (α : Type) (x1 : ByteArray) (x2 x3 x4 x5 x6 x7 x8 x9 x10 : Int) (k1 : Int → Int → Int → Int → Int → Int → Option α) : Option α :=
 k1 x5 x6 x7 x8 x9 x10
noncomputable def f103_0 (α : Type) (x1 : ByteArray) (x2 x3 x4 x5 x6 x7 x8 x9 x10 : Int) (k1 : Int → Int → Int → Int → Int → Int → Option α) : Option α := f103_0g  α x1 x2 x3 x4 x5 x6 x7 x8 x9 x10 k1
def pa103_0 : PT (List DV) := pA [pV true [dS, (dI .i64), (dI .i64), (dI .i64), (dI .i64), (dI .i64), (dI .i64), (dI .i64), (dI .i64), (dI .i64)]]
def Fn103_0 (v : Tf103_0) (α : Type) (k : List RV → Option α) : ByteArray → Int → Int → Int → Int → Int → Int → Int → Int → Int → Option α := fun x1 x2 x3 x4 x5 x6 x7 x8 x9 x10 => v α x1 x2 x3 x4 x5 x6 x7 x8 x9 x10 (fun (y1 : Int) (y2 : Int) (y3 : Int) (y4 : Int) (y5 : Int) (y6 : Int) => ur103_0_0 k y1 y2 y3 y4 y5 y6)
noncomputable def cm103_0g  : MCode := (.seq (.region r103_2 [] (tO [1, 2])) (.seq (.region r103_4 [] (tO [2])) .ret))
noncomputable def cm103_0 : MCode := cm103_0g 
theorem gm103_0 : cm103_0.Good Try.prog E103_0 sh103 := ⟨trivial, ⟨trivial, trivial⟩⟩
theorem fm103_0g   (α : Type) (k : List RV → Option α) : Fn103_0 (f103_0g ) α k = pa103_0.unc fun ds => fnM Try.prog (E103_0g ) sh103 (cm103_0g ) rs103 k ds := by kernel_rfl
theorem fm103_0 : ∀ (α : Type) (k : List RV → Option α), Fn103_0 f103_0 α k = pa103_0.unc fun ds => fnM Try.prog E103_0 sh103 cm103_0 rs103 k ds := fm103_0g 
theorem is103 : FnIs Try.prog 103 nt103 tr103 tl103 cm103_0.erase rs103 := ⟨Try.f103, Try.func103, rfl, by kernel_rfl, by kernel_rfl, by kernel_rfl⟩
theorem io103_0 : InstOk Try.prog 103 nt103 ⟨pa103_0, Fn103_0 f103_0⟩ := inst_ok eo103_0 followsTry is103 ⟨⟨sh103, cm103_0, by kernel_rfl, gm103_0, fm103_0⟩⟩
abbrev nt123 : Nat := 55
def sh123 : List (Nat × List Sh) := []
def r123_2 : List AOper := [oO 2 (.mv (.const (.bool false)))]
def r123_5 : List AOper := [oM 6 0, oO 7 (.pure (oB (.call { callee := .builtin .len, args := #[(.tmp 6)], argTypes := #[9] }) 3)), oO 8 (.bin .lss 3 (.tmp 7) (kI 1)), oM 9 8, oG 10 (.mv (.tmp 0)) 9 false, oG 11 (.pure (oB (.call { callee := .builtin .len, args := #[(.tmp 10)], argTypes := #[9] }) 3)) 9 false, oG 12 (.bin .gtr 3 (.tmp 11) (kI 12)) 9 false, oO 13 (.pick (.tmp 9) (.const (.bool true)) (.tmp 12))]
def r123_8 : List AOper := [oO 2 (.mv (.const (.bool false)))]
def r123_11 : List AOper := [oO 3 (.mv (kI 0))]
def td123_13 : Option Tidy := (tO [0, 3])
def r123_16 : List AOper := [oM 14 3, oM 15 0, oO 16 (.pure (oB (.call { callee := .builtin .len, args := #[(.tmp 15)], argTypes := #[9] }) 3)), oO 17 (.bin .lss 3 (.tmp 14) (.tmp 16))]
def r123_21 : List AOper := [oM 20 0, oM 21 3, oO 22 (.pure (oB (.index 9 (.tmp 20) (.tmp 21)) 5)), oM 4 22]
def r123_23 : List AOper := [oM 23 4, oO 24 (.bin .geq 5 (.tmp 23) (.const (.int .u8 97))), oM 25 24, oG 26 (.mv (.tmp 4)) 25 true, oG 27 (.bin .leq 5 (.tmp 26) (.const (.int .u8 122))) 25 true, oO 28 (.pick (.tmp 25) (.tmp 27) (.const (.bool false))), oM 29 28, oG 30 (.mv (.tmp 4)) 29 false, oG 31 (.bin .geq 5 (.tmp 30) (.const (.int .u8 65))) 29 false, oG 32 (.mv (.tmp 31)) 29 false, oG 33 (.mv (.tmp 4)) 32 true, oG 34 (.bin .leq 5 (.tmp 33) (.const (.int .u8 90))) 32 true, oG 35 (.pick (.tmp 32) (.tmp 34) (.const (.bool false))) 29 false, oO 36 (.pick (.tmp 29) (.const (.bool true)) (.tmp 35)), oM 5 36]
def r123_25 : List AOper := [oM 37 5, oO 38 (.pure (oB (.unOp .not 4 (.tmp 37)) 4)), oM 39 38, oG 40 (.mv (.tmp 3)) 39 true, oG 41 (.bin .eql 3 (.tmp 40) (kI 0)) 39 true, oG 42 (.mv (.tmp 41)) 39 true, oG 43 (.mv (.tmp 4)) 42 false, oG 44 (.bin .neq 5 (.tmp 43) (.const (.int .u8 45))) 42 false, oG 45 (.mv (.tmp 44)) 42 false, oG 46 (.mv (.tmp 4)) 45 true, oG 47 (.bin .lss 5 (.tmp 46) (.const (.int .u8 48))) 45 true, oG 48 (.mv (.tmp 47)) 45 true, oG 49 (.mv (.tmp 4)) 48 false, oG 50 (.bin .gtr 5 (.tmp 49) (.const (.int .u8 57))) 48 false, oG 51 (.pick (.tmp 48) (.const (.bool true)) (.tmp 50)) 45 true, oG 52 (.pick (.tmp 45) (.tmp 51) (.const (.bool false))) 42 false, oG 53 (.pick (.tmp 42) (.const (.bool true)) (.tmp 52)) 39 true, oO 54 (.pick (.tmp 39) (.tmp 53) (.const (.bool false)))]
def r123_28 : List AOper := [oO 2 (.mv (.const (.bool false)))]
def r123_29 : List AOper := [oM 18 3, oO 19 (.bin .add 3 (.tmp 18) (kI 1)), oM 3 19]
def r123_31 : List AOper := [oO 2 (.mv (.const (.bool true)))]
def tr123 : List (Nat × Tidy) := [tT 0 [0], tT 1 [0, 13], tT 2 [2], tT 3 [0, 3], tT 4 [0, 3, 17], tT 6 [0, 3, 4], tT 7 [0, 3, 4, 5], tT 8 [0, 3, 54], tT 9 [2], tT 5 [0, 3], tT 10 [2]]
def tl123 : List (Nat × Tidy) := [tT 4 [0, 3]]
def rs123 : List AResV := [.tmp 2]
def p123_0_0 : PT St := pS [sl 0 (aV false [(cD dS)]), sl 3 (aV false [(cD (dI .i64))]), sl 4 (aV false [(cD (dI .u8))])] []
def u123_0_0 {β : Type} (g : St → β) : ByteArray → Int → Int → β := p123_0_0.unc g
def p123_0_1 : PT St := pS [sl 0 (aV false [(cD dS)]), sl 3 (aV false [(cD (dI .i64))]), sl 4 (aV false [(cD (dI .u8))]), sl 5 (aV false [(cD dB)])] []
def u123_0_1 {β : Type} (g : St → β) : ByteArray → Int → Int → Bool → β := p123_0_1.unc g
def p123_0_2 : PT St := pS [sl 0 (aV false [(cD dS)]), sl 3 (aV false [(cD (dI .i64))]), sl 54 (aV false [(cD dB)])] []
def u123_0_2 {β : Type} (g : St → β) : ByteArray → Int → Bool → β := p123_0_2.unc g
def p123_0_3 : PT St := pS [sl 0 (aV false [(cD dS)]), sl 3 (aV false [(cD (dI .i64))])] []
def u123_0_3 {β : Type} (g : St → β) : ByteArray → Int → β := p123_0_3.unc g
def p123_0_4 : PT St := pS [sl 2 (aV false [(cD dB)])] []
def u123_0_4 {β : Type} (g : St → β) : Bool → β := p123_0_4.unc g
def p123_0_5 : PT St := pS [sl 0 (aV false [(cD dS)]), sl 3 (aV false [(cD (dI .i64))]), sl 17 (aV false [(cD dB)])] []
def u123_0_5 {β : Type} (g : St → β) : ByteArray → Int → Bool → β := p123_0_5.unc g
def pr123_0_0 : PT (List RV) := pRs [pR false [rD dB]]
def ur123_0_0 {β : Type} (g : List RV → β) : Bool → β := pr123_0_0.unc g
def E123_0g  : EnvK := EnvK.of [] noSeq
noncomputable def E123_0 : EnvK := E123_0g 
theorem eo123_0 : E123_0.Ok Try.prog := EnvK.of_ok noSeq_ok trivial
noncomputable def c123_0_24g  : MCode := (.region r123_25 [] (tO [0, 3, 54]))
noncomputable def c123_0_24 : MCode := c123_0_24g 
theorem g123_0_24 : c123_0_24.Good Try.prog E123_0 sh123 := trivial
--CODE 24 0
abbrev TJ123_0_1 : Type 1 := (α : Type) → Int → Int → Bool → (Bool → Option α) → Option α
def J123_0_1g  (α : Type) (x13 x14 : Int) (x15 : Bool) (k1 : Bool → Option α) : Option α :=
 cK (!x15)
 (cK (x13 == 0)
 (k1 true)
 (cK (x14 != 45)
 (cK (decide (x14 < 48))
 (k1 true)
 (k1 (decide (57 < x14))))
 (k1 false)))
 (k1 false)
noncomputable def J123_0_1 (α : Type) (x13 x14 : Int) (x15 : Bool) (k1 : Bool → Option α) : Option α := J123_0_1g  α x13 x14 x15 k1
def F123_0_1 (v : TJ123_0_1) (α : Type) (K : Exit → St → Option α) : ByteArray → Int → Int → Bool → Option α := fun x12 x13 x14 x15 => v α x13 x14 x15 (fun (y1 : Bool) => u123_0_2 (K .normal) x12 x13 y1) 
theorem m123_0_1g   (α : Type) (K : Exit → St → Option α) : F123_0_1 (J123_0_1g ) α K = p123_0_1.unc fun σ => runM Try.prog (E123_0g ) sh123 (c123_0_24g ) K σ := by kernel_rfl
theorem m123_0_1 : ∀ (α : Type) (K : Exit → St → Option α), F123_0_1 J123_0_1 α K = p123_0_1.unc fun σ => runM Try.prog E123_0 sh123 c123_0_24 K σ := m123_0_1g 
noncomputable def c123_0_22g  : MCode := (.region r123_23 [] (tO [0, 3, 4, 5]))
noncomputable def c123_0_22 : MCode := c123_0_22g 
theorem g123_0_22 : c123_0_22.Good Try.prog E123_0 sh123 := trivial
--CODE 22 0
abbrev TJ123_0_0 : Type 1 := (α : Type) → Int → (Bool → Option α) → Option α
def J123_0_0g  (α : Type) (x8 : Int) (k1 : Bool → Option α) : Option α :=
 cK (decide (97 ≤ x8))
 (cK (decide (x8 ≤ 122))
 (k1 true)
 (cK (decide (65 ≤ x8))
 (k1 (decide (x8 ≤ 90)))
 (k1 false)))
 (cK (decide (65 ≤ x8))
 (k1 (decide (x8 ≤ 90)))
 (k1 false))
noncomputable def J123_0_0 (α : Type) (x8 : Int) (k1 : Bool → Option α) : Option α := J123_0_0g  α x8 k1
def F123_0_0 (v : TJ123_0_0) (α : Type) (K : Exit → St → Option α) : ByteArray → Int → Int → Option α := fun x6 x7 x8 => v α x8 (fun (y1 : Bool) => u123_0_1 (K .normal) x6 x7 x8 y1) 
theorem m123_0_0g   (α : Type) (K : Exit → St → Option α) : F123_0_0 (J123_0_0g ) α K = p123_0_0.unc fun σ => runM Try.prog (E123_0g ) sh123 (c123_0_22g ) K σ := by kernel_rfl
theorem m123_0_0 : ∀ (α : Type) (K : Exit → St → Option α), F123_0_0 J123_0_0 α K = p123_0_0.unc fun σ => runM Try.prog E123_0 sh123 c123_0_22 K σ := m123_0_0g 
noncomputable def c123_0_13g (vJ123_0_0 : TJ123_0_0) (vJ123_0_1 : TJ123_0_1) : MCode := (.seq (.seq (.region r123_16 [] (tO [0, 3, 17])) (.cond (.tmp 17) .skip (.exit 0))) (.seq (.block 1 (.seq (.region r123_21 [] (tO [0, 3, 4])) (.seq (.mark [⟨p123_0_0, F123_0_0 vJ123_0_0⟩] c123_0_22) (.seq (.mark [⟨p123_0_1, F123_0_1 vJ123_0_1⟩] c123_0_24) (.cond (.tmp 54) (.seq (.region r123_28 [] (tO [2])) .ret) .skip))))) (.region r123_29 [] (tO [0, 3]))))
noncomputable def c123_0_13 : MCode := c123_0_13g J123_0_0 J123_0_1
theorem g123_0_13 : c123_0_13.Good Try.prog E123_0 sh123 := ⟨⟨trivial, ⟨trivial, trivial⟩⟩, ⟨⟨trivial, ⟨⟨g123_0_22, m123_0_0, trivial⟩, ⟨⟨g123_0_24, m123_0_1, trivial⟩, ⟨⟨trivial, trivial⟩, trivial⟩⟩⟩⟩, trivial⟩⟩
--CODE 13 0
def S123_0_2g (vJ123_0_0 : TJ123_0_0) (vJ123_0_1 : TJ123_0_1) (α : Type) (x2 : ByteArray) (x3 : Int) (kn : Int → Option α) (k1 : Option α) (k2 : Int → Bool → Option α) : Option α :=
 cK (decide (x3 < ((ByteArray.size x2 : Nat) : Int)))
 (sixK x2 x3
 (fun x5 => vJ123_0_0 α ((UInt8.toNat x5 : Nat) : Int)
 (fun x10 => vJ123_0_1 α x3 ((UInt8.toNat x5 : Nat) : Int) x10
 (fun x17 => cK x17
 (k1)
 (kn (w64 (x3 + 1)))))))
 (k2 x3 (decide (x3 < ((ByteArray.size x2 : Nat) : Int))))
noncomputable def S123_0_2 (α : Type) (x2 : ByteArray) (x3 : Int) (kn : Int → Option α) (k1 : Option α) (k2 : Int → Bool → Option α) : Option α := S123_0_2g J123_0_0 J123_0_1 α x2 x3 kn k1 k2
noncomputable def R123_0_2 (α : Type) (x2 : ByteArray) (k1 : Option α) (k2 : Int → Bool → Option α) : Nat → Int → Option α
 | 0, _ => none
 | n + 1, x3 => S123_0_2 α x2 x3 (R123_0_2 α x2 k1 k2 n) k1 k2
noncomputable def L123_0_2 (α : Type) (x2 : ByteArray) (k1 : Option α) (k2 : Int → Bool → Option α) (x3 : Int) : Option α := R123_0_2 α x2 k1 k2 fuel x3
abbrev TL123_0_2 : Type 1 := (α : Type) → ByteArray → (Option α) → (Int → Bool → Option α) → Int → Option α
def F123_0_2 (v : TL123_0_2) (α : Type) (K : Exit → St → Option α) : ByteArray → Int → Option α := fun x2 x3 => v α x2 (u123_0_4 (K .ret) false) (fun (y1 : Int) (y2 : Bool) => u123_0_5 (K (.exit 0)) x2 y1 y2) x3
theorem r123_0_2g  (vJ123_0_0 : TJ123_0_0) (vJ123_0_1 : TJ123_0_1) (α : Type) (K : Exit → St → Option α) (Kn : St → Option α) (x2 : ByteArray) (x3 : Int) : u123_0_3 (fun σ => runM Try.prog (E123_0g ) sh123 (c123_0_13g vJ123_0_0 vJ123_0_1) (thenK (fun σ => tidyK td123_13 σ Kn) K) σ) x2 x3 = S123_0_2g vJ123_0_0 vJ123_0_1 α x2 x3 (fun x3 => u123_0_3 Kn x2 x3) (u123_0_4 (K .ret) false) (fun (y1 : Int) (y2 : Bool) => u123_0_5 (K (.exit 0)) x2 y1 y2) := by kernel_rfl
theorem r123_0_2 (α : Type) (K : Exit → St → Option α) (Kn : St → Option α) (x2 : ByteArray) (x3 : Int) : u123_0_3 (fun σ => runM Try.prog E123_0 sh123 c123_0_13 (thenK (fun σ => tidyK td123_13 σ Kn) K) σ) x2 x3 = S123_0_2 α x2 x3 (fun x3 => u123_0_3 Kn x2 x3) (u123_0_4 (K .ret) false) (fun (y1 : Int) (y2 : Bool) => u123_0_5 (K (.exit 0)) x2 y1 y2) := r123_0_2g J123_0_0 J123_0_1 α K Kn x2 x3
theorem t123_0_2 (α : Type) (K : Exit → St → Option α) : ∀ (n : Nat) (x2 : ByteArray) (x3 : Int), R123_0_2 α x2 (u123_0_4 (K .ret) false) (fun (y1 : Int) (y2 : Bool) => u123_0_5 (K (.exit 0)) x2 y1 y2) n x3 = u123_0_3 (loopT (runM Try.prog E123_0 sh123 c123_0_13) td123_13 K n) x2 x3 := by
 intro n
 induction n with
 | zero => intros; rfl
 | succ n ih => intro x2 x3; exact (congrArg (fun kn => S123_0_2 α x2 x3 kn (u123_0_4 (K .ret) false) (fun (y1 : Int) (y2 : Bool) => u123_0_5 (K (.exit 0)) x2 y1 y2)) (funext fun x3 => ih x2 x3)).trans (r123_0_2 α K (loopT (runM Try.prog E123_0 sh123 c123_0_13) td123_13 K n) x2 x3).symm
theorem m123_0_2 : ∀ (α : Type) (K : Exit → St → Option α), F123_0_2 L123_0_2 α K = p123_0_3.unc fun σ => loopT (runM Try.prog E123_0 sh123 c123_0_13) td123_13 K fuel σ := fun α K => funext fun x2 => funext fun x3 => t123_0_2 α K fuel x2 x3
abbrev Tf123_0 : Type 1 := (α : Type) → ByteArray → (Bool → Option α) → Option α
def f123_0g (vL123_0_2 : TL123_0_2) (α : Type) (x1 : ByteArray) (k1 : Bool → Option α) : Option α :=
 cK (decide (((ByteArray.size x1 : Nat) : Int) < 1))
 (k1 false)
 (cK (decide (12 < ((ByteArray.size x1 : Nat) : Int)))
 (k1 false)
 (vL123_0_2 α x1
 (k1 false)
 (fun x19 x20 => k1 true) 0))
noncomputable def f123_0 (α : Type) (x1 : ByteArray) (k1 : Bool → Option α) : Option α := f123_0g L123_0_2 α x1 k1
def pa123_0 : PT (List DV) := pA [pV false [dS]]
def Fn123_0 (v : Tf123_0) (α : Type) (k : List RV → Option α) : ByteArray → Option α := fun x1 => v α x1 (fun (y1 : Bool) => ur123_0_0 k y1)
noncomputable def cm123_0g (vL123_0_2 : TL123_0_2) : MCode := (.seq (.region r123_2 [] (tO [0])) (.seq (.seq (.region r123_5 [] (tO [0, 13])) (.cond (.tmp 13) (.seq (.region r123_8 [] (tO [2])) .ret) .skip)) (.seq (.seq (.region r123_11 [] (tO [0, 3])) (.block 0 (.loop td123_13 [⟨p123_0_3, F123_0_2 vL123_0_2⟩] c123_0_13))) (.seq (.region r123_31 [] (tO [2])) .ret))))
noncomputable def cm123_0 : MCode := cm123_0g L123_0_2
theorem gm123_0 : cm123_0.Good Try.prog E123_0 sh123 := ⟨trivial, ⟨⟨trivial, ⟨⟨trivial, trivial⟩, trivial⟩⟩, ⟨⟨trivial, ⟨g123_0_13, m123_0_2, trivial⟩⟩, ⟨trivial, trivial⟩⟩⟩⟩
theorem fm123_0g  (vL123_0_2 : TL123_0_2) (α : Type) (k : List RV → Option α) : Fn123_0 (f123_0g vL123_0_2) α k = pa123_0.unc fun ds => fnM Try.prog (E123_0g ) sh123 (cm123_0g vL123_0_2) rs123 k ds := by kernel_rfl
theorem fm123_0 : ∀ (α : Type) (k : List RV → Option α), Fn123_0 f123_0 α k = pa123_0.unc fun ds => fnM Try.prog E123_0 sh123 cm123_0 rs123 k ds := fm123_0g L123_0_2
theorem is123 : FnIs Try.prog 123 nt123 tr123 tl123 cm123_0.erase rs123 := ⟨Try.f123, Try.func123, rfl, by kernel_rfl, by kernel_rfl, by kernel_rfl⟩
theorem io123_0 : InstOk Try.prog 123 nt123 ⟨pa123_0, Fn123_0 f123_0⟩ := inst_ok eo123_0 followsTry is123 ⟨⟨sh123, cm123_0, by kernel_rfl, gm123_0, fm123_0⟩⟩
abbrev nt99 : Nat := 16
def sh99 : List (Nat × List Sh) := []
def r99_2 : List AOper := [oO 4 (.mv (kI 0))]
def r99_4 : List AOper := [oM 6 0, oM 7 1, oO 8 (.bin .quo 3 (.tmp 6) (.tmp 7)), oM 5 8]
def r99_7 : List AOper := [oM 9 0, oM 10 1, oO 11 (.bin .rem 3 (.tmp 9) (.tmp 10)), oO 12 (.bin .lss 3 (.tmp 11) (kI 0))]
def r99_9 : List AOper := [oM 13 5, oO 14 (.bin .sub 3 (.tmp 13) (kI 1)), oM 5 14]
def r99_11 : List AOper := [oM 15 5, oM 4 15]
def tr99 : List (Nat × Tidy) := [tT 0 [0, 1], tT 1 [0, 1, 5], tT 2 [5, 12], tT 3 [5], tT 4 [4]]
def tl99 : List (Nat × Tidy) := []
def rs99 : List AResV := [.tmp 4]
def pr99_0_0 : PT (List RV) := pRs [pR false [rD (dI .i64)]]
def ur99_0_0 {β : Type} (g : List RV → β) : Int → β := pr99_0_0.unc g
def E99_0g  : EnvK := EnvK.of [] noSeq
noncomputable def E99_0 : EnvK := E99_0g 
theorem eo99_0 : E99_0.Ok Try.prog := EnvK.of_ok noSeq_ok trivial
abbrev Tf99_0 : Type 1 := (α : Type) → Int → Int → (Int → Option α) → Option α
def f99_0g  (α : Type) (x1 x2 : Int) (k1 : Int → Option α) : Option α :=
 gK (x2 != 0) (gK (x2 != 0) (cK (decide ((Int.tmod x1 x2) < 0))
 (k1 (w64 ((w64 (Int.tdiv x1 x2)) - 1)))
 (k1 (w64 (Int.tdiv x1 x2)))))
noncomputable def f99_0 (α : Type) (x1 x2 : Int) (k1 : Int → Option α) : Option α := f99_0g  α x1 x2 k1
def pa99_0 : PT (List DV) := pA [pV false [(dI .i64)], pV false [(dI .i64)]]
def Fn99_0 (v : Tf99_0) (α : Type) (k : List RV → Option α) : Int → Int → Option α := fun x1 x2 => v α x1 x2 (fun (y1 : Int) => ur99_0_0 k y1)
noncomputable def cm99_0g  : MCode := (.seq (.region r99_2 [] (tO [0, 1])) (.seq (.region r99_4 [] (tO [0, 1, 5])) (.seq (.seq (.region r99_7 [] (tO [5, 12])) (.cond (.tmp 12) (.region r99_9 [] (tO [5])) .skip)) (.seq (.region r99_11 [] (tO [4])) .ret))))
noncomputable def cm99_0 : MCode := cm99_0g 
theorem gm99_0 : cm99_0.Good Try.prog E99_0 sh99 := ⟨trivial, ⟨trivial, ⟨⟨trivial, ⟨trivial, trivial⟩⟩, ⟨trivial, trivial⟩⟩⟩⟩
theorem fm99_0g   (α : Type) (k : List RV → Option α) : Fn99_0 (f99_0g ) α k = pa99_0.unc fun ds => fnM Try.prog (E99_0g ) sh99 (cm99_0g ) rs99 k ds := by kernel_rfl
theorem fm99_0 : ∀ (α : Type) (k : List RV → Option α), Fn99_0 f99_0 α k = pa99_0.unc fun ds => fnM Try.prog E99_0 sh99 cm99_0 rs99 k ds := fm99_0g 
theorem is99 : FnIs Try.prog 99 nt99 tr99 tl99 cm99_0.erase rs99 := ⟨Try.f99, Try.func99, rfl, by kernel_rfl, by kernel_rfl, by kernel_rfl⟩
theorem io99_0 : InstOk Try.prog 99 nt99 ⟨pa99_0, Fn99_0 f99_0⟩ := inst_ok eo99_0 followsTry is99 ⟨⟨sh99, cm99_0, by kernel_rfl, gm99_0, fm99_0⟩⟩
abbrev nt36 : Nat := 26
def sh36 : List (Nat × List Sh) := [(19, [.int .i64]), (20, [.int .i64]), (23, [.int .i64]), (24, [.int .i64])]
def r36_2 : List AOper := [oO 4 (.mv (.const (.bool false)))]
def r36_5 : List AOper := [oM 6 0, oO 7 (.len (.tmp 6)), oM 8 1, oO 9 (.len (.tmp 8)), oO 10 (.bin .neq 3 (.tmp 7) (.tmp 9))]
def r36_8 : List AOper := [oO 4 (.mv (.const (.bool false)))]
def r36_11 : List AOper := [oO 5 (.mv (kI 0))]
def td36_13 : Option Tidy := (tO [0, 1, 5])
def r36_16 : List AOper := [oM 11 5, oM 12 0, oO 13 (.len (.tmp 12)), oO 14 (.bin .lss 3 (.tmp 11) (.tmp 13))]
def r36_21 : List AOper := [oM 17 0, oM 18 5, oO 19 (.iaddr 1 none (.tmp 17) (.tmp 18)), oO 20 (.load false 1 (.tmp 19)), oM 21 1, oM 22 5, oO 23 (.iaddr 1 none (.tmp 21) (.tmp 22)), oO 24 (.load false 1 (.tmp 23)), oO 25 (.bin .neq 3 (.tmp 20) (.tmp 24))]
def r36_24 : List AOper := [oO 4 (.mv (.const (.bool false)))]
def r36_25 : List AOper := [oM 15 5, oO 16 (.bin .add 3 (.tmp 15) (kI 1)), oM 5 16]
def r36_27 : List AOper := [oO 4 (.mv (.const (.bool true)))]
def tr36 : List (Nat × Tidy) := [tT 0 [0, 1], tT 1 [0, 1, 10], tT 2 [4], tT 3 [0, 1, 5], tT 4 [0, 1, 5, 14], tT 6 [0, 1, 5, 25], tT 7 [4], tT 5 [0, 1, 5], tT 8 [4]]
def tl36 : List (Nat × Tidy) := [tT 4 [0, 1, 5]]
def rs36 : List AResV := [.tmp 4]
def p36_0_0 : PT St := pS [sl 0 (aV false [(cD dL)]), sl 1 (aV false [(cD dL)]), sl 5 (aV false [(cD (dI .i64))])] []
def u36_0_0 {β : Type} (g : St → β) : Rows → Rows → Int → β := p36_0_0.unc g
def p36_0_1 : PT St := pS [sl 4 (aV false [(cD dB)])] []
def u36_0_1 {β : Type} (g : St → β) : Bool → β := p36_0_1.unc g
def p36_0_2 : PT St := pS [sl 0 (aV false [(cD dL)]), sl 1 (aV false [(cD dL)]), sl 5 (aV false [(cD (dI .i64))]), sl 14 (aV false [(cD dB)])] []
def u36_0_2 {β : Type} (g : St → β) : Rows → Rows → Int → Bool → β := p36_0_2.unc g
def pr36_0_0 : PT (List RV) := pRs [pR false [rD dB]]
def ur36_0_0 {β : Type} (g : List RV → β) : Bool → β := pr36_0_0.unc g
def E36_0g  : EnvK := EnvK.of [] noSeq
noncomputable def E36_0 : EnvK := E36_0g 
theorem eo36_0 : E36_0.Ok Try.prog := EnvK.of_ok noSeq_ok trivial
noncomputable def c36_0_13g  : MCode := (.seq (.seq (.region r36_16 [] (tO [0, 1, 5, 14])) (.cond (.tmp 14) .skip (.exit 0))) (.seq (.block 1 (.seq (.region r36_21 [] (tO [0, 1, 5, 25])) (.cond (.tmp 25) (.seq (.region r36_24 [] (tO [4])) .ret) .skip))) (.region r36_25 [] (tO [0, 1, 5]))))
noncomputable def c36_0_13 : MCode := c36_0_13g 
theorem g36_0_13 : c36_0_13.Good Try.prog E36_0 sh36 := ⟨⟨trivial, ⟨trivial, trivial⟩⟩, ⟨⟨trivial, ⟨⟨trivial, trivial⟩, trivial⟩⟩, trivial⟩⟩
--CODE 13 0
def S36_0_0g  (α : Type) (x3 x4 : Rows) (x5 : Int) (kn : Int → Option α) (k1 : Option α) (k2 : Int → Bool → Option α) : Option α :=
 cK (decide (x5 < ((List.length x3 : Nat) : Int)))
 (rowK x3 x5 [.int .i64]
 (fun x7 => rowK x4 x5 [.int .i64]
 (fun x8 => cK (x7 != x8)
 (k1)
 (kn (w64 (x5 + 1))))))
 (k2 x5 (decide (x5 < ((List.length x3 : Nat) : Int))))
noncomputable def S36_0_0 (α : Type) (x3 x4 : Rows) (x5 : Int) (kn : Int → Option α) (k1 : Option α) (k2 : Int → Bool → Option α) : Option α := S36_0_0g  α x3 x4 x5 kn k1 k2
noncomputable def R36_0_0 (α : Type) (x3 x4 : Rows) (k1 : Option α) (k2 : Int → Bool → Option α) : Nat → Int → Option α
 | 0, _ => none
 | n + 1, x5 => S36_0_0 α x3 x4 x5 (R36_0_0 α x3 x4 k1 k2 n) k1 k2
noncomputable def L36_0_0 (α : Type) (x3 x4 : Rows) (k1 : Option α) (k2 : Int → Bool → Option α) (x5 : Int) : Option α := R36_0_0 α x3 x4 k1 k2 fuel x5
abbrev TL36_0_0 : Type 1 := (α : Type) → Rows → Rows → (Option α) → (Int → Bool → Option α) → Int → Option α
def F36_0_0 (v : TL36_0_0) (α : Type) (K : Exit → St → Option α) : Rows → Rows → Int → Option α := fun x3 x4 x5 => v α x3 x4 (u36_0_1 (K .ret) false) (fun (y1 : Int) (y2 : Bool) => u36_0_2 (K (.exit 0)) x3 x4 y1 y2) x5
theorem r36_0_0g   (α : Type) (K : Exit → St → Option α) (Kn : St → Option α) (x3 x4 : Rows) (x5 : Int) : u36_0_0 (fun σ => runM Try.prog (E36_0g ) sh36 (c36_0_13g ) (thenK (fun σ => tidyK td36_13 σ Kn) K) σ) x3 x4 x5 = S36_0_0g  α x3 x4 x5 (fun x5 => u36_0_0 Kn x3 x4 x5) (u36_0_1 (K .ret) false) (fun (y1 : Int) (y2 : Bool) => u36_0_2 (K (.exit 0)) x3 x4 y1 y2) := by kernel_rfl
theorem r36_0_0 (α : Type) (K : Exit → St → Option α) (Kn : St → Option α) (x3 x4 : Rows) (x5 : Int) : u36_0_0 (fun σ => runM Try.prog E36_0 sh36 c36_0_13 (thenK (fun σ => tidyK td36_13 σ Kn) K) σ) x3 x4 x5 = S36_0_0 α x3 x4 x5 (fun x5 => u36_0_0 Kn x3 x4 x5) (u36_0_1 (K .ret) false) (fun (y1 : Int) (y2 : Bool) => u36_0_2 (K (.exit 0)) x3 x4 y1 y2) := r36_0_0g  α K Kn x3 x4 x5
theorem t36_0_0 (α : Type) (K : Exit → St → Option α) : ∀ (n : Nat) (x3 x4 : Rows) (x5 : Int), R36_0_0 α x3 x4 (u36_0_1 (K .ret) false) (fun (y1 : Int) (y2 : Bool) => u36_0_2 (K (.exit 0)) x3 x4 y1 y2) n x5 = u36_0_0 (loopT (runM Try.prog E36_0 sh36 c36_0_13) td36_13 K n) x3 x4 x5 := by
 intro n
 induction n with
 | zero => intros; rfl
 | succ n ih => intro x3 x4 x5; exact (congrArg (fun kn => S36_0_0 α x3 x4 x5 kn (u36_0_1 (K .ret) false) (fun (y1 : Int) (y2 : Bool) => u36_0_2 (K (.exit 0)) x3 x4 y1 y2)) (funext fun x5 => ih x3 x4 x5)).trans (r36_0_0 α K (loopT (runM Try.prog E36_0 sh36 c36_0_13) td36_13 K n) x3 x4 x5).symm
theorem m36_0_0 : ∀ (α : Type) (K : Exit → St → Option α), F36_0_0 L36_0_0 α K = p36_0_0.unc fun σ => loopT (runM Try.prog E36_0 sh36 c36_0_13) td36_13 K fuel σ := fun α K => funext fun x3 => funext fun x4 => funext fun x5 => t36_0_0 α K fuel x3 x4 x5
abbrev Tf36_0 : Type 1 := (α : Type) → Rows → Rows → (Bool → Option α) → Option α
def f36_0g (vL36_0_0 : TL36_0_0) (α : Type) (x1 x2 : Rows) (k1 : Bool → Option α) : Option α :=
 cK (((List.length x1 : Nat) : Int) != ((List.length x2 : Nat) : Int))
 (k1 false)
 (vL36_0_0 α x1 x2
 (k1 false)
 (fun x9 x10 => k1 true) 0)
noncomputable def f36_0 (α : Type) (x1 x2 : Rows) (k1 : Bool → Option α) : Option α := f36_0g L36_0_0 α x1 x2 k1
def pa36_0 : PT (List DV) := pA [pV false [dL], pV false [dL]]
def Fn36_0 (v : Tf36_0) (α : Type) (k : List RV → Option α) : Rows → Rows → Option α := fun x1 x2 => v α x1 x2 (fun (y1 : Bool) => ur36_0_0 k y1)
noncomputable def cm36_0g (vL36_0_0 : TL36_0_0) : MCode := (.seq (.region r36_2 [] (tO [0, 1])) (.seq (.seq (.region r36_5 [] (tO [0, 1, 10])) (.cond (.tmp 10) (.seq (.region r36_8 [] (tO [4])) .ret) .skip)) (.seq (.seq (.region r36_11 [] (tO [0, 1, 5])) (.block 0 (.loop td36_13 [⟨p36_0_0, F36_0_0 vL36_0_0⟩] c36_0_13))) (.seq (.region r36_27 [] (tO [4])) .ret))))
noncomputable def cm36_0 : MCode := cm36_0g L36_0_0
theorem gm36_0 : cm36_0.Good Try.prog E36_0 sh36 := ⟨trivial, ⟨⟨trivial, ⟨⟨trivial, trivial⟩, trivial⟩⟩, ⟨⟨trivial, ⟨g36_0_13, m36_0_0, trivial⟩⟩, ⟨trivial, trivial⟩⟩⟩⟩
theorem fm36_0g  (vL36_0_0 : TL36_0_0) (α : Type) (k : List RV → Option α) : Fn36_0 (f36_0g vL36_0_0) α k = pa36_0.unc fun ds => fnM Try.prog (E36_0g ) sh36 (cm36_0g vL36_0_0) rs36 k ds := by kernel_rfl
theorem fm36_0 : ∀ (α : Type) (k : List RV → Option α), Fn36_0 f36_0 α k = pa36_0.unc fun ds => fnM Try.prog E36_0 sh36 cm36_0 rs36 k ds := fm36_0g L36_0_0
theorem is36 : FnIs Try.prog 36 nt36 tr36 tl36 cm36_0.erase rs36 := ⟨Try.f36, Try.func36, rfl, by kernel_rfl, by kernel_rfl, by kernel_rfl⟩
theorem io36_0 : InstOk Try.prog 36 nt36 ⟨pa36_0, Fn36_0 f36_0⟩ := inst_ok eo36_0 followsTry is36 ⟨⟨sh36, cm36_0, by kernel_rfl, gm36_0, fm36_0⟩⟩
abbrev nt97 : Nat := 12
def sh97 : List (Nat × List Sh) := []
def r97_2 : List AOper := [oO 4 (.alloc [(cI 0), (cI 0)])]
def r97_4 : List AOper := [oM 5 0, oM 6 1, oO 7 (.bin .sub 3 (.tmp 5) (.tmp 6)), oM 8 0, oM 9 1, oO 10 (.bin .add 3 (.tmp 8) (.tmp 9)), oO 11 (.build [(cI 0), (cI 0)] [(0, 1, (.tmp 7)), (1, 1, (.tmp 10))]), oD (.store 2 (.tmp 4) (.tmp 11))]
def tr97 : List (Nat × Tidy) := [tT 0 [0, 1, 4], tT 1 [4]]
def tl97 : List (Nat × Tidy) := []
def rs97 : List AResV := [.cell 4 true 2]
def pr97_0_0 : PT (List RV) := pRs [pR true [rD (dI .i64), rD (dI .i64)]]
def ur97_0_0 {β : Type} (g : List RV → β) : Int → Int → β := pr97_0_0.unc g
def E97_0g  : EnvK := EnvK.of [] noSeq
noncomputable def E97_0 : EnvK := E97_0g 
theorem eo97_0 : E97_0.Ok Try.prog := EnvK.of_ok noSeq_ok trivial
abbrev Tf97_0 : Type 1 := (α : Type) → Int → Int → (Int → Int → Option α) → Option α
def f97_0g  (α : Type) (x1 x2 : Int) (k1 : Int → Int → Option α) : Option α :=
 k1 (w64 (x1 - x2)) (w64 (x1 + x2))
noncomputable def f97_0 (α : Type) (x1 x2 : Int) (k1 : Int → Int → Option α) : Option α := f97_0g  α x1 x2 k1
def pa97_0 : PT (List DV) := pA [pV false [(dI .i64)], pV false [(dI .i64)]]
def Fn97_0 (v : Tf97_0) (α : Type) (k : List RV → Option α) : Int → Int → Option α := fun x1 x2 => v α x1 x2 (fun (y1 : Int) (y2 : Int) => ur97_0_0 k y1 y2)
noncomputable def cm97_0g  : MCode := (.seq (.region r97_2 [] (tO [0, 1, 4])) (.seq (.region r97_4 [] (tO [4])) .ret))
noncomputable def cm97_0 : MCode := cm97_0g 
theorem gm97_0 : cm97_0.Good Try.prog E97_0 sh97 := ⟨trivial, ⟨trivial, trivial⟩⟩
theorem fm97_0g   (α : Type) (k : List RV → Option α) : Fn97_0 (f97_0g ) α k = pa97_0.unc fun ds => fnM Try.prog (E97_0g ) sh97 (cm97_0g ) rs97 k ds := by kernel_rfl
theorem fm97_0 : ∀ (α : Type) (k : List RV → Option α), Fn97_0 f97_0 α k = pa97_0.unc fun ds => fnM Try.prog E97_0 sh97 cm97_0 rs97 k ds := fm97_0g 
theorem is97 : FnIs Try.prog 97 nt97 tr97 tl97 cm97_0.erase rs97 := ⟨Try.f97, Try.func97, rfl, by kernel_rfl, by kernel_rfl, by kernel_rfl⟩
theorem io97_0 : InstOk Try.prog 97 nt97 ⟨pa97_0, Fn97_0 f97_0⟩ := inst_ok eo97_0 followsTry is97 ⟨⟨sh97, cm97_0, by kernel_rfl, gm97_0, fm97_0⟩⟩
abbrev nt72 : Nat := 22
def sh72 : List (Nat × List Sh) := [(7, [.sl]), (14, [.sl]), (16, [.flt .f32]), (17, [.flt .f32])]
def r72_2 : List AOper := [oO 1 (.box (.tmp 0)), oO 2 (.mv (.const (.slice none 0 0)))]
def r72_4 : List AOper := [oO 3 (.mv (.const (.slice none 0 0)))]
def r72_7 : List AOper := [oO 4 (.mv (kI 0))]
def td72_9 : Option Tidy := (some ⟨[1, 3, 4], true, [⟨false, 3, 0, 20003, 1⟩, ⟨true, 1, 0, 30100, 1⟩], []⟩)
def r72_12 : List AOper := [oM 5 4, oO 6 (.faddr 0 (.tmp 1)), oO 7 (.load false 1 (.tmp 6)), oO 8 (.len (.tmp 7)), oO 9 (.bin .lss 3 (.tmp 5) (.tmp 8))]
def r72_16 : List AOper := [oM 12 3, oO 13 (.faddr 0 (.tmp 1)), oO 14 (.load false 1 (.tmp 13)), oM 15 4, oO 16 (.iaddr 1 none (.tmp 14) (.tmp 15)), oO 17 (.load false 1 (.tmp 16)), oO 18 (.pure (oB (.convert 74 3 (.tmp 17)) 3)), oO 19 (.bslice 1 1 [(.v (.int .i64 0))] [(0, (.tmp 18))]), oO 20 (.append 1 8 (.tmp 12) (.tmp 19)), oM 3 20]
def r72_17 : List AOper := [oM 10 4, oO 11 (.bin .add 3 (.tmp 10) (kI 1)), oM 4 11]
def r72_19 : List AOper := [oM 21 3, oM 2 21]
def tr72 : List (Nat × Tidy) := [tT 0 [1], tT 1 [1, 3], tT 2 [1, 3, 4], tT 3 [1, 3, 4, 9], tT 5 [1, 3, 4], tT 4 [1, 3, 4], (6, ⟨[2], true, [⟨false, 2, 0, 20002, 1⟩], []⟩)]
def tl72 : List (Nat × Tidy) := [(3, ⟨[1, 3, 4], true, [⟨false, 3, 0, 20003, 1⟩, ⟨true, 1, 0, 30100, 1⟩], []⟩)]
def rs72 : List AResV := [.tmp 2]
def p72_0_0 : PT St := pS [sl 1 (aV false [(cPtr 1 0)]), sl 3 (aV false [(cRef 20003)]), sl 4 (aV false [(cD (dI .i64))])] [eBox 1 [(cD dL), (cD (dI .i64)), (cD (dI .i64))], eOwn 20003 1]
def u72_0_0 {β : Type} (g : St → β) : Int → Rows → Int → Int → Rows → β := p72_0_0.unc g
def p72_0_1 : PT St := pS [sl 1 (aV false [(cPtr 1 0)]), sl 3 (aV false [(cRef 20003)]), sl 4 (aV false [(cD (dI .i64))]), sl 9 (aV false [(cD dB)])] [eBox 1 [(cD dL), (cD (dI .i64)), (cD (dI .i64))], eOwn 20003 1]
def u72_0_1 {β : Type} (g : St → β) : Int → Bool → Rows → Int → Int → Rows → β := p72_0_1.unc g
def pr72_0_0 : PT (List RV) := pRs [pR false [rO 1]]
def ur72_0_0 {β : Type} (g : List RV → β) : Rows → β := pr72_0_0.unc g
def E72_0g  : EnvK := EnvK.of [] noSeq
noncomputable def E72_0 : EnvK := E72_0g 
theorem eo72_0 : E72_0.Ok Try.prog := EnvK.of_ok noSeq_ok trivial
noncomputable def c72_0_9g  : MCode := (.seq (.seq (.region r72_12 [] (tO [1, 3, 4, 9])) (.cond (.tmp 9) .skip (.exit 0))) (.seq (.block 1 (.region r72_16 [] (tO [1, 3, 4]))) (.region r72_17 [] (tO [1, 3, 4]))))
noncomputable def c72_0_9 : MCode := c72_0_9g 
theorem g72_0_9 : c72_0_9.Good Try.prog E72_0 sh72 := ⟨⟨trivial, ⟨trivial, trivial⟩⟩, ⟨trivial, trivial⟩⟩
--CODE 9 0
def S72_0_0g  (α : Type) (x5 : Rows) (x4 : Int) (x8 : Rows) (kn : Int → Rows → Option α) (k1 : Int → Bool → Rows → Option α) : Option α :=
 cK (decide (x4 < ((List.length x5 : Nat) : Int)))
 (rowK x5 x4 [.flt .f32]
 (fun x10 => ivK (f2i .f32 x10 .i64)
 (fun x11 => gK (apOk 1 8 x8 [[DC.v (.int .i64 x11)]]) (kn (w64 (x4 + 1)) (x8 ++ [[DC.v (.int .i64 x11)]])))))
 (k1 x4 (decide (x4 < ((List.length x5 : Nat) : Int))) x8)
noncomputable def S72_0_0 (α : Type) (x5 : Rows) (x4 : Int) (x8 : Rows) (kn : Int → Rows → Option α) (k1 : Int → Bool → Rows → Option α) : Option α := S72_0_0g  α x5 x4 x8 kn k1
noncomputable def R72_0_0 (α : Type) (x5 : Rows) (k1 : Int → Bool → Rows → Option α) : Nat → Int → Rows → Option α
 | 0, _, _ => none
 | n + 1, x4, x8 => S72_0_0 α x5 x4 x8 (R72_0_0 α x5 k1 n) k1
noncomputable def L72_0_0 (α : Type) (x5 : Rows) (k1 : Int → Bool → Rows → Option α) (x4 : Int) (x8 : Rows) : Option α := R72_0_0 α x5 k1 fuel x4 x8
abbrev TL72_0_0 : Type 1 := (α : Type) → Rows → (Int → Bool → Rows → Option α) → Int → Rows → Option α
def F72_0_0 (v : TL72_0_0) (α : Type) (K : Exit → St → Option α) : Int → Rows → Int → Int → Rows → Option α := fun x4 x5 x6 x7 x8 => v α x5 (fun (y1 : Int) (y2 : Bool) (y3 : Rows) => u72_0_1 (K (.exit 0)) y1 y2 x5 x6 x7 y3) x4 x8
theorem r72_0_0g   (α : Type) (K : Exit → St → Option α) (Kn : St → Option α) (x4 : Int) (x5 : Rows) (x6 x7 : Int) (x8 : Rows) : u72_0_0 (fun σ => runM Try.prog (E72_0g ) sh72 (c72_0_9g ) (thenK (fun σ => tidyK td72_9 σ Kn) K) σ) x4 x5 x6 x7 x8 = S72_0_0g  α x5 x4 x8 (fun x4 x8 => u72_0_0 Kn x4 x5 x6 x7 x8) (fun (y1 : Int) (y2 : Bool) (y3 : Rows) => u72_0_1 (K (.exit 0)) y1 y2 x5 x6 x7 y3) := by kernel_rfl
theorem r72_0_0 (α : Type) (K : Exit → St → Option α) (Kn : St → Option α) (x4 : Int) (x5 : Rows) (x6 x7 : Int) (x8 : Rows) : u72_0_0 (fun σ => runM Try.prog E72_0 sh72 c72_0_9 (thenK (fun σ => tidyK td72_9 σ Kn) K) σ) x4 x5 x6 x7 x8 = S72_0_0 α x5 x4 x8 (fun x4 x8 => u72_0_0 Kn x4 x5 x6 x7 x8) (fun (y1 : Int) (y2 : Bool) (y3 : Rows) => u72_0_1 (K (.exit 0)) y1 y2 x5 x6 x7 y3) := r72_0_0g  α K Kn x4 x5 x6 x7 x8
theorem t72_0_0 (α : Type) (K : Exit → St → Option α) : ∀ (n : Nat) (x4 : Int) (x5 : Rows) (x6 x7 : Int) (x8 : Rows), R72_0_0 α x5 (fun (y1 : Int) (y2 : Bool) (y3 : Rows) => u72_0_1 (K (.exit 0)) y1 y2 x5 x6 x7 y3) n x4 x8 = u72_0_0 (loopT (runM Try.prog E72_0 sh72 c72_0_9) td72_9 K n) x4 x5 x6 x7 x8 := by
 intro n
 induction n with
 | zero => intros; rfl
 | succ n ih => intro x4 x5 x6 x7 x8; exact (congrArg (fun kn => S72_0_0 α x5 x4 x8 kn (fun (y1 : Int) (y2 : Bool) (y3 : Rows) => u72_0_1 (K (.exit 0)) y1 y2 x5 x6 x7 y3)) (funext fun x4 => funext fun x8 => ih x4 x5 x6 x7 x8)).trans (r72_0_0 α K (loopT (runM Try.prog E72_0 sh72 c72_0_9) td72_9 K n) x4 x5 x6 x7 x8).symm
theorem m72_0_0 : ∀ (α : Type) (K : Exit → St → Option α), F72_0_0 L72_0_0 α K = p72_0_0.unc fun σ => loopT (runM Try.prog E72_0 sh72 c72_0_9) td72_9 K fuel σ := fun α K => funext fun x4 => funext fun x5 => funext fun x6 => funext fun x7 => funext fun x8 => t72_0_0 α K fuel x4 x5 x6 x7 x8
abbrev Tf72_0 : Type 1 := (α : Type) → Rows → Int → Int → (Rows → Option α) → Option α
def f72_0g (vL72_0_0 : TL72_0_0) (α : Type) (x1 : Rows) (x2 x3 : Int) (k1 : Rows → Option α) : Option α :=
 vL72_0_0 α x1
 (fun x12 x13 x14 => k1 x14) 0 ([] : Rows)
noncomputable def f72_0 (α : Type) (x1 : Rows) (x2 x3 : Int) (k1 : Rows → Option α) : Option α := f72_0g L72_0_0 α x1 x2 x3 k1
def pa72_0 : PT (List DV) := pA [pV true [dL, (dI .i64), (dI .i64)]]
def Fn72_0 (v : Tf72_0) (α : Type) (k : List RV → Option α) : Rows → Int → Int → Option α := fun x1 x2 x3 => v α x1 x2 x3 (fun (y1 : Rows) => ur72_0_0 k y1)
noncomputable def cm72_0g (vL72_0_0 : TL72_0_0) : MCode := (.seq (.region r72_2 [] (tO [1])) (.seq (.region r72_4 [] (tO [1, 3])) (.seq (.seq (.region r72_7 [] (tO [1, 3, 4])) (.block 0 (.loop td72_9 [⟨p72_0_0, F72_0_0 vL72_0_0⟩] c72_0_9))) (.seq (.region r72_19 [] (some ⟨[2], true, [⟨false, 2, 0, 20002, 1⟩], []⟩)) .ret))))
noncomputable def cm72_0 : MCode := cm72_0g L72_0_0
theorem gm72_0 : cm72_0.Good Try.prog E72_0 sh72 := ⟨trivial, ⟨trivial, ⟨⟨trivial, ⟨g72_0_9, m72_0_0, trivial⟩⟩, ⟨trivial, trivial⟩⟩⟩⟩
theorem fm72_0g  (vL72_0_0 : TL72_0_0) (α : Type) (k : List RV → Option α) : Fn72_0 (f72_0g vL72_0_0) α k = pa72_0.unc fun ds => fnM Try.prog (E72_0g ) sh72 (cm72_0g vL72_0_0) rs72 k ds := by kernel_rfl
theorem fm72_0 : ∀ (α : Type) (k : List RV → Option α), Fn72_0 f72_0 α k = pa72_0.unc fun ds => fnM Try.prog E72_0 sh72 cm72_0 rs72 k ds := fm72_0g L72_0_0
theorem is72 : FnIs Try.prog 72 nt72 tr72 tl72 cm72_0.erase rs72 := ⟨Try.f72, Try.func72, rfl, by kernel_rfl, by kernel_rfl, by kernel_rfl⟩
theorem io72_0 : InstOk Try.prog 72 nt72 ⟨pa72_0, Fn72_0 f72_0⟩ := inst_ok eo72_0 followsTry is72 ⟨⟨sh72, cm72_0, by kernel_rfl, gm72_0, fm72_0⟩⟩
abbrev nt76 : Nat := 12
def sh76 : List (Nat × List Sh) := []
def r76_2 : List AOper := [oO 4 (.alloc [(cI 0), (cI 0)])]
def r76_4 : List AOper := [oM 5 0, oM 6 1, oO 7 (.bin .sub 3 (.tmp 5) (.tmp 6)), oM 8 0, oM 9 1, oO 10 (.bin .add 3 (.tmp 8) (.tmp 9)), oO 11 (.build [(cI 0), (cI 0)] [(0, 1, (.tmp 7)), (1, 1, (.tmp 10))]), oD (.store 2 (.tmp 4) (.tmp 11))]
def tr76 : List (Nat × Tidy) := [tT 0 [0, 1, 4], tT 1 [4]]
def tl76 : List (Nat × Tidy) := []
def rs76 : List AResV := [.cell 4 true 2]
def pr76_0_0 : PT (List RV) := pRs [pR true [rD (dI .i64), rD (dI .i64)]]
def ur76_0_0 {β : Type} (g : List RV → β) : Int → Int → β := pr76_0_0.unc g
def E76_0g  : EnvK := EnvK.of [] noSeq
noncomputable def E76_0 : EnvK := E76_0g 
theorem eo76_0 : E76_0.Ok Try.prog := EnvK.of_ok noSeq_ok trivial
abbrev Tf76_0 : Type 1 := (α : Type) → Int → Int → (Int → Int → Option α) → Option α
def f76_0g  (α : Type) (x1 x2 : Int) (k1 : Int → Int → Option α) : Option α :=
 k1 (w64 (x1 - x2)) (w64 (x1 + x2))
noncomputable def f76_0 (α : Type) (x1 x2 : Int) (k1 : Int → Int → Option α) : Option α := f76_0g  α x1 x2 k1
def pa76_0 : PT (List DV) := pA [pV false [(dI .i64)], pV false [(dI .i64)]]
def Fn76_0 (v : Tf76_0) (α : Type) (k : List RV → Option α) : Int → Int → Option α := fun x1 x2 => v α x1 x2 (fun (y1 : Int) (y2 : Int) => ur76_0_0 k y1 y2)
noncomputable def cm76_0g  : MCode := (.seq (.region r76_2 [] (tO [0, 1, 4])) (.seq (.region r76_4 [] (tO [4])) .ret))
noncomputable def cm76_0 : MCode := cm76_0g 
theorem gm76_0 : cm76_0.Good Try.prog E76_0 sh76 := ⟨trivial, ⟨trivial, trivial⟩⟩
theorem fm76_0g   (α : Type) (k : List RV → Option α) : Fn76_0 (f76_0g ) α k = pa76_0.unc fun ds => fnM Try.prog (E76_0g ) sh76 (cm76_0g ) rs76 k ds := by kernel_rfl
theorem fm76_0 : ∀ (α : Type) (k : List RV → Option α), Fn76_0 f76_0 α k = pa76_0.unc fun ds => fnM Try.prog E76_0 sh76 cm76_0 rs76 k ds := fm76_0g 
theorem is76 : FnIs Try.prog 76 nt76 tr76 tl76 cm76_0.erase rs76 := ⟨Try.f76, Try.func76, rfl, by kernel_rfl, by kernel_rfl, by kernel_rfl⟩
theorem io76_0 : InstOk Try.prog 76 nt76 ⟨pa76_0, Fn76_0 f76_0⟩ := inst_ok eo76_0 followsTry is76 ⟨⟨sh76, cm76_0, by kernel_rfl, gm76_0, fm76_0⟩⟩
abbrev nt75 : Nat := 24
def sh75 : List (Nat × List Sh) := [(7, [.sl]), (12, [.int .i64]), (13, [.int .i64]), (16, [.int .i64])]
def r75_2 : List AOper := [oO 1 (.box (.tmp 0)), oO 2 (.mv (.const (.slice none 0 0)))]
def r75_4 : List AOper := [oO 3 (.mv (.const (.slice none 0 0)))]
def r75_7 : List AOper := [oO 6 (.faddr 0 (.tmp 1)), oO 7 (.load false 1 (.tmp 6)), oO 8 (.len (.tmp 7)), oO 9 (.mv (kI 0))]
def td75_9 : Option Tidy := (some ⟨[1, 3, 7, 8, 9], true, [⟨false, 3, 0, 20003, 1⟩, ⟨false, 7, 0, 20007, 1⟩, ⟨true, 1, 0, 30100, 1⟩], []⟩)
def r75_11 : List AOper := [oO 10 (.bin .lss 3 (.tmp 9) (.tmp 8))]
def r75_17 : List AOper := [oM 11 9, oO 12 (.iaddr 1 none (.tmp 7) (.tmp 9)), oO 13 (.load false 1 (.tmp 12)), oM 4 11, oM 5 13]
def r75_19 : List AOper := [oM 14 5, oO 15 (.faddr 2 (.tmp 1)), oO 16 (.load false 1 (.tmp 15)), oO 17 (.bin .geq 3 (.tmp 14) (.tmp 16))]
def r75_21 : List AOper := [oM 18 3, oM 19 4, oO 20 (.bslice 1 1 [(.v (.int .i64 0))] [(0, (.tmp 19))]), oO 21 (.append 1 8 (.tmp 18) (.tmp 20)), oM 3 21]
def r75_22 : List AOper := [oO 22 (.bin .add 3 (.tmp 9) (kI 1)), oM 9 22]
def r75_24 : List AOper := [oM 23 3, oM 2 23]
def tr75 : List (Nat × Tidy) := [tT 0 [1], tT 1 [1, 3], tT 2 [1, 3, 7, 8, 9], tT 3 [1, 3, 7, 8, 9, 10], tT 4 [1, 3, 4, 5, 7, 8, 9], tT 5 [1, 3, 4, 7, 8, 9, 17], tT 6 [1, 3, 7, 8, 9], tT 7 [1, 3, 7, 8, 9], (8, ⟨[2], true, [⟨false, 2, 0, 20002, 1⟩], []⟩)]
def tl75 : List (Nat × Tidy) := [(3, ⟨[1, 3, 7, 8, 9], true, [⟨false, 3, 0, 20003, 1⟩, ⟨false, 7, 0, 20007, 1⟩, ⟨true, 1, 0, 30100, 1⟩], []⟩)]
def rs75 : List AResV := [.tmp 2]
def p75_0_0 : PT St := pS [sl 1 (aV false [(cPtr 1 0)]), sl 3 (aV false [(cRef 20003)]), sl 7 (aV false [(cD dL)]), sl 8 (aV false [(cD (dI .i64))]), sl 9 (aV false [(cD (dI .i64))])] [eBox 1 [(cD dL), (cD (dI .i64)), (cD (dI .i64))], eOwn 20003 1]
def u75_0_0 {β : Type} (g : St → β) : Rows → Int → Int → Rows → Int → Int → Rows → β := p75_0_0.unc g
def p75_0_1 : PT St := pS [sl 1 (aV false [(cPtr 1 0)]), sl 3 (aV false [(cRef 20003)]), sl 7 (aV false [(cD dL)]), sl 8 (aV false [(cD (dI .i64))]), sl 9 (aV false [(cD (dI .i64))]), sl 10 (aV false [(cD dB)])] [eBox 1 [(cD dL), (cD (dI .i64)), (cD (dI .i64))], eOwn 20003 1]
def u75_0_1 {β : Type} (g : St → β) : Rows → Int → Int → Bool → Rows → Int → Int → Rows → β := p75_0_1.unc g
def pr75_0_0 : PT (List RV) := pRs [pR false [rO 1]]
def ur75_0_0 {β : Type} (g : List RV → β) : Rows → β := pr75_0_0.unc g
def E75_0g  : EnvK := EnvK.of [] noSeq
noncomputable def E75_0 : EnvK := E75_0g 
theorem eo75_0 : E75_0.Ok Try.prog := EnvK.of_ok noSeq_ok trivial
noncomputable def c75_0_9g  : MCode := (.seq (.region r75_11 [] (tO [1, 3, 7, 8, 9, 10])) (.seq (.cond (.tmp 10) .skip (.exit 0)) (.seq (.block 1 (.seq (.region r75_17 [] (tO [1, 3, 4, 5, 7, 8, 9])) (.seq (.region r75_19 [] (tO [1, 3, 4, 7, 8, 9, 17])) (.cond (.tmp 17) (.region r75_21 [] (tO [1, 3, 7, 8, 9])) .skip)))) (.region r75_22 [] (tO [1, 3, 7, 8, 9])))))
noncomputable def c75_0_9 : MCode := c75_0_9g 
theorem g75_0_9 : c75_0_9.Good Try.prog E75_0 sh75 := ⟨trivial, ⟨⟨trivial, trivial⟩, ⟨⟨trivial, ⟨trivial, ⟨trivial, trivial⟩⟩⟩, trivial⟩⟩⟩
--CODE 9 0
def S75_0_0g  (α : Type) (x4 : Rows) (x5 x9 x6 : Int) (x10 : Rows) (kn : Int → Rows → Option α) (k1 : Int → Bool → Rows → Option α) : Option α :=
 cK (decide (x6 < x5))
 (rowK x4 x6 [.int .i64]
 (fun x12 => cK (decide (x9 ≤ x12))
 (gK (apOk 1 8 x10 [[DC.v (.int .i64 x6)]]) (kn (w64 (x6 + 1)) (x10 ++ [[DC.v (.int .i64 x6)]])))
 (kn (w64 (x6 + 1)) x10)))
 (k1 x6 (decide (x6 < x5)) x10)
noncomputable def S75_0_0 (α : Type) (x4 : Rows) (x5 x9 x6 : Int) (x10 : Rows) (kn : Int → Rows → Option α) (k1 : Int → Bool → Rows → Option α) : Option α := S75_0_0g  α x4 x5 x9 x6 x10 kn k1
noncomputable def R75_0_0 (α : Type) (x4 : Rows) (x5 x9 : Int) (k1 : Int → Bool → Rows → Option α) : Nat → Int → Rows → Option α
 | 0, _, _ => none
 | n + 1, x6, x10 => S75_0_0 α x4 x5 x9 x6 x10 (R75_0_0 α x4 x5 x9 k1 n) k1
noncomputable def L75_0_0 (α : Type) (x4 : Rows) (x5 x9 : Int) (k1 : Int → Bool → Rows → Option α) (x6 : Int) (x10 : Rows) : Option α := R75_0_0 α x4 x5 x9 k1 fuel x6 x10
abbrev TL75_0_0 : Type 1 := (α : Type) → Rows → Int → Int → (Int → Bool → Rows → Option α) → Int → Rows → Option α
def F75_0_0 (v : TL75_0_0) (α : Type) (K : Exit → St → Option α) : Rows → Int → Int → Rows → Int → Int → Rows → Option α := fun x4 x5 x6 x7 x8 x9 x10 => v α x4 x5 x9 (fun (y1 : Int) (y2 : Bool) (y3 : Rows) => u75_0_1 (K (.exit 0)) x4 x5 y1 y2 x7 x8 x9 y3) x6 x10
theorem r75_0_0g   (α : Type) (K : Exit → St → Option α) (Kn : St → Option α) (x4 : Rows) (x5 x6 : Int) (x7 : Rows) (x8 x9 : Int) (x10 : Rows) : u75_0_0 (fun σ => runM Try.prog (E75_0g ) sh75 (c75_0_9g ) (thenK (fun σ => tidyK td75_9 σ Kn) K) σ) x4 x5 x6 x7 x8 x9 x10 = S75_0_0g  α x4 x5 x9 x6 x10 (fun x6 x10 => u75_0_0 Kn x4 x5 x6 x7 x8 x9 x10) (fun (y1 : Int) (y2 : Bool) (y3 : Rows) => u75_0_1 (K (.exit 0)) x4 x5 y1 y2 x7 x8 x9 y3) := by kernel_rfl
theorem r75_0_0 (α : Type) (K : Exit → St → Option α) (Kn : St → Option α) (x4 : Rows) (x5 x6 : Int) (x7 : Rows) (x8 x9 : Int) (x10 : Rows) : u75_0_0 (fun σ => runM Try.prog E75_0 sh75 c75_0_9 (thenK (fun σ => tidyK td75_9 σ Kn) K) σ) x4 x5 x6 x7 x8 x9 x10 = S75_0_0 α x4 x5 x9 x6 x10 (fun x6 x10 => u75_0_0 Kn x4 x5 x6 x7 x8 x9 x10) (fun (y1 : Int) (y2 : Bool) (y3 : Rows) => u75_0_1 (K (.exit 0)) x4 x5 y1 y2 x7 x8 x9 y3) := r75_0_0g  α K Kn x4 x5 x6 x7 x8 x9 x10
theorem t75_0_0 (α : Type) (K : Exit → St → Option α) : ∀ (n : Nat) (x4 : Rows) (x5 x6 : Int) (x7 : Rows) (x8 x9 : Int) (x10 : Rows), R75_0_0 α x4 x5 x9 (fun (y1 : Int) (y2 : Bool) (y3 : Rows) => u75_0_1 (K (.exit 0)) x4 x5 y1 y2 x7 x8 x9 y3) n x6 x10 = u75_0_0 (loopT (runM Try.prog E75_0 sh75 c75_0_9) td75_9 K n) x4 x5 x6 x7 x8 x9 x10 := by
 intro n
 induction n with
 | zero => intros; rfl
 | succ n ih => intro x4 x5 x6 x7 x8 x9 x10; exact (congrArg (fun kn => S75_0_0 α x4 x5 x9 x6 x10 kn (fun (y1 : Int) (y2 : Bool) (y3 : Rows) => u75_0_1 (K (.exit 0)) x4 x5 y1 y2 x7 x8 x9 y3)) (funext fun x6 => funext fun x10 => ih x4 x5 x6 x7 x8 x9 x10)).trans (r75_0_0 α K (loopT (runM Try.prog E75_0 sh75 c75_0_9) td75_9 K n) x4 x5 x6 x7 x8 x9 x10).symm
theorem m75_0_0 : ∀ (α : Type) (K : Exit → St → Option α), F75_0_0 L75_0_0 α K = p75_0_0.unc fun σ => loopT (runM Try.prog E75_0 sh75 c75_0_9) td75_9 K fuel σ := fun α K => funext fun x4 => funext fun x5 => funext fun x6 => funext fun x7 => funext fun x8 => funext fun x9 => funext fun x10 => t75_0_0 α K fuel x4 x5 x6 x7 x8 x9 x10
abbrev Tf75_0 : Type 1 := (α : Type) → Rows → Int → Int → (Rows → Option α) → Option α
def f75_0g (vL75_0_0 : TL75_0_0) (α : Type) (x1 : Rows) (x2 x3 : Int) (k1 : Rows → Option α) : Option α :=
 vL75_0_0 α x1 ((List.length x1 : Nat) : Int) x3
 (fun x13 x14 x15 => k1 x15) 0 ([] : Rows)
noncomputable def f75_0 (α : Type) (x1 : Rows) (x2 x3 : Int) (k1 : Rows → Option α) : Option α := f75_0g L75_0_0 α x1 x2 x3 k1
def pa75_0 : PT (List DV) := pA [pV true [dL, (dI .i64), (dI .i64)]]
def Fn75_0 (v : Tf75_0) (α : Type) (k : List RV → Option α) : Rows → Int → Int → Option α := fun x1 x2 x3 => v α x1 x2 x3 (fun (y1 : Rows) => ur75_0_0 k y1)
noncomputable def cm75_0g (vL75_0_0 : TL75_0_0) : MCode := (.seq (.region r75_2 [] (tO [1])) (.seq (.region r75_4 [] (tO [1, 3])) (.seq (.seq (.region r75_7 [] (tO [1, 3, 7, 8, 9])) (.block 0 (.loop td75_9 [⟨p75_0_0, F75_0_0 vL75_0_0⟩] c75_0_9))) (.seq (.region r75_24 [] (some ⟨[2], true, [⟨false, 2, 0, 20002, 1⟩], []⟩)) .ret))))
noncomputable def cm75_0 : MCode := cm75_0g L75_0_0
theorem gm75_0 : cm75_0.Good Try.prog E75_0 sh75 := ⟨trivial, ⟨trivial, ⟨⟨trivial, ⟨g75_0_9, m75_0_0, trivial⟩⟩, ⟨trivial, trivial⟩⟩⟩⟩
theorem fm75_0g  (vL75_0_0 : TL75_0_0) (α : Type) (k : List RV → Option α) : Fn75_0 (f75_0g vL75_0_0) α k = pa75_0.unc fun ds => fnM Try.prog (E75_0g ) sh75 (cm75_0g vL75_0_0) rs75 k ds := by kernel_rfl
theorem fm75_0 : ∀ (α : Type) (k : List RV → Option α), Fn75_0 f75_0 α k = pa75_0.unc fun ds => fnM Try.prog E75_0 sh75 cm75_0 rs75 k ds := fm75_0g L75_0_0
theorem is75 : FnIs Try.prog 75 nt75 tr75 tl75 cm75_0.erase rs75 := ⟨Try.f75, Try.func75, rfl, by kernel_rfl, by kernel_rfl, by kernel_rfl⟩
theorem io75_0 : InstOk Try.prog 75 nt75 ⟨pa75_0, Fn75_0 f75_0⟩ := inst_ok eo75_0 followsTry is75 ⟨⟨sh75, cm75_0, by kernel_rfl, gm75_0, fm75_0⟩⟩
abbrev nt69 : Nat := 10
def sh69 : List (Nat × List Sh) := [(4, [.int .i64]), (7, [.int .i64])]
def r69_2 : List AOper := [oO 1 (.box (.tmp 0)), oO 2 (.mv (.const (.complex Go.FloatKind.f64 0 0)))]
def r69_4 : List AOper := [oO 3 (.faddr 0 (.tmp 1)), oO 4 (.load false 1 (.tmp 3)), oO 5 (.pure (oB (.convert 3 112 (.tmp 4)) 112)), oO 6 (.faddr 1 (.tmp 1)), oO 7 (.load false 1 (.tmp 6)), oO 8 (.pure (oB (.convert 3 112 (.tmp 7)) 112)), oO 9 (.pure (oB (.call { callee := .builtin .complex, args := #[(.tmp 5), (.tmp 8)], argTypes := #[112, 112] }) 26)), oM 2 9]
def tr69 : List (Nat × Tidy) := [tT 0 [1], tT 1 [2]]
def tl69 : List (Nat × Tidy) := []
def rs69 : List AResV := [.tmp 2]
def pr69_0_0 : PT (List RV) := pRs [pR false [rD (dX .f64)]]
def ur69_0_0 {β : Type} (g : List RV → β) : Nat → Nat → β := pr69_0_0.unc g
def E69_0g  : EnvK := EnvK.of [] noSeq
noncomputable def E69_0 : EnvK := E69_0g 
theorem eo69_0 : E69_0.Ok Try.prog := EnvK.of_ok noSeq_ok trivial
abbrev Tf69_0 : Type 1 := (α : Type) → Int → Int → (Nat → Nat → Option α) → Option α
def f69_0g  (α : Type) (x1 x2 : Int) (k1 : Nat → Nat → Option α) : Option α :=
 k1 (FloatKind.nearest .f64 x1) (FloatKind.nearest .f64 x2)
noncomputable def f69_0 (α : Type) (x1 x2 : Int) (k1 : Nat → Nat → Option α) : Option α := f69_0g  α x1 x2 k1
def pa69_0 : PT (List DV) := pA [pV true [(dI .i64), (dI .i64)]]
def Fn69_0 (v : Tf69_0) (α : Type) (k : List RV → Option α) : Int → Int → Option α := fun x1 x2 => v α x1 x2 (fun (y1 : Nat) (y2 : Nat) => ur69_0_0 k y1 y2)
noncomputable def cm69_0g  : MCode := (.seq (.region r69_2 [] (tO [1])) (.seq (.region r69_4 [] (tO [2])) .ret))
noncomputable def cm69_0 : MCode := cm69_0g 
theorem gm69_0 : cm69_0.Good Try.prog E69_0 sh69 := ⟨trivial, ⟨trivial, trivial⟩⟩
theorem fm69_0g   (α : Type) (k : List RV → Option α) : Fn69_0 (f69_0g ) α k = pa69_0.unc fun ds => fnM Try.prog (E69_0g ) sh69 (cm69_0g ) rs69 k ds := by kernel_rfl
theorem fm69_0 : ∀ (α : Type) (k : List RV → Option α), Fn69_0 f69_0 α k = pa69_0.unc fun ds => fnM Try.prog E69_0 sh69 cm69_0 rs69 k ds := fm69_0g 
theorem is69 : FnIs Try.prog 69 nt69 tr69 tl69 cm69_0.erase rs69 := ⟨Try.f69, Try.func69, rfl, by kernel_rfl, by kernel_rfl, by kernel_rfl⟩
theorem io69_0 : InstOk Try.prog 69 nt69 ⟨pa69_0, Fn69_0 f69_0⟩ := inst_ok eo69_0 followsTry is69 ⟨⟨sh69, cm69_0, by kernel_rfl, gm69_0, fm69_0⟩⟩
abbrev nt119 : Nat := 35
def sh119 : List (Nat × List Sh) := [(12, [.int .i64]), (15, [.int .i64]), (20, [.int .i64]), (23, [.int .i64]), (29, [.int .i64]), (31, [.int .i64]), (34, [.int .i64, .int .i64])]
def r119_2 : List AOper := [oO 2 (.box (.tmp 0)), oO 4 (.alloc [(cI 0), (cI 0)])]
def r119_5 : List AOper := [oM 5 1, oO 6 (.bin .rem 3 (.tmp 5) (kI 4)), oO 7 (.bin .add 3 (.tmp 6) (kI 4)), oO 8 (.bin .rem 3 (.tmp 7) (kI 4))]
def r119_8 : List AOper := [oO 10 (.bin .eql 3 (.tmp 8) (kI 1)), oM 9 10]
def r119_11 : List AOper := [oO 11 (.faddr 1 (.tmp 2)), oO 12 (.load false 1 (.tmp 11)), oO 13 (.pure (oB (.unOp .neg 3 (.tmp 12)) 3)), oO 14 (.faddr 0 (.tmp 2)), oO 15 (.load false 1 (.tmp 14)), oO 16 (.build [(cI 0), (cI 0)] [(0, 1, (.tmp 13)), (1, 1, (.tmp 15))]), oD (.store 2 (.tmp 4) (.tmp 16))]
def r119_13 : List AOper := [oO 18 (.bin .eql 3 (.tmp 8) (kI 2)), oM 17 18]
def r119_16 : List AOper := [oO 19 (.faddr 0 (.tmp 2)), oO 20 (.load false 1 (.tmp 19)), oO 21 (.pure (oB (.unOp .neg 3 (.tmp 20)) 3)), oO 22 (.faddr 1 (.tmp 2)), oO 23 (.load false 1 (.tmp 22)), oO 24 (.pure (oB (.unOp .neg 3 (.tmp 23)) 3)), oO 25 (.build [(cI 0), (cI 0)] [(0, 1, (.tmp 21)), (1, 1, (.tmp 24))]), oD (.store 2 (.tmp 4) (.tmp 25))]
def r119_18 : List AOper := [oO 27 (.bin .eql 3 (.tmp 8) (kI 3)), oM 26 27]
def r119_21 : List AOper := [oO 28 (.faddr 1 (.tmp 2)), oO 29 (.load false 1 (.tmp 28)), oO 30 (.faddr 0 (.tmp 2)), oO 31 (.load false 1 (.tmp 30)), oO 32 (.pure (oB (.unOp .neg 3 (.tmp 31)) 3)), oO 33 (.build [(cI 0), (cI 0)] [(0, 1, (.tmp 29)), (1, 1, (.tmp 32))]), oD (.store 2 (.tmp 4) (.tmp 33))]
def r119_23 : List AOper := [oO 34 (.load true 2 (.tmp 2)), oD (.store 2 (.tmp 4) (.tmp 34))]
def tr119 : List (Nat × Tidy) := [tT 0 [1, 2, 4], tT 1 [2, 4, 8], tT 2 [2, 4, 8, 9], tT 3 [4], tT 4 [2, 4, 8, 17], tT 5 [4], tT 6 [2, 4, 26], tT 7 [4], tT 8 [4]]
def tl119 : List (Nat × Tidy) := []
def rs119 : List AResV := [.cell 4 true 2]
def pr119_0_0 : PT (List RV) := pRs [pR true [rD (dI .i64), rD (dI .i64)]]
def ur119_0_0 {β : Type} (g : List RV → β) : Int → Int → β := pr119_0_0.unc g
def E119_0g  : EnvK := EnvK.of [] noSeq
noncomputable def E119_0 : EnvK := E119_0g 
theorem eo119_0 : E119_0.Ok Try.prog := EnvK.of_ok noSeq_ok trivial
abbrev Tf119_0 : Type 1 := (α : Type) → Int → Int → Int → (Int → Int → Option α) → Option α
def f119_0g  (α : Type) (x1 x2 x3 : Int) (k1 : Int → Int → Option α) : Option α :=
 cK ((Int.tmod (w64 ((Int.tmod x3 4) + 4)) 4) == 1)
 (k1 (w64 (0 - x2)) x1)
 (cK ((Int.tmod (w64 ((Int.tmod x3 4) + 4)) 4) == 2)
 (k1 (w64 (0 - x1)) (w64 (0 - x2)))
 (cK ((Int.tmod (w64 ((Int.tmod x3 4) + 4)) 4) == 3)
 (k1 x2 (w64 (0 - x1)))
 (k1 x1 x2)))
noncomputable def f119_0 (α : Type) (x1 x2 x3 : Int) (k1 : Int → Int → Option α) : Option α := f119_0g  α x1 x2 x3 k1
def pa119_0 : PT (List DV) := pA [pV true [(dI .i64), (dI .i64)], pV false [(dI .i64)]]
def Fn119_0 (v : Tf119_0) (α : Type) (k : List RV → Option α) : Int → Int → Int → Option α := fun x1 x2 x3 => v α x1 x2 x3 (fun (y1 : Int) (y2 : Int) => ur119_0_0 k y1 y2)
noncomputable def cm119_0g  : MCode := (.seq (.region r119_2 [] (tO [1, 2, 4])) (.seq (.seq (.region r119_5 [] (tO [2, 4, 8])) (.block 0 (.seq (.region r119_8 [] (tO [2, 4, 8, 9])) (.cond (.tmp 9) (.seq (.region r119_11 [] (tO [4])) .ret) (.seq (.region r119_13 [] (tO [2, 4, 8, 17])) (.cond (.tmp 17) (.seq (.region r119_16 [] (tO [4])) .ret) (.seq (.region r119_18 [] (tO [2, 4, 26])) (.cond (.tmp 26) (.seq (.region r119_21 [] (tO [4])) .ret) .skip)))))))) (.seq (.region r119_23 [] (tO [4])) .ret)))
noncomputable def cm119_0 : MCode := cm119_0g 
theorem gm119_0 : cm119_0.Good Try.prog E119_0 sh119 := ⟨trivial, ⟨⟨trivial, ⟨trivial, ⟨⟨trivial, trivial⟩, ⟨trivial, ⟨⟨trivial, trivial⟩, ⟨trivial, ⟨⟨trivial, trivial⟩, trivial⟩⟩⟩⟩⟩⟩⟩, ⟨trivial, trivial⟩⟩⟩
theorem fm119_0g   (α : Type) (k : List RV → Option α) : Fn119_0 (f119_0g ) α k = pa119_0.unc fun ds => fnM Try.prog (E119_0g ) sh119 (cm119_0g ) rs119 k ds := by kernel_rfl
theorem fm119_0 : ∀ (α : Type) (k : List RV → Option α), Fn119_0 f119_0 α k = pa119_0.unc fun ds => fnM Try.prog E119_0 sh119 cm119_0 rs119 k ds := fm119_0g 
theorem is119 : FnIs Try.prog 119 nt119 tr119 tl119 cm119_0.erase rs119 := ⟨Try.f119, Try.func119, rfl, by kernel_rfl, by kernel_rfl, by kernel_rfl⟩
theorem io119_0 : InstOk Try.prog 119 nt119 ⟨pa119_0, Fn119_0 f119_0⟩ := inst_ok eo119_0 followsTry is119 ⟨⟨sh119, cm119_0, by kernel_rfl, gm119_0, fm119_0⟩⟩
abbrev nt71 : Nat := 24
def sh71 : List (Nat × List Sh) := []
def r71_2 : List AOper := [oO 2 (.mv (.const (.bool false)))]
def r71_5 : List AOper := [oM 3 0, oM 4 0, oO 5 (.bin .neq 112 (.tmp 3) (.tmp 4)), oM 6 5, oG 7 (.mv (.tmp 0)) 6 false, oG 8 (.mv (.tmp 0)) 6 false, oG 9 (.bin .sub 112 (.tmp 7) (.tmp 8)) 6 false, oG 10 (.bin .neq 112 (.tmp 9) (.const (.float Go.FloatKind.f64 0))) 6 false, oO 11 (.pick (.tmp 6) (.const (.bool true)) (.tmp 10))]
def r71_8 : List AOper := [oO 2 (.mv (.const (.bool false)))]
def r71_11 : List AOper := [oM 12 0, oO 13 (.bin .geq 112 (.tmp 12) (.const (.float Go.FloatKind.f64 14069741636278059008))), oM 14 13, oG 15 (.mv (.tmp 0)) 14 true, oG 16 (.bin .leq 112 (.tmp 15) (.const (.float Go.FloatKind.f64 4846369599423283200))) 14 true, oO 17 (.pick (.tmp 14) (.tmp 16) (.const (.bool false))), oO 18 (.pure (oB (.unOp .not 4 (.tmp 17)) 4))]
def r71_14 : List AOper := [oO 2 (.mv (.const (.bool true)))]
def r71_16 : List AOper := [oM 19 0, oO 20 (.pure (oB (.convert 112 3 (.tmp 19)) 3)), oO 21 (.pure (oB (.convert 3 112 (.tmp 20)) 112)), oM 22 0, oO 23 (.bin .eql 112 (.tmp 21) (.tmp 22)), oM 2 23]
def tr71 : List (Nat × Tidy) := [tT 0 [0], tT 1 [0, 11], tT 2 [2], tT 3 [0, 18], tT 4 [2], tT 5 [2]]
def tl71 : List (Nat × Tidy) := []
def rs71 : List AResV := [.tmp 2]
def pr71_0_0 : PT (List RV) := pRs [pR false [rD dB]]
def ur71_0_0 {β : Type} (g : List RV → β) : Bool → β := pr71_0_0.unc g
def E71_0g  : EnvK := EnvK.of [] noSeq
noncomputable def E71_0 : EnvK := E71_0g 
theorem eo71_0 : E71_0.Ok Try.prog := EnvK.of_ok noSeq_ok trivial
abbrev Tf71_0 : Type 1 := (α : Type) → (Option α) → Option α
def f71_0g  (α : Type)  (k1 : Option α) : Option α :=
 k1
noncomputable def f71_0 (α : Type)  (k1 : Option α) : Option α := f71_0g  α  k1
def pa71_0 : PT (List DV) := pA [pV false [(dNan .f64)]]
def Fn71_0 (v : Tf71_0) (α : Type) (k : List RV → Option α) : Option α := v α  (ur71_0_0 k false)
noncomputable def cm71_0g  : MCode := (.seq (.region r71_2 [] (tO [0])) (.seq (.seq (.region r71_5 [] (tO [0, 11])) (.cond (.tmp 11) (.seq (.region r71_8 [] (tO [2])) .ret) .skip)) (.seq (.seq (.region r71_11 [] (tO [0, 18])) (.cond (.tmp 18) (.seq (.region r71_14 [] (tO [2])) .ret) .skip)) (.seq (.region r71_16 [] (tO [2])) .ret))))
noncomputable def cm71_0 : MCode := cm71_0g 
theorem gm71_0 : cm71_0.Good Try.prog E71_0 sh71 := ⟨trivial, ⟨⟨trivial, ⟨⟨trivial, trivial⟩, trivial⟩⟩, ⟨⟨trivial, ⟨⟨trivial, trivial⟩, trivial⟩⟩, ⟨trivial, trivial⟩⟩⟩⟩
theorem fm71_0g   (α : Type) (k : List RV → Option α) : Fn71_0 (f71_0g ) α k = pa71_0.unc fun ds => fnM Try.prog (E71_0g ) sh71 (cm71_0g ) rs71 k ds := by kernel_rfl
theorem fm71_0 : ∀ (α : Type) (k : List RV → Option α), Fn71_0 f71_0 α k = pa71_0.unc fun ds => fnM Try.prog E71_0 sh71 cm71_0 rs71 k ds := fm71_0g 
theorem is71 : FnIs Try.prog 71 nt71 tr71 tl71 cm71_0.erase rs71 := ⟨Try.f71, Try.func71, rfl, by kernel_rfl, by kernel_rfl, by kernel_rfl⟩
theorem io71_0 : InstOk Try.prog 71 nt71 ⟨pa71_0, Fn71_0 f71_0⟩ := inst_ok eo71_0 followsTry is71 ⟨⟨sh71, cm71_0, by kernel_rfl, gm71_0, fm71_0⟩⟩
def pr71_1_0 : PT (List RV) := pRs [pR false [rD dB]]
def ur71_1_0 {β : Type} (g : List RV → β) : Bool → β := pr71_1_0.unc g
def E71_1g  : EnvK := EnvK.of [] noSeq
noncomputable def E71_1 : EnvK := E71_1g 
theorem eo71_1 : E71_1.Ok Try.prog := EnvK.of_ok noSeq_ok trivial
abbrev Tf71_1 : Type 1 := (α : Type) → Nat → (Bool → Option α) → Option α
def f71_1g  (α : Type) (x1 : Nat) (k1 : Bool → Option α) : Option α :=
 cK ((FloatKind.format .f64).order x1 x1 != some Ordering.eq)
 (k1 false)
 (flN ((FloatKind.format .f64).sub x1 x1)
 (fun x2 => cK ((FloatKind.format .f64).order x2 0 != some Ordering.eq)
 (k1 false)
 (cK ((FloatKind.format .f64).order x1 14069741636278059008 == some Ordering.gt || (FloatKind.format .f64).order x1 14069741636278059008 == some Ordering.eq)
 (cK (!((FloatKind.format .f64).order x1 4846369599423283200 == some Ordering.lt || (FloatKind.format .f64).order x1 4846369599423283200 == some Ordering.eq))
 (k1 true)
 (ivK (f2i .f64 x1 .i64)
 (fun x3 => k1 ((FloatKind.format .f64).order (FloatKind.nearest .f64 x3) x1 == some Ordering.eq))))
 (k1 true)))
 (k1 false))
noncomputable def f71_1 (α : Type) (x1 : Nat) (k1 : Bool → Option α) : Option α := f71_1g  α x1 k1
def pa71_1 : PT (List DV) := pA [pV false [(dF .f64)]]
def Fn71_1 (v : Tf71_1) (α : Type) (k : List RV → Option α) : Nat → Option α := fun x1 => v α x1 (fun (y1 : Bool) => ur71_1_0 k y1)
noncomputable def cm71_1g  : MCode := (.seq (.region r71_2 [] (tO [0])) (.seq (.seq (.region r71_5 [] (tO [0, 11])) (.cond (.tmp 11) (.seq (.region r71_8 [] (tO [2])) .ret) .skip)) (.seq (.seq (.region r71_11 [] (tO [0, 18])) (.cond (.tmp 18) (.seq (.region r71_14 [] (tO [2])) .ret) .skip)) (.seq (.region r71_16 [] (tO [2])) .ret))))
noncomputable def cm71_1 : MCode := cm71_1g 
theorem gm71_1 : cm71_1.Good Try.prog E71_1 sh71 := ⟨trivial, ⟨⟨trivial, ⟨⟨trivial, trivial⟩, trivial⟩⟩, ⟨⟨trivial, ⟨⟨trivial, trivial⟩, trivial⟩⟩, ⟨trivial, trivial⟩⟩⟩⟩
theorem fm71_1g   (α : Type) (k : List RV → Option α) : Fn71_1 (f71_1g ) α k = pa71_1.unc fun ds => fnM Try.prog (E71_1g ) sh71 (cm71_1g ) rs71 k ds := by kernel_rfl
theorem fm71_1 : ∀ (α : Type) (k : List RV → Option α), Fn71_1 f71_1 α k = pa71_1.unc fun ds => fnM Try.prog E71_1 sh71 cm71_1 rs71 k ds := fm71_1g 
theorem io71_1 : InstOk Try.prog 71 nt71 ⟨pa71_1, Fn71_1 f71_1⟩ := inst_ok eo71_1 followsTry is71 ⟨⟨sh71, cm71_1, by kernel_rfl, gm71_1, fm71_1⟩⟩
abbrev nt29 : Nat := 15
def sh29 : List (Nat × List Sh) := []
def r29_2 : List AOper := [oO 6 (.mv (.const (.bool false)))]
def r29_4 : List AOper := [oM 7 1, oM 8 0, oO 9 (.bin .leq 3 (.tmp 7) (.tmp 8)), oM 10 9, oG 11 (.mv (.tmp 0)) 10 true, oG 12 (.mv (.tmp 2)) 10 true, oG 13 (.bin .leq 3 (.tmp 11) (.tmp 12)) 10 true, oO 14 (.pick (.tmp 10) (.tmp 13) (.const (.bool false))), oM 6 14]
def tr29 : List (Nat × Tidy) := [tT 0 [0, 1, 2], tT 1 [6]]
def tl29 : List (Nat × Tidy) := []
def rs29 : List AResV := [.tmp 6]
def pr29_0_0 : PT (List RV) := pRs [pR false [rD dB]]
def ur29_0_0 {β : Type} (g : List RV → β) : Bool → β := pr29_0_0.unc g
def E29_0g  : EnvK := EnvK.of [] noSeq
noncomputable def E29_0 : EnvK := E29_0g 
theorem eo29_0 : E29_0.Ok Try.prog := EnvK.of_ok noSeq_ok trivial
abbrev Tf29_0 : Type 1 := (α : Type) → Int → Int → Int → (Bool → Option α) → Option α
def f29_0g  (α : Type) (x1 x2 x3 : Int) (k1 : Bool → Option α) : Option α :=
 cK (decide (x2 ≤ x1))
 (k1 (decide (x1 ≤ x3)))
 (k1 false)
noncomputable def f29_0 (α : Type) (x1 x2 x3 : Int) (k1 : Bool → Option α) : Option α := f29_0g  α x1 x2 x3 k1
def pa29_0 : PT (List DV) := pA [pV false [(dI .i64)], pV false [(dI .i64)], pV false [(dI .i64)]]
def Fn29_0 (v : Tf29_0) (α : Type) (k : List RV → Option α) : Int → Int → Int → Option α := fun x1 x2 x3 => v α x1 x2 x3 (fun (y1 : Bool) => ur29_0_0 k y1)
noncomputable def cm29_0g  : MCode := (.seq (.region r29_2 [] (tO [0, 1, 2])) (.seq (.region r29_4 [] (tO [6])) .ret))
noncomputable def cm29_0 : MCode := cm29_0g 
theorem gm29_0 : cm29_0.Good Try.prog E29_0 sh29 := ⟨trivial, ⟨trivial, trivial⟩⟩
theorem fm29_0g   (α : Type) (k : List RV → Option α) : Fn29_0 (f29_0g ) α k = pa29_0.unc fun ds => fnM Try.prog (E29_0g ) sh29 (cm29_0g ) rs29 k ds := by kernel_rfl
theorem fm29_0 : ∀ (α : Type) (k : List RV → Option α), Fn29_0 f29_0 α k = pa29_0.unc fun ds => fnM Try.prog E29_0 sh29 cm29_0 rs29 k ds := fm29_0g 
theorem is29 : FnIs Try.prog 29 nt29 tr29 tl29 cm29_0.erase rs29 := ⟨Try.f29, Try.func29, rfl, by kernel_rfl, by kernel_rfl, by kernel_rfl⟩
theorem io29_0 : InstOk Try.prog 29 nt29 ⟨pa29_0, Fn29_0 f29_0⟩ := inst_ok eo29_0 followsTry is29 ⟨⟨sh29, cm29_0, by kernel_rfl, gm29_0, fm29_0⟩⟩
abbrev nt98 : Nat := 15
def sh98 : List (Nat × List Sh) := []
def r98_2 : List AOper := [oO 6 (.mv (.const (.bool false)))]
def r98_4 : List AOper := [oM 7 1, oM 8 0, oO 9 (.bin .leq 3 (.tmp 7) (.tmp 8)), oM 10 9, oG 11 (.mv (.tmp 0)) 10 true, oG 12 (.mv (.tmp 2)) 10 true, oG 13 (.bin .leq 3 (.tmp 11) (.tmp 12)) 10 true, oO 14 (.pick (.tmp 10) (.tmp 13) (.const (.bool false))), oM 6 14]
def tr98 : List (Nat × Tidy) := [tT 0 [0, 1, 2], tT 1 [6]]
def tl98 : List (Nat × Tidy) := []
def rs98 : List AResV := [.tmp 6]
def pr98_0_0 : PT (List RV) := pRs [pR false [rD dB]]
def ur98_0_0 {β : Type} (g : List RV → β) : Bool → β := pr98_0_0.unc g
def E98_0g  : EnvK := EnvK.of [] noSeq
noncomputable def E98_0 : EnvK := E98_0g 
theorem eo98_0 : E98_0.Ok Try.prog := EnvK.of_ok noSeq_ok trivial
abbrev Tf98_0 : Type 1 := (α : Type) → Int → Int → Int → (Bool → Option α) → Option α
def f98_0g  (α : Type) (x1 x2 x3 : Int) (k1 : Bool → Option α) : Option α :=
 cK (decide (x2 ≤ x1))
 (k1 (decide (x1 ≤ x3)))
 (k1 false)
noncomputable def f98_0 (α : Type) (x1 x2 x3 : Int) (k1 : Bool → Option α) : Option α := f98_0g  α x1 x2 x3 k1
def pa98_0 : PT (List DV) := pA [pV false [(dI .i64)], pV false [(dI .i64)], pV false [(dI .i64)]]
def Fn98_0 (v : Tf98_0) (α : Type) (k : List RV → Option α) : Int → Int → Int → Option α := fun x1 x2 x3 => v α x1 x2 x3 (fun (y1 : Bool) => ur98_0_0 k y1)
noncomputable def cm98_0g  : MCode := (.seq (.region r98_2 [] (tO [0, 1, 2])) (.seq (.region r98_4 [] (tO [6])) .ret))
noncomputable def cm98_0 : MCode := cm98_0g 
theorem gm98_0 : cm98_0.Good Try.prog E98_0 sh98 := ⟨trivial, ⟨trivial, trivial⟩⟩
theorem fm98_0g   (α : Type) (k : List RV → Option α) : Fn98_0 (f98_0g ) α k = pa98_0.unc fun ds => fnM Try.prog (E98_0g ) sh98 (cm98_0g ) rs98 k ds := by kernel_rfl
theorem fm98_0 : ∀ (α : Type) (k : List RV → Option α), Fn98_0 f98_0 α k = pa98_0.unc fun ds => fnM Try.prog E98_0 sh98 cm98_0 rs98 k ds := fm98_0g 
theorem is98 : FnIs Try.prog 98 nt98 tr98 tl98 cm98_0.erase rs98 := ⟨Try.f98, Try.func98, rfl, by kernel_rfl, by kernel_rfl, by kernel_rfl⟩
theorem io98_0 : InstOk Try.prog 98 nt98 ⟨pa98_0, Fn98_0 f98_0⟩ := inst_ok eo98_0 followsTry is98 ⟨⟨sh98, cm98_0, by kernel_rfl, gm98_0, fm98_0⟩⟩
abbrev nt121 : Nat := 54
def sh121 : List (Nat × List Sh) := [(12, [.int .u8]), (13, [.int .u8])]
def r121_2 : List AOper := [oO 2 (.mv (.const (.bool false)))]
def r121_5 : List AOper := [oM 6 0, oO 7 (.bytes (.tmp 6)), oO 8 (.len (.tmp 7)), oO 9 (.mv (kI 0))]
def td121_7 : Option Tidy := (some ⟨[0, 7, 8, 9], true, [⟨false, 7, 0, 20007, 1⟩], []⟩)
def r121_9 : List AOper := [oO 10 (.bin .lss 3 (.tmp 9) (.tmp 8))]
def r121_15 : List AOper := [oM 11 9, oO 12 (.iaddr 1 none (.tmp 7) (.tmp 9)), oO 13 (.load false 1 (.tmp 12)), oM 3 11, oM 4 13]
def r121_17 : List AOper := [oM 14 4, oO 15 (.bin .geq 5 (.tmp 14) (.const (.int .u8 97))), oM 16 15, oG 17 (.mv (.tmp 4)) 16 true, oG 18 (.bin .leq 5 (.tmp 17) (.const (.int .u8 122))) 16 true, oO 19 (.pick (.tmp 16) (.tmp 18) (.const (.bool false))), oM 20 19, oG 21 (.mv (.tmp 4)) 20 false, oG 22 (.bin .geq 5 (.tmp 21) (.const (.int .u8 65))) 20 false, oG 23 (.mv (.tmp 22)) 20 false, oG 24 (.mv (.tmp 4)) 23 true, oG 25 (.bin .leq 5 (.tmp 24) (.const (.int .u8 90))) 23 true, oG 26 (.pick (.tmp 23) (.tmp 25) (.const (.bool false))) 20 false, oO 27 (.pick (.tmp 20) (.const (.bool true)) (.tmp 26)), oM 5 27]
def r121_19 : List AOper := [oM 28 5, oO 29 (.pure (oB (.unOp .not 4 (.tmp 28)) 4)), oM 30 29, oG 31 (.mv (.tmp 3)) 30 true, oG 32 (.bin .eql 3 (.tmp 31) (kI 0)) 30 true, oG 33 (.mv (.tmp 32)) 30 true, oG 34 (.mv (.tmp 4)) 33 false, oG 35 (.bin .neq 5 (.tmp 34) (.const (.int .u8 45))) 33 false, oG 36 (.mv (.tmp 35)) 33 false, oG 37 (.mv (.tmp 4)) 36 true, oG 38 (.bin .lss 5 (.tmp 37) (.const (.int .u8 48))) 36 true, oG 39 (.mv (.tmp 38)) 36 true, oG 40 (.mv (.tmp 4)) 39 false, oG 41 (.bin .gtr 5 (.tmp 40) (.const (.int .u8 57))) 39 false, oG 42 (.pick (.tmp 39) (.const (.bool true)) (.tmp 41)) 36 true, oG 43 (.pick (.tmp 36) (.tmp 42) (.const (.bool false))) 33 false, oG 44 (.pick (.tmp 33) (.const (.bool true)) (.tmp 43)) 30 true, oO 45 (.pick (.tmp 30) (.tmp 44) (.const (.bool false)))]
def r121_22 : List AOper := [oO 2 (.mv (.const (.bool false)))]
def r121_23 : List AOper := [oO 46 (.bin .add 3 (.tmp 9) (kI 1)), oM 9 46]
def r121_25 : List AOper := [oM 47 0, ⟨(some 48), (.bin .neq 9 (.tmp 47) (.const (.string ⟨#[]⟩))), none⟩, oM 49 48, oG 50 (.mv (.tmp 0)) 49 true, oG 51 (.pure (oB (.call { callee := .builtin .len, args := #[(.tmp 50)], argTypes := #[9] }) 3)) 49 true, oG 52 (.bin .leq 3 (.tmp 51) (kI 12)) 49 true, oO 53 (.pick (.tmp 49) (.tmp 52) (.const (.bool false))), oM 2 53]
def tr121 : List (Nat × Tidy) := [tT 0 [0], tT 1 [0, 7, 8, 9], tT 2 [0, 7, 8, 9, 10], tT 3 [0, 3, 4, 7, 8, 9], tT 4 [0, 3, 4, 5, 7, 8, 9], tT 5 [0, 7, 8, 9, 45], tT 6 [2], tT 7 [0, 7, 8, 9], tT 8 [2]]
def tl121 : List (Nat × Tidy) := [(2, ⟨[0, 7, 8, 9], true, [⟨false, 7, 0, 20007, 1⟩], []⟩)]
def rs121 : List AResV := [.tmp 2]
def p121_0_0 : PT St := pS [sl 0 (aV false [(cD dS)]), sl 3 (aV false [(cD (dI .i64))]), sl 4 (aV false [(cD (dI .u8))]), sl 7 (aV false [(cRef 20007)]), sl 8 (aV false [(cD (dI .i64))]), sl 9 (aV false [(cD (dI .i64))])] [eOwn 20007 1]
def u121_0_0 {β : Type} (g : St → β) : ByteArray → Int → Int → Int → Int → Rows → β := p121_0_0.unc g
def p121_0_1 : PT St := pS [sl 0 (aV false [(cD dS)]), sl 3 (aV false [(cD (dI .i64))]), sl 4 (aV false [(cD (dI .u8))]), sl 5 (aV false [(cD dB)]), sl 7 (aV false [(cRef 20007)]), sl 8 (aV false [(cD (dI .i64))]), sl 9 (aV false [(cD (dI .i64))])] [eOwn 20007 1]
def u121_0_1 {β : Type} (g : St → β) : ByteArray → Int → Int → Bool → Int → Int → Rows → β := p121_0_1.unc g
def p121_0_2 : PT St := pS [sl 0 (aV false [(cD dS)]), sl 7 (aV false [(cRef 20007)]), sl 8 (aV false [(cD (dI .i64))]), sl 9 (aV false [(cD (dI .i64))]), sl 45 (aV false [(cD dB)])] [eOwn 20007 1]
def u121_0_2 {β : Type} (g : St → β) : ByteArray → Int → Int → Bool → Rows → β := p121_0_2.unc g
def p121_0_3 : PT St := pS [sl 0 (aV false [(cD dS)]), sl 7 (aV false [(cRef 20007)]), sl 8 (aV false [(cD (dI .i64))]), sl 9 (aV false [(cD (dI .i64))])] [eOwn 20007 1]
def u121_0_3 {β : Type} (g : St → β) : ByteArray → Int → Int → Rows → β := p121_0_3.unc g
def p121_0_4 : PT St := pS [sl 2 (aV false [(cD dB)])] []
def u121_0_4 {β : Type} (g : St → β) : Bool → β := p121_0_4.unc g
def p121_0_5 : PT St := pS [sl 0 (aV false [(cD dS)]), sl 7 (aV false [(cRef 20007)]), sl 8 (aV false [(cD (dI .i64))]), sl 9 (aV false [(cD (dI .i64))]), sl 10 (aV false [(cD dB)])] [eOwn 20007 1]
def u121_0_5 {β : Type} (g : St → β) : ByteArray → Int → Int → Bool → Rows → β := p121_0_5.unc g
def pr121_0_0 : PT (List RV) := pRs [pR false [rD dB]]
def ur121_0_0 {β : Type} (g : List RV → β) : Bool → β := pr121_0_0.unc g
def E121_0g  : EnvK := EnvK.of [] noSeq
noncomputable def E121_0 : EnvK := E121_0g 
theorem eo121_0 : E121_0.Ok Try.prog := EnvK.of_ok noSeq_ok trivial
noncomputable def c121_0_18g  : MCode := (.region r121_19 [] (tO [0, 7, 8, 9, 45]))
noncomputable def c121_0_18 : MCode := c121_0_18g 
theorem g121_0_18 : c121_0_18.Good Try.prog E121_0 sh121 := trivial
--CODE 18 0
abbrev TJ121_0_1 : Type 1 := (α : Type) → Int → Int → Bool → (Bool → Option α) → Option α
def J121_0_1g  (α : Type) (x18 x19 : Int) (x20 : Bool) (k1 : Bool → Option α) : Option α :=
 cK (!x20)
 (cK (x18 == 0)
 (k1 true)
 (cK (x19 != 45)
 (cK (decide (x19 < 48))
 (k1 true)
 (k1 (decide (57 < x19))))
 (k1 false)))
 (k1 false)
noncomputable def J121_0_1 (α : Type) (x18 x19 : Int) (x20 : Bool) (k1 : Bool → Option α) : Option α := J121_0_1g  α x18 x19 x20 k1
def F121_0_1 (v : TJ121_0_1) (α : Type) (K : Exit → St → Option α) : ByteArray → Int → Int → Bool → Int → Int → Rows → Option α := fun x17 x18 x19 x20 x21 x22 x23 => v α x18 x19 x20 (fun (y1 : Bool) => u121_0_2 (K .normal) x17 x21 x22 y1 x23) 
theorem m121_0_1g   (α : Type) (K : Exit → St → Option α) : F121_0_1 (J121_0_1g ) α K = p121_0_1.unc fun σ => runM Try.prog (E121_0g ) sh121 (c121_0_18g ) K σ := by kernel_rfl
theorem m121_0_1 : ∀ (α : Type) (K : Exit → St → Option α), F121_0_1 J121_0_1 α K = p121_0_1.unc fun σ => runM Try.prog E121_0 sh121 c121_0_18 K σ := m121_0_1g 
noncomputable def c121_0_16g  : MCode := (.region r121_17 [] (tO [0, 3, 4, 5, 7, 8, 9]))
noncomputable def c121_0_16 : MCode := c121_0_16g 
theorem g121_0_16 : c121_0_16.Good Try.prog E121_0 sh121 := trivial
--CODE 16 0
abbrev TJ121_0_0 : Type 1 := (α : Type) → Int → (Bool → Option α) → Option α
def J121_0_0g  (α : Type) (x10 : Int) (k1 : Bool → Option α) : Option α :=
 cK (decide (97 ≤ x10))
 (cK (decide (x10 ≤ 122))
 (k1 true)
 (cK (decide (65 ≤ x10))
 (k1 (decide (x10 ≤ 90)))
 (k1 false)))
 (cK (decide (65 ≤ x10))
 (k1 (decide (x10 ≤ 90)))
 (k1 false))
noncomputable def J121_0_0 (α : Type) (x10 : Int) (k1 : Bool → Option α) : Option α := J121_0_0g  α x10 k1
def F121_0_0 (v : TJ121_0_0) (α : Type) (K : Exit → St → Option α) : ByteArray → Int → Int → Int → Int → Rows → Option α := fun x8 x9 x10 x11 x12 x13 => v α x10 (fun (y1 : Bool) => u121_0_1 (K .normal) x8 x9 x10 y1 x11 x12 x13) 
theorem m121_0_0g   (α : Type) (K : Exit → St → Option α) : F121_0_0 (J121_0_0g ) α K = p121_0_0.unc fun σ => runM Try.prog (E121_0g ) sh121 (c121_0_16g ) K σ := by kernel_rfl
theorem m121_0_0 : ∀ (α : Type) (K : Exit → St → Option α), F121_0_0 J121_0_0 α K = p121_0_0.unc fun σ => runM Try.prog E121_0 sh121 c121_0_16 K σ := m121_0_0g 
noncomputable def c121_0_7g (vJ121_0_0 : TJ121_0_0) (vJ121_0_1 : TJ121_0_1) : MCode := (.seq (.region r121_9 [] (tO [0, 7, 8, 9, 10])) (.seq (.cond (.tmp 10) .skip (.exit 0)) (.seq (.block 1 (.seq (.region r121_15 [] (tO [0, 3, 4, 7, 8, 9])) (.seq (.mark [⟨p121_0_0, F121_0_0 vJ121_0_0⟩] c121_0_16) (.seq (.mark [⟨p121_0_1, F121_0_1 vJ121_0_1⟩] c121_0_18) (.cond (.tmp 45) (.seq (.region r121_22 [] (tO [2])) .ret) .skip))))) (.region r121_23 [] (tO [0, 7, 8, 9])))))
noncomputable def c121_0_7 : MCode := c121_0_7g J121_0_0 J121_0_1
theorem g121_0_7 : c121_0_7.Good Try.prog E121_0 sh121 := ⟨trivial, ⟨⟨trivial, trivial⟩, ⟨⟨trivial, ⟨⟨g121_0_16, m121_0_0, trivial⟩, ⟨⟨g121_0_18, m121_0_1, trivial⟩, ⟨⟨trivial, trivial⟩, trivial⟩⟩⟩⟩, trivial⟩⟩⟩
--CODE 7 0
def S121_0_2g (vJ121_0_0 : TJ121_0_0) (vJ121_0_1 : TJ121_0_1) (α : Type) (x3 : Int) (x5 : Rows) (x4 : Int) (kn : Int → Option α) (k1 : Option α) (k2 : Int → Bool → Option α) : Option α :=
 cK (decide (x4 < x3))
 (ixK x5 x4 1
 (ldK x5 (Int.toNat x4) 0 [.int .u8]
 (fun x7 => vJ121_0_0 α x7
 (fun x15 => vJ121_0_1 α x4 x7 x15
 (fun x25 => cK x25
 (k1)
 (kn (w64 (x4 + 1))))))))
 (k2 x4 (decide (x4 < x3)))
noncomputable def S121_0_2 (α : Type) (x3 : Int) (x5 : Rows) (x4 : Int) (kn : Int → Option α) (k1 : Option α) (k2 : Int → Bool → Option α) : Option α := S121_0_2g J121_0_0 J121_0_1 α x3 x5 x4 kn k1 k2
noncomputable def R121_0_2 (α : Type) (x3 : Int) (x5 : Rows) (k1 : Option α) (k2 : Int → Bool → Option α) : Nat → Int → Option α
 | 0, _ => none
 | n + 1, x4 => S121_0_2 α x3 x5 x4 (R121_0_2 α x3 x5 k1 k2 n) k1 k2
noncomputable def L121_0_2 (α : Type) (x3 : Int) (x5 : Rows) (k1 : Option α) (k2 : Int → Bool → Option α) (x4 : Int) : Option α := R121_0_2 α x3 x5 k1 k2 fuel x4
abbrev TL121_0_2 : Type 1 := (α : Type) → Int → Rows → (Option α) → (Int → Bool → Option α) → Int → Option α
def F121_0_2 (v : TL121_0_2) (α : Type) (K : Exit → St → Option α) : ByteArray → Int → Int → Rows → Option α := fun x2 x3 x4 x5 => v α x3 x5 (u121_0_4 (K .ret) false) (fun (y1 : Int) (y2 : Bool) => u121_0_5 (K (.exit 0)) x2 x3 y1 y2 x5) x4
theorem r121_0_2g  (vJ121_0_0 : TJ121_0_0) (vJ121_0_1 : TJ121_0_1) (α : Type) (K : Exit → St → Option α) (Kn : St → Option α) (x2 : ByteArray) (x3 x4 : Int) (x5 : Rows) : u121_0_3 (fun σ => runM Try.prog (E121_0g ) sh121 (c121_0_7g vJ121_0_0 vJ121_0_1) (thenK (fun σ => tidyK td121_7 σ Kn) K) σ) x2 x3 x4 x5 = S121_0_2g vJ121_0_0 vJ121_0_1 α x3 x5 x4 (fun x4 => u121_0_3 Kn x2 x3 x4 x5) (u121_0_4 (K .ret) false) (fun (y1 : Int) (y2 : Bool) => u121_0_5 (K (.exit 0)) x2 x3 y1 y2 x5) := by kernel_rfl
theorem r121_0_2 (α : Type) (K : Exit → St → Option α) (Kn : St → Option α) (x2 : ByteArray) (x3 x4 : Int) (x5 : Rows) : u121_0_3 (fun σ => runM Try.prog E121_0 sh121 c121_0_7 (thenK (fun σ => tidyK td121_7 σ Kn) K) σ) x2 x3 x4 x5 = S121_0_2 α x3 x5 x4 (fun x4 => u121_0_3 Kn x2 x3 x4 x5) (u121_0_4 (K .ret) false) (fun (y1 : Int) (y2 : Bool) => u121_0_5 (K (.exit 0)) x2 x3 y1 y2 x5) := r121_0_2g J121_0_0 J121_0_1 α K Kn x2 x3 x4 x5
theorem t121_0_2 (α : Type) (K : Exit → St → Option α) : ∀ (n : Nat) (x2 : ByteArray) (x3 x4 : Int) (x5 : Rows), R121_0_2 α x3 x5 (u121_0_4 (K .ret) false) (fun (y1 : Int) (y2 : Bool) => u121_0_5 (K (.exit 0)) x2 x3 y1 y2 x5) n x4 = u121_0_3 (loopT (runM Try.prog E121_0 sh121 c121_0_7) td121_7 K n) x2 x3 x4 x5 := by
 intro n
 induction n with
 | zero => intros; rfl
 | succ n ih => intro x2 x3 x4 x5; exact (congrArg (fun kn => S121_0_2 α x3 x5 x4 kn (u121_0_4 (K .ret) false) (fun (y1 : Int) (y2 : Bool) => u121_0_5 (K (.exit 0)) x2 x3 y1 y2 x5)) (funext fun x4 => ih x2 x3 x4 x5)).trans (r121_0_2 α K (loopT (runM Try.prog E121_0 sh121 c121_0_7) td121_7 K n) x2 x3 x4 x5).symm
theorem m121_0_2 : ∀ (α : Type) (K : Exit → St → Option α), F121_0_2 L121_0_2 α K = p121_0_3.unc fun σ => loopT (runM Try.prog E121_0 sh121 c121_0_7) td121_7 K fuel σ := fun α K => funext fun x2 => funext fun x3 => funext fun x4 => funext fun x5 => t121_0_2 α K fuel x2 x3 x4 x5
abbrev Tf121_0 : Type 1 := (α : Type) → ByteArray → (Bool → Option α) → Option α
def f121_0g (vL121_0_2 : TL121_0_2) (α : Type) (x1 : ByteArray) (k1 : Bool → Option α) : Option α :=
 gK (decide (ByteArray.size x1 ≤ 9223372036854775807)) (vL121_0_2 α ((List.length (bytesR x1) : Nat) : Int) (bytesR x1)
 (k1 false)
 (fun x27 x28 => cK (!(x1.toList == (⟨#[]⟩ : ByteArray).toList))
 (k1 (decide (((ByteArray.size x1 : Nat) : Int) ≤ 12)))
 (k1 false)) 0)
noncomputable def f121_0 (α : Type) (x1 : ByteArray) (k1 : Bool → Option α) : Option α := f121_0g L121_0_2 α x1 k1
def pa121_0 : PT (List DV) := pA [pV false [dS]]
def Fn121_0 (v : Tf121_0) (α : Type) (k : List RV → Option α) : ByteArray → Option α := fun x1 => v α x1 (fun (y1 : Bool) => ur121_0_0 k y1)
noncomputable def cm121_0g (vL121_0_2 : TL121_0_2) : MCode := (.seq (.region r121_2 [] (tO [0])) (.seq (.seq (.region r121_5 [] (tO [0, 7, 8, 9])) (.block 0 (.loop td121_7 [⟨p121_0_3, F121_0_2 vL121_0_2⟩] c121_0_7))) (.seq (.region r121_25 [] (tO [2])) .ret)))
noncomputable def cm121_0 : MCode := cm121_0g L121_0_2
theorem gm121_0 : cm121_0.Good Try.prog E121_0 sh121 := ⟨trivial, ⟨⟨trivial, ⟨g121_0_7, m121_0_2, trivial⟩⟩, ⟨trivial, trivial⟩⟩⟩
theorem fm121_0g  (vL121_0_2 : TL121_0_2) (α : Type) (k : List RV → Option α) : Fn121_0 (f121_0g vL121_0_2) α k = pa121_0.unc fun ds => fnM Try.prog (E121_0g ) sh121 (cm121_0g vL121_0_2) rs121 k ds := by kernel_rfl
theorem fm121_0 : ∀ (α : Type) (k : List RV → Option α), Fn121_0 f121_0 α k = pa121_0.unc fun ds => fnM Try.prog E121_0 sh121 cm121_0 rs121 k ds := fm121_0g L121_0_2
theorem is121 : FnIs Try.prog 121 nt121 tr121 tl121 cm121_0.erase rs121 := ⟨Try.f121, Try.func121, rfl, by kernel_rfl, by kernel_rfl, by kernel_rfl⟩
theorem io121_0 : InstOk Try.prog 121 nt121 ⟨pa121_0, Fn121_0 f121_0⟩ := inst_ok eo121_0 followsTry is121 ⟨⟨sh121, cm121_0, by kernel_rfl, gm121_0, fm121_0⟩⟩
abbrev nt79 : Nat := 10
def sh79 : List (Nat × List Sh) := []
def r79_2 : List AOper := [oO 4 (.mv (kI 0))]
def r79_4 : List AOper := [oM 5 0, oO 6 (.pure (oB (.unOp .neg 3 (.tmp 5)) 3)), oM 7 1, oO 8 (.call 78 [(.tmp 6), (.tmp 7)]), oO 9 (.pure (oB (.unOp .neg 3 (.tmp 8)) 3)), oM 4 9]
def tr79 : List (Nat × Tidy) := [tT 0 [0, 1], tT 1 [4]]
def tl79 : List (Nat × Tidy) := []
def rs79 : List AResV := [.tmp 4]
def pr79_0_0 : PT (List RV) := pRs [pR false [rD (dI .i64)]]
def ur79_0_0 {β : Type} (g : List RV → β) : Int → β := pr79_0_0.unc g
def E79_0g (vf78_0 : Tf78_0) : EnvK := EnvK.of [⟨78, nt78, [⟨pa78_0, Fn78_0 vf78_0⟩]⟩] noSeq
noncomputable def E79_0 : EnvK := E79_0g f78_0
theorem eo79_0 : E79_0.Ok Try.prog := EnvK.of_ok noSeq_ok ⟨⟨io78_0, trivial⟩, trivial⟩
abbrev Tf79_0 : Type 1 := (α : Type) → Int → Int → (Int → Option α) → Option α
def f79_0g (vf78_0 : Tf78_0) (α : Type) (x1 x2 : Int) (k1 : Int → Option α) : Option α :=
 vf78_0 α (w64 (0 - x1)) x2
 (fun x3 => k1 (w64 (0 - x3)))
noncomputable def f79_0 (α : Type) (x1 x2 : Int) (k1 : Int → Option α) : Option α := f79_0g f78_0 α x1 x2 k1
def pa79_0 : PT (List DV) := pA [pV false [(dI .i64)], pV false [(dI .i64)]]
def Fn79_0 (v : Tf79_0) (α : Type) (k : List RV → Option α) : Int → Int → Option α := fun x1 x2 => v α x1 x2 (fun (y1 : Int) => ur79_0_0 k y1)
noncomputable def cm79_0g  : MCode := (.seq (.region r79_2 [] (tO [0, 1])) (.seq (.region r79_4 [] (tO [4])) .ret))
noncomputable def cm79_0 : MCode := cm79_0g 
theorem gm79_0 : cm79_0.Good Try.prog E79_0 sh79 := ⟨trivial, ⟨trivial, trivial⟩⟩
theorem fm79_0g (vf78_0 : Tf78_0)  (α : Type) (k : List RV → Option α) : Fn79_0 (f79_0g vf78_0) α k = pa79_0.unc fun ds => fnM Try.prog (E79_0g vf78_0) sh79 (cm79_0g ) rs79 k ds := by kernel_rfl
theorem fm79_0 : ∀ (α : Type) (k : List RV → Option α), Fn79_0 f79_0 α k = pa79_0.unc fun ds => fnM Try.prog E79_0 sh79 cm79_0 rs79 k ds := fm79_0g f78_0
theorem is79 : FnIs Try.prog 79 nt79 tr79 tl79 cm79_0.erase rs79 := ⟨Try.f79, Try.func79, rfl, by kernel_rfl, by kernel_rfl, by kernel_rfl⟩
theorem io79_0 : InstOk Try.prog 79 nt79 ⟨pa79_0, Fn79_0 f79_0⟩ := inst_ok eo79_0 followsTry is79 ⟨⟨sh79, cm79_0, by kernel_rfl, gm79_0, fm79_0⟩⟩
abbrev nt91 : Nat := 25
def sh91 : List (Nat × List Sh) := [(15, [.int .i64]), (21, [.int .i64])]
def r91_2 : List AOper := [oO 5 (.box (.tmp 2)), oO 6 (.mv (kI 0))]
def r91_5 : List AOper := [oM 7 0, oO 8 (.call 123 [(.tmp 7)]), oO 9 (.pure (oB (.unOp .not 4 (.tmp 8)) 4))]
def r91_8 : List AOper := [oO 6 (.mv (kI 3))]
def r91_11 : List AOper := [oM 10 1, oO 11 (.call 29 [(.tmp 10), (kI 1000), (kI 200000)]), oO 12 (.pure (oB (.unOp .not 4 (.tmp 11)) 4)), oM 13 12, oG 14 (.faddr 0 (.tmp 5)) 13 false, oG 15 (.load false 1 (.tmp 14)) 13 false, oG 16 (.call 29 [(.tmp 15), (kI 5000), (kI 80000)]) 13 false, oG 17 (.pure (oB (.unOp .not 4 (.tmp 16)) 4)) 13 false, oO 18 (.pick (.tmp 13) (.const (.bool true)) (.tmp 17)), oM 19 18, oG 20 (.faddr 1 (.tmp 5)) 19 false, oG 21 (.load false 1 (.tmp 20)) 19 false, oG 22 (.call 29 [(.tmp 21), (kI 0), (kI 9999)]) 19 false, oG 23 (.pure (oB (.unOp .not 4 (.tmp 22)) 4)) 19 false, oO 24 (.pick (.tmp 19) (.const (.bool true)) (.tmp 23))]
def r91_14 : List AOper := [oO 6 (.mv (kI 2))]
def r91_16 : List AOper := [oO 6 (.mv (kI 0))]
def tr91 : List (Nat × Tidy) := [tT 0 [0, 1, 5], tT 1 [1, 5, 9], tT 2 [6], tT 3 [24], tT 4 [6], tT 5 [6]]
def tl91 : List (Nat × Tidy) := []
def rs91 : List AResV := [.tmp 6]
def pr91_0_0 : PT (List RV) := pRs [pR false [rD (dI .i64)]]
def ur91_0_0 {β : Type} (g : List RV → β) : Int → β := pr91_0_0.unc g
def E91_0g (vf123_0 : Tf123_0) (vf29_0 : Tf29_0) : EnvK := EnvK.of [⟨123, nt123, [⟨pa123_0, Fn123_0 vf123_0⟩]⟩, ⟨29, nt29, [⟨pa29_0, Fn29_0 vf29_0⟩]⟩] noSeq
noncomputable def E91_0 : EnvK := E91_0g f123_0 f29_0
theorem eo91_0 : E91_0.Ok Try.prog := EnvK.of_ok noSeq_ok ⟨⟨io123_0, trivial⟩, ⟨io29_0, trivial⟩, trivial⟩
abbrev Tf91_0 : Type 1 := (α : Type) → ByteArray → Int → Int → Int → (Int → Option α) → Option α
def f91_0g (vf123_0 : Tf123_0) (vf29_0 : Tf29_0) (α : Type) (x1 : ByteArray) (x2 x3 x4 : Int) (k1 : Int → Option α) : Option α :=
 vf123_0 α x1
 (fun x5 => cK (!x5)
 (k1 3)
 (vf29_0 α x2 1000 200000
 (fun x6 => cK (!x6)
 (k1 2)
 (vf29_0 α x3 5000 80000
 (fun x7 => cK (!x7)
 (k1 2)
 (vf29_0 α x4 0 9999
 (fun x8 => cK (!x8)
 (k1 2)
 (k1 0))))))))
noncomputable def f91_0 (α : Type) (x1 : ByteArray) (x2 x3 x4 : Int) (k1 : Int → Option α) : Option α := f91_0g f123_0 f29_0 α x1 x2 x3 x4 k1
def pa91_0 : PT (List DV) := pA [pV false [dS], pV false [(dI .i64)], pV true [(dI .i64), (dI .i64)]]
def Fn91_0 (v : Tf91_0) (α : Type) (k : List RV → Option α) : ByteArray → Int → Int → Int → Option α := fun x1 x2 x3 x4 => v α x1 x2 x3 x4 (fun (y1 : Int) => ur91_0_0 k y1)
noncomputable def cm91_0g  : MCode := (.seq (.region r91_2 [] (tO [0, 1, 5])) (.seq (.seq (.region r91_5 [] (tO [1, 5, 9])) (.cond (.tmp 9) (.seq (.region r91_8 [] (tO [6])) .ret) .skip)) (.seq (.seq (.region r91_11 [] (tO [24])) (.cond (.tmp 24) (.seq (.region r91_14 [] (tO [6])) .ret) .skip)) (.seq (.region r91_16 [] (tO [6])) .ret))))
noncomputable def cm91_0 : MCode := cm91_0g 
theorem gm91_0 : cm91_0.Good Try.prog E91_0 sh91 := ⟨trivial, ⟨⟨trivial, ⟨⟨trivial, trivial⟩, trivial⟩⟩, ⟨⟨trivial, ⟨⟨trivial, trivial⟩, trivial⟩⟩, ⟨trivial, trivial⟩⟩⟩⟩
theorem fm91_0g (vf123_0 : Tf123_0) (vf29_0 : Tf29_0)  (α : Type) (k : List RV → Option α) : Fn91_0 (f91_0g vf123_0 vf29_0) α k = pa91_0.unc fun ds => fnM Try.prog (E91_0g vf123_0 vf29_0) sh91 (cm91_0g ) rs91 k ds := by kernel_rfl
theorem fm91_0 : ∀ (α : Type) (k : List RV → Option α), Fn91_0 f91_0 α k = pa91_0.unc fun ds => fnM Try.prog E91_0 sh91 cm91_0 rs91 k ds := fm91_0g f123_0 f29_0
theorem is91 : FnIs Try.prog 91 nt91 tr91 tl91 cm91_0.erase rs91 := ⟨Try.f91, Try.func91, rfl, by kernel_rfl, by kernel_rfl, by kernel_rfl⟩
theorem io91_0 : InstOk Try.prog 91 nt91 ⟨pa91_0, Fn91_0 f91_0⟩ := inst_ok eo91_0 followsTry is91 ⟨⟨sh91, cm91_0, by kernel_rfl, gm91_0, fm91_0⟩⟩
abbrev nt42 : Nat := 10
def sh42 : List (Nat × List Sh) := []
def r42_2 : List AOper := [oO 4 (.mv (kI 0))]
def r42_4 : List AOper := [oM 5 0, oO 6 (.pure (oB (.unOp .neg 3 (.tmp 5)) 3)), oM 7 1, oO 8 (.call 99 [(.tmp 6), (.tmp 7)]), oO 9 (.pure (oB (.unOp .neg 3 (.tmp 8)) 3)), oM 4 9]
def tr42 : List (Nat × Tidy) := [tT 0 [0, 1], tT 1 [4]]
def tl42 : List (Nat × Tidy) := []
def rs42 : List AResV := [.tmp 4]
def pr42_0_0 : PT (List RV) := pRs [pR false [rD (dI .i64)]]
def ur42_0_0 {β : Type} (g : List RV → β) : Int → β := pr42_0_0.unc g
def E42_0g (vf99_0 : Tf99_0) : EnvK := EnvK.of [⟨99, nt99, [⟨pa99_0, Fn99_0 vf99_0⟩]⟩] noSeq
noncomputable def E42_0 : EnvK := E42_0g f99_0
theorem eo42_0 : E42_0.Ok Try.prog := EnvK.of_ok noSeq_ok ⟨⟨io99_0, trivial⟩, trivial⟩
abbrev Tf42_0 : Type 1 := (α : Type) → Int → Int → (Int → Option α) → Option α
def f42_0g (vf99_0 : Tf99_0) (α : Type) (x1 x2 : Int) (k1 : Int → Option α) : Option α :=
 vf99_0 α (w64 (0 - x1)) x2
 (fun x3 => k1 (w64 (0 - x3)))
noncomputable def f42_0 (α : Type) (x1 x2 : Int) (k1 : Int → Option α) : Option α := f42_0g f99_0 α x1 x2 k1
def pa42_0 : PT (List DV) := pA [pV false [(dI .i64)], pV false [(dI .i64)]]
def Fn42_0 (v : Tf42_0) (α : Type) (k : List RV → Option α) : Int → Int → Option α := fun x1 x2 => v α x1 x2 (fun (y1 : Int) => ur42_0_0 k y1)
noncomputable def cm42_0g  : MCode := (.seq (.region r42_2 [] (tO [0, 1])) (.seq (.region r42_4 [] (tO [4])) .ret))
noncomputable def cm42_0 : MCode := cm42_0g 
theorem gm42_0 : cm42_0.Good Try.prog E42_0 sh42 := ⟨trivial, ⟨trivial, trivial⟩⟩
theorem fm42_0g (vf99_0 : Tf99_0)  (α : Type) (k : List RV → Option α) : Fn42_0 (f42_0g vf99_0) α k = pa42_0.unc fun ds => fnM Try.prog (E42_0g vf99_0) sh42 (cm42_0g ) rs42 k ds := by kernel_rfl
theorem fm42_0 : ∀ (α : Type) (k : List RV → Option α), Fn42_0 f42_0 α k = pa42_0.unc fun ds => fnM Try.prog E42_0 sh42 cm42_0 rs42 k ds := fm42_0g f99_0
theorem is42 : FnIs Try.prog 42 nt42 tr42 tl42 cm42_0.erase rs42 := ⟨Try.f42, Try.func42, rfl, by kernel_rfl, by kernel_rfl, by kernel_rfl⟩
theorem io42_0 : InstOk Try.prog 42 nt42 ⟨pa42_0, Fn42_0 f42_0⟩ := inst_ok eo42_0 followsTry is42 ⟨⟨sh42, cm42_0, by kernel_rfl, gm42_0, fm42_0⟩⟩
abbrev nt37 : Nat := 26
def sh37 : List (Nat × List Sh) := [(6, [.sl, .int .i64, .int .i64]), (16, [.int .i64]), (17, [.int .i64]), (19, [.int .i64])]
def r37_2 : List AOper := [oO 1 (.box (.tmp 0)), oO 2 (.mv (.const (.slice none 0 0)))]
def r37_4 : List AOper := [oO 3 (.mv (.const (.slice none 0 0)))]
def r37_6 : List AOper := [oO 6 (.load true 3 (.tmp 1)), oO 7 (.call 72 [(.tmp 6)]), oM 4 7]
def r37_9 : List AOper := [oO 5 (.mv (kI 0))]
def td37_11 : Option Tidy := (some ⟨[1, 3, 4, 5], true, [⟨false, 3, 0, 20003, 1⟩, ⟨false, 4, 0, 20004, 1⟩, ⟨true, 1, 0, 30100, 1⟩], []⟩)
def r37_14 : List AOper := [oM 8 5, oM 9 4, oO 10 (.len (.tmp 9)), oO 11 (.bin .lss 3 (.tmp 8) (.tmp 10))]
def r37_19 : List AOper := [oM 14 4, oM 15 5, oO 16 (.iaddr 1 none (.tmp 14) (.tmp 15)), oO 17 (.load false 1 (.tmp 16)), oO 18 (.faddr 2 (.tmp 1)), oO 19 (.load false 1 (.tmp 18)), oO 20 (.bin .geq 3 (.tmp 17) (.tmp 19))]
def r37_21 : List AOper := [oM 21 3, oM 22 5, oO 23 (.bslice 1 1 [(.v (.int .i64 0))] [(0, (.tmp 22))]), oO 24 (.append 1 8 (.tmp 21) (.tmp 23)), oM 3 24]
def r37_22 : List AOper := [oM 12 5, oO 13 (.bin .add 3 (.tmp 12) (kI 1)), oM 5 13]
def r37_24 : List AOper := [oM 25 3, oM 2 25]
def tr37 : List (Nat × Tidy) := [tT 0 [1], tT 1 [1, 3], tT 2 [1, 3, 4], tT 3 [1, 3, 4, 5], tT 4 [1, 3, 4, 5, 11], tT 6 [1, 3, 4, 5, 20], tT 7 [1, 3, 4, 5], tT 5 [1, 3, 4, 5], (8, ⟨[2], true, [⟨false, 2, 0, 20002, 1⟩], []⟩)]
def tl37 : List (Nat × Tidy) := [(4, ⟨[1, 3, 4, 5], true, [⟨false, 3, 0, 20003, 1⟩, ⟨false, 4, 0, 20004, 1⟩, ⟨true, 1, 0, 30100, 1⟩], []⟩)]
def rs37 : List AResV := [.tmp 2]
def p37_0_0 : PT St := pS [sl 1 (aV false [(cPtr 1 0)]), sl 3 (aV false [(cRef 20003)]), sl 4 (aV false [(cRef 20004)]), sl 5 (aV false [(cD (dI .i64))])] [eBox 1 [(cD dL), (cD (dI .i64)), (cD (dI .i64))], eOwn 20003 1, eOwn 20004 1]
def u37_0_0 {β : Type} (g : St → β) : Int → Rows → Int → Int → Rows → Rows → β := p37_0_0.unc g
def p37_0_1 : PT St := pS [sl 1 (aV false [(cPtr 1 0)]), sl 3 (aV false [(cRef 20003)]), sl 4 (aV false [(cRef 20004)]), sl 5 (aV false [(cD (dI .i64))]), sl 11 (aV false [(cD dB)])] [eBox 1 [(cD dL), (cD (dI .i64)), (cD (dI .i64))], eOwn 20003 1, eOwn 20004 1]
def u37_0_1 {β : Type} (g : St → β) : Int → Bool → Rows → Int → Int → Rows → Rows → β := p37_0_1.unc g
def pr37_0_0 : PT (List RV) := pRs [pR false [rO 1]]
def ur37_0_0 {β : Type} (g : List RV → β) : Rows → β := pr37_0_0.unc g
def E37_0g (vf72_0 : Tf72_0) : EnvK := EnvK.of [⟨72, nt72, [⟨pa72_0, Fn72_0 vf72_0⟩]⟩] noSeq
noncomputable def E37_0 : EnvK := E37_0g f72_0
theorem eo37_0 : E37_0.Ok Try.prog := EnvK.of_ok noSeq_ok ⟨⟨io72_0, trivial⟩, trivial⟩
noncomputable def c37_0_11g  : MCode := (.seq (.seq (.region r37_14 [] (tO [1, 3, 4, 5, 11])) (.cond (.tmp 11) .skip (.exit 0))) (.seq (.block 1 (.seq (.region r37_19 [] (tO [1, 3, 4, 5, 20])) (.cond (.tmp 20) (.region r37_21 [] (tO [1, 3, 4, 5])) .skip))) (.region r37_22 [] (tO [1, 3, 4, 5]))))
noncomputable def c37_0_11 : MCode := c37_0_11g 
theorem g37_0_11 : c37_0_11.Good Try.prog E37_0 sh37 := ⟨⟨trivial, ⟨trivial, trivial⟩⟩, ⟨⟨trivial, ⟨trivial, trivial⟩⟩, trivial⟩⟩
--CODE 11 0
def S37_0_0g  (α : Type) (x8 : Int) (x10 : Rows) (x5 : Int) (x9 : Rows) (kn : Int → Rows → Option α) (k1 : Int → Bool → Rows → Option α) : Option α :=
 cK (decide (x5 < ((List.length x10 : Nat) : Int)))
 (ixK x10 x5 1
 (ldK x10 (Int.toNat x5) 0 [.int .i64]
 (fun x12 => cK (decide (x8 ≤ x12))
 (gK (apOk 1 8 x9 [[DC.v (.int .i64 x5)]]) (kn (w64 (x5 + 1)) (x9 ++ [[DC.v (.int .i64 x5)]])))
 (kn (w64 (x5 + 1)) x9))))
 (k1 x5 (decide (x5 < ((List.length x10 : Nat) : Int))) x9)
noncomputable def S37_0_0 (α : Type) (x8 : Int) (x10 : Rows) (x5 : Int) (x9 : Rows) (kn : Int → Rows → Option α) (k1 : Int → Bool → Rows → Option α) : Option α := S37_0_0g  α x8 x10 x5 x9 kn k1
noncomputable def R37_0_0 (α : Type) (x8 : Int) (x10 : Rows) (k1 : Int → Bool → Rows → Option α) : Nat → Int → Rows → Option α
 | 0, _, _ => none
 | n + 1, x5, x9 => S37_0_0 α x8 x10 x5 x9 (R37_0_0 α x8 x10 k1 n) k1
noncomputable def L37_0_0 (α : Type) (x8 : Int) (x10 : Rows) (k1 : Int → Bool → Rows → Option α) (x5 : Int) (x9 : Rows) : Option α := R37_0_0 α x8 x10 k1 fuel x5 x9
abbrev TL37_0_0 : Type 1 := (α : Type) → Int → Rows → (Int → Bool → Rows → Option α) → Int → Rows → Option α
def F37_0_0 (v : TL37_0_0) (α : Type) (K : Exit → St → Option α) : Int → Rows → Int → Int → Rows → Rows → Option α := fun x5 x6 x7 x8 x9 x10 => v α x8 x10 (fun (y1 : Int) (y2 : Bool) (y3 : Rows) => u37_0_1 (K (.exit 0)) y1 y2 x6 x7 x8 y3 x10) x5 x9
theorem r37_0_0g (vf72_0 : Tf72_0)  (α : Type) (K : Exit → St → Option α) (Kn : St → Option α) (x5 : Int) (x6 : Rows) (x7 x8 : Int) (x9 x10 : Rows) : u37_0_0 (fun σ => runM Try.prog (E37_0g vf72_0) sh37 (c37_0_11g ) (thenK (fun σ => tidyK td37_11 σ Kn) K) σ) x5 x6 x7 x8 x9 x10 = S37_0_0g  α x8 x10 x5 x9 (fun x5 x9 => u37_0_0 Kn x5 x6 x7 x8 x9 x10) (fun (y1 : Int) (y2 : Bool) (y3 : Rows) => u37_0_1 (K (.exit 0)) y1 y2 x6 x7 x8 y3 x10) := by kernel_rfl
theorem r37_0_0 (α : Type) (K : Exit → St → Option α) (Kn : St → Option α) (x5 : Int) (x6 : Rows) (x7 x8 : Int) (x9 x10 : Rows) : u37_0_0 (fun σ => runM Try.prog E37_0 sh37 c37_0_11 (thenK (fun σ => tidyK td37_11 σ Kn) K) σ) x5 x6 x7 x8 x9 x10 = S37_0_0 α x8 x10 x5 x9 (fun x5 x9 => u37_0_0 Kn x5 x6 x7 x8 x9 x10) (fun (y1 : Int) (y2 : Bool) (y3 : Rows) => u37_0_1 (K (.exit 0)) y1 y2 x6 x7 x8 y3 x10) := r37_0_0g f72_0 α K Kn x5 x6 x7 x8 x9 x10
theorem t37_0_0 (α : Type) (K : Exit → St → Option α) : ∀ (n : Nat) (x5 : Int) (x6 : Rows) (x7 x8 : Int) (x9 x10 : Rows), R37_0_0 α x8 x10 (fun (y1 : Int) (y2 : Bool) (y3 : Rows) => u37_0_1 (K (.exit 0)) y1 y2 x6 x7 x8 y3 x10) n x5 x9 = u37_0_0 (loopT (runM Try.prog E37_0 sh37 c37_0_11) td37_11 K n) x5 x6 x7 x8 x9 x10 := by
 intro n
 induction n with
 | zero => intros; rfl
 | succ n ih => intro x5 x6 x7 x8 x9 x10; exact (congrArg (fun kn => S37_0_0 α x8 x10 x5 x9 kn (fun (y1 : Int) (y2 : Bool) (y3 : Rows) => u37_0_1 (K (.exit 0)) y1 y2 x6 x7 x8 y3 x10)) (funext fun x5 => funext fun x9 => ih x5 x6 x7 x8 x9 x10)).trans (r37_0_0 α K (loopT (runM Try.prog E37_0 sh37 c37_0_11) td37_11 K n) x5 x6 x7 x8 x9 x10).symm
theorem m37_0_0 : ∀ (α : Type) (K : Exit → St → Option α), F37_0_0 L37_0_0 α K = p37_0_0.unc fun σ => loopT (runM Try.prog E37_0 sh37 c37_0_11) td37_11 K fuel σ := fun α K => funext fun x5 => funext fun x6 => funext fun x7 => funext fun x8 => funext fun x9 => funext fun x10 => t37_0_0 α K fuel x5 x6 x7 x8 x9 x10
abbrev Tf37_0 : Type 1 := (α : Type) → Rows → Int → Int → (Rows → Option α) → Option α
def f37_0g (vL37_0_0 : TL37_0_0) (vf72_0 : Tf72_0) (α : Type) (x1 : Rows) (x2 x3 : Int) (k1 : Rows → Option α) : Option α :=
 vf72_0 α x1 x2 x3
 (fun x4 => vL37_0_0 α x3 x4
 (fun x13 x14 x15 => k1 x15) 0 ([] : Rows))
noncomputable def f37_0 (α : Type) (x1 : Rows) (x2 x3 : Int) (k1 : Rows → Option α) : Option α := f37_0g L37_0_0 f72_0 α x1 x2 x3 k1
def pa37_0 : PT (List DV) := pA [pV true [dL, (dI .i64), (dI .i64)]]
def Fn37_0 (v : Tf37_0) (α : Type) (k : List RV → Option α) : Rows → Int → Int → Option α := fun x1 x2 x3 => v α x1 x2 x3 (fun (y1 : Rows) => ur37_0_0 k y1)
noncomputable def cm37_0g (vL37_0_0 : TL37_0_0) : MCode := (.seq (.region r37_2 [] (tO [1])) (.seq (.region r37_4 [] (tO [1, 3])) (.seq (.region r37_6 [] (tO [1, 3, 4])) (.seq (.seq (.region r37_9 [] (tO [1, 3, 4, 5])) (.block 0 (.loop td37_11 [⟨p37_0_0, F37_0_0 vL37_0_0⟩] c37_0_11))) (.seq (.region r37_24 [] (some ⟨[2], true, [⟨false, 2, 0, 20002, 1⟩], []⟩)) .ret)))))
noncomputable def cm37_0 : MCode := cm37_0g L37_0_0
theorem gm37_0 : cm37_0.Good Try.prog E37_0 sh37 := ⟨trivial, ⟨trivial, ⟨trivial, ⟨⟨trivial, ⟨g37_0_11, m37_0_0, trivial⟩⟩, ⟨trivial, trivial⟩⟩⟩⟩⟩
theorem fm37_0g (vf72_0 : Tf72_0) (vL37_0_0 : TL37_0_0) (α : Type) (k : List RV → Option α) : Fn37_0 (f37_0g vL37_0_0 vf72_0) α k = pa37_0.unc fun ds => fnM Try.prog (E37_0g vf72_0) sh37 (cm37_0g vL37_0_0) rs37 k ds := by kernel_rfl
theorem fm37_0 : ∀ (α : Type) (k : List RV → Option α), Fn37_0 f37_0 α k = pa37_0.unc fun ds => fnM Try.prog E37_0 sh37 cm37_0 rs37 k ds := fm37_0g f72_0 L37_0_0
theorem is37 : FnIs Try.prog 37 nt37 tr37 tl37 cm37_0.erase rs37 := ⟨Try.f37, Try.func37, rfl, by kernel_rfl, by kernel_rfl, by kernel_rfl⟩
theorem io37_0 : InstOk Try.prog 37 nt37 ⟨pa37_0, Fn37_0 f37_0⟩ := inst_ok eo37_0 followsTry is37 ⟨⟨sh37, cm37_0, by kernel_rfl, gm37_0, fm37_0⟩⟩
abbrev nt68 : Nat := 35
def sh68 : List (Nat × List Sh) := [(13, [.int .i64, .int .i64]), (14, [.int .i64, .int .i64]), (15, [.int .i64, .int .i64]), (23, [.int .i64]), (25, [.int .i64]), (28, [.int .i64]), (30, [.int .i64]), (34, [.int .i64, .int .i64])]
def r68_2 : List AOper := [oO 4 (.alloc [(cI 0), (cI 0)])]
def r68_4 : List AOper := [oO 5 (.alloc [(cI 0), (cI 0)])]
def r68_7 : List AOper := [oM 8 0, oO 9 (.len (.tmp 8)), oO 10 (.mv (kI 0))]
def td68_9 : Option Tidy := (some ⟨[1, 4, 5, 8, 9, 10], true, [⟨false, 8, 0, 20008, 2⟩], []⟩)
def r68_11 : List AOper := [oO 11 (.bin .lss 3 (.tmp 10) (.tmp 9))]
def r68_17 : List AOper := [oM 12 10, oO 13 (.iaddr 2 none (.tmp 8) (.tmp 10)), oO 14 (.load true 2 (.tmp 13)), oO 7 (.alloc [(cI 0), (cI 0)]), oM 6 12, oD (.store 2 (.tmp 7) (.tmp 14))]
def r68_19 : List AOper := [oO 15 (.load true 2 (.tmp 7)), oM 16 6, oO 17 (.bin .rem 3 (.tmp 16) (kI 4)), oM 18 1, oO 19 (.bin .rem 3 (.tmp 18) (kI 4)), oO 20 (.bin .mul 3 (.tmp 17) (.tmp 19)), oO 21 (.call 119 [(.tmp 15), (.tmp 20)]), oD (.store 2 (.tmp 7) (.tmp 21))]
def r68_20 : List AOper := [oO 22 (.faddr 0 (.tmp 5)), oO 23 (.load false 1 (.tmp 22)), oO 24 (.faddr 0 (.tmp 7)), oO 25 (.load false 1 (.tmp 24)), oO 26 (.bin .add 3 (.tmp 23) (.tmp 25)), oO 27 (.faddr 1 (.tmp 5)), oO 28 (.load false 1 (.tmp 27)), oO 29 (.faddr 1 (.tmp 7)), oO 30 (.load false 1 (.tmp 29)), oO 31 (.bin .add 3 (.tmp 28) (.tmp 30)), oO 32 (.build [(cI 0), (cI 0)] [(0, 1, (.tmp 26)), (1, 1, (.tmp 31))]), oD (.store 2 (.tmp 5) (.tmp 32))]
def r68_21 : List AOper := [oO 33 (.bin .add 3 (.tmp 10) (kI 1)), oM 10 33]
def r68_23 : List AOper := [oO 34 (.load true 2 (.tmp 5)), oD (.store 2 (.tmp 4) (.tmp 34))]
def tr68 : List (Nat × Tidy) := [tT 0 [0, 1, 4], tT 1 [0, 1, 4, 5], tT 2 [1, 4, 5, 8, 9, 10], tT 3 [1, 4, 5, 8, 9, 10, 11], tT 4 [1, 4, 5, 6, 7, 8, 9, 10], tT 5 [1, 4, 5, 7, 8, 9, 10], tT 6 [1, 4, 5, 8, 9, 10], tT 7 [1, 4, 5, 8, 9, 10], tT 8 [4]]
def tl68 : List (Nat × Tidy) := [(3, ⟨[1, 4, 5, 8, 9, 10], true, [⟨false, 8, 0, 20008, 2⟩], []⟩)]
def rs68 : List AResV := [.cell 4 true 2]
def p68_0_0 : PT St := pS [sl 1 (aV false [(cD (dI .i64))]), sl 4 (aV false [(cPtr 4 0)]), sl 5 (aV false [(cPtr 5 0)]), sl 8 (aV false [(cD dL)]), sl 9 (aV false [(cD (dI .i64))]), sl 10 (aV false [(cD (dI .i64))])] [eBox 4 [(cD (dI .i64)), (cD (dI .i64))], eBox 5 [(cD (dI .i64)), (cD (dI .i64))]]
def u68_0_0 {β : Type} (g : St → β) : Int → Rows → Int → Int → Int → Int → Int → Int → β := p68_0_0.unc g
def p68_0_1 : PT St := pS [sl 1 (aV false [(cD (dI .i64))]), sl 4 (aV false [(cPtr 4 0)]), sl 5 (aV false [(cPtr 5 0)]), sl 8 (aV false [(cD dL)]), sl 9 (aV false [(cD (dI .i64))]), sl 10 (aV false [(cD (dI .i64))]), sl 11 (aV false [(cD dB)])] [eBox 4 [(cD (dI .i64)), (cD (dI .i64))], eBox 5 [(cD (dI .i64)), (cD (dI .i64))]]
def u68_0_1 {β : Type} (g : St → β) : Int → Rows → Int → Int → Bool → Int → Int → Int → Int → β := p68_0_1.unc g
def pr68_0_0 : PT (List RV) := pRs [pR true [rD (dI .i64), rD (dI .i64)]]
def ur68_0_0 {β : Type} (g : List RV → β) : Int → Int → β := pr68_0_0.unc g
def E68_0g (vf119_0 : Tf119_0) : EnvK := EnvK.of [⟨119, nt119, [⟨pa119_0, Fn119_0 vf119_0⟩]⟩] noSeq
noncomputable def E68_0 : EnvK := E68_0g f119_0
theorem eo68_0 : E68_0.Ok Try.prog := EnvK.of_ok noSeq_ok ⟨⟨io119_0, trivial⟩, trivial⟩
noncomputable def c68_0_9g  : MCode := (.seq (.region r68_11 [] (tO [1, 4, 5, 8, 9, 10, 11])) (.seq (.cond (.tmp 11) .skip (.exit 0)) (.seq (.block 1 (.seq (.region r68_17 [] (tO [1, 4, 5, 6, 7, 8, 9, 10])) (.seq (.region r68_19 [] (tO [1, 4, 5, 7, 8, 9, 10])) (.region r68_20 [] (tO [1, 4, 5, 8, 9, 10]))))) (.region r68_21 [] (tO [1, 4, 5, 8, 9, 10])))))
noncomputable def c68_0_9 : MCode := c68_0_9g 
theorem g68_0_9 : c68_0_9.Good Try.prog E68_0 sh68 := ⟨trivial, ⟨⟨trivial, trivial⟩, ⟨⟨trivial, ⟨trivial, trivial⟩⟩, trivial⟩⟩⟩
--CODE 9 0
def S68_0_0g (vf119_0 : Tf119_0) (α : Type) (x3 : Int) (x4 : Rows) (x5 x6 x9 x10 : Int) (kn : Int → Int → Int → Option α) (k1 : Int → Bool → Int → Int → Option α) : Option α :=
 cK (decide (x6 < x5))
 (rowK x4 x6 [.int .i64, .int .i64]
 (fun x12 x13 => vf119_0 α x12 x13 (w64 ((Int.tmod x6 4) * (Int.tmod x3 4)))
 (fun x14 x15 => kn (w64 (x6 + 1)) (w64 (x9 + x14)) (w64 (x10 + x15)))))
 (k1 x6 (decide (x6 < x5)) x9 x10)
noncomputable def S68_0_0 (α : Type) (x3 : Int) (x4 : Rows) (x5 x6 x9 x10 : Int) (kn : Int → Int → Int → Option α) (k1 : Int → Bool → Int → Int → Option α) : Option α := S68_0_0g f119_0 α x3 x4 x5 x6 x9 x10 kn k1
noncomputable def R68_0_0 (α : Type) (x3 : Int) (x4 : Rows) (x5 : Int) (k1 : Int → Bool → Int → Int → Option α) : Nat → Int → Int → Int → Option α
 | 0, _, _, _ => none
 | n + 1, x6, x9, x10 => S68_0_0 α x3 x4 x5 x6 x9 x10 (R68_0_0 α x3 x4 x5 k1 n) k1
noncomputable def L68_0_0 (α : Type) (x3 : Int) (x4 : Rows) (x5 : Int) (k1 : Int → Bool → Int → Int → Option α) (x6 x9 x10 : Int) : Option α := R68_0_0 α x3 x4 x5 k1 fuel x6 x9 x10
abbrev TL68_0_0 : Type 1 := (α : Type) → Int → Rows → Int → (Int → Bool → Int → Int → Option α) → Int → Int → Int → Option α
def F68_0_0 (v : TL68_0_0) (α : Type) (K : Exit → St → Option α) : Int → Rows → Int → Int → Int → Int → Int → Int → Option α := fun x3 x4 x5 x6 x7 x8 x9 x10 => v α x3 x4 x5 (fun (y1 : Int) (y2 : Bool) (y3 : Int) (y4 : Int) => u68_0_1 (K (.exit 0)) x3 x4 x5 y1 y2 x7 x8 y3 y4) x6 x9 x10
theorem r68_0_0g (vf119_0 : Tf119_0)  (α : Type) (K : Exit → St → Option α) (Kn : St → Option α) (x3 : Int) (x4 : Rows) (x5 x6 x7 x8 x9 x10 : Int) : u68_0_0 (fun σ => runM Try.prog (E68_0g vf119_0) sh68 (c68_0_9g ) (thenK (fun σ => tidyK td68_9 σ Kn) K) σ) x3 x4 x5 x6 x7 x8 x9 x10 = S68_0_0g vf119_0 α x3 x4 x5 x6 x9 x10 (fun x6 x9 x10 => u68_0_0 Kn x3 x4 x5 x6 x7 x8 x9 x10) (fun (y1 : Int) (y2 : Bool) (y3 : Int) (y4 : Int) => u68_0_1 (K (.exit 0)) x3 x4 x5 y1 y2 x7 x8 y3 y4) := by kernel_rfl
theorem r68_0_0 (α : Type) (K : Exit → St → Option α) (Kn : St → Option α) (x3 : Int) (x4 : Rows) (x5 x6 x7 x8 x9 x10 : Int) : u68_0_0 (fun σ => runM Try.prog E68_0 sh68 c68_0_9 (thenK (fun σ => tidyK td68_9 σ Kn) K) σ) x3 x4 x5 x6 x7 x8 x9 x10 = S68_0_0 α x3 x4 x5 x6 x9 x10 (fun x6 x9 x10 => u68_0_0 Kn x3 x4 x5 x6 x7 x8 x9 x10) (fun (y1 : Int) (y2 : Bool) (y3 : Int) (y4 : Int) => u68_0_1 (K (.exit 0)) x3 x4 x5 y1 y2 x7 x8 y3 y4) := r68_0_0g f119_0 α K Kn x3 x4 x5 x6 x7 x8 x9 x10
theorem t68_0_0 (α : Type) (K : Exit → St → Option α) : ∀ (n : Nat) (x3 : Int) (x4 : Rows) (x5 x6 x7 x8 x9 x10 : Int), R68_0_0 α x3 x4 x5 (fun (y1 : Int) (y2 : Bool) (y3 : Int) (y4 : Int) => u68_0_1 (K (.exit 0)) x3 x4 x5 y1 y2 x7 x8 y3 y4) n x6 x9 x10 = u68_0_0 (loopT (runM Try.prog E68_0 sh68 c68_0_9) td68_9 K n) x3 x4 x5 x6 x7 x8 x9 x10 := by
 intro n
 induction n with
 | zero => intros; rfl
 | succ n ih => intro x3 x4 x5 x6 x7 x8 x9 x10; exact (congrArg (fun kn => S68_0_0 α x3 x4 x5 x6 x9 x10 kn (fun (y1 : Int) (y2 : Bool) (y3 : Int) (y4 : Int) => u68_0_1 (K (.exit 0)) x3 x4 x5 y1 y2 x7 x8 y3 y4)) (funext fun x6 => funext fun x9 => funext fun x10 => ih x3 x4 x5 x6 x7 x8 x9 x10)).trans (r68_0_0 α K (loopT (runM Try.prog E68_0 sh68 c68_0_9) td68_9 K n) x3 x4 x5 x6 x7 x8 x9 x10).symm
theorem m68_0_0 : ∀ (α : Type) (K : Exit → St → Option α), F68_0_0 L68_0_0 α K = p68_0_0.unc fun σ => loopT (runM Try.prog E68_0 sh68 c68_0_9) td68_9 K fuel σ := fun α K => funext fun x3 => funext fun x4 => funext fun x5 => funext fun x6 => funext fun x7 => funext fun x8 => funext fun x9 => funext fun x10 => t68_0_0 α K fuel x3 x4 x5 x6 x7 x8 x9 x10
abbrev Tf68_0 : Type 1 := (α : Type) → Rows → Int → (Int → Int → Option α) → Option α
def f68_0g (vL68_0_0 : TL68_0_0) (α : Type) (x1 : Rows) (x2 : Int) (k1 : Int → Int → Option α) : Option α :=
 vL68_0_0 α x2 x1 ((List.length x1 : Nat) : Int)
 (fun x16 x17 x18 x19 => k1 x18 x19) 0 0 0
noncomputable def f68_0 (α : Type) (x1 : Rows) (x2 : Int) (k1 : Int → Int → Option α) : Option α := f68_0g L68_0_0 α x1 x2 k1
def pa68_0 : PT (List DV) := pA [pV false [dL], pV false [(dI .i64)]]
def Fn68_0 (v : Tf68_0) (α : Type) (k : List RV → Option α) : Rows → Int → Option α := fun x1 x2 => v α x1 x2 (fun (y1 : Int) (y2 : Int) => ur68_0_0 k y1 y2)
noncomputable def cm68_0g (vL68_0_0 : TL68_0_0) : MCode := (.seq (.region r68_2 [] (tO [0, 1, 4])) (.seq (.region r68_4 [] (tO [0, 1, 4, 5])) (.seq (.seq (.region r68_7 [] (tO [1, 4, 5, 8, 9, 10])) (.block 0 (.loop td68_9 [⟨p68_0_0, F68_0_0 vL68_0_0⟩] c68_0_9))) (.seq (.region r68_23 [] (tO [4])) .ret))))
noncomputable def cm68_0 : MCode := cm68_0g L68_0_0
theorem gm68_0 : cm68_0.Good Try.prog E68_0 sh68 := ⟨trivial, ⟨trivial, ⟨⟨trivial, ⟨g68_0_9, m68_0_0, trivial⟩⟩, ⟨trivial, trivial⟩⟩⟩⟩
theorem fm68_0g (vf119_0 : Tf119_0) (vL68_0_0 : TL68_0_0) (α : Type) (k : List RV → Option α) : Fn68_0 (f68_0g vL68_0_0) α k = pa68_0.unc fun ds => fnM Try.prog (E68_0g vf119_0) sh68 (cm68_0g vL68_0_0) rs68 k ds := by kernel_rfl
theorem fm68_0 : ∀ (α : Type) (k : List RV → Option α), Fn68_0 f68_0 α k = pa68_0.unc fun ds => fnM Try.prog E68_0 sh68 cm68_0 rs68 k ds := fm68_0g f119_0 L68_0_0
theorem is68 : FnIs Try.prog 68 nt68 tr68 tl68 cm68_0.erase rs68 := ⟨Try.f68, Try.func68, rfl, by kernel_rfl, by kernel_rfl, by kernel_rfl⟩
theorem io68_0 : InstOk Try.prog 68 nt68 ⟨pa68_0, Fn68_0 f68_0⟩ := inst_ok eo68_0 followsTry is68 ⟨⟨sh68, cm68_0, by kernel_rfl, gm68_0, fm68_0⟩⟩
abbrev nt118 : Nat := 40
def sh118 : List (Nat × List Sh) := []
def r118_2 : List AOper := [oO 6 (.mv (kI 0)), oO 7 (.mv (kI 0))]
def r118_6 : List AOper := [oM 9 0, oM 10 0, oO 11 (.bin .neq 74 (.tmp 9) (.tmp 10)), oM 12 11, oG 13 (.mv (.tmp 0)) 12 false, oG 14 (.mv (.tmp 0)) 12 false, oG 15 (.bin .sub 74 (.tmp 13) (.tmp 14)) 12 false, oG 16 (.bin .neq 74 (.tmp 15) (.const (.float Go.FloatKind.f32 0))) 12 false, oO 17 (.pick (.tmp 12) (.const (.bool true)) (.tmp 16)), oM 8 17]
def r118_9 : List AOper := [oO 6 (.mv (kI 0)), oO 7 (.mv (kI 27))]
def r118_11 : List AOper := [oM 19 0, oO 20 (.bin .gtr 74 (.tmp 19) (.const (.float Go.FloatKind.f32 1317011456))), oM 21 20, oG 22 (.mv (.tmp 0)) 21 false, oG 23 (.bin .lss 74 (.tmp 22) (.const (.float Go.FloatKind.f32 3464495104))) 21 false, oO 24 (.pick (.tmp 21) (.const (.bool true)) (.tmp 23)), oM 18 24]
def r118_14 : List AOper := [oO 6 (.mv (kI 0)), oO 7 (.mv (kI 2))]
def r118_16 : List AOper := [oM 26 0, oO 27 (.pure (oB (.convert 74 3 (.tmp 26)) 3)), oO 28 (.pure (oB (.convert 3 74 (.tmp 27)) 74)), oM 29 0, oO 30 (.bin .neq 74 (.tmp 28) (.tmp 29)), oM 25 30]
def r118_19 : List AOper := [oO 6 (.mv (kI 0)), oO 7 (.mv (kI 27))]
def r118_21 : List AOper := [oM 32 0, oO 33 (.pure (oB (.convert 74 3 (.tmp 32)) 3)), oM 34 1, oM 35 2, oO 36 (.call 98 [(.tmp 33), (.tmp 34), (.tmp 35)]), oO 37 (.pure (oB (.unOp .not 4 (.tmp 36)) 4)), oM 31 37]
def r118_24 : List AOper := [oO 6 (.mv (kI 0)), oO 7 (.mv (kI 2))]
def r118_26 : List AOper := [oM 38 0, oO 39 (.pure (oB (.convert 74 3 (.tmp 38)) 3)), oM 6 39, oO 7 (.mv (kI 0))]
def tr118 : List (Nat × Tidy) := [tT 0 [0, 1, 2], tT 1 [0, 1, 2, 8], tT 2 [6, 7], tT 3 [0, 1, 2, 18], tT 4 [6, 7], tT 5 [0, 1, 2, 25], tT 6 [6, 7], tT 7 [0, 31], tT 8 [6, 7], tT 9 [6, 7]]
def tl118 : List (Nat × Tidy) := []
def rs118 : List AResV := [.tmp 6, .tmp 7]
def p118_0_0 : PT St := pS [sl 0 (aV false [(cD (dF .f32))]), sl 1 (aV false [(cD (dI .i64))]), sl 2 (aV false [(cD (dI .i64))])] []
def u118_0_0 {β : Type} (g : St → β) : Nat → Int → Int → β := p118_0_0.unc g
def p118_0_1 : PT St := pS [sl 0 (aV false [(cD (dF .f32))]), sl 1 (aV false [(cD (dI .i64))]), sl 2 (aV false [(cD (dI .i64))]), sl 8 (aV false [(cD dB)])] []
def u118_0_1 {β : Type} (g : St → β) : Nat → Int → Int → Bool → β := p118_0_1.unc g
def p118_0_2 : PT St := pS [sl 0 (aV false [(cD (dF .f32))]), sl 1 (aV false [(cD (dI .i64))]), sl 2 (aV false [(cD (dI .i64))]), sl 18 (aV false [(cD dB)])] []
def u118_0_2 {β : Type} (g : St → β) : Nat → Int → Int → Bool → β := p118_0_2.unc g
def pr118_0_0 : PT (List RV) := pRs [pR false [rD (dI .i64)], pR false [rD (dI .i64)]]
def ur118_0_0 {β : Type} (g : List RV → β) : Int → Int → β := pr118_0_0.unc g
def E118_0g (vf98_0 : Tf98_0) : EnvK := EnvK.of [⟨98, nt98, [⟨pa98_0, Fn98_0 vf98_0⟩]⟩] noSeq
noncomputable def E118_0 : EnvK := E118_0g f98_0
theorem eo118_0 : E118_0.Ok Try.prog := EnvK.of_ok noSeq_ok ⟨⟨io98_0, trivial⟩, trivial⟩
noncomputable def c118_0_10g  : MCode := (.region r118_11 [] (tO [0, 1, 2, 18]))
noncomputable def c118_0_10 : MCode := c118_0_10g 
theorem g118_0_10 : c118_0_10.Good Try.prog E118_0 sh118 := trivial
--CODE 10 0
abbrev TJ118_0_1 : Type 1 := (α : Type) → Nat → (Bool → Option α) → Option α
def J118_0_1g  (α : Type) (x11 : Nat) (k1 : Bool → Option α) : Option α :=
 cK ((FloatKind.format .f32).order x11 1317011456 == some Ordering.gt)
 (k1 true)
 (k1 ((FloatKind.format .f32).order x11 3464495104 == some Ordering.lt))
noncomputable def J118_0_1 (α : Type) (x11 : Nat) (k1 : Bool → Option α) : Option α := J118_0_1g  α x11 k1
def F118_0_1 (v : TJ118_0_1) (α : Type) (K : Exit → St → Option α) : Nat → Int → Int → Bool → Option α := fun x11 x12 x13 x14 => v α x11 (fun (y1 : Bool) => u118_0_2 (K .normal) x11 x12 x13 y1) 
theorem m118_0_1g (vf98_0 : Tf98_0)  (α : Type) (K : Exit → St → Option α) : F118_0_1 (J118_0_1g ) α K = p118_0_1.unc fun σ => runM Try.prog (E118_0g vf98_0) sh118 (c118_0_10g ) K σ := by kernel_rfl
theorem m118_0_1 : ∀ (α : Type) (K : Exit → St → Option α), F118_0_1 J118_0_1 α K = p118_0_1.unc fun σ => runM Try.prog E118_0 sh118 c118_0_10 K σ := m118_0_1g f98_0
noncomputable def c118_0_5g  : MCode := (.region r118_6 [] (tO [0, 1, 2, 8]))
noncomputable def c118_0_5 : MCode := c118_0_5g 
theorem g118_0_5 : c118_0_5.Good Try.prog E118_0 sh118 := trivial
--CODE 5 0
abbrev TJ118_0_0 : Type 1 := (α : Type) → Nat → (Bool → Option α) → Option α
def J118_0_0g  (α : Type) (x4 : Nat) (k1 : Bool → Option α) : Option α :=
 cK ((FloatKind.format .f32).order x4 x4 != some Ordering.eq)
 (k1 true)
 (flN ((FloatKind.format .f32).sub x4 x4)
 (fun x8 => k1 ((FloatKind.format .f32).order x8 0 != some Ordering.eq))
 (k1 true))
noncomputable def J118_0_0 (α : Type) (x4 : Nat) (k1 : Bool → Option α) : Option α := J118_0_0g  α x4 k1
def F118_0_0 (v : TJ118_0_0) (α : Type) (K : Exit → St → Option α) : Nat → Int → Int → Option α := fun x4 x5 x6 => v α x4 (fun (y1 : Bool) => u118_0_1 (K .normal) x4 x5 x6 y1) 
theorem m118_0_0g (vf98_0 : Tf98_0)  (α : Type) (K : Exit → St → Option α) : F118_0_0 (J118_0_0g ) α K = p118_0_0.unc fun σ => runM Try.prog (E118_0g vf98_0) sh118 (c118_0_5g ) K σ := by kernel_rfl
theorem m118_0_0 : ∀ (α : Type) (K : Exit → St → Option α), F118_0_0 J118_0_0 α K = p118_0_0.unc fun σ => runM Try.prog E118_0 sh118 c118_0_5 K σ := m118_0_0g f98_0
abbrev Tf118_0 : Type 1 := (α : Type) → Nat → Int → Int → (Int → Int → Option α) → Option α
def f118_0g (vJ118_0_0 : TJ118_0_0) (vJ118_0_1 : TJ118_0_1) (vf98_0 : Tf98_0) (α : Type) (x1 : Nat) (x2 x3 : Int) (k1 : Int → Int → Option α) : Option α :=
 vJ118_0_0 α x1
 (fun x9 => cK x9
 (k1 0 27)
 (vJ118_0_1 α x1
 (fun x16 => cK x16
 (k1 0 2)
 (ivK (f2i .f32 x1 .i64)
 (fun x18 => cK ((FloatKind.format .f32).order (FloatKind.nearest .f32 x18) x1 != some Ordering.eq)
 (k1 0 27)
 (ivK (f2i .f32 x1 .i64)
 (fun x19 => vf98_0 α x19 x2 x3
 (fun x20 => cK (!x20)
 (k1 0 2)
 (ivK (f2i .f32 x1 .i64)
 (fun x21 => k1 x21 0))))))))))
noncomputable def f118_0 (α : Type) (x1 : Nat) (x2 x3 : Int) (k1 : Int → Int → Option α) : Option α := f118_0g J118_0_0 J118_0_1 f98_0 α x1 x2 x3 k1
def pa118_0 : PT (List DV) := pA [pV false [(dF .f32)], pV false [(dI .i64)], pV false [(dI .i64)]]
def Fn118_0 (v : Tf118_0) (α : Type) (k : List RV → Option α) : Nat → Int → Int → Option α := fun x1 x2 x3 => v α x1 x2 x3 (fun (y1 : Int) (y2 : Int) => ur118_0_0 k y1 y2)
noncomputable def cm118_0g (vJ118_0_0 : TJ118_0_0) (vJ118_0_1 : TJ118_0_1) : MCode := (.seq (.region r118_2 [] (tO [0, 1, 2])) (.seq (.block 0 (.seq (.mark [⟨p118_0_0, F118_0_0 vJ118_0_0⟩] c118_0_5) (.cond (.tmp 8) (.seq (.region r118_9 [] (tO [6, 7])) .ret) (.seq (.mark [⟨p118_0_1, F118_0_1 vJ118_0_1⟩] c118_0_10) (.cond (.tmp 18) (.seq (.region r118_14 [] (tO [6, 7])) .ret) (.seq (.region r118_16 [] (tO [0, 1, 2, 25])) (.cond (.tmp 25) (.seq (.region r118_19 [] (tO [6, 7])) .ret) (.seq (.region r118_21 [] (tO [0, 31])) (.cond (.tmp 31) (.seq (.region r118_24 [] (tO [6, 7])) .ret) .skip))))))))) (.seq (.region r118_26 [] (tO [6, 7])) .ret)))
noncomputable def cm118_0 : MCode := cm118_0g J118_0_0 J118_0_1
theorem gm118_0 : cm118_0.Good Try.prog E118_0 sh118 := ⟨trivial, ⟨⟨⟨g118_0_5, m118_0_0, trivial⟩, ⟨⟨trivial, trivial⟩, ⟨⟨g118_0_10, m118_0_1, trivial⟩, ⟨⟨trivial, trivial⟩, ⟨trivial, ⟨⟨trivial, trivial⟩, ⟨trivial, ⟨⟨trivial, trivial⟩, trivial⟩⟩⟩⟩⟩⟩⟩⟩, ⟨trivial, trivial⟩⟩⟩
theorem fm118_0g (vf98_0 : Tf98_0) (vJ118_0_0 : TJ118_0_0) (vJ118_0_1 : TJ118_0_1) (α : Type) (k : List RV → Option α) : Fn118_0 (f118_0g vJ118_0_0 vJ118_0_1 vf98_0) α k = pa118_0.unc fun ds => fnM Try.prog (E118_0g vf98_0) sh118 (cm118_0g vJ118_0_0 vJ118_0_1) rs118 k ds := by kernel_rfl
theorem fm118_0 : ∀ (α : Type) (k : List RV → Option α), Fn118_0 f118_0 α k = pa118_0.unc fun ds => fnM Try.prog E118_0 sh118 cm118_0 rs118 k ds := fm118_0g f98_0 J118_0_0 J118_0_1
theorem is118 : FnIs Try.prog 118 nt118 tr118 tl118 cm118_0.erase rs118 := ⟨Try.f118, Try.func118, rfl, by kernel_rfl, by kernel_rfl, by kernel_rfl⟩
theorem io118_0 : InstOk Try.prog 118 nt118 ⟨pa118_0, Fn118_0 f118_0⟩ := inst_ok eo118_0 followsTry is118 ⟨⟨sh118, cm118_0, by kernel_rfl, gm118_0, fm118_0⟩⟩
abbrev nt70 : Nat := 5
def sh70 : List (Nat × List Sh) := []
def r70_2 : List AOper := [oO 2 (.mv (.const (.bool false)))]
def r70_4 : List AOper := [oM 3 0, oO 4 (.call 29 [(.tmp 3), (kI 0), (kI 65535)]), oM 2 4]
def tr70 : List (Nat × Tidy) := [tT 0 [0], tT 1 [2]]
def tl70 : List (Nat × Tidy) := []
def rs70 : List AResV := [.tmp 2]
def pr70_0_0 : PT (List RV) := pRs [pR false [rD dB]]
def ur70_0_0 {β : Type} (g : List RV → β) : Bool → β := pr70_0_0.unc g
def E70_0g (vf29_0 : Tf29_0) : EnvK := EnvK.of [⟨29, nt29, [⟨pa29_0, Fn29_0 vf29_0⟩]⟩] noSeq
noncomputable def E70_0 : EnvK := E70_0g f29_0
theorem eo70_0 : E70_0.Ok Try.prog := EnvK.of_ok noSeq_ok ⟨⟨io29_0, trivial⟩, trivial⟩
abbrev Tf70_0 : Type 1 := (α : Type) → Int → (Bool → Option α) → Option α
def f70_0g (vf29_0 : Tf29_0) (α : Type) (x1 : Int) (k1 : Bool → Option α) : Option α :=
 vf29_0 α x1 0 65535
 (fun x2 => k1 x2)
noncomputable def f70_0 (α : Type) (x1 : Int) (k1 : Bool → Option α) : Option α := f70_0g f29_0 α x1 k1
def pa70_0 : PT (List DV) := pA [pV false [(dI .i64)]]
def Fn70_0 (v : Tf70_0) (α : Type) (k : List RV → Option α) : Int → Option α := fun x1 => v α x1 (fun (y1 : Bool) => ur70_0_0 k y1)
noncomputable def cm70_0g  : MCode := (.seq (.region r70_2 [] (tO [0])) (.seq (.region r70_4 [] (tO [2])) .ret))
noncomputable def cm70_0 : MCode := cm70_0g 
theorem gm70_0 : cm70_0.Good Try.prog E70_0 sh70 := ⟨trivial, ⟨trivial, trivial⟩⟩
theorem fm70_0g (vf29_0 : Tf29_0)  (α : Type) (k : List RV → Option α) : Fn70_0 (f70_0g vf29_0) α k = pa70_0.unc fun ds => fnM Try.prog (E70_0g vf29_0) sh70 (cm70_0g ) rs70 k ds := by kernel_rfl
theorem fm70_0 : ∀ (α : Type) (k : List RV → Option α), Fn70_0 f70_0 α k = pa70_0.unc fun ds => fnM Try.prog E70_0 sh70 cm70_0 rs70 k ds := fm70_0g f29_0
theorem is70 : FnIs Try.prog 70 nt70 tr70 tl70 cm70_0.erase rs70 := ⟨Try.f70, Try.func70, rfl, by kernel_rfl, by kernel_rfl, by kernel_rfl⟩
theorem io70_0 : InstOk Try.prog 70 nt70 ⟨pa70_0, Fn70_0 f70_0⟩ := inst_ok eo70_0 followsTry is70 ⟨⟨sh70, cm70_0, by kernel_rfl, gm70_0, fm70_0⟩⟩
abbrev nt109 : Nat := 10
def sh109 : List (Nat × List Sh) := []
def r109_2 : List AOper := [oO 4 (.mv (.const (.bool false)))]
def r109_4 : List AOper := [oM 5 0, oM 6 1, oO 7 (.pure (oB (.unOp .neg 3 (.tmp 6)) 3)), oM 8 1, oO 9 (.call 98 [(.tmp 5), (.tmp 7), (.tmp 8)]), oM 4 9]
def tr109 : List (Nat × Tidy) := [tT 0 [0, 1], tT 1 [4]]
def tl109 : List (Nat × Tidy) := []
def rs109 : List AResV := [.tmp 4]
def pr109_0_0 : PT (List RV) := pRs [pR false [rD dB]]
def ur109_0_0 {β : Type} (g : List RV → β) : Bool → β := pr109_0_0.unc g
def E109_0g (vf98_0 : Tf98_0) : EnvK := EnvK.of [⟨98, nt98, [⟨pa98_0, Fn98_0 vf98_0⟩]⟩] noSeq
noncomputable def E109_0 : EnvK := E109_0g f98_0
theorem eo109_0 : E109_0.Ok Try.prog := EnvK.of_ok noSeq_ok ⟨⟨io98_0, trivial⟩, trivial⟩
abbrev Tf109_0 : Type 1 := (α : Type) → Int → Int → (Bool → Option α) → Option α
def f109_0g (vf98_0 : Tf98_0) (α : Type) (x1 x2 : Int) (k1 : Bool → Option α) : Option α :=
 vf98_0 α x1 (w64 (0 - x2)) x2
 (fun x3 => k1 x3)
noncomputable def f109_0 (α : Type) (x1 x2 : Int) (k1 : Bool → Option α) : Option α := f109_0g f98_0 α x1 x2 k1
def pa109_0 : PT (List DV) := pA [pV false [(dI .i64)], pV false [(dI .i64)]]
def Fn109_0 (v : Tf109_0) (α : Type) (k : List RV → Option α) : Int → Int → Option α := fun x1 x2 => v α x1 x2 (fun (y1 : Bool) => ur109_0_0 k y1)
noncomputable def cm109_0g  : MCode := (.seq (.region r109_2 [] (tO [0, 1])) (.seq (.region r109_4 [] (tO [4])) .ret))
noncomputable def cm109_0 : MCode := cm109_0g 
theorem gm109_0 : cm109_0.Good Try.prog E109_0 sh109 := ⟨trivial, ⟨trivial, trivial⟩⟩
theorem fm109_0g (vf98_0 : Tf98_0)  (α : Type) (k : List RV → Option α) : Fn109_0 (f109_0g vf98_0) α k = pa109_0.unc fun ds => fnM Try.prog (E109_0g vf98_0) sh109 (cm109_0g ) rs109 k ds := by kernel_rfl
theorem fm109_0 : ∀ (α : Type) (k : List RV → Option α), Fn109_0 f109_0 α k = pa109_0.unc fun ds => fnM Try.prog E109_0 sh109 cm109_0 rs109 k ds := fm109_0g f98_0
theorem is109 : FnIs Try.prog 109 nt109 tr109 tl109 cm109_0.erase rs109 := ⟨Try.f109, Try.func109, rfl, by kernel_rfl, by kernel_rfl, by kernel_rfl⟩
theorem io109_0 : InstOk Try.prog 109 nt109 ⟨pa109_0, Fn109_0 f109_0⟩ := inst_ok eo109_0 followsTry is109 ⟨⟨sh109, cm109_0, by kernel_rfl, gm109_0, fm109_0⟩⟩
end Go.AM.K
