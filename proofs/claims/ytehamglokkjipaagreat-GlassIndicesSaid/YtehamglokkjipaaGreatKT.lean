/- Printed by KGen. -/
import Derived.Test.YtehamglokkjipaaGreatQGX4a
namespace Go.AM.K
open Go.Proofs
set_option maxRecDepth 100000
set_option linter.unusedVariables false
abbrev nt59 : Nat := 22
def sh59 : List (Nat × List Sh) := [(5, [.int .i64]), (10, [.int .i64]), (16, [.int .i64]), (21, [.int .i64, .int .i64, .int .i64])]
def r59_2 : List AOper := [oO 1 (.box (.tmp 0)), oO 2 (.alloc [(cI 0), (cI 0), (cI 0)]), oO 3 (.mv (kI 0))]
def r59_5 : List AOper := [oO 4 (.faddr 0 (.tmp 1)), oO 5 (.load false 1 (.tmp 4)), oO 6 (.call 107 [(.tmp 5)]), oO 7 (.pure (oB (.unOp .not 4 (.tmp 6)) 4)), oM 8 7, oG 9 (.faddr 1 (.tmp 1)) 8 false, oG 10 (.load false 1 (.tmp 9)) 8 false, oG 11 (.call 107 [(.tmp 10)]) 8 false, oG 12 (.pure (oB (.unOp .not 4 (.tmp 11)) 4)) 8 false, oO 13 (.pick (.tmp 8) (.const (.bool true)) (.tmp 12)), oM 14 13, oG 15 (.faddr 2 (.tmp 1)) 14 false, oG 16 (.load false 1 (.tmp 15)) 14 false, oG 17 (.call 57 [(.tmp 16), (kI 0), (kI 67108864)]) 14 false, oG 18 (.pure (oB (.unOp .not 4 (.tmp 17)) 4)) 14 false, oO 19 (.pick (.tmp 14) (.const (.bool true)) (.tmp 18))]
def r59_8 : List AOper := [oO 20 (.build [(cI 0), (cI 0), (cI 0)] []), oD (.store 3 (.tmp 2) (.tmp 20)), oO 3 (.mv (kI 8))]
def r59_10 : List AOper := [oO 21 (.load true 3 (.tmp 1)), oD (.store 3 (.tmp 2) (.tmp 21)), oO 3 (.mv (kI 0))]
def tr59 : List (Nat × Tidy) := [tT 0 [1, 2], tT 1 [1, 2, 19], tT 2 [2, 3], tT 3 [2, 3]]
def tl59 : List (Nat × Tidy) := []
def rs59 : List AResV := [.cell 2 true 3, .tmp 3]
def p59_0_0 : PT St := pS [sl 1 (aV false [(cPtr 1 0)]), sl 2 (aV false [(cPtr 2 0)])] [eBox 1 [(cD (dI .i64)), (cD (dI .i64)), (cD (dI .i64))], eBox 2 [(cD (dI .i64)), (cD (dI .i64)), (cD (dI .i64))]]
def u59_0_0 {β : Type} (g : St → β) : Int → Int → Int → Int → Int → Int → β := p59_0_0.unc g
def p59_0_1 : PT St := pS [sl 1 (aV false [(cPtr 1 0)]), sl 2 (aV false [(cPtr 2 0)]), sl 19 (aV false [(cD dB)])] [eBox 1 [(cD (dI .i64)), (cD (dI .i64)), (cD (dI .i64))], eBox 2 [(cD (dI .i64)), (cD (dI .i64)), (cD (dI .i64))]]
def u59_0_1 {β : Type} (g : St → β) : Bool → Int → Int → Int → Int → Int → Int → β := p59_0_1.unc g
def pr59_0_0 : PT (List RV) := pRs [pR true [rD (dI .i64), rD (dI .i64), rD (dI .i64)], pR false [rD (dI .i64)]]
def ur59_0_0 {β : Type} (g : List RV → β) : Int → Int → Int → Int → β := pr59_0_0.unc g
def E59_0g (vf107_0 : Tf107_0) (vf57_0 : Tf57_0) : EnvK := EnvK.of [⟨107, nt107, [⟨pa107_0, Fn107_0 vf107_0⟩]⟩, ⟨57, nt57, [⟨pa57_0, Fn57_0 vf57_0⟩]⟩] noSeq
noncomputable def E59_0 : EnvK := E59_0g f107_0 f57_0
theorem eo59_0 : E59_0.Ok Tryz.prog := EnvK.of_ok noSeq_ok ⟨⟨io107_0, trivial⟩, ⟨io57_0, trivial⟩, trivial⟩
noncomputable def c59_0_4g  : MCode := (.region r59_5 [] (tO [1, 2, 19]))
noncomputable def c59_0_4 : MCode := c59_0_4g 
theorem g59_0_4 : c59_0_4.Good Tryz.prog E59_0 sh59 := trivial
--CODE 4 0
abbrev TJ59_0_0 : Type 1 := (α : Type) → Int → Int → Int → (Bool → Option α) → Option α
def J59_0_0g (vf107_0 : Tf107_0) (vf57_0 : Tf57_0) (α : Type) (x4 x5 x6 : Int) (k1 : Bool → Option α) : Option α :=
 vf107_0 α x4
 (fun x11 => cK (!x11)
 (k1 true)
 (vf107_0 α x5
 (fun x12 => cK (!x12)
 (k1 true)
 (vf57_0 α x6 0 67108864
 (fun x13 => k1 (!x13))))))
noncomputable def J59_0_0 (α : Type) (x4 x5 x6 : Int) (k1 : Bool → Option α) : Option α := J59_0_0g f107_0 f57_0 α x4 x5 x6 k1
def F59_0_0 (v : TJ59_0_0) (α : Type) (K : Exit → St → Option α) : Int → Int → Int → Int → Int → Int → Option α := fun x4 x5 x6 x7 x8 x9 => v α x4 x5 x6 (fun (y1 : Bool) => u59_0_1 (K .normal) y1 x4 x5 x6 x7 x8 x9) 
theorem m59_0_0g (vf107_0 : Tf107_0) (vf57_0 : Tf57_0)  (α : Type) (K : Exit → St → Option α) : F59_0_0 (J59_0_0g vf107_0 vf57_0) α K = p59_0_0.unc fun σ => runM Tryz.prog (E59_0g vf107_0 vf57_0) sh59 (c59_0_4g ) K σ := by kernel_rfl
theorem m59_0_0 : ∀ (α : Type) (K : Exit → St → Option α), F59_0_0 J59_0_0 α K = p59_0_0.unc fun σ => runM Tryz.prog E59_0 sh59 c59_0_4 K σ := m59_0_0g f107_0 f57_0
abbrev Tf59_0 : Type 1 := (α : Type) → Int → Int → Int → (Int → Int → Int → Int → Option α) → Option α
def f59_0g (vJ59_0_0 : TJ59_0_0) (α : Type) (x1 x2 x3 : Int) (k1 : Int → Int → Int → Int → Option α) : Option α :=
 vJ59_0_0 α x1 x2 x3
 (fun x14 => cK x14
 (k1 0 0 0 8)
 (k1 x1 x2 x3 0))
noncomputable def f59_0 (α : Type) (x1 x2 x3 : Int) (k1 : Int → Int → Int → Int → Option α) : Option α := f59_0g J59_0_0 α x1 x2 x3 k1
def pa59_0 : PT (List DV) := pA [pV true [(dI .i64), (dI .i64), (dI .i64)]]
def Fn59_0 (v : Tf59_0) (α : Type) (k : List RV → Option α) : Int → Int → Int → Option α := fun x1 x2 x3 => v α x1 x2 x3 (fun (y1 : Int) (y2 : Int) (y3 : Int) (y4 : Int) => ur59_0_0 k y1 y2 y3 y4)
noncomputable def cm59_0g (vJ59_0_0 : TJ59_0_0) : MCode := (.seq (.region r59_2 [] (tO [1, 2])) (.seq (.seq (.mark [⟨p59_0_0, F59_0_0 vJ59_0_0⟩] c59_0_4) (.cond (.tmp 19) (.seq (.region r59_8 [] (tO [2, 3])) .ret) .skip)) (.seq (.region r59_10 [] (tO [2, 3])) .ret)))
noncomputable def cm59_0 : MCode := cm59_0g J59_0_0
theorem gm59_0 : cm59_0.Good Tryz.prog E59_0 sh59 := ⟨trivial, ⟨⟨⟨g59_0_4, m59_0_0, trivial⟩, ⟨⟨trivial, trivial⟩, trivial⟩⟩, ⟨trivial, trivial⟩⟩⟩
theorem fm59_0g (vf107_0 : Tf107_0) (vf57_0 : Tf57_0) (vJ59_0_0 : TJ59_0_0) (α : Type) (k : List RV → Option α) : Fn59_0 (f59_0g vJ59_0_0) α k = pa59_0.unc fun ds => fnM Tryz.prog (E59_0g vf107_0 vf57_0) sh59 (cm59_0g vJ59_0_0) rs59 k ds := by kernel_rfl
theorem fm59_0 : ∀ (α : Type) (k : List RV → Option α), Fn59_0 f59_0 α k = pa59_0.unc fun ds => fnM Tryz.prog E59_0 sh59 cm59_0 rs59 k ds := fm59_0g f107_0 f57_0 J59_0_0
theorem is59 : FnIs Tryz.prog 59 nt59 tr59 tl59 cm59_0.erase rs59 := ⟨Tryz.f59, Tryz.func59, rfl, by kernel_rfl, by kernel_rfl, by kernel_rfl⟩
theorem io59_0 : InstOk Tryz.prog 59 nt59 ⟨pa59_0, Fn59_0 f59_0⟩ := inst_ok eo59_0 followsTry is59 ⟨⟨sh59, cm59_0, by kernel_rfl, gm59_0, fm59_0⟩⟩
abbrev nt72 : Nat := 16
def sh72 : List (Nat × List Sh) := [(8, [.int .i64, .int .i64]), (11, [.int .i64]), (13, [.int .i64])]
def r72_2 : List AOper := [oO 2 (.mv (kI 0)), oO 3 (.mv (.const (.bool false)))]
def r72_4 : List AOper := [oM 5 0, oO 6 (.bin .mul 3 (.tmp 5) (kI 1048576)), oO 7 (.build [(cI 0), (cI 0)] [(0, 1, (.tmp 6)), (1, 1, (kI 100000000))]), oO 4 (.alloc [(cI 0), (cI 0)]), oD (.store 2 (.tmp 4) (.tmp 7))]
def r72_6 : List AOper := [oO 8 (.load true 2 (.tmp 4)), oO 9 (.call 74 [(.tmp 8)]), oO 10 (.faddr 0 (.tmp 4)), oO 11 (.load false 1 (.tmp 10)), oO 12 (.faddr 1 (.tmp 4)), oO 13 (.load false 1 (.tmp 12)), oO 14 (.call 91 [(.tmp 11), (.tmp 13)]), oO 15 (.bin .neq 3 (.tmp 14) (kI 0)), oM 2 9, oM 3 15]
def tr72 : List (Nat × Tidy) := [tT 0 [0], tT 1 [4], tT 2 [2, 3]]
def tl72 : List (Nat × Tidy) := []
def rs72 : List AResV := [.tmp 2, .tmp 3]
def pr72_0_0 : PT (List RV) := pRs [pR false [rD (dI .i64)], pR false [rD dB]]
def ur72_0_0 {β : Type} (g : List RV → β) : Int → Bool → β := pr72_0_0.unc g
def E72_0g (vf74_0 : Tf74_0) (vf91_0 : Tf91_0) : EnvK := EnvK.of [⟨74, nt74, [⟨pa74_0, Fn74_0 vf74_0⟩]⟩, ⟨91, nt91, [⟨pa91_0, Fn91_0 vf91_0⟩]⟩] noSeq
noncomputable def E72_0 : EnvK := E72_0g f74_0 f91_0
theorem eo72_0 : E72_0.Ok Tryz.prog := EnvK.of_ok noSeq_ok ⟨⟨io74_0, trivial⟩, ⟨io91_0, trivial⟩, trivial⟩
abbrev Tf72_0 : Type 1 := (α : Type) → Int → (Int → Bool → Option α) → Option α
def f72_0g (vf74_0 : Tf74_0) (vf91_0 : Tf91_0) (α : Type) (x1 : Int) (k1 : Int → Bool → Option α) : Option α :=
 vf74_0 α (w64 (x1 * 1048576)) 100000000
 (fun x2 => vf91_0 α (w64 (x1 * 1048576)) 100000000
 (fun x3 => k1 x2 (x3 != 0)))
noncomputable def f72_0 (α : Type) (x1 : Int) (k1 : Int → Bool → Option α) : Option α := f72_0g f74_0 f91_0 α x1 k1
def pa72_0 : PT (List DV) := pA [pV false [(dI .i64)]]
def Fn72_0 (v : Tf72_0) (α : Type) (k : List RV → Option α) : Int → Option α := fun x1 => v α x1 (fun (y1 : Int) (y2 : Bool) => ur72_0_0 k y1 y2)
noncomputable def cm72_0g  : MCode := (.seq (.region r72_2 [] (tO [0])) (.seq (.region r72_4 [] (tO [4])) (.seq (.region r72_6 [(1, 3), (1, 5)] (tO [2, 3])) .ret)))
noncomputable def cm72_0 : MCode := cm72_0g 
theorem gm72_0 : cm72_0.Good Tryz.prog E72_0 sh72 := ⟨trivial, ⟨trivial, ⟨trivial, trivial⟩⟩⟩
theorem fm72_0g (vf74_0 : Tf74_0) (vf91_0 : Tf91_0)  (α : Type) (k : List RV → Option α) : Fn72_0 (f72_0g vf74_0 vf91_0) α k = pa72_0.unc fun ds => fnM Tryz.prog (E72_0g vf74_0 vf91_0) sh72 (cm72_0g ) rs72 k ds := by kernel_rfl
theorem fm72_0 : ∀ (α : Type) (k : List RV → Option α), Fn72_0 f72_0 α k = pa72_0.unc fun ds => fnM Tryz.prog E72_0 sh72 cm72_0 rs72 k ds := fm72_0g f74_0 f91_0
theorem is72 : FnIs Tryz.prog 72 nt72 tr72 tl72 cm72_0.erase rs72 := ⟨Tryz.f72, Tryz.func72, rfl, by kernel_rfl, by kernel_rfl, by kernel_rfl⟩
theorem io72_0 : InstOk Tryz.prog 72 nt72 ⟨pa72_0, Fn72_0 f72_0⟩ := inst_ok eo72_0 followsTry is72 ⟨⟨sh72, cm72_0, by kernel_rfl, gm72_0, fm72_0⟩⟩
abbrev nt25 : Nat := 16
def sh25 : List (Nat × List Sh) := [(6, [.str, .int .i64, .sl, .sl, .sl, .int .i64, .int .i64]), (10, [.int .i64, .int .i64]), (13, [.int .i64, .int .i64])]
def r25_2 : List AOper := [oO 2 (.box (.tmp 0)), oO 4 (.alloc [(cI 0), (cI 0)])]
def r25_4 : List AOper := [oO 6 (.load true 7 (.tmp 2)), oM 7 1, oO 8 (.call 73 [(.tmp 6), (.tmp 7)]), oO 5 (.alloc [(cI 0), (cI 0), (cI 0), (cI 0)]), oD (.store 4 (.tmp 5) (.tmp 8))]
def r25_6 : List AOper := [oO 9 (.iaddr 2 (some 2) (.tmp 5) (kI 0)), oO 10 (.load true 2 (.tmp 9)), oO 11 (.call 74 [(.tmp 10)]), oO 12 (.iaddr 2 (some 2) (.tmp 5) (kI 1)), oO 13 (.load true 2 (.tmp 12)), oO 14 (.call 74 [(.tmp 13)]), oO 15 (.build [(cI 0), (cI 0)] [(0, 1, (.tmp 11)), (1, 1, (.tmp 14))]), oD (.store 2 (.tmp 4) (.tmp 15))]
def tr25 : List (Nat × Tidy) := [tT 0 [1, 2, 4], tT 1 [4, 5], tT 2 [4]]
def tl25 : List (Nat × Tidy) := []
def rs25 : List AResV := [.cell 4 true 2]
def pr25_0_0 : PT (List RV) := pRs [pR true [rD (dI .i64), rD (dI .i64)]]
def ur25_0_0 {β : Type} (g : List RV → β) : Int → Int → β := pr25_0_0.unc g
def E25_0g (vf73_0 : Tf73_0) (vf74_0 : Tf74_0) : EnvK := EnvK.of [⟨73, nt73, [⟨pa73_0, Fn73_0 vf73_0⟩]⟩, ⟨74, nt74, [⟨pa74_0, Fn74_0 vf74_0⟩]⟩] noSeq
noncomputable def E25_0 : EnvK := E25_0g f73_0 f74_0
theorem eo25_0 : E25_0.Ok Tryz.prog := EnvK.of_ok noSeq_ok ⟨⟨io73_0, trivial⟩, ⟨io74_0, trivial⟩, trivial⟩
abbrev Tf25_0 : Type 1 := (α : Type) → ByteArray → Int → Rows → Rows → Rows → Int → Int → Int → (Int → Int → Option α) → Option α
def f25_0g (vf73_0 : Tf73_0) (vf74_0 : Tf74_0) (α : Type) (x1 : ByteArray) (x2 : Int) (x3 x4 x5 : Rows) (x6 x7 x8 : Int) (k1 : Int → Int → Option α) : Option α :=
 vf73_0 α x1 x2 x3 x4 x5 x6 x7 x8
 (fun x9 x10 x11 x12 => vf74_0 α x9 x10
 (fun x13 => vf74_0 α x11 x12
 (fun x14 => k1 x13 x14)))
noncomputable def f25_0 (α : Type) (x1 : ByteArray) (x2 : Int) (x3 x4 x5 : Rows) (x6 x7 x8 : Int) (k1 : Int → Int → Option α) : Option α := f25_0g f73_0 f74_0 α x1 x2 x3 x4 x5 x6 x7 x8 k1
def pa25_0 : PT (List DV) := pA [pV true [dS, (dI .i64), dL, dL, dL, (dI .i64), (dI .i64)], pV false [(dI .i64)]]
def Fn25_0 (v : Tf25_0) (α : Type) (k : List RV → Option α) : ByteArray → Int → Rows → Rows → Rows → Int → Int → Int → Option α := fun x1 x2 x3 x4 x5 x6 x7 x8 => v α x1 x2 x3 x4 x5 x6 x7 x8 (fun (y1 : Int) (y2 : Int) => ur25_0_0 k y1 y2)
noncomputable def cm25_0g  : MCode := (.seq (.region r25_2 [] (tO [1, 2, 4])) (.seq (.region r25_4 [] (tO [4, 5])) (.seq (.region r25_6 [(2, 4)] (tO [4])) .ret)))
noncomputable def cm25_0 : MCode := cm25_0g 
theorem gm25_0 : cm25_0.Good Tryz.prog E25_0 sh25 := ⟨trivial, ⟨trivial, ⟨trivial, trivial⟩⟩⟩
theorem fm25_0g (vf73_0 : Tf73_0) (vf74_0 : Tf74_0)  (α : Type) (k : List RV → Option α) : Fn25_0 (f25_0g vf73_0 vf74_0) α k = pa25_0.unc fun ds => fnM Tryz.prog (E25_0g vf73_0 vf74_0) sh25 (cm25_0g ) rs25 k ds := by kernel_rfl
theorem fm25_0 : ∀ (α : Type) (k : List RV → Option α), Fn25_0 f25_0 α k = pa25_0.unc fun ds => fnM Tryz.prog E25_0 sh25 cm25_0 rs25 k ds := fm25_0g f73_0 f74_0
theorem is25 : FnIs Tryz.prog 25 nt25 tr25 tl25 cm25_0.erase rs25 := ⟨Tryz.f25, Tryz.func25, rfl, by kernel_rfl, by kernel_rfl, by kernel_rfl⟩
theorem io25_0 : InstOk Tryz.prog 25 nt25 ⟨pa25_0, Fn25_0 f25_0⟩ := inst_ok eo25_0 followsTry is25 ⟨⟨sh25, cm25_0, by kernel_rfl, gm25_0, fm25_0⟩⟩
abbrev nt22 : Nat := 11
def sh22 : List (Nat × List Sh) := [(8, [.str, .int .i64, .sl, .sl, .sl, .int .i64, .int .i64])]
def r22_2 : List AOper := [oO 2 (.box (.tmp 0)), oO 4 (.mv (kI 0))]
def r22_5 : List AOper := [oM 5 1, oO 6 (.call 68 [(.tmp 5)]), oO 7 (.pure (oB (.unOp .not 4 (.tmp 6)) 4))]
def r22_8 : List AOper := [oO 4 (.mv (kI 2))]
def r22_10 : List AOper := [oO 8 (.load true 7 (.tmp 2)), oM 9 1, oO 10 (.call 70 [(.tmp 8), (.tmp 9)]), oM 4 10]
def tr22 : List (Nat × Tidy) := [tT 0 [1, 2], tT 1 [1, 2, 7], tT 2 [4], tT 3 [4]]
def tl22 : List (Nat × Tidy) := []
def rs22 : List AResV := [.tmp 4]
def pr22_0_0 : PT (List RV) := pRs [pR false [rD (dI .i64)]]
def ur22_0_0 {β : Type} (g : List RV → β) : Int → β := pr22_0_0.unc g
def E22_0g (vf68_0 : Tf68_0) (vf70_0 : Tf70_0) : EnvK := EnvK.of [⟨68, nt68, [⟨pa68_0, Fn68_0 vf68_0⟩]⟩, ⟨70, nt70, [⟨pa70_0, Fn70_0 vf70_0⟩]⟩] noSeq
noncomputable def E22_0 : EnvK := E22_0g f68_0 f70_0
theorem eo22_0 : E22_0.Ok Tryz.prog := EnvK.of_ok noSeq_ok ⟨⟨io68_0, trivial⟩, ⟨io70_0, trivial⟩, trivial⟩
abbrev Tf22_0 : Type 1 := (α : Type) → ByteArray → Int → Rows → Rows → Rows → Int → Int → Int → (Int → Option α) → Option α
def f22_0g (vf68_0 : Tf68_0) (vf70_0 : Tf70_0) (α : Type) (x1 : ByteArray) (x2 : Int) (x3 x4 x5 : Rows) (x6 x7 x8 : Int) (k1 : Int → Option α) : Option α :=
 vf68_0 α x8
 (fun x9 => cK (!x9)
 (k1 2)
 (vf70_0 α x1 x2 x3 x4 x5 x6 x7 x8
 (fun x10 => k1 x10)))
noncomputable def f22_0 (α : Type) (x1 : ByteArray) (x2 : Int) (x3 x4 x5 : Rows) (x6 x7 x8 : Int) (k1 : Int → Option α) : Option α := f22_0g f68_0 f70_0 α x1 x2 x3 x4 x5 x6 x7 x8 k1
def pa22_0 : PT (List DV) := pA [pV true [dS, (dI .i64), dL, dL, dL, (dI .i64), (dI .i64)], pV false [(dI .i64)]]
def Fn22_0 (v : Tf22_0) (α : Type) (k : List RV → Option α) : ByteArray → Int → Rows → Rows → Rows → Int → Int → Int → Option α := fun x1 x2 x3 x4 x5 x6 x7 x8 => v α x1 x2 x3 x4 x5 x6 x7 x8 (fun (y1 : Int) => ur22_0_0 k y1)
noncomputable def cm22_0g  : MCode := (.seq (.region r22_2 [] (tO [1, 2])) (.seq (.seq (.region r22_5 [] (tO [1, 2, 7])) (.cond (.tmp 7) (.seq (.region r22_8 [] (tO [4])) .ret) .skip)) (.seq (.region r22_10 [] (tO [4])) .ret)))
noncomputable def cm22_0 : MCode := cm22_0g 
theorem gm22_0 : cm22_0.Good Tryz.prog E22_0 sh22 := ⟨trivial, ⟨⟨trivial, ⟨⟨trivial, trivial⟩, trivial⟩⟩, ⟨trivial, trivial⟩⟩⟩
theorem fm22_0g (vf68_0 : Tf68_0) (vf70_0 : Tf70_0)  (α : Type) (k : List RV → Option α) : Fn22_0 (f22_0g vf68_0 vf70_0) α k = pa22_0.unc fun ds => fnM Tryz.prog (E22_0g vf68_0 vf70_0) sh22 (cm22_0g ) rs22 k ds := by kernel_rfl
theorem fm22_0 : ∀ (α : Type) (k : List RV → Option α), Fn22_0 f22_0 α k = pa22_0.unc fun ds => fnM Tryz.prog E22_0 sh22 cm22_0 rs22 k ds := fm22_0g f68_0 f70_0
theorem is22 : FnIs Tryz.prog 22 nt22 tr22 tl22 cm22_0.erase rs22 := ⟨Tryz.f22, Tryz.func22, rfl, by kernel_rfl, by kernel_rfl, by kernel_rfl⟩
theorem io22_0 : InstOk Tryz.prog 22 nt22 ⟨pa22_0, Fn22_0 f22_0⟩ := inst_ok eo22_0 followsTry is22 ⟨⟨sh22, cm22_0, by kernel_rfl, gm22_0, fm22_0⟩⟩
abbrev nt21 : Nat := 148
def sh21 : List (Nat × List Sh) := [(7, [.str]), (11, [.int .i64]), (15, [.int .i64]), (19, [.sl]), (22, [.int .i64]), (28, [.sl]), (34, [.sl]), (40, [.int .i64]), (43, [.int .i64]), (47, [.int .i64, .int .i64]), (54, [.sl]), (61, [.sl]), (74, [.sl]), (76, [.int .i64]), (77, [.int .i64]), (82, [.sl]), (84, [.flt .f32]), (85, [.flt .f32]), (91, [.sl]), (93, [.flt .f32]), (94, [.flt .f32]), (101, [.sl]), (103, [.flt .f32]), (104, [.flt .f32]), (108, [.sl]), (110, [.flt .f32]), (111, [.flt .f32]), (116, [.sl]), (118, [.flt .f32]), (119, [.flt .f32]), (124, [.sl]), (126, [.flt .f32]), (127, [.flt .f32]), (135, [.sl]), (137, [.int .i64]), (138, [.int .i64]), (140, [.sl]), (143, [.int .i64]), (144, [.int .i64])]
def r21_2 : List AOper := [oO 1 (.box (.tmp 0)), oO 2 (.mv (kI 0)), oO 3 (.mv (kI 0))]
def r21_5 : List AOper := [oO 6 (.faddr 0 (.tmp 1)), oO 7 (.load false 1 (.tmp 6)), oO 8 (.call 66 [(.tmp 7)]), oO 9 (.pure (oB (.unOp .not 4 (.tmp 8)) 4))]
def r21_8 : List AOper := [oO 2 (.mv (kI 0)), oO 3 (.mv (kI 3))]
def r21_11 : List AOper := [oO 10 (.faddr 1 (.tmp 1)), oO 11 (.load false 1 (.tmp 10)), oO 12 (.bin .neq 3 (.tmp 11) (kI 1)), oM 13 12, oG 14 (.faddr 1 (.tmp 1)) 13 true, oG 15 (.load false 1 (.tmp 14)) 13 true, oG 16 (.bin .neq 3 (.tmp 15) (kI 2)) 13 true, oO 17 (.pick (.tmp 13) (.tmp 16) (.const (.bool false)))]
def r21_14 : List AOper := [oO 2 (.mv (kI 0)), oO 3 (.mv (kI 11))]
def r21_16 : List AOper := [oO 18 (.faddr 2 (.tmp 1)), oO 19 (.load false 1 (.tmp 18)), oO 20 (.len (.tmp 19)), oM 4 20]
def r21_19 : List AOper := [oO 21 (.faddr 1 (.tmp 1)), oO 22 (.load false 1 (.tmp 21)), oO 23 (.bin .eql 3 (.tmp 22) (kI 2))]
def r21_23 : List AOper := [oM 24 4, oO 25 (.bin .gtr 3 (.tmp 24) (kI 0)), oM 26 25, oG 27 (.faddr 3 (.tmp 1)) 26 false, oG 28 (.load false 1 (.tmp 27)) 26 false, oG 29 (.len (.tmp 28)) 26 false, oG 30 (.bin .gtr 3 (.tmp 29) (kI 0)) 26 false, oO 31 (.pick (.tmp 26) (.const (.bool true)) (.tmp 30)), oM 32 31, oG 33 (.faddr 4 (.tmp 1)) 32 false, oG 34 (.load false 1 (.tmp 33)) 32 false, oG 35 (.len (.tmp 34)) 32 false, oG 36 (.bin .gtr 3 (.tmp 35) (kI 0)) 32 false, oO 37 (.pick (.tmp 32) (.const (.bool true)) (.tmp 36))]
def r21_26 : List AOper := [oO 2 (.mv (kI 0)), oO 3 (.mv (kI 13))]
def r21_29 : List AOper := [oO 38 (.faddr 5 (.tmp 1)), oO 39 (.iaddr 1 (some 2) (.tmp 38) (kI 0)), oO 40 (.load false 1 (.tmp 39)), oO 41 (.faddr 5 (.tmp 1)), oO 42 (.iaddr 1 (some 2) (.tmp 41) (kI 1)), oO 43 (.load false 1 (.tmp 42)), oO 44 (.call 67 [(.tmp 40), (.tmp 43)]), oO 45 (.pure (oB (.unOp .not 4 (.tmp 44)) 4))]
def r21_32 : List AOper := [oO 2 (.mv (kI 0)), oO 3 (.mv (kI 2))]
def r21_34 : List AOper := [oO 2 (.mv (kI 0)), oO 3 (.mv (kI 0))]
def r21_37 : List AOper := [oO 46 (.faddr 5 (.tmp 1)), oO 47 (.load true 2 (.tmp 46)), oO 48 (.build [(cI 0), (cI 0)] []), oO 49 (.bin .neq 36 (.tmp 47) (.tmp 48))]
def r21_40 : List AOper := [oO 2 (.mv (kI 0)), oO 3 (.mv (kI 13))]
def r21_43 : List AOper := [oM 50 4, oO 51 (.bin .eql 3 (.tmp 50) (kI 0)), oM 52 51, oG 53 (.faddr 3 (.tmp 1)) 52 false, oG 54 (.load false 1 (.tmp 53)) 52 false, oG 55 (.len (.tmp 54)) 52 false, oG 56 (.mv (.tmp 4)) 52 false, oG 57 (.bin .neq 3 (.tmp 55) (.tmp 56)) 52 false, oO 58 (.pick (.tmp 52) (.const (.bool true)) (.tmp 57)), oM 59 58, oG 60 (.faddr 4 (.tmp 1)) 59 false, oG 61 (.load false 1 (.tmp 60)) 59 false, oG 62 (.len (.tmp 61)) 59 false, oG 63 (.mv (.tmp 4)) 59 false, oG 64 (.bin .neq 3 (.tmp 62) (.tmp 63)) 59 false, oO 65 (.pick (.tmp 59) (.const (.bool true)) (.tmp 64))]
def r21_46 : List AOper := [oO 2 (.mv (kI 0)), oO 3 (.mv (kI 12))]
def r21_49 : List AOper := [oM 66 4, oO 67 (.bin .gtr 3 (.tmp 66) (kI 64))]
def r21_52 : List AOper := [oO 2 (.mv (kI 0)), oO 3 (.mv (kI 8))]
def r21_55 : List AOper := [oO 5 (.mv (kI 0))]
def td21_57 : Option Tidy := (some ⟨[1, 4, 5], true, [⟨true, 1, 2, 30102, 1⟩, ⟨true, 1, 3, 30103, 1⟩, ⟨true, 1, 4, 30104, 1⟩], []⟩)
def r21_60 : List AOper := [oM 68 5, oM 69 4, oO 70 (.bin .lss 3 (.tmp 68) (.tmp 69))]
def r21_66 : List AOper := [oO 73 (.faddr 2 (.tmp 1)), oO 74 (.load false 1 (.tmp 73)), oM 75 5, oO 76 (.iaddr 1 none (.tmp 74) (.tmp 75)), oO 77 (.load false 1 (.tmp 76)), oO 78 (.call 68 [(.tmp 77)]), oO 79 (.pure (oB (.unOp .not 4 (.tmp 78)) 4))]
def r21_69 : List AOper := [oM 80 5, oM 2 80, oO 3 (.mv (kI 2))]
def r21_72 : List AOper := [oO 81 (.faddr 3 (.tmp 1)), oO 82 (.load false 1 (.tmp 81)), oM 83 5, oO 84 (.iaddr 1 none (.tmp 82) (.tmp 83)), oO 85 (.load false 1 (.tmp 84)), oO 86 (.pure (oB (.convert 125 117 (.tmp 85)) 117)), oO 87 (.call 69 [(.tmp 86)]), oO 88 (.pure (oB (.unOp .not 4 (.tmp 87)) 4)), oM 89 88, oG 90 (.faddr 4 (.tmp 1)) 89 false, oG 91 (.load false 1 (.tmp 90)) 89 false, oG 92 (.mv (.tmp 5)) 89 false, oG 93 (.iaddr 1 none (.tmp 91) (.tmp 92)) 89 false, oG 94 (.load false 1 (.tmp 93)) 89 false, oG 95 (.pure (oB (.convert 125 117 (.tmp 94)) 117)) 89 false, oG 96 (.call 69 [(.tmp 95)]) 89 false, oG 97 (.pure (oB (.unOp .not 4 (.tmp 96)) 4)) 89 false, oO 98 (.pick (.tmp 89) (.const (.bool true)) (.tmp 97))]
def r21_75 : List AOper := [oM 99 5, oM 2 99, oO 3 (.mv (kI 27))]
def r21_78 : List AOper := [oO 100 (.faddr 3 (.tmp 1)), oO 101 (.load false 1 (.tmp 100)), oM 102 5, oO 103 (.iaddr 1 none (.tmp 101) (.tmp 102)), oO 104 (.load false 1 (.tmp 103)), oO 105 (.bin .lss 125 (.tmp 104) (.const (.float Go.FloatKind.f32 1167867904))), oM 106 105, oG 107 (.faddr 3 (.tmp 1)) 106 false, oG 108 (.load false 1 (.tmp 107)) 106 false, oG 109 (.mv (.tmp 5)) 106 false, oG 110 (.iaddr 1 none (.tmp 108) (.tmp 109)) 106 false, oG 111 (.load false 1 (.tmp 110)) 106 false, oG 112 (.bin .gtr 125 (.tmp 111) (.const (.float Go.FloatKind.f32 1201422336))) 106 false, oO 113 (.pick (.tmp 106) (.const (.bool true)) (.tmp 112)), oM 114 113, oG 115 (.faddr 4 (.tmp 1)) 114 false, oG 116 (.load false 1 (.tmp 115)) 114 false, oG 117 (.mv (.tmp 5)) 114 false, oG 118 (.iaddr 1 none (.tmp 116) (.tmp 117)) 114 false, oG 119 (.load false 1 (.tmp 118)) 114 false, oG 120 (.bin .lss 125 (.tmp 119) (.const (.float Go.FloatKind.f32 0))) 114 false, oO 121 (.pick (.tmp 114) (.const (.bool true)) (.tmp 120)), oM 122 121, oG 123 (.faddr 4 (.tmp 1)) 122 false, oG 124 (.load false 1 (.tmp 123)) 122 false, oG 125 (.mv (.tmp 5)) 122 false, oG 126 (.iaddr 1 none (.tmp 124) (.tmp 125)) 122 false, oG 127 (.load false 1 (.tmp 126)) 122 false, oG 128 (.bin .gtr 125 (.tmp 127) (.const (.float Go.FloatKind.f32 1201422336))) 122 false, oO 129 (.pick (.tmp 122) (.const (.bool true)) (.tmp 128))]
def r21_81 : List AOper := [oM 130 5, oM 2 130, oO 3 (.mv (kI 2))]
def r21_83 : List AOper := [oM 131 5, oO 132 (.bin .gtr 3 (.tmp 131) (kI 0)), oM 133 132, oG 134 (.faddr 2 (.tmp 1)) 133 true, oG 135 (.load false 1 (.tmp 134)) 133 true, oG 136 (.mv (.tmp 5)) 133 true, oG 137 (.iaddr 1 none (.tmp 135) (.tmp 136)) 133 true, oG 138 (.load false 1 (.tmp 137)) 133 true, oG 139 (.faddr 2 (.tmp 1)) 133 true, oG 140 (.load false 1 (.tmp 139)) 133 true, oG 141 (.mv (.tmp 5)) 133 true, oG 142 (.bin .sub 3 (.tmp 141) (kI 1)) 133 true, oG 143 (.iaddr 1 none (.tmp 140) (.tmp 142)) 133 true, oG 144 (.load false 1 (.tmp 143)) 133 true, oG 145 (.bin .leq 3 (.tmp 138) (.tmp 144)) 133 true, oO 146 (.pick (.tmp 133) (.tmp 145) (.const (.bool false)))]
def r21_86 : List AOper := [oM 147 5, oM 2 147, oO 3 (.mv (kI 10))]
def r21_87 : List AOper := [oM 71 5, oO 72 (.bin .add 3 (.tmp 71) (kI 1)), oM 5 72]
def r21_89 : List AOper := [oO 2 (.mv (kI 0)), oO 3 (.mv (kI 0))]
def tr21 : List (Nat × Tidy) := [tT 0 [1], tT 1 [1, 9], tT 2 [2, 3], tT 3 [1, 17], tT 4 [2, 3], tT 5 [1, 4], tT 6 [1, 4, 23], tT 7 [1, 37], tT 8 [2, 3], tT 9 [45], tT 10 [2, 3], tT 11 [2, 3], tT 12 [1, 4, 49], tT 13 [2, 3], tT 14 [1, 4, 65], tT 15 [2, 3], tT 16 [1, 4, 67], tT 17 [2, 3], tT 18 [1, 4, 5], tT 19 [1, 4, 5, 70], tT 21 [1, 4, 5, 79], tT 22 [2, 3], tT 23 [1, 4, 5, 98], tT 24 [2, 3], tT 25 [1, 4, 5, 129], tT 26 [2, 3], tT 27 [1, 4, 5, 146], tT 28 [2, 3], tT 20 [1, 4, 5], tT 29 [2, 3]]
def tl21 : List (Nat × Tidy) := [(19, ⟨[1, 4, 5], true, [⟨true, 1, 2, 30102, 1⟩, ⟨true, 1, 3, 30103, 1⟩, ⟨true, 1, 4, 30104, 1⟩], []⟩)]
def rs21 : List AResV := [.tmp 2, .tmp 3]
def p21_0_0 : PT St := pS [sl 1 (aV false [(cPtr 1 0)]), sl 9 (aV false [(cD dB)])] [eBox 1 [(cD dS), (cD (dI .i64)), (cD dL), (cD dL), (cD dL), (cD (dI .i64)), (cD (dI .i64))]]
def u21_0_0 {β : Type} (g : St → β) : Bool → ByteArray → Int → Rows → Rows → Rows → Int → Int → β := p21_0_0.unc g
def p21_0_1 : PT St := pS [sl 2 (aV false [(cD (dI .i64))]), sl 3 (aV false [(cD (dI .i64))])] []
def u21_0_1 {β : Type} (g : St → β) : Int → Int → β := p21_0_1.unc g
def p21_0_2 : PT St := pS [sl 1 (aV false [(cPtr 1 0)]), sl 17 (aV false [(cD dB)])] [eBox 1 [(cD dS), (cD (dI .i64)), (cD dL), (cD dL), (cD dL), (cD (dI .i64)), (cD (dI .i64))]]
def u21_0_2 {β : Type} (g : St → β) : Bool → ByteArray → Int → Rows → Rows → Rows → Int → Int → β := p21_0_2.unc g
def p21_0_3 : PT St := pS [sl 1 (aV false [(cPtr 1 0)]), sl 4 (aV false [(cD (dI .i64))]), sl 5 (aV false [(cD (dI .i64))])] [eBox 1 [(cD dS), (cD (dI .i64)), (cD dL), (cD dL), (cD dL), (cD (dI .i64)), (cD (dI .i64))]]
def u21_0_3 {β : Type} (g : St → β) : Int → Int → ByteArray → Int → Rows → Rows → Rows → Int → Int → β := p21_0_3.unc g
def p21_0_4 : PT St := pS [sl 1 (aV false [(cPtr 1 0)]), sl 4 (aV false [(cD (dI .i64))]), sl 5 (aV false [(cD (dI .i64))]), sl 70 (aV false [(cD dB)])] [eBox 1 [(cD dS), (cD (dI .i64)), (cD dL), (cD dL), (cD dL), (cD (dI .i64)), (cD (dI .i64))]]
def u21_0_4 {β : Type} (g : St → β) : Int → Int → Bool → ByteArray → Int → Rows → Rows → Rows → Int → Int → β := p21_0_4.unc g
def pr21_0_0 : PT (List RV) := pRs [pR false [rD (dI .i64)], pR false [rD (dI .i64)]]
def ur21_0_0 {β : Type} (g : List RV → β) : Int → Int → β := pr21_0_0.unc g
def E21_0g (vf66_0 : Tf66_0) (vf67_0 : Tf67_0) (vf68_0 : Tf68_0) (vf69_0 : Tf69_0) (vf69_1 : Tf69_1) : EnvK := EnvK.of [⟨66, nt66, [⟨pa66_0, Fn66_0 vf66_0⟩]⟩, ⟨67, nt67, [⟨pa67_0, Fn67_0 vf67_0⟩]⟩, ⟨68, nt68, [⟨pa68_0, Fn68_0 vf68_0⟩]⟩, ⟨69, nt69, [⟨pa69_0, Fn69_0 vf69_0⟩, ⟨pa69_1, Fn69_1 vf69_1⟩]⟩] noSeq
noncomputable def E21_0 : EnvK := E21_0g f66_0 f67_0 f68_0 f69_0 f69_1
theorem eo21_0 : E21_0.Ok Tryz.prog := EnvK.of_ok noSeq_ok ⟨⟨io66_0, trivial⟩, ⟨io67_0, trivial⟩, ⟨io68_0, trivial⟩, ⟨io69_0, io69_1, trivial⟩, trivial⟩
noncomputable def c21_0_57g  : MCode := (.seq (.seq (.region r21_60 [] (tO [1, 4, 5, 70])) (.cond (.tmp 70) .skip (.exit 0))) (.seq (.block 1 (.seq (.seq (.region r21_66 [] (tO [1, 4, 5, 79])) (.cond (.tmp 79) (.seq (.region r21_69 [] (tO [2, 3])) .ret) .skip)) (.seq (.seq (.region r21_72 [] (tO [1, 4, 5, 98])) (.cond (.tmp 98) (.seq (.region r21_75 [] (tO [2, 3])) .ret) .skip)) (.seq (.seq (.region r21_78 [] (tO [1, 4, 5, 129])) (.cond (.tmp 129) (.seq (.region r21_81 [] (tO [2, 3])) .ret) .skip)) (.seq (.region r21_83 [] (tO [1, 4, 5, 146])) (.cond (.tmp 146) (.seq (.region r21_86 [] (tO [2, 3])) .ret) .skip)))))) (.region r21_87 [] (tO [1, 4, 5]))))
noncomputable def c21_0_57 : MCode := c21_0_57g 
theorem g21_0_57 : c21_0_57.Good Tryz.prog E21_0 sh21 := ⟨⟨trivial, ⟨trivial, trivial⟩⟩, ⟨⟨⟨trivial, ⟨⟨trivial, trivial⟩, trivial⟩⟩, ⟨⟨trivial, ⟨⟨trivial, trivial⟩, trivial⟩⟩, ⟨⟨trivial, ⟨⟨trivial, trivial⟩, trivial⟩⟩, ⟨trivial, ⟨⟨trivial, trivial⟩, trivial⟩⟩⟩⟩⟩, trivial⟩⟩
--CODE 57 0
def S21_0_1g (vf68_0 : Tf68_0) (vf69_0 : Tf69_0) (vf69_1 : Tf69_1) (α : Type) (x21 : Int) (x25 x26 x27 : Rows) (x22 : Int) (kn : Int → Option α) (k1 : Int → Int → Option α) (k2 : Int → Bool → Option α) : Option α :=
 cK (decide (x22 < x21))
 (rowK x25 x22 [.int .i64]
 (fun x31 => vf68_0 α x31
 (fun x32 => cK (!x32)
 (k1 x22 2)
 (rowK x26 x22 [.flt .f32]
 (fun x33 => cK (isNaNb .f32 x33)
 (vf69_0 α 
 (k1 x22 27))
 (flK (f2f .f32 x33 .f64)
 (fun x34 => vf69_1 α x34
 (fun x35 => cK (!x35)
 (k1 x22 27)
 (rowK x27 x22 [.flt .f32]
 (fun x36 => cK (isNaNb .f32 x36)
 (vf69_0 α 
 (k1 x22 27))
 (flK (f2f .f32 x36 .f64)
 (fun x37 => vf69_1 α x37
 (fun x38 => cK (!x38)
 (k1 x22 27)
 (rowK x26 x22 [.flt .f32]
 (fun x39 => cK ((FloatKind.format .f32).order x39 1167867904 == some Ordering.lt)
 (k1 x22 2)
 (rowK x26 x22 [.flt .f32]
 (fun x40 => cK ((FloatKind.format .f32).order x40 1201422336 == some Ordering.gt)
 (k1 x22 2)
 (rowK x27 x22 [.flt .f32]
 (fun x41 => cK ((FloatKind.format .f32).order x41 0 == some Ordering.lt)
 (k1 x22 2)
 (rowK x27 x22 [.flt .f32]
 (fun x42 => cK ((FloatKind.format .f32).order x42 1201422336 == some Ordering.gt)
 (k1 x22 2)
 (cK (decide (0 < x22))
 (rowK x25 x22 [.int .i64]
 (fun x43 => rowK x25 (w64 (x22 - 1)) [.int .i64]
 (fun x44 => cK (decide (x43 ≤ x44))
 (k1 x22 10)
 (kn (w64 (x22 + 1))))))
 (kn (w64 (x22 + 1)))))))))))))))))))))))))
 (k2 x22 (decide (x22 < x21)))
noncomputable def S21_0_1 (α : Type) (x21 : Int) (x25 x26 x27 : Rows) (x22 : Int) (kn : Int → Option α) (k1 : Int → Int → Option α) (k2 : Int → Bool → Option α) : Option α := S21_0_1g f68_0 f69_0 f69_1 α x21 x25 x26 x27 x22 kn k1 k2
noncomputable def R21_0_1 (α : Type) (x21 : Int) (x25 x26 x27 : Rows) (k1 : Int → Int → Option α) (k2 : Int → Bool → Option α) : Nat → Int → Option α
 | 0, _ => none
 | n + 1, x22 => S21_0_1 α x21 x25 x26 x27 x22 (R21_0_1 α x21 x25 x26 x27 k1 k2 n) k1 k2
noncomputable def L21_0_1 (α : Type) (x21 : Int) (x25 x26 x27 : Rows) (k1 : Int → Int → Option α) (k2 : Int → Bool → Option α) (x22 : Int) : Option α := R21_0_1 α x21 x25 x26 x27 k1 k2 fuel x22
abbrev TL21_0_1 : Type 1 := (α : Type) → Int → Rows → Rows → Rows → (Int → Int → Option α) → (Int → Bool → Option α) → Int → Option α
def F21_0_1 (v : TL21_0_1) (α : Type) (K : Exit → St → Option α) : Int → Int → ByteArray → Int → Rows → Rows → Rows → Int → Int → Option α := fun x21 x22 x23 x24 x25 x26 x27 x28 x29 => v α x21 x25 x26 x27 (fun (y1 : Int) (y2 : Int) => u21_0_1 (K .ret) y1 y2) (fun (y1 : Int) (y2 : Bool) => u21_0_4 (K (.exit 0)) x21 y1 y2 x23 x24 x25 x26 x27 x28 x29) x22
theorem r21_0_1g (vf66_0 : Tf66_0) (vf67_0 : Tf67_0) (vf68_0 : Tf68_0) (vf69_0 : Tf69_0) (vf69_1 : Tf69_1)  (α : Type) (K : Exit → St → Option α) (Kn : St → Option α) (x21 x22 : Int) (x23 : ByteArray) (x24 : Int) (x25 x26 x27 : Rows) (x28 x29 : Int) : u21_0_3 (fun σ => runM Tryz.prog (E21_0g vf66_0 vf67_0 vf68_0 vf69_0 vf69_1) sh21 (c21_0_57g ) (thenK (fun σ => tidyK td21_57 σ Kn) K) σ) x21 x22 x23 x24 x25 x26 x27 x28 x29 = S21_0_1g vf68_0 vf69_0 vf69_1 α x21 x25 x26 x27 x22 (fun x22 => u21_0_3 Kn x21 x22 x23 x24 x25 x26 x27 x28 x29) (fun (y1 : Int) (y2 : Int) => u21_0_1 (K .ret) y1 y2) (fun (y1 : Int) (y2 : Bool) => u21_0_4 (K (.exit 0)) x21 y1 y2 x23 x24 x25 x26 x27 x28 x29) := by kernel_rfl
theorem r21_0_1 (α : Type) (K : Exit → St → Option α) (Kn : St → Option α) (x21 x22 : Int) (x23 : ByteArray) (x24 : Int) (x25 x26 x27 : Rows) (x28 x29 : Int) : u21_0_3 (fun σ => runM Tryz.prog E21_0 sh21 c21_0_57 (thenK (fun σ => tidyK td21_57 σ Kn) K) σ) x21 x22 x23 x24 x25 x26 x27 x28 x29 = S21_0_1 α x21 x25 x26 x27 x22 (fun x22 => u21_0_3 Kn x21 x22 x23 x24 x25 x26 x27 x28 x29) (fun (y1 : Int) (y2 : Int) => u21_0_1 (K .ret) y1 y2) (fun (y1 : Int) (y2 : Bool) => u21_0_4 (K (.exit 0)) x21 y1 y2 x23 x24 x25 x26 x27 x28 x29) := r21_0_1g f66_0 f67_0 f68_0 f69_0 f69_1 α K Kn x21 x22 x23 x24 x25 x26 x27 x28 x29
theorem t21_0_1 (α : Type) (K : Exit → St → Option α) : ∀ (n : Nat) (x21 x22 : Int) (x23 : ByteArray) (x24 : Int) (x25 x26 x27 : Rows) (x28 x29 : Int), R21_0_1 α x21 x25 x26 x27 (fun (y1 : Int) (y2 : Int) => u21_0_1 (K .ret) y1 y2) (fun (y1 : Int) (y2 : Bool) => u21_0_4 (K (.exit 0)) x21 y1 y2 x23 x24 x25 x26 x27 x28 x29) n x22 = u21_0_3 (loopT (runM Tryz.prog E21_0 sh21 c21_0_57) td21_57 K n) x21 x22 x23 x24 x25 x26 x27 x28 x29 := by
 intro n
 induction n with
 | zero => intros; rfl
 | succ n ih => intro x21 x22 x23 x24 x25 x26 x27 x28 x29; exact (congrArg (fun kn => S21_0_1 α x21 x25 x26 x27 x22 kn (fun (y1 : Int) (y2 : Int) => u21_0_1 (K .ret) y1 y2) (fun (y1 : Int) (y2 : Bool) => u21_0_4 (K (.exit 0)) x21 y1 y2 x23 x24 x25 x26 x27 x28 x29)) (funext fun x22 => ih x21 x22 x23 x24 x25 x26 x27 x28 x29)).trans (r21_0_1 α K (loopT (runM Tryz.prog E21_0 sh21 c21_0_57) td21_57 K n) x21 x22 x23 x24 x25 x26 x27 x28 x29).symm
theorem m21_0_1 : ∀ (α : Type) (K : Exit → St → Option α), F21_0_1 L21_0_1 α K = p21_0_3.unc fun σ => loopT (runM Tryz.prog E21_0 sh21 c21_0_57) td21_57 K fuel σ := fun α K => funext fun x21 => funext fun x22 => funext fun x23 => funext fun x24 => funext fun x25 => funext fun x26 => funext fun x27 => funext fun x28 => funext fun x29 => t21_0_1 α K fuel x21 x22 x23 x24 x25 x26 x27 x28 x29
noncomputable def c21_0_9g  : MCode := (.seq (.region r21_11 [] (tO [1, 17])) (.cond (.tmp 17) (.seq (.region r21_14 [] (tO [2, 3])) .ret) .skip))
noncomputable def c21_0_9 : MCode := c21_0_9g 
theorem g21_0_9 : c21_0_9.Good Tryz.prog E21_0 sh21 := ⟨trivial, ⟨⟨trivial, trivial⟩, trivial⟩⟩
--CODE 9 0
abbrev TJ21_0_0 : Type 1 := (α : Type) → Int → (Option α) → (Bool → Option α) → Option α
def J21_0_0g  (α : Type) (x11 : Int) (k1 : Option α) (k2 : Bool → Option α) : Option α :=
 cK (x11 != 1)
 (cK (x11 != 2)
 (k1)
 (k2 (x11 != 2)))
 (k2 false)
noncomputable def J21_0_0 (α : Type) (x11 : Int) (k1 : Option α) (k2 : Bool → Option α) : Option α := J21_0_0g  α x11 k1 k2
def F21_0_0 (v : TJ21_0_0) (α : Type) (K : Exit → St → Option α) : Bool → ByteArray → Int → Rows → Rows → Rows → Int → Int → Option α := fun x9 x10 x11 x12 x13 x14 x15 x16 => v α x11 (u21_0_1 (K .ret) 0 11) (fun (y1 : Bool) => u21_0_2 (K .normal) y1 x10 x11 x12 x13 x14 x15 x16) 
theorem m21_0_0g (vf66_0 : Tf66_0) (vf67_0 : Tf67_0) (vf68_0 : Tf68_0) (vf69_0 : Tf69_0) (vf69_1 : Tf69_1)  (α : Type) (K : Exit → St → Option α) : F21_0_0 (J21_0_0g ) α K = p21_0_0.unc fun σ => runM Tryz.prog (E21_0g vf66_0 vf67_0 vf68_0 vf69_0 vf69_1) sh21 (c21_0_9g ) K σ := by kernel_rfl
theorem m21_0_0 : ∀ (α : Type) (K : Exit → St → Option α), F21_0_0 J21_0_0 α K = p21_0_0.unc fun σ => runM Tryz.prog E21_0 sh21 c21_0_9 K σ := m21_0_0g f66_0 f67_0 f68_0 f69_0 f69_1
abbrev Tf21_0 : Type 1 := (α : Type) → ByteArray → Int → Rows → Rows → Rows → Int → Int → (Int → Int → Option α) → Option α
def f21_0g (vJ21_0_0 : TJ21_0_0) (vL21_0_1 : TL21_0_1) (vf66_0 : Tf66_0) (vf67_0 : Tf67_0) (α : Type) (x1 : ByteArray) (x2 : Int) (x3 x4 x5 : Rows) (x6 x7 : Int) (k1 : Int → Int → Option α) : Option α :=
 vf66_0 α x1
 (fun x8 => cK (!x8)
 (k1 0 3)
 (vJ21_0_0 α x2
 (k1 0 11)
 (fun x18 => cK (x2 == 2)
 (cK (decide (0 < ((List.length x3 : Nat) : Int)))
 (k1 0 13)
 (cK (decide (0 < ((List.length x4 : Nat) : Int)))
 (k1 0 13)
 (cK (decide (0 < ((List.length x5 : Nat) : Int)))
 (k1 0 13)
 (vf67_0 α x6 x7
 (fun x20 => cK (!x20)
 (k1 0 2)
 (k1 0 0))))))
 (cK (!((x6 == 0) && ((x7 == 0) && true)))
 (k1 0 13)
 (cK (((List.length x3 : Nat) : Int) == 0)
 (k1 0 12)
 (cK (((List.length x4 : Nat) : Int) != ((List.length x3 : Nat) : Int))
 (k1 0 12)
 (cK (((List.length x5 : Nat) : Int) != ((List.length x3 : Nat) : Int))
 (k1 0 12)
 (cK (decide (64 < ((List.length x3 : Nat) : Int)))
 (k1 0 8)
 (vL21_0_1 α ((List.length x3 : Nat) : Int) x3 x4 x5
 (fun x45 x46 => k1 x45 x46)
 (fun x47 x48 => k1 0 0) 0)))))))))
noncomputable def f21_0 (α : Type) (x1 : ByteArray) (x2 : Int) (x3 x4 x5 : Rows) (x6 x7 : Int) (k1 : Int → Int → Option α) : Option α := f21_0g J21_0_0 L21_0_1 f66_0 f67_0 α x1 x2 x3 x4 x5 x6 x7 k1
def pa21_0 : PT (List DV) := pA [pV true [dS, (dI .i64), dL, dL, dL, (dI .i64), (dI .i64)]]
def Fn21_0 (v : Tf21_0) (α : Type) (k : List RV → Option α) : ByteArray → Int → Rows → Rows → Rows → Int → Int → Option α := fun x1 x2 x3 x4 x5 x6 x7 => v α x1 x2 x3 x4 x5 x6 x7 (fun (y1 : Int) (y2 : Int) => ur21_0_0 k y1 y2)
noncomputable def cm21_0g (vJ21_0_0 : TJ21_0_0) (vL21_0_1 : TL21_0_1) : MCode := (.seq (.region r21_2 [] (tO [1])) (.seq (.seq (.region r21_5 [] (tO [1, 9])) (.cond (.tmp 9) (.seq (.region r21_8 [] (tO [2, 3])) .ret) .skip)) (.seq (.mark [⟨p21_0_0, F21_0_0 vJ21_0_0⟩] c21_0_9) (.seq (.region r21_16 [] (tO [1, 4])) (.seq (.seq (.region r21_19 [] (tO [1, 4, 23])) (.cond (.tmp 23) (.seq (.seq (.region r21_23 [] (tO [1, 37])) (.cond (.tmp 37) (.seq (.region r21_26 [] (tO [2, 3])) .ret) .skip)) (.seq (.seq (.region r21_29 [] (tO [45])) (.cond (.tmp 45) (.seq (.region r21_32 [] (tO [2, 3])) .ret) .skip)) (.seq (.region r21_34 [] (tO [2, 3])) .ret))) .skip)) (.seq (.seq (.region r21_37 [] (tO [1, 4, 49])) (.cond (.tmp 49) (.seq (.region r21_40 [] (tO [2, 3])) .ret) .skip)) (.seq (.seq (.region r21_43 [] (tO [1, 4, 65])) (.cond (.tmp 65) (.seq (.region r21_46 [] (tO [2, 3])) .ret) .skip)) (.seq (.seq (.region r21_49 [] (tO [1, 4, 67])) (.cond (.tmp 67) (.seq (.region r21_52 [] (tO [2, 3])) .ret) .skip)) (.seq (.seq (.region r21_55 [] (tO [1, 4, 5])) (.block 0 (.loop td21_57 [⟨p21_0_3, F21_0_1 vL21_0_1⟩] c21_0_57))) (.seq (.region r21_89 [] (tO [2, 3])) .ret))))))))))
noncomputable def cm21_0 : MCode := cm21_0g J21_0_0 L21_0_1
theorem gm21_0 : cm21_0.Good Tryz.prog E21_0 sh21 := ⟨trivial, ⟨⟨trivial, ⟨⟨trivial, trivial⟩, trivial⟩⟩, ⟨⟨g21_0_9, m21_0_0, trivial⟩, ⟨trivial, ⟨⟨trivial, ⟨⟨⟨trivial, ⟨⟨trivial, trivial⟩, trivial⟩⟩, ⟨⟨trivial, ⟨⟨trivial, trivial⟩, trivial⟩⟩, ⟨trivial, trivial⟩⟩⟩, trivial⟩⟩, ⟨⟨trivial, ⟨⟨trivial, trivial⟩, trivial⟩⟩, ⟨⟨trivial, ⟨⟨trivial, trivial⟩, trivial⟩⟩, ⟨⟨trivial, ⟨⟨trivial, trivial⟩, trivial⟩⟩, ⟨⟨trivial, ⟨g21_0_57, m21_0_1, trivial⟩⟩, ⟨trivial, trivial⟩⟩⟩⟩⟩⟩⟩⟩⟩⟩
theorem fm21_0g (vf66_0 : Tf66_0) (vf67_0 : Tf67_0) (vf68_0 : Tf68_0) (vf69_0 : Tf69_0) (vf69_1 : Tf69_1) (vJ21_0_0 : TJ21_0_0) (vL21_0_1 : TL21_0_1) (α : Type) (k : List RV → Option α) : Fn21_0 (f21_0g vJ21_0_0 vL21_0_1 vf66_0 vf67_0) α k = pa21_0.unc fun ds => fnM Tryz.prog (E21_0g vf66_0 vf67_0 vf68_0 vf69_0 vf69_1) sh21 (cm21_0g vJ21_0_0 vL21_0_1) rs21 k ds := by kernel_rfl
theorem fm21_0 : ∀ (α : Type) (k : List RV → Option α), Fn21_0 f21_0 α k = pa21_0.unc fun ds => fnM Tryz.prog E21_0 sh21 cm21_0 rs21 k ds := fm21_0g f66_0 f67_0 f68_0 f69_0 f69_1 J21_0_0 L21_0_1
theorem is21 : FnIs Tryz.prog 21 nt21 tr21 tl21 cm21_0.erase rs21 := ⟨Tryz.f21, Tryz.func21, rfl, by kernel_rfl, by kernel_rfl, by kernel_rfl⟩
theorem io21_0 : InstOk Tryz.prog 21 nt21 ⟨pa21_0, Fn21_0 f21_0⟩ := inst_ok eo21_0 followsTry is21 ⟨⟨sh21, cm21_0, by kernel_rfl, gm21_0, fm21_0⟩⟩
abbrev nt65 : Nat := 8
def sh65 : List (Nat × List Sh) := [(3, [.int .i64, .int .i64]), (5, [.int .i64, .int .i64])]
def r65_2 : List AOper := [oO 1 (.box (.tmp 0)), oO 2 (.alloc [(cI 0), (cI 0)])]
def r65_4 : List AOper := [oO 3 (.load true 2 (.tmp 1)), oO 4 (.call 108 [(.tmp 3)]), oO 5 (.load true 2 (.tmp 1)), oO 6 (.call 109 [(.tmp 5)]), oO 7 (.build [(cI 0), (cI 0)] [(0, 1, (.tmp 4)), (1, 1, (.tmp 6))]), oD (.store 2 (.tmp 2) (.tmp 7))]
def tr65 : List (Nat × Tidy) := [tT 0 [1, 2], tT 1 [2]]
def tl65 : List (Nat × Tidy) := []
def rs65 : List AResV := [.cell 2 true 2]
def pr65_0_0 : PT (List RV) := pRs [pR true [rD (dI .i64), rD (dI .i64)]]
def ur65_0_0 {β : Type} (g : List RV → β) : Int → Int → β := pr65_0_0.unc g
def E65_0g (vf108_0 : Tf108_0) (vf109_0 : Tf109_0) : EnvK := EnvK.of [⟨108, nt108, [⟨pa108_0, Fn108_0 vf108_0⟩]⟩, ⟨109, nt109, [⟨pa109_0, Fn109_0 vf109_0⟩]⟩] noSeq
noncomputable def E65_0 : EnvK := E65_0g f108_0 f109_0
theorem eo65_0 : E65_0.Ok Tryz.prog := EnvK.of_ok noSeq_ok ⟨⟨io108_0, trivial⟩, ⟨io109_0, trivial⟩, trivial⟩
abbrev Tf65_0 : Type 1 := (α : Type) → Int → Int → (Int → Int → Option α) → Option α
def f65_0g (vf108_0 : Tf108_0) (vf109_0 : Tf109_0) (α : Type) (x1 x2 : Int) (k1 : Int → Int → Option α) : Option α :=
 vf108_0 α x1 x2
 (fun x3 => vf109_0 α x1 x2
 (fun x4 => k1 x3 x4))
noncomputable def f65_0 (α : Type) (x1 x2 : Int) (k1 : Int → Int → Option α) : Option α := f65_0g f108_0 f109_0 α x1 x2 k1
def pa65_0 : PT (List DV) := pA [pV true [(dI .i64), (dI .i64)]]
def Fn65_0 (v : Tf65_0) (α : Type) (k : List RV → Option α) : Int → Int → Option α := fun x1 x2 => v α x1 x2 (fun (y1 : Int) (y2 : Int) => ur65_0_0 k y1 y2)
noncomputable def cm65_0g  : MCode := (.seq (.region r65_2 [] (tO [1, 2])) (.seq (.region r65_4 [(1, 2)] (tO [2])) .ret))
noncomputable def cm65_0 : MCode := cm65_0g 
theorem gm65_0 : cm65_0.Good Tryz.prog E65_0 sh65 := ⟨trivial, ⟨trivial, trivial⟩⟩
theorem fm65_0g (vf108_0 : Tf108_0) (vf109_0 : Tf109_0)  (α : Type) (k : List RV → Option α) : Fn65_0 (f65_0g vf108_0 vf109_0) α k = pa65_0.unc fun ds => fnM Tryz.prog (E65_0g vf108_0 vf109_0) sh65 (cm65_0g ) rs65 k ds := by kernel_rfl
theorem fm65_0 : ∀ (α : Type) (k : List RV → Option α), Fn65_0 f65_0 α k = pa65_0.unc fun ds => fnM Tryz.prog E65_0 sh65 cm65_0 rs65 k ds := fm65_0g f108_0 f109_0
theorem is65 : FnIs Tryz.prog 65 nt65 tr65 tl65 cm65_0.erase rs65 := ⟨Tryz.f65, Tryz.func65, rfl, by kernel_rfl, by kernel_rfl, by kernel_rfl⟩
theorem io65_0 : InstOk Tryz.prog 65 nt65 ⟨pa65_0, Fn65_0 f65_0⟩ := inst_ok eo65_0 followsTry is65 ⟨⟨sh65, cm65_0, by kernel_rfl, gm65_0, fm65_0⟩⟩
abbrev nt128 : Nat := 12
def sh128 : List (Nat × List Sh) := []
def r128_2 : List AOper := [oO 2 (.mv (.const (.bool false)))]
def r128_4 : List AOper := [oM 3 0, oO 4 (.call 150 [(.tmp 3)]), oM 5 0, oO 6 (.bin .eql 117 (.tmp 4) (.tmp 5)), oM 7 6, oG 8 (.mv (.tmp 0)) 7 true, oG 9 (.call 151 [(.tmp 8), (kI 0)]) 7 true, oG 10 (.pure (oB (.unOp .not 4 (.tmp 9)) 4)) 7 true, oO 11 (.pick (.tmp 7) (.tmp 10) (.const (.bool false))), oM 2 11]
def tr128 : List (Nat × Tidy) := [tT 0 [0], tT 1 [2]]
def tl128 : List (Nat × Tidy) := []
def rs128 : List AResV := [.tmp 2]
def pr128_0_0 : PT (List RV) := pRs [pR false [rD dB]]
def ur128_0_0 {β : Type} (g : List RV → β) : Bool → β := pr128_0_0.unc g
def E128_0g (vf150_0 : Tf150_0) (vf151_0 : Tf151_0) : EnvK := EnvK.of [⟨150, nt150, [⟨pa150_0, Fn150_0 vf150_0⟩]⟩, ⟨151, nt151, [⟨pa151_0, Fn151_0 vf151_0⟩]⟩] noSeq
noncomputable def E128_0 : EnvK := E128_0g f150_0 f151_0
theorem eo128_0 : E128_0.Ok Tryz.prog := EnvK.of_ok noSeq_ok ⟨⟨io150_0, trivial⟩, ⟨io151_0, trivial⟩, trivial⟩
abbrev Tf128_0 : Type 1 := (α : Type) → Nat → (Bool → Option α) → Option α
def f128_0g (vf150_0 : Tf150_0) (vf151_0 : Tf151_0) (α : Type) (x1 : Nat) (k1 : Bool → Option α) : Option α :=
 vf150_0 α x1
 (k1 false)
 (fun x2 => cK ((FloatKind.format .f64).order x2 x1 == some Ordering.eq)
 (vf151_0 α x1 0
 (fun x3 => k1 (!x3)))
 (k1 false))
noncomputable def f128_0 (α : Type) (x1 : Nat) (k1 : Bool → Option α) : Option α := f128_0g f150_0 f151_0 α x1 k1
def pa128_0 : PT (List DV) := pA [pV false [(dF .f64)]]
def Fn128_0 (v : Tf128_0) (α : Type) (k : List RV → Option α) : Nat → Option α := fun x1 => v α x1 (fun (y1 : Bool) => ur128_0_0 k y1)
noncomputable def cm128_0g  : MCode := (.seq (.region r128_2 [] (tO [0])) (.seq (.region r128_4 [] (tO [2])) .ret))
noncomputable def cm128_0 : MCode := cm128_0g 
theorem gm128_0 : cm128_0.Good Tryz.prog E128_0 sh128 := ⟨trivial, ⟨trivial, trivial⟩⟩
theorem fm128_0g (vf150_0 : Tf150_0) (vf151_0 : Tf151_0)  (α : Type) (k : List RV → Option α) : Fn128_0 (f128_0g vf150_0 vf151_0) α k = pa128_0.unc fun ds => fnM Tryz.prog (E128_0g vf150_0 vf151_0) sh128 (cm128_0g ) rs128 k ds := by kernel_rfl
theorem fm128_0 : ∀ (α : Type) (k : List RV → Option α), Fn128_0 f128_0 α k = pa128_0.unc fun ds => fnM Tryz.prog E128_0 sh128 cm128_0 rs128 k ds := fm128_0g f150_0 f151_0
theorem is128 : FnIs Tryz.prog 128 nt128 tr128 tl128 cm128_0.erase rs128 := ⟨Tryz.f128, Tryz.func128, rfl, by kernel_rfl, by kernel_rfl, by kernel_rfl⟩
theorem io128_0 : InstOk Tryz.prog 128 nt128 ⟨pa128_0, Fn128_0 f128_0⟩ := inst_ok eo128_0 followsTry is128 ⟨⟨sh128, cm128_0, by kernel_rfl, gm128_0, fm128_0⟩⟩
abbrev nt168 : Nat := 23
def sh168 : List (Nat × List Sh) := []
def r168_2 : List AOper := [oO 2 (.mv (kI 0)), oO 3 (.mv (.const (.bool false)))]
def r168_4 : List AOper := [oM 5 0, oO 6 (.pure (oB (.convert 125 117 (.tmp 5)) 117)), oM 4 6]
def r168_7 : List AOper := [oM 7 4, oO 8 (.call 174 [(.tmp 7)]), oM 9 8, oG 10 (.mv (.tmp 4)) 9 false, oG 11 (.call 151 [(.tmp 10), (kI 0)]) 9 false, oO 12 (.pick (.tmp 9) (.const (.bool true)) (.tmp 11)), oM 13 12, oG 14 (.mv (.tmp 4)) 13 false, oG 15 (.call 150 [(.tmp 14)]) 13 false, oG 16 (.mv (.tmp 4)) 13 false, oG 17 (.bin .neq 117 (.tmp 15) (.tmp 16)) 13 false, oO 18 (.pick (.tmp 13) (.const (.bool true)) (.tmp 17))]
def r168_10 : List AOper := [oO 2 (.mv (kI 0)), oO 3 (.mv (.const (.bool false)))]
def r168_12 : List AOper := [oM 19 4, oO 20 (.pure (oB (.call { callee := .builtin .min, args := #[(.const (.float Go.FloatKind.f64 4741671816366391296)), (.tmp 19)], argTypes := #[117, 117] }) 117)), oO 21 (.pure (oB (.call { callee := .builtin .max, args := #[(.const (.float Go.FloatKind.f64 13965043853221167104)), (.tmp 20)], argTypes := #[117, 117] }) 117)), oO 22 (.pure (oB (.convert 117 3 (.tmp 21)) 3)), oM 2 22, oO 3 (.mv (.const (.bool true)))]
def tr168 : List (Nat × Tidy) := [tT 0 [0], tT 1 [4], tT 2 [4, 18], tT 3 [2, 3], tT 4 [2, 3]]
def tl168 : List (Nat × Tidy) := []
def rs168 : List AResV := [.tmp 2, .tmp 3]
def p168_0_0 : PT St := pS [sl 0 (aV false [(cD (dF .f32))])] []
def u168_0_0 {β : Type} (g : St → β) : Nat → β := p168_0_0.unc g
def p168_0_1 : PT St := pS [sl 4 (aV false [(cD (dNan .f64))])] []
def u168_0_1 {β : Type} (g : St → β) : β := p168_0_1.unc g
def p168_0_2 : PT St := pS [sl 4 (aV false [(cD (dF .f64))])] []
def u168_0_2 {β : Type} (g : St → β) : Nat → β := p168_0_2.unc g
def pr168_0_0 : PT (List RV) := pRs [pR false [rD (dI .i64)], pR false [rD dB]]
def ur168_0_0 {β : Type} (g : List RV → β) : Int → Bool → β := pr168_0_0.unc g
def E168_0g (vf174_0 : Tf174_0) (vf174_1 : Tf174_1) (vf151_0 : Tf151_0) (vf150_0 : Tf150_0) : EnvK := EnvK.of [⟨174, nt174, [⟨pa174_0, Fn174_0 vf174_0⟩, ⟨pa174_1, Fn174_1 vf174_1⟩]⟩, ⟨151, nt151, [⟨pa151_0, Fn151_0 vf151_0⟩]⟩, ⟨150, nt150, [⟨pa150_0, Fn150_0 vf150_0⟩]⟩] noSeq
noncomputable def E168_0 : EnvK := E168_0g f174_0 f174_1 f151_0 f150_0
theorem eo168_0 : E168_0.Ok Tryz.prog := EnvK.of_ok noSeq_ok ⟨⟨io174_0, io174_1, trivial⟩, ⟨io151_0, trivial⟩, ⟨io150_0, trivial⟩, trivial⟩
noncomputable def c168_0_3g  : MCode := (.region r168_4 [] (tO [4]))
noncomputable def c168_0_3 : MCode := c168_0_3g 
theorem g168_0_3 : c168_0_3.Good Tryz.prog E168_0 sh168 := trivial
--CODE 3 0
abbrev TJ168_0_0 : Type 1 := (α : Type) → Nat → (Option α) → (Nat → Option α) → Option α
def J168_0_0g  (α : Type) (x2 : Nat) (k1 : Option α) (k2 : Nat → Option α) : Option α :=
 cK (isNaNb .f32 x2)
 (k1)
 (flK (f2f .f32 x2 .f64)
 (fun x4 => k2 x4))
noncomputable def J168_0_0 (α : Type) (x2 : Nat) (k1 : Option α) (k2 : Nat → Option α) : Option α := J168_0_0g  α x2 k1 k2
def F168_0_0 (v : TJ168_0_0) (α : Type) (K : Exit → St → Option α) : Nat → Option α := fun x2 => v α x2 (u168_0_1 (K .normal) ) (fun (y1 : Nat) => u168_0_2 (K .normal) y1) 
theorem m168_0_0g (vf174_0 : Tf174_0) (vf174_1 : Tf174_1) (vf151_0 : Tf151_0) (vf150_0 : Tf150_0)  (α : Type) (K : Exit → St → Option α) : F168_0_0 (J168_0_0g ) α K = p168_0_0.unc fun σ => runM Tryz.prog (E168_0g vf174_0 vf174_1 vf151_0 vf150_0) sh168 (c168_0_3g ) K σ := by kernel_rfl
theorem m168_0_0 : ∀ (α : Type) (K : Exit → St → Option α), F168_0_0 J168_0_0 α K = p168_0_0.unc fun σ => runM Tryz.prog E168_0 sh168 c168_0_3 K σ := m168_0_0g f174_0 f174_1 f151_0 f150_0
abbrev Tf168_0 : Type 1 := (α : Type) → Nat → (Int → Bool → Option α) → Option α
def f168_0g (vJ168_0_0 : TJ168_0_0) (vf150_0 : Tf150_0) (vf151_0 : Tf151_0) (vf174_0 : Tf174_0) (vf174_1 : Tf174_1) (α : Type) (x1 : Nat) (k1 : Int → Bool → Option α) : Option α :=
 vJ168_0_0 α x1
 (vf174_0 α 
 (k1 0 false))
 (fun x5 => vf174_1 α x5
 (fun x7 => cK x7
 (k1 0 false)
 (vf151_0 α x5 0
 (fun x8 => cK x8
 (k1 0 false)
 (vf150_0 α x5
 (k1 0 false)
 (fun x9 => cK ((FloatKind.format .f64).order x9 x5 != some Ordering.eq)
 (k1 0 false)
 (flK (mxNat false .f64 4741671816366391296 x5)
 (fun x10 => flK (mxNat true .f64 13965043853221167104 x10)
 (fun x11 => ivK (f2i .f64 x11 .i64)
 (fun x12 => k1 x12 true))))))))))
noncomputable def f168_0 (α : Type) (x1 : Nat) (k1 : Int → Bool → Option α) : Option α := f168_0g J168_0_0 f150_0 f151_0 f174_0 f174_1 α x1 k1
def pa168_0 : PT (List DV) := pA [pV false [(dF .f32)]]
def Fn168_0 (v : Tf168_0) (α : Type) (k : List RV → Option α) : Nat → Option α := fun x1 => v α x1 (fun (y1 : Int) (y2 : Bool) => ur168_0_0 k y1 y2)
noncomputable def cm168_0g (vJ168_0_0 : TJ168_0_0) : MCode := (.seq (.region r168_2 [] (tO [0])) (.seq (.mark [⟨p168_0_0, F168_0_0 vJ168_0_0⟩] c168_0_3) (.seq (.seq (.region r168_7 [] (tO [4, 18])) (.cond (.tmp 18) (.seq (.region r168_10 [] (tO [2, 3])) .ret) .skip)) (.seq (.region r168_12 [] (tO [2, 3])) .ret))))
noncomputable def cm168_0 : MCode := cm168_0g J168_0_0
theorem gm168_0 : cm168_0.Good Tryz.prog E168_0 sh168 := ⟨trivial, ⟨⟨g168_0_3, m168_0_0, trivial⟩, ⟨⟨trivial, ⟨⟨trivial, trivial⟩, trivial⟩⟩, ⟨trivial, trivial⟩⟩⟩⟩
theorem fm168_0g (vf174_0 : Tf174_0) (vf174_1 : Tf174_1) (vf151_0 : Tf151_0) (vf150_0 : Tf150_0) (vJ168_0_0 : TJ168_0_0) (α : Type) (k : List RV → Option α) : Fn168_0 (f168_0g vJ168_0_0 vf150_0 vf151_0 vf174_0 vf174_1) α k = pa168_0.unc fun ds => fnM Tryz.prog (E168_0g vf174_0 vf174_1 vf151_0 vf150_0) sh168 (cm168_0g vJ168_0_0) rs168 k ds := by kernel_rfl
theorem fm168_0 : ∀ (α : Type) (k : List RV → Option α), Fn168_0 f168_0 α k = pa168_0.unc fun ds => fnM Tryz.prog E168_0 sh168 cm168_0 rs168 k ds := fm168_0g f174_0 f174_1 f151_0 f150_0 J168_0_0
theorem is168 : FnIs Tryz.prog 168 nt168 tr168 tl168 cm168_0.erase rs168 := ⟨Tryz.f168, Tryz.func168, rfl, by kernel_rfl, by kernel_rfl, by kernel_rfl⟩
theorem io168_0 : InstOk Tryz.prog 168 nt168 ⟨pa168_0, Fn168_0 f168_0⟩ := inst_ok eo168_0 followsTry is168 ⟨⟨sh168, cm168_0, by kernel_rfl, gm168_0, fm168_0⟩⟩
abbrev nt24 : Nat := 46
def sh24 : List (Nat × List Sh) := [(11, [.int .i64]), (13, [.int .i64]), (16, [.int .i64]), (18, [.int .i64]), (26, [.int .i64]), (29, [.int .i64]), (42, [.int .i64, .int .i64, .int .i64])]
def r24_2 : List AOper := [oO 1 (.box (.tmp 0)), oO 2 (.alloc [(cI 0), (cI 0), (cI 0)]), oO 3 (.mv (kI 0))]
def r24_4 : List AOper := [oO 10 (.iaddr 1 (some 2) (.tmp 1) (kI 0)), oO 11 (.load false 1 (.tmp 10)), oO 12 (.iaddr 1 (some 2) (.tmp 1) (kI 0)), oO 13 (.load false 1 (.tmp 12)), oO 14 (.bin .mul 3 (.tmp 11) (.tmp 13)), oO 15 (.iaddr 1 (some 2) (.tmp 1) (kI 1)), oO 16 (.load false 1 (.tmp 15)), oO 17 (.iaddr 1 (some 2) (.tmp 1) (kI 1)), oO 18 (.load false 1 (.tmp 17)), oO 19 (.bin .mul 3 (.tmp 16) (.tmp 18)), oO 20 (.bin .sub 3 (.tmp 14) (.tmp 19)), oO 21 (.call 72 [(.tmp 20)]), oM 9 21, oO 22 (.extract 0 (.tmp 9)), oO 23 (.extract 1 (.tmp 9)), oM 4 22, oM 5 23]
def r24_6 : List AOper := [oO 25 (.iaddr 1 (some 2) (.tmp 1) (kI 0)), oO 26 (.load false 1 (.tmp 25)), oO 27 (.bin .mul 3 (kI 2) (.tmp 26)), oO 28 (.iaddr 1 (some 2) (.tmp 1) (kI 1)), oO 29 (.load false 1 (.tmp 28)), oO 30 (.bin .mul 3 (.tmp 27) (.tmp 29)), oO 31 (.call 72 [(.tmp 30)]), oM 24 31, oO 32 (.extract 0 (.tmp 24)), oO 33 (.extract 1 (.tmp 24)), oM 6 32, oM 7 33]
def r24_8 : List AOper := [oM 34 4, oM 35 6, oO 36 (.build [(cI 0), (cI 0), (cI 0)] [(0, 1, (.tmp 34)), (1, 1, (.tmp 35))]), oO 8 (.alloc [(cI 0), (cI 0), (cI 0)]), oD (.store 3 (.tmp 8) (.tmp 36))]
def r24_11 : List AOper := [oM 37 5, oM 38 37, oG 39 (.mv (.tmp 7)) 38 false, oO 40 (.pick (.tmp 38) (.const (.bool true)) (.tmp 39))]
def r24_13 : List AOper := [oO 41 (.faddr 2 (.tmp 8)), oD (.store 1 (.tmp 41) (kI 1))]
def r24_15 : List AOper := [oO 42 (.load true 3 (.tmp 8)), oO 43 (.call 59 [(.tmp 42)]), oO 44 (.extract 0 (.tmp 43)), oO 45 (.extract 1 (.tmp 43)), oD (.store 3 (.tmp 2) (.tmp 44)), oM 3 45]
def tr24 : List (Nat × Tidy) := [tT 0 [1, 2], tT 1 [1, 2, 4, 5], tT 2 [2, 4, 5, 6, 7], tT 3 [2, 5, 7, 8], tT 4 [2, 8, 40], tT 5 [2, 8], tT 6 [2, 3]]
def tl24 : List (Nat × Tidy) := []
def rs24 : List AResV := [.cell 2 true 3, .tmp 3]
def p24_0_0 : PT St := pS [sl 2 (aV false [(cPtr 2 0)]), sl 5 (aV false [(cD dB)]), sl 7 (aV false [(cD dB)]), sl 8 (aV false [(cPtr 8 0)])] [eBox 2 [(cD (dI .i64)), (cD (dI .i64)), (cD (dI .i64))], eBox 8 [(cD (dI .i64)), (cD (dI .i64)), (cD (dI .i64))]]
def u24_0_0 {β : Type} (g : St → β) : Bool → Bool → Int → Int → Int → Int → Int → Int → β := p24_0_0.unc g
def p24_0_1 : PT St := pS [sl 2 (aV false [(cPtr 2 0)]), sl 8 (aV false [(cPtr 8 0)])] [eBox 2 [(cD (dI .i64)), (cD (dI .i64)), (cD (dI .i64))], eBox 8 [(cD (dI .i64)), (cD (dI .i64)), (cD (dI .i64))]]
def u24_0_1 {β : Type} (g : St → β) : Int → Int → Int → Int → Int → Int → β := p24_0_1.unc g
def p24_0_2 : PT St := pS [sl 2 (aV false [(cPtr 2 0)]), sl 8 (aV false [(cPtr 8 0)]), sl 40 (aV false [(cD dB)])] [eBox 2 [(cD (dI .i64)), (cD (dI .i64)), (cD (dI .i64))], eBox 8 [(cD (dI .i64)), (cD (dI .i64)), (cD (dI .i64))]]
def u24_0_2 {β : Type} (g : St → β) : Bool → Int → Int → Int → Int → Int → Int → β := p24_0_2.unc g
def pr24_0_0 : PT (List RV) := pRs [pR true [rD (dI .i64), rD (dI .i64), rD (dI .i64)], pR false [rD (dI .i64)]]
def ur24_0_0 {β : Type} (g : List RV → β) : Int → Int → Int → Int → β := pr24_0_0.unc g
def E24_0g (vf72_0 : Tf72_0) (vf59_0 : Tf59_0) : EnvK := EnvK.of [⟨72, nt72, [⟨pa72_0, Fn72_0 vf72_0⟩]⟩, ⟨59, nt59, [⟨pa59_0, Fn59_0 vf59_0⟩]⟩] noSeq
noncomputable def E24_0 : EnvK := E24_0g f72_0 f59_0
theorem eo24_0 : E24_0.Ok Tryz.prog := EnvK.of_ok noSeq_ok ⟨⟨io72_0, trivial⟩, ⟨io59_0, trivial⟩, trivial⟩
noncomputable def c24_0_9g  : MCode := (.seq (.region r24_11 [] (tO [2, 8, 40])) (.cond (.tmp 40) (.region r24_13 [] (tO [2, 8])) .skip))
noncomputable def c24_0_9 : MCode := c24_0_9g 
theorem g24_0_9 : c24_0_9.Good Tryz.prog E24_0 sh24 := ⟨trivial, ⟨trivial, trivial⟩⟩
--CODE 9 0
abbrev TJ24_0_0 : Type 1 := (α : Type) → Bool → Bool → (Option α) → (Option α) → Option α
def J24_0_0g  (α : Type) (x7 x8 : Bool) (k1 : Option α) (k2 : Option α) : Option α :=
 cK x7
 (k1)
 (cK x8
 (k1)
 (k2))
noncomputable def J24_0_0 (α : Type) (x7 x8 : Bool) (k1 : Option α) (k2 : Option α) : Option α := J24_0_0g  α x7 x8 k1 k2
def F24_0_0 (v : TJ24_0_0) (α : Type) (K : Exit → St → Option α) : Bool → Bool → Int → Int → Int → Int → Int → Int → Option α := fun x7 x8 x9 x10 x11 x12 x13 x14 => v α x7 x8 (u24_0_1 (K .normal) x9 x10 x11 x12 x13 1) (u24_0_2 (K .normal) x8 x9 x10 x11 x12 x13 x14) 
theorem m24_0_0g (vf72_0 : Tf72_0) (vf59_0 : Tf59_0)  (α : Type) (K : Exit → St → Option α) : F24_0_0 (J24_0_0g ) α K = p24_0_0.unc fun σ => runM Tryz.prog (E24_0g vf72_0 vf59_0) sh24 (c24_0_9g ) K σ := by kernel_rfl
theorem m24_0_0 : ∀ (α : Type) (K : Exit → St → Option α), F24_0_0 J24_0_0 α K = p24_0_0.unc fun σ => runM Tryz.prog E24_0 sh24 c24_0_9 K σ := m24_0_0g f72_0 f59_0
abbrev Tf24_0 : Type 1 := (α : Type) → Int → Int → (Int → Int → Int → Int → Option α) → Option α
def f24_0g (vJ24_0_0 : TJ24_0_0) (vf59_0 : Tf59_0) (vf72_0 : Tf72_0) (α : Type) (x1 x2 : Int) (k1 : Int → Int → Int → Int → Option α) : Option α :=
 vf72_0 α (w64 ((w64 (x1 * x1)) - (w64 (x2 * x2))))
 (fun x3 x4 => vf72_0 α (w64 ((w64 (2 * x1)) * x2))
 (fun x5 x6 => vJ24_0_0 α x4 x6
 (vf59_0 α x3 x5 1
 (fun x17 x18 x19 x20 => k1 x17 x18 x19 x20))
 (vf59_0 α x3 x5 0
 (fun x21 x22 x23 x24 => k1 x21 x22 x23 x24))))
noncomputable def f24_0 (α : Type) (x1 x2 : Int) (k1 : Int → Int → Int → Int → Option α) : Option α := f24_0g J24_0_0 f59_0 f72_0 α x1 x2 k1
def pa24_0 : PT (List DV) := pA [pV true [(dI .i64), (dI .i64)]]
def Fn24_0 (v : Tf24_0) (α : Type) (k : List RV → Option α) : Int → Int → Option α := fun x1 x2 => v α x1 x2 (fun (y1 : Int) (y2 : Int) (y3 : Int) (y4 : Int) => ur24_0_0 k y1 y2 y3 y4)
noncomputable def cm24_0g (vJ24_0_0 : TJ24_0_0) : MCode := (.seq (.region r24_2 [] (tO [1, 2])) (.seq (.region r24_4 [] (tO [1, 2, 4, 5])) (.seq (.region r24_6 [] (tO [2, 4, 5, 6, 7])) (.seq (.region r24_8 [] (tO [2, 5, 7, 8])) (.seq (.mark [⟨p24_0_0, F24_0_0 vJ24_0_0⟩] c24_0_9) (.seq (.region r24_15 [] (tO [2, 3])) .ret))))))
noncomputable def cm24_0 : MCode := cm24_0g J24_0_0
theorem gm24_0 : cm24_0.Good Tryz.prog E24_0 sh24 := ⟨trivial, ⟨trivial, ⟨trivial, ⟨trivial, ⟨⟨g24_0_9, m24_0_0, trivial⟩, ⟨trivial, trivial⟩⟩⟩⟩⟩⟩
theorem fm24_0g (vf72_0 : Tf72_0) (vf59_0 : Tf59_0) (vJ24_0_0 : TJ24_0_0) (α : Type) (k : List RV → Option α) : Fn24_0 (f24_0g vJ24_0_0 vf59_0 vf72_0) α k = pa24_0.unc fun ds => fnM Tryz.prog (E24_0g vf72_0 vf59_0) sh24 (cm24_0g vJ24_0_0) rs24 k ds := by kernel_rfl
theorem fm24_0 : ∀ (α : Type) (k : List RV → Option α), Fn24_0 f24_0 α k = pa24_0.unc fun ds => fnM Tryz.prog E24_0 sh24 cm24_0 rs24 k ds := fm24_0g f72_0 f59_0 J24_0_0
theorem is24 : FnIs Tryz.prog 24 nt24 tr24 tl24 cm24_0.erase rs24 := ⟨Tryz.f24, Tryz.func24, rfl, by kernel_rfl, by kernel_rfl, by kernel_rfl⟩
theorem io24_0 : InstOk Tryz.prog 24 nt24 ⟨pa24_0, Fn24_0 f24_0⟩ := inst_ok eo24_0 followsTry is24 ⟨⟨sh24, cm24_0, by kernel_rfl, gm24_0, fm24_0⟩⟩
abbrev nt95 : Nat := 37
def sh95 : List (Nat × List Sh) := [(16, [.flt .f64, .flt .f64]), (25, [.flt .f64, .flt .f64])]
def r95_2 : List AOper := [oO 4 (.alloc [(cI 0), (cI 0)]), oO 5 (.mv (kI 0))]
def r95_4 : List AOper := [oM 11 0, oO 12 (.pure (oB (.call { callee := .builtin .real, args := #[(.tmp 11)], argTypes := #[43] }) 117)), oM 13 0, oO 14 (.pure (oB (.call { callee := .builtin .imag, args := #[(.tmp 13)], argTypes := #[43] }) 117)), oO 15 (.build [(.d (.v (.float Go.FloatKind.f64 0))), (.d (.v (.float Go.FloatKind.f64 0)))] [(0, 1, (.tmp 12)), (1, 1, (.tmp 14))]), oO 6 (.alloc [(.d (.v (.float Go.FloatKind.f64 0))), (.d (.v (.float Go.FloatKind.f64 0)))]), oD (.store 2 (.tmp 6) (.tmp 15))]
def r95_7 : List AOper := [oO 16 (.load true 2 (.tmp 6)), oO 17 (.mv (kI 0))]
def td95_9 : Option Tidy := (tO [0, 1, 4, 6, 16, 17])
def r95_11 : List AOper := [oO 18 (.bin .lss 3 (.tmp 17) (kI 2))]
def r95_17 : List AOper := [oO 19 (.index false 2 1 (.tmp 16) (.tmp 17)), oM 8 19]
def r95_19 : List AOper := [oM 20 8, oO 21 (.call 128 [(.tmp 20)]), oO 22 (.pure (oB (.unOp .not 4 (.tmp 21)) 4))]
def r95_22 : List AOper := [oO 23 (.build [(cI 0), (cI 0)] []), oD (.store 2 (.tmp 4) (.tmp 23)), oO 5 (.mv (kI 27))]
def r95_23 : List AOper := [oO 24 (.bin .add 3 (.tmp 17) (kI 1)), oM 17 24]
def r95_26 : List AOper := [oO 25 (.load true 2 (.tmp 6)), oO 26 (.mv (kI 0))]
def td95_28 : Option Tidy := (tO [0, 1, 4, 25, 26])
def r95_30 : List AOper := [oO 27 (.bin .lss 3 (.tmp 26) (kI 2))]
def r95_36 : List AOper := [oO 28 (.index false 2 1 (.tmp 25) (.tmp 26)), oM 10 28]
def r95_38 : List AOper := [oM 29 10, oO 30 (.call 129 [(.tmp 29)]), oM 31 1, oO 32 (.bin .gtr 117 (.tmp 30) (.tmp 31))]
def r95_41 : List AOper := [oO 33 (.build [(cI 0), (cI 0)] []), oD (.store 2 (.tmp 4) (.tmp 33)), oO 5 (.mv (kI 2))]
def r95_42 : List AOper := [oO 34 (.bin .add 3 (.tmp 26) (kI 1)), oM 26 34]
def r95_44 : List AOper := [oM 35 0, oO 36 (.call 130 [(.tmp 35)]), oD (.store 2 (.tmp 4) (.tmp 36)), oO 5 (.mv (kI 0))]
def tr95 : List (Nat × Tidy) := [tT 0 [0, 1, 4], tT 1 [0, 1, 4, 6], tT 2 [0, 1, 4, 6, 16, 17], tT 3 [0, 1, 4, 6, 16, 17, 18], tT 4 [0, 1, 4, 6, 8, 16, 17], tT 5 [0, 1, 4, 6, 16, 17, 22], tT 6 [4, 5], tT 7 [0, 1, 4, 6, 16, 17], tT 8 [0, 1, 4, 25, 26], tT 9 [0, 1, 4, 25, 26, 27], tT 10 [0, 1, 4, 10, 25, 26], tT 11 [0, 1, 4, 25, 26, 32], tT 12 [4, 5], tT 13 [0, 1, 4, 25, 26], tT 14 [4, 5]]
def tl95 : List (Nat × Tidy) := [tT 3 [0, 1, 4, 6, 16, 17], tT 9 [0, 1, 4, 25, 26]]
def rs95 : List AResV := [.cell 4 true 2, .tmp 5]
def p95_0_0 : PT St := pS [sl 0 (aV false [(cD (dX .f64))]), sl 1 (aV false [(cD (dF .f64))]), sl 4 (aV false [(cPtr 4 0)]), sl 6 (aV false [(cPtr 6 0)]), sl 16 (aV true [(cD (dF .f64)), (cD (dF .f64))]), sl 17 (aV false [(cD (dI .i64))]), sl 18 (aV false [(cD dB)])] [eBox 4 [(cD (dI .i64)), (cD (dI .i64))], eBox 6 [(cD (dF .f64)), (cD (dF .f64))]]
def u95_0_0 {β : Type} (g : St → β) : Nat → Nat → Nat → Nat → Nat → Int → Bool → Int → Int → Nat → Nat → β := p95_0_0.unc g
def p95_0_1 : PT St := pS [sl 0 (aV false [(cD (dX .f64))]), sl 1 (aV false [(cD (dF .f64))]), sl 4 (aV false [(cPtr 4 0)]), sl 6 (aV false [(cPtr 6 0)]), sl 8 (aV false [(cD (dF .f64))]), sl 16 (aV true [(cD (dF .f64)), (cD (dF .f64))]), sl 17 (aV false [(cD (dI .i64))])] [eBox 4 [(cD (dI .i64)), (cD (dI .i64))], eBox 6 [(cD (dF .f64)), (cD (dF .f64))]]
def u95_0_1 {β : Type} (g : St → β) : Nat → Nat → Nat → Nat → Nat → Nat → Int → Int → Int → Nat → Nat → β := p95_0_1.unc g
def p95_0_2 : PT St := pS [sl 0 (aV false [(cD (dX .f64))]), sl 1 (aV false [(cD (dF .f64))]), sl 4 (aV false [(cPtr 4 0)]), sl 6 (aV false [(cPtr 6 0)]), sl 16 (aV true [(cD (dF .f64)), (cD (dF .f64))]), sl 17 (aV false [(cD (dI .i64))])] [eBox 4 [(cD (dI .i64)), (cD (dI .i64))], eBox 6 [(cD (dF .f64)), (cD (dF .f64))]]
def u95_0_2 {β : Type} (g : St → β) : Nat → Nat → Nat → Nat → Nat → Int → Int → Int → Nat → Nat → β := p95_0_2.unc g
def p95_0_3 : PT St := pS [sl 4 (aV false [(cPtr 4 0)]), sl 5 (aV false [(cD (dI .i64))])] [eBox 4 [(cD (dI .i64)), (cD (dI .i64))]]
def u95_0_3 {β : Type} (g : St → β) : Int → Int → Int → β := p95_0_3.unc g
def p95_0_4 : PT St := pS [sl 0 (aV false [(cD (dX .f64))]), sl 1 (aV false [(cD (dF .f64))]), sl 4 (aV false [(cPtr 4 0)]), sl 25 (aV true [(cD (dF .f64)), (cD (dF .f64))]), sl 26 (aV false [(cD (dI .i64))]), sl 27 (aV false [(cD dB)])] [eBox 4 [(cD (dI .i64)), (cD (dI .i64))]]
def u95_0_4 {β : Type} (g : St → β) : Nat → Nat → Nat → Nat → Nat → Int → Bool → Int → Int → β := p95_0_4.unc g
def p95_0_5 : PT St := pS [sl 0 (aV false [(cD (dX .f64))]), sl 1 (aV false [(cD (dF .f64))]), sl 4 (aV false [(cPtr 4 0)]), sl 10 (aV false [(cD (dF .f64))]), sl 25 (aV true [(cD (dF .f64)), (cD (dF .f64))]), sl 26 (aV false [(cD (dI .i64))])] [eBox 4 [(cD (dI .i64)), (cD (dI .i64))]]
def u95_0_5 {β : Type} (g : St → β) : Nat → Nat → Nat → Nat → Nat → Nat → Int → Int → Int → β := p95_0_5.unc g
def p95_0_6 : PT St := pS [sl 0 (aV false [(cD (dX .f64))]), sl 1 (aV false [(cD (dF .f64))]), sl 4 (aV false [(cPtr 4 0)]), sl 25 (aV true [(cD (dF .f64)), (cD (dF .f64))]), sl 26 (aV false [(cD (dI .i64))])] [eBox 4 [(cD (dI .i64)), (cD (dI .i64))]]
def u95_0_6 {β : Type} (g : St → β) : Nat → Nat → Nat → Nat → Nat → Int → Int → Int → β := p95_0_6.unc g
def pr95_0_0 : PT (List RV) := pRs [pR true [rD (dI .i64), rD (dI .i64)], pR false [rD (dI .i64)]]
def ur95_0_0 {β : Type} (g : List RV → β) : Int → Int → Int → β := pr95_0_0.unc g
def E95_0g (vf128_0 : Tf128_0) (vf129_0 : Tf129_0) (vf130_0 : Tf130_0) : EnvK := EnvK.of [⟨128, nt128, [⟨pa128_0, Fn128_0 vf128_0⟩]⟩, ⟨129, nt129, [⟨pa129_0, Fn129_0 vf129_0⟩]⟩, ⟨130, nt130, [⟨pa130_0, Fn130_0 vf130_0⟩]⟩] noSeq
noncomputable def E95_0 : EnvK := E95_0g f128_0 f129_0 f130_0
theorem eo95_0 : E95_0.Ok Tryz.prog := EnvK.of_ok noSeq_ok ⟨⟨io128_0, trivial⟩, ⟨io129_0, trivial⟩, ⟨io130_0, trivial⟩, trivial⟩
noncomputable def c95_0_35g  : MCode := (.region r95_36 [] (tO [0, 1, 4, 10, 25, 26]))
noncomputable def c95_0_35 : MCode := c95_0_35g 
theorem g95_0_35 : c95_0_35.Good Tryz.prog E95_0 sh95 := trivial
--CODE 35 0
abbrev TJ95_0_2 : Type 1 := (α : Type) → Nat → Nat → Int → (Nat → Option α) → Option α
def J95_0_2g  (α : Type) (x45 x46 : Nat) (x47 : Int) (k1 : Nat → Option α) : Option α :=
 cK (x47 == 1)
 (k1 x46)
 (cK (x47 == 0)
 (k1 x45)
 (none))
noncomputable def J95_0_2 (α : Type) (x45 x46 : Nat) (x47 : Int) (k1 : Nat → Option α) : Option α := J95_0_2g  α x45 x46 x47 k1
def F95_0_2 (v : TJ95_0_2) (α : Type) (K : Exit → St → Option α) : Nat → Nat → Nat → Nat → Nat → Int → Bool → Int → Int → Option α := fun x42 x43 x44 x45 x46 x47 x48 x49 x50 => v α x45 x46 x47 (fun (y1 : Nat) => u95_0_5 (K .normal) x42 x43 x44 y1 x45 x46 x47 x49 x50) 
theorem m95_0_2g (vf128_0 : Tf128_0) (vf129_0 : Tf129_0) (vf130_0 : Tf130_0)  (α : Type) (K : Exit → St → Option α) : F95_0_2 (J95_0_2g ) α K = p95_0_4.unc fun σ => runM Tryz.prog (E95_0g vf128_0 vf129_0 vf130_0) sh95 (c95_0_35g ) K σ := by kernel_rfl
theorem m95_0_2 : ∀ (α : Type) (K : Exit → St → Option α), F95_0_2 J95_0_2 α K = p95_0_4.unc fun σ => runM Tryz.prog E95_0 sh95 c95_0_35 K σ := m95_0_2g f128_0 f129_0 f130_0
noncomputable def c95_0_28g (vJ95_0_2 : TJ95_0_2) : MCode := (.seq (.region r95_30 [] (tO [0, 1, 4, 25, 26, 27])) (.seq (.cond (.tmp 27) .skip (.exit 2)) (.seq (.block 3 (.seq (.mark [⟨p95_0_4, F95_0_2 vJ95_0_2⟩] c95_0_35) (.seq (.region r95_38 [] (tO [0, 1, 4, 25, 26, 32])) (.cond (.tmp 32) (.seq (.region r95_41 [] (tO [4, 5])) .ret) .skip)))) (.region r95_42 [] (tO [0, 1, 4, 25, 26])))))
noncomputable def c95_0_28 : MCode := c95_0_28g J95_0_2
theorem g95_0_28 : c95_0_28.Good Tryz.prog E95_0 sh95 := ⟨trivial, ⟨⟨trivial, trivial⟩, ⟨⟨⟨g95_0_35, m95_0_2, trivial⟩, ⟨trivial, ⟨⟨trivial, trivial⟩, trivial⟩⟩⟩, trivial⟩⟩⟩
--CODE 28 0
def S95_0_3g (vJ95_0_2 : TJ95_0_2) (vf129_0 : Tf129_0) (α : Type) (x35 x36 x37 : Nat) (x38 : Int) (kn : Int → Option α) (k1 : Option α) (k2 : Int → Bool → Option α) : Option α :=
 cK (decide (x38 < 2))
 (vJ95_0_2 α x36 x37 x38
 (fun x52 => vf129_0 α x52
 (fun x54 => cK ((FloatKind.format .f64).order x54 x35 == some Ordering.gt)
 (k1)
 (kn (w64 (x38 + 1))))))
 (k2 x38 (decide (x38 < 2)))
noncomputable def S95_0_3 (α : Type) (x35 x36 x37 : Nat) (x38 : Int) (kn : Int → Option α) (k1 : Option α) (k2 : Int → Bool → Option α) : Option α := S95_0_3g J95_0_2 f129_0 α x35 x36 x37 x38 kn k1 k2
noncomputable def R95_0_3 (α : Type) (x35 x36 x37 : Nat) (k1 : Option α) (k2 : Int → Bool → Option α) : Nat → Int → Option α
 | 0, _ => none
 | n + 1, x38 => S95_0_3 α x35 x36 x37 x38 (R95_0_3 α x35 x36 x37 k1 k2 n) k1 k2
noncomputable def L95_0_3 (α : Type) (x35 x36 x37 : Nat) (k1 : Option α) (k2 : Int → Bool → Option α) (x38 : Int) : Option α := R95_0_3 α x35 x36 x37 k1 k2 fuel x38
abbrev TL95_0_3 : Type 1 := (α : Type) → Nat → Nat → Nat → (Option α) → (Int → Bool → Option α) → Int → Option α
def F95_0_3 (v : TL95_0_3) (α : Type) (K : Exit → St → Option α) : Nat → Nat → Nat → Nat → Nat → Int → Int → Int → Option α := fun x33 x34 x35 x36 x37 x38 x39 x40 => v α x35 x36 x37 (u95_0_3 (K .ret) 2 0 0) (fun (y1 : Int) (y2 : Bool) => u95_0_4 (K (.exit 2)) x33 x34 x35 x36 x37 y1 y2 x39 x40) x38
theorem r95_0_3g (vf128_0 : Tf128_0) (vf129_0 : Tf129_0) (vf130_0 : Tf130_0) (vJ95_0_2 : TJ95_0_2) (α : Type) (K : Exit → St → Option α) (Kn : St → Option α) (x33 x34 x35 x36 x37 : Nat) (x38 x39 x40 : Int) : u95_0_6 (fun σ => runM Tryz.prog (E95_0g vf128_0 vf129_0 vf130_0) sh95 (c95_0_28g vJ95_0_2) (thenK (fun σ => tidyK td95_28 σ Kn) K) σ) x33 x34 x35 x36 x37 x38 x39 x40 = S95_0_3g vJ95_0_2 vf129_0 α x35 x36 x37 x38 (fun x38 => u95_0_6 Kn x33 x34 x35 x36 x37 x38 x39 x40) (u95_0_3 (K .ret) 2 0 0) (fun (y1 : Int) (y2 : Bool) => u95_0_4 (K (.exit 2)) x33 x34 x35 x36 x37 y1 y2 x39 x40) := by kernel_rfl
theorem r95_0_3 (α : Type) (K : Exit → St → Option α) (Kn : St → Option α) (x33 x34 x35 x36 x37 : Nat) (x38 x39 x40 : Int) : u95_0_6 (fun σ => runM Tryz.prog E95_0 sh95 c95_0_28 (thenK (fun σ => tidyK td95_28 σ Kn) K) σ) x33 x34 x35 x36 x37 x38 x39 x40 = S95_0_3 α x35 x36 x37 x38 (fun x38 => u95_0_6 Kn x33 x34 x35 x36 x37 x38 x39 x40) (u95_0_3 (K .ret) 2 0 0) (fun (y1 : Int) (y2 : Bool) => u95_0_4 (K (.exit 2)) x33 x34 x35 x36 x37 y1 y2 x39 x40) := r95_0_3g f128_0 f129_0 f130_0 J95_0_2 α K Kn x33 x34 x35 x36 x37 x38 x39 x40
theorem t95_0_3 (α : Type) (K : Exit → St → Option α) : ∀ (n : Nat) (x33 x34 x35 x36 x37 : Nat) (x38 x39 x40 : Int), R95_0_3 α x35 x36 x37 (u95_0_3 (K .ret) 2 0 0) (fun (y1 : Int) (y2 : Bool) => u95_0_4 (K (.exit 2)) x33 x34 x35 x36 x37 y1 y2 x39 x40) n x38 = u95_0_6 (loopT (runM Tryz.prog E95_0 sh95 c95_0_28) td95_28 K n) x33 x34 x35 x36 x37 x38 x39 x40 := by
 intro n
 induction n with
 | zero => intros; rfl
 | succ n ih => intro x33 x34 x35 x36 x37 x38 x39 x40; exact (congrArg (fun kn => S95_0_3 α x35 x36 x37 x38 kn (u95_0_3 (K .ret) 2 0 0) (fun (y1 : Int) (y2 : Bool) => u95_0_4 (K (.exit 2)) x33 x34 x35 x36 x37 y1 y2 x39 x40)) (funext fun x38 => ih x33 x34 x35 x36 x37 x38 x39 x40)).trans (r95_0_3 α K (loopT (runM Tryz.prog E95_0 sh95 c95_0_28) td95_28 K n) x33 x34 x35 x36 x37 x38 x39 x40).symm
theorem m95_0_3 : ∀ (α : Type) (K : Exit → St → Option α), F95_0_3 L95_0_3 α K = p95_0_6.unc fun σ => loopT (runM Tryz.prog E95_0 sh95 c95_0_28) td95_28 K fuel σ := fun α K => funext fun x33 => funext fun x34 => funext fun x35 => funext fun x36 => funext fun x37 => funext fun x38 => funext fun x39 => funext fun x40 => t95_0_3 α K fuel x33 x34 x35 x36 x37 x38 x39 x40
noncomputable def c95_0_16g  : MCode := (.region r95_17 [] (tO [0, 1, 4, 6, 8, 16, 17]))
noncomputable def c95_0_16 : MCode := c95_0_16g 
theorem g95_0_16 : c95_0_16.Good Tryz.prog E95_0 sh95 := trivial
--CODE 16 0
abbrev TJ95_0_0 : Type 1 := (α : Type) → Nat → Nat → Int → (Nat → Option α) → Option α
def J95_0_0g  (α : Type) (x18 x19 : Nat) (x20 : Int) (k1 : Nat → Option α) : Option α :=
 cK (x20 == 1)
 (k1 x19)
 (cK (x20 == 0)
 (k1 x18)
 (none))
noncomputable def J95_0_0 (α : Type) (x18 x19 : Nat) (x20 : Int) (k1 : Nat → Option α) : Option α := J95_0_0g  α x18 x19 x20 k1
def F95_0_0 (v : TJ95_0_0) (α : Type) (K : Exit → St → Option α) : Nat → Nat → Nat → Nat → Nat → Int → Bool → Int → Int → Nat → Nat → Option α := fun x15 x16 x17 x18 x19 x20 x21 x22 x23 x24 x25 => v α x18 x19 x20 (fun (y1 : Nat) => u95_0_1 (K .normal) x15 x16 x17 y1 x18 x19 x20 x22 x23 x24 x25) 
theorem m95_0_0g (vf128_0 : Tf128_0) (vf129_0 : Tf129_0) (vf130_0 : Tf130_0)  (α : Type) (K : Exit → St → Option α) : F95_0_0 (J95_0_0g ) α K = p95_0_0.unc fun σ => runM Tryz.prog (E95_0g vf128_0 vf129_0 vf130_0) sh95 (c95_0_16g ) K σ := by kernel_rfl
theorem m95_0_0 : ∀ (α : Type) (K : Exit → St → Option α), F95_0_0 J95_0_0 α K = p95_0_0.unc fun σ => runM Tryz.prog E95_0 sh95 c95_0_16 K σ := m95_0_0g f128_0 f129_0 f130_0
noncomputable def c95_0_9g (vJ95_0_0 : TJ95_0_0) : MCode := (.seq (.region r95_11 [] (tO [0, 1, 4, 6, 16, 17, 18])) (.seq (.cond (.tmp 18) .skip (.exit 0)) (.seq (.block 1 (.seq (.mark [⟨p95_0_0, F95_0_0 vJ95_0_0⟩] c95_0_16) (.seq (.region r95_19 [] (tO [0, 1, 4, 6, 16, 17, 22])) (.cond (.tmp 22) (.seq (.region r95_22 [] (tO [4, 5])) .ret) .skip)))) (.region r95_23 [] (tO [0, 1, 4, 6, 16, 17])))))
noncomputable def c95_0_9 : MCode := c95_0_9g J95_0_0
theorem g95_0_9 : c95_0_9.Good Tryz.prog E95_0 sh95 := ⟨trivial, ⟨⟨trivial, trivial⟩, ⟨⟨⟨g95_0_16, m95_0_0, trivial⟩, ⟨trivial, ⟨⟨trivial, trivial⟩, trivial⟩⟩⟩, trivial⟩⟩⟩
--CODE 9 0
def S95_0_1g (vJ95_0_0 : TJ95_0_0) (vf128_0 : Tf128_0) (α : Type) (x7 x8 : Nat) (x9 : Int) (kn : Int → Option α) (k1 : Option α) (k2 : Int → Bool → Option α) : Option α :=
 cK (decide (x9 < 2))
 (vJ95_0_0 α x7 x8 x9
 (fun x27 => vf128_0 α x27
 (fun x29 => cK (!x29)
 (k1)
 (kn (w64 (x9 + 1))))))
 (k2 x9 (decide (x9 < 2)))
noncomputable def S95_0_1 (α : Type) (x7 x8 : Nat) (x9 : Int) (kn : Int → Option α) (k1 : Option α) (k2 : Int → Bool → Option α) : Option α := S95_0_1g J95_0_0 f128_0 α x7 x8 x9 kn k1 k2
noncomputable def R95_0_1 (α : Type) (x7 x8 : Nat) (k1 : Option α) (k2 : Int → Bool → Option α) : Nat → Int → Option α
 | 0, _ => none
 | n + 1, x9 => S95_0_1 α x7 x8 x9 (R95_0_1 α x7 x8 k1 k2 n) k1 k2
noncomputable def L95_0_1 (α : Type) (x7 x8 : Nat) (k1 : Option α) (k2 : Int → Bool → Option α) (x9 : Int) : Option α := R95_0_1 α x7 x8 k1 k2 fuel x9
abbrev TL95_0_1 : Type 1 := (α : Type) → Nat → Nat → (Option α) → (Int → Bool → Option α) → Int → Option α
def F95_0_1 (v : TL95_0_1) (α : Type) (K : Exit → St → Option α) : Nat → Nat → Nat → Nat → Nat → Int → Int → Int → Nat → Nat → Option α := fun x4 x5 x6 x7 x8 x9 x10 x11 x12 x13 => v α x7 x8 (u95_0_3 (K .ret) 27 0 0) (fun (y1 : Int) (y2 : Bool) => u95_0_0 (K (.exit 0)) x4 x5 x6 x7 x8 y1 y2 x10 x11 x12 x13) x9
theorem r95_0_1g (vf128_0 : Tf128_0) (vf129_0 : Tf129_0) (vf130_0 : Tf130_0) (vJ95_0_0 : TJ95_0_0) (α : Type) (K : Exit → St → Option α) (Kn : St → Option α) (x4 x5 x6 x7 x8 : Nat) (x9 x10 x11 : Int) (x12 x13 : Nat) : u95_0_2 (fun σ => runM Tryz.prog (E95_0g vf128_0 vf129_0 vf130_0) sh95 (c95_0_9g vJ95_0_0) (thenK (fun σ => tidyK td95_9 σ Kn) K) σ) x4 x5 x6 x7 x8 x9 x10 x11 x12 x13 = S95_0_1g vJ95_0_0 vf128_0 α x7 x8 x9 (fun x9 => u95_0_2 Kn x4 x5 x6 x7 x8 x9 x10 x11 x12 x13) (u95_0_3 (K .ret) 27 0 0) (fun (y1 : Int) (y2 : Bool) => u95_0_0 (K (.exit 0)) x4 x5 x6 x7 x8 y1 y2 x10 x11 x12 x13) := by kernel_rfl
theorem r95_0_1 (α : Type) (K : Exit → St → Option α) (Kn : St → Option α) (x4 x5 x6 x7 x8 : Nat) (x9 x10 x11 : Int) (x12 x13 : Nat) : u95_0_2 (fun σ => runM Tryz.prog E95_0 sh95 c95_0_9 (thenK (fun σ => tidyK td95_9 σ Kn) K) σ) x4 x5 x6 x7 x8 x9 x10 x11 x12 x13 = S95_0_1 α x7 x8 x9 (fun x9 => u95_0_2 Kn x4 x5 x6 x7 x8 x9 x10 x11 x12 x13) (u95_0_3 (K .ret) 27 0 0) (fun (y1 : Int) (y2 : Bool) => u95_0_0 (K (.exit 0)) x4 x5 x6 x7 x8 y1 y2 x10 x11 x12 x13) := r95_0_1g f128_0 f129_0 f130_0 J95_0_0 α K Kn x4 x5 x6 x7 x8 x9 x10 x11 x12 x13
theorem t95_0_1 (α : Type) (K : Exit → St → Option α) : ∀ (n : Nat) (x4 x5 x6 x7 x8 : Nat) (x9 x10 x11 : Int) (x12 x13 : Nat), R95_0_1 α x7 x8 (u95_0_3 (K .ret) 27 0 0) (fun (y1 : Int) (y2 : Bool) => u95_0_0 (K (.exit 0)) x4 x5 x6 x7 x8 y1 y2 x10 x11 x12 x13) n x9 = u95_0_2 (loopT (runM Tryz.prog E95_0 sh95 c95_0_9) td95_9 K n) x4 x5 x6 x7 x8 x9 x10 x11 x12 x13 := by
 intro n
 induction n with
 | zero => intros; rfl
 | succ n ih => intro x4 x5 x6 x7 x8 x9 x10 x11 x12 x13; exact (congrArg (fun kn => S95_0_1 α x7 x8 x9 kn (u95_0_3 (K .ret) 27 0 0) (fun (y1 : Int) (y2 : Bool) => u95_0_0 (K (.exit 0)) x4 x5 x6 x7 x8 y1 y2 x10 x11 x12 x13)) (funext fun x9 => ih x4 x5 x6 x7 x8 x9 x10 x11 x12 x13)).trans (r95_0_1 α K (loopT (runM Tryz.prog E95_0 sh95 c95_0_9) td95_9 K n) x4 x5 x6 x7 x8 x9 x10 x11 x12 x13).symm
theorem m95_0_1 : ∀ (α : Type) (K : Exit → St → Option α), F95_0_1 L95_0_1 α K = p95_0_2.unc fun σ => loopT (runM Tryz.prog E95_0 sh95 c95_0_9) td95_9 K fuel σ := fun α K => funext fun x4 => funext fun x5 => funext fun x6 => funext fun x7 => funext fun x8 => funext fun x9 => funext fun x10 => funext fun x11 => funext fun x12 => funext fun x13 => t95_0_1 α K fuel x4 x5 x6 x7 x8 x9 x10 x11 x12 x13
abbrev Tf95_0 : Type 1 := (α : Type) → Nat → Nat → Nat → (Int → Int → Int → Option α) → Option α
def f95_0g (vL95_0_1 : TL95_0_1) (vL95_0_3 : TL95_0_3) (vf130_0 : Tf130_0) (α : Type) (x1 x2 x3 : Nat) (k1 : Int → Int → Int → Option α) : Option α :=
 vL95_0_1 α x1 x2
 (k1 0 0 27)
 (fun x30 x31 => vL95_0_3 α x3 x1 x2
 (k1 0 0 2)
 (fun x55 x56 => vf130_0 α x1 x2
 (fun x58 x59 => k1 x58 x59 0)) 0) 0
noncomputable def f95_0 (α : Type) (x1 x2 x3 : Nat) (k1 : Int → Int → Int → Option α) : Option α := f95_0g L95_0_1 L95_0_3 f130_0 α x1 x2 x3 k1
def pa95_0 : PT (List DV) := pA [pV false [(dX .f64)], pV false [(dF .f64)]]
def Fn95_0 (v : Tf95_0) (α : Type) (k : List RV → Option α) : Nat → Nat → Nat → Option α := fun x1 x2 x3 => v α x1 x2 x3 (fun (y1 : Int) (y2 : Int) (y3 : Int) => ur95_0_0 k y1 y2 y3)
noncomputable def cm95_0g (vL95_0_1 : TL95_0_1) (vL95_0_3 : TL95_0_3) : MCode := (.seq (.region r95_2 [] (tO [0, 1, 4])) (.seq (.region r95_4 [] (tO [0, 1, 4, 6])) (.seq (.seq (.region r95_7 [] (tO [0, 1, 4, 6, 16, 17])) (.block 0 (.loop td95_9 [⟨p95_0_2, F95_0_1 vL95_0_1⟩] c95_0_9))) (.seq (.seq (.region r95_26 [] (tO [0, 1, 4, 25, 26])) (.block 2 (.loop td95_28 [⟨p95_0_6, F95_0_3 vL95_0_3⟩] c95_0_28))) (.seq (.region r95_44 [] (tO [4, 5])) .ret)))))
noncomputable def cm95_0 : MCode := cm95_0g L95_0_1 L95_0_3
theorem gm95_0 : cm95_0.Good Tryz.prog E95_0 sh95 := ⟨trivial, ⟨trivial, ⟨⟨trivial, ⟨g95_0_9, m95_0_1, trivial⟩⟩, ⟨⟨trivial, ⟨g95_0_28, m95_0_3, trivial⟩⟩, ⟨trivial, trivial⟩⟩⟩⟩⟩
theorem fm95_0g (vf128_0 : Tf128_0) (vf129_0 : Tf129_0) (vf130_0 : Tf130_0) (vL95_0_1 : TL95_0_1) (vL95_0_3 : TL95_0_3) (α : Type) (k : List RV → Option α) : Fn95_0 (f95_0g vL95_0_1 vL95_0_3 vf130_0) α k = pa95_0.unc fun ds => fnM Tryz.prog (E95_0g vf128_0 vf129_0 vf130_0) sh95 (cm95_0g vL95_0_1 vL95_0_3) rs95 k ds := by kernel_rfl
theorem fm95_0 : ∀ (α : Type) (k : List RV → Option α), Fn95_0 f95_0 α k = pa95_0.unc fun ds => fnM Tryz.prog E95_0 sh95 cm95_0 rs95 k ds := fm95_0g f128_0 f129_0 f130_0 L95_0_1 L95_0_3
theorem is95 : FnIs Tryz.prog 95 nt95 tr95 tl95 cm95_0.erase rs95 := ⟨Tryz.f95, Tryz.func95, rfl, by kernel_rfl, by kernel_rfl, by kernel_rfl⟩
theorem io95_0 : InstOk Tryz.prog 95 nt95 ⟨pa95_0, Fn95_0 f95_0⟩ := inst_ok eo95_0 followsTry is95 ⟨⟨sh95, cm95_0, by kernel_rfl, gm95_0, fm95_0⟩⟩
abbrev nt159 : Nat := 40
def sh159 : List (Nat × List Sh) := []
def r159_2 : List AOper := [oO 6 (.mv (kI 0))]
def r159_5 : List AOper := [oM 11 0, oO 12 (.call 80 [(.tmp 11)]), oO 13 (.pure (oB (.unOp .not 4 (.tmp 12)) 4))]
def r159_8 : List AOper := [oO 6 (.mv (kI 2))]
def r159_10 : List AOper := [oM 15 1, oO 16 (.call 168 [(.tmp 15)]), oM 14 16, oO 17 (.extract 0 (.tmp 14)), oO 18 (.extract 1 (.tmp 14)), oM 7 17, oM 8 18]
def r159_12 : List AOper := [oM 20 2, oO 21 (.call 168 [(.tmp 20)]), oM 19 21, oO 22 (.extract 0 (.tmp 19)), oO 23 (.extract 1 (.tmp 19)), oM 9 22, oM 10 23]
def r159_16 : List AOper := [oM 25 8, oO 26 (.pure (oB (.unOp .not 4 (.tmp 25)) 4)), oM 27 26, oG 28 (.mv (.tmp 10)) 27 false, oG 29 (.pure (oB (.unOp .not 4 (.tmp 28)) 4)) 27 false, oO 30 (.pick (.tmp 27) (.const (.bool true)) (.tmp 29)), oM 24 30]
def r159_19 : List AOper := [oO 6 (.mv (kI 27))]
def r159_21 : List AOper := [oM 32 7, oO 33 (.call 132 [(.tmp 32)]), oO 34 (.pure (oB (.unOp .not 4 (.tmp 33)) 4)), oM 35 34, oG 36 (.mv (.tmp 9)) 35 false, oG 37 (.call 169 [(.tmp 36)]) 35 false, oG 38 (.pure (oB (.unOp .not 4 (.tmp 37)) 4)) 35 false, oO 39 (.pick (.tmp 35) (.const (.bool true)) (.tmp 38)), oM 31 39]
def r159_24 : List AOper := [oO 6 (.mv (kI 2))]
def r159_26 : List AOper := [oO 6 (.mv (kI 0))]
def tr159 : List (Nat × Tidy) := [tT 0 [0, 1, 2], tT 1 [1, 2, 13], tT 2 [6], tT 3 [2, 7, 8], tT 4 [7, 8, 9, 10], tT 5 [7, 9, 24], tT 6 [6], tT 7 [31], tT 8 [6], tT 9 [6]]
def tl159 : List (Nat × Tidy) := []
def rs159 : List AResV := [.tmp 6]
def p159_0_0 : PT St := pS [sl 7 (aV false [(cD (dI .i64))]), sl 8 (aV false [(cD dB)]), sl 9 (aV false [(cD (dI .i64))]), sl 10 (aV false [(cD dB)])] []
def u159_0_0 {β : Type} (g : St → β) : Int → Bool → Int → Bool → β := p159_0_0.unc g
def p159_0_1 : PT St := pS [sl 7 (aV false [(cD (dI .i64))]), sl 9 (aV false [(cD (dI .i64))]), sl 24 (aV false [(cD dB)])] []
def u159_0_1 {β : Type} (g : St → β) : Int → Int → Bool → β := p159_0_1.unc g
def pr159_0_0 : PT (List RV) := pRs [pR false [rD (dI .i64)]]
def ur159_0_0 {β : Type} (g : List RV → β) : Int → β := pr159_0_0.unc g
def E159_0g (vf80_0 : Tf80_0) (vf168_0 : Tf168_0) (vf132_0 : Tf132_0) (vf169_0 : Tf169_0) : EnvK := EnvK.of [⟨80, nt80, [⟨pa80_0, Fn80_0 vf80_0⟩]⟩, ⟨168, nt168, [⟨pa168_0, Fn168_0 vf168_0⟩]⟩, ⟨132, nt132, [⟨pa132_0, Fn132_0 vf132_0⟩]⟩, ⟨169, nt169, [⟨pa169_0, Fn169_0 vf169_0⟩]⟩] noSeq
noncomputable def E159_0 : EnvK := E159_0g f80_0 f168_0 f132_0 f169_0
theorem eo159_0 : E159_0.Ok Tryz.prog := EnvK.of_ok noSeq_ok ⟨⟨io80_0, trivial⟩, ⟨io168_0, trivial⟩, ⟨io132_0, trivial⟩, ⟨io169_0, trivial⟩, trivial⟩
noncomputable def c159_0_15g  : MCode := (.region r159_16 [] (tO [7, 9, 24]))
noncomputable def c159_0_15 : MCode := c159_0_15g 
theorem g159_0_15 : c159_0_15.Good Tryz.prog E159_0 sh159 := trivial
--CODE 15 0
abbrev TJ159_0_0 : Type 1 := (α : Type) → Bool → Bool → (Bool → Option α) → Option α
def J159_0_0g  (α : Type) (x10 x12 : Bool) (k1 : Bool → Option α) : Option α :=
 cK (!x10)
 (k1 true)
 (k1 (!x12))
noncomputable def J159_0_0 (α : Type) (x10 x12 : Bool) (k1 : Bool → Option α) : Option α := J159_0_0g  α x10 x12 k1
def F159_0_0 (v : TJ159_0_0) (α : Type) (K : Exit → St → Option α) : Int → Bool → Int → Bool → Option α := fun x9 x10 x11 x12 => v α x10 x12 (fun (y1 : Bool) => u159_0_1 (K .normal) x9 x11 y1) 
theorem m159_0_0g (vf80_0 : Tf80_0) (vf168_0 : Tf168_0) (vf132_0 : Tf132_0) (vf169_0 : Tf169_0)  (α : Type) (K : Exit → St → Option α) : F159_0_0 (J159_0_0g ) α K = p159_0_0.unc fun σ => runM Tryz.prog (E159_0g vf80_0 vf168_0 vf132_0 vf169_0) sh159 (c159_0_15g ) K σ := by kernel_rfl
theorem m159_0_0 : ∀ (α : Type) (K : Exit → St → Option α), F159_0_0 J159_0_0 α K = p159_0_0.unc fun σ => runM Tryz.prog E159_0 sh159 c159_0_15 K σ := m159_0_0g f80_0 f168_0 f132_0 f169_0
abbrev Tf159_0 : Type 1 := (α : Type) → Int → Nat → Nat → (Int → Option α) → Option α
def f159_0g (vJ159_0_0 : TJ159_0_0) (vf132_0 : Tf132_0) (vf168_0 : Tf168_0) (vf169_0 : Tf169_0) (vf80_0 : Tf80_0) (α : Type) (x1 : Int) (x2 x3 : Nat) (k1 : Int → Option α) : Option α :=
 vf80_0 α x1
 (fun x4 => cK (!x4)
 (k1 2)
 (vf168_0 α x2
 (fun x5 x6 => vf168_0 α x3
 (fun x7 x8 => vJ159_0_0 α x6 x8
 (fun x14 => cK x14
 (k1 27)
 (vf132_0 α x5
 (fun x16 => cK (!x16)
 (k1 2)
 (vf169_0 α x7
 (fun x17 => cK (!x17)
 (k1 2)
 (k1 0))))))))))
noncomputable def f159_0 (α : Type) (x1 : Int) (x2 x3 : Nat) (k1 : Int → Option α) : Option α := f159_0g J159_0_0 f132_0 f168_0 f169_0 f80_0 α x1 x2 x3 k1
def pa159_0 : PT (List DV) := pA [pV false [(dI .i64)], pV false [(dF .f32)], pV false [(dF .f32)]]
def Fn159_0 (v : Tf159_0) (α : Type) (k : List RV → Option α) : Int → Nat → Nat → Option α := fun x1 x2 x3 => v α x1 x2 x3 (fun (y1 : Int) => ur159_0_0 k y1)
noncomputable def cm159_0g (vJ159_0_0 : TJ159_0_0) : MCode := (.seq (.region r159_2 [] (tO [0, 1, 2])) (.seq (.seq (.region r159_5 [] (tO [1, 2, 13])) (.cond (.tmp 13) (.seq (.region r159_8 [] (tO [6])) .ret) .skip)) (.seq (.region r159_10 [] (tO [2, 7, 8])) (.seq (.region r159_12 [] (tO [7, 8, 9, 10])) (.seq (.block 0 (.seq (.mark [⟨p159_0_0, F159_0_0 vJ159_0_0⟩] c159_0_15) (.cond (.tmp 24) (.seq (.region r159_19 [] (tO [6])) .ret) (.seq (.region r159_21 [] (tO [31])) (.cond (.tmp 31) (.seq (.region r159_24 [] (tO [6])) .ret) .skip))))) (.seq (.region r159_26 [] (tO [6])) .ret))))))
noncomputable def cm159_0 : MCode := cm159_0g J159_0_0
theorem gm159_0 : cm159_0.Good Tryz.prog E159_0 sh159 := ⟨trivial, ⟨⟨trivial, ⟨⟨trivial, trivial⟩, trivial⟩⟩, ⟨trivial, ⟨trivial, ⟨⟨⟨g159_0_15, m159_0_0, trivial⟩, ⟨⟨trivial, trivial⟩, ⟨trivial, ⟨⟨trivial, trivial⟩, trivial⟩⟩⟩⟩, ⟨trivial, trivial⟩⟩⟩⟩⟩⟩
theorem fm159_0g (vf80_0 : Tf80_0) (vf168_0 : Tf168_0) (vf132_0 : Tf132_0) (vf169_0 : Tf169_0) (vJ159_0_0 : TJ159_0_0) (α : Type) (k : List RV → Option α) : Fn159_0 (f159_0g vJ159_0_0 vf132_0 vf168_0 vf169_0 vf80_0) α k = pa159_0.unc fun ds => fnM Tryz.prog (E159_0g vf80_0 vf168_0 vf132_0 vf169_0) sh159 (cm159_0g vJ159_0_0) rs159 k ds := by kernel_rfl
theorem fm159_0 : ∀ (α : Type) (k : List RV → Option α), Fn159_0 f159_0 α k = pa159_0.unc fun ds => fnM Tryz.prog E159_0 sh159 cm159_0 rs159 k ds := fm159_0g f80_0 f168_0 f132_0 f169_0 J159_0_0
theorem is159 : FnIs Tryz.prog 159 nt159 tr159 tl159 cm159_0.erase rs159 := ⟨Tryz.f159, Tryz.func159, rfl, by kernel_rfl, by kernel_rfl, by kernel_rfl⟩
theorem io159_0 : InstOk Tryz.prog 159 nt159 ⟨pa159_0, Fn159_0 f159_0⟩ := inst_ok eo159_0 followsTry is159 ⟨⟨sh159, cm159_0, by kernel_rfl, gm159_0, fm159_0⟩⟩
abbrev nt94 : Nat := 25
def sh94 : List (Nat × List Sh) := [(8, [.cpx .f64]), (16, [.int .i64]), (20, [.int .i64, .int .i64]), (22, [.int .i64])]
def r94_2 : List AOper := [oO 1 (.box (.tmp 0)), oO 2 (.alloc [(cI 0), (cI 0), (cI 0)]), oO 3 (.mv (kI 0))]
def r94_4 : List AOper := [oO 7 (.faddr 0 (.tmp 1)), oO 8 (.load false 1 (.tmp 7)), oO 9 (.call 95 [(.tmp 8), (.const (.float Go.FloatKind.f64 4724276009111650304))]), oM 6 9, oO 10 (.extract 0 (.tmp 6)), oO 11 (.extract 1 (.tmp 6)), oO 4 (.alloc [(cI 0), (cI 0)]), oD (.store 2 (.tmp 4) (.tmp 10)), oM 5 11]
def r94_7 : List AOper := [oM 12 5, oO 13 (.bin .eql 26 (.tmp 12) (kI 0)), oM 14 13, oG 15 (.faddr 1 (.tmp 1)) 14 true, oG 16 (.load false 1 (.tmp 15)) 14 true, oG 17 (.call 127 [(.tmp 16), (kI 0), (kI 67108864)]) 14 true, oG 18 (.pure (oB (.unOp .not 4 (.tmp 17)) 4)) 14 true, oO 19 (.pick (.tmp 14) (.tmp 18) (.const (.bool false)))]
def r94_9 : List AOper := [oO 5 (.mv (kI 2))]
def r94_11 : List AOper := [oO 20 (.load true 2 (.tmp 4)), oO 21 (.faddr 1 (.tmp 1)), oO 22 (.load false 1 (.tmp 21)), oO 23 (.build [(cI 0), (cI 0), (cI 0)] [(0, 2, (.tmp 20)), (2, 1, (.tmp 22))]), oM 24 5, oD (.store 3 (.tmp 2) (.tmp 23)), oM 3 24]
def tr94 : List (Nat × Tidy) := [tT 0 [1, 2], tT 1 [1, 2, 4, 5], tT 2 [1, 2, 4, 5, 19], tT 3 [1, 2, 4, 5], tT 4 [2, 3]]
def tl94 : List (Nat × Tidy) := []
def rs94 : List AResV := [.cell 2 true 3, .tmp 3]
def p94_0_0 : PT St := pS [sl 1 (aV false [(cPtr 1 0)]), sl 2 (aV false [(cPtr 2 0)]), sl 4 (aV false [(cPtr 4 0)]), sl 5 (aV false [(cD (dI .i64))])] [eBox 1 [(cD (dX .f64)), (cD (dI .i64))], eBox 2 [(cD (dI .i64)), (cD (dI .i64)), (cD (dI .i64))], eBox 4 [(cD (dI .i64)), (cD (dI .i64))]]
def u94_0_0 {β : Type} (g : St → β) : Int → Nat → Nat → Int → Int → Int → Int → Int → Int → β := p94_0_0.unc g
def p94_0_1 : PT St := pS [sl 1 (aV false [(cPtr 1 0)]), sl 2 (aV false [(cPtr 2 0)]), sl 4 (aV false [(cPtr 4 0)]), sl 5 (aV false [(cD (dI .i64))]), sl 19 (aV false [(cD dB)])] [eBox 1 [(cD (dX .f64)), (cD (dI .i64))], eBox 2 [(cD (dI .i64)), (cD (dI .i64)), (cD (dI .i64))], eBox 4 [(cD (dI .i64)), (cD (dI .i64))]]
def u94_0_1 {β : Type} (g : St → β) : Int → Bool → Nat → Nat → Int → Int → Int → Int → Int → Int → β := p94_0_1.unc g
def pr94_0_0 : PT (List RV) := pRs [pR true [rD (dI .i64), rD (dI .i64), rD (dI .i64)], pR false [rD (dI .i64)]]
def ur94_0_0 {β : Type} (g : List RV → β) : Int → Int → Int → Int → β := pr94_0_0.unc g
def E94_0g (vf95_0 : Tf95_0) (vf127_0 : Tf127_0) : EnvK := EnvK.of [⟨95, nt95, [⟨pa95_0, Fn95_0 vf95_0⟩]⟩, ⟨127, nt127, [⟨pa127_0, Fn127_0 vf127_0⟩]⟩] noSeq
noncomputable def E94_0 : EnvK := E94_0g f95_0 f127_0
theorem eo94_0 : E94_0.Ok Tryz.prog := EnvK.of_ok noSeq_ok ⟨⟨io95_0, trivial⟩, ⟨io127_0, trivial⟩, trivial⟩
noncomputable def c94_0_5g  : MCode := (.seq (.region r94_7 [] (tO [1, 2, 4, 5, 19])) (.cond (.tmp 19) (.region r94_9 [] (tO [1, 2, 4, 5])) .skip))
noncomputable def c94_0_5 : MCode := c94_0_5g 
theorem g94_0_5 : c94_0_5.Good Tryz.prog E94_0 sh94 := ⟨trivial, ⟨trivial, trivial⟩⟩
--CODE 5 0
abbrev TJ94_0_0 : Type 1 := (α : Type) → Int → Int → (Option α) → (Bool → Option α) → Option α
def J94_0_0g (vf127_0 : Tf127_0) (α : Type) (x7 x10 : Int) (k1 : Option α) (k2 : Bool → Option α) : Option α :=
 cK (x7 == 0)
 (vf127_0 α x10 0 67108864
 (fun x17 => cK (!x17)
 (k1)
 (k2 (!x17))))
 (k2 false)
noncomputable def J94_0_0 (α : Type) (x7 x10 : Int) (k1 : Option α) (k2 : Bool → Option α) : Option α := J94_0_0g f127_0 α x7 x10 k1 k2
def F94_0_0 (v : TJ94_0_0) (α : Type) (K : Exit → St → Option α) : Int → Nat → Nat → Int → Int → Int → Int → Int → Int → Option α := fun x7 x8 x9 x10 x11 x12 x13 x14 x15 => v α x7 x10 (u94_0_0 (K .normal) 2 x8 x9 x10 x11 x12 x13 x14 x15) (fun (y1 : Bool) => u94_0_1 (K .normal) x7 y1 x8 x9 x10 x11 x12 x13 x14 x15) 
theorem m94_0_0g (vf95_0 : Tf95_0) (vf127_0 : Tf127_0)  (α : Type) (K : Exit → St → Option α) : F94_0_0 (J94_0_0g vf127_0) α K = p94_0_0.unc fun σ => runM Tryz.prog (E94_0g vf95_0 vf127_0) sh94 (c94_0_5g ) K σ := by kernel_rfl
theorem m94_0_0 : ∀ (α : Type) (K : Exit → St → Option α), F94_0_0 J94_0_0 α K = p94_0_0.unc fun σ => runM Tryz.prog E94_0 sh94 c94_0_5 K σ := m94_0_0g f95_0 f127_0
abbrev Tf94_0 : Type 1 := (α : Type) → Nat → Nat → Int → (Int → Int → Int → Int → Option α) → Option α
def f94_0g (vJ94_0_0 : TJ94_0_0) (vf95_0 : Tf95_0) (α : Type) (x1 x2 : Nat) (x3 : Int) (k1 : Int → Int → Int → Int → Option α) : Option α :=
 vf95_0 α x1 x2 4724276009111650304
 (fun x4 x5 x6 => vJ94_0_0 α x6 x3
 (k1 x4 x5 x3 2)
 (fun x18 => k1 x4 x5 x3 x6))
noncomputable def f94_0 (α : Type) (x1 x2 : Nat) (x3 : Int) (k1 : Int → Int → Int → Int → Option α) : Option α := f94_0g J94_0_0 f95_0 α x1 x2 x3 k1
def pa94_0 : PT (List DV) := pA [pV true [(dX .f64), (dI .i64)]]
def Fn94_0 (v : Tf94_0) (α : Type) (k : List RV → Option α) : Nat → Nat → Int → Option α := fun x1 x2 x3 => v α x1 x2 x3 (fun (y1 : Int) (y2 : Int) (y3 : Int) (y4 : Int) => ur94_0_0 k y1 y2 y3 y4)
noncomputable def cm94_0g (vJ94_0_0 : TJ94_0_0) : MCode := (.seq (.region r94_2 [] (tO [1, 2])) (.seq (.region r94_4 [] (tO [1, 2, 4, 5])) (.seq (.mark [⟨p94_0_0, F94_0_0 vJ94_0_0⟩] c94_0_5) (.seq (.region r94_11 [] (tO [2, 3])) .ret))))
noncomputable def cm94_0 : MCode := cm94_0g J94_0_0
theorem gm94_0 : cm94_0.Good Tryz.prog E94_0 sh94 := ⟨trivial, ⟨trivial, ⟨⟨g94_0_5, m94_0_0, trivial⟩, ⟨trivial, trivial⟩⟩⟩⟩
theorem fm94_0g (vf95_0 : Tf95_0) (vf127_0 : Tf127_0) (vJ94_0_0 : TJ94_0_0) (α : Type) (k : List RV → Option α) : Fn94_0 (f94_0g vJ94_0_0 vf95_0) α k = pa94_0.unc fun ds => fnM Tryz.prog (E94_0g vf95_0 vf127_0) sh94 (cm94_0g vJ94_0_0) rs94 k ds := by kernel_rfl
theorem fm94_0 : ∀ (α : Type) (k : List RV → Option α), Fn94_0 f94_0 α k = pa94_0.unc fun ds => fnM Tryz.prog E94_0 sh94 cm94_0 rs94 k ds := fm94_0g f95_0 f127_0 J94_0_0
theorem is94 : FnIs Tryz.prog 94 nt94 tr94 tl94 cm94_0.erase rs94 := ⟨Tryz.f94, Tryz.func94, rfl, by kernel_rfl, by kernel_rfl, by kernel_rfl⟩
theorem io94_0 : InstOk Tryz.prog 94 nt94 ⟨pa94_0, Fn94_0 f94_0⟩ := inst_ok eo94_0 followsTry is94 ⟨⟨sh94, cm94_0, by kernel_rfl, gm94_0, fm94_0⟩⟩
abbrev nt142 : Nat := 78
def sh142 : List (Nat × List Sh) := [(9, [.int .i64, .int .i64]), (14, [.sl]), (19, [.sl]), (22, [.sl]), (28, [.sl]), (31, [.sl]), (37, [.sl]), (41, [.sl]), (46, [.int .i64]), (47, [.int .i64]), (50, [.sl]), (52, [.flt .f32]), (53, [.flt .f32]), (55, [.sl]), (57, [.flt .f32]), (58, [.flt .f32]), (69, [.sl]), (72, [.int .i64]), (73, [.int .i64])]
def r142_2 : List AOper := [oO 1 (.box (.tmp 0)), oO 2 (.mv (kI 0)), oO 3 (.mv (kI 0))]
def r142_6 : List AOper := [oO 8 (.faddr 5 (.tmp 1)), oO 9 (.load true 2 (.tmp 8)), oO 10 (.build [(cI 0), (cI 0)] []), oO 11 (.bin .neq 36 (.tmp 9) (.tmp 10)), oM 7 11]
def r142_9 : List AOper := [oO 2 (.mv (kI 0)), oO 3 (.mv (kI 13))]
def r142_11 : List AOper := [oO 13 (.faddr 2 (.tmp 1)), oO 14 (.load false 1 (.tmp 13)), oO 15 (.len (.tmp 14)), oO 16 (.bin .eql 3 (.tmp 15) (kI 0)), oM 17 16, oG 18 (.faddr 3 (.tmp 1)) 17 false, oG 19 (.load false 1 (.tmp 18)) 17 false, oG 20 (.len (.tmp 19)) 17 false, oG 21 (.faddr 2 (.tmp 1)) 17 false, oG 22 (.load false 1 (.tmp 21)) 17 false, oG 23 (.len (.tmp 22)) 17 false, oG 24 (.bin .neq 3 (.tmp 20) (.tmp 23)) 17 false, oO 25 (.pick (.tmp 17) (.const (.bool true)) (.tmp 24)), oM 26 25, oG 27 (.faddr 4 (.tmp 1)) 26 false, oG 28 (.load false 1 (.tmp 27)) 26 false, oG 29 (.len (.tmp 28)) 26 false, oG 30 (.faddr 2 (.tmp 1)) 26 false, oG 31 (.load false 1 (.tmp 30)) 26 false, oG 32 (.len (.tmp 31)) 26 false, oG 33 (.bin .neq 3 (.tmp 29) (.tmp 32)) 26 false, oO 34 (.pick (.tmp 26) (.const (.bool true)) (.tmp 33)), oM 12 34]
def r142_14 : List AOper := [oO 2 (.mv (kI 0)), oO 3 (.mv (kI 12))]
def r142_16 : List AOper := [oO 36 (.faddr 2 (.tmp 1)), oO 37 (.load false 1 (.tmp 36)), oO 38 (.len (.tmp 37)), oO 39 (.bin .gtr 3 (.tmp 38) (kI 64)), oM 35 39]
def r142_19 : List AOper := [oO 2 (.mv (kI 0)), oO 3 (.mv (kI 8))]
def r142_22 : List AOper := [oO 40 (.faddr 2 (.tmp 1)), oO 41 (.load false 1 (.tmp 40)), oO 42 (.len (.tmp 41)), oO 43 (.mv (kI 0))]
def td142_24 : Option Tidy := (some ⟨[1, 41, 42, 43], true, [⟨false, 41, 0, 20041, 1⟩, ⟨true, 1, 2, 30102, 1⟩, ⟨true, 1, 3, 30103, 1⟩, ⟨true, 1, 4, 30104, 1⟩], []⟩)
def r142_26 : List AOper := [oO 44 (.bin .lss 3 (.tmp 43) (.tmp 42))]
def r142_32 : List AOper := [oM 45 43, oO 46 (.iaddr 1 none (.tmp 41) (.tmp 43)), oO 47 (.load false 1 (.tmp 46)), oM 4 45, oM 5 47]
def r142_35 : List AOper := [oM 48 5, oO 49 (.faddr 3 (.tmp 1)), oO 50 (.load false 1 (.tmp 49)), oM 51 4, oO 52 (.iaddr 1 none (.tmp 50) (.tmp 51)), oO 53 (.load false 1 (.tmp 52)), oO 54 (.faddr 4 (.tmp 1)), oO 55 (.load false 1 (.tmp 54)), oM 56 4, oO 57 (.iaddr 1 none (.tmp 55) (.tmp 56)), oO 58 (.load false 1 (.tmp 57)), oO 59 (.call 159 [(.tmp 48), (.tmp 53), (.tmp 58)]), oM 6 59]
def r142_37 : List AOper := [oM 60 6, oO 61 (.bin .neq 26 (.tmp 60) (kI 0))]
def r142_40 : List AOper := [oM 62 4, oM 63 6, oM 2 62, oM 3 63]
def r142_42 : List AOper := [oM 64 4, oO 65 (.bin .gtr 3 (.tmp 64) (kI 0)), oM 66 65, oG 67 (.mv (.tmp 5)) 66 true, oG 68 (.faddr 2 (.tmp 1)) 66 true, oG 69 (.load false 1 (.tmp 68)) 66 true, oG 70 (.mv (.tmp 4)) 66 true, oG 71 (.bin .sub 3 (.tmp 70) (kI 1)) 66 true, oG 72 (.iaddr 1 none (.tmp 69) (.tmp 71)) 66 true, oG 73 (.load false 1 (.tmp 72)) 66 true, oG 74 (.bin .leq 3 (.tmp 67) (.tmp 73)) 66 true, oO 75 (.pick (.tmp 66) (.tmp 74) (.const (.bool false)))]
def r142_45 : List AOper := [oM 76 4, oM 2 76, oO 3 (.mv (kI 10))]
def r142_46 : List AOper := [oO 77 (.bin .add 3 (.tmp 43) (kI 1)), oM 43 77]
def r142_48 : List AOper := [oO 2 (.mv (kI 0)), oO 3 (.mv (kI 0))]
def tr142 : List (Nat × Tidy) := [tT 0 [1], tT 1 [1, 7], tT 2 [2, 3], tT 3 [1, 12], tT 4 [2, 3], tT 5 [1, 35], tT 6 [2, 3], tT 7 [1, 41, 42, 43], tT 8 [1, 41, 42, 43, 44], tT 9 [1, 4, 5, 41, 42, 43], tT 10 [1, 4, 5, 6, 41, 42, 43], tT 11 [1, 4, 5, 6, 41, 42, 43, 61], tT 12 [2, 3], tT 13 [1, 4, 41, 42, 43, 75], tT 14 [2, 3], tT 15 [1, 41, 42, 43], tT 16 [2, 3]]
def tl142 : List (Nat × Tidy) := [(8, ⟨[1, 41, 42, 43], true, [⟨false, 41, 0, 20041, 1⟩, ⟨true, 1, 2, 30102, 1⟩, ⟨true, 1, 3, 30103, 1⟩, ⟨true, 1, 4, 30104, 1⟩], []⟩)]
def rs142 : List AResV := [.tmp 2, .tmp 3]
def p142_0_0 : PT St := pS [sl 1 (aV false [(cPtr 1 0)]), sl 7 (aV false [(cD dB)])] [eBox 1 [(cD dS), (cD (dI .i64)), (cD dL), (cD dL), (cD dL), (cD (dI .i64)), (cD (dI .i64))]]
def u142_0_0 {β : Type} (g : St → β) : Bool → ByteArray → Int → Rows → Rows → Rows → Int → Int → β := p142_0_0.unc g
def p142_0_1 : PT St := pS [sl 1 (aV false [(cPtr 1 0)]), sl 12 (aV false [(cD dB)])] [eBox 1 [(cD dS), (cD (dI .i64)), (cD dL), (cD dL), (cD dL), (cD (dI .i64)), (cD (dI .i64))]]
def u142_0_1 {β : Type} (g : St → β) : Bool → ByteArray → Int → Rows → Rows → Rows → Int → Int → β := p142_0_1.unc g
def p142_0_2 : PT St := pS [sl 1 (aV false [(cPtr 1 0)]), sl 41 (aV false [(cD dL)]), sl 42 (aV false [(cD (dI .i64))]), sl 43 (aV false [(cD (dI .i64))])] [eBox 1 [(cD dS), (cD (dI .i64)), (cD dL), (cD dL), (cD dL), (cD (dI .i64)), (cD (dI .i64))]]
def u142_0_2 {β : Type} (g : St → β) : Rows → Int → Int → ByteArray → Int → Rows → Rows → Rows → Int → Int → β := p142_0_2.unc g
def p142_0_3 : PT St := pS [sl 2 (aV false [(cD (dI .i64))]), sl 3 (aV false [(cD (dI .i64))])] []
def u142_0_3 {β : Type} (g : St → β) : Int → Int → β := p142_0_3.unc g
def p142_0_4 : PT St := pS [sl 1 (aV false [(cPtr 1 0)]), sl 41 (aV false [(cD dL)]), sl 42 (aV false [(cD (dI .i64))]), sl 43 (aV false [(cD (dI .i64))]), sl 44 (aV false [(cD dB)])] [eBox 1 [(cD dS), (cD (dI .i64)), (cD dL), (cD dL), (cD dL), (cD (dI .i64)), (cD (dI .i64))]]
def u142_0_4 {β : Type} (g : St → β) : Rows → Int → Int → Bool → ByteArray → Int → Rows → Rows → Rows → Int → Int → β := p142_0_4.unc g
def pr142_0_0 : PT (List RV) := pRs [pR false [rD (dI .i64)], pR false [rD (dI .i64)]]
def ur142_0_0 {β : Type} (g : List RV → β) : Int → Int → β := pr142_0_0.unc g
def E142_0g (vf159_0 : Tf159_0) : EnvK := EnvK.of [⟨159, nt159, [⟨pa159_0, Fn159_0 vf159_0⟩]⟩] noSeq
noncomputable def E142_0 : EnvK := E142_0g f159_0
theorem eo142_0 : E142_0.Ok Tryz.prog := EnvK.of_ok noSeq_ok ⟨⟨io159_0, trivial⟩, trivial⟩
noncomputable def c142_0_24g  : MCode := (.seq (.region r142_26 [] (tO [1, 41, 42, 43, 44])) (.seq (.cond (.tmp 44) .skip (.exit 1)) (.seq (.block 2 (.seq (.region r142_32 [] (tO [1, 4, 5, 41, 42, 43])) (.seq (.seq (.region r142_35 [] (tO [1, 4, 5, 6, 41, 42, 43])) (.seq (.region r142_37 [] (tO [1, 4, 5, 6, 41, 42, 43, 61])) (.cond (.tmp 61) (.seq (.region r142_40 [] (tO [2, 3])) .ret) .skip))) (.seq (.region r142_42 [] (tO [1, 4, 41, 42, 43, 75])) (.cond (.tmp 75) (.seq (.region r142_45 [] (tO [2, 3])) .ret) .skip))))) (.region r142_46 [] (tO [1, 41, 42, 43])))))
noncomputable def c142_0_24 : MCode := c142_0_24g 
theorem g142_0_24 : c142_0_24.Good Tryz.prog E142_0 sh142 := ⟨trivial, ⟨⟨trivial, trivial⟩, ⟨⟨trivial, ⟨⟨trivial, ⟨trivial, ⟨⟨trivial, trivial⟩, trivial⟩⟩⟩, ⟨trivial, ⟨⟨trivial, trivial⟩, trivial⟩⟩⟩⟩, trivial⟩⟩⟩
--CODE 24 0
def S142_0_1g (vf159_0 : Tf159_0) (α : Type) (x19 : Rows) (x20 : Int) (x24 x25 x26 : Rows) (x21 : Int) (kn : Int → Option α) (k1 : Int → Int → Option α) (k2 : Int → Bool → Option α) : Option α :=
 cK (decide (x21 < x20))
 (rowK x19 x21 [.int .i64]
 (fun x30 => rowK x25 x21 [.flt .f32]
 (fun x31 => rowK x26 x21 [.flt .f32]
 (fun x32 => vf159_0 α x30 x31 x32
 (fun x33 => cK (x33 != 0)
 (k1 x21 x33)
 (cK (decide (0 < x21))
 (rowK x24 (w64 (x21 - 1)) [.int .i64]
 (fun x34 => cK (decide (x30 ≤ x34))
 (k1 x21 10)
 (kn (w64 (x21 + 1)))))
 (kn (w64 (x21 + 1)))))))))
 (k2 x21 (decide (x21 < x20)))
noncomputable def S142_0_1 (α : Type) (x19 : Rows) (x20 : Int) (x24 x25 x26 : Rows) (x21 : Int) (kn : Int → Option α) (k1 : Int → Int → Option α) (k2 : Int → Bool → Option α) : Option α := S142_0_1g f159_0 α x19 x20 x24 x25 x26 x21 kn k1 k2
noncomputable def R142_0_1 (α : Type) (x19 : Rows) (x20 : Int) (x24 x25 x26 : Rows) (k1 : Int → Int → Option α) (k2 : Int → Bool → Option α) : Nat → Int → Option α
 | 0, _ => none
 | n + 1, x21 => S142_0_1 α x19 x20 x24 x25 x26 x21 (R142_0_1 α x19 x20 x24 x25 x26 k1 k2 n) k1 k2
noncomputable def L142_0_1 (α : Type) (x19 : Rows) (x20 : Int) (x24 x25 x26 : Rows) (k1 : Int → Int → Option α) (k2 : Int → Bool → Option α) (x21 : Int) : Option α := R142_0_1 α x19 x20 x24 x25 x26 k1 k2 fuel x21
abbrev TL142_0_1 : Type 1 := (α : Type) → Rows → Int → Rows → Rows → Rows → (Int → Int → Option α) → (Int → Bool → Option α) → Int → Option α
def F142_0_1 (v : TL142_0_1) (α : Type) (K : Exit → St → Option α) : Rows → Int → Int → ByteArray → Int → Rows → Rows → Rows → Int → Int → Option α := fun x19 x20 x21 x22 x23 x24 x25 x26 x27 x28 => v α x19 x20 x24 x25 x26 (fun (y1 : Int) (y2 : Int) => u142_0_3 (K .ret) y1 y2) (fun (y1 : Int) (y2 : Bool) => u142_0_4 (K (.exit 1)) x19 x20 y1 y2 x22 x23 x24 x25 x26 x27 x28) x21
theorem r142_0_1g (vf159_0 : Tf159_0)  (α : Type) (K : Exit → St → Option α) (Kn : St → Option α) (x19 : Rows) (x20 x21 : Int) (x22 : ByteArray) (x23 : Int) (x24 x25 x26 : Rows) (x27 x28 : Int) : u142_0_2 (fun σ => runM Tryz.prog (E142_0g vf159_0) sh142 (c142_0_24g ) (thenK (fun σ => tidyK td142_24 σ Kn) K) σ) x19 x20 x21 x22 x23 x24 x25 x26 x27 x28 = S142_0_1g vf159_0 α x19 x20 x24 x25 x26 x21 (fun x21 => u142_0_2 Kn x19 x20 x21 x22 x23 x24 x25 x26 x27 x28) (fun (y1 : Int) (y2 : Int) => u142_0_3 (K .ret) y1 y2) (fun (y1 : Int) (y2 : Bool) => u142_0_4 (K (.exit 1)) x19 x20 y1 y2 x22 x23 x24 x25 x26 x27 x28) := by kernel_rfl
theorem r142_0_1 (α : Type) (K : Exit → St → Option α) (Kn : St → Option α) (x19 : Rows) (x20 x21 : Int) (x22 : ByteArray) (x23 : Int) (x24 x25 x26 : Rows) (x27 x28 : Int) : u142_0_2 (fun σ => runM Tryz.prog E142_0 sh142 c142_0_24 (thenK (fun σ => tidyK td142_24 σ Kn) K) σ) x19 x20 x21 x22 x23 x24 x25 x26 x27 x28 = S142_0_1 α x19 x20 x24 x25 x26 x21 (fun x21 => u142_0_2 Kn x19 x20 x21 x22 x23 x24 x25 x26 x27 x28) (fun (y1 : Int) (y2 : Int) => u142_0_3 (K .ret) y1 y2) (fun (y1 : Int) (y2 : Bool) => u142_0_4 (K (.exit 1)) x19 x20 y1 y2 x22 x23 x24 x25 x26 x27 x28) := r142_0_1g f159_0 α K Kn x19 x20 x21 x22 x23 x24 x25 x26 x27 x28
theorem t142_0_1 (α : Type) (K : Exit → St → Option α) : ∀ (n : Nat) (x19 : Rows) (x20 x21 : Int) (x22 : ByteArray) (x23 : Int) (x24 x25 x26 : Rows) (x27 x28 : Int), R142_0_1 α x19 x20 x24 x25 x26 (fun (y1 : Int) (y2 : Int) => u142_0_3 (K .ret) y1 y2) (fun (y1 : Int) (y2 : Bool) => u142_0_4 (K (.exit 1)) x19 x20 y1 y2 x22 x23 x24 x25 x26 x27 x28) n x21 = u142_0_2 (loopT (runM Tryz.prog E142_0 sh142 c142_0_24) td142_24 K n) x19 x20 x21 x22 x23 x24 x25 x26 x27 x28 := by
 intro n
 induction n with
 | zero => intros; rfl
 | succ n ih => intro x19 x20 x21 x22 x23 x24 x25 x26 x27 x28; exact (congrArg (fun kn => S142_0_1 α x19 x20 x24 x25 x26 x21 kn (fun (y1 : Int) (y2 : Int) => u142_0_3 (K .ret) y1 y2) (fun (y1 : Int) (y2 : Bool) => u142_0_4 (K (.exit 1)) x19 x20 y1 y2 x22 x23 x24 x25 x26 x27 x28)) (funext fun x21 => ih x19 x20 x21 x22 x23 x24 x25 x26 x27 x28)).trans (r142_0_1 α K (loopT (runM Tryz.prog E142_0 sh142 c142_0_24) td142_24 K n) x19 x20 x21 x22 x23 x24 x25 x26 x27 x28).symm
theorem m142_0_1 : ∀ (α : Type) (K : Exit → St → Option α), F142_0_1 L142_0_1 α K = p142_0_2.unc fun σ => loopT (runM Tryz.prog E142_0 sh142 c142_0_24) td142_24 K fuel σ := fun α K => funext fun x19 => funext fun x20 => funext fun x21 => funext fun x22 => funext fun x23 => funext fun x24 => funext fun x25 => funext fun x26 => funext fun x27 => funext fun x28 => t142_0_1 α K fuel x19 x20 x21 x22 x23 x24 x25 x26 x27 x28
noncomputable def c142_0_10g  : MCode := (.region r142_11 [] (tO [1, 12]))
noncomputable def c142_0_10 : MCode := c142_0_10g 
theorem g142_0_10 : c142_0_10.Good Tryz.prog E142_0 sh142 := trivial
--CODE 10 0
abbrev TJ142_0_0 : Type 1 := (α : Type) → Rows → Rows → Rows → (Bool → Option α) → Option α
def J142_0_0g  (α : Type) (x11 x12 x13 : Rows) (k1 : Bool → Option α) : Option α :=
 cK (((List.length x11 : Nat) : Int) == 0)
 (k1 true)
 (cK (((List.length x12 : Nat) : Int) != ((List.length x11 : Nat) : Int))
 (k1 true)
 (k1 (((List.length x13 : Nat) : Int) != ((List.length x11 : Nat) : Int))))
noncomputable def J142_0_0 (α : Type) (x11 x12 x13 : Rows) (k1 : Bool → Option α) : Option α := J142_0_0g  α x11 x12 x13 k1
def F142_0_0 (v : TJ142_0_0) (α : Type) (K : Exit → St → Option α) : Bool → ByteArray → Int → Rows → Rows → Rows → Int → Int → Option α := fun x8 x9 x10 x11 x12 x13 x14 x15 => v α x11 x12 x13 (fun (y1 : Bool) => u142_0_1 (K .normal) y1 x9 x10 x11 x12 x13 x14 x15) 
theorem m142_0_0g (vf159_0 : Tf159_0)  (α : Type) (K : Exit → St → Option α) : F142_0_0 (J142_0_0g ) α K = p142_0_0.unc fun σ => runM Tryz.prog (E142_0g vf159_0) sh142 (c142_0_10g ) K σ := by kernel_rfl
theorem m142_0_0 : ∀ (α : Type) (K : Exit → St → Option α), F142_0_0 J142_0_0 α K = p142_0_0.unc fun σ => runM Tryz.prog E142_0 sh142 c142_0_10 K σ := m142_0_0g f159_0
abbrev Tf142_0 : Type 1 := (α : Type) → ByteArray → Int → Rows → Rows → Rows → Int → Int → (Int → Int → Option α) → Option α
def f142_0g (vJ142_0_0 : TJ142_0_0) (vL142_0_1 : TL142_0_1) (α : Type) (x1 : ByteArray) (x2 : Int) (x3 x4 x5 : Rows) (x6 x7 : Int) (k1 : Int → Int → Option α) : Option α :=
 cK (!((x6 == 0) && ((x7 == 0) && true)))
 (k1 0 13)
 (vJ142_0_0 α x3 x4 x5
 (fun x17 => cK x17
 (k1 0 12)
 (cK (decide (64 < ((List.length x3 : Nat) : Int)))
 (k1 0 8)
 (vL142_0_1 α x3 ((List.length x3 : Nat) : Int) x3 x4 x5
 (fun x35 x36 => k1 x35 x36)
 (fun x37 x38 => k1 0 0) 0))))
noncomputable def f142_0 (α : Type) (x1 : ByteArray) (x2 : Int) (x3 x4 x5 : Rows) (x6 x7 : Int) (k1 : Int → Int → Option α) : Option α := f142_0g J142_0_0 L142_0_1 α x1 x2 x3 x4 x5 x6 x7 k1
def pa142_0 : PT (List DV) := pA [pV true [dS, (dI .i64), dL, dL, dL, (dI .i64), (dI .i64)]]
def Fn142_0 (v : Tf142_0) (α : Type) (k : List RV → Option α) : ByteArray → Int → Rows → Rows → Rows → Int → Int → Option α := fun x1 x2 x3 x4 x5 x6 x7 => v α x1 x2 x3 x4 x5 x6 x7 (fun (y1 : Int) (y2 : Int) => ur142_0_0 k y1 y2)
noncomputable def cm142_0g (vJ142_0_0 : TJ142_0_0) (vL142_0_1 : TL142_0_1) : MCode := (.seq (.region r142_2 [] (tO [1])) (.seq (.block 0 (.seq (.region r142_6 [] (tO [1, 7])) (.cond (.tmp 7) (.seq (.region r142_9 [] (tO [2, 3])) .ret) (.seq (.mark [⟨p142_0_0, F142_0_0 vJ142_0_0⟩] c142_0_10) (.cond (.tmp 12) (.seq (.region r142_14 [] (tO [2, 3])) .ret) (.seq (.region r142_16 [] (tO [1, 35])) (.cond (.tmp 35) (.seq (.region r142_19 [] (tO [2, 3])) .ret) .skip))))))) (.seq (.seq (.region r142_22 [] (tO [1, 41, 42, 43])) (.block 1 (.loop td142_24 [⟨p142_0_2, F142_0_1 vL142_0_1⟩] c142_0_24))) (.seq (.region r142_48 [] (tO [2, 3])) .ret))))
noncomputable def cm142_0 : MCode := cm142_0g J142_0_0 L142_0_1
theorem gm142_0 : cm142_0.Good Tryz.prog E142_0 sh142 := ⟨trivial, ⟨⟨trivial, ⟨⟨trivial, trivial⟩, ⟨⟨g142_0_10, m142_0_0, trivial⟩, ⟨⟨trivial, trivial⟩, ⟨trivial, ⟨⟨trivial, trivial⟩, trivial⟩⟩⟩⟩⟩⟩, ⟨⟨trivial, ⟨g142_0_24, m142_0_1, trivial⟩⟩, ⟨trivial, trivial⟩⟩⟩⟩
theorem fm142_0g (vf159_0 : Tf159_0) (vJ142_0_0 : TJ142_0_0) (vL142_0_1 : TL142_0_1) (α : Type) (k : List RV → Option α) : Fn142_0 (f142_0g vJ142_0_0 vL142_0_1) α k = pa142_0.unc fun ds => fnM Tryz.prog (E142_0g vf159_0) sh142 (cm142_0g vJ142_0_0 vL142_0_1) rs142 k ds := by kernel_rfl
theorem fm142_0 : ∀ (α : Type) (k : List RV → Option α), Fn142_0 f142_0 α k = pa142_0.unc fun ds => fnM Tryz.prog E142_0 sh142 cm142_0 rs142 k ds := fm142_0g f159_0 J142_0_0 L142_0_1
theorem is142 : FnIs Tryz.prog 142 nt142 tr142 tl142 cm142_0.erase rs142 := ⟨Tryz.f142, Tryz.func142, rfl, by kernel_rfl, by kernel_rfl, by kernel_rfl⟩
theorem io142_0 : InstOk Tryz.prog 142 nt142 ⟨pa142_0, Fn142_0 f142_0⟩ := inst_ok eo142_0 followsTry is142 ⟨⟨sh142, cm142_0, by kernel_rfl, gm142_0, fm142_0⟩⟩
abbrev nt64 : Nat := 11
def sh64 : List (Nat × List Sh) := [(6, [.cpx .f64, .int .i64])]
def r64_2 : List AOper := [oO 1 (.box (.tmp 0)), oO 2 (.mv (kI 0))]
def r64_4 : List AOper := [oO 6 (.load true 2 (.tmp 1)), oO 7 (.call 94 [(.tmp 6)]), oM 5 7, oO 8 (.extract 0 (.tmp 5)), oO 9 (.extract 1 (.tmp 5)), oO 3 (.alloc [(cI 0), (cI 0), (cI 0)]), oD (.store 3 (.tmp 3) (.tmp 8)), oM 4 9]
def r64_6 : List AOper := [oM 10 4, oM 2 10]
def tr64 : List (Nat × Tidy) := [tT 0 [1], tT 1 [4], tT 2 [2]]
def tl64 : List (Nat × Tidy) := []
def rs64 : List AResV := [.tmp 2]
def pr64_0_0 : PT (List RV) := pRs [pR false [rD (dI .i64)]]
def ur64_0_0 {β : Type} (g : List RV → β) : Int → β := pr64_0_0.unc g
def E64_0g (vf94_0 : Tf94_0) : EnvK := EnvK.of [⟨94, nt94, [⟨pa94_0, Fn94_0 vf94_0⟩]⟩] noSeq
noncomputable def E64_0 : EnvK := E64_0g f94_0
theorem eo64_0 : E64_0.Ok Tryz.prog := EnvK.of_ok noSeq_ok ⟨⟨io94_0, trivial⟩, trivial⟩
abbrev Tf64_0 : Type 1 := (α : Type) → Nat → Nat → Int → (Int → Option α) → Option α
def f64_0g (vf94_0 : Tf94_0) (α : Type) (x1 x2 : Nat) (x3 : Int) (k1 : Int → Option α) : Option α :=
 vf94_0 α x1 x2 x3
 (fun x4 x5 x6 x7 => k1 x7)
noncomputable def f64_0 (α : Type) (x1 x2 : Nat) (x3 : Int) (k1 : Int → Option α) : Option α := f64_0g f94_0 α x1 x2 x3 k1
def pa64_0 : PT (List DV) := pA [pV true [(dX .f64), (dI .i64)]]
def Fn64_0 (v : Tf64_0) (α : Type) (k : List RV → Option α) : Nat → Nat → Int → Option α := fun x1 x2 x3 => v α x1 x2 x3 (fun (y1 : Int) => ur64_0_0 k y1)
noncomputable def cm64_0g  : MCode := (.seq (.region r64_2 [] (tO [1])) (.seq (.region r64_4 [] (tO [4])) (.seq (.region r64_6 [] (tO [2])) .ret)))
noncomputable def cm64_0 : MCode := cm64_0g 
theorem gm64_0 : cm64_0.Good Tryz.prog E64_0 sh64 := ⟨trivial, ⟨trivial, ⟨trivial, trivial⟩⟩⟩
theorem fm64_0g (vf94_0 : Tf94_0)  (α : Type) (k : List RV → Option α) : Fn64_0 (f64_0g vf94_0) α k = pa64_0.unc fun ds => fnM Tryz.prog (E64_0g vf94_0) sh64 (cm64_0g ) rs64 k ds := by kernel_rfl
theorem fm64_0 : ∀ (α : Type) (k : List RV → Option α), Fn64_0 f64_0 α k = pa64_0.unc fun ds => fnM Tryz.prog E64_0 sh64 cm64_0 rs64 k ds := fm64_0g f94_0
theorem is64 : FnIs Tryz.prog 64 nt64 tr64 tl64 cm64_0.erase rs64 := ⟨Tryz.f64, Tryz.func64, rfl, by kernel_rfl, by kernel_rfl, by kernel_rfl⟩
theorem io64_0 : InstOk Tryz.prog 64 nt64 ⟨pa64_0, Fn64_0 f64_0⟩ := inst_ok eo64_0 followsTry is64 ⟨⟨sh64, cm64_0, by kernel_rfl, gm64_0, fm64_0⟩⟩
abbrev nt113 : Nat := 39
def sh113 : List (Nat × List Sh) := [(6, [.str]), (11, [.int .i64]), (13, [.str, .int .i64, .sl, .sl, .sl, .int .i64, .int .i64]), (19, [.int .i64]), (23, [.sl]), (26, [.sl]), (30, [.sl]), (36, [.int .i64, .int .i64])]
def r113_2 : List AOper := [oO 1 (.box (.tmp 0)), oO 2 (.mv (kI 0)), oO 3 (.mv (kI 0))]
def r113_6 : List AOper := [oO 5 (.faddr 0 (.tmp 1)), oO 6 (.load false 1 (.tmp 5)), oO 7 (.call 141 [(.tmp 6)]), oO 8 (.pure (oB (.unOp .not 4 (.tmp 7)) 4)), oM 4 8]
def r113_9 : List AOper := [oO 2 (.mv (kI 0)), oO 3 (.mv (kI 3))]
def r113_11 : List AOper := [oO 10 (.faddr 1 (.tmp 1)), oO 11 (.load false 1 (.tmp 10)), oO 12 (.bin .eql 3 (.tmp 11) (kI 1)), oM 9 12]
def r113_14 : List AOper := [oO 13 (.load true 7 (.tmp 1)), oO 14 (.call 142 [(.tmp 13)]), oO 15 (.extract 0 (.tmp 14)), oO 16 (.extract 1 (.tmp 14)), oM 2 15, oM 3 16]
def r113_16 : List AOper := [oO 18 (.faddr 1 (.tmp 1)), oO 19 (.load false 1 (.tmp 18)), oO 20 (.bin .neq 3 (.tmp 19) (kI 2)), oM 17 20]
def r113_19 : List AOper := [oO 2 (.mv (kI 0)), oO 3 (.mv (kI 11))]
def r113_21 : List AOper := [oO 22 (.faddr 2 (.tmp 1)), oO 23 (.load false 1 (.tmp 22)), oO 24 (.len (.tmp 23)), oO 25 (.faddr 3 (.tmp 1)), oO 26 (.load false 1 (.tmp 25)), oO 27 (.len (.tmp 26)), oO 28 (.bin .add 3 (.tmp 24) (.tmp 27)), oO 29 (.faddr 4 (.tmp 1)), oO 30 (.load false 1 (.tmp 29)), oO 31 (.len (.tmp 30)), oO 32 (.bin .add 3 (.tmp 28) (.tmp 31)), oO 33 (.bin .gtr 3 (.tmp 32) (kI 0)), oM 21 33]
def r113_24 : List AOper := [oO 2 (.mv (kI 0)), oO 3 (.mv (kI 13))]
def r113_26 : List AOper := [oO 35 (.faddr 5 (.tmp 1)), oO 36 (.load true 2 (.tmp 35)), oO 37 (.call 143 [(.tmp 36)]), oO 38 (.pure (oB (.unOp .not 4 (.tmp 37)) 4)), oM 34 38]
def r113_29 : List AOper := [oO 2 (.mv (kI 0)), oO 3 (.mv (kI 2))]
def r113_31 : List AOper := [oO 2 (.mv (kI 0)), oO 3 (.mv (kI 0))]
def tr113 : List (Nat × Tidy) := [tT 0 [1], tT 1 [1, 4], tT 2 [2, 3], tT 3 [1, 9], tT 4 [2, 3], tT 5 [1, 17], tT 6 [2, 3], tT 7 [1, 21], tT 8 [2, 3], tT 9 [34], tT 10 [2, 3], tT 11 [2, 3]]
def tl113 : List (Nat × Tidy) := []
def rs113 : List AResV := [.tmp 2, .tmp 3]
def pr113_0_0 : PT (List RV) := pRs [pR false [rD (dI .i64)], pR false [rD (dI .i64)]]
def ur113_0_0 {β : Type} (g : List RV → β) : Int → Int → β := pr113_0_0.unc g
def E113_0g (vf141_0 : Tf141_0) (vf142_0 : Tf142_0) (vf143_0 : Tf143_0) : EnvK := EnvK.of [⟨141, nt141, [⟨pa141_0, Fn141_0 vf141_0⟩]⟩, ⟨142, nt142, [⟨pa142_0, Fn142_0 vf142_0⟩]⟩, ⟨143, nt143, [⟨pa143_0, Fn143_0 vf143_0⟩]⟩] noSeq
noncomputable def E113_0 : EnvK := E113_0g f141_0 f142_0 f143_0
theorem eo113_0 : E113_0.Ok Tryz.prog := EnvK.of_ok noSeq_ok ⟨⟨io141_0, trivial⟩, ⟨io142_0, trivial⟩, ⟨io143_0, trivial⟩, trivial⟩
abbrev Tf113_0 : Type 1 := (α : Type) → ByteArray → Int → Rows → Rows → Rows → Int → Int → (Int → Int → Option α) → Option α
def f113_0g (vf141_0 : Tf141_0) (vf142_0 : Tf142_0) (vf143_0 : Tf143_0) (α : Type) (x1 : ByteArray) (x2 : Int) (x3 x4 x5 : Rows) (x6 x7 : Int) (k1 : Int → Int → Option α) : Option α :=
 vf141_0 α x1
 (fun x8 => cK (!x8)
 (k1 0 3)
 (cK (x2 == 1)
 (vf142_0 α x1 x2 x3 x4 x5 x6 x7
 (fun x9 x10 => k1 x9 x10))
 (cK (x2 != 2)
 (k1 0 11)
 (cK (decide (0 < (w64 ((w64 (((List.length x3 : Nat) : Int) + ((List.length x4 : Nat) : Int))) + ((List.length x5 : Nat) : Int)))))
 (k1 0 13)
 (vf143_0 α x6 x7
 (fun x11 => cK (!x11)
 (k1 0 2)
 (k1 0 0)))))))
noncomputable def f113_0 (α : Type) (x1 : ByteArray) (x2 : Int) (x3 x4 x5 : Rows) (x6 x7 : Int) (k1 : Int → Int → Option α) : Option α := f113_0g f141_0 f142_0 f143_0 α x1 x2 x3 x4 x5 x6 x7 k1
def pa113_0 : PT (List DV) := pA [pV true [dS, (dI .i64), dL, dL, dL, (dI .i64), (dI .i64)]]
def Fn113_0 (v : Tf113_0) (α : Type) (k : List RV → Option α) : ByteArray → Int → Rows → Rows → Rows → Int → Int → Option α := fun x1 x2 x3 x4 x5 x6 x7 => v α x1 x2 x3 x4 x5 x6 x7 (fun (y1 : Int) (y2 : Int) => ur113_0_0 k y1 y2)
noncomputable def cm113_0g  : MCode := (.seq (.region r113_2 [] (tO [1])) (.seq (.block 0 (.seq (.region r113_6 [] (tO [1, 4])) (.cond (.tmp 4) (.seq (.region r113_9 [] (tO [2, 3])) .ret) (.seq (.region r113_11 [] (tO [1, 9])) (.cond (.tmp 9) (.seq (.region r113_14 [] (tO [2, 3])) .ret) (.seq (.region r113_16 [] (tO [1, 17])) (.cond (.tmp 17) (.seq (.region r113_19 [] (tO [2, 3])) .ret) (.seq (.region r113_21 [] (tO [1, 21])) (.cond (.tmp 21) (.seq (.region r113_24 [] (tO [2, 3])) .ret) (.seq (.region r113_26 [] (tO [34])) (.cond (.tmp 34) (.seq (.region r113_29 [] (tO [2, 3])) .ret) .skip))))))))))) (.seq (.region r113_31 [] (tO [2, 3])) .ret)))
noncomputable def cm113_0 : MCode := cm113_0g 
theorem gm113_0 : cm113_0.Good Tryz.prog E113_0 sh113 := ⟨trivial, ⟨⟨trivial, ⟨⟨trivial, trivial⟩, ⟨trivial, ⟨⟨trivial, trivial⟩, ⟨trivial, ⟨⟨trivial, trivial⟩, ⟨trivial, ⟨⟨trivial, trivial⟩, ⟨trivial, ⟨⟨trivial, trivial⟩, trivial⟩⟩⟩⟩⟩⟩⟩⟩⟩⟩, ⟨trivial, trivial⟩⟩⟩
theorem fm113_0g (vf141_0 : Tf141_0) (vf142_0 : Tf142_0) (vf143_0 : Tf143_0)  (α : Type) (k : List RV → Option α) : Fn113_0 (f113_0g vf141_0 vf142_0 vf143_0) α k = pa113_0.unc fun ds => fnM Tryz.prog (E113_0g vf141_0 vf142_0 vf143_0) sh113 (cm113_0g ) rs113 k ds := by kernel_rfl
theorem fm113_0 : ∀ (α : Type) (k : List RV → Option α), Fn113_0 f113_0 α k = pa113_0.unc fun ds => fnM Tryz.prog E113_0 sh113 cm113_0 rs113 k ds := fm113_0g f141_0 f142_0 f143_0
theorem is113 : FnIs Tryz.prog 113 nt113 tr113 tl113 cm113_0.erase rs113 := ⟨Tryz.f113, Tryz.func113, rfl, by kernel_rfl, by kernel_rfl, by kernel_rfl⟩
theorem io113_0 : InstOk Tryz.prog 113 nt113 ⟨pa113_0, Fn113_0 f113_0⟩ := inst_ok eo113_0 followsTry is113 ⟨⟨sh113, cm113_0, by kernel_rfl, gm113_0, fm113_0⟩⟩
abbrev nt79 : Nat := 28
def sh79 : List (Nat × List Sh) := [(7, [.str, .int .i64, .sl, .sl, .sl, .int .i64, .int .i64]), (15, [.int .i64]), (17, [.str, .int .i64, .sl, .sl, .sl, .int .i64, .int .i64]), (22, [.int .i64]), (25, [.int .i64])]
def r79_2 : List AOper := [oO 1 (.box (.tmp 0)), oO 2 (.mv (.const .nilIface)), oO 3 (.mv (kI 0))]
def r79_5 : List AOper := [oO 7 (.load true 7 (.tmp 1)), oO 8 (.call 113 [(.tmp 7)]), oM 6 8, oO 9 (.extract 0 (.tmp 6)), oO 10 (.extract 1 (.tmp 6)), oM 4 9, oM 5 10]
def r79_7 : List AOper := [oM 11 5, oO 12 (.bin .neq 26 (.tmp 11) (kI 0))]
def r79_10 : List AOper := [oM 13 5, oO 2 (.mv (.const .nilIface)), oM 3 13]
def r79_13 : List AOper := [oO 14 (.faddr 1 (.tmp 1)), oO 15 (.load false 1 (.tmp 14)), oO 16 (.bin .eql 3 (.tmp 15) (kI 1))]
def r79_16 : List AOper := [oO 17 (.load true 7 (.tmp 1)), ⟨(some 18), (.build [(.d (.v (.string ⟨#[]⟩))), (cI 0), .nils, .nils, .nils, (cI 0), (cI 0)] [(0, 7, (.tmp 17))]), none⟩, oO 19 (.ifc 169 (.tmp 18)), oM 2 19, oO 3 (.mv (kI 0))]
def r79_18 : List AOper := [oO 20 (.faddr 5 (.tmp 1)), oO 21 (.iaddr 1 (some 2) (.tmp 20) (kI 0)), oO 22 (.load false 1 (.tmp 21)), oO 23 (.faddr 5 (.tmp 1)), oO 24 (.iaddr 1 (some 2) (.tmp 23) (kI 1)), oO 25 (.load false 1 (.tmp 24)), oO 26 (.build [(cI 0), (cI 0)] [(0, 1, (.tmp 22)), (1, 1, (.tmp 25))]), oO 27 (.ifc 171 (.tmp 26)), oM 2 27, oO 3 (.mv (kI 0))]
def tr79 : List (Nat × Tidy) := [tT 0 [1], tT 1 [1, 5], tT 2 [1, 5, 12], tT 3 [2, 3], tT 4 [1, 16], tT 5 [2, 3], tT 6 [2, 3]]
def tl79 : List (Nat × Tidy) := []
def rs79 : List AResV := [.tmp 2, .tmp 3]
def pr79_0_0 : PT (List RV) := pRs [pR false [rD dNIf], pR false [rD (dI .i64)]]
def ur79_0_0 {β : Type} (g : List RV → β) : Int → β := pr79_0_0.unc g
def pr79_0_1 : PT (List RV) := pRs [pR false [rD (dIf 169 true [dS, (dI .i64), dL, dL, dL, (dI .i64), (dI .i64)])], pR false [rD (dI .i64)]]
def ur79_0_1 {β : Type} (g : List RV → β) : ByteArray → Int → Rows → Rows → Rows → Int → Int → Int → β := pr79_0_1.unc g
def pr79_0_2 : PT (List RV) := pRs [pR false [rD (dIf 171 true [(dI .i64), (dI .i64)])], pR false [rD (dI .i64)]]
def ur79_0_2 {β : Type} (g : List RV → β) : Int → Int → Int → β := pr79_0_2.unc g
def E79_0g (vf113_0 : Tf113_0) : EnvK := EnvK.of [⟨113, nt113, [⟨pa113_0, Fn113_0 vf113_0⟩]⟩] noSeq
noncomputable def E79_0 : EnvK := E79_0g f113_0
theorem eo79_0 : E79_0.Ok Tryz.prog := EnvK.of_ok noSeq_ok ⟨⟨io113_0, trivial⟩, trivial⟩
abbrev Tf79_0 : Type 1 := (α : Type) → ByteArray → Int → Rows → Rows → Rows → Int → Int → (Int → Option α) → (ByteArray → Int → Rows → Rows → Rows → Int → Int → Option α) → (Int → Int → Option α) → Option α
def f79_0g (vf113_0 : Tf113_0) (α : Type) (x1 : ByteArray) (x2 : Int) (x3 x4 x5 : Rows) (x6 x7 : Int) (k1 : Int → Option α) (k2 : ByteArray → Int → Rows → Rows → Rows → Int → Int → Option α) (k3 : Int → Int → Option α) : Option α :=
 vf113_0 α x1 x2 x3 x4 x5 x6 x7
 (fun x8 x9 => cK (x9 != 0)
 (k1 x9)
 (cK (x2 == 1)
 (k2 x1 x2 x3 x4 x5 x6 x7)
 (k3 x6 x7)))
noncomputable def f79_0 (α : Type) (x1 : ByteArray) (x2 : Int) (x3 x4 x5 : Rows) (x6 x7 : Int) (k1 : Int → Option α) (k2 : ByteArray → Int → Rows → Rows → Rows → Int → Int → Option α) (k3 : Int → Int → Option α) : Option α := f79_0g f113_0 α x1 x2 x3 x4 x5 x6 x7 k1 k2 k3
def pa79_0 : PT (List DV) := pA [pV true [dS, (dI .i64), dL, dL, dL, (dI .i64), (dI .i64)]]
def Fn79_0 (v : Tf79_0) (α : Type) (k : List RV → Option α) : ByteArray → Int → Rows → Rows → Rows → Int → Int → Option α := fun x1 x2 x3 x4 x5 x6 x7 => v α x1 x2 x3 x4 x5 x6 x7 (fun (y1 : Int) => ur79_0_0 k y1) (fun (y1 : ByteArray) (y2 : Int) (y3 : Rows) (y4 : Rows) (y5 : Rows) (y6 : Int) (y7 : Int) => ur79_0_1 k y1 y2 y3 y4 y5 y6 y7 0) (fun (y1 : Int) (y2 : Int) => ur79_0_2 k y1 y2 0)
noncomputable def cm79_0g  : MCode := (.seq (.region r79_2 [] (tO [1])) (.seq (.seq (.region r79_5 [] (tO [1, 5])) (.seq (.region r79_7 [] (tO [1, 5, 12])) (.cond (.tmp 12) (.seq (.region r79_10 [] (tO [2, 3])) .ret) .skip))) (.seq (.seq (.region r79_13 [] (tO [1, 16])) (.cond (.tmp 16) (.seq (.region r79_16 [] (tO [2, 3])) .ret) .skip)) (.seq (.region r79_18 [] (tO [2, 3])) .ret))))
noncomputable def cm79_0 : MCode := cm79_0g 
theorem gm79_0 : cm79_0.Good Tryz.prog E79_0 sh79 := ⟨trivial, ⟨⟨trivial, ⟨trivial, ⟨⟨trivial, trivial⟩, trivial⟩⟩⟩, ⟨⟨trivial, ⟨⟨trivial, trivial⟩, trivial⟩⟩, ⟨trivial, trivial⟩⟩⟩⟩
theorem fm79_0g (vf113_0 : Tf113_0)  (α : Type) (k : List RV → Option α) : Fn79_0 (f79_0g vf113_0) α k = pa79_0.unc fun ds => fnM Tryz.prog (E79_0g vf113_0) sh79 (cm79_0g ) rs79 k ds := by kernel_rfl
theorem fm79_0 : ∀ (α : Type) (k : List RV → Option α), Fn79_0 f79_0 α k = pa79_0.unc fun ds => fnM Tryz.prog E79_0 sh79 cm79_0 rs79 k ds := fm79_0g f113_0
theorem is79 : FnIs Tryz.prog 79 nt79 tr79 tl79 cm79_0.erase rs79 := ⟨Tryz.f79, Tryz.func79, rfl, by kernel_rfl, by kernel_rfl, by kernel_rfl⟩
theorem io79_0 : InstOk Tryz.prog 79 nt79 ⟨pa79_0, Fn79_0 f79_0⟩ := inst_ok eo79_0 followsTry is79 ⟨⟨sh79, cm79_0, by kernel_rfl, gm79_0, fm79_0⟩⟩
abbrev nt62 : Nat := 27
def sh62 : List (Nat × List Sh) := [(9, [.str, .int .i64, .sl, .sl, .sl, .int .i64, .int .i64])]
def r62_2 : List AOper := [oO 2 (.box (.tmp 0)), oO 4 (.mv (.const .nilIface)), oO 5 (.mv (kI 0))]
def r62_4 : List AOper := [oO 9 (.load true 7 (.tmp 2)), oO 10 (.call 79 [(.tmp 9)]), oM 8 10, oO 11 (.extract 0 (.tmp 8)), oO 12 (.extract 1 (.tmp 8)), oM 6 11, oM 7 12]
def r62_8 : List AOper := [oM 14 7, oO 15 (.bin .neq 26 (.tmp 14) (kI 0)), oM 13 15]
def r62_11 : List AOper := [oM 16 7, oO 4 (.mv (.const .nilIface)), oM 5 16]
def r62_13 : List AOper := [oM 18 1, oO 19 (.call 80 [(.tmp 18)]), oO 20 (.pure (oB (.unOp .not 4 (.tmp 19)) 4)), oM 17 20]
def r62_16 : List AOper := [oO 4 (.mv (.const .nilIface)), oO 5 (.mv (kI 2))]
def r62_18 : List AOper := [oM 22 6, oM 23 1, oO 24 (.inv "etalon/glass.covers" (.tmp 22) [(.tmp 23)]), oO 25 (.pure (oB (.unOp .not 4 (.tmp 24)) 4)), oM 21 25]
def r62_21 : List AOper := [oO 4 (.mv (.const .nilIface)), oO 5 (.mv (kI 17))]
def r62_23 : List AOper := [oM 26 6, oM 4 26, oO 5 (.mv (kI 0))]
def tr62 : List (Nat × Tidy) := [tT 0 [1, 2], tT 1 [1, 6, 7], tT 2 [1, 6, 7, 13], tT 3 [4, 5], tT 4 [1, 6, 17], tT 5 [4, 5], tT 6 [6, 21], tT 7 [4, 5], tT 8 [4, 5]]
def tl62 : List (Nat × Tidy) := []
def rs62 : List AResV := [.tmp 4, .tmp 5]
def p62_0_0 : PT St := pS [sl 1 (aV false [(cD (dI .i64))]), sl 2 (aV false [(cPtr 2 0)])] [eBox 2 [(cD dS), (cD (dI .i64)), (cD dL), (cD dL), (cD dL), (cD (dI .i64)), (cD (dI .i64))]]
def u62_0_0 {β : Type} (g : St → β) : Int → ByteArray → Int → Rows → Rows → Rows → Int → Int → β := p62_0_0.unc g
def p62_0_1 : PT St := pS [sl 1 (aV false [(cD (dI .i64))]), sl 6 (aV false [(cD dNIf)]), sl 7 (aV false [(cD (dI .i64))])] []
def u62_0_1 {β : Type} (g : St → β) : Int → Int → β := p62_0_1.unc g
def p62_0_2 : PT St := pS [sl 1 (aV false [(cD (dI .i64))]), sl 6 (aV false [(cD (dIf 169 true [dS, (dI .i64), dL, dL, dL, (dI .i64), (dI .i64)]))]), sl 7 (aV false [(cD (dI .i64))])] []
def u62_0_2 {β : Type} (g : St → β) : Int → ByteArray → Int → Rows → Rows → Rows → Int → Int → Int → β := p62_0_2.unc g
def p62_0_3 : PT St := pS [sl 1 (aV false [(cD (dI .i64))]), sl 6 (aV false [(cD (dIf 171 true [(dI .i64), (dI .i64)]))]), sl 7 (aV false [(cD (dI .i64))])] []
def u62_0_3 {β : Type} (g : St → β) : Int → Int → Int → Int → β := p62_0_3.unc g
def pr62_0_0 : PT (List RV) := pRs [pR false [rD dNIf], pR false [rD (dI .i64)]]
def ur62_0_0 {β : Type} (g : List RV → β) : Int → β := pr62_0_0.unc g
def pr62_0_1 : PT (List RV) := pRs [pR false [rD (dIf 169 true [dS, (dI .i64), dL, dL, dL, (dI .i64), (dI .i64)])], pR false [rD (dI .i64)]]
def ur62_0_1 {β : Type} (g : List RV → β) : ByteArray → Int → Rows → Rows → Rows → Int → Int → Int → β := pr62_0_1.unc g
def pr62_0_2 : PT (List RV) := pRs [pR false [rD (dIf 171 true [(dI .i64), (dI .i64)])], pR false [rD (dI .i64)]]
def ur62_0_2 {β : Type} (g : List RV → β) : Int → Int → Int → β := pr62_0_2.unc g
def E62_0g (vf79_0 : Tf79_0) (vf80_0 : Tf80_0) (vf195_0 : Tf195_0) (vf201_0 : Tf201_0) : EnvK := EnvK.of [⟨79, nt79, [⟨pa79_0, Fn79_0 vf79_0⟩]⟩, ⟨80, nt80, [⟨pa80_0, Fn80_0 vf80_0⟩]⟩, ⟨195, nt195, [⟨pa195_0, Fn195_0 vf195_0⟩]⟩, ⟨201, nt201, [⟨pa201_0, Fn201_0 vf201_0⟩]⟩] noSeq
noncomputable def E62_0 : EnvK := E62_0g f79_0 f80_0 f195_0 f201_0
theorem eo62_0 : E62_0.Ok Tryz.prog := EnvK.of_ok noSeq_ok ⟨⟨io79_0, trivial⟩, ⟨io80_0, trivial⟩, ⟨io195_0, trivial⟩, ⟨io201_0, trivial⟩, trivial⟩
noncomputable def c62_0_3g  : MCode := (.region r62_4 [] (tO [1, 6, 7]))
noncomputable def c62_0_3 : MCode := c62_0_3g 
theorem g62_0_3 : c62_0_3.Good Tryz.prog E62_0 sh62 := trivial
--CODE 3 0
abbrev TJ62_0_0 : Type 1 := (α : Type) → ByteArray → Int → Rows → Rows → Rows → Int → Int → (Int → Option α) → (ByteArray → Int → Rows → Rows → Rows → Int → Int → Option α) → (Int → Int → Option α) → Option α
def J62_0_0g (vf79_0 : Tf79_0) (α : Type) (x10 : ByteArray) (x11 : Int) (x12 x13 x14 : Rows) (x15 x16 : Int) (k1 : Int → Option α) (k2 : ByteArray → Int → Rows → Rows → Rows → Int → Int → Option α) (k3 : Int → Int → Option α) : Option α :=
 vf79_0 α x10 x11 x12 x13 x14 x15 x16
 (fun x18 => k1 x18)
 (fun x19 x20 x21 x22 x23 x24 x25 => k2 x19 x20 x21 x22 x23 x24 x25)
 (fun x26 x27 => k3 x26 x27)
noncomputable def J62_0_0 (α : Type) (x10 : ByteArray) (x11 : Int) (x12 x13 x14 : Rows) (x15 x16 : Int) (k1 : Int → Option α) (k2 : ByteArray → Int → Rows → Rows → Rows → Int → Int → Option α) (k3 : Int → Int → Option α) : Option α := J62_0_0g f79_0 α x10 x11 x12 x13 x14 x15 x16 k1 k2 k3
def F62_0_0 (v : TJ62_0_0) (α : Type) (K : Exit → St → Option α) : Int → ByteArray → Int → Rows → Rows → Rows → Int → Int → Option α := fun x9 x10 x11 x12 x13 x14 x15 x16 => v α x10 x11 x12 x13 x14 x15 x16 (fun (y1 : Int) => u62_0_1 (K .normal) x9 y1) (fun (y1 : ByteArray) (y2 : Int) (y3 : Rows) (y4 : Rows) (y5 : Rows) (y6 : Int) (y7 : Int) => u62_0_2 (K .normal) x9 y1 y2 y3 y4 y5 y6 y7 0) (fun (y1 : Int) (y2 : Int) => u62_0_3 (K .normal) x9 y1 y2 0) 
theorem m62_0_0g (vf79_0 : Tf79_0) (vf80_0 : Tf80_0) (vf195_0 : Tf195_0) (vf201_0 : Tf201_0)  (α : Type) (K : Exit → St → Option α) : F62_0_0 (J62_0_0g vf79_0) α K = p62_0_0.unc fun σ => runM Tryz.prog (E62_0g vf79_0 vf80_0 vf195_0 vf201_0) sh62 (c62_0_3g ) K σ := by kernel_rfl
theorem m62_0_0 : ∀ (α : Type) (K : Exit → St → Option α), F62_0_0 J62_0_0 α K = p62_0_0.unc fun σ => runM Tryz.prog E62_0 sh62 c62_0_3 K σ := m62_0_0g f79_0 f80_0 f195_0 f201_0
abbrev Tf62_0 : Type 1 := (α : Type) → ByteArray → Int → Rows → Rows → Rows → Int → Int → Int → (Int → Option α) → (ByteArray → Int → Rows → Rows → Rows → Int → Int → Option α) → (Int → Int → Option α) → Option α
def f62_0g (vJ62_0_0 : TJ62_0_0) (vf195_0 : Tf195_0) (vf201_0 : Tf201_0) (vf80_0 : Tf80_0) (α : Type) (x1 : ByteArray) (x2 : Int) (x3 x4 x5 : Rows) (x6 x7 x8 : Int) (k1 : Int → Option α) (k2 : ByteArray → Int → Rows → Rows → Rows → Int → Int → Option α) (k3 : Int → Int → Option α) : Option α :=
 vJ62_0_0 α x1 x2 x3 x4 x5 x6 x7
 (fun x28 => cK (x28 != 0)
 (k1 x28)
 (vf80_0 α x8
 (fun x39 => cK (!x39)
 (k1 2)
 (none))))
 (fun x29 x30 x31 x32 x33 x34 x35 => vf80_0 α x8
 (fun x40 => cK (!x40)
 (k1 2)
 (vf195_0 α x29 x30 x31 x32 x33 x34 x35 x8
 (fun x41 => cK (!x41)
 (k1 17)
 (k2 x29 x30 x31 x32 x33 x34 x35)))))
 (fun x36 x37 => vf80_0 α x8
 (fun x42 => cK (!x42)
 (k1 2)
 (vf201_0 α x36 x37 x8
 (k3 x36 x37))))
noncomputable def f62_0 (α : Type) (x1 : ByteArray) (x2 : Int) (x3 x4 x5 : Rows) (x6 x7 x8 : Int) (k1 : Int → Option α) (k2 : ByteArray → Int → Rows → Rows → Rows → Int → Int → Option α) (k3 : Int → Int → Option α) : Option α := f62_0g J62_0_0 f195_0 f201_0 f80_0 α x1 x2 x3 x4 x5 x6 x7 x8 k1 k2 k3
def pa62_0 : PT (List DV) := pA [pV true [dS, (dI .i64), dL, dL, dL, (dI .i64), (dI .i64)], pV false [(dI .i64)]]
def Fn62_0 (v : Tf62_0) (α : Type) (k : List RV → Option α) : ByteArray → Int → Rows → Rows → Rows → Int → Int → Int → Option α := fun x1 x2 x3 x4 x5 x6 x7 x8 => v α x1 x2 x3 x4 x5 x6 x7 x8 (fun (y1 : Int) => ur62_0_0 k y1) (fun (y1 : ByteArray) (y2 : Int) (y3 : Rows) (y4 : Rows) (y5 : Rows) (y6 : Int) (y7 : Int) => ur62_0_1 k y1 y2 y3 y4 y5 y6 y7 0) (fun (y1 : Int) (y2 : Int) => ur62_0_2 k y1 y2 0)
noncomputable def cm62_0g (vJ62_0_0 : TJ62_0_0) : MCode := (.seq (.region r62_2 [] (tO [1, 2])) (.seq (.mark [⟨p62_0_0, F62_0_0 vJ62_0_0⟩] c62_0_3) (.seq (.block 0 (.seq (.region r62_8 [] (tO [1, 6, 7, 13])) (.cond (.tmp 13) (.seq (.region r62_11 [] (tO [4, 5])) .ret) (.seq (.region r62_13 [] (tO [1, 6, 17])) (.cond (.tmp 17) (.seq (.region r62_16 [] (tO [4, 5])) .ret) (.seq (.region r62_18 [] (tO [6, 21])) (.cond (.tmp 21) (.seq (.region r62_21 [] (tO [4, 5])) .ret) .skip))))))) (.seq (.region r62_23 [] (tO [4, 5])) .ret))))
noncomputable def cm62_0 : MCode := cm62_0g J62_0_0
theorem gm62_0 : cm62_0.Good Tryz.prog E62_0 sh62 := ⟨trivial, ⟨⟨g62_0_3, m62_0_0, trivial⟩, ⟨⟨trivial, ⟨⟨trivial, trivial⟩, ⟨trivial, ⟨⟨trivial, trivial⟩, ⟨trivial, ⟨⟨trivial, trivial⟩, trivial⟩⟩⟩⟩⟩⟩, ⟨trivial, trivial⟩⟩⟩⟩
theorem fm62_0g (vf79_0 : Tf79_0) (vf80_0 : Tf80_0) (vf195_0 : Tf195_0) (vf201_0 : Tf201_0) (vJ62_0_0 : TJ62_0_0) (α : Type) (k : List RV → Option α) : Fn62_0 (f62_0g vJ62_0_0 vf195_0 vf201_0 vf80_0) α k = pa62_0.unc fun ds => fnM Tryz.prog (E62_0g vf79_0 vf80_0 vf195_0 vf201_0) sh62 (cm62_0g vJ62_0_0) rs62 k ds := by kernel_rfl
theorem fm62_0 : ∀ (α : Type) (k : List RV → Option α), Fn62_0 f62_0 α k = pa62_0.unc fun ds => fnM Tryz.prog E62_0 sh62 cm62_0 rs62 k ds := fm62_0g f79_0 f80_0 f195_0 f201_0 J62_0_0
theorem is62 : FnIs Tryz.prog 62 nt62 tr62 tl62 cm62_0.erase rs62 := ⟨Tryz.f62, Tryz.func62, rfl, by kernel_rfl, by kernel_rfl, by kernel_rfl⟩
theorem io62_0 : InstOk Tryz.prog 62 nt62 ⟨pa62_0, Fn62_0 f62_0⟩ := inst_ok eo62_0 followsTry is62 ⟨⟨sh62, cm62_0, by kernel_rfl, gm62_0, fm62_0⟩⟩
abbrev nt20 : Nat := 31
def sh20 : List (Nat × List Sh) := [(11, [.str, .int .i64, .sl, .sl, .sl, .int .i64, .int .i64]), (29, [.int .i64, .int .i64])]
def r20_2 : List AOper := [oO 2 (.box (.tmp 0)), oO 4 (.alloc [(cI 0), (cI 0)]), oO 5 (.mv (kI 0))]
def r20_4 : List AOper := [oO 11 (.load true 7 (.tmp 2)), oM 12 1, oO 13 (.call 62 [(.tmp 11), (.tmp 12)]), oM 10 13, oO 14 (.extract 0 (.tmp 10)), oO 15 (.extract 1 (.tmp 10)), oM 6 14, oM 7 15]
def r20_7 : List AOper := [oM 16 7, oO 17 (.bin .neq 26 (.tmp 16) (kI 0))]
def r20_10 : List AOper := [oO 18 (.build [(cI 0), (cI 0)] []), oM 19 7, oD (.store 2 (.tmp 4) (.tmp 18)), oM 5 19]
def r20_12 : List AOper := [oM 21 6, oM 22 1, oO 23 (.inv "etalon/glass.group" (.tmp 21) [(.tmp 22)]), oM 20 23, oO 24 (.extract 0 (.tmp 20)), oO 25 (.extract 1 (.tmp 20)), oO 8 (.alloc [(cI 0), (cI 0)]), oD (.store 2 (.tmp 8) (.tmp 24)), oM 9 25]
def r20_15 : List AOper := [oM 26 9, oO 27 (.pure (oB (.unOp .not 4 (.tmp 26)) 4))]
def r20_18 : List AOper := [oO 28 (.build [(cI 0), (cI 0)] []), oD (.store 2 (.tmp 4) (.tmp 28)), oO 5 (.mv (kI 12))]
def r20_20 : List AOper := [oO 29 (.load true 2 (.tmp 8)), oO 30 (.call 65 [(.tmp 29)]), oD (.store 2 (.tmp 4) (.tmp 30)), oO 5 (.mv (kI 0))]
def tr20 : List (Nat × Tidy) := [tT 0 [1, 2, 4], tT 1 [1, 4, 6, 7], tT 2 [1, 4, 6, 7, 17], tT 3 [4, 5], tT 4 [4, 8, 9], tT 5 [4, 8, 27], tT 6 [4, 5], tT 7 [4, 5]]
def tl20 : List (Nat × Tidy) := []
def rs20 : List AResV := [.cell 4 true 2, .tmp 5]
def p20_0_0 : PT St := pS [sl 1 (aV false [(cD (dI .i64))]), sl 2 (aV false [(cPtr 2 0)]), sl 4 (aV false [(cPtr 4 0)])] [eBox 2 [(cD dS), (cD (dI .i64)), (cD dL), (cD dL), (cD dL), (cD (dI .i64)), (cD (dI .i64))], eBox 4 [(cD (dI .i64)), (cD (dI .i64))]]
def u20_0_0 {β : Type} (g : St → β) : Int → ByteArray → Int → Rows → Rows → Rows → Int → Int → Int → Int → β := p20_0_0.unc g
def p20_0_1 : PT St := pS [sl 1 (aV false [(cD (dI .i64))]), sl 4 (aV false [(cPtr 4 0)]), sl 6 (aV false [(cD dNIf)]), sl 7 (aV false [(cD (dI .i64))])] [eBox 4 [(cD (dI .i64)), (cD (dI .i64))]]
def u20_0_1 {β : Type} (g : St → β) : Int → Int → Int → Int → β := p20_0_1.unc g
def p20_0_2 : PT St := pS [sl 1 (aV false [(cD (dI .i64))]), sl 4 (aV false [(cPtr 4 0)]), sl 6 (aV false [(cD (dIf 169 true [dS, (dI .i64), dL, dL, dL, (dI .i64), (dI .i64)]))]), sl 7 (aV false [(cD (dI .i64))])] [eBox 4 [(cD (dI .i64)), (cD (dI .i64))]]
def u20_0_2 {β : Type} (g : St → β) : Int → ByteArray → Int → Rows → Rows → Rows → Int → Int → Int → Int → Int → β := p20_0_2.unc g
def p20_0_3 : PT St := pS [sl 1 (aV false [(cD (dI .i64))]), sl 4 (aV false [(cPtr 4 0)]), sl 6 (aV false [(cD (dIf 171 true [(dI .i64), (dI .i64)]))]), sl 7 (aV false [(cD (dI .i64))])] [eBox 4 [(cD (dI .i64)), (cD (dI .i64))]]
def u20_0_3 {β : Type} (g : St → β) : Int → Int → Int → Int → Int → Int → β := p20_0_3.unc g
def pr20_0_0 : PT (List RV) := pRs [pR true [rD (dI .i64), rD (dI .i64)], pR false [rD (dI .i64)]]
def ur20_0_0 {β : Type} (g : List RV → β) : Int → Int → Int → β := pr20_0_0.unc g
def E20_0g (vf62_0 : Tf62_0) (vf196_0 : Tf196_0) (vf65_0 : Tf65_0) (vf202_0 : Tf202_0) : EnvK := EnvK.of [⟨62, nt62, [⟨pa62_0, Fn62_0 vf62_0⟩]⟩, ⟨196, nt196, [⟨pa196_0, Fn196_0 vf196_0⟩]⟩, ⟨65, nt65, [⟨pa65_0, Fn65_0 vf65_0⟩]⟩, ⟨202, nt202, [⟨pa202_0, Fn202_0 vf202_0⟩]⟩] noSeq
noncomputable def E20_0 : EnvK := E20_0g f62_0 f196_0 f65_0 f202_0
theorem eo20_0 : E20_0.Ok Tryz.prog := EnvK.of_ok noSeq_ok ⟨⟨io62_0, trivial⟩, ⟨io196_0, trivial⟩, ⟨io65_0, trivial⟩, ⟨io202_0, trivial⟩, trivial⟩
noncomputable def c20_0_3g  : MCode := (.region r20_4 [] (tO [1, 4, 6, 7]))
noncomputable def c20_0_3 : MCode := c20_0_3g 
theorem g20_0_3 : c20_0_3.Good Tryz.prog E20_0 sh20 := trivial
--CODE 3 0
abbrev TJ20_0_0 : Type 1 := (α : Type) → Int → ByteArray → Int → Rows → Rows → Rows → Int → Int → (Int → Option α) → (ByteArray → Int → Rows → Rows → Rows → Int → Int → Option α) → (Int → Int → Option α) → Option α
def J20_0_0g (vf62_0 : Tf62_0) (α : Type) (x9 : Int) (x10 : ByteArray) (x11 : Int) (x12 x13 x14 : Rows) (x15 x16 : Int) (k1 : Int → Option α) (k2 : ByteArray → Int → Rows → Rows → Rows → Int → Int → Option α) (k3 : Int → Int → Option α) : Option α :=
 vf62_0 α x10 x11 x12 x13 x14 x15 x16 x9
 (fun x20 => k1 x20)
 (fun x21 x22 x23 x24 x25 x26 x27 => k2 x21 x22 x23 x24 x25 x26 x27)
 (fun x28 x29 => k3 x28 x29)
noncomputable def J20_0_0 (α : Type) (x9 : Int) (x10 : ByteArray) (x11 : Int) (x12 x13 x14 : Rows) (x15 x16 : Int) (k1 : Int → Option α) (k2 : ByteArray → Int → Rows → Rows → Rows → Int → Int → Option α) (k3 : Int → Int → Option α) : Option α := J20_0_0g f62_0 α x9 x10 x11 x12 x13 x14 x15 x16 k1 k2 k3
def F20_0_0 (v : TJ20_0_0) (α : Type) (K : Exit → St → Option α) : Int → ByteArray → Int → Rows → Rows → Rows → Int → Int → Int → Int → Option α := fun x9 x10 x11 x12 x13 x14 x15 x16 x17 x18 => v α x9 x10 x11 x12 x13 x14 x15 x16 (fun (y1 : Int) => u20_0_1 (K .normal) x9 y1 x17 x18) (fun (y1 : ByteArray) (y2 : Int) (y3 : Rows) (y4 : Rows) (y5 : Rows) (y6 : Int) (y7 : Int) => u20_0_2 (K .normal) x9 y1 y2 y3 y4 y5 y6 y7 0 x17 x18) (fun (y1 : Int) (y2 : Int) => u20_0_3 (K .normal) x9 y1 y2 0 x17 x18) 
theorem m20_0_0g (vf62_0 : Tf62_0) (vf196_0 : Tf196_0) (vf65_0 : Tf65_0) (vf202_0 : Tf202_0)  (α : Type) (K : Exit → St → Option α) : F20_0_0 (J20_0_0g vf62_0) α K = p20_0_0.unc fun σ => runM Tryz.prog (E20_0g vf62_0 vf196_0 vf65_0 vf202_0) sh20 (c20_0_3g ) K σ := by kernel_rfl
theorem m20_0_0 : ∀ (α : Type) (K : Exit → St → Option α), F20_0_0 J20_0_0 α K = p20_0_0.unc fun σ => runM Tryz.prog E20_0 sh20 c20_0_3 K σ := m20_0_0g f62_0 f196_0 f65_0 f202_0
abbrev Tf20_0 : Type 1 := (α : Type) → ByteArray → Int → Rows → Rows → Rows → Int → Int → Int → (Int → Int → Int → Option α) → Option α
def f20_0g (vJ20_0_0 : TJ20_0_0) (vf196_0 : Tf196_0) (vf202_0 : Tf202_0) (vf65_0 : Tf65_0) (α : Type) (x1 : ByteArray) (x2 : Int) (x3 x4 x5 : Rows) (x6 x7 x8 : Int) (k1 : Int → Int → Int → Option α) : Option α :=
 vJ20_0_0 α x8 x1 x2 x3 x4 x5 x6 x7
 (fun x30 => cK (x30 != 0)
 (k1 0 0 x30)
 (none))
 (fun x31 x32 x33 x34 x35 x36 x37 => vf196_0 α x31 x32 x33 x34 x35 x36 x37 x8
 (fun x41 x42 x43 => cK (!x43)
 (k1 0 0 12)
 (vf65_0 α x41 x42
 (fun x44 x45 => k1 x44 x45 0))))
 (fun x38 x39 => vf202_0 α x38 x39 x8
 (fun x46 x47 => vf65_0 α x46 x47
 (fun x48 x49 => k1 x48 x49 0)))
noncomputable def f20_0 (α : Type) (x1 : ByteArray) (x2 : Int) (x3 x4 x5 : Rows) (x6 x7 x8 : Int) (k1 : Int → Int → Int → Option α) : Option α := f20_0g J20_0_0 f196_0 f202_0 f65_0 α x1 x2 x3 x4 x5 x6 x7 x8 k1
def pa20_0 : PT (List DV) := pA [pV true [dS, (dI .i64), dL, dL, dL, (dI .i64), (dI .i64)], pV false [(dI .i64)]]
def Fn20_0 (v : Tf20_0) (α : Type) (k : List RV → Option α) : ByteArray → Int → Rows → Rows → Rows → Int → Int → Int → Option α := fun x1 x2 x3 x4 x5 x6 x7 x8 => v α x1 x2 x3 x4 x5 x6 x7 x8 (fun (y1 : Int) (y2 : Int) (y3 : Int) => ur20_0_0 k y1 y2 y3)
noncomputable def cm20_0g (vJ20_0_0 : TJ20_0_0) : MCode := (.seq (.region r20_2 [] (tO [1, 2, 4])) (.seq (.mark [⟨p20_0_0, F20_0_0 vJ20_0_0⟩] c20_0_3) (.seq (.seq (.region r20_7 [] (tO [1, 4, 6, 7, 17])) (.cond (.tmp 17) (.seq (.region r20_10 [] (tO [4, 5])) .ret) .skip)) (.seq (.region r20_12 [] (tO [4, 8, 9])) (.seq (.seq (.region r20_15 [] (tO [4, 8, 27])) (.cond (.tmp 27) (.seq (.region r20_18 [] (tO [4, 5])) .ret) .skip)) (.seq (.region r20_20 [] (tO [4, 5])) .ret))))))
noncomputable def cm20_0 : MCode := cm20_0g J20_0_0
theorem gm20_0 : cm20_0.Good Tryz.prog E20_0 sh20 := ⟨trivial, ⟨⟨g20_0_3, m20_0_0, trivial⟩, ⟨⟨trivial, ⟨⟨trivial, trivial⟩, trivial⟩⟩, ⟨trivial, ⟨⟨trivial, ⟨⟨trivial, trivial⟩, trivial⟩⟩, ⟨trivial, trivial⟩⟩⟩⟩⟩⟩
theorem fm20_0g (vf62_0 : Tf62_0) (vf196_0 : Tf196_0) (vf65_0 : Tf65_0) (vf202_0 : Tf202_0) (vJ20_0_0 : TJ20_0_0) (α : Type) (k : List RV → Option α) : Fn20_0 (f20_0g vJ20_0_0 vf196_0 vf202_0 vf65_0) α k = pa20_0.unc fun ds => fnM Tryz.prog (E20_0g vf62_0 vf196_0 vf65_0 vf202_0) sh20 (cm20_0g vJ20_0_0) rs20 k ds := by kernel_rfl
theorem fm20_0 : ∀ (α : Type) (k : List RV → Option α), Fn20_0 f20_0 α k = pa20_0.unc fun ds => fnM Tryz.prog E20_0 sh20 cm20_0 rs20 k ds := fm20_0g f62_0 f196_0 f65_0 f202_0 J20_0_0
theorem is20 : FnIs Tryz.prog 20 nt20 tr20 tl20 cm20_0.erase rs20 := ⟨Tryz.f20, Tryz.func20, rfl, by kernel_rfl, by kernel_rfl, by kernel_rfl⟩
theorem io20_0 : InstOk Tryz.prog 20 nt20 ⟨pa20_0, Fn20_0 f20_0⟩ := inst_ok eo20_0 followsTry is20 ⟨⟨sh20, cm20_0, by kernel_rfl, gm20_0, fm20_0⟩⟩
abbrev nt17 : Nat := 29
def sh17 : List (Nat × List Sh) := [(10, [.str, .int .i64, .sl, .sl, .sl, .int .i64, .int .i64]), (23, [.int .i64, .int .i64]), (26, [.int .i64, .int .i64])]
def r17_2 : List AOper := [oO 2 (.box (.tmp 0)), oO 4 (.alloc [(cI 0), (cI 0)]), oO 5 (.mv (kI 0))]
def r17_4 : List AOper := [oO 10 (.load true 7 (.tmp 2)), oM 11 1, oO 12 (.call 62 [(.tmp 10), (.tmp 11)]), oM 9 12, oO 13 (.extract 0 (.tmp 9)), oO 14 (.extract 1 (.tmp 9)), oM 6 13, oM 7 14]
def r17_7 : List AOper := [oM 15 7, oO 16 (.bin .neq 26 (.tmp 15) (kI 0))]
def r17_10 : List AOper := [oO 17 (.build [(cI 0), (cI 0)] []), oM 18 7, oD (.store 2 (.tmp 4) (.tmp 17)), oM 5 18]
def r17_12 : List AOper := [oM 19 6, oM 20 1, oO 21 (.inv "etalon/glass.at" (.tmp 19) [(.tmp 20)]), oO 8 (.alloc [(cI 0), (cI 0), (cI 0), (cI 0)]), oD (.store 4 (.tmp 8) (.tmp 21))]
def r17_14 : List AOper := [oO 22 (.iaddr 2 (some 2) (.tmp 8) (kI 0)), oO 23 (.load true 2 (.tmp 22)), oO 24 (.call 63 [(.tmp 23)]), oO 25 (.iaddr 2 (some 2) (.tmp 8) (kI 1)), oO 26 (.load true 2 (.tmp 25)), oO 27 (.call 63 [(.tmp 26)]), oO 28 (.build [(cI 0), (cI 0)] [(0, 1, (.tmp 24)), (1, 1, (.tmp 27))]), oD (.store 2 (.tmp 4) (.tmp 28)), oO 5 (.mv (kI 0))]
def tr17 : List (Nat × Tidy) := [tT 0 [1, 2, 4], tT 1 [1, 4, 6, 7], tT 2 [1, 4, 6, 7, 16], tT 3 [4, 5], tT 4 [4, 8], tT 5 [4, 5]]
def tl17 : List (Nat × Tidy) := []
def rs17 : List AResV := [.cell 4 true 2, .tmp 5]
def p17_0_0 : PT St := pS [sl 1 (aV false [(cD (dI .i64))]), sl 2 (aV false [(cPtr 2 0)]), sl 4 (aV false [(cPtr 4 0)])] [eBox 2 [(cD dS), (cD (dI .i64)), (cD dL), (cD dL), (cD dL), (cD (dI .i64)), (cD (dI .i64))], eBox 4 [(cD (dI .i64)), (cD (dI .i64))]]
def u17_0_0 {β : Type} (g : St → β) : Int → ByteArray → Int → Rows → Rows → Rows → Int → Int → Int → Int → β := p17_0_0.unc g
def p17_0_1 : PT St := pS [sl 1 (aV false [(cD (dI .i64))]), sl 4 (aV false [(cPtr 4 0)]), sl 6 (aV false [(cD dNIf)]), sl 7 (aV false [(cD (dI .i64))])] [eBox 4 [(cD (dI .i64)), (cD (dI .i64))]]
def u17_0_1 {β : Type} (g : St → β) : Int → Int → Int → Int → β := p17_0_1.unc g
def p17_0_2 : PT St := pS [sl 1 (aV false [(cD (dI .i64))]), sl 4 (aV false [(cPtr 4 0)]), sl 6 (aV false [(cD (dIf 169 true [dS, (dI .i64), dL, dL, dL, (dI .i64), (dI .i64)]))]), sl 7 (aV false [(cD (dI .i64))])] [eBox 4 [(cD (dI .i64)), (cD (dI .i64))]]
def u17_0_2 {β : Type} (g : St → β) : Int → ByteArray → Int → Rows → Rows → Rows → Int → Int → Int → Int → Int → β := p17_0_2.unc g
def p17_0_3 : PT St := pS [sl 1 (aV false [(cD (dI .i64))]), sl 4 (aV false [(cPtr 4 0)]), sl 6 (aV false [(cD (dIf 171 true [(dI .i64), (dI .i64)]))]), sl 7 (aV false [(cD (dI .i64))])] [eBox 4 [(cD (dI .i64)), (cD (dI .i64))]]
def u17_0_3 {β : Type} (g : St → β) : Int → Int → Int → Int → Int → Int → β := p17_0_3.unc g
def pr17_0_0 : PT (List RV) := pRs [pR true [rD (dI .i64), rD (dI .i64)], pR false [rD (dI .i64)]]
def ur17_0_0 {β : Type} (g : List RV → β) : Int → Int → Int → β := pr17_0_0.unc g
def E17_0g (vf62_0 : Tf62_0) (vf193_0 : Tf193_0) (vf63_0 : Tf63_0) (vf199_0 : Tf199_0) : EnvK := EnvK.of [⟨62, nt62, [⟨pa62_0, Fn62_0 vf62_0⟩]⟩, ⟨193, nt193, [⟨pa193_0, Fn193_0 vf193_0⟩]⟩, ⟨63, nt63, [⟨pa63_0, Fn63_0 vf63_0⟩]⟩, ⟨199, nt199, [⟨pa199_0, Fn199_0 vf199_0⟩]⟩] noSeq
noncomputable def E17_0 : EnvK := E17_0g f62_0 f193_0 f63_0 f199_0
theorem eo17_0 : E17_0.Ok Tryz.prog := EnvK.of_ok noSeq_ok ⟨⟨io62_0, trivial⟩, ⟨io193_0, trivial⟩, ⟨io63_0, trivial⟩, ⟨io199_0, trivial⟩, trivial⟩
noncomputable def c17_0_3g  : MCode := (.region r17_4 [] (tO [1, 4, 6, 7]))
noncomputable def c17_0_3 : MCode := c17_0_3g 
theorem g17_0_3 : c17_0_3.Good Tryz.prog E17_0 sh17 := trivial
--CODE 3 0
abbrev TJ17_0_0 : Type 1 := (α : Type) → Int → ByteArray → Int → Rows → Rows → Rows → Int → Int → (Int → Option α) → (ByteArray → Int → Rows → Rows → Rows → Int → Int → Option α) → (Int → Int → Option α) → Option α
def J17_0_0g (vf62_0 : Tf62_0) (α : Type) (x9 : Int) (x10 : ByteArray) (x11 : Int) (x12 x13 x14 : Rows) (x15 x16 : Int) (k1 : Int → Option α) (k2 : ByteArray → Int → Rows → Rows → Rows → Int → Int → Option α) (k3 : Int → Int → Option α) : Option α :=
 vf62_0 α x10 x11 x12 x13 x14 x15 x16 x9
 (fun x20 => k1 x20)
 (fun x21 x22 x23 x24 x25 x26 x27 => k2 x21 x22 x23 x24 x25 x26 x27)
 (fun x28 x29 => k3 x28 x29)
noncomputable def J17_0_0 (α : Type) (x9 : Int) (x10 : ByteArray) (x11 : Int) (x12 x13 x14 : Rows) (x15 x16 : Int) (k1 : Int → Option α) (k2 : ByteArray → Int → Rows → Rows → Rows → Int → Int → Option α) (k3 : Int → Int → Option α) : Option α := J17_0_0g f62_0 α x9 x10 x11 x12 x13 x14 x15 x16 k1 k2 k3
def F17_0_0 (v : TJ17_0_0) (α : Type) (K : Exit → St → Option α) : Int → ByteArray → Int → Rows → Rows → Rows → Int → Int → Int → Int → Option α := fun x9 x10 x11 x12 x13 x14 x15 x16 x17 x18 => v α x9 x10 x11 x12 x13 x14 x15 x16 (fun (y1 : Int) => u17_0_1 (K .normal) x9 y1 x17 x18) (fun (y1 : ByteArray) (y2 : Int) (y3 : Rows) (y4 : Rows) (y5 : Rows) (y6 : Int) (y7 : Int) => u17_0_2 (K .normal) x9 y1 y2 y3 y4 y5 y6 y7 0 x17 x18) (fun (y1 : Int) (y2 : Int) => u17_0_3 (K .normal) x9 y1 y2 0 x17 x18) 
theorem m17_0_0g (vf62_0 : Tf62_0) (vf193_0 : Tf193_0) (vf63_0 : Tf63_0) (vf199_0 : Tf199_0)  (α : Type) (K : Exit → St → Option α) : F17_0_0 (J17_0_0g vf62_0) α K = p17_0_0.unc fun σ => runM Tryz.prog (E17_0g vf62_0 vf193_0 vf63_0 vf199_0) sh17 (c17_0_3g ) K σ := by kernel_rfl
theorem m17_0_0 : ∀ (α : Type) (K : Exit → St → Option α), F17_0_0 J17_0_0 α K = p17_0_0.unc fun σ => runM Tryz.prog E17_0 sh17 c17_0_3 K σ := m17_0_0g f62_0 f193_0 f63_0 f199_0
abbrev Tf17_0 : Type 1 := (α : Type) → ByteArray → Int → Rows → Rows → Rows → Int → Int → Int → (Int → Int → Int → Option α) → Option α
def f17_0g (vJ17_0_0 : TJ17_0_0) (vf193_0 : Tf193_0) (vf199_0 : Tf199_0) (vf63_0 : Tf63_0) (α : Type) (x1 : ByteArray) (x2 : Int) (x3 x4 x5 : Rows) (x6 x7 x8 : Int) (k1 : Int → Int → Int → Option α) : Option α :=
 vJ17_0_0 α x8 x1 x2 x3 x4 x5 x6 x7
 (fun x30 => cK (x30 != 0)
 (k1 0 0 x30)
 (none))
 (fun x31 x32 x33 x34 x35 x36 x37 => vf193_0 α x31 x32 x33 x34 x35 x36 x37 x8
 (fun x41 x42 x43 x44 => vf63_0 α x41 x42
 (fun x45 => vf63_0 α x43 x44
 (fun x46 => k1 x45 x46 0))))
 (fun x38 x39 => vf199_0 α x38 x39 x8
 (fun x47 x48 => vf63_0 α x47 x48
 (fun x49 => vf63_0 α 0 1
 (fun x50 => k1 x49 x50 0))))
noncomputable def f17_0 (α : Type) (x1 : ByteArray) (x2 : Int) (x3 x4 x5 : Rows) (x6 x7 x8 : Int) (k1 : Int → Int → Int → Option α) : Option α := f17_0g J17_0_0 f193_0 f199_0 f63_0 α x1 x2 x3 x4 x5 x6 x7 x8 k1
def pa17_0 : PT (List DV) := pA [pV true [dS, (dI .i64), dL, dL, dL, (dI .i64), (dI .i64)], pV false [(dI .i64)]]
def Fn17_0 (v : Tf17_0) (α : Type) (k : List RV → Option α) : ByteArray → Int → Rows → Rows → Rows → Int → Int → Int → Option α := fun x1 x2 x3 x4 x5 x6 x7 x8 => v α x1 x2 x3 x4 x5 x6 x7 x8 (fun (y1 : Int) (y2 : Int) (y3 : Int) => ur17_0_0 k y1 y2 y3)
noncomputable def cm17_0g (vJ17_0_0 : TJ17_0_0) : MCode := (.seq (.region r17_2 [] (tO [1, 2, 4])) (.seq (.mark [⟨p17_0_0, F17_0_0 vJ17_0_0⟩] c17_0_3) (.seq (.seq (.region r17_7 [] (tO [1, 4, 6, 7, 16])) (.cond (.tmp 16) (.seq (.region r17_10 [] (tO [4, 5])) .ret) .skip)) (.seq (.region r17_12 [] (tO [4, 8])) (.seq (.region r17_14 [(2, 4)] (tO [4, 5])) .ret)))))
noncomputable def cm17_0 : MCode := cm17_0g J17_0_0
theorem gm17_0 : cm17_0.Good Tryz.prog E17_0 sh17 := ⟨trivial, ⟨⟨g17_0_3, m17_0_0, trivial⟩, ⟨⟨trivial, ⟨⟨trivial, trivial⟩, trivial⟩⟩, ⟨trivial, ⟨trivial, trivial⟩⟩⟩⟩⟩
theorem fm17_0g (vf62_0 : Tf62_0) (vf193_0 : Tf193_0) (vf63_0 : Tf63_0) (vf199_0 : Tf199_0) (vJ17_0_0 : TJ17_0_0) (α : Type) (k : List RV → Option α) : Fn17_0 (f17_0g vJ17_0_0 vf193_0 vf199_0 vf63_0) α k = pa17_0.unc fun ds => fnM Tryz.prog (E17_0g vf62_0 vf193_0 vf63_0 vf199_0) sh17 (cm17_0g vJ17_0_0) rs17 k ds := by kernel_rfl
theorem fm17_0 : ∀ (α : Type) (k : List RV → Option α), Fn17_0 f17_0 α k = pa17_0.unc fun ds => fnM Tryz.prog E17_0 sh17 cm17_0 rs17 k ds := fm17_0g f62_0 f193_0 f63_0 f199_0 J17_0_0
theorem is17 : FnIs Tryz.prog 17 nt17 tr17 tl17 cm17_0.erase rs17 := ⟨Tryz.f17, Tryz.func17, rfl, by kernel_rfl, by kernel_rfl, by kernel_rfl⟩
theorem io17_0 : InstOk Tryz.prog 17 nt17 ⟨pa17_0, Fn17_0 f17_0⟩ := inst_ok eo17_0 followsTry is17 ⟨⟨sh17, cm17_0, by kernel_rfl, gm17_0, fm17_0⟩⟩
abbrev nt19 : Nat := 69
def sh19 : List (Nat × List Sh) := [(12, [.str, .int .i64, .sl, .sl, .sl, .int .i64, .int .i64]), (22, [.int .i64]), (24, [.int .i64]), (27, [.int .i64]), (29, [.int .i64]), (35, [.int .i64]), (38, [.int .i64]), (41, [.int .i64, .int .i64]), (44, [.int .i64, .int .i64]), (50, [.int .i64]), (52, [.int .i64]), (57, [.int .i64]), (59, [.int .i64]), (64, [.cpx .f64, .int .i64]), (68, [.cpx .f64, .int .i64])]
def r19_2 : List AOper := [oO 2 (.box (.tmp 0)), oO 4 (.alloc [(.d (.v (.complex Go.FloatKind.f64 0 0))), (cI 0)]), oO 5 (.mv (kI 0))]
def r19_4 : List AOper := [oO 12 (.load true 7 (.tmp 2)), oM 13 1, oO 14 (.call 17 [(.tmp 12), (.tmp 13)]), oM 11 14, oO 15 (.extract 0 (.tmp 11)), oO 16 (.extract 1 (.tmp 11)), oO 6 (.alloc [(cI 0), (cI 0)]), oD (.store 2 (.tmp 6) (.tmp 15)), oM 7 16]
def r19_7 : List AOper := [oM 17 7, oO 18 (.bin .neq 26 (.tmp 17) (kI 0))]
def r19_10 : List AOper := [oO 19 (.build [(.d (.v (.complex Go.FloatKind.f64 0 0))), (cI 0)] []), oM 20 7, oD (.store 2 (.tmp 4) (.tmp 19)), oM 5 20]
def r19_12 : List AOper := [oO 21 (.iaddr 1 (some 2) (.tmp 6) (kI 0)), oO 22 (.load false 1 (.tmp 21)), oO 23 (.iaddr 1 (some 2) (.tmp 6) (kI 0)), oO 24 (.load false 1 (.tmp 23)), oO 25 (.bin .mul 3 (.tmp 22) (.tmp 24)), oO 26 (.iaddr 1 (some 2) (.tmp 6) (kI 1)), oO 27 (.load false 1 (.tmp 26)), oO 28 (.iaddr 1 (some 2) (.tmp 6) (kI 1)), oO 29 (.load false 1 (.tmp 28)), oO 30 (.bin .mul 3 (.tmp 27) (.tmp 29)), oO 31 (.bin .sub 3 (.tmp 25) (.tmp 30)), oO 32 (.bin .mul 3 (kI 1048576) (.tmp 31)), oO 33 (.build [(cI 0), (cI 0)] [(0, 1, (.tmp 32)), (1, 1, (kI 100000000))]), oO 8 (.alloc [(cI 0), (cI 0)]), oD (.store 2 (.tmp 8) (.tmp 33))]
def r19_14 : List AOper := [oO 34 (.iaddr 1 (some 2) (.tmp 6) (kI 0)), oO 35 (.load false 1 (.tmp 34)), oO 36 (.bin .mul 3 (kI 2097152) (.tmp 35)), oO 37 (.iaddr 1 (some 2) (.tmp 6) (kI 1)), oO 38 (.load false 1 (.tmp 37)), oO 39 (.bin .mul 3 (.tmp 36) (.tmp 38)), oO 40 (.build [(cI 0), (cI 0)] [(0, 1, (.tmp 39)), (1, 1, (kI 100000000))]), oO 9 (.alloc [(cI 0), (cI 0)]), oD (.store 2 (.tmp 9) (.tmp 40))]
def r19_16 : List AOper := [oO 41 (.load true 2 (.tmp 8)), oO 42 (.call 63 [(.tmp 41)]), oO 43 (.pure (oB (.convert 3 117 (.tmp 42)) 117)), oO 44 (.load true 2 (.tmp 9)), oO 45 (.call 63 [(.tmp 44)]), oO 46 (.pure (oB (.convert 3 117 (.tmp 45)) 117)), oO 47 (.pure (oB (.call { callee := .builtin .complex, args := #[(.tmp 43), (.tmp 46)], argTypes := #[117, 117] }) 43)), oO 48 (.build [(.d (.v (.complex Go.FloatKind.f64 0 0))), (cI 0)] [(0, 1, (.tmp 47))]), oO 10 (.alloc [(.d (.v (.complex Go.FloatKind.f64 0 0))), (cI 0)]), oD (.store 2 (.tmp 10) (.tmp 48))]
def r19_19 : List AOper := [oO 49 (.faddr 0 (.tmp 8)), oO 50 (.load false 1 (.tmp 49)), oO 51 (.faddr 1 (.tmp 8)), oO 52 (.load false 1 (.tmp 51)), oO 53 (.bin .rem 3 (.tmp 50) (.tmp 52)), oO 54 (.bin .neq 3 (.tmp 53) (kI 0)), oM 55 54, oG 56 (.faddr 0 (.tmp 9)) 55 false, oG 57 (.load false 1 (.tmp 56)) 55 false, oG 58 (.faddr 1 (.tmp 9)) 55 false, oG 59 (.load false 1 (.tmp 58)) 55 false, oG 60 (.bin .rem 3 (.tmp 57) (.tmp 59)) 55 false, oG 61 (.bin .neq 3 (.tmp 60) (kI 0)) 55 false, oO 62 (.pick (.tmp 55) (.const (.bool true)) (.tmp 61))]
def r19_21 : List AOper := [oO 63 (.faddr 1 (.tmp 10)), oD (.store 1 (.tmp 63) (kI 1))]
def r19_24 : List AOper := [oO 64 (.load true 2 (.tmp 10)), oO 65 (.call 64 [(.tmp 64)]), oO 66 (.bin .neq 26 (.tmp 65) (kI 0))]
def r19_27 : List AOper := [oO 67 (.build [(.d (.v (.complex Go.FloatKind.f64 0 0))), (cI 0)] []), oD (.store 2 (.tmp 4) (.tmp 67)), oO 5 (.mv (kI 8))]
def r19_29 : List AOper := [oO 68 (.load true 2 (.tmp 10)), oD (.store 2 (.tmp 4) (.tmp 68)), oO 5 (.mv (kI 0))]
def tr19 : List (Nat × Tidy) := [tT 0 [1, 2, 4], tT 1 [4, 6, 7], tT 2 [4, 6, 7, 18], tT 3 [4, 5], tT 4 [4, 6, 8], tT 5 [4, 8, 9], tT 6 [4, 8, 9, 10], tT 7 [4, 10, 62], tT 8 [4, 10], tT 9 [4, 10, 66], tT 10 [4, 5], tT 11 [4, 5]]
def tl19 : List (Nat × Tidy) := []
def rs19 : List AResV := [.cell 4 true 2, .tmp 5]
def p19_0_0 : PT St := pS [sl 4 (aV false [(cPtr 4 0)]), sl 8 (aV false [(cPtr 8 0)]), sl 9 (aV false [(cPtr 9 0)]), sl 10 (aV false [(cPtr 10 0)])] [eBox 4 [(cD (dX .f64)), (cD (dI .i64))], eBox 8 [(cD (dI .i64)), (cD (dI .i64))], eBox 9 [(cD (dI .i64)), (cD (dI .i64))], eBox 10 [(cD (dX .f64)), (cD (dI .i64))]]
def u19_0_0 {β : Type} (g : St → β) : Nat → Nat → Int → Int → Int → Int → Int → Nat → Nat → Int → β := p19_0_0.unc g
def p19_0_1 : PT St := pS [sl 4 (aV false [(cPtr 4 0)]), sl 10 (aV false [(cPtr 10 0)])] [eBox 4 [(cD (dX .f64)), (cD (dI .i64))], eBox 10 [(cD (dX .f64)), (cD (dI .i64))]]
def u19_0_1 {β : Type} (g : St → β) : Nat → Nat → Int → Nat → Nat → Int → β := p19_0_1.unc g
def p19_0_2 : PT St := pS [sl 4 (aV false [(cPtr 4 0)]), sl 10 (aV false [(cPtr 10 0)]), sl 62 (aV false [(cD dB)])] [eBox 4 [(cD (dX .f64)), (cD (dI .i64))], eBox 10 [(cD (dX .f64)), (cD (dI .i64))]]
def u19_0_2 {β : Type} (g : St → β) : Bool → Nat → Nat → Int → Nat → Nat → Int → β := p19_0_2.unc g
def pr19_0_0 : PT (List RV) := pRs [pR true [rD (dX .f64), rD (dI .i64)], pR false [rD (dI .i64)]]
def ur19_0_0 {β : Type} (g : List RV → β) : Nat → Nat → Int → Int → β := pr19_0_0.unc g
def E19_0g (vf17_0 : Tf17_0) (vf63_0 : Tf63_0) (vf64_0 : Tf64_0) : EnvK := EnvK.of [⟨17, nt17, [⟨pa17_0, Fn17_0 vf17_0⟩]⟩, ⟨63, nt63, [⟨pa63_0, Fn63_0 vf63_0⟩]⟩, ⟨64, nt64, [⟨pa64_0, Fn64_0 vf64_0⟩]⟩] noSeq
noncomputable def E19_0 : EnvK := E19_0g f17_0 f63_0 f64_0
theorem eo19_0 : E19_0.Ok Tryz.prog := EnvK.of_ok noSeq_ok ⟨⟨io17_0, trivial⟩, ⟨io63_0, trivial⟩, ⟨io64_0, trivial⟩, trivial⟩
noncomputable def c19_0_17g  : MCode := (.seq (.region r19_19 [] (tO [4, 10, 62])) (.cond (.tmp 62) (.region r19_21 [] (tO [4, 10])) .skip))
noncomputable def c19_0_17 : MCode := c19_0_17g 
theorem g19_0_17 : c19_0_17.Good Tryz.prog E19_0 sh19 := ⟨trivial, ⟨trivial, trivial⟩⟩
--CODE 17 0
abbrev TJ19_0_0 : Type 1 := (α : Type) → Int → Int → Int → Int → (Option α) → (Bool → Option α) → Option α
def J19_0_0g  (α : Type) (x17 x18 x19 x20 : Int) (k1 : Option α) (k2 : Bool → Option α) : Option α :=
 gK (x18 != 0) (cK ((Int.tmod x17 x18) != 0)
 (k1)
 (gK (x20 != 0) (cK ((Int.tmod x19 x20) != 0)
 (k1)
 (k2 ((Int.tmod x19 x20) != 0)))))
noncomputable def J19_0_0 (α : Type) (x17 x18 x19 x20 : Int) (k1 : Option α) (k2 : Bool → Option α) : Option α := J19_0_0g  α x17 x18 x19 x20 k1 k2
def F19_0_0 (v : TJ19_0_0) (α : Type) (K : Exit → St → Option α) : Nat → Nat → Int → Int → Int → Int → Int → Nat → Nat → Int → Option α := fun x14 x15 x16 x17 x18 x19 x20 x21 x22 x23 => v α x17 x18 x19 x20 (u19_0_1 (K .normal) x14 x15 x16 x21 x22 1) (fun (y1 : Bool) => u19_0_2 (K .normal) y1 x14 x15 x16 x21 x22 x23) 
theorem m19_0_0g (vf17_0 : Tf17_0) (vf63_0 : Tf63_0) (vf64_0 : Tf64_0)  (α : Type) (K : Exit → St → Option α) : F19_0_0 (J19_0_0g ) α K = p19_0_0.unc fun σ => runM Tryz.prog (E19_0g vf17_0 vf63_0 vf64_0) sh19 (c19_0_17g ) K σ := by kernel_rfl
theorem m19_0_0 : ∀ (α : Type) (K : Exit → St → Option α), F19_0_0 J19_0_0 α K = p19_0_0.unc fun σ => runM Tryz.prog E19_0 sh19 c19_0_17 K σ := m19_0_0g f17_0 f63_0 f64_0
abbrev Tf19_0 : Type 1 := (α : Type) → ByteArray → Int → Rows → Rows → Rows → Int → Int → Int → (Nat → Nat → Int → Int → Option α) → Option α
def f19_0g (vJ19_0_0 : TJ19_0_0) (vf17_0 : Tf17_0) (vf63_0 : Tf63_0) (vf64_0 : Tf64_0) (α : Type) (x1 : ByteArray) (x2 : Int) (x3 x4 x5 : Rows) (x6 x7 x8 : Int) (k1 : Nat → Nat → Int → Int → Option α) : Option α :=
 vf17_0 α x1 x2 x3 x4 x5 x6 x7 x8
 (fun x9 x10 x11 => cK (x11 != 0)
 (k1 0 0 0 x11)
 (vf63_0 α (w64 (1048576 * (w64 ((w64 (x9 * x9)) - (w64 (x10 * x10)))))) 100000000
 (fun x12 => vf63_0 α (w64 ((w64 (2097152 * x9)) * x10)) 100000000
 (fun x13 => vJ19_0_0 α (w64 (1048576 * (w64 ((w64 (x9 * x9)) - (w64 (x10 * x10)))))) 100000000 (w64 ((w64 (2097152 * x9)) * x10)) 100000000
 (vf64_0 α (FloatKind.nearest .f64 x12) (FloatKind.nearest .f64 x13) 1
 (fun x27 => cK (x27 != 0)
 (k1 0 0 0 8)
 (k1 (FloatKind.nearest .f64 x12) (FloatKind.nearest .f64 x13) 1 0)))
 (fun x25 => vf64_0 α (FloatKind.nearest .f64 x12) (FloatKind.nearest .f64 x13) 0
 (fun x28 => cK (x28 != 0)
 (k1 0 0 0 8)
 (k1 (FloatKind.nearest .f64 x12) (FloatKind.nearest .f64 x13) 0 0)))))))
noncomputable def f19_0 (α : Type) (x1 : ByteArray) (x2 : Int) (x3 x4 x5 : Rows) (x6 x7 x8 : Int) (k1 : Nat → Nat → Int → Int → Option α) : Option α := f19_0g J19_0_0 f17_0 f63_0 f64_0 α x1 x2 x3 x4 x5 x6 x7 x8 k1
def pa19_0 : PT (List DV) := pA [pV true [dS, (dI .i64), dL, dL, dL, (dI .i64), (dI .i64)], pV false [(dI .i64)]]
def Fn19_0 (v : Tf19_0) (α : Type) (k : List RV → Option α) : ByteArray → Int → Rows → Rows → Rows → Int → Int → Int → Option α := fun x1 x2 x3 x4 x5 x6 x7 x8 => v α x1 x2 x3 x4 x5 x6 x7 x8 (fun (y1 : Nat) (y2 : Nat) (y3 : Int) (y4 : Int) => ur19_0_0 k y1 y2 y3 y4)
noncomputable def cm19_0g (vJ19_0_0 : TJ19_0_0) : MCode := (.seq (.region r19_2 [] (tO [1, 2, 4])) (.seq (.region r19_4 [] (tO [4, 6, 7])) (.seq (.seq (.region r19_7 [] (tO [4, 6, 7, 18])) (.cond (.tmp 18) (.seq (.region r19_10 [] (tO [4, 5])) .ret) .skip)) (.seq (.region r19_12 [] (tO [4, 6, 8])) (.seq (.region r19_14 [] (tO [4, 8, 9])) (.seq (.region r19_16 [(1, 3), (0, 8), (1, 8), (3, 8), (4, 8)] (tO [4, 8, 9, 10])) (.seq (.mark [⟨p19_0_0, F19_0_0 vJ19_0_0⟩] c19_0_17) (.seq (.seq (.region r19_24 [] (tO [4, 10, 66])) (.cond (.tmp 66) (.seq (.region r19_27 [] (tO [4, 5])) .ret) .skip)) (.seq (.region r19_29 [] (tO [4, 5])) .ret)))))))))
noncomputable def cm19_0 : MCode := cm19_0g J19_0_0
theorem gm19_0 : cm19_0.Good Tryz.prog E19_0 sh19 := ⟨trivial, ⟨trivial, ⟨⟨trivial, ⟨⟨trivial, trivial⟩, trivial⟩⟩, ⟨trivial, ⟨trivial, ⟨trivial, ⟨⟨g19_0_17, m19_0_0, trivial⟩, ⟨⟨trivial, ⟨⟨trivial, trivial⟩, trivial⟩⟩, ⟨trivial, trivial⟩⟩⟩⟩⟩⟩⟩⟩⟩
theorem fm19_0g (vf17_0 : Tf17_0) (vf63_0 : Tf63_0) (vf64_0 : Tf64_0) (vJ19_0_0 : TJ19_0_0) (α : Type) (k : List RV → Option α) : Fn19_0 (f19_0g vJ19_0_0 vf17_0 vf63_0 vf64_0) α k = pa19_0.unc fun ds => fnM Tryz.prog (E19_0g vf17_0 vf63_0 vf64_0) sh19 (cm19_0g vJ19_0_0) rs19 k ds := by kernel_rfl
theorem fm19_0 : ∀ (α : Type) (k : List RV → Option α), Fn19_0 f19_0 α k = pa19_0.unc fun ds => fnM Tryz.prog E19_0 sh19 cm19_0 rs19 k ds := fm19_0g f17_0 f63_0 f64_0 J19_0_0
theorem is19 : FnIs Tryz.prog 19 nt19 tr19 tl19 cm19_0.erase rs19 := ⟨Tryz.f19, Tryz.func19, rfl, by kernel_rfl, by kernel_rfl, by kernel_rfl⟩
theorem io19_0 : InstOk Tryz.prog 19 nt19 ⟨pa19_0, Fn19_0 f19_0⟩ := inst_ok eo19_0 followsTry is19 ⟨⟨sh19, cm19_0, by kernel_rfl, gm19_0, fm19_0⟩⟩
abbrev nt4 : Nat := 126
def sh4 : List (Nat × List Sh) := [(19, [.str, .int .i64, .sl, .sl, .sl, .int .i64, .int .i64]), (23, [.str, .int .i64, .sl, .sl, .sl, .int .i64, .int .i64]), (30, [.str, .int .i64, .sl, .sl, .sl, .int .i64, .int .i64]), (37, [.str, .int .i64, .sl, .sl, .sl, .int .i64, .int .i64]), (44, [.str, .int .i64, .sl, .sl, .sl, .int .i64, .int .i64]), (50, [.str, .int .i64, .sl, .sl, .sl, .int .i64, .int .i64]), (69, [.int .i64, .int .i64]), (74, [.cpx .f64, .int .i64]), (79, [.int .i64, .int .i64]), (84, [.str, .int .i64, .sl, .sl, .sl, .int .i64, .int .i64]), (91, [.str, .int .i64, .sl, .sl, .sl, .int .i64, .int .i64]), (99, [.int .i64, .int .i64]), (100, [.str, .int .i64, .sl, .sl, .sl, .int .i64, .int .i64]), (111, [.cpx .f64, .int .i64]), (112, [.int .i64, .int .i64, .int .i64]), (122, [.int .i64, .int .i64]), (123, [.int .i64, .int .i64])]
def r4_2 : List AOper := [oO 2 (.box (.tmp 0)), oO 4 (.mv (.const (.bool false)))]
def r4_5 : List AOper := [oO 17 (.call 9 []), oO 18 (.pure (oB (.unOp .not 4 (.tmp 17)) 4))]
def r4_8 : List AOper := [oO 4 (.mv (.const (.bool false)))]
def r4_11 : List AOper := [oO 19 (.load true 7 (.tmp 2)), oO 20 (.call 16 [(.tmp 19)]), oO 21 (.pure (oB (.unOp .not 4 (.tmp 20)) 4))]
def r4_14 : List AOper := [oO 4 (.mv (.const (.bool true)))]
def r4_16 : List AOper := [oO 23 (.load true 7 (.tmp 2)), oO 24 (.call 18 [(.tmp 23)]), oM 25 1, oO 26 (.call 17 [(.tmp 24), (.tmp 25)]), oM 22 26, oO 27 (.extract 0 (.tmp 22)), oO 28 (.extract 1 (.tmp 22)), oO 5 (.alloc [(cI 0), (cI 0)]), oD (.store 2 (.tmp 5) (.tmp 27)), oM 6 28]
def r4_18 : List AOper := [oO 30 (.load true 7 (.tmp 2)), oO 31 (.call 18 [(.tmp 30)]), oM 32 1, oO 33 (.call 19 [(.tmp 31), (.tmp 32)]), oM 29 33, oO 34 (.extract 0 (.tmp 29)), oO 35 (.extract 1 (.tmp 29)), oO 7 (.alloc [(.d (.v (.complex Go.FloatKind.f64 0 0))), (cI 0)]), oD (.store 2 (.tmp 7) (.tmp 34)), oM 8 35]
def r4_20 : List AOper := [oO 37 (.load true 7 (.tmp 2)), oO 38 (.call 18 [(.tmp 37)]), oM 39 1, oO 40 (.call 20 [(.tmp 38), (.tmp 39)]), oM 36 40, oO 41 (.extract 0 (.tmp 36)), oO 42 (.extract 1 (.tmp 36)), oO 9 (.alloc [(cI 0), (cI 0)]), oD (.store 2 (.tmp 9) (.tmp 41)), oM 10 42]
def r4_22 : List AOper := [oO 44 (.load true 7 (.tmp 2)), oO 45 (.call 21 [(.tmp 44)]), oM 43 45, oO 46 (.extract 0 (.tmp 43)), oO 47 (.extract 1 (.tmp 43)), oM 11 46, oM 12 47]
def r4_25 : List AOper := [oM 48 12, oO 49 (.bin .eql 3 (.tmp 48) (kI 0))]
def r4_27 : List AOper := [oO 50 (.load true 7 (.tmp 2)), oM 51 1, oO 52 (.call 22 [(.tmp 50), (.tmp 51)]), oM 12 52]
def r4_30 : List AOper := [oM 53 12, oO 54 (.bin .neq 3 (.tmp 53) (kI 0))]
def r4_33 : List AOper := [oM 55 6, oM 56 12, oO 57 (.bin .eql 3 (.tmp 55) (.tmp 56)), oM 58 57, oG 59 (.mv (.tmp 8)) 58 true, oG 60 (.mv (.tmp 12)) 58 true, oG 61 (.bin .eql 3 (.tmp 59) (.tmp 60)) 58 true, oO 62 (.pick (.tmp 58) (.tmp 61) (.const (.bool false))), oM 63 62, oG 64 (.mv (.tmp 10)) 63 true, oG 65 (.mv (.tmp 12)) 63 true, oG 66 (.bin .eql 3 (.tmp 64) (.tmp 65)) 63 true, oO 67 (.pick (.tmp 63) (.tmp 66) (.const (.bool false))), oM 68 67, oG 69 (.load true 2 (.tmp 5)) 68 true, oG 70 (.build [(cI 0), (cI 0)] []) 68 true, oG 71 (.bin .eql 36 (.tmp 69) (.tmp 70)) 68 true, oO 72 (.pick (.tmp 68) (.tmp 71) (.const (.bool false))), oM 73 72, oG 74 (.load true 2 (.tmp 7)) 73 true, oG 75 (.build [(.d (.v (.complex Go.FloatKind.f64 0 0))), (cI 0)] []) 73 true, oG 76 (.call 23 [(.tmp 74), (.tmp 75)]) 73 true, oO 77 (.pick (.tmp 73) (.tmp 76) (.const (.bool false))), oM 78 77, oG 79 (.load true 2 (.tmp 9)) 78 true, oG 80 (.build [(cI 0), (cI 0)] []) 78 true, oG 81 (.bin .eql 49 (.tmp 79) (.tmp 80)) 78 true, oO 82 (.pick (.tmp 78) (.tmp 81) (.const (.bool false))), oM 4 82]
def r4_35 : List AOper := [oO 84 (.load true 7 (.tmp 2)), oM 85 1, oO 86 (.call 25 [(.tmp 84), (.tmp 85)]), oO 87 (.call 24 [(.tmp 86)]), oM 83 87, oO 88 (.extract 0 (.tmp 83)), oO 89 (.extract 1 (.tmp 83)), oO 13 (.alloc [(cI 0), (cI 0), (cI 0)]), oD (.store 3 (.tmp 13) (.tmp 88)), oM 14 89]
def r4_37 : List AOper := [oO 91 (.load true 7 (.tmp 2)), oM 92 1, oO 93 (.call 26 [(.tmp 91), (.tmp 92)]), oM 90 93, oO 94 (.extract 0 (.tmp 90)), oO 95 (.extract 1 (.tmp 90)), oO 15 (.alloc [(cI 0), (cI 0)]), oD (.store 2 (.tmp 15) (.tmp 94)), oM 16 95]
def r4_39 : List AOper := [oM 96 6, oO 97 (.bin .eql 26 (.tmp 96) (kI 0)), oM 98 97, oG 99 (.load true 2 (.tmp 5)) 98 true, oG 100 (.load true 7 (.tmp 2)) 98 true, oG 101 (.mv (.tmp 1)) 98 true, oG 102 (.call 25 [(.tmp 100), (.tmp 101)]) 98 true, oG 103 (.bin .eql 36 (.tmp 99) (.tmp 102)) 98 true, oO 104 (.pick (.tmp 98) (.tmp 103) (.const (.bool false))), oM 105 104, oG 106 (.mv (.tmp 8)) 105 true, oG 107 (.mv (.tmp 14)) 105 true, oG 108 (.bin .eql 3 (.tmp 106) (.tmp 107)) 105 true, oO 109 (.pick (.tmp 105) (.tmp 108) (.const (.bool false))), oM 110 109, oG 111 (.load true 2 (.tmp 7)) 110 true, oG 112 (.load true 3 (.tmp 13)) 110 true, oG 113 (.call 27 [(.tmp 112)]) 110 true, oG 114 (.call 23 [(.tmp 111), (.tmp 113)]) 110 true, oO 115 (.pick (.tmp 110) (.tmp 114) (.const (.bool false))), oM 116 115, oG 117 (.mv (.tmp 10)) 116 true, oG 118 (.mv (.tmp 16)) 116 true, oG 119 (.bin .eql 3 (.tmp 117) (.tmp 118)) 116 true, oO 120 (.pick (.tmp 116) (.tmp 119) (.const (.bool false))), oM 121 120, oG 122 (.load true 2 (.tmp 9)) 121 true, oG 123 (.load true 2 (.tmp 15)) 121 true, oG 124 (.bin .eql 49 (.tmp 122) (.tmp 123)) 121 true, oO 125 (.pick (.tmp 121) (.tmp 124) (.const (.bool false))), oM 4 125]
def tr4 : List (Nat × Tidy) := [tT 0 [1, 2], tT 1 [1, 2, 18], tT 2 [4], tT 3 [1, 2, 21], tT 4 [4], tT 5 [1, 2, 5, 6], tT 6 [1, 2, 5, 6, 7, 8], tT 7 [1, 2, 5, 6, 7, 8, 9, 10], tT 8 [1, 2, 5, 6, 7, 8, 9, 10, 12], tT 9 [1, 2, 5, 6, 7, 8, 9, 10, 12, 49], tT 10 [1, 2, 5, 6, 7, 8, 9, 10, 12], tT 11 [1, 2, 5, 6, 7, 8, 9, 10, 12, 54], tT 12 [4], tT 13 [1, 2, 5, 6, 7, 8, 9, 10, 13, 14], tT 14 [1, 2, 5, 6, 7, 8, 9, 10, 13, 14, 15, 16], tT 15 [4]]
def tl4 : List (Nat × Tidy) := []
def rs4 : List AResV := [.tmp 4]
def p4_0_0 : PT St := pS [sl 1 (aV false [(cD (dI .i64))]), sl 2 (aV false [(cPtr 2 0)]), sl 5 (aV false [(cPtr 5 0)]), sl 6 (aV false [(cD (dI .i64))]), sl 7 (aV false [(cPtr 7 0)]), sl 8 (aV false [(cD (dI .i64))]), sl 9 (aV false [(cPtr 9 0)]), sl 10 (aV false [(cD (dI .i64))]), sl 12 (aV false [(cD (dI .i64))])] [eBox 2 [(cD dS), (cD (dI .i64)), (cD dL), (cD dL), (cD dL), (cD (dI .i64)), (cD (dI .i64))], eBox 5 [(cD (dI .i64)), (cD (dI .i64))], eBox 7 [(cD (dX .f64)), (cD (dI .i64))], eBox 9 [(cD (dI .i64)), (cD (dI .i64))]]
def u4_0_0 {β : Type} (g : St → β) : Int → Int → Int → Int → Int → ByteArray → Int → Rows → Rows → Rows → Int → Int → Int → Int → Nat → Nat → Int → Int → Int → β := p4_0_0.unc g
def p4_0_1 : PT St := pS [sl 1 (aV false [(cD (dI .i64))]), sl 2 (aV false [(cPtr 2 0)]), sl 5 (aV false [(cPtr 5 0)]), sl 6 (aV false [(cD (dI .i64))]), sl 7 (aV false [(cPtr 7 0)]), sl 8 (aV false [(cD (dI .i64))]), sl 9 (aV false [(cPtr 9 0)]), sl 10 (aV false [(cD (dI .i64))]), sl 12 (aV false [(cD (dI .i64))]), sl 49 (aV false [(cD dB)])] [eBox 2 [(cD dS), (cD (dI .i64)), (cD dL), (cD dL), (cD dL), (cD (dI .i64)), (cD (dI .i64))], eBox 5 [(cD (dI .i64)), (cD (dI .i64))], eBox 7 [(cD (dX .f64)), (cD (dI .i64))], eBox 9 [(cD (dI .i64)), (cD (dI .i64))]]
def u4_0_1 {β : Type} (g : St → β) : Int → Int → Int → Int → Int → Bool → ByteArray → Int → Rows → Rows → Rows → Int → Int → Int → Int → Nat → Nat → Int → Int → Int → β := p4_0_1.unc g
def pr4_0_0 : PT (List RV) := pRs [pR false [rD dB]]
def ur4_0_0 {β : Type} (g : List RV → β) : Bool → β := pr4_0_0.unc g
def E4_0g (vf9_0 : Tf9_0) (vf16_0 : Tf16_0) (vf18_0 : Tf18_0) (vf17_0 : Tf17_0) (vf19_0 : Tf19_0) (vf20_0 : Tf20_0) (vf21_0 : Tf21_0) (vf22_0 : Tf22_0) (vf23_0 : Tf23_0) (vf25_0 : Tf25_0) (vf24_0 : Tf24_0) (vf26_0 : Tf26_0) (vf27_0 : Tf27_0) : EnvK := EnvK.of [⟨9, nt9, [⟨pa9_0, Fn9_0 vf9_0⟩]⟩, ⟨16, nt16, [⟨pa16_0, Fn16_0 vf16_0⟩]⟩, ⟨18, nt18, [⟨pa18_0, Fn18_0 vf18_0⟩]⟩, ⟨17, nt17, [⟨pa17_0, Fn17_0 vf17_0⟩]⟩, ⟨19, nt19, [⟨pa19_0, Fn19_0 vf19_0⟩]⟩, ⟨20, nt20, [⟨pa20_0, Fn20_0 vf20_0⟩]⟩, ⟨21, nt21, [⟨pa21_0, Fn21_0 vf21_0⟩]⟩, ⟨22, nt22, [⟨pa22_0, Fn22_0 vf22_0⟩]⟩, ⟨23, nt23, [⟨pa23_0, Fn23_0 vf23_0⟩]⟩, ⟨25, nt25, [⟨pa25_0, Fn25_0 vf25_0⟩]⟩, ⟨24, nt24, [⟨pa24_0, Fn24_0 vf24_0⟩]⟩, ⟨26, nt26, [⟨pa26_0, Fn26_0 vf26_0⟩]⟩, ⟨27, nt27, [⟨pa27_0, Fn27_0 vf27_0⟩]⟩] noSeq
noncomputable def E4_0 : EnvK := E4_0g f9_0 f16_0 f18_0 f17_0 f19_0 f20_0 f21_0 f22_0 f23_0 f25_0 f24_0 f26_0 f27_0
theorem eo4_0 : E4_0.Ok Tryz.prog := EnvK.of_ok noSeq_ok ⟨⟨io9_0, trivial⟩, ⟨io16_0, trivial⟩, ⟨io18_0, trivial⟩, ⟨io17_0, trivial⟩, ⟨io19_0, trivial⟩, ⟨io20_0, trivial⟩, ⟨io21_0, trivial⟩, ⟨io22_0, trivial⟩, ⟨io23_0, trivial⟩, ⟨io25_0, trivial⟩, ⟨io24_0, trivial⟩, ⟨io26_0, trivial⟩, ⟨io27_0, trivial⟩, trivial⟩
noncomputable def c4_0_23g  : MCode := (.seq (.region r4_25 [] (tO [1, 2, 5, 6, 7, 8, 9, 10, 12, 49])) (.cond (.tmp 49) (.region r4_27 [] (tO [1, 2, 5, 6, 7, 8, 9, 10, 12])) .skip))
noncomputable def c4_0_23 : MCode := c4_0_23g 
theorem g4_0_23 : c4_0_23.Good Tryz.prog E4_0 sh4 := ⟨trivial, ⟨trivial, trivial⟩⟩
--CODE 23 0
abbrev TJ4_0_0 : Type 1 := (α : Type) → Int → Int → ByteArray → Int → Rows → Rows → Rows → Int → Int → (Int → Option α) → (Bool → Option α) → Option α
def J4_0_0g (vf22_0 : Tf22_0) (α : Type) (x43 x47 : Int) (x48 : ByteArray) (x49 : Int) (x50 x51 x52 : Rows) (x53 x54 : Int) (k1 : Int → Option α) (k2 : Bool → Option α) : Option α :=
 cK (x47 == 0)
 (vf22_0 α x48 x49 x50 x51 x52 x53 x54 x43
 (fun x63 => k1 x63))
 (k2 (x47 == 0))
noncomputable def J4_0_0 (α : Type) (x43 x47 : Int) (x48 : ByteArray) (x49 : Int) (x50 x51 x52 : Rows) (x53 x54 : Int) (k1 : Int → Option α) (k2 : Bool → Option α) : Option α := J4_0_0g f22_0 α x43 x47 x48 x49 x50 x51 x52 x53 x54 k1 k2
def F4_0_0 (v : TJ4_0_0) (α : Type) (K : Exit → St → Option α) : Int → Int → Int → Int → Int → ByteArray → Int → Rows → Rows → Rows → Int → Int → Int → Int → Nat → Nat → Int → Int → Int → Option α := fun x43 x44 x45 x46 x47 x48 x49 x50 x51 x52 x53 x54 x55 x56 x57 x58 x59 x60 x61 => v α x43 x47 x48 x49 x50 x51 x52 x53 x54 (fun (y1 : Int) => u4_0_0 (K .normal) x43 x44 x45 x46 y1 x48 x49 x50 x51 x52 x53 x54 x55 x56 x57 x58 x59 x60 x61) (fun (y1 : Bool) => u4_0_1 (K .normal) x43 x44 x45 x46 x47 y1 x48 x49 x50 x51 x52 x53 x54 x55 x56 x57 x58 x59 x60 x61) 
theorem m4_0_0g (vf9_0 : Tf9_0) (vf16_0 : Tf16_0) (vf18_0 : Tf18_0) (vf17_0 : Tf17_0) (vf19_0 : Tf19_0) (vf20_0 : Tf20_0) (vf21_0 : Tf21_0) (vf22_0 : Tf22_0) (vf23_0 : Tf23_0) (vf25_0 : Tf25_0) (vf24_0 : Tf24_0) (vf26_0 : Tf26_0) (vf27_0 : Tf27_0)  (α : Type) (K : Exit → St → Option α) : F4_0_0 (J4_0_0g vf22_0) α K = p4_0_0.unc fun σ => runM Tryz.prog (E4_0g vf9_0 vf16_0 vf18_0 vf17_0 vf19_0 vf20_0 vf21_0 vf22_0 vf23_0 vf25_0 vf24_0 vf26_0 vf27_0) sh4 (c4_0_23g ) K σ := by kernel_rfl
theorem m4_0_0 : ∀ (α : Type) (K : Exit → St → Option α), F4_0_0 J4_0_0 α K = p4_0_0.unc fun σ => runM Tryz.prog E4_0 sh4 c4_0_23 K σ := m4_0_0g f9_0 f16_0 f18_0 f17_0 f19_0 f20_0 f21_0 f22_0 f23_0 f25_0 f24_0 f26_0 f27_0
abbrev Tf4_0 : Type 1 := (α : Type) → ByteArray → Int → Rows → Rows → Rows → Int → Int → Int → (Bool → Option α) → Option α
def f4_0g (vJ4_0_0 : TJ4_0_0) (vf16_0 : Tf16_0) (vf17_0 : Tf17_0) (vf18_0 : Tf18_0) (vf19_0 : Tf19_0) (vf20_0 : Tf20_0) (vf21_0 : Tf21_0) (vf23_0 : Tf23_0) (vf24_0 : Tf24_0) (vf25_0 : Tf25_0) (vf26_0 : Tf26_0) (vf27_0 : Tf27_0) (vf9_0 : Tf9_0) (α : Type) (x1 : ByteArray) (x2 : Int) (x3 x4 x5 : Rows) (x6 x7 x8 : Int) (k1 : Bool → Option α) : Option α :=
 vf9_0 α 
 (vf16_0 α x1 x2 x3 x4 x5 x6 x7
 (fun x9 => cK (!x9)
 (k1 true)
 (vf18_0 α x1 x2 x3 x4 x5 x6 x7
 (fun x10 x11 x12 x13 x14 x15 x16 => vf17_0 α x10 x11 x12 x13 x14 x15 x16 x8
 (fun x17 x18 x19 => vf18_0 α x1 x2 x3 x4 x5 x6 x7
 (fun x20 x21 x22 x23 x24 x25 x26 => vf19_0 α x20 x21 x22 x23 x24 x25 x26 x8
 (fun x27 x28 x29 x30 => vf18_0 α x1 x2 x3 x4 x5 x6 x7
 (fun x31 x32 x33 x34 x35 x36 x37 => vf20_0 α x31 x32 x33 x34 x35 x36 x37 x8
 (fun x38 x39 x40 => vf21_0 α x1 x2 x3 x4 x5 x6 x7
 (fun x41 x42 => vJ4_0_0 α x8 x42 x1 x2 x3 x4 x5 x6 x7
 (fun x64 => cK (x64 != 0)
 (cK (x19 == x64)
 (cK (x30 == x64)
 (cK (x40 == x64)
 (cK ((x17 == 0) && ((x18 == 0) && true))
 (vf23_0 α x27 x28 x29 0 0 0
 (fun x67 => cK x67
 (k1 ((x38 == 0) && ((x39 == 0) && true)))
 (k1 false)))
 (k1 false))
 (k1 false))
 (k1 false))
 (k1 false))
 (vf25_0 α x1 x2 x3 x4 x5 x6 x7 x8
 (fun x68 x69 => vf24_0 α x68 x69
 (fun x70 x71 x72 x73 => vf26_0 α x1 x2 x3 x4 x5 x6 x7 x8
 (fun x74 x75 x76 => cK (x19 == 0)
 (vf25_0 α x1 x2 x3 x4 x5 x6 x7 x8
 (fun x77 x78 => cK ((x17 == x77) && ((x18 == x78) && true))
 (cK (x30 == x73)
 (vf27_0 α x70 x71 x72
 (fun x79 x80 x81 => vf23_0 α x27 x28 x29 x79 x80 x81
 (fun x82 => cK x82
 (cK (x40 == x76)
 (k1 ((x38 == x74) && ((x39 == x75) && true)))
 (k1 false))
 (k1 false))))
 (k1 false))
 (k1 false)))
 (k1 false))))))
 (fun x65 => cK (x42 != 0)
 (cK (x19 == x42)
 (cK (x30 == x42)
 (cK (x40 == x42)
 (cK ((x17 == 0) && ((x18 == 0) && true))
 (vf23_0 α x27 x28 x29 0 0 0
 (fun x83 => cK x83
 (k1 ((x38 == 0) && ((x39 == 0) && true)))
 (k1 false)))
 (k1 false))
 (k1 false))
 (k1 false))
 (k1 false))
 (vf25_0 α x1 x2 x3 x4 x5 x6 x7 x8
 (fun x84 x85 => vf24_0 α x84 x85
 (fun x86 x87 x88 x89 => vf26_0 α x1 x2 x3 x4 x5 x6 x7 x8
 (fun x90 x91 x92 => cK (x19 == 0)
 (vf25_0 α x1 x2 x3 x4 x5 x6 x7 x8
 (fun x93 x94 => cK ((x17 == x93) && ((x18 == x94) && true))
 (cK (x30 == x89)
 (vf27_0 α x86 x87 x88
 (fun x95 x96 x97 => vf23_0 α x27 x28 x29 x95 x96 x97
 (fun x98 => cK x98
 (cK (x40 == x92)
 (k1 ((x38 == x90) && ((x39 == x91) && true)))
 (k1 false))
 (k1 false))))
 (k1 false))
 (k1 false)))
 (k1 false))))))))))))))))
noncomputable def f4_0 (α : Type) (x1 : ByteArray) (x2 : Int) (x3 x4 x5 : Rows) (x6 x7 x8 : Int) (k1 : Bool → Option α) : Option α := f4_0g J4_0_0 f16_0 f17_0 f18_0 f19_0 f20_0 f21_0 f23_0 f24_0 f25_0 f26_0 f27_0 f9_0 α x1 x2 x3 x4 x5 x6 x7 x8 k1
def pa4_0 : PT (List DV) := pA [pV true [dS, (dI .i64), dL, dL, dL, (dI .i64), (dI .i64)], pV false [(dI .i64)]]
def Fn4_0 (v : Tf4_0) (α : Type) (k : List RV → Option α) : ByteArray → Int → Rows → Rows → Rows → Int → Int → Int → Option α := fun x1 x2 x3 x4 x5 x6 x7 x8 => v α x1 x2 x3 x4 x5 x6 x7 x8 (fun (y1 : Bool) => ur4_0_0 k y1)
noncomputable def cm4_0g (vJ4_0_0 : TJ4_0_0) : MCode := (.seq (.region r4_2 [] (tO [1, 2])) (.seq (.seq (.region r4_5 [] (tO [1, 2, 18])) (.cond (.tmp 18) (.seq (.region r4_8 [] (tO [4])) .ret) .skip)) (.seq (.seq (.region r4_11 [] (tO [1, 2, 21])) (.cond (.tmp 21) (.seq (.region r4_14 [] (tO [4])) .ret) .skip)) (.seq (.region r4_16 [] (tO [1, 2, 5, 6])) (.seq (.region r4_18 [] (tO [1, 2, 5, 6, 7, 8])) (.seq (.region r4_20 [] (tO [1, 2, 5, 6, 7, 8, 9, 10])) (.seq (.region r4_22 [] (tO [1, 2, 5, 6, 7, 8, 9, 10, 12])) (.seq (.mark [⟨p4_0_0, F4_0_0 vJ4_0_0⟩] c4_0_23) (.seq (.seq (.region r4_30 [] (tO [1, 2, 5, 6, 7, 8, 9, 10, 12, 54])) (.cond (.tmp 54) (.seq (.region r4_33 [] (tO [4])) .ret) .skip)) (.seq (.region r4_35 [] (tO [1, 2, 5, 6, 7, 8, 9, 10, 13, 14])) (.seq (.region r4_37 [] (tO [1, 2, 5, 6, 7, 8, 9, 10, 13, 14, 15, 16])) (.seq (.region r4_39 [(3, 6), (15, 17)] (tO [4])) .ret))))))))))))
noncomputable def cm4_0 : MCode := cm4_0g J4_0_0
theorem gm4_0 : cm4_0.Good Tryz.prog E4_0 sh4 := ⟨trivial, ⟨⟨trivial, ⟨⟨trivial, trivial⟩, trivial⟩⟩, ⟨⟨trivial, ⟨⟨trivial, trivial⟩, trivial⟩⟩, ⟨trivial, ⟨trivial, ⟨trivial, ⟨trivial, ⟨⟨g4_0_23, m4_0_0, trivial⟩, ⟨⟨trivial, ⟨⟨trivial, trivial⟩, trivial⟩⟩, ⟨trivial, ⟨trivial, ⟨trivial, trivial⟩⟩⟩⟩⟩⟩⟩⟩⟩⟩⟩⟩
theorem fm4_0g (vf9_0 : Tf9_0) (vf16_0 : Tf16_0) (vf18_0 : Tf18_0) (vf17_0 : Tf17_0) (vf19_0 : Tf19_0) (vf20_0 : Tf20_0) (vf21_0 : Tf21_0) (vf22_0 : Tf22_0) (vf23_0 : Tf23_0) (vf25_0 : Tf25_0) (vf24_0 : Tf24_0) (vf26_0 : Tf26_0) (vf27_0 : Tf27_0) (vJ4_0_0 : TJ4_0_0) (α : Type) (k : List RV → Option α) : Fn4_0 (f4_0g vJ4_0_0 vf16_0 vf17_0 vf18_0 vf19_0 vf20_0 vf21_0 vf23_0 vf24_0 vf25_0 vf26_0 vf27_0 vf9_0) α k = pa4_0.unc fun ds => fnM Tryz.prog (E4_0g vf9_0 vf16_0 vf18_0 vf17_0 vf19_0 vf20_0 vf21_0 vf22_0 vf23_0 vf25_0 vf24_0 vf26_0 vf27_0) sh4 (cm4_0g vJ4_0_0) rs4 k ds := by kernel_rfl
theorem fm4_0 : ∀ (α : Type) (k : List RV → Option α), Fn4_0 f4_0 α k = pa4_0.unc fun ds => fnM Tryz.prog E4_0 sh4 cm4_0 rs4 k ds := fm4_0g f9_0 f16_0 f18_0 f17_0 f19_0 f20_0 f21_0 f22_0 f23_0 f25_0 f24_0 f26_0 f27_0 J4_0_0
theorem is4 : FnIs Tryz.prog 4 nt4 tr4 tl4 cm4_0.erase rs4 := ⟨Tryz.f4, Tryz.func4, rfl, by kernel_rfl, by kernel_rfl, by kernel_rfl⟩
theorem io4_0 : InstOk Tryz.prog 4 nt4 ⟨pa4_0, Fn4_0 f4_0⟩ := inst_ok eo4_0 followsTry is4 ⟨⟨sh4, cm4_0, by kernel_rfl, gm4_0, fm4_0⟩⟩
end Go.AM.K
