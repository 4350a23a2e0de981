/- Printed by KGen. -/
import Derived.Test.YtehamglokkjipaaGreatQGX3a
namespace Go.AM.K
open Go.Proofs
set_option maxRecDepth 100000
set_option linter.unusedVariables false
abbrev nt59 : Nat := 22
def sh59 : List (Nat × List Sh) := [(5, [.int .i64]), (10, [.int .i64]), (16, [.int .i64]), (21, [.int .i64, .int .i64, .int .i64])]
def r59_2 : List AOper := [oO 1 (.box (.tmp 0)), oO 2 (.alloc [(cI 0), (cI 0), (cI 0)]), oO 3 (.mv (kI 0))]
def r59_5 : List AOper := [oO 4 (.faddr 0 (.tmp 1)), oO 5 (.load false 1 (.tmp 4)), oO 6 (.call 107 [(.tmp 5)]), oO 7 (.pure (oB (.unOp .not 4 (.tmp 6)) 4)), oM 8 7, oG 9 (.faddr 1 (.tmp 1)) 8 false, oG 10 (.load false 1 (.tmp 9)) 8 false, oG 11 (.call 107 [(.tmp 10)]) 8 false, oG 12 (.pure (oB (.unOp .not 4 (.tmp 11)) 4)) 8 false, oO 13 (.pick (.tmp 8) (.const (.bool true)) (.tmp 12)), oM 14 13, oG 15 (.faddr 2 (.tmp 1)) 14 false, oG 16 (.load false 1 (.tmp 15)) 14 false, oG 17 (.call 57 [(.tmp 16), (kI 0), (kI 67108864)]) 14 false, oG 18 (.pure (oB (.unOp .not 4 (.tmp 17)) 4)) 14 false, oO 19 (.pick (.tmp 14) (.const (.bool true)) (.tmp 18))]
def r59_8 : List AOper := [oO 20 (.build [(cI 0), (cI 0), (cI 0)] []), oD (.store 3 (.tmp 2) (.tmp 20)), oO 3 (.mv (kI 8))]
def r59_10 : List AOper := [oO 21 (.load true 3 (.tmp 1)), oD (.store 3 (.tmp 2) (.tmp 21)), oO 3 (.mv (kI 0))]
def tr59 : List (Nat × Tidy) := [tT 0 [1, 2], tT 1 [1, 2, 19], tT 2 [2, 3], tT 3 [2, 3]]
def tl59 : List (Nat × Tidy) := []
def rs59 : List AResV := [.cell 2 true 3, .tmp 3]
def p59_0_0 : PT St := pS [sl 1 (aV false [(cPtr 1 0)]), sl 2 (aV false [(cPtr 2 0)])] [eBox 1 [(cD (dI .i64)), (cD (dI .i64)), (cD (dI .i64))], eBox 2 [(cD (dI .i64)), (cD (dI .i64)), (cD (dI .i64))]]
def u59_0_0 {β : Type} (g : St → β) : Int → Int → Int → Int → Int → Int → β := p59_0_0.unc g
def p59_0_1 : PT St := pS [sl 1 (aV false [(cPtr 1 0)]), sl 2 (aV false [(cPtr 2 0)]), sl 19 (aV false [(cD dB)])] [eBox 1 [(cD (dI .i64)), (cD (dI .i64)), (cD (dI .i64))], eBox 2 [(cD (dI .i64)), (cD (dI .i64)), (cD (dI .i64))]]
def u59_0_1 {β : Type} (g : St → β) : Bool → Int → Int → Int → Int → Int → Int → β := p59_0_1.unc g
def pr59_0_0 : PT (List RV) := pRs [pR true [rD (dI .i64), rD (dI .i64), rD (dI .i64)], pR false [rD (dI .i64)]]
def ur59_0_0 {β : Type} (g : List RV → β) : Int → Int → Int → Int → β := pr59_0_0.unc g
def E59_0g (vf107_0 : Tf107_0) (vf57_0 : Tf57_0) : EnvK := EnvK.of [⟨107, nt107, [⟨pa107_0, Fn107_0 vf107_0⟩]⟩, ⟨57, nt57, [⟨pa57_0, Fn57_0 vf57_0⟩]⟩] noSeq
noncomputable def E59_0 : EnvK := E59_0g f107_0 f57_0
theorem eo59_0 : E59_0.Ok Tryz.prog := EnvK.of_ok noSeq_ok ⟨⟨io107_0, trivial⟩, ⟨io57_0, trivial⟩, trivial⟩
noncomputable def c59_0_4g  : MCode := (.region r59_5 [] (tO [1, 2, 19]))
noncomputable def c59_0_4 : MCode := c59_0_4g 
theorem g59_0_4 : c59_0_4.Good Tryz.prog E59_0 sh59 := trivial
--CODE 4 0
abbrev TJ59_0_0 : Type 1 := (α : Type) → Int → Int → Int → (Bool → Option α) → Option α
def J59_0_0g (vf107_0 : Tf107_0) (vf57_0 : Tf57_0) (α : Type) (x4 x5 x6 : Int) (k1 : Bool → Option α) : Option α :=
 vf107_0 α x4
 (fun x11 => cK (!x11)
 (k1 true)
 (vf107_0 α x5
 (fun x12 => cK (!x12)
 (k1 true)
 (vf57_0 α x6 0 67108864
 (fun x13 => k1 (!x13))))))
noncomputable def J59_0_0 (α : Type) (x4 x5 x6 : Int) (k1 : Bool → Option α) : Option α := J59_0_0g f107_0 f57_0 α x4 x5 x6 k1
def F59_0_0 (v : TJ59_0_0) (α : Type) (K : Exit → St → Option α) : Int → Int → Int → Int → Int → Int → Option α := fun x4 x5 x6 x7 x8 x9 => v α x4 x5 x6 (fun (y1 : Bool) => u59_0_1 (K .normal) y1 x4 x5 x6 x7 x8 x9) 
theorem m59_0_0g (vf107_0 : Tf107_0) (vf57_0 : Tf57_0)  (α : Type) (K : Exit → St → Option α) : F59_0_0 (J59_0_0g vf107_0 vf57_0) α K = p59_0_0.unc fun σ => runM Tryz.prog (E59_0g vf107_0 vf57_0) sh59 (c59_0_4g ) K σ := by kernel_rfl
theorem m59_0_0 : ∀ (α : Type) (K : Exit → St → Option α), F59_0_0 J59_0_0 α K = p59_0_0.unc fun σ => runM Tryz.prog E59_0 sh59 c59_0_4 K σ := m59_0_0g f107_0 f57_0
abbrev Tf59_0 : Type 1 := (α : Type) → Int → Int → Int → (Int → Int → Int → Int → Option α) → Option α
def f59_0g (vJ59_0_0 : TJ59_0_0) (α : Type) (x1 x2 x3 : Int) (k1 : Int → Int → Int → Int → Option α) : Option α :=
 vJ59_0_0 α x1 x2 x3
 (fun x14 => cK x14
 (k1 0 0 0 8)
 (k1 x1 x2 x3 0))
noncomputable def f59_0 (α : Type) (x1 x2 x3 : Int) (k1 : Int → Int → Int → Int → Option α) : Option α := f59_0g J59_0_0 α x1 x2 x3 k1
def pa59_0 : PT (List DV) := pA [pV true [(dI .i64), (dI .i64), (dI .i64)]]
def Fn59_0 (v : Tf59_0) (α : Type) (k : List RV → Option α) : Int → Int → Int → Option α := fun x1 x2 x3 => v α x1 x2 x3 (fun (y1 : Int) (y2 : Int) (y3 : Int) (y4 : Int) => ur59_0_0 k y1 y2 y3 y4)
noncomputable def cm59_0g (vJ59_0_0 : TJ59_0_0) : MCode := (.seq (.region r59_2 [] (tO [1, 2])) (.seq (.seq (.mark [⟨p59_0_0, F59_0_0 vJ59_0_0⟩] c59_0_4) (.cond (.tmp 19) (.seq (.region r59_8 [] (tO [2, 3])) .ret) .skip)) (.seq (.region r59_10 [] (tO [2, 3])) .ret)))
noncomputable def cm59_0 : MCode := cm59_0g J59_0_0
theorem gm59_0 : cm59_0.Good Tryz.prog E59_0 sh59 := ⟨trivial, ⟨⟨⟨g59_0_4, m59_0_0, trivial⟩, ⟨⟨trivial, trivial⟩, trivial⟩⟩, ⟨trivial, trivial⟩⟩⟩
theorem fm59_0g (vf107_0 : Tf107_0) (vf57_0 : Tf57_0) (vJ59_0_0 : TJ59_0_0) (α : Type) (k : List RV → Option α) : Fn59_0 (f59_0g vJ59_0_0) α k = pa59_0.unc fun ds => fnM Tryz.prog (E59_0g vf107_0 vf57_0) sh59 (cm59_0g vJ59_0_0) rs59 k ds := by kernel_rfl
theorem fm59_0 : ∀ (α : Type) (k : List RV → Option α), Fn59_0 f59_0 α k = pa59_0.unc fun ds => fnM Tryz.prog E59_0 sh59 cm59_0 rs59 k ds := fm59_0g f107_0 f57_0 J59_0_0
theorem is59 : FnIs Tryz.prog 59 nt59 tr59 tl59 cm59_0.erase rs59 := ⟨Tryz.f59, Tryz.func59, rfl, by kernel_rfl, by kernel_rfl, by kernel_rfl⟩
theorem io59_0 : InstOk Tryz.prog 59 nt59 ⟨pa59_0, Fn59_0 f59_0⟩ := inst_ok eo59_0 followsTry is59 ⟨⟨sh59, cm59_0, by kernel_rfl, gm59_0, fm59_0⟩⟩
abbrev nt145 : Nat := 12
def sh145 : List (Nat × List Sh) := [(7, [.int .i64, .int .i64, .int .i64]), (8, [.int .i64, .int .i64, .int .i64])]
def r145_2 : List AOper := [oO 3 (.box (.tmp 0)), oO 4 (.alloc [(cI 0), (cI 0), (cI 0)]), oO 5 (.mv (kI 0))]
def r145_4 : List AOper := [oO 6 (.load false 1 (.tmp 1)), oO 7 (.load true 3 (.tmp 2)), oO 8 (.load true 3 (.tmp 3)), oO 9 (.calld (.tmp 6) [(.tmp 7), (.tmp 8)]), oO 10 (.extract 0 (.tmp 9)), oO 11 (.extract 1 (.tmp 9)), oD (.store 3 (.tmp 4) (.tmp 10)), oM 5 11]
def tr145 : List (Nat × Tidy) := [tT 0 [1, 2, 3, 4], tT 1 [4, 5]]
def tl145 : List (Nat × Tidy) := []
def rs145 : List AResV := [.cell 4 true 3, .tmp 5]
def pr145_0_0 : PT (List RV) := pRs [pR true [rD (dI .i64), rD (dI .i64), rD (dI .i64)], pR false [rD (dI .i64)]]
def ur145_0_0 {β : Type} (g : List RV → β) : Int → Int → Int → Int → β := pr145_0_0.unc g
def E145_0g (vf154_0 : Tf154_0) : EnvK := EnvK.of [⟨154, nt154, [⟨pa154_0, Fn154_0 vf154_0⟩]⟩] noSeq
noncomputable def E145_0 : EnvK := E145_0g f154_0
theorem eo145_0 : E145_0.Ok Tryz.prog := EnvK.of_ok noSeq_ok ⟨⟨io154_0, trivial⟩, trivial⟩
abbrev Tf145_0 : Type 1 := (α : Type) → Int → Int → Int → Int → Int → Int → (Int → Int → Int → Option α) → Option α
def f145_0g (vf154_0 : Tf154_0) (α : Type) (x1 x2 x3 x4 x5 x6 : Int) (k1 : Int → Int → Int → Option α) : Option α :=
 vf154_0 α x4 x5 x6 x1 x2 x3
 (fun x7 x8 x9 => k1 x7 x8 x9)
noncomputable def f145_0 (α : Type) (x1 x2 x3 x4 x5 x6 : Int) (k1 : Int → Int → Int → Option α) : Option α := f145_0g f154_0 α x1 x2 x3 x4 x5 x6 k1
def pa145_0 : PT (List DV) := pA [pV true [(dI .i64), (dI .i64), (dI .i64)], pV false [(dP [(dFn 154 [])] 0)], pV false [(dP [(dI .i64), (dI .i64), (dI .i64)] 0)]]
def Fn145_0 (v : Tf145_0) (α : Type) (k : List RV → Option α) : Int → Int → Int → Int → Int → Int → Option α := fun x1 x2 x3 x4 x5 x6 => v α x1 x2 x3 x4 x5 x6 (fun (y1 : Int) (y2 : Int) (y3 : Int) => ur145_0_0 k y1 y2 y3 0)
noncomputable def cm145_0g  : MCode := (.seq (.region r145_2 [] (tO [1, 2, 3, 4])) (.seq (.region r145_4 [] (tO [4, 5])) .ret))
noncomputable def cm145_0 : MCode := cm145_0g 
theorem gm145_0 : cm145_0.Good Tryz.prog E145_0 sh145 := ⟨trivial, ⟨trivial, trivial⟩⟩
theorem fm145_0g (vf154_0 : Tf154_0)  (α : Type) (k : List RV → Option α) : Fn145_0 (f145_0g vf154_0) α k = pa145_0.unc fun ds => fnM Tryz.prog (E145_0g vf154_0) sh145 (cm145_0g ) rs145 k ds := by kernel_rfl
theorem fm145_0 : ∀ (α : Type) (k : List RV → Option α), Fn145_0 f145_0 α k = pa145_0.unc fun ds => fnM Tryz.prog E145_0 sh145 cm145_0 rs145 k ds := fm145_0g f154_0
theorem is145 : FnIs Tryz.prog 145 nt145 tr145 tl145 cm145_0.erase rs145 := ⟨Tryz.f145, Tryz.func145, rfl, by kernel_rfl, by kernel_rfl, by kernel_rfl⟩
theorem io145_0 : InstOk Tryz.prog 145 nt145 ⟨pa145_0, Fn145_0 f145_0⟩ := inst_ok eo145_0 followsTry is145 ⟨⟨sh145, cm145_0, by kernel_rfl, gm145_0, fm145_0⟩⟩
abbrev nt128 : Nat := 12
def sh128 : List (Nat × List Sh) := []
def r128_2 : List AOper := [oO 2 (.mv (.const (.bool false)))]
def r128_4 : List AOper := [oM 3 0, oO 4 (.call 150 [(.tmp 3)]), oM 5 0, oO 6 (.bin .eql 117 (.tmp 4) (.tmp 5)), oM 7 6, oG 8 (.mv (.tmp 0)) 7 true, oG 9 (.call 151 [(.tmp 8), (kI 0)]) 7 true, oG 10 (.pure (oB (.unOp .not 4 (.tmp 9)) 4)) 7 true, oO 11 (.pick (.tmp 7) (.tmp 10) (.const (.bool false))), oM 2 11]
def tr128 : List (Nat × Tidy) := [tT 0 [0], tT 1 [2]]
def tl128 : List (Nat × Tidy) := []
def rs128 : List AResV := [.tmp 2]
def pr128_0_0 : PT (List RV) := pRs [pR false [rD dB]]
def ur128_0_0 {β : Type} (g : List RV → β) : Bool → β := pr128_0_0.unc g
def E128_0g (vf150_0 : Tf150_0) (vf151_0 : Tf151_0) : EnvK := EnvK.of [⟨150, nt150, [⟨pa150_0, Fn150_0 vf150_0⟩]⟩, ⟨151, nt151, [⟨pa151_0, Fn151_0 vf151_0⟩]⟩] noSeq
noncomputable def E128_0 : EnvK := E128_0g f150_0 f151_0
theorem eo128_0 : E128_0.Ok Tryz.prog := EnvK.of_ok noSeq_ok ⟨⟨io150_0, trivial⟩, ⟨io151_0, trivial⟩, trivial⟩
abbrev Tf128_0 : Type 1 := (α : Type) → Nat → (Bool → Option α) → Option α
def f128_0g (vf150_0 : Tf150_0) (vf151_0 : Tf151_0) (α : Type) (x1 : Nat) (k1 : Bool → Option α) : Option α :=
 vf150_0 α x1
 (k1 false)
 (fun x2 => cK ((FloatKind.format .f64).order x2 x1 == some Ordering.eq)
 (vf151_0 α x1 0
 (fun x3 => k1 (!x3)))
 (k1 false))
noncomputable def f128_0 (α : Type) (x1 : Nat) (k1 : Bool → Option α) : Option α := f128_0g f150_0 f151_0 α x1 k1
def pa128_0 : PT (List DV) := pA [pV false [(dF .f64)]]
def Fn128_0 (v : Tf128_0) (α : Type) (k : List RV → Option α) : Nat → Option α := fun x1 => v α x1 (fun (y1 : Bool) => ur128_0_0 k y1)
noncomputable def cm128_0g  : MCode := (.seq (.region r128_2 [] (tO [0])) (.seq (.region r128_4 [] (tO [2])) .ret))
noncomputable def cm128_0 : MCode := cm128_0g 
theorem gm128_0 : cm128_0.Good Tryz.prog E128_0 sh128 := ⟨trivial, ⟨trivial, trivial⟩⟩
theorem fm128_0g (vf150_0 : Tf150_0) (vf151_0 : Tf151_0)  (α : Type) (k : List RV → Option α) : Fn128_0 (f128_0g vf150_0 vf151_0) α k = pa128_0.unc fun ds => fnM Tryz.prog (E128_0g vf150_0 vf151_0) sh128 (cm128_0g ) rs128 k ds := by kernel_rfl
theorem fm128_0 : ∀ (α : Type) (k : List RV → Option α), Fn128_0 f128_0 α k = pa128_0.unc fun ds => fnM Tryz.prog E128_0 sh128 cm128_0 rs128 k ds := fm128_0g f150_0 f151_0
theorem is128 : FnIs Tryz.prog 128 nt128 tr128 tl128 cm128_0.erase rs128 := ⟨Tryz.f128, Tryz.func128, rfl, by kernel_rfl, by kernel_rfl, by kernel_rfl⟩
theorem io128_0 : InstOk Tryz.prog 128 nt128 ⟨pa128_0, Fn128_0 f128_0⟩ := inst_ok eo128_0 followsTry is128 ⟨⟨sh128, cm128_0, by kernel_rfl, gm128_0, fm128_0⟩⟩
abbrev nt157 : Nat := 29
def sh157 : List (Nat × List Sh) := [(6, [.int .i64]), (12, [.int .i64]), (18, [.int .i64]), (24, [.int .i64, .int .i64]), (27, [.int .i64])]
def r157_2 : List AOper := [oO 1 (.box (.tmp 0)), oO 2 (.alloc [(.d (.v (.complex Go.FloatKind.f64 0 0))), (cI 0)]), oO 3 (.mv (kI 0))]
def r157_5 : List AOper := [oO 4 (.faddr 0 (.tmp 1)), oO 5 (.faddr 0 (.tmp 4)), oO 6 (.load false 1 (.tmp 5)), oO 7 (.call 137 [(.tmp 6), (kI 67108864)]), oO 8 (.pure (oB (.unOp .not 4 (.tmp 7)) 4)), oM 9 8, oG 10 (.faddr 0 (.tmp 1)) 9 false, oG 11 (.faddr 1 (.tmp 10)) 9 false, oG 12 (.load false 1 (.tmp 11)) 9 false, oG 13 (.call 137 [(.tmp 12), (kI 67108864)]) 9 false, oG 14 (.pure (oB (.unOp .not 4 (.tmp 13)) 4)) 9 false, oO 15 (.pick (.tmp 9) (.const (.bool true)) (.tmp 14)), oM 16 15, oG 17 (.faddr 2 (.tmp 1)) 16 false, oG 18 (.load false 1 (.tmp 17)) 16 false, oG 19 (.call 127 [(.tmp 18), (kI 0), (kI 67108864)]) 16 false, oG 20 (.pure (oB (.unOp .not 4 (.tmp 19)) 4)) 16 false, oO 21 (.pick (.tmp 16) (.const (.bool true)) (.tmp 20))]
def r157_8 : List AOper := [oO 22 (.build [(.d (.v (.complex Go.FloatKind.f64 0 0))), (cI 0)] []), oD (.store 2 (.tmp 2) (.tmp 22)), oO 3 (.mv (kI 8))]
def r157_10 : List AOper := [oO 23 (.faddr 0 (.tmp 1)), oO 24 (.load true 2 (.tmp 23)), oO 25 (.call 166 [(.tmp 24)]), oO 26 (.faddr 2 (.tmp 1)), oO 27 (.load false 1 (.tmp 26)), oO 28 (.build [(.d (.v (.complex Go.FloatKind.f64 0 0))), (cI 0)] [(0, 1, (.tmp 25)), (1, 1, (.tmp 27))]), oD (.store 2 (.tmp 2) (.tmp 28)), oO 3 (.mv (kI 0))]
def tr157 : List (Nat × Tidy) := [tT 0 [1, 2], tT 1 [1, 2, 21], tT 2 [2, 3], tT 3 [2, 3]]
def tl157 : List (Nat × Tidy) := []
def rs157 : List AResV := [.cell 2 true 2, .tmp 3]
def p157_0_0 : PT St := pS [sl 1 (aV false [(cPtr 1 0)]), sl 2 (aV false [(cPtr 2 0)])] [eBox 1 [(cD (dI .i64)), (cD (dI .i64)), (cD (dI .i64))], eBox 2 [(cD (dX .f64)), (cD (dI .i64))]]
def u157_0_0 {β : Type} (g : St → β) : Int → Int → Int → Nat → Nat → Int → β := p157_0_0.unc g
def p157_0_1 : PT St := pS [sl 1 (aV false [(cPtr 1 0)]), sl 2 (aV false [(cPtr 2 0)]), sl 21 (aV false [(cD dB)])] [eBox 1 [(cD (dI .i64)), (cD (dI .i64)), (cD (dI .i64))], eBox 2 [(cD (dX .f64)), (cD (dI .i64))]]
def u157_0_1 {β : Type} (g : St → β) : Bool → Int → Int → Int → Nat → Nat → Int → β := p157_0_1.unc g
def pr157_0_0 : PT (List RV) := pRs [pR true [rD (dX .f64), rD (dI .i64)], pR false [rD (dI .i64)]]
def ur157_0_0 {β : Type} (g : List RV → β) : Nat → Nat → Int → Int → β := pr157_0_0.unc g
def E157_0g (vf137_0 : Tf137_0) (vf127_0 : Tf127_0) (vf166_0 : Tf166_0) : EnvK := EnvK.of [⟨137, nt137, [⟨pa137_0, Fn137_0 vf137_0⟩]⟩, ⟨127, nt127, [⟨pa127_0, Fn127_0 vf127_0⟩]⟩, ⟨166, nt166, [⟨pa166_0, Fn166_0 vf166_0⟩]⟩] noSeq
noncomputable def E157_0 : EnvK := E157_0g f137_0 f127_0 f166_0
theorem eo157_0 : E157_0.Ok Tryz.prog := EnvK.of_ok noSeq_ok ⟨⟨io137_0, trivial⟩, ⟨io127_0, trivial⟩, ⟨io166_0, trivial⟩, trivial⟩
noncomputable def c157_0_4g  : MCode := (.region r157_5 [] (tO [1, 2, 21]))
noncomputable def c157_0_4 : MCode := c157_0_4g 
theorem g157_0_4 : c157_0_4.Good Tryz.prog E157_0 sh157 := trivial
--CODE 4 0
abbrev TJ157_0_0 : Type 1 := (α : Type) → Int → Int → Int → (Bool → Option α) → Option α
def J157_0_0g (vf127_0 : Tf127_0) (vf137_0 : Tf137_0) (α : Type) (x4 x5 x6 : Int) (k1 : Bool → Option α) : Option α :=
 vf137_0 α x4 67108864
 (fun x11 => cK (!x11)
 (k1 true)
 (vf137_0 α x5 67108864
 (fun x12 => cK (!x12)
 (k1 true)
 (vf127_0 α x6 0 67108864
 (fun x13 => k1 (!x13))))))
noncomputable def J157_0_0 (α : Type) (x4 x5 x6 : Int) (k1 : Bool → Option α) : Option α := J157_0_0g f127_0 f137_0 α x4 x5 x6 k1
def F157_0_0 (v : TJ157_0_0) (α : Type) (K : Exit → St → Option α) : Int → Int → Int → Nat → Nat → Int → Option α := fun x4 x5 x6 x7 x8 x9 => v α x4 x5 x6 (fun (y1 : Bool) => u157_0_1 (K .normal) y1 x4 x5 x6 x7 x8 x9) 
theorem m157_0_0g (vf137_0 : Tf137_0) (vf127_0 : Tf127_0) (vf166_0 : Tf166_0)  (α : Type) (K : Exit → St → Option α) : F157_0_0 (J157_0_0g vf127_0 vf137_0) α K = p157_0_0.unc fun σ => runM Tryz.prog (E157_0g vf137_0 vf127_0 vf166_0) sh157 (c157_0_4g ) K σ := by kernel_rfl
theorem m157_0_0 : ∀ (α : Type) (K : Exit → St → Option α), F157_0_0 J157_0_0 α K = p157_0_0.unc fun σ => runM Tryz.prog E157_0 sh157 c157_0_4 K σ := m157_0_0g f137_0 f127_0 f166_0
abbrev Tf157_0 : Type 1 := (α : Type) → Int → Int → Int → (Nat → Nat → Int → Int → Option α) → Option α
def f157_0g (vJ157_0_0 : TJ157_0_0) (vf166_0 : Tf166_0) (α : Type) (x1 x2 x3 : Int) (k1 : Nat → Nat → Int → Int → Option α) : Option α :=
 vJ157_0_0 α x1 x2 x3
 (fun x14 => cK x14
 (k1 0 0 0 8)
 (vf166_0 α x1 x2
 (fun x16 x17 => k1 x16 x17 x3 0)))
noncomputable def f157_0 (α : Type) (x1 x2 x3 : Int) (k1 : Nat → Nat → Int → Int → Option α) : Option α := f157_0g J157_0_0 f166_0 α x1 x2 x3 k1
def pa157_0 : PT (List DV) := pA [pV true [(dI .i64), (dI .i64), (dI .i64)]]
def Fn157_0 (v : Tf157_0) (α : Type) (k : List RV → Option α) : Int → Int → Int → Option α := fun x1 x2 x3 => v α x1 x2 x3 (fun (y1 : Nat) (y2 : Nat) (y3 : Int) (y4 : Int) => ur157_0_0 k y1 y2 y3 y4)
noncomputable def cm157_0g (vJ157_0_0 : TJ157_0_0) : MCode := (.seq (.region r157_2 [] (tO [1, 2])) (.seq (.seq (.mark [⟨p157_0_0, F157_0_0 vJ157_0_0⟩] c157_0_4) (.cond (.tmp 21) (.seq (.region r157_8 [] (tO [2, 3])) .ret) .skip)) (.seq (.region r157_10 [(2, 4)] (tO [2, 3])) .ret)))
noncomputable def cm157_0 : MCode := cm157_0g J157_0_0
theorem gm157_0 : cm157_0.Good Tryz.prog E157_0 sh157 := ⟨trivial, ⟨⟨⟨g157_0_4, m157_0_0, trivial⟩, ⟨⟨trivial, trivial⟩, trivial⟩⟩, ⟨trivial, trivial⟩⟩⟩
theorem fm157_0g (vf137_0 : Tf137_0) (vf127_0 : Tf127_0) (vf166_0 : Tf166_0) (vJ157_0_0 : TJ157_0_0) (α : Type) (k : List RV → Option α) : Fn157_0 (f157_0g vJ157_0_0 vf166_0) α k = pa157_0.unc fun ds => fnM Tryz.prog (E157_0g vf137_0 vf127_0 vf166_0) sh157 (cm157_0g vJ157_0_0) rs157 k ds := by kernel_rfl
theorem fm157_0 : ∀ (α : Type) (k : List RV → Option α), Fn157_0 f157_0 α k = pa157_0.unc fun ds => fnM Tryz.prog E157_0 sh157 cm157_0 rs157 k ds := fm157_0g f137_0 f127_0 f166_0 J157_0_0
theorem is157 : FnIs Tryz.prog 157 nt157 tr157 tl157 cm157_0.erase rs157 := ⟨Tryz.f157, Tryz.func157, rfl, by kernel_rfl, by kernel_rfl, by kernel_rfl⟩
theorem io157_0 : InstOk Tryz.prog 157 nt157 ⟨pa157_0, Fn157_0 f157_0⟩ := inst_ok eo157_0 followsTry is157 ⟨⟨sh157, cm157_0, by kernel_rfl, gm157_0, fm157_0⟩⟩
abbrev nt173 : Nat := 24
def sh173 : List (Nat × List Sh) := [(7, [.int .i64, .int .i64]), (8, [.int .i64, .int .i64]), (10, [.int .i64, .int .i64]), (14, [.int .i64]), (19, [.int .i64])]
def r173_2 : List AOper := [oO 2 (.box (.tmp 0)), oO 3 (.box (.tmp 1)), oO 4 (.alloc [(cI 0), (cI 0)])]
def r173_4 : List AOper := [oO 7 (.load true 2 (.tmp 2)), oO 8 (.load true 2 (.tmp 3)), oO 9 (.call 155 [(.tmp 7), (.tmp 8)]), oO 5 (.alloc [(cI 0), (cI 0)]), oD (.store 2 (.tmp 5) (.tmp 9))]
def r173_6 : List AOper := [oO 10 (.load true 2 (.tmp 5)), oO 11 (.call 131 [(.tmp 10)]), oO 12 (.call 160 [(.tmp 11)]), oM 6 12]
def r173_8 : List AOper := [oO 13 (.faddr 0 (.tmp 5)), oO 14 (.load false 1 (.tmp 13)), oO 15 (.bin .mul 3 (.tmp 14) (kI 67108864)), oM 16 6, oO 17 (.bin .quo 3 (.tmp 15) (.tmp 16)), oO 18 (.faddr 1 (.tmp 5)), oO 19 (.load false 1 (.tmp 18)), oO 20 (.bin .mul 3 (.tmp 19) (kI 67108864)), oM 21 6, oO 22 (.bin .quo 3 (.tmp 20) (.tmp 21)), oO 23 (.build [(cI 0), (cI 0)] [(0, 1, (.tmp 17)), (1, 1, (.tmp 22))]), oD (.store 2 (.tmp 4) (.tmp 23))]
def tr173 : List (Nat × Tidy) := [tT 0 [2, 3, 4], tT 1 [4, 5], tT 2 [4, 5, 6], tT 3 [4]]
def tl173 : List (Nat × Tidy) := []
def rs173 : List AResV := [.cell 4 true 2]
def pr173_0_0 : PT (List RV) := pRs [pR true [rD (dI .i64), rD (dI .i64)]]
def ur173_0_0 {β : Type} (g : List RV → β) : Int → Int → β := pr173_0_0.unc g
def E173_0g (vf155_0 : Tf155_0) (vf131_0 : Tf131_0) (vf160_0 : Tf160_0) : EnvK := EnvK.of [⟨155, nt155, [⟨pa155_0, Fn155_0 vf155_0⟩]⟩, ⟨131, nt131, [⟨pa131_0, Fn131_0 vf131_0⟩]⟩, ⟨160, nt160, [⟨pa160_0, Fn160_0 vf160_0⟩]⟩] noSeq
noncomputable def E173_0 : EnvK := E173_0g f155_0 f131_0 f160_0
theorem eo173_0 : E173_0.Ok Tryz.prog := EnvK.of_ok noSeq_ok ⟨⟨io155_0, trivial⟩, ⟨io131_0, trivial⟩, ⟨io160_0, trivial⟩, trivial⟩
abbrev Tf173_0 : Type 1 := (α : Type) → Int → Int → Int → Int → (Int → Int → Option α) → Option α
def f173_0g (vf131_0 : Tf131_0) (vf155_0 : Tf155_0) (vf160_0 : Tf160_0) (α : Type) (x1 x2 x3 x4 : Int) (k1 : Int → Int → Option α) : Option α :=
 vf155_0 α x1 x2 x3 x4
 (fun x5 x6 => vf131_0 α x5 x6
 (fun x7 => vf160_0 α x7
 (fun x8 => gK (x8 != 0) (gK (x8 != 0) (k1 (w64 (Int.tdiv (w64 (x5 * 67108864)) x8)) (w64 (Int.tdiv (w64 (x6 * 67108864)) x8)))))))
noncomputable def f173_0 (α : Type) (x1 x2 x3 x4 : Int) (k1 : Int → Int → Option α) : Option α := f173_0g f131_0 f155_0 f160_0 α x1 x2 x3 x4 k1
def pa173_0 : PT (List DV) := pA [pV true [(dI .i64), (dI .i64)], pV true [(dI .i64), (dI .i64)]]
def Fn173_0 (v : Tf173_0) (α : Type) (k : List RV → Option α) : Int → Int → Int → Int → Option α := fun x1 x2 x3 x4 => v α x1 x2 x3 x4 (fun (y1 : Int) (y2 : Int) => ur173_0_0 k y1 y2)
noncomputable def cm173_0g  : MCode := (.seq (.region r173_2 [] (tO [2, 3, 4])) (.seq (.region r173_4 [] (tO [4, 5])) (.seq (.region r173_6 [] (tO [4, 5, 6])) (.seq (.region r173_8 [] (tO [4])) .ret))))
noncomputable def cm173_0 : MCode := cm173_0g 
theorem gm173_0 : cm173_0.Good Tryz.prog E173_0 sh173 := ⟨trivial, ⟨trivial, ⟨trivial, ⟨trivial, trivial⟩⟩⟩⟩
theorem fm173_0g (vf155_0 : Tf155_0) (vf131_0 : Tf131_0) (vf160_0 : Tf160_0)  (α : Type) (k : List RV → Option α) : Fn173_0 (f173_0g vf131_0 vf155_0 vf160_0) α k = pa173_0.unc fun ds => fnM Tryz.prog (E173_0g vf155_0 vf131_0 vf160_0) sh173 (cm173_0g ) rs173 k ds := by kernel_rfl
theorem fm173_0 : ∀ (α : Type) (k : List RV → Option α), Fn173_0 f173_0 α k = pa173_0.unc fun ds => fnM Tryz.prog E173_0 sh173 cm173_0 rs173 k ds := fm173_0g f155_0 f131_0 f160_0
theorem is173 : FnIs Tryz.prog 173 nt173 tr173 tl173 cm173_0.erase rs173 := ⟨Tryz.f173, Tryz.func173, rfl, by kernel_rfl, by kernel_rfl, by kernel_rfl⟩
theorem io173_0 : InstOk Tryz.prog 173 nt173 ⟨pa173_0, Fn173_0 f173_0⟩ := inst_ok eo173_0 followsTry is173 ⟨⟨sh173, cm173_0, by kernel_rfl, gm173_0, fm173_0⟩⟩
abbrev nt60 : Nat := 25
def sh60 : List (Nat × List Sh) := [(7, [.int .i64]), (9, [.int .i64]), (12, [.int .i64]), (14, [.int .i64]), (17, [.int .i64]), (19, [.int .i64])]
def r60_2 : List AOper := [oO 2 (.box (.tmp 0)), oO 3 (.box (.tmp 1)), oO 4 (.alloc [(cI 0), (cI 0), (cI 0)]), oO 5 (.mv (kI 0))]
def r60_4 : List AOper := [oO 6 (.faddr 0 (.tmp 2)), oO 7 (.load false 1 (.tmp 6)), oO 8 (.faddr 0 (.tmp 3)), oO 9 (.load false 1 (.tmp 8)), oO 10 (.bin .add 3 (.tmp 7) (.tmp 9)), oO 11 (.faddr 1 (.tmp 2)), oO 12 (.load false 1 (.tmp 11)), oO 13 (.faddr 1 (.tmp 3)), oO 14 (.load false 1 (.tmp 13)), oO 15 (.bin .add 3 (.tmp 12) (.tmp 14)), oO 16 (.faddr 2 (.tmp 2)), oO 17 (.load false 1 (.tmp 16)), oO 18 (.faddr 2 (.tmp 3)), oO 19 (.load false 1 (.tmp 18)), oO 20 (.bin .add 3 (.tmp 17) (.tmp 19)), oO 21 (.build [(cI 0), (cI 0), (cI 0)] [(0, 1, (.tmp 10)), (1, 1, (.tmp 15)), (2, 1, (.tmp 20))]), oO 22 (.call 59 [(.tmp 21)]), oO 23 (.extract 0 (.tmp 22)), oO 24 (.extract 1 (.tmp 22)), oD (.store 3 (.tmp 4) (.tmp 23)), oM 5 24]
def tr60 : List (Nat × Tidy) := [tT 0 [2, 3, 4], tT 1 [4, 5]]
def tl60 : List (Nat × Tidy) := []
def rs60 : List AResV := [.cell 4 true 3, .tmp 5]
def pr60_0_0 : PT (List RV) := pRs [pR true [rD (dI .i64), rD (dI .i64), rD (dI .i64)], pR false [rD (dI .i64)]]
def ur60_0_0 {β : Type} (g : List RV → β) : Int → Int → Int → Int → β := pr60_0_0.unc g
def E60_0g (vf59_0 : Tf59_0) : EnvK := EnvK.of [⟨59, nt59, [⟨pa59_0, Fn59_0 vf59_0⟩]⟩] noSeq
noncomputable def E60_0 : EnvK := E60_0g f59_0
theorem eo60_0 : E60_0.Ok Tryz.prog := EnvK.of_ok noSeq_ok ⟨⟨io59_0, trivial⟩, trivial⟩
abbrev Tf60_0 : Type 1 := (α : Type) → Int → Int → Int → Int → Int → Int → (Int → Int → Int → Int → Option α) → Option α
def f60_0g (vf59_0 : Tf59_0) (α : Type) (x1 x2 x3 x4 x5 x6 : Int) (k1 : Int → Int → Int → Int → Option α) : Option α :=
 vf59_0 α (w64 (x1 + x4)) (w64 (x2 + x5)) (w64 (x3 + x6))
 (fun x7 x8 x9 x10 => k1 x7 x8 x9 x10)
noncomputable def f60_0 (α : Type) (x1 x2 x3 x4 x5 x6 : Int) (k1 : Int → Int → Int → Int → Option α) : Option α := f60_0g f59_0 α x1 x2 x3 x4 x5 x6 k1
def pa60_0 : PT (List DV) := pA [pV true [(dI .i64), (dI .i64), (dI .i64)], pV true [(dI .i64), (dI .i64), (dI .i64)]]
def Fn60_0 (v : Tf60_0) (α : Type) (k : List RV → Option α) : Int → Int → Int → Int → Int → Int → Option α := fun x1 x2 x3 x4 x5 x6 => v α x1 x2 x3 x4 x5 x6 (fun (y1 : Int) (y2 : Int) (y3 : Int) (y4 : Int) => ur60_0_0 k y1 y2 y3 y4)
noncomputable def cm60_0g  : MCode := (.seq (.region r60_2 [] (tO [2, 3, 4])) (.seq (.region r60_4 [] (tO [4, 5])) .ret))
noncomputable def cm60_0 : MCode := cm60_0g 
theorem gm60_0 : cm60_0.Good Tryz.prog E60_0 sh60 := ⟨trivial, ⟨trivial, trivial⟩⟩
theorem fm60_0g (vf59_0 : Tf59_0)  (α : Type) (k : List RV → Option α) : Fn60_0 (f60_0g vf59_0) α k = pa60_0.unc fun ds => fnM Tryz.prog (E60_0g vf59_0) sh60 (cm60_0g ) rs60 k ds := by kernel_rfl
theorem fm60_0 : ∀ (α : Type) (k : List RV → Option α), Fn60_0 f60_0 α k = pa60_0.unc fun ds => fnM Tryz.prog E60_0 sh60 cm60_0 rs60 k ds := fm60_0g f59_0
theorem is60 : FnIs Tryz.prog 60 nt60 tr60 tl60 cm60_0.erase rs60 := ⟨Tryz.f60, Tryz.func60, rfl, by kernel_rfl, by kernel_rfl, by kernel_rfl⟩
theorem io60_0 : InstOk Tryz.prog 60 nt60 ⟨pa60_0, Fn60_0 f60_0⟩ := inst_ok eo60_0 followsTry is60 ⟨⟨sh60, cm60_0, by kernel_rfl, gm60_0, fm60_0⟩⟩
abbrev nt158 : Nat := 73
def sh158 : List (Nat × List Sh) := [(12, [.int .i64]), (17, [.int .i64]), (23, [.int .i64]), (25, [.int .i64]), (29, [.int .i64]), (31, [.int .i64]), (38, [.int .i64]), (44, [.int .i64]), (51, [.int .i64]), (59, [.int .i64]), (61, [.int .i64]), (69, [.int .i64, .int .i64, .int .i64])]
def r158_2 : List AOper := [oO 1 (.box (.tmp 0)), oO 2 (.alloc [(cI 0), (cI 0), (cI 0)]), oO 3 (.mv (kI 0))]
def r158_5 : List AOper := [oO 11 (.faddr 0 (.tmp 1)), oO 12 (.load false 1 (.tmp 11)), oO 13 (.call 57 [(.tmp 12), (kI (-1099511627776)), (kI 1099511627776)]), oO 14 (.pure (oB (.unOp .not 4 (.tmp 13)) 4)), oM 15 14, oG 16 (.faddr 1 (.tmp 1)) 15 false, oG 17 (.load false 1 (.tmp 16)) 15 false, oG 18 (.call 57 [(.tmp 17), (kI (-1099511627776)), (kI 1099511627776)]) 15 false, oG 19 (.pure (oB (.unOp .not 4 (.tmp 18)) 4)) 15 false, oO 20 (.pick (.tmp 15) (.const (.bool true)) (.tmp 19))]
def r158_8 : List AOper := [oO 21 (.build [(cI 0), (cI 0), (cI 0)] []), oD (.store 3 (.tmp 2) (.tmp 21)), oO 3 (.mv (kI 2))]
def r158_11 : List AOper := [oO 22 (.faddr 0 (.tmp 1)), oO 23 (.load false 1 (.tmp 22)), oO 24 (.faddr 1 (.tmp 1)), oO 25 (.load false 1 (.tmp 24)), oO 26 (.bin .gtr 3 (.tmp 23) (.tmp 25))]
def r158_14 : List AOper := [oO 27 (.build [(cI 0), (cI 0), (cI 0)] []), oD (.store 3 (.tmp 2) (.tmp 27)), oO 3 (.mv (kI 10))]
def r158_16 : List AOper := [oO 28 (.faddr 0 (.tmp 1)), oO 29 (.load false 1 (.tmp 28)), oO 30 (.faddr 1 (.tmp 1)), oO 31 (.load false 1 (.tmp 30)), oO 32 (.bin .add 3 (.tmp 29) (.tmp 31)), oO 33 (.call 76 [(.tmp 32), (kI 2)]), oM 4 33]
def r158_18 : List AOper := [oM 34 4, oO 35 (.call 167 [(.tmp 34)]), oO 5 (.alloc [(cI 0), (cI 0)]), oD (.store 2 (.tmp 5) (.tmp 35))]
def r158_20 : List AOper := [oO 37 (.iaddr 1 (some 2) (.tmp 5) (kI 0)), oO 38 (.load false 1 (.tmp 37)), oO 39 (.call 147 [(.tmp 38), (kI 64)]), oM 36 39, oO 40 (.extract 0 (.tmp 36)), oO 41 (.extract 1 (.tmp 36)), oM 6 40, oM 7 41]
def r158_22 : List AOper := [oO 43 (.iaddr 1 (some 2) (.tmp 5) (kI 1)), oO 44 (.load false 1 (.tmp 43)), oO 45 (.call 147 [(.tmp 44), (kI 64)]), oM 42 45, oO 46 (.extract 0 (.tmp 42)), oO 47 (.extract 1 (.tmp 42)), oM 8 46, oM 9 47]
def r158_24 : List AOper := [oM 48 6, oM 49 8, oO 50 (.faddr 1 (.tmp 1)), oO 51 (.load false 1 (.tmp 50)), oM 52 4, oO 53 (.bin .sub 3 (.tmp 51) (.tmp 52)), oO 54 (.bin .mul 3 (kI 11) (.tmp 53)), oO 55 (.call 77 [(.tmp 54), (kI 7)]), oO 56 (.bin .add 3 (kI 2) (.tmp 55)), oO 57 (.build [(cI 0), (cI 0), (cI 0)] [(0, 1, (.tmp 48)), (1, 1, (.tmp 49)), (2, 1, (.tmp 56))]), oO 10 (.alloc [(cI 0), (cI 0), (cI 0)]), oD (.store 3 (.tmp 10) (.tmp 57))]
def r158_27 : List AOper := [oO 58 (.faddr 0 (.tmp 1)), oO 59 (.load false 1 (.tmp 58)), oO 60 (.faddr 1 (.tmp 1)), oO 61 (.load false 1 (.tmp 60)), oO 62 (.bin .eql 3 (.tmp 59) (.tmp 61)), oM 63 62, oG 64 (.mv (.tmp 4)) 63 true, oG 65 (.call 91 [(.tmp 64), (kI 1048576)]) 63 true, oG 66 (.bin .eql 3 (.tmp 65) (kI 0)) 63 true, oO 67 (.pick (.tmp 63) (.tmp 66) (.const (.bool false)))]
def r158_29 : List AOper := [oO 68 (.faddr 2 (.tmp 10)), oD (.store 1 (.tmp 68) (kI 0))]
def r158_31 : List AOper := [oO 69 (.load true 3 (.tmp 10)), oO 70 (.call 59 [(.tmp 69)]), oO 71 (.extract 0 (.tmp 70)), oO 72 (.extract 1 (.tmp 70)), oD (.store 3 (.tmp 2) (.tmp 71)), oM 3 72]
def tr158 : List (Nat × Tidy) := [tT 0 [1, 2], tT 1 [1, 2, 20], tT 2 [2, 3], tT 3 [1, 2, 26], tT 4 [2, 3], tT 5 [1, 2, 4], tT 6 [1, 2, 4, 5], tT 7 [1, 2, 4, 5, 6], tT 8 [1, 2, 4, 6, 8], tT 9 [1, 2, 4, 10], tT 10 [2, 10, 67], tT 11 [2, 10], tT 12 [2, 3]]
def tl158 : List (Nat × Tidy) := []
def rs158 : List AResV := [.cell 2 true 3, .tmp 3]
def p158_0_0 : PT St := pS [sl 1 (aV false [(cPtr 1 0)]), sl 2 (aV false [(cPtr 2 0)]), sl 4 (aV false [(cD (dI .i64))]), sl 10 (aV false [(cPtr 10 0)])] [eBox 1 [(cD (dI .i64)), (cD (dI .i64))], eBox 2 [(cD (dI .i64)), (cD (dI .i64)), (cD (dI .i64))], eBox 10 [(cD (dI .i64)), (cD (dI .i64)), (cD (dI .i64))]]
def u158_0_0 {β : Type} (g : St → β) : Int → Int → Int → Int → Int → Int → Int → Int → Int → β := p158_0_0.unc g
def p158_0_1 : PT St := pS [sl 2 (aV false [(cPtr 2 0)]), sl 10 (aV false [(cPtr 10 0)])] [eBox 2 [(cD (dI .i64)), (cD (dI .i64)), (cD (dI .i64))], eBox 10 [(cD (dI .i64)), (cD (dI .i64)), (cD (dI .i64))]]
def u158_0_1 {β : Type} (g : St → β) : Int → Int → Int → Int → Int → Int → β := p158_0_1.unc g
def p158_0_2 : PT St := pS [sl 2 (aV false [(cPtr 2 0)]), sl 10 (aV false [(cPtr 10 0)]), sl 67 (aV false [(cD dB)])] [eBox 2 [(cD (dI .i64)), (cD (dI .i64)), (cD (dI .i64))], eBox 10 [(cD (dI .i64)), (cD (dI .i64)), (cD (dI .i64))]]
def u158_0_2 {β : Type} (g : St → β) : Bool → Int → Int → Int → Int → Int → Int → β := p158_0_2.unc g
def pr158_0_0 : PT (List RV) := pRs [pR true [rD (dI .i64), rD (dI .i64), rD (dI .i64)], pR false [rD (dI .i64)]]
def ur158_0_0 {β : Type} (g : List RV → β) : Int → Int → Int → Int → β := pr158_0_0.unc g
def E158_0g (vf57_0 : Tf57_0) (vf76_0 : Tf76_0) (vf167_0 : Tf167_0) (vf147_0 : Tf147_0) (vf77_0 : Tf77_0) (vf91_0 : Tf91_0) (vf59_0 : Tf59_0) : EnvK := EnvK.of [⟨57, nt57, [⟨pa57_0, Fn57_0 vf57_0⟩]⟩, ⟨76, nt76, [⟨pa76_0, Fn76_0 vf76_0⟩]⟩, ⟨167, nt167, [⟨pa167_0, Fn167_0 vf167_0⟩]⟩, ⟨147, nt147, [⟨pa147_0, Fn147_0 vf147_0⟩]⟩, ⟨77, nt77, [⟨pa77_0, Fn77_0 vf77_0⟩]⟩, ⟨91, nt91, [⟨pa91_0, Fn91_0 vf91_0⟩]⟩, ⟨59, nt59, [⟨pa59_0, Fn59_0 vf59_0⟩]⟩] noSeq
noncomputable def E158_0 : EnvK := E158_0g f57_0 f76_0 f167_0 f147_0 f77_0 f91_0 f59_0
theorem eo158_0 : E158_0.Ok Tryz.prog := EnvK.of_ok noSeq_ok ⟨⟨io57_0, trivial⟩, ⟨io76_0, trivial⟩, ⟨io167_0, trivial⟩, ⟨io147_0, trivial⟩, ⟨io77_0, trivial⟩, ⟨io91_0, trivial⟩, ⟨io59_0, trivial⟩, trivial⟩
noncomputable def c158_0_25g  : MCode := (.seq (.region r158_27 [] (tO [2, 10, 67])) (.cond (.tmp 67) (.region r158_29 [] (tO [2, 10])) .skip))
noncomputable def c158_0_25 : MCode := c158_0_25g 
theorem g158_0_25 : c158_0_25.Good Tryz.prog E158_0 sh158 := ⟨trivial, ⟨trivial, trivial⟩⟩
--CODE 25 0
abbrev TJ158_0_0 : Type 1 := (α : Type) → Int → Int → Int → (Option α) → (Bool → Option α) → Option α
def J158_0_0g (vf91_0 : Tf91_0) (α : Type) (x13 x14 x15 : Int) (k1 : Option α) (k2 : Bool → Option α) : Option α :=
 cK (x14 == x15)
 (vf91_0 α x13 1048576
 (fun x23 => cK (x23 == 0)
 (k1)
 (k2 (x23 == 0))))
 (k2 false)
noncomputable def J158_0_0 (α : Type) (x13 x14 x15 : Int) (k1 : Option α) (k2 : Bool → Option α) : Option α := J158_0_0g f91_0 α x13 x14 x15 k1 k2
def F158_0_0 (v : TJ158_0_0) (α : Type) (K : Exit → St → Option α) : Int → Int → Int → Int → Int → Int → Int → Int → Int → Option α := fun x13 x14 x15 x16 x17 x18 x19 x20 x21 => v α x13 x14 x15 (u158_0_1 (K .normal) x16 x17 x18 x19 x20 0) (fun (y1 : Bool) => u158_0_2 (K .normal) y1 x16 x17 x18 x19 x20 x21) 
theorem m158_0_0g (vf57_0 : Tf57_0) (vf76_0 : Tf76_0) (vf167_0 : Tf167_0) (vf147_0 : Tf147_0) (vf77_0 : Tf77_0) (vf91_0 : Tf91_0) (vf59_0 : Tf59_0)  (α : Type) (K : Exit → St → Option α) : F158_0_0 (J158_0_0g vf91_0) α K = p158_0_0.unc fun σ => runM Tryz.prog (E158_0g vf57_0 vf76_0 vf167_0 vf147_0 vf77_0 vf91_0 vf59_0) sh158 (c158_0_25g ) K σ := by kernel_rfl
theorem m158_0_0 : ∀ (α : Type) (K : Exit → St → Option α), F158_0_0 J158_0_0 α K = p158_0_0.unc fun σ => runM Tryz.prog E158_0 sh158 c158_0_25 K σ := m158_0_0g f57_0 f76_0 f167_0 f147_0 f77_0 f91_0 f59_0
abbrev Tf158_0 : Type 1 := (α : Type) → Int → Int → (Int → Int → Int → Int → Option α) → Option α
def f158_0g (vJ158_0_0 : TJ158_0_0) (vf147_0 : Tf147_0) (vf167_0 : Tf167_0) (vf57_0 : Tf57_0) (vf59_0 : Tf59_0) (vf76_0 : Tf76_0) (vf77_0 : Tf77_0) (α : Type) (x1 x2 : Int) (k1 : Int → Int → Int → Int → Option α) : Option α :=
 vf57_0 α x1 (-1099511627776) 1099511627776
 (fun x3 => cK (!x3)
 (k1 0 0 0 2)
 (vf57_0 α x2 (-1099511627776) 1099511627776
 (fun x4 => cK (!x4)
 (k1 0 0 0 2)
 (cK (decide (x2 < x1))
 (k1 0 0 0 10)
 (vf76_0 α (w64 (x1 + x2)) 2
 (fun x5 => vf167_0 α x5
 (fun x6 x7 => vf147_0 α x6 64
 (fun x8 x9 => vf147_0 α x7 64
 (fun x10 x11 => vf77_0 α (w64 (11 * (w64 (x2 - x5)))) 7
 (fun x12 => vJ158_0_0 α x5 x1 x2
 (vf59_0 α x8 x10 0
 (fun x26 x27 x28 x29 => k1 x26 x27 x28 x29))
 (fun x24 => vf59_0 α x8 x10 (w64 (2 + x12))
 (fun x30 x31 x32 x33 => k1 x30 x31 x32 x33))))))))))))
noncomputable def f158_0 (α : Type) (x1 x2 : Int) (k1 : Int → Int → Int → Int → Option α) : Option α := f158_0g J158_0_0 f147_0 f167_0 f57_0 f59_0 f76_0 f77_0 α x1 x2 k1
def pa158_0 : PT (List DV) := pA [pV true [(dI .i64), (dI .i64)]]
def Fn158_0 (v : Tf158_0) (α : Type) (k : List RV → Option α) : Int → Int → Option α := fun x1 x2 => v α x1 x2 (fun (y1 : Int) (y2 : Int) (y3 : Int) (y4 : Int) => ur158_0_0 k y1 y2 y3 y4)
noncomputable def cm158_0g (vJ158_0_0 : TJ158_0_0) : MCode := (.seq (.region r158_2 [] (tO [1, 2])) (.seq (.seq (.region r158_5 [] (tO [1, 2, 20])) (.cond (.tmp 20) (.seq (.region r158_8 [] (tO [2, 3])) .ret) .skip)) (.seq (.seq (.region r158_11 [] (tO [1, 2, 26])) (.cond (.tmp 26) (.seq (.region r158_14 [] (tO [2, 3])) .ret) .skip)) (.seq (.region r158_16 [] (tO [1, 2, 4])) (.seq (.region r158_18 [] (tO [1, 2, 4, 5])) (.seq (.region r158_20 [] (tO [1, 2, 4, 5, 6])) (.seq (.region r158_22 [] (tO [1, 2, 4, 6, 8])) (.seq (.region r158_24 [] (tO [1, 2, 4, 10])) (.seq (.mark [⟨p158_0_0, F158_0_0 vJ158_0_0⟩] c158_0_25) (.seq (.region r158_31 [] (tO [2, 3])) .ret))))))))))
noncomputable def cm158_0 : MCode := cm158_0g J158_0_0
theorem gm158_0 : cm158_0.Good Tryz.prog E158_0 sh158 := ⟨trivial, ⟨⟨trivial, ⟨⟨trivial, trivial⟩, trivial⟩⟩, ⟨⟨trivial, ⟨⟨trivial, trivial⟩, trivial⟩⟩, ⟨trivial, ⟨trivial, ⟨trivial, ⟨trivial, ⟨trivial, ⟨⟨g158_0_25, m158_0_0, trivial⟩, ⟨trivial, trivial⟩⟩⟩⟩⟩⟩⟩⟩⟩⟩
theorem fm158_0g (vf57_0 : Tf57_0) (vf76_0 : Tf76_0) (vf167_0 : Tf167_0) (vf147_0 : Tf147_0) (vf77_0 : Tf77_0) (vf91_0 : Tf91_0) (vf59_0 : Tf59_0) (vJ158_0_0 : TJ158_0_0) (α : Type) (k : List RV → Option α) : Fn158_0 (f158_0g vJ158_0_0 vf147_0 vf167_0 vf57_0 vf59_0 vf76_0 vf77_0) α k = pa158_0.unc fun ds => fnM Tryz.prog (E158_0g vf57_0 vf76_0 vf167_0 vf147_0 vf77_0 vf91_0 vf59_0) sh158 (cm158_0g vJ158_0_0) rs158 k ds := by kernel_rfl
theorem fm158_0 : ∀ (α : Type) (k : List RV → Option α), Fn158_0 f158_0 α k = pa158_0.unc fun ds => fnM Tryz.prog E158_0 sh158 cm158_0 rs158 k ds := fm158_0g f57_0 f76_0 f167_0 f147_0 f77_0 f91_0 f59_0 J158_0_0
theorem is158 : FnIs Tryz.prog 158 nt158 tr158 tl158 cm158_0.erase rs158 := ⟨Tryz.f158, Tryz.func158, rfl, by kernel_rfl, by kernel_rfl, by kernel_rfl⟩
theorem io158_0 : InstOk Tryz.prog 158 nt158 ⟨pa158_0, Fn158_0 f158_0⟩ := inst_ok eo158_0 followsTry is158 ⟨⟨sh158, cm158_0, by kernel_rfl, gm158_0, fm158_0⟩⟩
abbrev nt95 : Nat := 37
def sh95 : List (Nat × List Sh) := [(16, [.flt .f64, .flt .f64]), (25, [.flt .f64, .flt .f64])]
def r95_2 : List AOper := [oO 4 (.alloc [(cI 0), (cI 0)]), oO 5 (.mv (kI 0))]
def r95_4 : List AOper := [oM 11 0, oO 12 (.pure (oB (.call { callee := .builtin .real, args := #[(.tmp 11)], argTypes := #[43] }) 117)), oM 13 0, oO 14 (.pure (oB (.call { callee := .builtin .imag, args := #[(.tmp 13)], argTypes := #[43] }) 117)), oO 15 (.build [(.d (.v (.float Go.FloatKind.f64 0))), (.d (.v (.float Go.FloatKind.f64 0)))] [(0, 1, (.tmp 12)), (1, 1, (.tmp 14))]), oO 6 (.alloc [(.d (.v (.float Go.FloatKind.f64 0))), (.d (.v (.float Go.FloatKind.f64 0)))]), oD (.store 2 (.tmp 6) (.tmp 15))]
def r95_7 : List AOper := [oO 16 (.load true 2 (.tmp 6)), oO 17 (.mv (kI 0))]
def td95_9 : Option Tidy := (tO [0, 1, 4, 6, 16, 17])
def r95_11 : List AOper := [oO 18 (.bin .lss 3 (.tmp 17) (kI 2))]
def r95_17 : List AOper := [oO 19 (.index false 2 1 (.tmp 16) (.tmp 17)), oM 8 19]
def r95_19 : List AOper := [oM 20 8, oO 21 (.call 128 [(.tmp 20)]), oO 22 (.pure (oB (.unOp .not 4 (.tmp 21)) 4))]
def r95_22 : List AOper := [oO 23 (.build [(cI 0), (cI 0)] []), oD (.store 2 (.tmp 4) (.tmp 23)), oO 5 (.mv (kI 27))]
def r95_23 : List AOper := [oO 24 (.bin .add 3 (.tmp 17) (kI 1)), oM 17 24]
def r95_26 : List AOper := [oO 25 (.load true 2 (.tmp 6)), oO 26 (.mv (kI 0))]
def td95_28 : Option Tidy := (tO [0, 1, 4, 25, 26])
def r95_30 : List AOper := [oO 27 (.bin .lss 3 (.tmp 26) (kI 2))]
def r95_36 : List AOper := [oO 28 (.index false 2 1 (.tmp 25) (.tmp 26)), oM 10 28]
def r95_38 : List AOper := [oM 29 10, oO 30 (.call 129 [(.tmp 29)]), oM 31 1, oO 32 (.bin .gtr 117 (.tmp 30) (.tmp 31))]
def r95_41 : List AOper := [oO 33 (.build [(cI 0), (cI 0)] []), oD (.store 2 (.tmp 4) (.tmp 33)), oO 5 (.mv (kI 2))]
def r95_42 : List AOper := [oO 34 (.bin .add 3 (.tmp 26) (kI 1)), oM 26 34]
def r95_44 : List AOper := [oM 35 0, oO 36 (.call 130 [(.tmp 35)]), oD (.store 2 (.tmp 4) (.tmp 36)), oO 5 (.mv (kI 0))]
def tr95 : List (Nat × Tidy) := [tT 0 [0, 1, 4], tT 1 [0, 1, 4, 6], tT 2 [0, 1, 4, 6, 16, 17], tT 3 [0, 1, 4, 6, 16, 17, 18], tT 4 [0, 1, 4, 6, 8, 16, 17], tT 5 [0, 1, 4, 6, 16, 17, 22], tT 6 [4, 5], tT 7 [0, 1, 4, 6, 16, 17], tT 8 [0, 1, 4, 25, 26], tT 9 [0, 1, 4, 25, 26, 27], tT 10 [0, 1, 4, 10, 25, 26], tT 11 [0, 1, 4, 25, 26, 32], tT 12 [4, 5], tT 13 [0, 1, 4, 25, 26], tT 14 [4, 5]]
def tl95 : List (Nat × Tidy) := [tT 3 [0, 1, 4, 6, 16, 17], tT 9 [0, 1, 4, 25, 26]]
def rs95 : List AResV := [.cell 4 true 2, .tmp 5]
def p95_0_0 : PT St := pS [sl 0 (aV false [(cD (dX .f64))]), sl 1 (aV false [(cD (dF .f64))]), sl 4 (aV false [(cPtr 4 0)]), sl 6 (aV false [(cPtr 6 0)]), sl 16 (aV true [(cD (dF .f64)), (cD (dF .f64))]), sl 17 (aV false [(cD (dI .i64))]), sl 18 (aV false [(cD dB)])] [eBox 4 [(cD (dI .i64)), (cD (dI .i64))], eBox 6 [(cD (dF .f64)), (cD (dF .f64))]]
def u95_0_0 {β : Type} (g : St → β) : Nat → Nat → Nat → Nat → Nat → Int → Bool → Int → Int → Nat → Nat → β := p95_0_0.unc g
def p95_0_1 : PT St := pS [sl 0 (aV false [(cD (dX .f64))]), sl 1 (aV false [(cD (dF .f64))]), sl 4 (aV false [(cPtr 4 0)]), sl 6 (aV false [(cPtr 6 0)]), sl 8 (aV false [(cD (dF .f64))]), sl 16 (aV true [(cD (dF .f64)), (cD (dF .f64))]), sl 17 (aV false [(cD (dI .i64))])] [eBox 4 [(cD (dI .i64)), (cD (dI .i64))], eBox 6 [(cD (dF .f64)), (cD (dF .f64))]]
def u95_0_1 {β : Type} (g : St → β) : Nat → Nat → Nat → Nat → Nat → Nat → Int → Int → Int → Nat → Nat → β := p95_0_1.unc g
def p95_0_2 : PT St := pS [sl 0 (aV false [(cD (dX .f64))]), sl 1 (aV false [(cD (dF .f64))]), sl 4 (aV false [(cPtr 4 0)]), sl 6 (aV false [(cPtr 6 0)]), sl 16 (aV true [(cD (dF .f64)), (cD (dF .f64))]), sl 17 (aV false [(cD (dI .i64))])] [eBox 4 [(cD (dI .i64)), (cD (dI .i64))], eBox 6 [(cD (dF .f64)), (cD (dF .f64))]]
def u95_0_2 {β : Type} (g : St → β) : Nat → Nat → Nat → Nat → Nat → Int → Int → Int → Nat → Nat → β := p95_0_2.unc g
def p95_0_3 : PT St := pS [sl 4 (aV false [(cPtr 4 0)]), sl 5 (aV false [(cD (dI .i64))])] [eBox 4 [(cD (dI .i64)), (cD (dI .i64))]]
def u95_0_3 {β : Type} (g : St → β) : Int → Int → Int → β := p95_0_3.unc g
def p95_0_4 : PT St := pS [sl 0 (aV false [(cD (dX .f64))]), sl 1 (aV false [(cD (dF .f64))]), sl 4 (aV false [(cPtr 4 0)]), sl 25 (aV true [(cD (dF .f64)), (cD (dF .f64))]), sl 26 (aV false [(cD (dI .i64))]), sl 27 (aV false [(cD dB)])] [eBox 4 [(cD (dI .i64)), (cD (dI .i64))]]
def u95_0_4 {β : Type} (g : St → β) : Nat → Nat → Nat → Nat → Nat → Int → Bool → Int → Int → β := p95_0_4.unc g
def p95_0_5 : PT St := pS [sl 0 (aV false [(cD (dX .f64))]), sl 1 (aV false [(cD (dF .f64))]), sl 4 (aV false [(cPtr 4 0)]), sl 10 (aV false [(cD (dF .f64))]), sl 25 (aV true [(cD (dF .f64)), (cD (dF .f64))]), sl 26 (aV false [(cD (dI .i64))])] [eBox 4 [(cD (dI .i64)), (cD (dI .i64))]]
def u95_0_5 {β : Type} (g : St → β) : Nat → Nat → Nat → Nat → Nat → Nat → Int → Int → Int → β := p95_0_5.unc g
def p95_0_6 : PT St := pS [sl 0 (aV false [(cD (dX .f64))]), sl 1 (aV false [(cD (dF .f64))]), sl 4 (aV false [(cPtr 4 0)]), sl 25 (aV true [(cD (dF .f64)), (cD (dF .f64))]), sl 26 (aV false [(cD (dI .i64))])] [eBox 4 [(cD (dI .i64)), (cD (dI .i64))]]
def u95_0_6 {β : Type} (g : St → β) : Nat → Nat → Nat → Nat → Nat → Int → Int → Int → β := p95_0_6.unc g
def pr95_0_0 : PT (List RV) := pRs [pR true [rD (dI .i64), rD (dI .i64)], pR false [rD (dI .i64)]]
def ur95_0_0 {β : Type} (g : List RV → β) : Int → Int → Int → β := pr95_0_0.unc g
def E95_0g (vf128_0 : Tf128_0) (vf129_0 : Tf129_0) (vf130_0 : Tf130_0) : EnvK := EnvK.of [⟨128, nt128, [⟨pa128_0, Fn128_0 vf128_0⟩]⟩, ⟨129, nt129, [⟨pa129_0, Fn129_0 vf129_0⟩]⟩, ⟨130, nt130, [⟨pa130_0, Fn130_0 vf130_0⟩]⟩] noSeq
noncomputable def E95_0 : EnvK := E95_0g f128_0 f129_0 f130_0
theorem eo95_0 : E95_0.Ok Tryz.prog := EnvK.of_ok noSeq_ok ⟨⟨io128_0, trivial⟩, ⟨io129_0, trivial⟩, ⟨io130_0, trivial⟩, trivial⟩
noncomputable def c95_0_35g  : MCode := (.region r95_36 [] (tO [0, 1, 4, 10, 25, 26]))
noncomputable def c95_0_35 : MCode := c95_0_35g 
theorem g95_0_35 : c95_0_35.Good Tryz.prog E95_0 sh95 := trivial
--CODE 35 0
abbrev TJ95_0_2 : Type 1 := (α : Type) → Nat → Nat → Int → (Nat → Option α) → Option α
def J95_0_2g  (α : Type) (x45 x46 : Nat) (x47 : Int) (k1 : Nat → Option α) : Option α :=
 cK (x47 == 1)
 (k1 x46)
 (cK (x47 == 0)
 (k1 x45)
 (none))
noncomputable def J95_0_2 (α : Type) (x45 x46 : Nat) (x47 : Int) (k1 : Nat → Option α) : Option α := J95_0_2g  α x45 x46 x47 k1
def F95_0_2 (v : TJ95_0_2) (α : Type) (K : Exit → St → Option α) : Nat → Nat → Nat → Nat → Nat → Int → Bool → Int → Int → Option α := fun x42 x43 x44 x45 x46 x47 x48 x49 x50 => v α x45 x46 x47 (fun (y1 : Nat) => u95_0_5 (K .normal) x42 x43 x44 y1 x45 x46 x47 x49 x50) 
theorem m95_0_2g (vf128_0 : Tf128_0) (vf129_0 : Tf129_0) (vf130_0 : Tf130_0)  (α : Type) (K : Exit → St → Option α) : F95_0_2 (J95_0_2g ) α K = p95_0_4.unc fun σ => runM Tryz.prog (E95_0g vf128_0 vf129_0 vf130_0) sh95 (c95_0_35g ) K σ := by kernel_rfl
theorem m95_0_2 : ∀ (α : Type) (K : Exit → St → Option α), F95_0_2 J95_0_2 α K = p95_0_4.unc fun σ => runM Tryz.prog E95_0 sh95 c95_0_35 K σ := m95_0_2g f128_0 f129_0 f130_0
noncomputable def c95_0_28g (vJ95_0_2 : TJ95_0_2) : MCode := (.seq (.region r95_30 [] (tO [0, 1, 4, 25, 26, 27])) (.seq (.cond (.tmp 27) .skip (.exit 2)) (.seq (.block 3 (.seq (.mark [⟨p95_0_4, F95_0_2 vJ95_0_2⟩] c95_0_35) (.seq (.region r95_38 [] (tO [0, 1, 4, 25, 26, 32])) (.cond (.tmp 32) (.seq (.region r95_41 [] (tO [4, 5])) .ret) .skip)))) (.region r95_42 [] (tO [0, 1, 4, 25, 26])))))
noncomputable def c95_0_28 : MCode := c95_0_28g J95_0_2
theorem g95_0_28 : c95_0_28.Good Tryz.prog E95_0 sh95 := ⟨trivial, ⟨⟨trivial, trivial⟩, ⟨⟨⟨g95_0_35, m95_0_2, trivial⟩, ⟨trivial, ⟨⟨trivial, trivial⟩, trivial⟩⟩⟩, trivial⟩⟩⟩
--CODE 28 0
def S95_0_3g (vJ95_0_2 : TJ95_0_2) (vf129_0 : Tf129_0) (α : Type) (x35 x36 x37 : Nat) (x38 : Int) (kn : Int → Option α) (k1 : Option α) (k2 : Int → Bool → Option α) : Option α :=
 cK (decide (x38 < 2))
 (vJ95_0_2 α x36 x37 x38
 (fun x52 => vf129_0 α x52
 (fun x54 => cK ((FloatKind.format .f64).order x54 x35 == some Ordering.gt)
 (k1)
 (kn (w64 (x38 + 1))))))
 (k2 x38 (decide (x38 < 2)))
noncomputable def S95_0_3 (α : Type) (x35 x36 x37 : Nat) (x38 : Int) (kn : Int → Option α) (k1 : Option α) (k2 : Int → Bool → Option α) : Option α := S95_0_3g J95_0_2 f129_0 α x35 x36 x37 x38 kn k1 k2
noncomputable def R95_0_3 (α : Type) (x35 x36 x37 : Nat) (k1 : Option α) (k2 : Int → Bool → Option α) : Nat → Int → Option α
 | 0, _ => none
 | n + 1, x38 => S95_0_3 α x35 x36 x37 x38 (R95_0_3 α x35 x36 x37 k1 k2 n) k1 k2
noncomputable def L95_0_3 (α : Type) (x35 x36 x37 : Nat) (k1 : Option α) (k2 : Int → Bool → Option α) (x38 : Int) : Option α := R95_0_3 α x35 x36 x37 k1 k2 fuel x38
abbrev TL95_0_3 : Type 1 := (α : Type) → Nat → Nat → Nat → (Option α) → (Int → Bool → Option α) → Int → Option α
def F95_0_3 (v : TL95_0_3) (α : Type) (K : Exit → St → Option α) : Nat → Nat → Nat → Nat → Nat → Int → Int → Int → Option α := fun x33 x34 x35 x36 x37 x38 x39 x40 => v α x35 x36 x37 (u95_0_3 (K .ret) 2 0 0) (fun (y1 : Int) (y2 : Bool) => u95_0_4 (K (.exit 2)) x33 x34 x35 x36 x37 y1 y2 x39 x40) x38
theorem r95_0_3g (vf128_0 : Tf128_0) (vf129_0 : Tf129_0) (vf130_0 : Tf130_0) (vJ95_0_2 : TJ95_0_2) (α : Type) (K : Exit → St → Option α) (Kn : St → Option α) (x33 x34 x35 x36 x37 : Nat) (x38 x39 x40 : Int) : u95_0_6 (fun σ => runM Tryz.prog (E95_0g vf128_0 vf129_0 vf130_0) sh95 (c95_0_28g vJ95_0_2) (thenK (fun σ => tidyK td95_28 σ Kn) K) σ) x33 x34 x35 x36 x37 x38 x39 x40 = S95_0_3g vJ95_0_2 vf129_0 α x35 x36 x37 x38 (fun x38 => u95_0_6 Kn x33 x34 x35 x36 x37 x38 x39 x40) (u95_0_3 (K .ret) 2 0 0) (fun (y1 : Int) (y2 : Bool) => u95_0_4 (K (.exit 2)) x33 x34 x35 x36 x37 y1 y2 x39 x40) := by kernel_rfl
theorem r95_0_3 (α : Type) (K : Exit → St → Option α) (Kn : St → Option α) (x33 x34 x35 x36 x37 : Nat) (x38 x39 x40 : Int) : u95_0_6 (fun σ => runM Tryz.prog E95_0 sh95 c95_0_28 (thenK (fun σ => tidyK td95_28 σ Kn) K) σ) x33 x34 x35 x36 x37 x38 x39 x40 = S95_0_3 α x35 x36 x37 x38 (fun x38 => u95_0_6 Kn x33 x34 x35 x36 x37 x38 x39 x40) (u95_0_3 (K .ret) 2 0 0) (fun (y1 : Int) (y2 : Bool) => u95_0_4 (K (.exit 2)) x33 x34 x35 x36 x37 y1 y2 x39 x40) := r95_0_3g f128_0 f129_0 f130_0 J95_0_2 α K Kn x33 x34 x35 x36 x37 x38 x39 x40
theorem t95_0_3 (α : Type) (K : Exit → St → Option α) : ∀ (n : Nat) (x33 x34 x35 x36 x37 : Nat) (x38 x39 x40 : Int), R95_0_3 α x35 x36 x37 (u95_0_3 (K .ret) 2 0 0) (fun (y1 : Int) (y2 : Bool) => u95_0_4 (K (.exit 2)) x33 x34 x35 x36 x37 y1 y2 x39 x40) n x38 = u95_0_6 (loopT (runM Tryz.prog E95_0 sh95 c95_0_28) td95_28 K n) x33 x34 x35 x36 x37 x38 x39 x40 := by
 intro n
 induction n with
 | zero => intros; rfl
 | succ n ih => intro x33 x34 x35 x36 x37 x38 x39 x40; exact (congrArg (fun kn => S95_0_3 α x35 x36 x37 x38 kn (u95_0_3 (K .ret) 2 0 0) (fun (y1 : Int) (y2 : Bool) => u95_0_4 (K (.exit 2)) x33 x34 x35 x36 x37 y1 y2 x39 x40)) (funext fun x38 => ih x33 x34 x35 x36 x37 x38 x39 x40)).trans (r95_0_3 α K (loopT (runM Tryz.prog E95_0 sh95 c95_0_28) td95_28 K n) x33 x34 x35 x36 x37 x38 x39 x40).symm
theorem m95_0_3 : ∀ (α : Type) (K : Exit → St → Option α), F95_0_3 L95_0_3 α K = p95_0_6.unc fun σ => loopT (runM Tryz.prog E95_0 sh95 c95_0_28) td95_28 K fuel σ := fun α K => funext fun x33 => funext fun x34 => funext fun x35 => funext fun x36 => funext fun x37 => funext fun x38 => funext fun x39 => funext fun x40 => t95_0_3 α K fuel x33 x34 x35 x36 x37 x38 x39 x40
noncomputable def c95_0_16g  : MCode := (.region r95_17 [] (tO [0, 1, 4, 6, 8, 16, 17]))
noncomputable def c95_0_16 : MCode := c95_0_16g 
theorem g95_0_16 : c95_0_16.Good Tryz.prog E95_0 sh95 := trivial
--CODE 16 0
abbrev TJ95_0_0 : Type 1 := (α : Type) → Nat → Nat → Int → (Nat → Option α) → Option α
def J95_0_0g  (α : Type) (x18 x19 : Nat) (x20 : Int) (k1 : Nat → Option α) : Option α :=
 cK (x20 == 1)
 (k1 x19)
 (cK (x20 == 0)
 (k1 x18)
 (none))
noncomputable def J95_0_0 (α : Type) (x18 x19 : Nat) (x20 : Int) (k1 : Nat → Option α) : Option α := J95_0_0g  α x18 x19 x20 k1
def F95_0_0 (v : TJ95_0_0) (α : Type) (K : Exit → St → Option α) : Nat → Nat → Nat → Nat → Nat → Int → Bool → Int → Int → Nat → Nat → Option α := fun x15 x16 x17 x18 x19 x20 x21 x22 x23 x24 x25 => v α x18 x19 x20 (fun (y1 : Nat) => u95_0_1 (K .normal) x15 x16 x17 y1 x18 x19 x20 x22 x23 x24 x25) 
theorem m95_0_0g (vf128_0 : Tf128_0) (vf129_0 : Tf129_0) (vf130_0 : Tf130_0)  (α : Type) (K : Exit → St → Option α) : F95_0_0 (J95_0_0g ) α K = p95_0_0.unc fun σ => runM Tryz.prog (E95_0g vf128_0 vf129_0 vf130_0) sh95 (c95_0_16g ) K σ := by kernel_rfl
theorem m95_0_0 : ∀ (α : Type) (K : Exit → St → Option α), F95_0_0 J95_0_0 α K = p95_0_0.unc fun σ => runM Tryz.prog E95_0 sh95 c95_0_16 K σ := m95_0_0g f128_0 f129_0 f130_0
noncomputable def c95_0_9g (vJ95_0_0 : TJ95_0_0) : MCode := (.seq (.region r95_11 [] (tO [0, 1, 4, 6, 16, 17, 18])) (.seq (.cond (.tmp 18) .skip (.exit 0)) (.seq (.block 1 (.seq (.mark [⟨p95_0_0, F95_0_0 vJ95_0_0⟩] c95_0_16) (.seq (.region r95_19 [] (tO [0, 1, 4, 6, 16, 17, 22])) (.cond (.tmp 22) (.seq (.region r95_22 [] (tO [4, 5])) .ret) .skip)))) (.region r95_23 [] (tO [0, 1, 4, 6, 16, 17])))))
noncomputable def c95_0_9 : MCode := c95_0_9g J95_0_0
theorem g95_0_9 : c95_0_9.Good Tryz.prog E95_0 sh95 := ⟨trivial, ⟨⟨trivial, trivial⟩, ⟨⟨⟨g95_0_16, m95_0_0, trivial⟩, ⟨trivial, ⟨⟨trivial, trivial⟩, trivial⟩⟩⟩, trivial⟩⟩⟩
--CODE 9 0
def S95_0_1g (vJ95_0_0 : TJ95_0_0) (vf128_0 : Tf128_0) (α : Type) (x7 x8 : Nat) (x9 : Int) (kn : Int → Option α) (k1 : Option α) (k2 : Int → Bool → Option α) : Option α :=
 cK (decide (x9 < 2))
 (vJ95_0_0 α x7 x8 x9
 (fun x27 => vf128_0 α x27
 (fun x29 => cK (!x29)
 (k1)
 (kn (w64 (x9 + 1))))))
 (k2 x9 (decide (x9 < 2)))
noncomputable def S95_0_1 (α : Type) (x7 x8 : Nat) (x9 : Int) (kn : Int → Option α) (k1 : Option α) (k2 : Int → Bool → Option α) : Option α := S95_0_1g J95_0_0 f128_0 α x7 x8 x9 kn k1 k2
noncomputable def R95_0_1 (α : Type) (x7 x8 : Nat) (k1 : Option α) (k2 : Int → Bool → Option α) : Nat → Int → Option α
 | 0, _ => none
 | n + 1, x9 => S95_0_1 α x7 x8 x9 (R95_0_1 α x7 x8 k1 k2 n) k1 k2
noncomputable def L95_0_1 (α : Type) (x7 x8 : Nat) (k1 : Option α) (k2 : Int → Bool → Option α) (x9 : Int) : Option α := R95_0_1 α x7 x8 k1 k2 fuel x9
abbrev TL95_0_1 : Type 1 := (α : Type) → Nat → Nat → (Option α) → (Int → Bool → Option α) → Int → Option α
def F95_0_1 (v : TL95_0_1) (α : Type) (K : Exit → St → Option α) : Nat → Nat → Nat → Nat → Nat → Int → Int → Int → Nat → Nat → Option α := fun x4 x5 x6 x7 x8 x9 x10 x11 x12 x13 => v α x7 x8 (u95_0_3 (K .ret) 27 0 0) (fun (y1 : Int) (y2 : Bool) => u95_0_0 (K (.exit 0)) x4 x5 x6 x7 x8 y1 y2 x10 x11 x12 x13) x9
theorem r95_0_1g (vf128_0 : Tf128_0) (vf129_0 : Tf129_0) (vf130_0 : Tf130_0) (vJ95_0_0 : TJ95_0_0) (α : Type) (K : Exit → St → Option α) (Kn : St → Option α) (x4 x5 x6 x7 x8 : Nat) (x9 x10 x11 : Int) (x12 x13 : Nat) : u95_0_2 (fun σ => runM Tryz.prog (E95_0g vf128_0 vf129_0 vf130_0) sh95 (c95_0_9g vJ95_0_0) (thenK (fun σ => tidyK td95_9 σ Kn) K) σ) x4 x5 x6 x7 x8 x9 x10 x11 x12 x13 = S95_0_1g vJ95_0_0 vf128_0 α x7 x8 x9 (fun x9 => u95_0_2 Kn x4 x5 x6 x7 x8 x9 x10 x11 x12 x13) (u95_0_3 (K .ret) 27 0 0) (fun (y1 : Int) (y2 : Bool) => u95_0_0 (K (.exit 0)) x4 x5 x6 x7 x8 y1 y2 x10 x11 x12 x13) := by kernel_rfl
theorem r95_0_1 (α : Type) (K : Exit → St → Option α) (Kn : St → Option α) (x4 x5 x6 x7 x8 : Nat) (x9 x10 x11 : Int) (x12 x13 : Nat) : u95_0_2 (fun σ => runM Tryz.prog E95_0 sh95 c95_0_9 (thenK (fun σ => tidyK td95_9 σ Kn) K) σ) x4 x5 x6 x7 x8 x9 x10 x11 x12 x13 = S95_0_1 α x7 x8 x9 (fun x9 => u95_0_2 Kn x4 x5 x6 x7 x8 x9 x10 x11 x12 x13) (u95_0_3 (K .ret) 27 0 0) (fun (y1 : Int) (y2 : Bool) => u95_0_0 (K (.exit 0)) x4 x5 x6 x7 x8 y1 y2 x10 x11 x12 x13) := r95_0_1g f128_0 f129_0 f130_0 J95_0_0 α K Kn x4 x5 x6 x7 x8 x9 x10 x11 x12 x13
theorem t95_0_1 (α : Type) (K : Exit → St → Option α) : ∀ (n : Nat) (x4 x5 x6 x7 x8 : Nat) (x9 x10 x11 : Int) (x12 x13 : Nat), R95_0_1 α x7 x8 (u95_0_3 (K .ret) 27 0 0) (fun (y1 : Int) (y2 : Bool) => u95_0_0 (K (.exit 0)) x4 x5 x6 x7 x8 y1 y2 x10 x11 x12 x13) n x9 = u95_0_2 (loopT (runM Tryz.prog E95_0 sh95 c95_0_9) td95_9 K n) x4 x5 x6 x7 x8 x9 x10 x11 x12 x13 := by
 intro n
 induction n with
 | zero => intros; rfl
 | succ n ih => intro x4 x5 x6 x7 x8 x9 x10 x11 x12 x13; exact (congrArg (fun kn => S95_0_1 α x7 x8 x9 kn (u95_0_3 (K .ret) 27 0 0) (fun (y1 : Int) (y2 : Bool) => u95_0_0 (K (.exit 0)) x4 x5 x6 x7 x8 y1 y2 x10 x11 x12 x13)) (funext fun x9 => ih x4 x5 x6 x7 x8 x9 x10 x11 x12 x13)).trans (r95_0_1 α K (loopT (runM Tryz.prog E95_0 sh95 c95_0_9) td95_9 K n) x4 x5 x6 x7 x8 x9 x10 x11 x12 x13).symm
theorem m95_0_1 : ∀ (α : Type) (K : Exit → St → Option α), F95_0_1 L95_0_1 α K = p95_0_2.unc fun σ => loopT (runM Tryz.prog E95_0 sh95 c95_0_9) td95_9 K fuel σ := fun α K => funext fun x4 => funext fun x5 => funext fun x6 => funext fun x7 => funext fun x8 => funext fun x9 => funext fun x10 => funext fun x11 => funext fun x12 => funext fun x13 => t95_0_1 α K fuel x4 x5 x6 x7 x8 x9 x10 x11 x12 x13
abbrev Tf95_0 : Type 1 := (α : Type) → Nat → Nat → Nat → (Int → Int → Int → Option α) → Option α
def f95_0g (vL95_0_1 : TL95_0_1) (vL95_0_3 : TL95_0_3) (vf130_0 : Tf130_0) (α : Type) (x1 x2 x3 : Nat) (k1 : Int → Int → Int → Option α) : Option α :=
 vL95_0_1 α x1 x2
 (k1 0 0 27)
 (fun x30 x31 => vL95_0_3 α x3 x1 x2
 (k1 0 0 2)
 (fun x55 x56 => vf130_0 α x1 x2
 (fun x58 x59 => k1 x58 x59 0)) 0) 0
noncomputable def f95_0 (α : Type) (x1 x2 x3 : Nat) (k1 : Int → Int → Int → Option α) : Option α := f95_0g L95_0_1 L95_0_3 f130_0 α x1 x2 x3 k1
def pa95_0 : PT (List DV) := pA [pV false [(dX .f64)], pV false [(dF .f64)]]
def Fn95_0 (v : Tf95_0) (α : Type) (k : List RV → Option α) : Nat → Nat → Nat → Option α := fun x1 x2 x3 => v α x1 x2 x3 (fun (y1 : Int) (y2 : Int) (y3 : Int) => ur95_0_0 k y1 y2 y3)
noncomputable def cm95_0g (vL95_0_1 : TL95_0_1) (vL95_0_3 : TL95_0_3) : MCode := (.seq (.region r95_2 [] (tO [0, 1, 4])) (.seq (.region r95_4 [] (tO [0, 1, 4, 6])) (.seq (.seq (.region r95_7 [] (tO [0, 1, 4, 6, 16, 17])) (.block 0 (.loop td95_9 [⟨p95_0_2, F95_0_1 vL95_0_1⟩] c95_0_9))) (.seq (.seq (.region r95_26 [] (tO [0, 1, 4, 25, 26])) (.block 2 (.loop td95_28 [⟨p95_0_6, F95_0_3 vL95_0_3⟩] c95_0_28))) (.seq (.region r95_44 [] (tO [4, 5])) .ret)))))
noncomputable def cm95_0 : MCode := cm95_0g L95_0_1 L95_0_3
theorem gm95_0 : cm95_0.Good Tryz.prog E95_0 sh95 := ⟨trivial, ⟨trivial, ⟨⟨trivial, ⟨g95_0_9, m95_0_1, trivial⟩⟩, ⟨⟨trivial, ⟨g95_0_28, m95_0_3, trivial⟩⟩, ⟨trivial, trivial⟩⟩⟩⟩⟩
theorem fm95_0g (vf128_0 : Tf128_0) (vf129_0 : Tf129_0) (vf130_0 : Tf130_0) (vL95_0_1 : TL95_0_1) (vL95_0_3 : TL95_0_3) (α : Type) (k : List RV → Option α) : Fn95_0 (f95_0g vL95_0_1 vL95_0_3 vf130_0) α k = pa95_0.unc fun ds => fnM Tryz.prog (E95_0g vf128_0 vf129_0 vf130_0) sh95 (cm95_0g vL95_0_1 vL95_0_3) rs95 k ds := by kernel_rfl
theorem fm95_0 : ∀ (α : Type) (k : List RV → Option α), Fn95_0 f95_0 α k = pa95_0.unc fun ds => fnM Tryz.prog E95_0 sh95 cm95_0 rs95 k ds := fm95_0g f128_0 f129_0 f130_0 L95_0_1 L95_0_3
theorem is95 : FnIs Tryz.prog 95 nt95 tr95 tl95 cm95_0.erase rs95 := ⟨Tryz.f95, Tryz.func95, rfl, by kernel_rfl, by kernel_rfl, by kernel_rfl⟩
theorem io95_0 : InstOk Tryz.prog 95 nt95 ⟨pa95_0, Fn95_0 f95_0⟩ := inst_ok eo95_0 followsTry is95 ⟨⟨sh95, cm95_0, by kernel_rfl, gm95_0, fm95_0⟩⟩
abbrev nt165 : Nat := 42
def sh165 : List (Nat × List Sh) := [(27, [.int .i64, .int .i64]), (28, [.int .i64, .int .i64]), (34, [.int .i64, .int .i64]), (36, [.int .i64, .int .i64]), (40, [.int .i64, .int .i64]), (41, [.int .i64, .int .i64])]
def r165_2 : List AOper := [oO 2 (.alloc [(cI 0), (cI 0)])]
def r165_4 : List AOper := [oO 10 (.call 160 [(kI 2251799813685248)]), oM 3 10]
def r165_6 : List AOper := [oO 11 (.build [(cI 0), (cI 0)] [(0, 1, (kI 67108864))]), oM 12 3, oM 13 3, oO 14 (.build [(cI 0), (cI 0)] [(0, 1, (.tmp 12)), (1, 1, (.tmp 13))]), oO 4 (.alloc [(cI 0), (cI 0)]), oO 5 (.alloc [(cI 0), (cI 0)]), oD (.store 2 (.tmp 4) (.tmp 11)), oD (.store 2 (.tmp 5) (.tmp 14))]
def r165_8 : List AOper := [oO 6 (.mv (kI 0)), oO 7 (.mv (kI 524288))]
def td165_11 : Option Tidy := (tO [0, 2, 4, 5, 6, 7])
def r165_14 : List AOper := [oM 15 0, oM 16 6, oO 17 (.bin .neq 3 (.tmp 15) (.tmp 16)), oM 18 17, oG 19 (.mv (.tmp 0)) 18 true, oG 20 (.mv (.tmp 7)) 18 true, oG 21 (.bin .neq 3 (.tmp 19) (.tmp 20)) 18 true, oO 22 (.pick (.tmp 18) (.tmp 21) (.const (.bool false)))]
def r165_18 : List AOper := [oM 23 6, oM 24 7, oO 25 (.bin .add 3 (.tmp 23) (.tmp 24)), oO 26 (.bin .quo 3 (.tmp 25) (kI 2)), oM 8 26]
def r165_20 : List AOper := [oO 27 (.load true 2 (.tmp 4)), oO 28 (.load true 2 (.tmp 5)), oO 29 (.call 173 [(.tmp 27), (.tmp 28)]), oO 9 (.alloc [(cI 0), (cI 0)]), oD (.store 2 (.tmp 9) (.tmp 29))]
def r165_22 : List AOper := [oM 30 0, oM 31 8, oO 32 (.bin .geq 3 (.tmp 30) (.tmp 31))]
def r165_24 : List AOper := [oM 33 8, oO 34 (.load true 2 (.tmp 9)), oM 6 33, oD (.store 2 (.tmp 4) (.tmp 34))]
def r165_25 : List AOper := [oM 35 8, oO 36 (.load true 2 (.tmp 9)), oM 7 35, oD (.store 2 (.tmp 5) (.tmp 36))]
def r165_28 : List AOper := [oM 37 0, oM 38 6, oO 39 (.bin .eql 3 (.tmp 37) (.tmp 38))]
def r165_31 : List AOper := [oO 40 (.load true 2 (.tmp 4)), oD (.store 2 (.tmp 2) (.tmp 40))]
def r165_33 : List AOper := [oO 41 (.load true 2 (.tmp 5)), oD (.store 2 (.tmp 2) (.tmp 41))]
def tr165 : List (Nat × Tidy) := [tT 0 [0, 2], tT 1 [0, 2, 3], tT 2 [0, 2, 4, 5], tT 3 [0, 2, 4, 5, 6, 7], tT 4 [0, 2, 4, 5, 6, 7, 22], tT 5 [0, 2, 4, 5, 6, 7, 8], tT 6 [0, 2, 4, 5, 6, 7, 8, 9], tT 7 [0, 2, 4, 5, 6, 7, 8, 9, 32], tT 8 [0, 2, 4, 5, 6, 7], tT 9 [0, 2, 4, 5, 6, 7], tT 10 [2, 4, 5, 39], tT 11 [2], tT 12 [2]]
def tl165 : List (Nat × Tidy) := [tT 4 [0, 2, 4, 5, 6, 7]]
def rs165 : List AResV := [.cell 2 true 2]
def p165_0_0 : PT St := pS [sl 0 (aV false [(cD (dI .i64))]), sl 2 (aV false [(cPtr 2 0)]), sl 4 (aV false [(cPtr 4 0)]), sl 5 (aV false [(cPtr 5 0)]), sl 6 (aV false [(cD (dI .i64))]), sl 7 (aV false [(cD (dI .i64))])] [eBox 2 [(cD (dI .i64)), (cD (dI .i64))], eBox 4 [(cD (dI .i64)), (cD (dI .i64))], eBox 5 [(cD (dI .i64)), (cD (dI .i64))]]
def u165_0_0 {β : Type} (g : St → β) : Int → Int → Int → Int → Int → Int → Int → Int → Int → β := p165_0_0.unc g
def p165_0_1 : PT St := pS [sl 0 (aV false [(cD (dI .i64))]), sl 2 (aV false [(cPtr 2 0)]), sl 4 (aV false [(cPtr 4 0)]), sl 5 (aV false [(cPtr 5 0)]), sl 6 (aV false [(cD (dI .i64))]), sl 7 (aV false [(cD (dI .i64))]), sl 22 (aV false [(cD dB)])] [eBox 2 [(cD (dI .i64)), (cD (dI .i64))], eBox 4 [(cD (dI .i64)), (cD (dI .i64))], eBox 5 [(cD (dI .i64)), (cD (dI .i64))]]
def u165_0_1 {β : Type} (g : St → β) : Int → Int → Int → Bool → Int → Int → Int → Int → Int → Int → β := p165_0_1.unc g
def pr165_0_0 : PT (List RV) := pRs [pR true [rD (dI .i64), rD (dI .i64)]]
def ur165_0_0 {β : Type} (g : List RV → β) : Int → Int → β := pr165_0_0.unc g
def E165_0g (vf160_0 : Tf160_0) (vf173_0 : Tf173_0) : EnvK := EnvK.of [⟨160, nt160, [⟨pa160_0, Fn160_0 vf160_0⟩]⟩, ⟨173, nt173, [⟨pa173_0, Fn173_0 vf173_0⟩]⟩] noSeq
noncomputable def E165_0 : EnvK := E165_0g f160_0 f173_0
theorem eo165_0 : E165_0.Ok Tryz.prog := EnvK.of_ok noSeq_ok ⟨⟨io160_0, trivial⟩, ⟨io173_0, trivial⟩, trivial⟩
noncomputable def c165_0_11g  : MCode := (.seq (.seq (.region r165_14 [] (tO [0, 2, 4, 5, 6, 7, 22])) (.cond (.tmp 22) .skip (.exit 0))) (.block 1 (.seq (.region r165_18 [] (tO [0, 2, 4, 5, 6, 7, 8])) (.seq (.region r165_20 [] (tO [0, 2, 4, 5, 6, 7, 8, 9])) (.seq (.region r165_22 [] (tO [0, 2, 4, 5, 6, 7, 8, 9, 32])) (.cond (.tmp 32) (.region r165_24 [] (tO [0, 2, 4, 5, 6, 7])) (.region r165_25 [] (tO [0, 2, 4, 5, 6, 7]))))))))
noncomputable def c165_0_11 : MCode := c165_0_11g 
theorem g165_0_11 : c165_0_11.Good Tryz.prog E165_0 sh165 := ⟨⟨trivial, ⟨trivial, trivial⟩⟩, ⟨trivial, ⟨trivial, ⟨trivial, ⟨trivial, trivial⟩⟩⟩⟩⟩
--CODE 11 0
def S165_0_0g (vf173_0 : Tf173_0) (α : Type) (x3 x4 x5 x8 x9 x10 x11 : Int) (kn : Int → Int → Int → Int → Int → Int → Option α) (k1 : Int → Int → Bool → Int → Int → Int → Int → Option α) : Option α :=
 cK (x3 != x4)
 (cK (x3 != x5)
 (vf173_0 α x8 x9 x10 x11
 (fun x13 x14 => cK (decide ((w64 (Int.tdiv (w64 (x4 + x5)) 2)) ≤ x3))
 (kn (w64 (Int.tdiv (w64 (x4 + x5)) 2)) x5 x13 x14 x10 x11)
 (kn x4 (w64 (Int.tdiv (w64 (x4 + x5)) 2)) x8 x9 x13 x14)))
 (k1 x4 x5 (x3 != x5) x8 x9 x10 x11))
 (k1 x4 x5 false x8 x9 x10 x11)
noncomputable def S165_0_0 (α : Type) (x3 x4 x5 x8 x9 x10 x11 : Int) (kn : Int → Int → Int → Int → Int → Int → Option α) (k1 : Int → Int → Bool → Int → Int → Int → Int → Option α) : Option α := S165_0_0g f173_0 α x3 x4 x5 x8 x9 x10 x11 kn k1
noncomputable def R165_0_0 (α : Type) (x3 : Int) (k1 : Int → Int → Bool → Int → Int → Int → Int → Option α) : Nat → Int → Int → Int → Int → Int → Int → Option α
 | 0, _, _, _, _, _, _ => none
 | n + 1, x4, x5, x8, x9, x10, x11 => S165_0_0 α x3 x4 x5 x8 x9 x10 x11 (R165_0_0 α x3 k1 n) k1
noncomputable def L165_0_0 (α : Type) (x3 : Int) (k1 : Int → Int → Bool → Int → Int → Int → Int → Option α) (x4 x5 x8 x9 x10 x11 : Int) : Option α := R165_0_0 α x3 k1 fuel x4 x5 x8 x9 x10 x11
abbrev TL165_0_0 : Type 1 := (α : Type) → Int → (Int → Int → Bool → Int → Int → Int → Int → Option α) → Int → Int → Int → Int → Int → Int → Option α
def F165_0_0 (v : TL165_0_0) (α : Type) (K : Exit → St → Option α) : Int → Int → Int → Int → Int → Int → Int → Int → Int → Option α := fun x3 x4 x5 x6 x7 x8 x9 x10 x11 => v α x3 (fun (y1 : Int) (y2 : Int) (y3 : Bool) (y4 : Int) (y5 : Int) (y6 : Int) (y7 : Int) => u165_0_1 (K (.exit 0)) x3 y1 y2 y3 x6 x7 y4 y5 y6 y7) x4 x5 x8 x9 x10 x11
theorem r165_0_0g (vf160_0 : Tf160_0) (vf173_0 : Tf173_0)  (α : Type) (K : Exit → St → Option α) (Kn : St → Option α) (x3 x4 x5 x6 x7 x8 x9 x10 x11 : Int) : u165_0_0 (fun σ => runM Tryz.prog (E165_0g vf160_0 vf173_0) sh165 (c165_0_11g ) (thenK (fun σ => tidyK td165_11 σ Kn) K) σ) x3 x4 x5 x6 x7 x8 x9 x10 x11 = S165_0_0g vf173_0 α x3 x4 x5 x8 x9 x10 x11 (fun x4 x5 x8 x9 x10 x11 => u165_0_0 Kn x3 x4 x5 x6 x7 x8 x9 x10 x11) (fun (y1 : Int) (y2 : Int) (y3 : Bool) (y4 : Int) (y5 : Int) (y6 : Int) (y7 : Int) => u165_0_1 (K (.exit 0)) x3 y1 y2 y3 x6 x7 y4 y5 y6 y7) := by kernel_rfl
theorem r165_0_0 (α : Type) (K : Exit → St → Option α) (Kn : St → Option α) (x3 x4 x5 x6 x7 x8 x9 x10 x11 : Int) : u165_0_0 (fun σ => runM Tryz.prog E165_0 sh165 c165_0_11 (thenK (fun σ => tidyK td165_11 σ Kn) K) σ) x3 x4 x5 x6 x7 x8 x9 x10 x11 = S165_0_0 α x3 x4 x5 x8 x9 x10 x11 (fun x4 x5 x8 x9 x10 x11 => u165_0_0 Kn x3 x4 x5 x6 x7 x8 x9 x10 x11) (fun (y1 : Int) (y2 : Int) (y3 : Bool) (y4 : Int) (y5 : Int) (y6 : Int) (y7 : Int) => u165_0_1 (K (.exit 0)) x3 y1 y2 y3 x6 x7 y4 y5 y6 y7) := r165_0_0g f160_0 f173_0 α K Kn x3 x4 x5 x6 x7 x8 x9 x10 x11
theorem t165_0_0 (α : Type) (K : Exit → St → Option α) : ∀ (n : Nat) (x3 x4 x5 x6 x7 x8 x9 x10 x11 : Int), R165_0_0 α x3 (fun (y1 : Int) (y2 : Int) (y3 : Bool) (y4 : Int) (y5 : Int) (y6 : Int) (y7 : Int) => u165_0_1 (K (.exit 0)) x3 y1 y2 y3 x6 x7 y4 y5 y6 y7) n x4 x5 x8 x9 x10 x11 = u165_0_0 (loopT (runM Tryz.prog E165_0 sh165 c165_0_11) td165_11 K n) x3 x4 x5 x6 x7 x8 x9 x10 x11 := by
 intro n
 induction n with
 | zero => intros; rfl
 | succ n ih => intro x3 x4 x5 x6 x7 x8 x9 x10 x11; exact (congrArg (fun kn => S165_0_0 α x3 x4 x5 x8 x9 x10 x11 kn (fun (y1 : Int) (y2 : Int) (y3 : Bool) (y4 : Int) (y5 : Int) (y6 : Int) (y7 : Int) => u165_0_1 (K (.exit 0)) x3 y1 y2 y3 x6 x7 y4 y5 y6 y7)) (funext fun x4 => funext fun x5 => funext fun x8 => funext fun x9 => funext fun x10 => funext fun x11 => ih x3 x4 x5 x6 x7 x8 x9 x10 x11)).trans (r165_0_0 α K (loopT (runM Tryz.prog E165_0 sh165 c165_0_11) td165_11 K n) x3 x4 x5 x6 x7 x8 x9 x10 x11).symm
theorem m165_0_0 : ∀ (α : Type) (K : Exit → St → Option α), F165_0_0 L165_0_0 α K = p165_0_0.unc fun σ => loopT (runM Tryz.prog E165_0 sh165 c165_0_11) td165_11 K fuel σ := fun α K => funext fun x3 => funext fun x4 => funext fun x5 => funext fun x6 => funext fun x7 => funext fun x8 => funext fun x9 => funext fun x10 => funext fun x11 => t165_0_0 α K fuel x3 x4 x5 x6 x7 x8 x9 x10 x11
abbrev Tf165_0 : Type 1 := (α : Type) → Int → (Int → Int → Option α) → Option α
def f165_0g (vL165_0_0 : TL165_0_0) (vf160_0 : Tf160_0) (α : Type) (x1 : Int) (k1 : Int → Int → Option α) : Option α :=
 vf160_0 α 2251799813685248
 (fun x2 => vL165_0_0 α x1
 (fun x15 x16 x17 x18 x19 x20 x21 => cK (x1 == x15)
 (k1 x18 x19)
 (k1 x20 x21)) 0 524288 67108864 0 x2 x2)
noncomputable def f165_0 (α : Type) (x1 : Int) (k1 : Int → Int → Option α) : Option α := f165_0g L165_0_0 f160_0 α x1 k1
def pa165_0 : PT (List DV) := pA [pV false [(dI .i64)]]
def Fn165_0 (v : Tf165_0) (α : Type) (k : List RV → Option α) : Int → Option α := fun x1 => v α x1 (fun (y1 : Int) (y2 : Int) => ur165_0_0 k y1 y2)
noncomputable def cm165_0g (vL165_0_0 : TL165_0_0) : MCode := (.seq (.region r165_2 [] (tO [0, 2])) (.seq (.region r165_4 [] (tO [0, 2, 3])) (.seq (.region r165_6 [] (tO [0, 2, 4, 5])) (.seq (.region r165_8 [] (tO [0, 2, 4, 5, 6, 7])) (.seq (.block 0 (.loop td165_11 [⟨p165_0_0, F165_0_0 vL165_0_0⟩] c165_0_11)) (.seq (.seq (.region r165_28 [] (tO [2, 4, 5, 39])) (.cond (.tmp 39) (.seq (.region r165_31 [] (tO [2])) .ret) .skip)) (.seq (.region r165_33 [] (tO [2])) .ret)))))))
noncomputable def cm165_0 : MCode := cm165_0g L165_0_0
theorem gm165_0 : cm165_0.Good Tryz.prog E165_0 sh165 := ⟨trivial, ⟨trivial, ⟨trivial, ⟨trivial, ⟨⟨g165_0_11, m165_0_0, trivial⟩, ⟨⟨trivial, ⟨⟨trivial, trivial⟩, trivial⟩⟩, ⟨trivial, trivial⟩⟩⟩⟩⟩⟩⟩
theorem fm165_0g (vf160_0 : Tf160_0) (vf173_0 : Tf173_0) (vL165_0_0 : TL165_0_0) (α : Type) (k : List RV → Option α) : Fn165_0 (f165_0g vL165_0_0 vf160_0) α k = pa165_0.unc fun ds => fnM Tryz.prog (E165_0g vf160_0 vf173_0) sh165 (cm165_0g vL165_0_0) rs165 k ds := by kernel_rfl
theorem fm165_0 : ∀ (α : Type) (k : List RV → Option α), Fn165_0 f165_0 α k = pa165_0.unc fun ds => fnM Tryz.prog E165_0 sh165 cm165_0 rs165 k ds := fm165_0g f160_0 f173_0 L165_0_0
theorem is165 : FnIs Tryz.prog 165 nt165 tr165 tl165 cm165_0.erase rs165 := ⟨Tryz.f165, Tryz.func165, rfl, by kernel_rfl, by kernel_rfl, by kernel_rfl⟩
theorem io165_0 : InstOk Tryz.prog 165 nt165 ⟨pa165_0, Fn165_0 f165_0⟩ := inst_ok eo165_0 followsTry is165 ⟨⟨sh165, cm165_0, by kernel_rfl, gm165_0, fm165_0⟩⟩
abbrev nt140 : Nat := 34
def sh140 : List (Nat × List Sh) := [(19, [.int .i64]), (23, [.int .i64]), (27, [.int .i64])]
def r140_2 : List AOper := [oO 4 (.alloc [(cI 0), (cI 0), (cI 0)]), oO 5 (.mv (kI 0))]
def r140_4 : List AOper := [oM 9 0, oO 10 (.bin .mul 3 (.tmp 9) (kI 4194304)), oM 6 10]
def r140_6 : List AOper := [oM 11 6, oM 12 1, oO 13 (.call 76 [(.tmp 11), (.tmp 12)]), oM 14 6, oM 15 1, oO 16 (.call 77 [(.tmp 14), (.tmp 15)]), oO 17 (.build [(cI 0), (cI 0)] [(0, 1, (.tmp 13)), (1, 1, (.tmp 16))]), oO 7 (.alloc [(cI 0), (cI 0)]), oD (.store 2 (.tmp 7) (.tmp 17))]
def r140_8 : List AOper := [oO 18 (.faddr 0 (.tmp 7)), oO 19 (.load false 1 (.tmp 18)), oO 20 (.call 76 [(.tmp 19), (kI 4194304)]), oO 21 (.bin .mul 3 (.tmp 20) (kI 4194304)), oM 8 21]
def r140_10 : List AOper := [oO 22 (.faddr 0 (.tmp 7)), oO 23 (.load false 1 (.tmp 22)), oM 24 8, oO 25 (.bin .sub 3 (.tmp 23) (.tmp 24)), oO 26 (.faddr 1 (.tmp 7)), oO 27 (.load false 1 (.tmp 26)), oM 28 8, oO 29 (.bin .sub 3 (.tmp 27) (.tmp 28)), oO 30 (.build [(cI 0), (cI 0)] [(0, 1, (.tmp 25)), (1, 1, (.tmp 29))]), oO 31 (.call 158 [(.tmp 30)]), oO 32 (.extract 0 (.tmp 31)), oO 33 (.extract 1 (.tmp 31)), oD (.store 3 (.tmp 4) (.tmp 32)), oM 5 33]
def tr140 : List (Nat × Tidy) := [tT 0 [0, 1, 4], tT 1 [1, 4, 6], tT 2 [4, 7], tT 3 [4, 7, 8], tT 4 [4, 5]]
def tl140 : List (Nat × Tidy) := []
def rs140 : List AResV := [.cell 4 true 3, .tmp 5]
def pr140_0_0 : PT (List RV) := pRs [pR true [rD (dI .i64), rD (dI .i64), rD (dI .i64)], pR false [rD (dI .i64)]]
def ur140_0_0 {β : Type} (g : List RV → β) : Int → Int → Int → Int → β := pr140_0_0.unc g
def E140_0g (vf76_0 : Tf76_0) (vf77_0 : Tf77_0) (vf158_0 : Tf158_0) : EnvK := EnvK.of [⟨76, nt76, [⟨pa76_0, Fn76_0 vf76_0⟩]⟩, ⟨77, nt77, [⟨pa77_0, Fn77_0 vf77_0⟩]⟩, ⟨158, nt158, [⟨pa158_0, Fn158_0 vf158_0⟩]⟩] noSeq
noncomputable def E140_0 : EnvK := E140_0g f76_0 f77_0 f158_0
theorem eo140_0 : E140_0.Ok Tryz.prog := EnvK.of_ok noSeq_ok ⟨⟨io76_0, trivial⟩, ⟨io77_0, trivial⟩, ⟨io158_0, trivial⟩, trivial⟩
abbrev Tf140_0 : Type 1 := (α : Type) → Int → Int → (Int → Int → Int → Int → Option α) → Option α
def f140_0g (vf158_0 : Tf158_0) (vf76_0 : Tf76_0) (vf77_0 : Tf77_0) (α : Type) (x1 x2 : Int) (k1 : Int → Int → Int → Int → Option α) : Option α :=
 vf76_0 α (w64 (x1 * 4194304)) x2
 (fun x3 => vf77_0 α (w64 (x1 * 4194304)) x2
 (fun x4 => vf76_0 α x3 4194304
 (fun x5 => vf158_0 α (w64 (x3 - (w64 (x5 * 4194304)))) (w64 (x4 - (w64 (x5 * 4194304))))
 (fun x6 x7 x8 x9 => k1 x6 x7 x8 x9))))
noncomputable def f140_0 (α : Type) (x1 x2 : Int) (k1 : Int → Int → Int → Int → Option α) : Option α := f140_0g f158_0 f76_0 f77_0 α x1 x2 k1
def pa140_0 : PT (List DV) := pA [pV false [(dI .i64)], pV false [(dI .i64)]]
def Fn140_0 (v : Tf140_0) (α : Type) (k : List RV → Option α) : Int → Int → Option α := fun x1 x2 => v α x1 x2 (fun (y1 : Int) (y2 : Int) (y3 : Int) (y4 : Int) => ur140_0_0 k y1 y2 y3 y4)
noncomputable def cm140_0g  : MCode := (.seq (.region r140_2 [] (tO [0, 1, 4])) (.seq (.region r140_4 [] (tO [1, 4, 6])) (.seq (.region r140_6 [] (tO [4, 7])) (.seq (.region r140_8 [] (tO [4, 7, 8])) (.seq (.region r140_10 [] (tO [4, 5])) .ret)))))
noncomputable def cm140_0 : MCode := cm140_0g 
theorem gm140_0 : cm140_0.Good Tryz.prog E140_0 sh140 := ⟨trivial, ⟨trivial, ⟨trivial, ⟨trivial, ⟨trivial, trivial⟩⟩⟩⟩⟩
theorem fm140_0g (vf76_0 : Tf76_0) (vf77_0 : Tf77_0) (vf158_0 : Tf158_0)  (α : Type) (k : List RV → Option α) : Fn140_0 (f140_0g vf158_0 vf76_0 vf77_0) α k = pa140_0.unc fun ds => fnM Tryz.prog (E140_0g vf76_0 vf77_0 vf158_0) sh140 (cm140_0g ) rs140 k ds := by kernel_rfl
theorem fm140_0 : ∀ (α : Type) (k : List RV → Option α), Fn140_0 f140_0 α k = pa140_0.unc fun ds => fnM Tryz.prog E140_0 sh140 cm140_0 rs140 k ds := fm140_0g f76_0 f77_0 f158_0
theorem is140 : FnIs Tryz.prog 140 nt140 tr140 tl140 cm140_0.erase rs140 := ⟨Tryz.f140, Tryz.func140, rfl, by kernel_rfl, by kernel_rfl, by kernel_rfl⟩
theorem io140_0 : InstOk Tryz.prog 140 nt140 ⟨pa140_0, Fn140_0 f140_0⟩ := inst_ok eo140_0 followsTry is140 ⟨⟨sh140, cm140_0, by kernel_rfl, gm140_0, fm140_0⟩⟩
abbrev nt94 : Nat := 25
def sh94 : List (Nat × List Sh) := [(8, [.cpx .f64]), (16, [.int .i64]), (20, [.int .i64, .int .i64]), (22, [.int .i64])]
def r94_2 : List AOper := [oO 1 (.box (.tmp 0)), oO 2 (.alloc [(cI 0), (cI 0), (cI 0)]), oO 3 (.mv (kI 0))]
def r94_4 : List AOper := [oO 7 (.faddr 0 (.tmp 1)), oO 8 (.load false 1 (.tmp 7)), oO 9 (.call 95 [(.tmp 8), (.const (.float Go.FloatKind.f64 4724276009111650304))]), oM 6 9, oO 10 (.extract 0 (.tmp 6)), oO 11 (.extract 1 (.tmp 6)), oO 4 (.alloc [(cI 0), (cI 0)]), oD (.store 2 (.tmp 4) (.tmp 10)), oM 5 11]
def r94_7 : List AOper := [oM 12 5, oO 13 (.bin .eql 26 (.tmp 12) (kI 0)), oM 14 13, oG 15 (.faddr 1 (.tmp 1)) 14 true, oG 16 (.load false 1 (.tmp 15)) 14 true, oG 17 (.call 127 [(.tmp 16), (kI 0), (kI 67108864)]) 14 true, oG 18 (.pure (oB (.unOp .not 4 (.tmp 17)) 4)) 14 true, oO 19 (.pick (.tmp 14) (.tmp 18) (.const (.bool false)))]
def r94_9 : List AOper := [oO 5 (.mv (kI 2))]
def r94_11 : List AOper := [oO 20 (.load true 2 (.tmp 4)), oO 21 (.faddr 1 (.tmp 1)), oO 22 (.load false 1 (.tmp 21)), oO 23 (.build [(cI 0), (cI 0), (cI 0)] [(0, 2, (.tmp 20)), (2, 1, (.tmp 22))]), oM 24 5, oD (.store 3 (.tmp 2) (.tmp 23)), oM 3 24]
def tr94 : List (Nat × Tidy) := [tT 0 [1, 2], tT 1 [1, 2, 4, 5], tT 2 [1, 2, 4, 5, 19], tT 3 [1, 2, 4, 5], tT 4 [2, 3]]
def tl94 : List (Nat × Tidy) := []
def rs94 : List AResV := [.cell 2 true 3, .tmp 3]
def p94_0_0 : PT St := pS [sl 1 (aV false [(cPtr 1 0)]), sl 2 (aV false [(cPtr 2 0)]), sl 4 (aV false [(cPtr 4 0)]), sl 5 (aV false [(cD (dI .i64))])] [eBox 1 [(cD (dX .f64)), (cD (dI .i64))], eBox 2 [(cD (dI .i64)), (cD (dI .i64)), (cD (dI .i64))], eBox 4 [(cD (dI .i64)), (cD (dI .i64))]]
def u94_0_0 {β : Type} (g : St → β) : Int → Nat → Nat → Int → Int → Int → Int → Int → Int → β := p94_0_0.unc g
def p94_0_1 : PT St := pS [sl 1 (aV false [(cPtr 1 0)]), sl 2 (aV false [(cPtr 2 0)]), sl 4 (aV false [(cPtr 4 0)]), sl 5 (aV false [(cD (dI .i64))]), sl 19 (aV false [(cD dB)])] [eBox 1 [(cD (dX .f64)), (cD (dI .i64))], eBox 2 [(cD (dI .i64)), (cD (dI .i64)), (cD (dI .i64))], eBox 4 [(cD (dI .i64)), (cD (dI .i64))]]
def u94_0_1 {β : Type} (g : St → β) : Int → Bool → Nat → Nat → Int → Int → Int → Int → Int → Int → β := p94_0_1.unc g
def pr94_0_0 : PT (List RV) := pRs [pR true [rD (dI .i64), rD (dI .i64), rD (dI .i64)], pR false [rD (dI .i64)]]
def ur94_0_0 {β : Type} (g : List RV → β) : Int → Int → Int → Int → β := pr94_0_0.unc g
def E94_0g (vf95_0 : Tf95_0) (vf127_0 : Tf127_0) : EnvK := EnvK.of [⟨95, nt95, [⟨pa95_0, Fn95_0 vf95_0⟩]⟩, ⟨127, nt127, [⟨pa127_0, Fn127_0 vf127_0⟩]⟩] noSeq
noncomputable def E94_0 : EnvK := E94_0g f95_0 f127_0
theorem eo94_0 : E94_0.Ok Tryz.prog := EnvK.of_ok noSeq_ok ⟨⟨io95_0, trivial⟩, ⟨io127_0, trivial⟩, trivial⟩
noncomputable def c94_0_5g  : MCode := (.seq (.region r94_7 [] (tO [1, 2, 4, 5, 19])) (.cond (.tmp 19) (.region r94_9 [] (tO [1, 2, 4, 5])) .skip))
noncomputable def c94_0_5 : MCode := c94_0_5g 
theorem g94_0_5 : c94_0_5.Good Tryz.prog E94_0 sh94 := ⟨trivial, ⟨trivial, trivial⟩⟩
--CODE 5 0
abbrev TJ94_0_0 : Type 1 := (α : Type) → Int → Int → (Option α) → (Bool → Option α) → Option α
def J94_0_0g (vf127_0 : Tf127_0) (α : Type) (x7 x10 : Int) (k1 : Option α) (k2 : Bool → Option α) : Option α :=
 cK (x7 == 0)
 (vf127_0 α x10 0 67108864
 (fun x17 => cK (!x17)
 (k1)
 (k2 (!x17))))
 (k2 false)
noncomputable def J94_0_0 (α : Type) (x7 x10 : Int) (k1 : Option α) (k2 : Bool → Option α) : Option α := J94_0_0g f127_0 α x7 x10 k1 k2
def F94_0_0 (v : TJ94_0_0) (α : Type) (K : Exit → St → Option α) : Int → Nat → Nat → Int → Int → Int → Int → Int → Int → Option α := fun x7 x8 x9 x10 x11 x12 x13 x14 x15 => v α x7 x10 (u94_0_0 (K .normal) 2 x8 x9 x10 x11 x12 x13 x14 x15) (fun (y1 : Bool) => u94_0_1 (K .normal) x7 y1 x8 x9 x10 x11 x12 x13 x14 x15) 
theorem m94_0_0g (vf95_0 : Tf95_0) (vf127_0 : Tf127_0)  (α : Type) (K : Exit → St → Option α) : F94_0_0 (J94_0_0g vf127_0) α K = p94_0_0.unc fun σ => runM Tryz.prog (E94_0g vf95_0 vf127_0) sh94 (c94_0_5g ) K σ := by kernel_rfl
theorem m94_0_0 : ∀ (α : Type) (K : Exit → St → Option α), F94_0_0 J94_0_0 α K = p94_0_0.unc fun σ => runM Tryz.prog E94_0 sh94 c94_0_5 K σ := m94_0_0g f95_0 f127_0
abbrev Tf94_0 : Type 1 := (α : Type) → Nat → Nat → Int → (Int → Int → Int → Int → Option α) → Option α
def f94_0g (vJ94_0_0 : TJ94_0_0) (vf95_0 : Tf95_0) (α : Type) (x1 x2 : Nat) (x3 : Int) (k1 : Int → Int → Int → Int → Option α) : Option α :=
 vf95_0 α x1 x2 4724276009111650304
 (fun x4 x5 x6 => vJ94_0_0 α x6 x3
 (k1 x4 x5 x3 2)
 (fun x18 => k1 x4 x5 x3 x6))
noncomputable def f94_0 (α : Type) (x1 x2 : Nat) (x3 : Int) (k1 : Int → Int → Int → Int → Option α) : Option α := f94_0g J94_0_0 f95_0 α x1 x2 x3 k1
def pa94_0 : PT (List DV) := pA [pV true [(dX .f64), (dI .i64)]]
def Fn94_0 (v : Tf94_0) (α : Type) (k : List RV → Option α) : Nat → Nat → Int → Option α := fun x1 x2 x3 => v α x1 x2 x3 (fun (y1 : Int) (y2 : Int) (y3 : Int) (y4 : Int) => ur94_0_0 k y1 y2 y3 y4)
noncomputable def cm94_0g (vJ94_0_0 : TJ94_0_0) : MCode := (.seq (.region r94_2 [] (tO [1, 2])) (.seq (.region r94_4 [] (tO [1, 2, 4, 5])) (.seq (.mark [⟨p94_0_0, F94_0_0 vJ94_0_0⟩] c94_0_5) (.seq (.region r94_11 [] (tO [2, 3])) .ret))))
noncomputable def cm94_0 : MCode := cm94_0g J94_0_0
theorem gm94_0 : cm94_0.Good Tryz.prog E94_0 sh94 := ⟨trivial, ⟨trivial, ⟨⟨g94_0_5, m94_0_0, trivial⟩, ⟨trivial, trivial⟩⟩⟩⟩
theorem fm94_0g (vf95_0 : Tf95_0) (vf127_0 : Tf127_0) (vJ94_0_0 : TJ94_0_0) (α : Type) (k : List RV → Option α) : Fn94_0 (f94_0g vJ94_0_0 vf95_0) α k = pa94_0.unc fun ds => fnM Tryz.prog (E94_0g vf95_0 vf127_0) sh94 (cm94_0g vJ94_0_0) rs94 k ds := by kernel_rfl
theorem fm94_0 : ∀ (α : Type) (k : List RV → Option α), Fn94_0 f94_0 α k = pa94_0.unc fun ds => fnM Tryz.prog E94_0 sh94 cm94_0 rs94 k ds := fm94_0g f95_0 f127_0 J94_0_0
theorem is94 : FnIs Tryz.prog 94 nt94 tr94 tl94 cm94_0.erase rs94 := ⟨Tryz.f94, Tryz.func94, rfl, by kernel_rfl, by kernel_rfl, by kernel_rfl⟩
theorem io94_0 : InstOk Tryz.prog 94 nt94 ⟨pa94_0, Fn94_0 f94_0⟩ := inst_ok eo94_0 followsTry is94 ⟨⟨sh94, cm94_0, by kernel_rfl, gm94_0, fm94_0⟩⟩
abbrev nt156 : Nat := 36
def sh156 : List (Nat × List Sh) := [(30, [.int .i64]), (32, [.int .i64])]
def r156_2 : List AOper := [oO 2 (.alloc [(cI 0), (cI 0)])]
def r156_4 : List AOper := [oM 4 0, oM 5 0, oO 6 (.call 139 [(.tmp 5), (kI 4194304)]), oO 7 (.bin .mul 3 (kI 4194304) (.tmp 6)), oO 8 (.bin .sub 3 (.tmp 4) (.tmp 7)), oM 0 8]
def r156_8 : List AOper := [oM 10 0, oO 11 (.bin .geq 3 (.tmp 10) (kI 2097152)), oM 9 11]
def r156_11 : List AOper := [oM 12 0, oO 13 (.bin .sub 3 (.tmp 12) (kI 2097152)), oO 14 (.call 156 [(.tmp 13)]), oO 15 (.call 164 [(.tmp 14), (kI 2)]), oD (.store 2 (.tmp 2) (.tmp 15))]
def r156_13 : List AOper := [oM 17 0, oO 18 (.bin .geq 3 (.tmp 17) (kI 1048576)), oM 16 18]
def r156_16 : List AOper := [oM 19 0, oO 20 (.bin .sub 3 (.tmp 19) (kI 1048576)), oO 21 (.call 156 [(.tmp 20)]), oO 22 (.call 164 [(.tmp 21), (kI 1)]), oD (.store 2 (.tmp 2) (.tmp 22))]
def r156_18 : List AOper := [oM 24 0, oO 25 (.bin .gtr 3 (.tmp 24) (kI 524288)), oM 23 25]
def r156_21 : List AOper := [oM 26 0, oO 27 (.bin .sub 3 (kI 1048576) (.tmp 26)), oO 28 (.call 165 [(.tmp 27)]), oO 3 (.alloc [(cI 0), (cI 0)]), oD (.store 2 (.tmp 3) (.tmp 28))]
def r156_23 : List AOper := [oO 29 (.faddr 1 (.tmp 3)), oO 30 (.load false 1 (.tmp 29)), oO 31 (.faddr 0 (.tmp 3)), oO 32 (.load false 1 (.tmp 31)), oO 33 (.build [(cI 0), (cI 0)] [(0, 1, (.tmp 30)), (1, 1, (.tmp 32))]), oD (.store 2 (.tmp 2) (.tmp 33))]
def r156_25 : List AOper := [oM 34 0, oO 35 (.call 165 [(.tmp 34)]), oD (.store 2 (.tmp 2) (.tmp 35))]
def tr156 : List (Nat × Tidy) := [tT 0 [0, 2], tT 1 [0, 2], tT 2 [0, 2, 9], tT 3 [2], tT 4 [0, 2, 16], tT 5 [2], tT 6 [0, 2, 23], tT 7 [2, 3], tT 8 [2], tT 9 [2]]
def tl156 : List (Nat × Tidy) := []
def rs156 : List AResV := [.cell 2 true 2]
def pr156_2_0 : PT (List RV) := pRs [pR true [rD (dI .i64), rD (dI .i64)]]
def ur156_2_0 {β : Type} (g : List RV → β) : Int → Int → β := pr156_2_0.unc g
def E156_2g (vf139_0 : Tf139_0) (vf165_0 : Tf165_0) : EnvK := EnvK.of [⟨139, nt139, [⟨pa139_0, Fn139_0 vf139_0⟩]⟩, ⟨165, nt165, [⟨pa165_0, Fn165_0 vf165_0⟩]⟩] noSeq
noncomputable def E156_2 : EnvK := E156_2g f139_0 f165_0
theorem eo156_2 : E156_2.Ok Tryz.prog := EnvK.of_ok noSeq_ok ⟨⟨io139_0, trivial⟩, ⟨io165_0, trivial⟩, trivial⟩
abbrev Tf156_2 : Type 1 := (α : Type) → Int → (Int → Int → Option α) → Option α
def f156_2g (vf139_0 : Tf139_0) (vf165_0 : Tf165_0) (α : Type) (x1 : Int) (k1 : Int → Int → Option α) : Option α :=
 vf139_0 α x1 4194304
 (fun x2 => cK (decide (2097152 ≤ (w64 (x1 - (w64 (4194304 * x2))))))
 (none)
 (cK (decide (1048576 ≤ (w64 (x1 - (w64 (4194304 * x2))))))
 (none)
 (cK (decide (524288 < (w64 (x1 - (w64 (4194304 * x2))))))
 (vf165_0 α (w64 (1048576 - (w64 (x1 - (w64 (4194304 * x2))))))
 (fun x3 x4 => k1 x4 x3))
 (vf165_0 α (w64 (x1 - (w64 (4194304 * x2))))
 (fun x5 x6 => k1 x5 x6)))))
noncomputable def f156_2 (α : Type) (x1 : Int) (k1 : Int → Int → Option α) : Option α := f156_2g f139_0 f165_0 α x1 k1
def pa156_2 : PT (List DV) := pA [pV false [(dI .i64)]]
def Fn156_2 (v : Tf156_2) (α : Type) (k : List RV → Option α) : Int → Option α := fun x1 => v α x1 (fun (y1 : Int) (y2 : Int) => ur156_2_0 k y1 y2)
noncomputable def cm156_2g  : MCode := (.seq (.region r156_2 [] (tO [0, 2])) (.seq (.region r156_4 [] (tO [0, 2])) (.seq (.block 0 (.seq (.region r156_8 [] (tO [0, 2, 9])) (.cond (.tmp 9) (.seq (.region r156_11 [] (tO [2])) .ret) (.seq (.region r156_13 [] (tO [0, 2, 16])) (.cond (.tmp 16) (.seq (.region r156_16 [] (tO [2])) .ret) (.seq (.region r156_18 [] (tO [0, 2, 23])) (.cond (.tmp 23) (.seq (.region r156_21 [] (tO [2, 3])) (.seq (.region r156_23 [] (tO [2])) .ret)) .skip))))))) (.seq (.region r156_25 [] (tO [2])) .ret))))
noncomputable def cm156_2 : MCode := cm156_2g 
theorem gm156_2 : cm156_2.Good Tryz.prog E156_2 sh156 := ⟨trivial, ⟨trivial, ⟨⟨trivial, ⟨⟨trivial, trivial⟩, ⟨trivial, ⟨⟨trivial, trivial⟩, ⟨trivial, ⟨⟨trivial, ⟨trivial, trivial⟩⟩, trivial⟩⟩⟩⟩⟩⟩, ⟨trivial, trivial⟩⟩⟩⟩
theorem fm156_2g (vf139_0 : Tf139_0) (vf165_0 : Tf165_0)  (α : Type) (k : List RV → Option α) : Fn156_2 (f156_2g vf139_0 vf165_0) α k = pa156_2.unc fun ds => fnM Tryz.prog (E156_2g vf139_0 vf165_0) sh156 (cm156_2g ) rs156 k ds := by kernel_rfl
theorem fm156_2 : ∀ (α : Type) (k : List RV → Option α), Fn156_2 f156_2 α k = pa156_2.unc fun ds => fnM Tryz.prog E156_2 sh156 cm156_2 rs156 k ds := fm156_2g f139_0 f165_0
theorem is156 : FnIs Tryz.prog 156 nt156 tr156 tl156 cm156_2.erase rs156 := ⟨Tryz.f156, Tryz.func156, rfl, by kernel_rfl, by kernel_rfl, by kernel_rfl⟩
theorem io156_2 : InstOk Tryz.prog 156 nt156 ⟨pa156_2, Fn156_2 f156_2⟩ := inst_ok eo156_2 followsTry is156 ⟨⟨sh156, cm156_2, by kernel_rfl, gm156_2, fm156_2⟩⟩
def pr156_1_0 : PT (List RV) := pRs [pR true [rD (dI .i64), rD (dI .i64)]]
def ur156_1_0 {β : Type} (g : List RV → β) : Int → Int → β := pr156_1_0.unc g
def E156_1g (vf139_0 : Tf139_0) (vf156_2 : Tf156_2) (vf164_0 : Tf164_0) (vf165_0 : Tf165_0) : EnvK := EnvK.of [⟨139, nt139, [⟨pa139_0, Fn139_0 vf139_0⟩]⟩, ⟨156, nt156, [⟨pa156_2, Fn156_2 vf156_2⟩]⟩, ⟨164, nt164, [⟨pa164_0, Fn164_0 vf164_0⟩]⟩, ⟨165, nt165, [⟨pa165_0, Fn165_0 vf165_0⟩]⟩] noSeq
noncomputable def E156_1 : EnvK := E156_1g f139_0 f156_2 f164_0 f165_0
theorem eo156_1 : E156_1.Ok Tryz.prog := EnvK.of_ok noSeq_ok ⟨⟨io139_0, trivial⟩, ⟨io156_2, trivial⟩, ⟨io164_0, trivial⟩, ⟨io165_0, trivial⟩, trivial⟩
abbrev Tf156_1 : Type 1 := (α : Type) → Int → (Int → Int → Option α) → Option α
def f156_1g (vf139_0 : Tf139_0) (vf156_2 : Tf156_2) (vf164_0 : Tf164_0) (vf165_0 : Tf165_0) (α : Type) (x1 : Int) (k1 : Int → Int → Option α) : Option α :=
 vf139_0 α x1 4194304
 (fun x2 => cK (decide (2097152 ≤ (w64 (x1 - (w64 (4194304 * x2))))))
 (vf156_2 α (w64 ((w64 (x1 - (w64 (4194304 * x2)))) - 2097152))
 (fun x3 x4 => vf164_0 α x3 x4 2
 (fun x5 x6 => k1 x5 x6)))
 (cK (decide (1048576 ≤ (w64 (x1 - (w64 (4194304 * x2))))))
 (vf156_2 α (w64 ((w64 (x1 - (w64 (4194304 * x2)))) - 1048576))
 (fun x7 x8 => vf164_0 α x7 x8 1
 (fun x9 x10 => k1 x9 x10)))
 (cK (decide (524288 < (w64 (x1 - (w64 (4194304 * x2))))))
 (vf165_0 α (w64 (1048576 - (w64 (x1 - (w64 (4194304 * x2))))))
 (fun x11 x12 => k1 x12 x11))
 (vf165_0 α (w64 (x1 - (w64 (4194304 * x2))))
 (fun x13 x14 => k1 x13 x14)))))
noncomputable def f156_1 (α : Type) (x1 : Int) (k1 : Int → Int → Option α) : Option α := f156_1g f139_0 f156_2 f164_0 f165_0 α x1 k1
def pa156_1 : PT (List DV) := pA [pV false [(dI .i64)]]
def Fn156_1 (v : Tf156_1) (α : Type) (k : List RV → Option α) : Int → Option α := fun x1 => v α x1 (fun (y1 : Int) (y2 : Int) => ur156_1_0 k y1 y2)
noncomputable def cm156_1g  : MCode := (.seq (.region r156_2 [] (tO [0, 2])) (.seq (.region r156_4 [] (tO [0, 2])) (.seq (.block 0 (.seq (.region r156_8 [] (tO [0, 2, 9])) (.cond (.tmp 9) (.seq (.region r156_11 [] (tO [2])) .ret) (.seq (.region r156_13 [] (tO [0, 2, 16])) (.cond (.tmp 16) (.seq (.region r156_16 [] (tO [2])) .ret) (.seq (.region r156_18 [] (tO [0, 2, 23])) (.cond (.tmp 23) (.seq (.region r156_21 [] (tO [2, 3])) (.seq (.region r156_23 [] (tO [2])) .ret)) .skip))))))) (.seq (.region r156_25 [] (tO [2])) .ret))))
noncomputable def cm156_1 : MCode := cm156_1g 
theorem gm156_1 : cm156_1.Good Tryz.prog E156_1 sh156 := ⟨trivial, ⟨trivial, ⟨⟨trivial, ⟨⟨trivial, trivial⟩, ⟨trivial, ⟨⟨trivial, trivial⟩, ⟨trivial, ⟨⟨trivial, ⟨trivial, trivial⟩⟩, trivial⟩⟩⟩⟩⟩⟩, ⟨trivial, trivial⟩⟩⟩⟩
theorem fm156_1g (vf139_0 : Tf139_0) (vf156_2 : Tf156_2) (vf164_0 : Tf164_0) (vf165_0 : Tf165_0)  (α : Type) (k : List RV → Option α) : Fn156_1 (f156_1g vf139_0 vf156_2 vf164_0 vf165_0) α k = pa156_1.unc fun ds => fnM Tryz.prog (E156_1g vf139_0 vf156_2 vf164_0 vf165_0) sh156 (cm156_1g ) rs156 k ds := by kernel_rfl
theorem fm156_1 : ∀ (α : Type) (k : List RV → Option α), Fn156_1 f156_1 α k = pa156_1.unc fun ds => fnM Tryz.prog E156_1 sh156 cm156_1 rs156 k ds := fm156_1g f139_0 f156_2 f164_0 f165_0
theorem io156_1 : InstOk Tryz.prog 156 nt156 ⟨pa156_1, Fn156_1 f156_1⟩ := inst_ok eo156_1 followsTry is156 ⟨⟨sh156, cm156_1, by kernel_rfl, gm156_1, fm156_1⟩⟩
def pr156_0_0 : PT (List RV) := pRs [pR true [rD (dI .i64), rD (dI .i64)]]
def ur156_0_0 {β : Type} (g : List RV → β) : Int → Int → β := pr156_0_0.unc g
def E156_0g (vf139_0 : Tf139_0) (vf156_1 : Tf156_1) (vf164_0 : Tf164_0) (vf165_0 : Tf165_0) : EnvK := EnvK.of [⟨139, nt139, [⟨pa139_0, Fn139_0 vf139_0⟩]⟩, ⟨156, nt156, [⟨pa156_1, Fn156_1 vf156_1⟩]⟩, ⟨164, nt164, [⟨pa164_0, Fn164_0 vf164_0⟩]⟩, ⟨165, nt165, [⟨pa165_0, Fn165_0 vf165_0⟩]⟩] noSeq
noncomputable def E156_0 : EnvK := E156_0g f139_0 f156_1 f164_0 f165_0
theorem eo156_0 : E156_0.Ok Tryz.prog := EnvK.of_ok noSeq_ok ⟨⟨io139_0, trivial⟩, ⟨io156_1, trivial⟩, ⟨io164_0, trivial⟩, ⟨io165_0, trivial⟩, trivial⟩
abbrev Tf156_0 : Type 1 := (α : Type) → Int → (Int → Int → Option α) → Option α
def f156_0g (vf139_0 : Tf139_0) (vf156_1 : Tf156_1) (vf164_0 : Tf164_0) (vf165_0 : Tf165_0) (α : Type) (x1 : Int) (k1 : Int → Int → Option α) : Option α :=
 vf139_0 α x1 4194304
 (fun x2 => cK (decide (2097152 ≤ (w64 (x1 - (w64 (4194304 * x2))))))
 (vf156_1 α (w64 ((w64 (x1 - (w64 (4194304 * x2)))) - 2097152))
 (fun x3 x4 => vf164_0 α x3 x4 2
 (fun x5 x6 => k1 x5 x6)))
 (cK (decide (1048576 ≤ (w64 (x1 - (w64 (4194304 * x2))))))
 (vf156_1 α (w64 ((w64 (x1 - (w64 (4194304 * x2)))) - 1048576))
 (fun x7 x8 => vf164_0 α x7 x8 1
 (fun x9 x10 => k1 x9 x10)))
 (cK (decide (524288 < (w64 (x1 - (w64 (4194304 * x2))))))
 (vf165_0 α (w64 (1048576 - (w64 (x1 - (w64 (4194304 * x2))))))
 (fun x11 x12 => k1 x12 x11))
 (vf165_0 α (w64 (x1 - (w64 (4194304 * x2))))
 (fun x13 x14 => k1 x13 x14)))))
noncomputable def f156_0 (α : Type) (x1 : Int) (k1 : Int → Int → Option α) : Option α := f156_0g f139_0 f156_1 f164_0 f165_0 α x1 k1
def pa156_0 : PT (List DV) := pA [pV false [(dI .i64)]]
def Fn156_0 (v : Tf156_0) (α : Type) (k : List RV → Option α) : Int → Option α := fun x1 => v α x1 (fun (y1 : Int) (y2 : Int) => ur156_0_0 k y1 y2)
noncomputable def cm156_0g  : MCode := (.seq (.region r156_2 [] (tO [0, 2])) (.seq (.region r156_4 [] (tO [0, 2])) (.seq (.block 0 (.seq (.region r156_8 [] (tO [0, 2, 9])) (.cond (.tmp 9) (.seq (.region r156_11 [] (tO [2])) .ret) (.seq (.region r156_13 [] (tO [0, 2, 16])) (.cond (.tmp 16) (.seq (.region r156_16 [] (tO [2])) .ret) (.seq (.region r156_18 [] (tO [0, 2, 23])) (.cond (.tmp 23) (.seq (.region r156_21 [] (tO [2, 3])) (.seq (.region r156_23 [] (tO [2])) .ret)) .skip))))))) (.seq (.region r156_25 [] (tO [2])) .ret))))
noncomputable def cm156_0 : MCode := cm156_0g 
theorem gm156_0 : cm156_0.Good Tryz.prog E156_0 sh156 := ⟨trivial, ⟨trivial, ⟨⟨trivial, ⟨⟨trivial, trivial⟩, ⟨trivial, ⟨⟨trivial, trivial⟩, ⟨trivial, ⟨⟨trivial, ⟨trivial, trivial⟩⟩, trivial⟩⟩⟩⟩⟩⟩, ⟨trivial, trivial⟩⟩⟩⟩
theorem fm156_0g (vf139_0 : Tf139_0) (vf156_1 : Tf156_1) (vf164_0 : Tf164_0) (vf165_0 : Tf165_0)  (α : Type) (k : List RV → Option α) : Fn156_0 (f156_0g vf139_0 vf156_1 vf164_0 vf165_0) α k = pa156_0.unc fun ds => fnM Tryz.prog (E156_0g vf139_0 vf156_1 vf164_0 vf165_0) sh156 (cm156_0g ) rs156 k ds := by kernel_rfl
theorem fm156_0 : ∀ (α : Type) (k : List RV → Option α), Fn156_0 f156_0 α k = pa156_0.unc fun ds => fnM Tryz.prog E156_0 sh156 cm156_0 rs156 k ds := fm156_0g f139_0 f156_1 f164_0 f165_0
theorem io156_0 : InstOk Tryz.prog 156 nt156 ⟨pa156_0, Fn156_0 f156_0⟩ := inst_ok eo156_0 followsTry is156 ⟨⟨sh156, cm156_0, by kernel_rfl, gm156_0, fm156_0⟩⟩
abbrev nt106 : Nat := 20
def sh106 : List (Nat × List Sh) := []
def r106_2 : List AOper := [oO 4 (.alloc [(cI 0), (cI 0), (cI 0)]), oO 5 (.mv (kI 0))]
def r106_5 : List AOper := [oM 6 0, oO 7 (.call 57 [(.tmp 6), (kI (-1000000000)), (kI 1000000000)]), oO 8 (.pure (oB (.unOp .not 4 (.tmp 7)) 4)), oM 9 8, oG 10 (.mv (.tmp 1)) 9 false, oG 11 (.call 57 [(.tmp 10), (kI 1), (kI 1000000000)]) 9 false, oG 12 (.pure (oB (.unOp .not 4 (.tmp 11)) 4)) 9 false, oO 13 (.pick (.tmp 9) (.const (.bool true)) (.tmp 12))]
def r106_8 : List AOper := [oO 14 (.build [(cI 0), (cI 0), (cI 0)] []), oD (.store 3 (.tmp 4) (.tmp 14)), oO 5 (.mv (kI 2))]
def r106_10 : List AOper := [oM 15 0, oM 16 1, oO 17 (.call 140 [(.tmp 15), (.tmp 16)]), oO 18 (.extract 0 (.tmp 17)), oO 19 (.extract 1 (.tmp 17)), oD (.store 3 (.tmp 4) (.tmp 18)), oM 5 19]
def tr106 : List (Nat × Tidy) := [tT 0 [0, 1, 4], tT 1 [0, 1, 4, 13], tT 2 [4, 5], tT 3 [4, 5]]
def tl106 : List (Nat × Tidy) := []
def rs106 : List AResV := [.cell 4 true 3, .tmp 5]
def pr106_0_0 : PT (List RV) := pRs [pR true [rD (dI .i64), rD (dI .i64), rD (dI .i64)], pR false [rD (dI .i64)]]
def ur106_0_0 {β : Type} (g : List RV → β) : Int → Int → Int → Int → β := pr106_0_0.unc g
def E106_0g (vf57_0 : Tf57_0) (vf140_0 : Tf140_0) : EnvK := EnvK.of [⟨57, nt57, [⟨pa57_0, Fn57_0 vf57_0⟩]⟩, ⟨140, nt140, [⟨pa140_0, Fn140_0 vf140_0⟩]⟩] noSeq
noncomputable def E106_0 : EnvK := E106_0g f57_0 f140_0
theorem eo106_0 : E106_0.Ok Tryz.prog := EnvK.of_ok noSeq_ok ⟨⟨io57_0, trivial⟩, ⟨io140_0, trivial⟩, trivial⟩
abbrev Tf106_0 : Type 1 := (α : Type) → Int → Int → (Int → Int → Int → Int → Option α) → Option α
def f106_0g (vf140_0 : Tf140_0) (vf57_0 : Tf57_0) (α : Type) (x1 x2 : Int) (k1 : Int → Int → Int → Int → Option α) : Option α :=
 vf57_0 α x1 (-1000000000) 1000000000
 (fun x3 => cK (!x3)
 (k1 0 0 0 2)
 (vf57_0 α x2 1 1000000000
 (fun x4 => cK (!x4)
 (k1 0 0 0 2)
 (vf140_0 α x1 x2
 (fun x5 x6 x7 x8 => k1 x5 x6 x7 x8)))))
noncomputable def f106_0 (α : Type) (x1 x2 : Int) (k1 : Int → Int → Int → Int → Option α) : Option α := f106_0g f140_0 f57_0 α x1 x2 k1
def pa106_0 : PT (List DV) := pA [pV false [(dI .i64)], pV false [(dI .i64)]]
def Fn106_0 (v : Tf106_0) (α : Type) (k : List RV → Option α) : Int → Int → Option α := fun x1 x2 => v α x1 x2 (fun (y1 : Int) (y2 : Int) (y3 : Int) (y4 : Int) => ur106_0_0 k y1 y2 y3 y4)
noncomputable def cm106_0g  : MCode := (.seq (.region r106_2 [] (tO [0, 1, 4])) (.seq (.seq (.region r106_5 [] (tO [0, 1, 4, 13])) (.cond (.tmp 13) (.seq (.region r106_8 [] (tO [4, 5])) .ret) .skip)) (.seq (.region r106_10 [] (tO [4, 5])) .ret)))
noncomputable def cm106_0 : MCode := cm106_0g 
theorem gm106_0 : cm106_0.Good Tryz.prog E106_0 sh106 := ⟨trivial, ⟨⟨trivial, ⟨⟨trivial, trivial⟩, trivial⟩⟩, ⟨trivial, trivial⟩⟩⟩
theorem fm106_0g (vf57_0 : Tf57_0) (vf140_0 : Tf140_0)  (α : Type) (k : List RV → Option α) : Fn106_0 (f106_0g vf140_0 vf57_0) α k = pa106_0.unc fun ds => fnM Tryz.prog (E106_0g vf57_0 vf140_0) sh106 (cm106_0g ) rs106 k ds := by kernel_rfl
theorem fm106_0 : ∀ (α : Type) (k : List RV → Option α), Fn106_0 f106_0 α k = pa106_0.unc fun ds => fnM Tryz.prog E106_0 sh106 cm106_0 rs106 k ds := fm106_0g f57_0 f140_0
theorem is106 : FnIs Tryz.prog 106 nt106 tr106 tl106 cm106_0.erase rs106 := ⟨Tryz.f106, Tryz.func106, rfl, by kernel_rfl, by kernel_rfl, by kernel_rfl⟩
theorem io106_0 : InstOk Tryz.prog 106 nt106 ⟨pa106_0, Fn106_0 f106_0⟩ := inst_ok eo106_0 followsTry is106 ⟨⟨sh106, cm106_0, by kernel_rfl, gm106_0, fm106_0⟩⟩
abbrev nt144 : Nat := 31
def sh144 : List (Nat × List Sh) := [(9, [.cpx .f64, .int .i64]), (19, [.int .i64, .int .i64, .int .i64]), (27, [.int .i64, .int .i64, .int .i64])]
def r144_2 : List AOper := [oO 2 (.box (.tmp 0)), oO 4 (.alloc [(.d (.v (.complex Go.FloatKind.f64 0 0))), (cI 0)]), oO 5 (.mv (kI 0))]
def r144_4 : List AOper := [oO 9 (.load true 2 (.tmp 2)), oO 10 (.call 94 [(.tmp 9)]), oM 8 10, oO 11 (.extract 0 (.tmp 8)), oO 12 (.extract 1 (.tmp 8)), oO 6 (.alloc [(cI 0), (cI 0), (cI 0)]), oD (.store 3 (.tmp 6) (.tmp 11)), oM 7 12]
def r144_7 : List AOper := [oM 13 7, oO 14 (.bin .neq 26 (.tmp 13) (kI 0))]
def r144_10 : List AOper := [oO 15 (.build [(.d (.v (.complex Go.FloatKind.f64 0 0))), (cI 0)] []), oM 16 7, oD (.store 2 (.tmp 4) (.tmp 15)), oM 5 16]
def r144_13 : List AOper := [oM 18 1, oO 19 (.load true 3 (.tmp 6)), oO 20 (.calld (.tmp 18) [(.tmp 19)]), oM 17 20, oO 21 (.extract 0 (.tmp 17)), oO 22 (.extract 1 (.tmp 17)), oD (.store 3 (.tmp 6) (.tmp 21)), oM 7 22]
def r144_15 : List AOper := [oM 23 7, oO 24 (.bin .neq 26 (.tmp 23) (kI 0))]
def r144_18 : List AOper := [oO 25 (.build [(.d (.v (.complex Go.FloatKind.f64 0 0))), (cI 0)] []), oM 26 7, oD (.store 2 (.tmp 4) (.tmp 25)), oM 5 26]
def r144_20 : List AOper := [oO 27 (.load true 3 (.tmp 6)), oO 28 (.call 157 [(.tmp 27)]), oO 29 (.extract 0 (.tmp 28)), oO 30 (.extract 1 (.tmp 28)), oD (.store 2 (.tmp 4) (.tmp 29)), oM 5 30]
def tr144 : List (Nat × Tidy) := [tT 0 [1, 2, 4], tT 1 [1, 4, 6, 7], tT 2 [1, 4, 6, 7, 14], tT 3 [4, 5], tT 4 [4, 6, 7], tT 5 [4, 6, 7, 24], tT 6 [4, 5], tT 7 [4, 5]]
def tl144 : List (Nat × Tidy) := []
def rs144 : List AResV := [.cell 4 true 2, .tmp 5]
def pr144_0_0 : PT (List RV) := pRs [pR true [rD (dX .f64), rD (dI .i64)], pR false [rD (dI .i64)]]
def ur144_0_0 {β : Type} (g : List RV → β) : Nat → Nat → Int → Int → β := pr144_0_0.unc g
def E144_0g (vf94_0 : Tf94_0) (vf145_0 : Tf145_0) (vf157_0 : Tf157_0) : EnvK := EnvK.of [⟨94, nt94, [⟨pa94_0, Fn94_0 vf94_0⟩]⟩, ⟨145, nt145, [⟨pa145_0, Fn145_0 vf145_0⟩]⟩, ⟨157, nt157, [⟨pa157_0, Fn157_0 vf157_0⟩]⟩] noSeq
noncomputable def E144_0 : EnvK := E144_0g f94_0 f145_0 f157_0
theorem eo144_0 : E144_0.Ok Tryz.prog := EnvK.of_ok noSeq_ok ⟨⟨io94_0, trivial⟩, ⟨io145_0, trivial⟩, ⟨io157_0, trivial⟩, trivial⟩
abbrev Tf144_0 : Type 1 := (α : Type) → Nat → Nat → Int → Int → Int → Int → (Nat → Nat → Int → Int → Option α) → Option α
def f144_0g (vf145_0 : Tf145_0) (vf157_0 : Tf157_0) (vf94_0 : Tf94_0) (α : Type) (x1 x2 : Nat) (x3 x4 x5 x6 : Int) (k1 : Nat → Nat → Int → Int → Option α) : Option α :=
 vf94_0 α x1 x2 x3
 (fun x7 x8 x9 x10 => cK (x10 != 0)
 (k1 0 0 0 x10)
 (vf145_0 α x7 x8 x9 x4 x5 x6
 (fun x11 x12 x13 => vf157_0 α x11 x12 x13
 (fun x14 x15 x16 x17 => k1 x14 x15 x16 x17))))
noncomputable def f144_0 (α : Type) (x1 x2 : Nat) (x3 x4 x5 x6 : Int) (k1 : Nat → Nat → Int → Int → Option α) : Option α := f144_0g f145_0 f157_0 f94_0 α x1 x2 x3 x4 x5 x6 k1
def pa144_0 : PT (List DV) := pA [pV true [(dX .f64), (dI .i64)], pV false [(dFn 145 [(dP [(dFn 154 [])] 0), (dP [(dI .i64), (dI .i64), (dI .i64)] 0)])]]
def Fn144_0 (v : Tf144_0) (α : Type) (k : List RV → Option α) : Nat → Nat → Int → Int → Int → Int → Option α := fun x1 x2 x3 x4 x5 x6 => v α x1 x2 x3 x4 x5 x6 (fun (y1 : Nat) (y2 : Nat) (y3 : Int) (y4 : Int) => ur144_0_0 k y1 y2 y3 y4)
noncomputable def cm144_0g  : MCode := (.seq (.region r144_2 [] (tO [1, 2, 4])) (.seq (.region r144_4 [] (tO [1, 4, 6, 7])) (.seq (.seq (.region r144_7 [] (tO [1, 4, 6, 7, 14])) (.cond (.tmp 14) (.seq (.region r144_10 [] (tO [4, 5])) .ret) .skip)) (.seq (.seq (.region r144_13 [] (tO [4, 6, 7])) (.seq (.region r144_15 [] (tO [4, 6, 7, 24])) (.cond (.tmp 24) (.seq (.region r144_18 [] (tO [4, 5])) .ret) .skip))) (.seq (.region r144_20 [] (tO [4, 5])) .ret)))))
noncomputable def cm144_0 : MCode := cm144_0g 
theorem gm144_0 : cm144_0.Good Tryz.prog E144_0 sh144 := ⟨trivial, ⟨trivial, ⟨⟨trivial, ⟨⟨trivial, trivial⟩, trivial⟩⟩, ⟨⟨trivial, ⟨trivial, ⟨⟨trivial, trivial⟩, trivial⟩⟩⟩, ⟨trivial, trivial⟩⟩⟩⟩⟩
theorem fm144_0g (vf94_0 : Tf94_0) (vf145_0 : Tf145_0) (vf157_0 : Tf157_0)  (α : Type) (k : List RV → Option α) : Fn144_0 (f144_0g vf145_0 vf157_0 vf94_0) α k = pa144_0.unc fun ds => fnM Tryz.prog (E144_0g vf94_0 vf145_0 vf157_0) sh144 (cm144_0g ) rs144 k ds := by kernel_rfl
theorem fm144_0 : ∀ (α : Type) (k : List RV → Option α), Fn144_0 f144_0 α k = pa144_0.unc fun ds => fnM Tryz.prog E144_0 sh144 cm144_0 rs144 k ds := fm144_0g f94_0 f145_0 f157_0
theorem is144 : FnIs Tryz.prog 144 nt144 tr144 tl144 cm144_0.erase rs144 := ⟨Tryz.f144, Tryz.func144, rfl, by kernel_rfl, by kernel_rfl, by kernel_rfl⟩
theorem io144_0 : InstOk Tryz.prog 144 nt144 ⟨pa144_0, Fn144_0 f144_0⟩ := inst_ok eo144_0 followsTry is144 ⟨⟨sh144, cm144_0, by kernel_rfl, gm144_0, fm144_0⟩⟩
abbrev nt138 : Nat := 54
def sh138 : List (Nat × List Sh) := [(21, [.int .i64]), (27, [.int .i64]), (50, [.int .i64, .int .i64, .int .i64])]
def r138_2 : List AOper := [oO 4 (.alloc [(.d (.v (.complex Go.FloatKind.f64 0 0))), (cI 0)]), oO 5 (.mv (kI 0))]
def r138_4 : List AOper := [oM 13 0, oM 14 1, oO 15 (.bin .add 3 (.tmp 13) (.tmp 14)), oO 16 (.call 139 [(.tmp 15), (kI 2)]), oM 6 16]
def r138_6 : List AOper := [oM 17 6, oO 18 (.call 156 [(.tmp 17)]), oO 7 (.alloc [(cI 0), (cI 0)]), oD (.store 2 (.tmp 7) (.tmp 18))]
def r138_8 : List AOper := [oO 20 (.faddr 0 (.tmp 7)), oO 21 (.load false 1 (.tmp 20)), oO 22 (.call 117 [(.tmp 21), (kI 64)]), oM 19 22, oO 23 (.extract 0 (.tmp 19)), oO 24 (.extract 1 (.tmp 19)), oM 8 23, oM 9 24]
def r138_10 : List AOper := [oO 26 (.faddr 1 (.tmp 7)), oO 27 (.load false 1 (.tmp 26)), oO 28 (.call 117 [(.tmp 27), (kI 64)]), oM 25 28, oO 29 (.extract 0 (.tmp 25)), oO 30 (.extract 1 (.tmp 25)), oM 10 29, oM 11 30]
def r138_12 : List AOper := [oM 31 8, oM 32 10, oO 33 (.build [(cI 0), (cI 0)] [(0, 1, (.tmp 31)), (1, 1, (.tmp 32))]), oM 34 1, oM 35 6, oO 36 (.bin .sub 3 (.tmp 34) (.tmp 35)), oO 37 (.bin .mul 3 (kI 11) (.tmp 36)), oO 38 (.call 118 [(.tmp 37), (kI 7)]), oO 39 (.bin .add 3 (kI 2) (.tmp 38)), oO 40 (.build [(cI 0), (cI 0), (cI 0)] [(0, 2, (.tmp 33)), (2, 1, (.tmp 39))]), oO 12 (.alloc [(cI 0), (cI 0), (cI 0)]), oD (.store 3 (.tmp 12) (.tmp 40))]
def r138_15 : List AOper := [oM 41 0, oM 42 1, oO 43 (.bin .eql 3 (.tmp 41) (.tmp 42)), oM 44 43, oG 45 (.mv (.tmp 0)) 44 true, oG 46 (.bin .rem 3 (.tmp 45) (kI 1048576)) 44 true, oG 47 (.bin .eql 3 (.tmp 46) (kI 0)) 44 true, oO 48 (.pick (.tmp 44) (.tmp 47) (.const (.bool false)))]
def r138_17 : List AOper := [oO 49 (.faddr 2 (.tmp 12)), oD (.store 1 (.tmp 49) (kI 0))]
def r138_19 : List AOper := [oO 50 (.load true 3 (.tmp 12)), oO 51 (.call 157 [(.tmp 50)]), oO 52 (.extract 0 (.tmp 51)), oO 53 (.extract 1 (.tmp 51)), oD (.store 2 (.tmp 4) (.tmp 52)), oM 5 53]
def tr138 : List (Nat × Tidy) := [tT 0 [0, 1, 4], tT 1 [0, 1, 4, 6], tT 2 [0, 1, 4, 6, 7], tT 3 [0, 1, 4, 6, 7, 8], tT 4 [0, 1, 4, 6, 8, 10], tT 5 [0, 1, 4, 12], tT 6 [4, 12, 48], tT 7 [4, 12], tT 8 [4, 5]]
def tl138 : List (Nat × Tidy) := []
def rs138 : List AResV := [.cell 4 true 2, .tmp 5]
def p138_0_0 : PT St := pS [sl 0 (aV false [(cD (dI .i64))]), sl 1 (aV false [(cD (dI .i64))]), sl 4 (aV false [(cPtr 4 0)]), sl 12 (aV false [(cPtr 12 0)])] [eBox 4 [(cD (dX .f64)), (cD (dI .i64))], eBox 12 [(cD (dI .i64)), (cD (dI .i64)), (cD (dI .i64))]]
def u138_0_0 {β : Type} (g : St → β) : Int → Int → Nat → Nat → Int → Int → Int → Int → β := p138_0_0.unc g
def p138_0_1 : PT St := pS [sl 4 (aV false [(cPtr 4 0)]), sl 12 (aV false [(cPtr 12 0)])] [eBox 4 [(cD (dX .f64)), (cD (dI .i64))], eBox 12 [(cD (dI .i64)), (cD (dI .i64)), (cD (dI .i64))]]
def u138_0_1 {β : Type} (g : St → β) : Nat → Nat → Int → Int → Int → Int → β := p138_0_1.unc g
def p138_0_2 : PT St := pS [sl 4 (aV false [(cPtr 4 0)]), sl 12 (aV false [(cPtr 12 0)]), sl 48 (aV false [(cD dB)])] [eBox 4 [(cD (dX .f64)), (cD (dI .i64))], eBox 12 [(cD (dI .i64)), (cD (dI .i64)), (cD (dI .i64))]]
def u138_0_2 {β : Type} (g : St → β) : Bool → Nat → Nat → Int → Int → Int → Int → β := p138_0_2.unc g
def pr138_0_0 : PT (List RV) := pRs [pR true [rD (dX .f64), rD (dI .i64)], pR false [rD (dI .i64)]]
def ur138_0_0 {β : Type} (g : List RV → β) : Nat → Nat → Int → Int → β := pr138_0_0.unc g
def E138_0g (vf139_0 : Tf139_0) (vf156_0 : Tf156_0) (vf117_0 : Tf117_0) (vf118_0 : Tf118_0) (vf157_0 : Tf157_0) : EnvK := EnvK.of [⟨139, nt139, [⟨pa139_0, Fn139_0 vf139_0⟩]⟩, ⟨156, nt156, [⟨pa156_0, Fn156_0 vf156_0⟩]⟩, ⟨117, nt117, [⟨pa117_0, Fn117_0 vf117_0⟩]⟩, ⟨118, nt118, [⟨pa118_0, Fn118_0 vf118_0⟩]⟩, ⟨157, nt157, [⟨pa157_0, Fn157_0 vf157_0⟩]⟩] noSeq
noncomputable def E138_0 : EnvK := E138_0g f139_0 f156_0 f117_0 f118_0 f157_0
theorem eo138_0 : E138_0.Ok Tryz.prog := EnvK.of_ok noSeq_ok ⟨⟨io139_0, trivial⟩, ⟨io156_0, trivial⟩, ⟨io117_0, trivial⟩, ⟨io118_0, trivial⟩, ⟨io157_0, trivial⟩, trivial⟩
noncomputable def c138_0_13g  : MCode := (.seq (.region r138_15 [] (tO [4, 12, 48])) (.cond (.tmp 48) (.region r138_17 [] (tO [4, 12])) .skip))
noncomputable def c138_0_13 : MCode := c138_0_13g 
theorem g138_0_13 : c138_0_13.Good Tryz.prog E138_0 sh138 := ⟨trivial, ⟨trivial, trivial⟩⟩
--CODE 13 0
abbrev TJ138_0_0 : Type 1 := (α : Type) → Int → Int → (Option α) → (Bool → Option α) → Option α
def J138_0_0g  (α : Type) (x11 x12 : Int) (k1 : Option α) (k2 : Bool → Option α) : Option α :=
 cK (x11 == x12)
 (cK ((Int.tmod x11 1048576) == 0)
 (k1)
 (k2 ((Int.tmod x11 1048576) == 0)))
 (k2 false)
noncomputable def J138_0_0 (α : Type) (x11 x12 : Int) (k1 : Option α) (k2 : Bool → Option α) : Option α := J138_0_0g  α x11 x12 k1 k2
def F138_0_0 (v : TJ138_0_0) (α : Type) (K : Exit → St → Option α) : Int → Int → Nat → Nat → Int → Int → Int → Int → Option α := fun x11 x12 x13 x14 x15 x16 x17 x18 => v α x11 x12 (u138_0_1 (K .normal) x13 x14 x15 x16 x17 0) (fun (y1 : Bool) => u138_0_2 (K .normal) y1 x13 x14 x15 x16 x17 x18) 
theorem m138_0_0g (vf139_0 : Tf139_0) (vf156_0 : Tf156_0) (vf117_0 : Tf117_0) (vf118_0 : Tf118_0) (vf157_0 : Tf157_0)  (α : Type) (K : Exit → St → Option α) : F138_0_0 (J138_0_0g ) α K = p138_0_0.unc fun σ => runM Tryz.prog (E138_0g vf139_0 vf156_0 vf117_0 vf118_0 vf157_0) sh138 (c138_0_13g ) K σ := by kernel_rfl
theorem m138_0_0 : ∀ (α : Type) (K : Exit → St → Option α), F138_0_0 J138_0_0 α K = p138_0_0.unc fun σ => runM Tryz.prog E138_0 sh138 c138_0_13 K σ := m138_0_0g f139_0 f156_0 f117_0 f118_0 f157_0
abbrev Tf138_0 : Type 1 := (α : Type) → Int → Int → (Nat → Nat → Int → Int → Option α) → Option α
def f138_0g (vJ138_0_0 : TJ138_0_0) (vf117_0 : Tf117_0) (vf118_0 : Tf118_0) (vf139_0 : Tf139_0) (vf156_0 : Tf156_0) (vf157_0 : Tf157_0) (α : Type) (x1 x2 : Int) (k1 : Nat → Nat → Int → Int → Option α) : Option α :=
 vf139_0 α (w64 (x1 + x2)) 2
 (fun x3 => vf156_0 α x3
 (fun x4 x5 => vf117_0 α x4 64
 (fun x6 x7 => vf117_0 α x5 64
 (fun x8 x9 => vf118_0 α (w64 (11 * (w64 (x2 - x3)))) 7
 (fun x10 => vJ138_0_0 α x1 x2
 (vf157_0 α x6 x8 0
 (fun x22 x23 x24 x25 => k1 x22 x23 x24 x25))
 (fun x20 => vf157_0 α x6 x8 (w64 (2 + x10))
 (fun x26 x27 x28 x29 => k1 x26 x27 x28 x29)))))))
noncomputable def f138_0 (α : Type) (x1 x2 : Int) (k1 : Nat → Nat → Int → Int → Option α) : Option α := f138_0g J138_0_0 f117_0 f118_0 f139_0 f156_0 f157_0 α x1 x2 k1
def pa138_0 : PT (List DV) := pA [pV false [(dI .i64)], pV false [(dI .i64)]]
def Fn138_0 (v : Tf138_0) (α : Type) (k : List RV → Option α) : Int → Int → Option α := fun x1 x2 => v α x1 x2 (fun (y1 : Nat) (y2 : Nat) (y3 : Int) (y4 : Int) => ur138_0_0 k y1 y2 y3 y4)
noncomputable def cm138_0g (vJ138_0_0 : TJ138_0_0) : MCode := (.seq (.region r138_2 [] (tO [0, 1, 4])) (.seq (.region r138_4 [] (tO [0, 1, 4, 6])) (.seq (.region r138_6 [] (tO [0, 1, 4, 6, 7])) (.seq (.region r138_8 [] (tO [0, 1, 4, 6, 7, 8])) (.seq (.region r138_10 [] (tO [0, 1, 4, 6, 8, 10])) (.seq (.region r138_12 [] (tO [0, 1, 4, 12])) (.seq (.mark [⟨p138_0_0, F138_0_0 vJ138_0_0⟩] c138_0_13) (.seq (.region r138_19 [] (tO [4, 5])) .ret))))))))
noncomputable def cm138_0 : MCode := cm138_0g J138_0_0
theorem gm138_0 : cm138_0.Good Tryz.prog E138_0 sh138 := ⟨trivial, ⟨trivial, ⟨trivial, ⟨trivial, ⟨trivial, ⟨trivial, ⟨⟨g138_0_13, m138_0_0, trivial⟩, ⟨trivial, trivial⟩⟩⟩⟩⟩⟩⟩⟩
theorem fm138_0g (vf139_0 : Tf139_0) (vf156_0 : Tf156_0) (vf117_0 : Tf117_0) (vf118_0 : Tf118_0) (vf157_0 : Tf157_0) (vJ138_0_0 : TJ138_0_0) (α : Type) (k : List RV → Option α) : Fn138_0 (f138_0g vJ138_0_0 vf117_0 vf118_0 vf139_0 vf156_0 vf157_0) α k = pa138_0.unc fun ds => fnM Tryz.prog (E138_0g vf139_0 vf156_0 vf117_0 vf118_0 vf157_0) sh138 (cm138_0g vJ138_0_0) rs138 k ds := by kernel_rfl
theorem fm138_0 : ∀ (α : Type) (k : List RV → Option α), Fn138_0 f138_0 α k = pa138_0.unc fun ds => fnM Tryz.prog E138_0 sh138 cm138_0 rs138 k ds := fm138_0g f139_0 f156_0 f117_0 f118_0 f157_0 J138_0_0
theorem is138 : FnIs Tryz.prog 138 nt138 tr138 tl138 cm138_0.erase rs138 := ⟨Tryz.f138, Tryz.func138, rfl, by kernel_rfl, by kernel_rfl, by kernel_rfl⟩
theorem io138_0 : InstOk Tryz.prog 138 nt138 ⟨pa138_0, Fn138_0 f138_0⟩ := inst_ok eo138_0 followsTry is138 ⟨⟨sh138, cm138_0, by kernel_rfl, gm138_0, fm138_0⟩⟩
abbrev nt58 : Nat := 14
def sh58 : List (Nat × List Sh) := [(13, [.int .i64, .int .i64, .int .i64])]
def r58_2 : List AOper := [oO 4 (.alloc [(cI 0), (cI 0), (cI 0)])]
def r58_4 : List AOper := [oM 8 0, oM 9 1, oO 10 (.call 106 [(.tmp 8), (.tmp 9)]), oM 7 10, oO 11 (.extract 0 (.tmp 7)), oO 12 (.extract 1 (.tmp 7)), oO 5 (.alloc [(cI 0), (cI 0), (cI 0)]), oD (.store 3 (.tmp 5) (.tmp 11)), oM 6 12]
def r58_6 : List AOper := [oO 13 (.load true 3 (.tmp 5)), oD (.store 3 (.tmp 4) (.tmp 13))]
def tr58 : List (Nat × Tidy) := [tT 0 [0, 1, 4], tT 1 [4, 5], tT 2 [4]]
def tl58 : List (Nat × Tidy) := []
def rs58 : List AResV := [.cell 4 true 3]
def pr58_0_0 : PT (List RV) := pRs [pR true [rD (dI .i64), rD (dI .i64), rD (dI .i64)]]
def ur58_0_0 {β : Type} (g : List RV → β) : Int → Int → Int → β := pr58_0_0.unc g
def E58_0g (vf106_0 : Tf106_0) : EnvK := EnvK.of [⟨106, nt106, [⟨pa106_0, Fn106_0 vf106_0⟩]⟩] noSeq
noncomputable def E58_0 : EnvK := E58_0g f106_0
theorem eo58_0 : E58_0.Ok Tryz.prog := EnvK.of_ok noSeq_ok ⟨⟨io106_0, trivial⟩, trivial⟩
abbrev Tf58_0 : Type 1 := (α : Type) → Int → Int → (Int → Int → Int → Option α) → Option α
def f58_0g (vf106_0 : Tf106_0) (α : Type) (x1 x2 : Int) (k1 : Int → Int → Int → Option α) : Option α :=
 vf106_0 α x1 x2
 (fun x3 x4 x5 x6 => k1 x3 x4 x5)
noncomputable def f58_0 (α : Type) (x1 x2 : Int) (k1 : Int → Int → Int → Option α) : Option α := f58_0g f106_0 α x1 x2 k1
def pa58_0 : PT (List DV) := pA [pV false [(dI .i64)], pV false [(dI .i64)]]
def Fn58_0 (v : Tf58_0) (α : Type) (k : List RV → Option α) : Int → Int → Option α := fun x1 x2 => v α x1 x2 (fun (y1 : Int) (y2 : Int) (y3 : Int) => ur58_0_0 k y1 y2 y3)
noncomputable def cm58_0g  : MCode := (.seq (.region r58_2 [] (tO [0, 1, 4])) (.seq (.region r58_4 [] (tO [4, 5])) (.seq (.region r58_6 [] (tO [4])) .ret)))
noncomputable def cm58_0 : MCode := cm58_0g 
theorem gm58_0 : cm58_0.Good Tryz.prog E58_0 sh58 := ⟨trivial, ⟨trivial, ⟨trivial, trivial⟩⟩⟩
theorem fm58_0g (vf106_0 : Tf106_0)  (α : Type) (k : List RV → Option α) : Fn58_0 (f58_0g vf106_0) α k = pa58_0.unc fun ds => fnM Tryz.prog (E58_0g vf106_0) sh58 (cm58_0g ) rs58 k ds := by kernel_rfl
theorem fm58_0 : ∀ (α : Type) (k : List RV → Option α), Fn58_0 f58_0 α k = pa58_0.unc fun ds => fnM Tryz.prog E58_0 sh58 cm58_0 rs58 k ds := fm58_0g f106_0
theorem is58 : FnIs Tryz.prog 58 nt58 tr58 tl58 cm58_0.erase rs58 := ⟨Tryz.f58, Tryz.func58, rfl, by kernel_rfl, by kernel_rfl, by kernel_rfl⟩
theorem io58_0 : InstOk Tryz.prog 58 nt58 ⟨pa58_0, Fn58_0 f58_0⟩ := inst_ok eo58_0 followsTry is58 ⟨⟨sh58, cm58_0, by kernel_rfl, gm58_0, fm58_0⟩⟩
abbrev nt114 : Nat := 24
def sh114 : List (Nat × List Sh) := [(11, [.cpx .f64, .int .i64]), (19, [.cpx .f64, .int .i64])]
def r114_2 : List AOper := [oO 3 (.box (.tmp 0)), oO 4 (.box (.tmp 1)), oO 5 (.box (.tmp 2)), oO 6 (.alloc [(.d (.v (.complex Go.FloatKind.f64 0 0))), (cI 0)]), oO 7 (.mv (kI 0))]
def r114_4 : List AOper := [oO 11 (.load true 2 (.tmp 3)), oO 12 (.call 94 [(.tmp 11)]), oM 10 12, oO 13 (.extract 0 (.tmp 10)), oO 14 (.extract 1 (.tmp 10)), oO 8 (.alloc [(cI 0), (cI 0), (cI 0)]), oD (.store 3 (.tmp 8) (.tmp 13)), oM 9 14]
def r114_7 : List AOper := [oM 15 9, oO 16 (.bin .neq 26 (.tmp 15) (kI 0))]
def r114_10 : List AOper := [oO 17 (.build [(.d (.v (.complex Go.FloatKind.f64 0 0))), (cI 0)] []), oM 18 9, oD (.store 2 (.tmp 6) (.tmp 17)), oM 7 18]
def r114_12 : List AOper := [oO 19 (.load true 2 (.tmp 4)), oO 20 (.mkfn 145 [(.tmp 5), (.tmp 8)]), oO 21 (.call 144 [(.tmp 19), (.tmp 20)]), oO 22 (.extract 0 (.tmp 21)), oO 23 (.extract 1 (.tmp 21)), oD (.store 2 (.tmp 6) (.tmp 22)), oM 7 23]
def tr114 : List (Nat × Tidy) := [tT 0 [3, 4, 5, 6], tT 1 [4, 5, 6, 8, 9], tT 2 [4, 5, 6, 8, 9, 16], tT 3 [6, 7], tT 4 [6, 7]]
def tl114 : List (Nat × Tidy) := []
def rs114 : List AResV := [.cell 6 true 2, .tmp 7]
def pr114_0_0 : PT (List RV) := pRs [pR true [rD (dX .f64), rD (dI .i64)], pR false [rD (dI .i64)]]
def ur114_0_0 {β : Type} (g : List RV → β) : Nat → Nat → Int → Int → β := pr114_0_0.unc g
def E114_0g (vf94_0 : Tf94_0) (vf144_0 : Tf144_0) : EnvK := EnvK.of [⟨94, nt94, [⟨pa94_0, Fn94_0 vf94_0⟩]⟩, ⟨144, nt144, [⟨pa144_0, Fn144_0 vf144_0⟩]⟩] noSeq
noncomputable def E114_0 : EnvK := E114_0g f94_0 f144_0
theorem eo114_0 : E114_0.Ok Tryz.prog := EnvK.of_ok noSeq_ok ⟨⟨io94_0, trivial⟩, ⟨io144_0, trivial⟩, trivial⟩
abbrev Tf114_0 : Type 1 := (α : Type) → Nat → Nat → Int → Nat → Nat → Int → (Nat → Nat → Int → Int → Option α) → Option α
def f114_0g (vf144_0 : Tf144_0) (vf94_0 : Tf94_0) (α : Type) (x1 x2 : Nat) (x3 : Int) (x4 x5 : Nat) (x6 : Int) (k1 : Nat → Nat → Int → Int → Option α) : Option α :=
 vf94_0 α x1 x2 x3
 (fun x7 x8 x9 x10 => cK (x10 != 0)
 (k1 0 0 0 x10)
 (vf144_0 α x4 x5 x6 x7 x8 x9
 (fun x11 x12 x13 x14 => k1 x11 x12 x13 x14)))
noncomputable def f114_0 (α : Type) (x1 x2 : Nat) (x3 : Int) (x4 x5 : Nat) (x6 : Int) (k1 : Nat → Nat → Int → Int → Option α) : Option α := f114_0g f144_0 f94_0 α x1 x2 x3 x4 x5 x6 k1
def pa114_0 : PT (List DV) := pA [pV true [(dX .f64), (dI .i64)], pV true [(dX .f64), (dI .i64)], pV false [(dFn 154 [])]]
def Fn114_0 (v : Tf114_0) (α : Type) (k : List RV → Option α) : Nat → Nat → Int → Nat → Nat → Int → Option α := fun x1 x2 x3 x4 x5 x6 => v α x1 x2 x3 x4 x5 x6 (fun (y1 : Nat) (y2 : Nat) (y3 : Int) (y4 : Int) => ur114_0_0 k y1 y2 y3 y4)
noncomputable def cm114_0g  : MCode := (.seq (.region r114_2 [] (tO [3, 4, 5, 6])) (.seq (.region r114_4 [] (tO [4, 5, 6, 8, 9])) (.seq (.seq (.region r114_7 [] (tO [4, 5, 6, 8, 9, 16])) (.cond (.tmp 16) (.seq (.region r114_10 [] (tO [6, 7])) .ret) .skip)) (.seq (.region r114_12 [] (tO [6, 7])) .ret))))
noncomputable def cm114_0 : MCode := cm114_0g 
theorem gm114_0 : cm114_0.Good Tryz.prog E114_0 sh114 := ⟨trivial, ⟨trivial, ⟨⟨trivial, ⟨⟨trivial, trivial⟩, trivial⟩⟩, ⟨trivial, trivial⟩⟩⟩⟩
theorem fm114_0g (vf94_0 : Tf94_0) (vf144_0 : Tf144_0)  (α : Type) (k : List RV → Option α) : Fn114_0 (f114_0g vf144_0 vf94_0) α k = pa114_0.unc fun ds => fnM Tryz.prog (E114_0g vf94_0 vf144_0) sh114 (cm114_0g ) rs114 k ds := by kernel_rfl
theorem fm114_0 : ∀ (α : Type) (k : List RV → Option α), Fn114_0 f114_0 α k = pa114_0.unc fun ds => fnM Tryz.prog E114_0 sh114 cm114_0 rs114 k ds := fm114_0g f94_0 f144_0
theorem is114 : FnIs Tryz.prog 114 nt114 tr114 tl114 cm114_0.erase rs114 := ⟨Tryz.f114, Tryz.func114, rfl, by kernel_rfl, by kernel_rfl, by kernel_rfl⟩
theorem io114_0 : InstOk Tryz.prog 114 nt114 ⟨pa114_0, Fn114_0 f114_0⟩ := inst_ok eo114_0 followsTry is114 ⟨⟨sh114, cm114_0, by kernel_rfl, gm114_0, fm114_0⟩⟩
abbrev nt105 : Nat := 26
def sh105 : List (Nat × List Sh) := []
def r105_2 : List AOper := [oO 4 (.alloc [(.d (.v (.complex Go.FloatKind.f64 0 0))), (cI 0)]), oO 5 (.mv (kI 0))]
def r105_5 : List AOper := [oM 6 0, oO 7 (.call 137 [(.tmp 6), (kI 1000000000)]), oO 8 (.pure (oB (.unOp .not 4 (.tmp 7)) 4)), oM 9 8, oG 10 (.mv (.tmp 1)) 9 false, oG 11 (.call 127 [(.tmp 10), (kI 1), (kI 1000000000)]) 9 false, oG 12 (.pure (oB (.unOp .not 4 (.tmp 11)) 4)) 9 false, oO 13 (.pick (.tmp 9) (.const (.bool true)) (.tmp 12))]
def r105_8 : List AOper := [oO 14 (.build [(.d (.v (.complex Go.FloatKind.f64 0 0))), (cI 0)] []), oD (.store 2 (.tmp 4) (.tmp 14)), oO 5 (.mv (kI 2))]
def r105_10 : List AOper := [oM 15 0, oO 16 (.bin .mul 3 (.tmp 15) (kI 4194304)), oM 17 1, oO 18 (.call 139 [(.tmp 16), (.tmp 17)]), oM 19 0, oO 20 (.bin .mul 3 (.tmp 19) (kI 4194304)), oM 21 1, oO 22 (.call 118 [(.tmp 20), (.tmp 21)]), oO 23 (.call 138 [(.tmp 18), (.tmp 22)]), oO 24 (.extract 0 (.tmp 23)), oO 25 (.extract 1 (.tmp 23)), oD (.store 2 (.tmp 4) (.tmp 24)), oM 5 25]
def tr105 : List (Nat × Tidy) := [tT 0 [0, 1, 4], tT 1 [0, 1, 4, 13], tT 2 [4, 5], tT 3 [4, 5]]
def tl105 : List (Nat × Tidy) := []
def rs105 : List AResV := [.cell 4 true 2, .tmp 5]
def pr105_0_0 : PT (List RV) := pRs [pR true [rD (dX .f64), rD (dI .i64)], pR false [rD (dI .i64)]]
def ur105_0_0 {β : Type} (g : List RV → β) : Nat → Nat → Int → Int → β := pr105_0_0.unc g
def E105_0g (vf137_0 : Tf137_0) (vf127_0 : Tf127_0) (vf139_0 : Tf139_0) (vf118_0 : Tf118_0) (vf138_0 : Tf138_0) : EnvK := EnvK.of [⟨137, nt137, [⟨pa137_0, Fn137_0 vf137_0⟩]⟩, ⟨127, nt127, [⟨pa127_0, Fn127_0 vf127_0⟩]⟩, ⟨139, nt139, [⟨pa139_0, Fn139_0 vf139_0⟩]⟩, ⟨118, nt118, [⟨pa118_0, Fn118_0 vf118_0⟩]⟩, ⟨138, nt138, [⟨pa138_0, Fn138_0 vf138_0⟩]⟩] noSeq
noncomputable def E105_0 : EnvK := E105_0g f137_0 f127_0 f139_0 f118_0 f138_0
theorem eo105_0 : E105_0.Ok Tryz.prog := EnvK.of_ok noSeq_ok ⟨⟨io137_0, trivial⟩, ⟨io127_0, trivial⟩, ⟨io139_0, trivial⟩, ⟨io118_0, trivial⟩, ⟨io138_0, trivial⟩, trivial⟩
abbrev Tf105_0 : Type 1 := (α : Type) → Int → Int → (Nat → Nat → Int → Int → Option α) → Option α
def f105_0g (vf118_0 : Tf118_0) (vf127_0 : Tf127_0) (vf137_0 : Tf137_0) (vf138_0 : Tf138_0) (vf139_0 : Tf139_0) (α : Type) (x1 x2 : Int) (k1 : Nat → Nat → Int → Int → Option α) : Option α :=
 vf137_0 α x1 1000000000
 (fun x3 => cK (!x3)
 (k1 0 0 0 2)
 (vf127_0 α x2 1 1000000000
 (fun x4 => cK (!x4)
 (k1 0 0 0 2)
 (vf139_0 α (w64 (x1 * 4194304)) x2
 (fun x5 => vf118_0 α (w64 (x1 * 4194304)) x2
 (fun x6 => vf138_0 α x5 x6
 (fun x7 x8 x9 x10 => k1 x7 x8 x9 x10)))))))
noncomputable def f105_0 (α : Type) (x1 x2 : Int) (k1 : Nat → Nat → Int → Int → Option α) : Option α := f105_0g f118_0 f127_0 f137_0 f138_0 f139_0 α x1 x2 k1
def pa105_0 : PT (List DV) := pA [pV false [(dI .i64)], pV false [(dI .i64)]]
def Fn105_0 (v : Tf105_0) (α : Type) (k : List RV → Option α) : Int → Int → Option α := fun x1 x2 => v α x1 x2 (fun (y1 : Nat) (y2 : Nat) (y3 : Int) (y4 : Int) => ur105_0_0 k y1 y2 y3 y4)
noncomputable def cm105_0g  : MCode := (.seq (.region r105_2 [] (tO [0, 1, 4])) (.seq (.seq (.region r105_5 [] (tO [0, 1, 4, 13])) (.cond (.tmp 13) (.seq (.region r105_8 [] (tO [4, 5])) .ret) .skip)) (.seq (.region r105_10 [] (tO [4, 5])) .ret)))
noncomputable def cm105_0 : MCode := cm105_0g 
theorem gm105_0 : cm105_0.Good Tryz.prog E105_0 sh105 := ⟨trivial, ⟨⟨trivial, ⟨⟨trivial, trivial⟩, trivial⟩⟩, ⟨trivial, trivial⟩⟩⟩
theorem fm105_0g (vf137_0 : Tf137_0) (vf127_0 : Tf127_0) (vf139_0 : Tf139_0) (vf118_0 : Tf118_0) (vf138_0 : Tf138_0)  (α : Type) (k : List RV → Option α) : Fn105_0 (f105_0g vf118_0 vf127_0 vf137_0 vf138_0 vf139_0) α k = pa105_0.unc fun ds => fnM Tryz.prog (E105_0g vf137_0 vf127_0 vf139_0 vf118_0 vf138_0) sh105 (cm105_0g ) rs105 k ds := by kernel_rfl
theorem fm105_0 : ∀ (α : Type) (k : List RV → Option α), Fn105_0 f105_0 α k = pa105_0.unc fun ds => fnM Tryz.prog E105_0 sh105 cm105_0 rs105 k ds := fm105_0g f137_0 f127_0 f139_0 f118_0 f138_0
theorem is105 : FnIs Tryz.prog 105 nt105 tr105 tl105 cm105_0.erase rs105 := ⟨Tryz.f105, Tryz.func105, rfl, by kernel_rfl, by kernel_rfl, by kernel_rfl⟩
theorem io105_0 : InstOk Tryz.prog 105 nt105 ⟨pa105_0, Fn105_0 f105_0⟩ := inst_ok eo105_0 followsTry is105 ⟨⟨sh105, cm105_0, by kernel_rfl, gm105_0, fm105_0⟩⟩
abbrev nt14 : Nat := 74
def sh14 : List (Nat × List Sh) := [(33, [.int .i64]), (34, [.int .i64]), (36, [.int .i64]), (40, [.int .i64]), (41, [.int .i64]), (43, [.int .i64]), (47, [.int .i64]), (48, [.int .i64]), (51, [.int .i64]), (60, [.int .i64, .int .i64, .int .i64]), (61, [.int .i64, .int .i64, .int .i64]), (69, [.int .i64, .int .i64, .int .i64])]
def r14_2 : List AOper := [oO 2 (.mv (.const (.slice none 0 0))), oO 3 (.mv (kI 0))]
def r14_4 : List AOper := [oM 12 0, oO 13 (.len (.tmp 12)), oM 4 13]
def r14_6 : List AOper := [oO 5 (.mv (.const (.slice none 0 0)))]
def r14_9 : List AOper := [oO 6 (.mv (kI 0))]
def td14_11 : Option Tidy := (some ⟨[0, 4, 5, 6], true, [⟨false, 5, 0, 20005, 2⟩], []⟩)
def r14_14 : List AOper := [oM 14 6, oM 15 4, oO 16 (.bin .lss 3 (.tmp 14) (.tmp 15))]
def r14_19 : List AOper := [oO 19 (.build [(cI 0), (cI 0), (cI 0)] []), oO 7 (.alloc [(cI 0), (cI 0), (cI 0)]), oD (.store 3 (.tmp 7) (.tmp 19))]
def r14_22 : List AOper := [oO 8 (.mv (kI 0))]
def td14_24 : Option Tidy := (some ⟨[0, 4, 5, 6, 7, 8], true, [⟨false, 5, 0, 20005, 2⟩], []⟩)
def r14_27 : List AOper := [oM 20 8, oM 21 4, oO 22 (.bin .lss 3 (.tmp 20) (.tmp 21))]
def r14_32 : List AOper := [oM 25 6, oM 26 8, oO 27 (.bin .mul 3 (.tmp 25) (.tmp 26)), oM 28 4, oO 29 (.call 58 [(.tmp 27), (.tmp 28)]), oO 9 (.alloc [(cI 0), (cI 0), (cI 0)]), oD (.store 3 (.tmp 9) (.tmp 29))]
def r14_34 : List AOper := [oM 31 0, oM 32 8, oO 33 (.iaddr 1 none (.tmp 31) (.tmp 32)), oO 34 (.load false 1 (.tmp 33)), oO 35 (.faddr 0 (.tmp 9)), oO 36 (.load false 1 (.tmp 35)), oO 37 (.bin .mul 3 (.tmp 34) (.tmp 36)), oM 38 0, oM 39 8, oO 40 (.iaddr 1 none (.tmp 38) (.tmp 39)), oO 41 (.load false 1 (.tmp 40)), oO 42 (.faddr 1 (.tmp 9)), oO 43 (.load false 1 (.tmp 42)), oO 44 (.bin .mul 3 (.tmp 41) (.tmp 43)), oM 45 0, oM 46 8, oO 47 (.iaddr 1 none (.tmp 45) (.tmp 46)), oO 48 (.load false 1 (.tmp 47)), oO 49 (.call 43 [(.tmp 48)]), oO 50 (.faddr 2 (.tmp 9)), oO 51 (.load false 1 (.tmp 50)), oO 52 (.bin .mul 3 (.tmp 49) (.tmp 51)), oO 53 (.build [(cI 0), (cI 0), (cI 0)] [(0, 1, (.tmp 37)), (1, 1, (.tmp 44)), (2, 1, (.tmp 52))]), oO 54 (.call 59 [(.tmp 53)]), oM 30 54, oO 55 (.extract 0 (.tmp 30)), oO 56 (.extract 1 (.tmp 30)), oO 10 (.alloc [(cI 0), (cI 0), (cI 0)]), oD (.store 3 (.tmp 10) (.tmp 55)), oM 11 56]
def r14_37 : List AOper := [oM 57 11, oO 58 (.bin .eql 3 (.tmp 57) (kI 0))]
def r14_39 : List AOper := [oO 60 (.load true 3 (.tmp 7)), oO 61 (.load true 3 (.tmp 10)), oO 62 (.call 60 [(.tmp 60), (.tmp 61)]), oM 59 62, oO 63 (.extract 0 (.tmp 59)), oO 64 (.extract 1 (.tmp 59)), oD (.store 3 (.tmp 7) (.tmp 63)), oM 11 64]
def r14_41 : List AOper := [oM 65 11, oO 66 (.bin .neq 3 (.tmp 65) (kI 0))]
def r14_44 : List AOper := [oM 67 11, oO 2 (.mv (.const (.slice none 0 0))), oM 3 67]
def r14_45 : List AOper := [oM 23 8, oO 24 (.bin .add 3 (.tmp 23) (kI 1)), oM 8 24]
def r14_46 : List AOper := [oM 68 5, oO 69 (.load true 3 (.tmp 7)), oO 70 (.call 27 [(.tmp 69)]), oO 71 (.bslice 2 1 [(.v (.complex Go.FloatKind.f64 0 0)), (.v (.int .i64 0))] [(0, (.tmp 70))]), oO 72 (.append 2 24 (.tmp 68) (.tmp 71)), oM 5 72]
def r14_47 : List AOper := [oM 17 6, oO 18 (.bin .add 3 (.tmp 17) (kI 1)), oM 6 18]
def r14_49 : List AOper := [oM 73 5, oM 2 73, oO 3 (.mv (kI 0))]
def tr14 : List (Nat × Tidy) := [tT 0 [0], tT 1 [0, 4], tT 2 [0, 4, 5], tT 3 [0, 4, 5, 6], tT 4 [0, 4, 5, 6, 16], tT 6 [0, 4, 5, 6, 7], tT 7 [0, 4, 5, 6, 7, 8], tT 8 [0, 4, 5, 6, 7, 8, 22], tT 10 [0, 4, 5, 6, 7, 8, 9], tT 11 [0, 4, 5, 6, 7, 8, 10, 11], tT 12 [0, 4, 5, 6, 7, 8, 10, 11, 58], tT 13 [0, 4, 5, 6, 7, 8, 11], tT 14 [0, 4, 5, 6, 7, 8, 11, 66], (15, ⟨[2, 3], true, [⟨false, 2, 0, 20002, 2⟩], []⟩), tT 9 [0, 4, 5, 6, 7, 8], tT 16 [0, 4, 5, 6], tT 5 [0, 4, 5, 6], (17, ⟨[2, 3], true, [⟨false, 2, 0, 20002, 2⟩], []⟩)]
def tl14 : List (Nat × Tidy) := [(4, ⟨[0, 4, 5, 6], true, [⟨false, 5, 0, 20005, 2⟩], []⟩), (8, ⟨[0, 4, 5, 6, 7, 8], true, [⟨false, 5, 0, 20005, 2⟩], []⟩)]
def rs14 : List AResV := [.tmp 2, .tmp 3]
def p14_0_0 : PT St := pS [sl 0 (aV false [(cD dL)]), sl 4 (aV false [(cD (dI .i64))]), sl 5 (aV false [(cRef 20005)]), sl 6 (aV false [(cD (dI .i64))]), sl 7 (aV false [(cPtr 7 0)]), sl 8 (aV false [(cD (dI .i64))])] [eOwn 20005 2, eBox 7 [(cD (dI .i64)), (cD (dI .i64)), (cD (dI .i64))]]
def u14_0_0 {β : Type} (g : St → β) : Rows → Int → Int → Int → Rows → Int → Int → Int → β := p14_0_0.unc g
def p14_0_1 : PT St := pS [sl 2 (aV false [(cRef 20002)]), sl 3 (aV false [(cD (dI .i64))])] [eOwn 20002 2]
def u14_0_1 {β : Type} (g : St → β) : Int → Rows → β := p14_0_1.unc g
def p14_0_2 : PT St := pS [sl 0 (aV false [(cD dL)]), sl 4 (aV false [(cD (dI .i64))]), sl 5 (aV false [(cRef 20005)]), sl 6 (aV false [(cD (dI .i64))]), sl 7 (aV false [(cPtr 7 0)]), sl 8 (aV false [(cD (dI .i64))]), sl 22 (aV false [(cD dB)])] [eOwn 20005 2, eBox 7 [(cD (dI .i64)), (cD (dI .i64)), (cD (dI .i64))]]
def u14_0_2 {β : Type} (g : St → β) : Rows → Int → Int → Int → Bool → Rows → Int → Int → Int → β := p14_0_2.unc g
def p14_0_3 : PT St := pS [sl 0 (aV false [(cD dL)]), sl 4 (aV false [(cD (dI .i64))]), sl 5 (aV false [(cRef 20005)]), sl 6 (aV false [(cD (dI .i64))])] [eOwn 20005 2]
def u14_0_3 {β : Type} (g : St → β) : Rows → Int → Int → Rows → β := p14_0_3.unc g
def p14_0_4 : PT St := pS [sl 0 (aV false [(cD dL)]), sl 4 (aV false [(cD (dI .i64))]), sl 5 (aV false [(cRef 20005)]), sl 6 (aV false [(cD (dI .i64))]), sl 16 (aV false [(cD dB)])] [eOwn 20005 2]
def u14_0_4 {β : Type} (g : St → β) : Rows → Int → Int → Bool → Rows → β := p14_0_4.unc g
def pr14_0_0 : PT (List RV) := pRs [pR false [rO 2], pR false [rD (dI .i64)]]
def ur14_0_0 {β : Type} (g : List RV → β) : Rows → Int → β := pr14_0_0.unc g
def E14_0g (vf58_0 : Tf58_0) (vf43_0 : Tf43_0) (vf59_0 : Tf59_0) (vf60_0 : Tf60_0) (vf27_0 : Tf27_0) : EnvK := EnvK.of [⟨58, nt58, [⟨pa58_0, Fn58_0 vf58_0⟩]⟩, ⟨43, nt43, [⟨pa43_0, Fn43_0 vf43_0⟩]⟩, ⟨59, nt59, [⟨pa59_0, Fn59_0 vf59_0⟩]⟩, ⟨60, nt60, [⟨pa60_0, Fn60_0 vf60_0⟩]⟩, ⟨27, nt27, [⟨pa27_0, Fn27_0 vf27_0⟩]⟩] noSeq
noncomputable def E14_0 : EnvK := E14_0g f58_0 f43_0 f59_0 f60_0 f27_0
theorem eo14_0 : E14_0.Ok Tryz.prog := EnvK.of_ok noSeq_ok ⟨⟨io58_0, trivial⟩, ⟨io43_0, trivial⟩, ⟨io59_0, trivial⟩, ⟨io60_0, trivial⟩, ⟨io27_0, trivial⟩, trivial⟩
noncomputable def c14_0_24g  : MCode := (.seq (.seq (.region r14_27 [] (tO [0, 4, 5, 6, 7, 8, 22])) (.cond (.tmp 22) .skip (.exit 2))) (.seq (.block 3 (.seq (.region r14_32 [] (tO [0, 4, 5, 6, 7, 8, 9])) (.seq (.region r14_34 [(2, 18), (3, 18), (5, 18), (9, 18), (10, 18), (12, 18), (18, 20), (2, 27), (3, 27), (5, 27), (9, 27), (10, 27), (12, 27), (16, 27), (17, 27), (18, 27), (20, 27), (23, 27)] (tO [0, 4, 5, 6, 7, 8, 10, 11])) (.seq (.seq (.region r14_37 [] (tO [0, 4, 5, 6, 7, 8, 10, 11, 58])) (.cond (.tmp 58) (.region r14_39 [] (tO [0, 4, 5, 6, 7, 8, 11])) .skip)) (.seq (.region r14_41 [] (tO [0, 4, 5, 6, 7, 8, 11, 66])) (.cond (.tmp 66) (.seq (.region r14_44 [] (some ⟨[2, 3], true, [⟨false, 2, 0, 20002, 2⟩], []⟩)) .ret) .skip)))))) (.region r14_45 [] (tO [0, 4, 5, 6, 7, 8]))))
noncomputable def c14_0_24 : MCode := c14_0_24g 
theorem g14_0_24 : c14_0_24.Good Tryz.prog E14_0 sh14 := ⟨⟨trivial, ⟨trivial, trivial⟩⟩, ⟨⟨trivial, ⟨trivial, ⟨⟨trivial, ⟨trivial, trivial⟩⟩, ⟨trivial, ⟨⟨trivial, trivial⟩, trivial⟩⟩⟩⟩⟩, trivial⟩⟩
--CODE 24 0
def S14_0_0g (vf43_0 : Tf43_0) (vf58_0 : Tf58_0) (vf59_0 : Tf59_0) (vf60_0 : Tf60_0) (α : Type) (x7 : Rows) (x8 x9 x10 x12 x13 x14 : Int) (kn : Int → Int → Int → Int → Option α) (k1 : Int → Option α) (k2 : Int → Bool → Int → Int → Int → Option α) : Option α :=
 cK (decide (x10 < x8))
 (vf58_0 α (w64 (x9 * x10)) x8
 (fun x16 x17 x18 => rowK x7 x10 [.int .i64]
 (fun x19 => rowK x7 x10 [.int .i64]
 (fun x20 => rowK x7 x10 [.int .i64]
 (fun x21 => vf43_0 α x21
 (fun x22 => vf59_0 α (w64 (x19 * x16)) (w64 (x20 * x17)) (w64 (x22 * x18))
 (fun x23 x24 x25 x26 => cK (x26 == 0)
 (vf60_0 α x12 x13 x14 x23 x24 x25
 (fun x27 x28 x29 x30 => cK (x30 != 0)
 (k1 x30)
 (kn (w64 (x10 + 1)) x27 x28 x29)))
 (cK (x26 != 0)
 (k1 x26)
 (kn (w64 (x10 + 1)) x12 x13 x14)))))))))
 (k2 x10 (decide (x10 < x8)) x12 x13 x14)
noncomputable def S14_0_0 (α : Type) (x7 : Rows) (x8 x9 x10 x12 x13 x14 : Int) (kn : Int → Int → Int → Int → Option α) (k1 : Int → Option α) (k2 : Int → Bool → Int → Int → Int → Option α) : Option α := S14_0_0g f43_0 f58_0 f59_0 f60_0 α x7 x8 x9 x10 x12 x13 x14 kn k1 k2
noncomputable def R14_0_0 (α : Type) (x7 : Rows) (x8 x9 : Int) (k1 : Int → Option α) (k2 : Int → Bool → Int → Int → Int → Option α) : Nat → Int → Int → Int → Int → Option α
 | 0, _, _, _, _ => none
 | n + 1, x10, x12, x13, x14 => S14_0_0 α x7 x8 x9 x10 x12 x13 x14 (R14_0_0 α x7 x8 x9 k1 k2 n) k1 k2
noncomputable def L14_0_0 (α : Type) (x7 : Rows) (x8 x9 : Int) (k1 : Int → Option α) (k2 : Int → Bool → Int → Int → Int → Option α) (x10 x12 x13 x14 : Int) : Option α := R14_0_0 α x7 x8 x9 k1 k2 fuel x10 x12 x13 x14
abbrev TL14_0_0 : Type 1 := (α : Type) → Rows → Int → Int → (Int → Option α) → (Int → Bool → Int → Int → Int → Option α) → Int → Int → Int → Int → Option α
def F14_0_0 (v : TL14_0_0) (α : Type) (K : Exit → St → Option α) : Rows → Int → Int → Int → Rows → Int → Int → Int → Option α := fun x7 x8 x9 x10 x11 x12 x13 x14 => v α x7 x8 x9 (fun (y1 : Int) => u14_0_1 (K .ret) y1 ([] : Rows)) (fun (y1 : Int) (y2 : Bool) (y3 : Int) (y4 : Int) (y5 : Int) => u14_0_2 (K (.exit 2)) x7 x8 x9 y1 y2 x11 y3 y4 y5) x10 x12 x13 x14
theorem r14_0_0g (vf58_0 : Tf58_0) (vf43_0 : Tf43_0) (vf59_0 : Tf59_0) (vf60_0 : Tf60_0) (vf27_0 : Tf27_0)  (α : Type) (K : Exit → St → Option α) (Kn : St → Option α) (x7 : Rows) (x8 x9 x10 : Int) (x11 : Rows) (x12 x13 x14 : Int) : u14_0_0 (fun σ => runM Tryz.prog (E14_0g vf58_0 vf43_0 vf59_0 vf60_0 vf27_0) sh14 (c14_0_24g ) (thenK (fun σ => tidyK td14_24 σ Kn) K) σ) x7 x8 x9 x10 x11 x12 x13 x14 = S14_0_0g vf43_0 vf58_0 vf59_0 vf60_0 α x7 x8 x9 x10 x12 x13 x14 (fun x10 x12 x13 x14 => u14_0_0 Kn x7 x8 x9 x10 x11 x12 x13 x14) (fun (y1 : Int) => u14_0_1 (K .ret) y1 ([] : Rows)) (fun (y1 : Int) (y2 : Bool) (y3 : Int) (y4 : Int) (y5 : Int) => u14_0_2 (K (.exit 2)) x7 x8 x9 y1 y2 x11 y3 y4 y5) := by kernel_rfl
theorem r14_0_0 (α : Type) (K : Exit → St → Option α) (Kn : St → Option α) (x7 : Rows) (x8 x9 x10 : Int) (x11 : Rows) (x12 x13 x14 : Int) : u14_0_0 (fun σ => runM Tryz.prog E14_0 sh14 c14_0_24 (thenK (fun σ => tidyK td14_24 σ Kn) K) σ) x7 x8 x9 x10 x11 x12 x13 x14 = S14_0_0 α x7 x8 x9 x10 x12 x13 x14 (fun x10 x12 x13 x14 => u14_0_0 Kn x7 x8 x9 x10 x11 x12 x13 x14) (fun (y1 : Int) => u14_0_1 (K .ret) y1 ([] : Rows)) (fun (y1 : Int) (y2 : Bool) (y3 : Int) (y4 : Int) (y5 : Int) => u14_0_2 (K (.exit 2)) x7 x8 x9 y1 y2 x11 y3 y4 y5) := r14_0_0g f58_0 f43_0 f59_0 f60_0 f27_0 α K Kn x7 x8 x9 x10 x11 x12 x13 x14
theorem t14_0_0 (α : Type) (K : Exit → St → Option α) : ∀ (n : Nat) (x7 : Rows) (x8 x9 x10 : Int) (x11 : Rows) (x12 x13 x14 : Int), R14_0_0 α x7 x8 x9 (fun (y1 : Int) => u14_0_1 (K .ret) y1 ([] : Rows)) (fun (y1 : Int) (y2 : Bool) (y3 : Int) (y4 : Int) (y5 : Int) => u14_0_2 (K (.exit 2)) x7 x8 x9 y1 y2 x11 y3 y4 y5) n x10 x12 x13 x14 = u14_0_0 (loopT (runM Tryz.prog E14_0 sh14 c14_0_24) td14_24 K n) x7 x8 x9 x10 x11 x12 x13 x14 := by
 intro n
 induction n with
 | zero => intros; rfl
 | succ n ih => intro x7 x8 x9 x10 x11 x12 x13 x14; exact (congrArg (fun kn => S14_0_0 α x7 x8 x9 x10 x12 x13 x14 kn (fun (y1 : Int) => u14_0_1 (K .ret) y1 ([] : Rows)) (fun (y1 : Int) (y2 : Bool) (y3 : Int) (y4 : Int) (y5 : Int) => u14_0_2 (K (.exit 2)) x7 x8 x9 y1 y2 x11 y3 y4 y5)) (funext fun x10 => funext fun x12 => funext fun x13 => funext fun x14 => ih x7 x8 x9 x10 x11 x12 x13 x14)).trans (r14_0_0 α K (loopT (runM Tryz.prog E14_0 sh14 c14_0_24) td14_24 K n) x7 x8 x9 x10 x11 x12 x13 x14).symm
theorem m14_0_0 : ∀ (α : Type) (K : Exit → St → Option α), F14_0_0 L14_0_0 α K = p14_0_0.unc fun σ => loopT (runM Tryz.prog E14_0 sh14 c14_0_24) td14_24 K fuel σ := fun α K => funext fun x7 => funext fun x8 => funext fun x9 => funext fun x10 => funext fun x11 => funext fun x12 => funext fun x13 => funext fun x14 => t14_0_0 α K fuel x7 x8 x9 x10 x11 x12 x13 x14
noncomputable def c14_0_11g (vL14_0_0 : TL14_0_0) : MCode := (.seq (.seq (.region r14_14 [] (tO [0, 4, 5, 6, 16])) (.cond (.tmp 16) .skip (.exit 0))) (.seq (.block 1 (.seq (.region r14_19 [] (tO [0, 4, 5, 6, 7])) (.seq (.seq (.region r14_22 [] (tO [0, 4, 5, 6, 7, 8])) (.block 2 (.loop td14_24 [⟨p14_0_0, F14_0_0 vL14_0_0⟩] c14_0_24))) (.region r14_46 [] (tO [0, 4, 5, 6]))))) (.region r14_47 [] (tO [0, 4, 5, 6]))))
noncomputable def c14_0_11 : MCode := c14_0_11g L14_0_0
theorem g14_0_11 : c14_0_11.Good Tryz.prog E14_0 sh14 := ⟨⟨trivial, ⟨trivial, trivial⟩⟩, ⟨⟨trivial, ⟨⟨trivial, ⟨g14_0_24, m14_0_0, trivial⟩⟩, trivial⟩⟩, trivial⟩⟩
--CODE 11 0
def S14_0_1g (vL14_0_0 : TL14_0_0) (vf27_0 : Tf27_0) (α : Type) (x2 : Rows) (x3 x4 : Int) (x5 : Rows) (kn : Int → Rows → Option α) (k1 : Int → Option α) (k2 : Int → Bool → Rows → Option α) : Option α :=
 cK (decide (x4 < x3))
 (vL14_0_0 α x2 x3 x4
 (fun x31 => k1 x31)
 (fun x32 x33 x34 x35 x36 => vf27_0 α x34 x35 x36
 (fun x38 x39 x40 => gK (apOk 2 24 x5 [[DC.v (.complex .f64 x38 x39), DC.v (.int .i64 x40)]]) (kn (w64 (x4 + 1)) (x5 ++ [[DC.v (.complex .f64 x38 x39), DC.v (.int .i64 x40)]])))) 0 0 0 0)
 (k2 x4 (decide (x4 < x3)) x5)
noncomputable def S14_0_1 (α : Type) (x2 : Rows) (x3 x4 : Int) (x5 : Rows) (kn : Int → Rows → Option α) (k1 : Int → Option α) (k2 : Int → Bool → Rows → Option α) : Option α := S14_0_1g L14_0_0 f27_0 α x2 x3 x4 x5 kn k1 k2
noncomputable def R14_0_1 (α : Type) (x2 : Rows) (x3 : Int) (k1 : Int → Option α) (k2 : Int → Bool → Rows → Option α) : Nat → Int → Rows → Option α
 | 0, _, _ => none
 | n + 1, x4, x5 => S14_0_1 α x2 x3 x4 x5 (R14_0_1 α x2 x3 k1 k2 n) k1 k2
noncomputable def L14_0_1 (α : Type) (x2 : Rows) (x3 : Int) (k1 : Int → Option α) (k2 : Int → Bool → Rows → Option α) (x4 : Int) (x5 : Rows) : Option α := R14_0_1 α x2 x3 k1 k2 fuel x4 x5
abbrev TL14_0_1 : Type 1 := (α : Type) → Rows → Int → (Int → Option α) → (Int → Bool → Rows → Option α) → Int → Rows → Option α
def F14_0_1 (v : TL14_0_1) (α : Type) (K : Exit → St → Option α) : Rows → Int → Int → Rows → Option α := fun x2 x3 x4 x5 => v α x2 x3 (fun (y1 : Int) => u14_0_1 (K .ret) y1 ([] : Rows)) (fun (y1 : Int) (y2 : Bool) (y3 : Rows) => u14_0_4 (K (.exit 0)) x2 x3 y1 y2 y3) x4 x5
theorem r14_0_1g (vf58_0 : Tf58_0) (vf43_0 : Tf43_0) (vf59_0 : Tf59_0) (vf60_0 : Tf60_0) (vf27_0 : Tf27_0) (vL14_0_0 : TL14_0_0) (α : Type) (K : Exit → St → Option α) (Kn : St → Option α) (x2 : Rows) (x3 x4 : Int) (x5 : Rows) : u14_0_3 (fun σ => runM Tryz.prog (E14_0g vf58_0 vf43_0 vf59_0 vf60_0 vf27_0) sh14 (c14_0_11g vL14_0_0) (thenK (fun σ => tidyK td14_11 σ Kn) K) σ) x2 x3 x4 x5 = S14_0_1g vL14_0_0 vf27_0 α x2 x3 x4 x5 (fun x4 x5 => u14_0_3 Kn x2 x3 x4 x5) (fun (y1 : Int) => u14_0_1 (K .ret) y1 ([] : Rows)) (fun (y1 : Int) (y2 : Bool) (y3 : Rows) => u14_0_4 (K (.exit 0)) x2 x3 y1 y2 y3) := by kernel_rfl
theorem r14_0_1 (α : Type) (K : Exit → St → Option α) (Kn : St → Option α) (x2 : Rows) (x3 x4 : Int) (x5 : Rows) : u14_0_3 (fun σ => runM Tryz.prog E14_0 sh14 c14_0_11 (thenK (fun σ => tidyK td14_11 σ Kn) K) σ) x2 x3 x4 x5 = S14_0_1 α x2 x3 x4 x5 (fun x4 x5 => u14_0_3 Kn x2 x3 x4 x5) (fun (y1 : Int) => u14_0_1 (K .ret) y1 ([] : Rows)) (fun (y1 : Int) (y2 : Bool) (y3 : Rows) => u14_0_4 (K (.exit 0)) x2 x3 y1 y2 y3) := r14_0_1g f58_0 f43_0 f59_0 f60_0 f27_0 L14_0_0 α K Kn x2 x3 x4 x5
theorem t14_0_1 (α : Type) (K : Exit → St → Option α) : ∀ (n : Nat) (x2 : Rows) (x3 x4 : Int) (x5 : Rows), R14_0_1 α x2 x3 (fun (y1 : Int) => u14_0_1 (K .ret) y1 ([] : Rows)) (fun (y1 : Int) (y2 : Bool) (y3 : Rows) => u14_0_4 (K (.exit 0)) x2 x3 y1 y2 y3) n x4 x5 = u14_0_3 (loopT (runM Tryz.prog E14_0 sh14 c14_0_11) td14_11 K n) x2 x3 x4 x5 := by
 intro n
 induction n with
 | zero => intros; rfl
 | succ n ih => intro x2 x3 x4 x5; exact (congrArg (fun kn => S14_0_1 α x2 x3 x4 x5 kn (fun (y1 : Int) => u14_0_1 (K .ret) y1 ([] : Rows)) (fun (y1 : Int) (y2 : Bool) (y3 : Rows) => u14_0_4 (K (.exit 0)) x2 x3 y1 y2 y3)) (funext fun x4 => funext fun x5 => ih x2 x3 x4 x5)).trans (r14_0_1 α K (loopT (runM Tryz.prog E14_0 sh14 c14_0_11) td14_11 K n) x2 x3 x4 x5).symm
theorem m14_0_1 : ∀ (α : Type) (K : Exit → St → Option α), F14_0_1 L14_0_1 α K = p14_0_3.unc fun σ => loopT (runM Tryz.prog E14_0 sh14 c14_0_11) td14_11 K fuel σ := fun α K => funext fun x2 => funext fun x3 => funext fun x4 => funext fun x5 => t14_0_1 α K fuel x2 x3 x4 x5
abbrev Tf14_0 : Type 1 := (α : Type) → Rows → (Rows → Int → Option α) → Option α
def f14_0g (vL14_0_1 : TL14_0_1) (α : Type) (x1 : Rows) (k1 : Rows → Int → Option α) : Option α :=
 vL14_0_1 α x1 ((List.length x1 : Nat) : Int)
 (fun x41 => k1 ([] : Rows) x41)
 (fun x42 x43 x44 => k1 x44 0) 0 ([] : Rows)
noncomputable def f14_0 (α : Type) (x1 : Rows) (k1 : Rows → Int → Option α) : Option α := f14_0g L14_0_1 α x1 k1
def pa14_0 : PT (List DV) := pA [pV false [dL]]
def Fn14_0 (v : Tf14_0) (α : Type) (k : List RV → Option α) : Rows → Option α := fun x1 => v α x1 (fun (y1 : Rows) (y2 : Int) => ur14_0_0 k y1 y2)
noncomputable def cm14_0g (vL14_0_1 : TL14_0_1) : MCode := (.seq (.region r14_2 [] (tO [0])) (.seq (.region r14_4 [] (tO [0, 4])) (.seq (.region r14_6 [] (tO [0, 4, 5])) (.seq (.seq (.region r14_9 [] (tO [0, 4, 5, 6])) (.block 0 (.loop td14_11 [⟨p14_0_3, F14_0_1 vL14_0_1⟩] c14_0_11))) (.seq (.region r14_49 [] (some ⟨[2, 3], true, [⟨false, 2, 0, 20002, 2⟩], []⟩)) .ret)))))
noncomputable def cm14_0 : MCode := cm14_0g L14_0_1
theorem gm14_0 : cm14_0.Good Tryz.prog E14_0 sh14 := ⟨trivial, ⟨trivial, ⟨trivial, ⟨⟨trivial, ⟨g14_0_11, m14_0_1, trivial⟩⟩, ⟨trivial, trivial⟩⟩⟩⟩⟩
theorem fm14_0g (vf58_0 : Tf58_0) (vf43_0 : Tf43_0) (vf59_0 : Tf59_0) (vf60_0 : Tf60_0) (vf27_0 : Tf27_0) (vL14_0_1 : TL14_0_1) (α : Type) (k : List RV → Option α) : Fn14_0 (f14_0g vL14_0_1) α k = pa14_0.unc fun ds => fnM Tryz.prog (E14_0g vf58_0 vf43_0 vf59_0 vf60_0 vf27_0) sh14 (cm14_0g vL14_0_1) rs14 k ds := by kernel_rfl
theorem fm14_0 : ∀ (α : Type) (k : List RV → Option α), Fn14_0 f14_0 α k = pa14_0.unc fun ds => fnM Tryz.prog E14_0 sh14 cm14_0 rs14 k ds := fm14_0g f58_0 f43_0 f59_0 f60_0 f27_0 L14_0_1
theorem is14 : FnIs Tryz.prog 14 nt14 tr14 tl14 cm14_0.erase rs14 := ⟨Tryz.f14, Tryz.func14, rfl, by kernel_rfl, by kernel_rfl, by kernel_rfl⟩
theorem io14_0 : InstOk Tryz.prog 14 nt14 ⟨pa14_0, Fn14_0 f14_0⟩ := inst_ok eo14_0 followsTry is14 ⟨⟨sh14, cm14_0, by kernel_rfl, gm14_0, fm14_0⟩⟩
abbrev nt136 : Nat := 11
def sh136 : List (Nat × List Sh) := [(6, [.cpx .f64, .int .i64]), (7, [.cpx .f64, .int .i64])]
def r136_2 : List AOper := [oO 2 (.box (.tmp 0)), oO 3 (.box (.tmp 1)), oO 4 (.alloc [(.d (.v (.complex Go.FloatKind.f64 0 0))), (cI 0)]), oO 5 (.mv (kI 0))]
def r136_4 : List AOper := [oO 6 (.load true 2 (.tmp 2)), oO 7 (.load true 2 (.tmp 3)), oO 8 (.call 114 [(.tmp 6), (.tmp 7), (.func 154)]), oO 9 (.extract 0 (.tmp 8)), oO 10 (.extract 1 (.tmp 8)), oD (.store 2 (.tmp 4) (.tmp 9)), oM 5 10]
def tr136 : List (Nat × Tidy) := [tT 0 [2, 3, 4], tT 1 [4, 5]]
def tl136 : List (Nat × Tidy) := []
def rs136 : List AResV := [.cell 4 true 2, .tmp 5]
def pr136_0_0 : PT (List RV) := pRs [pR true [rD (dX .f64), rD (dI .i64)], pR false [rD (dI .i64)]]
def ur136_0_0 {β : Type} (g : List RV → β) : Nat → Nat → Int → Int → β := pr136_0_0.unc g
def E136_0g (vf114_0 : Tf114_0) : EnvK := EnvK.of [⟨114, nt114, [⟨pa114_0, Fn114_0 vf114_0⟩]⟩] noSeq
noncomputable def E136_0 : EnvK := E136_0g f114_0
theorem eo136_0 : E136_0.Ok Tryz.prog := EnvK.of_ok noSeq_ok ⟨⟨io114_0, trivial⟩, trivial⟩
abbrev Tf136_0 : Type 1 := (α : Type) → Nat → Nat → Int → Nat → Nat → Int → (Nat → Nat → Int → Int → Option α) → Option α
def f136_0g (vf114_0 : Tf114_0) (α : Type) (x1 x2 : Nat) (x3 : Int) (x4 x5 : Nat) (x6 : Int) (k1 : Nat → Nat → Int → Int → Option α) : Option α :=
 vf114_0 α x1 x2 x3 x4 x5 x6
 (fun x7 x8 x9 x10 => k1 x7 x8 x9 x10)
noncomputable def f136_0 (α : Type) (x1 x2 : Nat) (x3 : Int) (x4 x5 : Nat) (x6 : Int) (k1 : Nat → Nat → Int → Int → Option α) : Option α := f136_0g f114_0 α x1 x2 x3 x4 x5 x6 k1
def pa136_0 : PT (List DV) := pA [pV true [(dX .f64), (dI .i64)], pV true [(dX .f64), (dI .i64)]]
def Fn136_0 (v : Tf136_0) (α : Type) (k : List RV → Option α) : Nat → Nat → Int → Nat → Nat → Int → Option α := fun x1 x2 x3 x4 x5 x6 => v α x1 x2 x3 x4 x5 x6 (fun (y1 : Nat) (y2 : Nat) (y3 : Int) (y4 : Int) => ur136_0_0 k y1 y2 y3 y4)
noncomputable def cm136_0g  : MCode := (.seq (.region r136_2 [] (tO [2, 3, 4])) (.seq (.region r136_4 [] (tO [4, 5])) .ret))
noncomputable def cm136_0 : MCode := cm136_0g 
theorem gm136_0 : cm136_0.Good Tryz.prog E136_0 sh136 := ⟨trivial, ⟨trivial, trivial⟩⟩
theorem fm136_0g (vf114_0 : Tf114_0)  (α : Type) (k : List RV → Option α) : Fn136_0 (f136_0g vf114_0) α k = pa136_0.unc fun ds => fnM Tryz.prog (E136_0g vf114_0) sh136 (cm136_0g ) rs136 k ds := by kernel_rfl
theorem fm136_0 : ∀ (α : Type) (k : List RV → Option α), Fn136_0 f136_0 α k = pa136_0.unc fun ds => fnM Tryz.prog E136_0 sh136 cm136_0 rs136 k ds := fm136_0g f114_0
theorem is136 : FnIs Tryz.prog 136 nt136 tr136 tl136 cm136_0.erase rs136 := ⟨Tryz.f136, Tryz.func136, rfl, by kernel_rfl, by kernel_rfl, by kernel_rfl⟩
theorem io136_0 : InstOk Tryz.prog 136 nt136 ⟨pa136_0, Fn136_0 f136_0⟩ := inst_ok eo136_0 followsTry is136 ⟨⟨sh136, cm136_0, by kernel_rfl, gm136_0, fm136_0⟩⟩
abbrev nt55 : Nat := 14
def sh55 : List (Nat × List Sh) := [(13, [.cpx .f64, .int .i64])]
def r55_2 : List AOper := [oO 4 (.alloc [(.d (.v (.complex Go.FloatKind.f64 0 0))), (cI 0)])]
def r55_4 : List AOper := [oM 8 0, oM 9 1, oO 10 (.call 105 [(.tmp 8), (.tmp 9)]), oM 7 10, oO 11 (.extract 0 (.tmp 7)), oO 12 (.extract 1 (.tmp 7)), oO 5 (.alloc [(.d (.v (.complex Go.FloatKind.f64 0 0))), (cI 0)]), oD (.store 2 (.tmp 5) (.tmp 11)), oM 6 12]
def r55_6 : List AOper := [oO 13 (.load true 2 (.tmp 5)), oD (.store 2 (.tmp 4) (.tmp 13))]
def tr55 : List (Nat × Tidy) := [tT 0 [0, 1, 4], tT 1 [4, 5], tT 2 [4]]
def tl55 : List (Nat × Tidy) := []
def rs55 : List AResV := [.cell 4 true 2]
def pr55_0_0 : PT (List RV) := pRs [pR true [rD (dX .f64), rD (dI .i64)]]
def ur55_0_0 {β : Type} (g : List RV → β) : Nat → Nat → Int → β := pr55_0_0.unc g
def E55_0g (vf105_0 : Tf105_0) : EnvK := EnvK.of [⟨105, nt105, [⟨pa105_0, Fn105_0 vf105_0⟩]⟩] noSeq
noncomputable def E55_0 : EnvK := E55_0g f105_0
theorem eo55_0 : E55_0.Ok Tryz.prog := EnvK.of_ok noSeq_ok ⟨⟨io105_0, trivial⟩, trivial⟩
abbrev Tf55_0 : Type 1 := (α : Type) → Int → Int → (Nat → Nat → Int → Option α) → Option α
def f55_0g (vf105_0 : Tf105_0) (α : Type) (x1 x2 : Int) (k1 : Nat → Nat → Int → Option α) : Option α :=
 vf105_0 α x1 x2
 (fun x3 x4 x5 x6 => k1 x3 x4 x5)
noncomputable def f55_0 (α : Type) (x1 x2 : Int) (k1 : Nat → Nat → Int → Option α) : Option α := f55_0g f105_0 α x1 x2 k1
def pa55_0 : PT (List DV) := pA [pV false [(dI .i64)], pV false [(dI .i64)]]
def Fn55_0 (v : Tf55_0) (α : Type) (k : List RV → Option α) : Int → Int → Option α := fun x1 x2 => v α x1 x2 (fun (y1 : Nat) (y2 : Nat) (y3 : Int) => ur55_0_0 k y1 y2 y3)
noncomputable def cm55_0g  : MCode := (.seq (.region r55_2 [] (tO [0, 1, 4])) (.seq (.region r55_4 [] (tO [4, 5])) (.seq (.region r55_6 [] (tO [4])) .ret)))
noncomputable def cm55_0 : MCode := cm55_0g 
theorem gm55_0 : cm55_0.Good Tryz.prog E55_0 sh55 := ⟨trivial, ⟨trivial, ⟨trivial, trivial⟩⟩⟩
theorem fm55_0g (vf105_0 : Tf105_0)  (α : Type) (k : List RV → Option α) : Fn55_0 (f55_0g vf105_0) α k = pa55_0.unc fun ds => fnM Tryz.prog (E55_0g vf105_0) sh55 (cm55_0g ) rs55 k ds := by kernel_rfl
theorem fm55_0 : ∀ (α : Type) (k : List RV → Option α), Fn55_0 f55_0 α k = pa55_0.unc fun ds => fnM Tryz.prog E55_0 sh55 cm55_0 rs55 k ds := fm55_0g f105_0
theorem is55 : FnIs Tryz.prog 55 nt55 tr55 tl55 cm55_0.erase rs55 := ⟨Tryz.f55, Tryz.func55, rfl, by kernel_rfl, by kernel_rfl, by kernel_rfl⟩
theorem io55_0 : InstOk Tryz.prog 55 nt55 ⟨pa55_0, Fn55_0 f55_0⟩ := inst_ok eo55_0 followsTry is55 ⟨⟨sh55, cm55_0, by kernel_rfl, gm55_0, fm55_0⟩⟩
abbrev nt104 : Nat := 34
def sh104 : List (Nat × List Sh) := [(15, [.bool]), (20, [.cpx .f64, .int .i64]), (21, [.cpx .f64, .int .i64]), (27, [.cpx .f64, .int .i64])]
def r104_2 : List AOper := [oO 4 (.box (.tmp 1))]
def r104_5 : List AOper := [oM 7 2, oO 8 (.bin .neq 26 (.tmp 7) (kI 0))]
def r104_7 : List AOper := [oM 9 0, oO 10 (.nilchk (.tmp 9)), oO 11 (.faddr 2 (.tmp 10)), oD (.store 1 (.tmp 11) (.const (.bool true)))]
def r104_10 : List AOper := [oM 12 0, oO 13 (.nilchk (.tmp 12)), oO 14 (.faddr 2 (.tmp 13)), oO 15 (.load false 1 (.tmp 14))]
def r104_13 : List AOper := [oM 17 0, oO 18 (.nilchk (.tmp 17)), oO 19 (.faddr 0 (.tmp 18)), oO 20 (.load true 2 (.tmp 19)), oO 21 (.load true 2 (.tmp 4)), oO 22 (.call 136 [(.tmp 20), (.tmp 21)]), oM 16 22, oO 23 (.extract 0 (.tmp 16)), oO 24 (.extract 1 (.tmp 16)), oO 6 (.alloc [(.d (.v (.complex Go.FloatKind.f64 0 0))), (cI 0)]), oD (.store 2 (.tmp 6) (.tmp 23)), oM 2 24]
def r104_14 : List AOper := [oM 25 0, oM 26 0, oO 27 (.load true 2 (.tmp 6)), oM 28 2, oO 29 (.bin .neq 26 (.tmp 28) (kI 0)), oO 30 (.nilchk (.tmp 25)), oO 31 (.faddr 0 (.tmp 30)), oD (.store 2 (.tmp 31) (.tmp 27)), oO 32 (.nilchk (.tmp 26)), oO 33 (.faddr 2 (.tmp 32)), oD (.store 1 (.tmp 33) (.tmp 29))]
def tr104 : List (Nat × Tidy) := [tT 0 [0, 2, 4], tT 1 [0, 4, 8], tT 2 [0, 4], tT 3 [0, 4, 15], tT 4 [0, 2, 6], tT 5 [0]]
def tl104 : List (Nat × Tidy) := []
def rs104 : List AResV := []
def p104_0_0 : PT St := pSv [(0, 500000000, 0)] [sl 0 (aV false [(cPtr 500000000 0)]), sl 2 (aV false [(cD (dI .i64))]), sl 4 (aV false [(cPtr 4 0)])] [eBox 500000000 [(cD (dX .f64)), (cD (dI .i64)), (cD dB)], eBox 4 [(cD (dX .f64)), (cD (dI .i64))]]
def u104_0_0 {β : Type} (g : St → β) : Int → Nat → Nat → Int → Bool → Nat → Nat → Int → β := p104_0_0.unc g
def p104_0_1 : PT St := pSv [(0, 500000000, 0)] [sl 0 (aV false [(cPtr 500000000 0)]), sl 4 (aV false [(cPtr 4 0)])] [eBox 500000000 [(cD (dX .f64)), (cD (dI .i64)), (cD dB)], eBox 4 [(cD (dX .f64)), (cD (dI .i64))]]
def u104_0_1 {β : Type} (g : St → β) : Nat → Nat → Int → Bool → Nat → Nat → Int → β := p104_0_1.unc g
def p104_0_2 : PT St := pSv [(0, 500000000, 0)] [sl 0 (aV false [(cPtr 500000000 0)]), sl 4 (aV false [(cPtr 4 0)]), sl 8 (aV false [(cD dB)])] [eBox 500000000 [(cD (dX .f64)), (cD (dI .i64)), (cD dB)], eBox 4 [(cD (dX .f64)), (cD (dI .i64))]]
def u104_0_2 {β : Type} (g : St → β) : Bool → Nat → Nat → Int → Bool → Nat → Nat → Int → β := p104_0_2.unc g
def pr104_0_0 : PT (List RV) := pRs [pR true [rD (dX .f64), rD (dI .i64), rD dB]]
def ur104_0_0 {β : Type} (g : List RV → β) : Nat → Nat → Int → Bool → β := pr104_0_0.unc g
def E104_0g (vf136_0 : Tf136_0) : EnvK := EnvK.of [⟨136, nt136, [⟨pa136_0, Fn136_0 vf136_0⟩]⟩] noSeq
noncomputable def E104_0 : EnvK := E104_0g f136_0
theorem eo104_0 : E104_0.Ok Tryz.prog := EnvK.of_ok noSeq_ok ⟨⟨io136_0, trivial⟩, trivial⟩
noncomputable def c104_0_3g  : MCode := (.seq (.region r104_5 [] (tO [0, 4, 8])) (.cond (.tmp 8) (.region r104_7 [] (tO [0, 4])) .skip))
noncomputable def c104_0_3 : MCode := c104_0_3g 
theorem g104_0_3 : c104_0_3.Good Tryz.prog E104_0 sh104 := ⟨trivial, ⟨trivial, trivial⟩⟩
--CODE 3 0
abbrev TJ104_0_0 : Type 1 := (α : Type) → Int → (Option α) → (Bool → Option α) → Option α
def J104_0_0g  (α : Type) (x9 : Int) (k1 : Option α) (k2 : Bool → Option α) : Option α :=
 cK (x9 != 0)
 (k1)
 (k2 (x9 != 0))
noncomputable def J104_0_0 (α : Type) (x9 : Int) (k1 : Option α) (k2 : Bool → Option α) : Option α := J104_0_0g  α x9 k1 k2
def F104_0_0 (v : TJ104_0_0) (α : Type) (K : Exit → St → Option α) : Int → Nat → Nat → Int → Bool → Nat → Nat → Int → Option α := fun x9 x10 x11 x12 x13 x14 x15 x16 => v α x9 (u104_0_1 (K .normal) x10 x11 x12 true x14 x15 x16) (fun (y1 : Bool) => u104_0_2 (K .normal) y1 x10 x11 x12 x13 x14 x15 x16) 
theorem m104_0_0g (vf136_0 : Tf136_0)  (α : Type) (K : Exit → St → Option α) : F104_0_0 (J104_0_0g ) α K = p104_0_0.unc fun σ => runM Tryz.prog (E104_0g vf136_0) sh104 (c104_0_3g ) K σ := by kernel_rfl
theorem m104_0_0 : ∀ (α : Type) (K : Exit → St → Option α), F104_0_0 J104_0_0 α K = p104_0_0.unc fun σ => runM Tryz.prog E104_0 sh104 c104_0_3 K σ := m104_0_0g f136_0
abbrev Tf104_0 : Type 1 := (α : Type) → Nat → Nat → Int → Bool → Nat → Nat → Int → Int → (Nat → Nat → Int → Bool → Option α) → Option α
def f104_0g (vJ104_0_0 : TJ104_0_0) (vf136_0 : Tf136_0) (α : Type) (x1 x2 : Nat) (x3 : Int) (x4 : Bool) (x5 x6 : Nat) (x7 x8 : Int) (k1 : Nat → Nat → Int → Bool → Option α) : Option α :=
 vJ104_0_0 α x8
 (k1 x1 x2 x3 true)
 (fun x18 => cK x4
 (k1 x1 x2 x3 x4)
 (vf136_0 α x1 x2 x3 x5 x6 x7
 (fun x20 x21 x22 x23 => k1 x20 x21 x22 (x23 != 0))))
noncomputable def f104_0 (α : Type) (x1 x2 : Nat) (x3 : Int) (x4 : Bool) (x5 x6 : Nat) (x7 x8 : Int) (k1 : Nat → Nat → Int → Bool → Option α) : Option α := f104_0g J104_0_0 f136_0 α x1 x2 x3 x4 x5 x6 x7 x8 k1
def pa104_0 : PT (List DV) := pA [pV false [(dMr [(dX .f64), (dI .i64), dB] 0)], pV true [(dX .f64), (dI .i64)], pV false [(dI .i64)]]
def Fn104_0 (v : Tf104_0) (α : Type) (k : List RV → Option α) : Nat → Nat → Int → Bool → Nat → Nat → Int → Int → Option α := fun x1 x2 x3 x4 x5 x6 x7 x8 => v α x1 x2 x3 x4 x5 x6 x7 x8 (fun (y1 : Nat) (y2 : Nat) (y3 : Int) (y4 : Bool) => ur104_0_0 k y1 y2 y3 y4)
noncomputable def cm104_0g (vJ104_0_0 : TJ104_0_0) : MCode := (.seq (.region r104_2 [] (tO [0, 2, 4])) (.seq (.mark [⟨p104_0_0, F104_0_0 vJ104_0_0⟩] c104_0_3) (.seq (.seq (.region r104_10 [] (tO [0, 4, 15])) (.cond (.tmp 15) .ret .skip)) (.seq (.region r104_13 [(3, 9), (4, 9), (5, 9)] (tO [0, 2, 6])) (.region r104_14 [] (tO [0]))))))
noncomputable def cm104_0 : MCode := cm104_0g J104_0_0
theorem gm104_0 : cm104_0.Good Tryz.prog E104_0 sh104 := ⟨trivial, ⟨⟨g104_0_3, m104_0_0, trivial⟩, ⟨⟨trivial, ⟨trivial, trivial⟩⟩, ⟨trivial, trivial⟩⟩⟩⟩
theorem fm104_0g (vf136_0 : Tf136_0) (vJ104_0_0 : TJ104_0_0) (α : Type) (k : List RV → Option α) : Fn104_0 (f104_0g vJ104_0_0 vf136_0) α k = pa104_0.unc fun ds => fnM Tryz.prog (E104_0g vf136_0) sh104 (cm104_0g vJ104_0_0) rs104 k ds := by kernel_rfl
theorem fm104_0 : ∀ (α : Type) (k : List RV → Option α), Fn104_0 f104_0 α k = pa104_0.unc fun ds => fnM Tryz.prog E104_0 sh104 cm104_0 rs104 k ds := fm104_0g f136_0 J104_0_0
theorem is104 : FnIs Tryz.prog 104 nt104 tr104 tl104 cm104_0.erase rs104 := ⟨Tryz.f104, Tryz.func104, rfl, by kernel_rfl, by kernel_rfl, by kernel_rfl⟩
theorem io104_0 : InstOk Tryz.prog 104 nt104 ⟨pa104_0, Fn104_0 f104_0⟩ := inst_ok eo104_0 followsTry is104 ⟨⟨sh104, cm104_0, by kernel_rfl, gm104_0, fm104_0⟩⟩
abbrev nt53 : Nat := 18
def sh53 : List (Nat × List Sh) := [(10, [.sl]), (13, [.sl]), (15, [.int .i64]), (16, [.int .i64])]
def r53_2 : List AOper := [oO 5 (.alloc [(.d (.v (.complex Go.FloatKind.f64 0 0))), (cI 0)]), oO 6 (.mv (kI 0))]
def r53_4 : List AOper := [oM 7 0, oM 8 1, oO 9 (.bin .mul 3 (.tmp 7) (.tmp 8)), oO 10 (.load false 1 (.tmp 2)), oO 11 (.len (.tmp 10)), oO 12 (.call 55 [(.tmp 9), (.tmp 11)]), oO 13 (.load false 1 (.tmp 2)), oM 14 1, oO 15 (.iaddr 1 none (.tmp 13) (.tmp 14)), oO 16 (.load false 1 (.tmp 15)), oO 17 (.call 54 [(.tmp 12), (.tmp 16)]), oD (.store 2 (.tmp 5) (.tmp 17)), oO 6 (.mv (kI 0))]
def tr53 : List (Nat × Tidy) := [tT 0 [0, 1, 2, 5], tT 1 [5, 6]]
def tl53 : List (Nat × Tidy) := []
def rs53 : List AResV := [.cell 5 true 2, .tmp 6]
def pr53_0_0 : PT (List RV) := pRs [pR true [rD (dX .f64), rD (dI .i64)], pR false [rD (dI .i64)]]
def ur53_0_0 {β : Type} (g : List RV → β) : Nat → Nat → Int → Int → β := pr53_0_0.unc g
def E53_0g (vf55_0 : Tf55_0) (vf54_0 : Tf54_0) : EnvK := EnvK.of [⟨55, nt55, [⟨pa55_0, Fn55_0 vf55_0⟩]⟩, ⟨54, nt54, [⟨pa54_0, Fn54_0 vf54_0⟩]⟩] noSeq
noncomputable def E53_0 : EnvK := E53_0g f55_0 f54_0
theorem eo53_0 : E53_0.Ok Tryz.prog := EnvK.of_ok noSeq_ok ⟨⟨io55_0, trivial⟩, ⟨io54_0, trivial⟩, trivial⟩
abbrev Tf53_0 : Type 1 := (α : Type) → Int → Int → Rows → (Nat → Nat → Int → Option α) → Option α
def f53_0g (vf54_0 : Tf54_0) (vf55_0 : Tf55_0) (α : Type) (x1 x2 : Int) (x3 : Rows) (k1 : Nat → Nat → Int → Option α) : Option α :=
 vf55_0 α (w64 (x1 * x2)) ((List.length x3 : Nat) : Int)
 (fun x4 x5 x6 => rowK x3 x2 [.int .i64]
 (fun x7 => vf54_0 α x4 x5 x6 x7
 (fun x8 x9 x10 => k1 x8 x9 x10)))
noncomputable def f53_0 (α : Type) (x1 x2 : Int) (x3 : Rows) (k1 : Nat → Nat → Int → Option α) : Option α := f53_0g f54_0 f55_0 α x1 x2 x3 k1
def pa53_0 : PT (List DV) := pA [pV false [(dI .i64)], pV false [(dI .i64)], pV false [(dP [dL] 0)]]
def Fn53_0 (v : Tf53_0) (α : Type) (k : List RV → Option α) : Int → Int → Rows → Option α := fun x1 x2 x3 => v α x1 x2 x3 (fun (y1 : Nat) (y2 : Nat) (y3 : Int) => ur53_0_0 k y1 y2 y3 0)
noncomputable def cm53_0g  : MCode := (.seq (.region r53_2 [] (tO [0, 1, 2, 5])) (.seq (.region r53_4 [(5, 6), (5, 8), (5, 9)] (tO [5, 6])) .ret))
noncomputable def cm53_0 : MCode := cm53_0g 
theorem gm53_0 : cm53_0.Good Tryz.prog E53_0 sh53 := ⟨trivial, ⟨trivial, trivial⟩⟩
theorem fm53_0g (vf55_0 : Tf55_0) (vf54_0 : Tf54_0)  (α : Type) (k : List RV → Option α) : Fn53_0 (f53_0g vf54_0 vf55_0) α k = pa53_0.unc fun ds => fnM Tryz.prog (E53_0g vf55_0 vf54_0) sh53 (cm53_0g ) rs53 k ds := by kernel_rfl
theorem fm53_0 : ∀ (α : Type) (k : List RV → Option α), Fn53_0 f53_0 α k = pa53_0.unc fun ds => fnM Tryz.prog E53_0 sh53 cm53_0 rs53 k ds := fm53_0g f55_0 f54_0
theorem is53 : FnIs Tryz.prog 53 nt53 tr53 tl53 cm53_0.erase rs53 := ⟨Tryz.f53, Tryz.func53, rfl, by kernel_rfl, by kernel_rfl, by kernel_rfl⟩
theorem io53_0 : InstOk Tryz.prog 53 nt53 ⟨pa53_0, Fn53_0 f53_0⟩ := inst_ok eo53_0 followsTry is53 ⟨⟨sh53, cm53_0, by kernel_rfl, gm53_0, fm53_0⟩⟩
abbrev nt52 : Nat := 35
def sh52 : List (Nat × List Sh) := [(27, [.bool]), (30, [.cpx .f64, .int .i64])]
def r52_2 : List AOper := [oO 4 (.mv (.const (.slice none 0 0))), oO 5 (.mv (.const (.bool false)))]
def r52_4 : List AOper := [oO 6 (.mv (.const (.slice none 0 0)))]
def r52_7 : List AOper := [oM 10 0, oO 11 (.mv (kI 0))]
def td52_9 : Option Tidy := (some ⟨[0, 1, 6, 10, 11], true, [⟨false, 6, 0, 20006, 2⟩], []⟩)
def r52_11 : List AOper := [oO 12 (.bin .lss 3 (.tmp 11) (.tmp 10))]
def r52_17 : List AOper := [oM 13 11, oM 7 13]
def r52_19 : List AOper := [oO 8 (.alloc [(.d (.v (.complex Go.FloatKind.f64 0 0))), (cI 0), (.d (.v (.bool false)))])]
def r52_22 : List AOper := [oM 14 0, oO 15 (.mv (kI 0))]
def td52_24 : Option Tidy := (some ⟨[0, 1, 6, 7, 8, 10, 11, 14, 15], true, [⟨false, 6, 0, 20006, 2⟩], []⟩)
def r52_26 : List AOper := [oO 16 (.bin .lss 3 (.tmp 15) (.tmp 14))]
def r52_32 : List AOper := [oM 17 15, oM 9 17]
def r52_33 : List AOper := [oM 18 1, oM 19 7, oM 20 9, oO 21 (.calld (.tmp 18) [(.tmp 19), (.tmp 20)]), oO 22 (.extract 0 (.tmp 21)), oO 23 (.extract 1 (.tmp 21)), oO 24 (.call 104 [(.tmp 8), (.tmp 22), (.tmp 23)])]
def r52_34 : List AOper := [oO 25 (.bin .add 3 (.tmp 15) (kI 1)), oM 15 25]
def r52_37 : List AOper := [oO 26 (.faddr 2 (.tmp 8)), oO 27 (.load false 1 (.tmp 26))]
def r52_40 : List AOper := [oO 4 (.mv (.const (.slice none 0 0))), oO 5 (.mv (.const (.bool false)))]
def r52_41 : List AOper := [oM 28 6, oO 29 (.faddr 0 (.tmp 8)), oO 30 (.load true 2 (.tmp 29)), oO 31 (.bslice 2 1 [(.v (.complex Go.FloatKind.f64 0 0)), (.v (.int .i64 0))] [(0, (.tmp 30))]), oO 32 (.append 2 24 (.tmp 28) (.tmp 31)), oM 6 32]
def r52_42 : List AOper := [oO 33 (.bin .add 3 (.tmp 11) (kI 1)), oM 11 33]
def r52_44 : List AOper := [oM 34 6, oM 4 34, oO 5 (.mv (.const (.bool true)))]
def tr52 : List (Nat × Tidy) := [tT 0 [0, 1], tT 1 [0, 1, 6], tT 2 [0, 1, 6, 10, 11], tT 3 [0, 1, 6, 10, 11, 12], tT 4 [0, 1, 6, 7, 10, 11], tT 5 [0, 1, 6, 7, 8, 10, 11], tT 6 [0, 1, 6, 7, 8, 10, 11, 14, 15], tT 7 [0, 1, 6, 7, 8, 10, 11, 14, 15, 16], tT 8 [0, 1, 6, 7, 8, 9, 10, 11, 14, 15], tT 9 [0, 1, 6, 7, 8, 10, 11, 14, 15], tT 10 [0, 1, 6, 7, 8, 10, 11, 14, 15], tT 11 [0, 1, 6, 8, 10, 11, 27], (12, ⟨[4, 5], true, [⟨false, 4, 0, 20004, 2⟩], []⟩), tT 13 [0, 1, 6, 10, 11], tT 14 [0, 1, 6, 10, 11], (15, ⟨[4, 5], true, [⟨false, 4, 0, 20004, 2⟩], []⟩)]
def tl52 : List (Nat × Tidy) := [(3, ⟨[0, 1, 6, 10, 11], true, [⟨false, 6, 0, 20006, 2⟩], []⟩), (7, ⟨[0, 1, 6, 7, 8, 10, 11, 14, 15], true, [⟨false, 6, 0, 20006, 2⟩], []⟩)]
def rs52 : List AResV := [.tmp 4, .tmp 5]
def p52_0_0 : PT St := pS [sl 0 (aV false [(cD (dI .i64))]), sl 1 (aV false [(cD (dFn 53 [(dP [dL] 0)]))]), sl 6 (aV false [(cRef 20006)]), sl 7 (aV false [(cD (dI .i64))]), sl 8 (aV false [(cPtr 8 0)]), sl 10 (aV false [(cD (dI .i64))]), sl 11 (aV false [(cD (dI .i64))]), sl 14 (aV false [(cD (dI .i64))]), sl 15 (aV false [(cD (dI .i64))])] [eOwn 20006 2, eBox 8 [(cD (dX .f64)), (cD (dI .i64)), (cD dB)]]
def u52_0_0 {β : Type} (g : St → β) : Int → Rows → Int → Int → Int → Int → Int → Rows → Nat → Nat → Int → Bool → β := p52_0_0.unc g
def p52_0_1 : PT St := pS [sl 0 (aV false [(cD (dI .i64))]), sl 1 (aV false [(cD (dFn 53 [(dP [dL] 0)]))]), sl 6 (aV false [(cRef 20006)]), sl 7 (aV false [(cD (dI .i64))]), sl 8 (aV false [(cPtr 8 0)]), sl 10 (aV false [(cD (dI .i64))]), sl 11 (aV false [(cD (dI .i64))]), sl 14 (aV false [(cD (dI .i64))]), sl 15 (aV false [(cD (dI .i64))]), sl 16 (aV false [(cD dB)])] [eOwn 20006 2, eBox 8 [(cD (dX .f64)), (cD (dI .i64)), (cD dB)]]
def u52_0_1 {β : Type} (g : St → β) : Int → Rows → Int → Int → Int → Int → Int → Bool → Rows → Nat → Nat → Int → Bool → β := p52_0_1.unc g
def p52_0_2 : PT St := pS [sl 0 (aV false [(cD (dI .i64))]), sl 1 (aV false [(cD (dFn 53 [(dP [dL] 0)]))]), sl 6 (aV false [(cRef 20006)]), sl 10 (aV false [(cD (dI .i64))]), sl 11 (aV false [(cD (dI .i64))])] [eOwn 20006 2]
def u52_0_2 {β : Type} (g : St → β) : Int → Rows → Int → Int → Rows → β := p52_0_2.unc g
def p52_0_3 : PT St := pS [sl 4 (aV false [(cRef 20004)]), sl 5 (aV false [(cD dB)])] [eOwn 20004 2]
def u52_0_3 {β : Type} (g : St → β) : Bool → Rows → β := p52_0_3.unc g
def p52_0_4 : PT St := pS [sl 0 (aV false [(cD (dI .i64))]), sl 1 (aV false [(cD (dFn 53 [(dP [dL] 0)]))]), sl 6 (aV false [(cRef 20006)]), sl 10 (aV false [(cD (dI .i64))]), sl 11 (aV false [(cD (dI .i64))]), sl 12 (aV false [(cD dB)])] [eOwn 20006 2]
def u52_0_4 {β : Type} (g : St → β) : Int → Rows → Int → Int → Bool → Rows → β := p52_0_4.unc g
def pr52_0_0 : PT (List RV) := pRs [pR false [rO 2], pR false [rD dB]]
def ur52_0_0 {β : Type} (g : List RV → β) : Rows → Bool → β := pr52_0_0.unc g
def E52_0g (vf53_0 : Tf53_0) (vf104_0 : Tf104_0) : EnvK := EnvK.ofIO [⟨53, nt53, [⟨pa53_0, Fn53_0 vf53_0⟩]⟩, ⟨104, nt104, [⟨pa104_0, Fn104_0 vf104_0⟩]⟩] noSeq [(104, [0])]
noncomputable def E52_0 : EnvK := E52_0g f53_0 f104_0
theorem eo52_0 : E52_0.Ok Tryz.prog := EnvK.ofIO_ok noSeq_ok ⟨⟨io53_0, trivial⟩, ⟨io104_0, trivial⟩, trivial⟩
noncomputable def c52_0_24g  : MCode := (.seq (.region r52_26 [] (tO [0, 1, 6, 7, 8, 10, 11, 14, 15, 16])) (.seq (.cond (.tmp 16) .skip (.exit 2)) (.seq (.block 3 (.seq (.region r52_32 [] (tO [0, 1, 6, 7, 8, 9, 10, 11, 14, 15])) (.region r52_33 [] (tO [0, 1, 6, 7, 8, 10, 11, 14, 15])))) (.region r52_34 [] (tO [0, 1, 6, 7, 8, 10, 11, 14, 15])))))
noncomputable def c52_0_24 : MCode := c52_0_24g 
theorem g52_0_24 : c52_0_24.Good Tryz.prog E52_0 sh52 := ⟨trivial, ⟨⟨trivial, trivial⟩, ⟨⟨trivial, trivial⟩, trivial⟩⟩⟩
--CODE 24 0
def S52_0_0g (vf104_0 : Tf104_0) (vf53_0 : Tf53_0) (α : Type) (x10 : Rows) (x11 x14 x15 : Int) (x17 x18 : Nat) (x19 : Int) (x20 : Bool) (kn : Int → Nat → Nat → Int → Bool → Option α) (k1 : Int → Bool → Nat → Nat → Int → Bool → Option α) : Option α :=
 cK (decide (x15 < x14))
 (vf53_0 α x11 x15 x10
 (fun x22 x23 x24 => vf104_0 α x17 x18 x19 x20 x22 x23 x24 0
 (fun x25 x26 x27 x28 => kn (w64 (x15 + 1)) x25 x26 x27 x28)))
 (k1 x15 (decide (x15 < x14)) x17 x18 x19 x20)
noncomputable def S52_0_0 (α : Type) (x10 : Rows) (x11 x14 x15 : Int) (x17 x18 : Nat) (x19 : Int) (x20 : Bool) (kn : Int → Nat → Nat → Int → Bool → Option α) (k1 : Int → Bool → Nat → Nat → Int → Bool → Option α) : Option α := S52_0_0g f104_0 f53_0 α x10 x11 x14 x15 x17 x18 x19 x20 kn k1
noncomputable def R52_0_0 (α : Type) (x10 : Rows) (x11 x14 : Int) (k1 : Int → Bool → Nat → Nat → Int → Bool → Option α) : Nat → Int → Nat → Nat → Int → Bool → Option α
 | 0, _, _, _, _, _ => none
 | n + 1, x15, x17, x18, x19, x20 => S52_0_0 α x10 x11 x14 x15 x17 x18 x19 x20 (R52_0_0 α x10 x11 x14 k1 n) k1
noncomputable def L52_0_0 (α : Type) (x10 : Rows) (x11 x14 : Int) (k1 : Int → Bool → Nat → Nat → Int → Bool → Option α) (x15 : Int) (x17 x18 : Nat) (x19 : Int) (x20 : Bool) : Option α := R52_0_0 α x10 x11 x14 k1 fuel x15 x17 x18 x19 x20
abbrev TL52_0_0 : Type 1 := (α : Type) → Rows → Int → Int → (Int → Bool → Nat → Nat → Int → Bool → Option α) → Int → Nat → Nat → Int → Bool → Option α
def F52_0_0 (v : TL52_0_0) (α : Type) (K : Exit → St → Option α) : Int → Rows → Int → Int → Int → Int → Int → Rows → Nat → Nat → Int → Bool → Option α := fun x9 x10 x11 x12 x13 x14 x15 x16 x17 x18 x19 x20 => v α x10 x11 x14 (fun (y1 : Int) (y2 : Bool) (y3 : Nat) (y4 : Nat) (y5 : Int) (y6 : Bool) => u52_0_1 (K (.exit 2)) x9 x10 x11 x12 x13 x14 y1 y2 x16 y3 y4 y5 y6) x15 x17 x18 x19 x20
theorem r52_0_0g (vf53_0 : Tf53_0) (vf104_0 : Tf104_0)  (α : Type) (K : Exit → St → Option α) (Kn : St → Option α) (x9 : Int) (x10 : Rows) (x11 x12 x13 x14 x15 : Int) (x16 : Rows) (x17 x18 : Nat) (x19 : Int) (x20 : Bool) : u52_0_0 (fun σ => runM Tryz.prog (E52_0g vf53_0 vf104_0) sh52 (c52_0_24g ) (thenK (fun σ => tidyK td52_24 σ Kn) K) σ) x9 x10 x11 x12 x13 x14 x15 x16 x17 x18 x19 x20 = S52_0_0g vf104_0 vf53_0 α x10 x11 x14 x15 x17 x18 x19 x20 (fun x15 x17 x18 x19 x20 => u52_0_0 Kn x9 x10 x11 x12 x13 x14 x15 x16 x17 x18 x19 x20) (fun (y1 : Int) (y2 : Bool) (y3 : Nat) (y4 : Nat) (y5 : Int) (y6 : Bool) => u52_0_1 (K (.exit 2)) x9 x10 x11 x12 x13 x14 y1 y2 x16 y3 y4 y5 y6) := by kernel_rfl
theorem r52_0_0 (α : Type) (K : Exit → St → Option α) (Kn : St → Option α) (x9 : Int) (x10 : Rows) (x11 x12 x13 x14 x15 : Int) (x16 : Rows) (x17 x18 : Nat) (x19 : Int) (x20 : Bool) : u52_0_0 (fun σ => runM Tryz.prog E52_0 sh52 c52_0_24 (thenK (fun σ => tidyK td52_24 σ Kn) K) σ) x9 x10 x11 x12 x13 x14 x15 x16 x17 x18 x19 x20 = S52_0_0 α x10 x11 x14 x15 x17 x18 x19 x20 (fun x15 x17 x18 x19 x20 => u52_0_0 Kn x9 x10 x11 x12 x13 x14 x15 x16 x17 x18 x19 x20) (fun (y1 : Int) (y2 : Bool) (y3 : Nat) (y4 : Nat) (y5 : Int) (y6 : Bool) => u52_0_1 (K (.exit 2)) x9 x10 x11 x12 x13 x14 y1 y2 x16 y3 y4 y5 y6) := r52_0_0g f53_0 f104_0 α K Kn x9 x10 x11 x12 x13 x14 x15 x16 x17 x18 x19 x20
theorem t52_0_0 (α : Type) (K : Exit → St → Option α) : ∀ (n : Nat) (x9 : Int) (x10 : Rows) (x11 x12 x13 x14 x15 : Int) (x16 : Rows) (x17 x18 : Nat) (x19 : Int) (x20 : Bool), R52_0_0 α x10 x11 x14 (fun (y1 : Int) (y2 : Bool) (y3 : Nat) (y4 : Nat) (y5 : Int) (y6 : Bool) => u52_0_1 (K (.exit 2)) x9 x10 x11 x12 x13 x14 y1 y2 x16 y3 y4 y5 y6) n x15 x17 x18 x19 x20 = u52_0_0 (loopT (runM Tryz.prog E52_0 sh52 c52_0_24) td52_24 K n) x9 x10 x11 x12 x13 x14 x15 x16 x17 x18 x19 x20 := by
 intro n
 induction n with
 | zero => intros; rfl
 | succ n ih => intro x9 x10 x11 x12 x13 x14 x15 x16 x17 x18 x19 x20; exact (congrArg (fun kn => S52_0_0 α x10 x11 x14 x15 x17 x18 x19 x20 kn (fun (y1 : Int) (y2 : Bool) (y3 : Nat) (y4 : Nat) (y5 : Int) (y6 : Bool) => u52_0_1 (K (.exit 2)) x9 x10 x11 x12 x13 x14 y1 y2 x16 y3 y4 y5 y6)) (funext fun x15 => funext fun x17 => funext fun x18 => funext fun x19 => funext fun x20 => ih x9 x10 x11 x12 x13 x14 x15 x16 x17 x18 x19 x20)).trans (r52_0_0 α K (loopT (runM Tryz.prog E52_0 sh52 c52_0_24) td52_24 K n) x9 x10 x11 x12 x13 x14 x15 x16 x17 x18 x19 x20).symm
theorem m52_0_0 : ∀ (α : Type) (K : Exit → St → Option α), F52_0_0 L52_0_0 α K = p52_0_0.unc fun σ => loopT (runM Tryz.prog E52_0 sh52 c52_0_24) td52_24 K fuel σ := fun α K => funext fun x9 => funext fun x10 => funext fun x11 => funext fun x12 => funext fun x13 => funext fun x14 => funext fun x15 => funext fun x16 => funext fun x17 => funext fun x18 => funext fun x19 => funext fun x20 => t52_0_0 α K fuel x9 x10 x11 x12 x13 x14 x15 x16 x17 x18 x19 x20
noncomputable def c52_0_9g (vL52_0_0 : TL52_0_0) : MCode := (.seq (.region r52_11 [] (tO [0, 1, 6, 10, 11, 12])) (.seq (.cond (.tmp 12) .skip (.exit 0)) (.seq (.block 1 (.seq (.region r52_17 [] (tO [0, 1, 6, 7, 10, 11])) (.seq (.region r52_19 [] (tO [0, 1, 6, 7, 8, 10, 11])) (.seq (.seq (.region r52_22 [] (tO [0, 1, 6, 7, 8, 10, 11, 14, 15])) (.block 2 (.loop td52_24 [⟨p52_0_0, F52_0_0 vL52_0_0⟩] c52_0_24))) (.seq (.seq (.region r52_37 [] (tO [0, 1, 6, 8, 10, 11, 27])) (.cond (.tmp 27) (.seq (.region r52_40 [] (some ⟨[4, 5], true, [⟨false, 4, 0, 20004, 2⟩], []⟩)) .ret) .skip)) (.region r52_41 [] (tO [0, 1, 6, 10, 11]))))))) (.region r52_42 [] (tO [0, 1, 6, 10, 11])))))
noncomputable def c52_0_9 : MCode := c52_0_9g L52_0_0
theorem g52_0_9 : c52_0_9.Good Tryz.prog E52_0 sh52 := ⟨trivial, ⟨⟨trivial, trivial⟩, ⟨⟨trivial, ⟨trivial, ⟨⟨trivial, ⟨g52_0_24, m52_0_0, trivial⟩⟩, ⟨⟨trivial, ⟨⟨trivial, trivial⟩, trivial⟩⟩, trivial⟩⟩⟩⟩, trivial⟩⟩⟩
--CODE 9 0
def S52_0_1g (vL52_0_0 : TL52_0_0) (α : Type) (x3 : Int) (x4 : Rows) (x5 x6 : Int) (x7 : Rows) (kn : Int → Rows → Option α) (k1 : Option α) (k2 : Int → Bool → Rows → Option α) : Option α :=
 cK (decide (x6 < x5))
 (vL52_0_0 α x4 x6 x3
 (fun x29 x30 x31 x32 x33 x34 => cK x34
 (k1)
 (gK (apOk 2 24 x7 [[DC.v (.complex .f64 x31 x32), DC.v (.int .i64 x33)]]) (kn (w64 (x6 + 1)) (x7 ++ [[DC.v (.complex .f64 x31 x32), DC.v (.int .i64 x33)]])))) 0 0 0 0 false)
 (k2 x6 (decide (x6 < x5)) x7)
noncomputable def S52_0_1 (α : Type) (x3 : Int) (x4 : Rows) (x5 x6 : Int) (x7 : Rows) (kn : Int → Rows → Option α) (k1 : Option α) (k2 : Int → Bool → Rows → Option α) : Option α := S52_0_1g L52_0_0 α x3 x4 x5 x6 x7 kn k1 k2
noncomputable def R52_0_1 (α : Type) (x3 : Int) (x4 : Rows) (x5 : Int) (k1 : Option α) (k2 : Int → Bool → Rows → Option α) : Nat → Int → Rows → Option α
 | 0, _, _ => none
 | n + 1, x6, x7 => S52_0_1 α x3 x4 x5 x6 x7 (R52_0_1 α x3 x4 x5 k1 k2 n) k1 k2
noncomputable def L52_0_1 (α : Type) (x3 : Int) (x4 : Rows) (x5 : Int) (k1 : Option α) (k2 : Int → Bool → Rows → Option α) (x6 : Int) (x7 : Rows) : Option α := R52_0_1 α x3 x4 x5 k1 k2 fuel x6 x7
abbrev TL52_0_1 : Type 1 := (α : Type) → Int → Rows → Int → (Option α) → (Int → Bool → Rows → Option α) → Int → Rows → Option α
def F52_0_1 (v : TL52_0_1) (α : Type) (K : Exit → St → Option α) : Int → Rows → Int → Int → Rows → Option α := fun x3 x4 x5 x6 x7 => v α x3 x4 x5 (u52_0_3 (K .ret) false ([] : Rows)) (fun (y1 : Int) (y2 : Bool) (y3 : Rows) => u52_0_4 (K (.exit 0)) x3 x4 x5 y1 y2 y3) x6 x7
theorem r52_0_1g (vf53_0 : Tf53_0) (vf104_0 : Tf104_0) (vL52_0_0 : TL52_0_0) (α : Type) (K : Exit → St → Option α) (Kn : St → Option α) (x3 : Int) (x4 : Rows) (x5 x6 : Int) (x7 : Rows) : u52_0_2 (fun σ => runM Tryz.prog (E52_0g vf53_0 vf104_0) sh52 (c52_0_9g vL52_0_0) (thenK (fun σ => tidyK td52_9 σ Kn) K) σ) x3 x4 x5 x6 x7 = S52_0_1g vL52_0_0 α x3 x4 x5 x6 x7 (fun x6 x7 => u52_0_2 Kn x3 x4 x5 x6 x7) (u52_0_3 (K .ret) false ([] : Rows)) (fun (y1 : Int) (y2 : Bool) (y3 : Rows) => u52_0_4 (K (.exit 0)) x3 x4 x5 y1 y2 y3) := by kernel_rfl
theorem r52_0_1 (α : Type) (K : Exit → St → Option α) (Kn : St → Option α) (x3 : Int) (x4 : Rows) (x5 x6 : Int) (x7 : Rows) : u52_0_2 (fun σ => runM Tryz.prog E52_0 sh52 c52_0_9 (thenK (fun σ => tidyK td52_9 σ Kn) K) σ) x3 x4 x5 x6 x7 = S52_0_1 α x3 x4 x5 x6 x7 (fun x6 x7 => u52_0_2 Kn x3 x4 x5 x6 x7) (u52_0_3 (K .ret) false ([] : Rows)) (fun (y1 : Int) (y2 : Bool) (y3 : Rows) => u52_0_4 (K (.exit 0)) x3 x4 x5 y1 y2 y3) := r52_0_1g f53_0 f104_0 L52_0_0 α K Kn x3 x4 x5 x6 x7
theorem t52_0_1 (α : Type) (K : Exit → St → Option α) : ∀ (n : Nat) (x3 : Int) (x4 : Rows) (x5 x6 : Int) (x7 : Rows), R52_0_1 α x3 x4 x5 (u52_0_3 (K .ret) false ([] : Rows)) (fun (y1 : Int) (y2 : Bool) (y3 : Rows) => u52_0_4 (K (.exit 0)) x3 x4 x5 y1 y2 y3) n x6 x7 = u52_0_2 (loopT (runM Tryz.prog E52_0 sh52 c52_0_9) td52_9 K n) x3 x4 x5 x6 x7 := by
 intro n
 induction n with
 | zero => intros; rfl
 | succ n ih => intro x3 x4 x5 x6 x7; exact (congrArg (fun kn => S52_0_1 α x3 x4 x5 x6 x7 kn (u52_0_3 (K .ret) false ([] : Rows)) (fun (y1 : Int) (y2 : Bool) (y3 : Rows) => u52_0_4 (K (.exit 0)) x3 x4 x5 y1 y2 y3)) (funext fun x6 => funext fun x7 => ih x3 x4 x5 x6 x7)).trans (r52_0_1 α K (loopT (runM Tryz.prog E52_0 sh52 c52_0_9) td52_9 K n) x3 x4 x5 x6 x7).symm
theorem m52_0_1 : ∀ (α : Type) (K : Exit → St → Option α), F52_0_1 L52_0_1 α K = p52_0_2.unc fun σ => loopT (runM Tryz.prog E52_0 sh52 c52_0_9) td52_9 K fuel σ := fun α K => funext fun x3 => funext fun x4 => funext fun x5 => funext fun x6 => funext fun x7 => t52_0_1 α K fuel x3 x4 x5 x6 x7
abbrev Tf52_0 : Type 1 := (α : Type) → Int → Rows → (Rows → Bool → Option α) → Option α
def f52_0g (vL52_0_1 : TL52_0_1) (α : Type) (x1 : Int) (x2 : Rows) (k1 : Rows → Bool → Option α) : Option α :=
 vL52_0_1 α x1 x2 x1
 (k1 ([] : Rows) false)
 (fun x36 x37 x38 => k1 x38 true) 0 ([] : Rows)
noncomputable def f52_0 (α : Type) (x1 : Int) (x2 : Rows) (k1 : Rows → Bool → Option α) : Option α := f52_0g L52_0_1 α x1 x2 k1
def pa52_0 : PT (List DV) := pA [pV false [(dI .i64)], pV false [(dFn 53 [(dP [dL] 0)])]]
def Fn52_0 (v : Tf52_0) (α : Type) (k : List RV → Option α) : Int → Rows → Option α := fun x1 x2 => v α x1 x2 (fun (y1 : Rows) (y2 : Bool) => ur52_0_0 k y1 y2)
noncomputable def cm52_0g (vL52_0_1 : TL52_0_1) : MCode := (.seq (.region r52_2 [] (tO [0, 1])) (.seq (.region r52_4 [] (tO [0, 1, 6])) (.seq (.seq (.region r52_7 [] (tO [0, 1, 6, 10, 11])) (.block 0 (.loop td52_9 [⟨p52_0_2, F52_0_1 vL52_0_1⟩] c52_0_9))) (.seq (.region r52_44 [] (some ⟨[4, 5], true, [⟨false, 4, 0, 20004, 2⟩], []⟩)) .ret))))
noncomputable def cm52_0 : MCode := cm52_0g L52_0_1
theorem gm52_0 : cm52_0.Good Tryz.prog E52_0 sh52 := ⟨trivial, ⟨trivial, ⟨⟨trivial, ⟨g52_0_9, m52_0_1, trivial⟩⟩, ⟨trivial, trivial⟩⟩⟩⟩
theorem fm52_0g (vf53_0 : Tf53_0) (vf104_0 : Tf104_0) (vL52_0_1 : TL52_0_1) (α : Type) (k : List RV → Option α) : Fn52_0 (f52_0g vL52_0_1) α k = pa52_0.unc fun ds => fnM Tryz.prog (E52_0g vf53_0 vf104_0) sh52 (cm52_0g vL52_0_1) rs52 k ds := by kernel_rfl
theorem fm52_0 : ∀ (α : Type) (k : List RV → Option α), Fn52_0 f52_0 α k = pa52_0.unc fun ds => fnM Tryz.prog E52_0 sh52 cm52_0 rs52 k ds := fm52_0g f53_0 f104_0 L52_0_1
theorem is52 : FnIs Tryz.prog 52 nt52 tr52 tl52 cm52_0.erase rs52 := ⟨Tryz.f52, Tryz.func52, rfl, by kernel_rfl, by kernel_rfl, by kernel_rfl⟩
theorem io52_0 : InstOk Tryz.prog 52 nt52 ⟨pa52_0, Fn52_0 f52_0⟩ := inst_ok eo52_0 followsTry is52 ⟨⟨sh52, cm52_0, by kernel_rfl, gm52_0, fm52_0⟩⟩
abbrev nt11 : Nat := 35
def sh11 : List (Nat × List Sh) := [(9, [.sl]), (15, [.sl]), (19, [.int .i64]), (20, [.int .i64]), (26, [.sl])]
def r11_2 : List AOper := [oO 1 (.box (.tmp 0)), oO 2 (.mv (.const (.slice none 0 0))), oO 3 (.mv (kI 0))]
def r11_5 : List AOper := [oO 9 (.load false 1 (.tmp 1)), oO 10 (.len (.tmp 9)), oO 11 (.call 50 [(.tmp 10)]), oM 4 11]
def r11_7 : List AOper := [oM 12 4, oO 13 (.bin .neq 26 (.tmp 12) (kI 0))]
def r11_10 : List AOper := [oM 14 4, oO 2 (.mv (.const (.slice none 0 0))), oM 3 14]
def r11_13 : List AOper := [oO 15 (.load false 1 (.tmp 1)), oO 16 (.len (.tmp 15)), oO 17 (.mv (kI 0))]
def td11_15 : Option Tidy := (some ⟨[1, 15, 16, 17], true, [⟨false, 15, 0, 20015, 1⟩, ⟨true, 1, 0, 30100, 1⟩], []⟩)
def r11_17 : List AOper := [oO 18 (.bin .lss 3 (.tmp 17) (.tmp 16))]
def r11_23 : List AOper := [oO 19 (.iaddr 1 none (.tmp 15) (.tmp 17)), oO 20 (.load false 1 (.tmp 19)), oM 6 20]
def r11_25 : List AOper := [oM 21 6, oO 22 (.call 51 [(.tmp 21), (kI (-1000)), (kI 1000)]), oO 23 (.pure (oB (.unOp .not 4 (.tmp 22)) 4))]
def r11_28 : List AOper := [oO 2 (.mv (.const (.slice none 0 0))), oO 3 (.mv (kI 2))]
def r11_29 : List AOper := [oO 24 (.bin .add 3 (.tmp 17) (kI 1)), oM 17 24]
def r11_31 : List AOper := [oO 26 (.load false 1 (.tmp 1)), oO 27 (.len (.tmp 26)), oO 28 (.mkfn 53 [(.tmp 1)]), oO 29 (.call 52 [(.tmp 27), (.tmp 28)]), oM 25 29, oO 30 (.extract 0 (.tmp 25)), oO 31 (.extract 1 (.tmp 25)), oM 7 30, oM 8 31]
def r11_34 : List AOper := [oM 32 8, oO 33 (.pure (oB (.unOp .not 4 (.tmp 32)) 4))]
def r11_37 : List AOper := [oO 2 (.mv (.const (.slice none 0 0))), oO 3 (.mv (kI 8))]
def r11_39 : List AOper := [oM 34 7, oM 2 34, oO 3 (.mv (kI 0))]
def tr11 : List (Nat × Tidy) := [tT 0 [1], tT 1 [1, 4], tT 2 [1, 4, 13], (3, ⟨[2, 3], true, [⟨false, 2, 0, 20002, 2⟩], []⟩), tT 4 [1, 15, 16, 17], tT 5 [1, 15, 16, 17, 18], tT 6 [1, 6, 15, 16, 17], tT 7 [1, 15, 16, 17, 23], (8, ⟨[2, 3], true, [⟨false, 2, 0, 20002, 2⟩], []⟩), tT 9 [1, 15, 16, 17], tT 10 [7, 8], tT 11 [7, 33], (12, ⟨[2, 3], true, [⟨false, 2, 0, 20002, 2⟩], []⟩), (13, ⟨[2, 3], true, [⟨false, 2, 0, 20002, 2⟩], []⟩)]
def tl11 : List (Nat × Tidy) := [(5, ⟨[1, 15, 16, 17], true, [⟨false, 15, 0, 20015, 1⟩, ⟨true, 1, 0, 30100, 1⟩], []⟩)]
def rs11 : List AResV := [.tmp 2, .tmp 3]
def p11_0_0 : PT St := pS [sl 1 (aV false [(cPtr 1 0)]), sl 15 (aV false [(cD dL)]), sl 16 (aV false [(cD (dI .i64))]), sl 17 (aV false [(cD (dI .i64))])] [eBox 1 [(cD dL)]]
def u11_0_0 {β : Type} (g : St → β) : Rows → Int → Int → Rows → β := p11_0_0.unc g
def p11_0_1 : PT St := pS [sl 2 (aV false [(cRef 20002)]), sl 3 (aV false [(cD (dI .i64))])] [eOwn 20002 2]
def u11_0_1 {β : Type} (g : St → β) : Int → Rows → β := p11_0_1.unc g
def p11_0_2 : PT St := pS [sl 1 (aV false [(cPtr 1 0)]), sl 15 (aV false [(cD dL)]), sl 16 (aV false [(cD (dI .i64))]), sl 17 (aV false [(cD (dI .i64))]), sl 18 (aV false [(cD dB)])] [eBox 1 [(cD dL)]]
def u11_0_2 {β : Type} (g : St → β) : Rows → Int → Int → Bool → Rows → β := p11_0_2.unc g
def pr11_0_0 : PT (List RV) := pRs [pR false [rO 2], pR false [rD (dI .i64)]]
def ur11_0_0 {β : Type} (g : List RV → β) : Rows → Int → β := pr11_0_0.unc g
def E11_0g (vf50_0 : Tf50_0) (vf51_0 : Tf51_0) (vf52_0 : Tf52_0) : EnvK := EnvK.of [⟨50, nt50, [⟨pa50_0, Fn50_0 vf50_0⟩]⟩, ⟨51, nt51, [⟨pa51_0, Fn51_0 vf51_0⟩]⟩, ⟨52, nt52, [⟨pa52_0, Fn52_0 vf52_0⟩]⟩] noSeq
noncomputable def E11_0 : EnvK := E11_0g f50_0 f51_0 f52_0
theorem eo11_0 : E11_0.Ok Tryz.prog := EnvK.of_ok noSeq_ok ⟨⟨io50_0, trivial⟩, ⟨io51_0, trivial⟩, ⟨io52_0, trivial⟩, trivial⟩
noncomputable def c11_0_15g  : MCode := (.seq (.region r11_17 [] (tO [1, 15, 16, 17, 18])) (.seq (.cond (.tmp 18) .skip (.exit 0)) (.seq (.block 1 (.seq (.region r11_23 [] (tO [1, 6, 15, 16, 17])) (.seq (.region r11_25 [] (tO [1, 15, 16, 17, 23])) (.cond (.tmp 23) (.seq (.region r11_28 [] (some ⟨[2, 3], true, [⟨false, 2, 0, 20002, 2⟩], []⟩)) .ret) .skip)))) (.region r11_29 [] (tO [1, 15, 16, 17])))))
noncomputable def c11_0_15 : MCode := c11_0_15g 
theorem g11_0_15 : c11_0_15.Good Tryz.prog E11_0 sh11 := ⟨trivial, ⟨⟨trivial, trivial⟩, ⟨⟨trivial, ⟨trivial, ⟨⟨trivial, trivial⟩, trivial⟩⟩⟩, trivial⟩⟩⟩
--CODE 15 0
def S11_0_0g (vf51_0 : Tf51_0) (α : Type) (x3 : Rows) (x4 x5 : Int) (kn : Int → Option α) (k1 : Option α) (k2 : Int → Bool → Option α) : Option α :=
 cK (decide (x5 < x4))
 (rowK x3 x5 [.int .i64]
 (fun x8 => vf51_0 α x8 (-1000) 1000
 (fun x9 => cK (!x9)
 (k1)
 (kn (w64 (x5 + 1))))))
 (k2 x5 (decide (x5 < x4)))
noncomputable def S11_0_0 (α : Type) (x3 : Rows) (x4 x5 : Int) (kn : Int → Option α) (k1 : Option α) (k2 : Int → Bool → Option α) : Option α := S11_0_0g f51_0 α x3 x4 x5 kn k1 k2
noncomputable def R11_0_0 (α : Type) (x3 : Rows) (x4 : Int) (k1 : Option α) (k2 : Int → Bool → Option α) : Nat → Int → Option α
 | 0, _ => none
 | n + 1, x5 => S11_0_0 α x3 x4 x5 (R11_0_0 α x3 x4 k1 k2 n) k1 k2
noncomputable def L11_0_0 (α : Type) (x3 : Rows) (x4 : Int) (k1 : Option α) (k2 : Int → Bool → Option α) (x5 : Int) : Option α := R11_0_0 α x3 x4 k1 k2 fuel x5
abbrev TL11_0_0 : Type 1 := (α : Type) → Rows → Int → (Option α) → (Int → Bool → Option α) → Int → Option α
def F11_0_0 (v : TL11_0_0) (α : Type) (K : Exit → St → Option α) : Rows → Int → Int → Rows → Option α := fun x3 x4 x5 x6 => v α x3 x4 (u11_0_1 (K .ret) 2 ([] : Rows)) (fun (y1 : Int) (y2 : Bool) => u11_0_2 (K (.exit 0)) x3 x4 y1 y2 x6) x5
theorem r11_0_0g (vf50_0 : Tf50_0) (vf51_0 : Tf51_0) (vf52_0 : Tf52_0)  (α : Type) (K : Exit → St → Option α) (Kn : St → Option α) (x3 : Rows) (x4 x5 : Int) (x6 : Rows) : u11_0_0 (fun σ => runM Tryz.prog (E11_0g vf50_0 vf51_0 vf52_0) sh11 (c11_0_15g ) (thenK (fun σ => tidyK td11_15 σ Kn) K) σ) x3 x4 x5 x6 = S11_0_0g vf51_0 α x3 x4 x5 (fun x5 => u11_0_0 Kn x3 x4 x5 x6) (u11_0_1 (K .ret) 2 ([] : Rows)) (fun (y1 : Int) (y2 : Bool) => u11_0_2 (K (.exit 0)) x3 x4 y1 y2 x6) := by kernel_rfl
theorem r11_0_0 (α : Type) (K : Exit → St → Option α) (Kn : St → Option α) (x3 : Rows) (x4 x5 : Int) (x6 : Rows) : u11_0_0 (fun σ => runM Tryz.prog E11_0 sh11 c11_0_15 (thenK (fun σ => tidyK td11_15 σ Kn) K) σ) x3 x4 x5 x6 = S11_0_0 α x3 x4 x5 (fun x5 => u11_0_0 Kn x3 x4 x5 x6) (u11_0_1 (K .ret) 2 ([] : Rows)) (fun (y1 : Int) (y2 : Bool) => u11_0_2 (K (.exit 0)) x3 x4 y1 y2 x6) := r11_0_0g f50_0 f51_0 f52_0 α K Kn x3 x4 x5 x6
theorem t11_0_0 (α : Type) (K : Exit → St → Option α) : ∀ (n : Nat) (x3 : Rows) (x4 x5 : Int) (x6 : Rows), R11_0_0 α x3 x4 (u11_0_1 (K .ret) 2 ([] : Rows)) (fun (y1 : Int) (y2 : Bool) => u11_0_2 (K (.exit 0)) x3 x4 y1 y2 x6) n x5 = u11_0_0 (loopT (runM Tryz.prog E11_0 sh11 c11_0_15) td11_15 K n) x3 x4 x5 x6 := by
 intro n
 induction n with
 | zero => intros; rfl
 | succ n ih => intro x3 x4 x5 x6; exact (congrArg (fun kn => S11_0_0 α x3 x4 x5 kn (u11_0_1 (K .ret) 2 ([] : Rows)) (fun (y1 : Int) (y2 : Bool) => u11_0_2 (K (.exit 0)) x3 x4 y1 y2 x6)) (funext fun x5 => ih x3 x4 x5 x6)).trans (r11_0_0 α K (loopT (runM Tryz.prog E11_0 sh11 c11_0_15) td11_15 K n) x3 x4 x5 x6).symm
theorem m11_0_0 : ∀ (α : Type) (K : Exit → St → Option α), F11_0_0 L11_0_0 α K = p11_0_0.unc fun σ => loopT (runM Tryz.prog E11_0 sh11 c11_0_15) td11_15 K fuel σ := fun α K => funext fun x3 => funext fun x4 => funext fun x5 => funext fun x6 => t11_0_0 α K fuel x3 x4 x5 x6
abbrev Tf11_0 : Type 1 := (α : Type) → Rows → (Rows → Int → Option α) → Option α
def f11_0g (vL11_0_0 : TL11_0_0) (vf50_0 : Tf50_0) (vf52_0 : Tf52_0) (α : Type) (x1 : Rows) (k1 : Rows → Int → Option α) : Option α :=
 vf50_0 α ((List.length x1 : Nat) : Int)
 (fun x2 => cK (x2 != 0)
 (k1 ([] : Rows) x2)
 (vL11_0_0 α x1 ((List.length x1 : Nat) : Int)
 (k1 ([] : Rows) 2)
 (fun x10 x11 => vf52_0 α ((List.length x1 : Nat) : Int) x1
 (fun x13 x14 => flatK [x13]
 (cK (!x14)
 (k1 ([] : Rows) 8)
 (k1 x13 0)))) 0))
noncomputable def f11_0 (α : Type) (x1 : Rows) (k1 : Rows → Int → Option α) : Option α := f11_0g L11_0_0 f50_0 f52_0 α x1 k1
def pa11_0 : PT (List DV) := pA [pV false [dL]]
def Fn11_0 (v : Tf11_0) (α : Type) (k : List RV → Option α) : Rows → Option α := fun x1 => v α x1 (fun (y1 : Rows) (y2 : Int) => ur11_0_0 k y1 y2)
noncomputable def cm11_0g (vL11_0_0 : TL11_0_0) : MCode := (.seq (.region r11_2 [] (tO [1])) (.seq (.seq (.region r11_5 [] (tO [1, 4])) (.seq (.region r11_7 [] (tO [1, 4, 13])) (.cond (.tmp 13) (.seq (.region r11_10 [] (some ⟨[2, 3], true, [⟨false, 2, 0, 20002, 2⟩], []⟩)) .ret) .skip))) (.seq (.seq (.region r11_13 [] (tO [1, 15, 16, 17])) (.block 0 (.loop td11_15 [⟨p11_0_0, F11_0_0 vL11_0_0⟩] c11_0_15))) (.seq (.region r11_31 [] (tO [7, 8])) (.seq (.seq (.region r11_34 [] (tO [7, 33])) (.cond (.tmp 33) (.seq (.region r11_37 [] (some ⟨[2, 3], true, [⟨false, 2, 0, 20002, 2⟩], []⟩)) .ret) .skip)) (.seq (.region r11_39 [] (some ⟨[2, 3], true, [⟨false, 2, 0, 20002, 2⟩], []⟩)) .ret))))))
noncomputable def cm11_0 : MCode := cm11_0g L11_0_0
theorem gm11_0 : cm11_0.Good Tryz.prog E11_0 sh11 := ⟨trivial, ⟨⟨trivial, ⟨trivial, ⟨⟨trivial, trivial⟩, trivial⟩⟩⟩, ⟨⟨trivial, ⟨g11_0_15, m11_0_0, trivial⟩⟩, ⟨trivial, ⟨⟨trivial, ⟨⟨trivial, trivial⟩, trivial⟩⟩, ⟨trivial, trivial⟩⟩⟩⟩⟩⟩
theorem fm11_0g (vf50_0 : Tf50_0) (vf51_0 : Tf51_0) (vf52_0 : Tf52_0) (vL11_0_0 : TL11_0_0) (α : Type) (k : List RV → Option α) : Fn11_0 (f11_0g vL11_0_0 vf50_0 vf52_0) α k = pa11_0.unc fun ds => fnM Tryz.prog (E11_0g vf50_0 vf51_0 vf52_0) sh11 (cm11_0g vL11_0_0) rs11 k ds := by kernel_rfl
theorem fm11_0 : ∀ (α : Type) (k : List RV → Option α), Fn11_0 f11_0 α k = pa11_0.unc fun ds => fnM Tryz.prog E11_0 sh11 cm11_0 rs11 k ds := fm11_0g f50_0 f51_0 f52_0 L11_0_0
theorem is11 : FnIs Tryz.prog 11 nt11 tr11 tl11 cm11_0.erase rs11 := ⟨Tryz.f11, Tryz.func11, rfl, by kernel_rfl, by kernel_rfl, by kernel_rfl⟩
theorem io11_0 : InstOk Tryz.prog 11 nt11 ⟨pa11_0, Fn11_0 f11_0⟩ := inst_ok eo11_0 followsTry is11 ⟨⟨sh11, cm11_0, by kernel_rfl, gm11_0, fm11_0⟩⟩
abbrev nt3 : Nat := 36
def sh3 : List (Nat × List Sh) := []
def r3_2 : List AOper := [oO 2 (.mv (.const (.bool false)))]
def r3_5 : List AOper := [oO 7 (.call 9 []), oO 8 (.pure (oB (.unOp .not 4 (.tmp 7)) 4))]
def r3_8 : List AOper := [oO 2 (.mv (.const (.bool false)))]
def r3_11 : List AOper := [oM 9 0, oO 10 (.len (.tmp 9)), oO 11 (.call 10 [(.tmp 10)]), oO 12 (.pure (oB (.unOp .not 4 (.tmp 11)) 4))]
def r3_14 : List AOper := [oO 2 (.mv (.const (.bool true)))]
def r3_16 : List AOper := [oM 14 0, oO 15 (.call 12 [(.tmp 14)]), oO 16 (.call 11 [(.tmp 15)]), oM 13 16, oO 17 (.extract 0 (.tmp 13)), oO 18 (.extract 1 (.tmp 13)), oM 3 17, oM 4 18]
def r3_18 : List AOper := [oM 19 0, oO 20 (.call 13 [(.tmp 19)]), oM 5 20]
def r3_20 : List AOper := [oO 6 (.mv (.const (.slice none 0 0)))]
def r3_23 : List AOper := [oM 21 5, oO 22 (.bin .eql 3 (.tmp 21) (kI 0))]
def r3_25 : List AOper := [oM 24 0, oO 25 (.call 14 [(.tmp 24)]), oM 23 25, oO 26 (.extract 0 (.tmp 23)), oO 27 (.extract 1 (.tmp 23)), oM 6 26, oM 5 27]
def r3_27 : List AOper := [oM 28 4, oM 29 5, oO 30 (.bin .eql 3 (.tmp 28) (.tmp 29)), oM 31 30, oG 32 (.mv (.tmp 3)) 31 true, oG 33 (.mv (.tmp 6)) 31 true, oG 34 (.call 15 [(.tmp 32), (.tmp 33)]) 31 true, oO 35 (.pick (.tmp 31) (.tmp 34) (.const (.bool false))), oM 2 35]
def tr3 : List (Nat × Tidy) := [tT 0 [0], tT 1 [0, 8], tT 2 [2], tT 3 [0, 12], tT 4 [2], tT 5 [0, 3, 4], tT 6 [0, 3, 4, 5], tT 7 [0, 3, 4, 5, 6], tT 8 [0, 3, 4, 5, 6, 22], tT 9 [3, 4, 5, 6], tT 10 [2]]
def tl3 : List (Nat × Tidy) := []
def rs3 : List AResV := [.tmp 2]
def p3_0_0 : PT St := pS [sl 0 (aV false [(cD dL)]), sl 3 (aV false [(cRef 16)]), sl 4 (aV false [(cD (dI .i64))]), sl 5 (aV false [(cD (dI .i64))]), sl 6 (aV false [cNil])] [eOwn 16 2]
def u3_0_0 {β : Type} (g : St → β) : Rows → Int → Int → Rows → β := p3_0_0.unc g
def p3_0_1 : PT St := pS [sl 3 (aV false [(cRef 16)]), sl 4 (aV false [(cD (dI .i64))]), sl 5 (aV false [(cD (dI .i64))]), sl 6 (aV false [(cRef 25)])] [eOwn 16 2, eOwn 25 2]
def u3_0_1 {β : Type} (g : St → β) : Int → Int → Rows → Rows → β := p3_0_1.unc g
def p3_0_2 : PT St := pS [sl 0 (aV false [(cD dL)]), sl 3 (aV false [(cRef 16)]), sl 4 (aV false [(cD (dI .i64))]), sl 5 (aV false [(cD (dI .i64))]), sl 6 (aV false [cNil]), sl 22 (aV false [(cD dB)])] [eOwn 16 2]
def u3_0_2 {β : Type} (g : St → β) : Rows → Int → Int → Bool → Rows → β := p3_0_2.unc g
def pr3_0_0 : PT (List RV) := pRs [pR false [rD dB]]
def ur3_0_0 {β : Type} (g : List RV → β) : Bool → β := pr3_0_0.unc g
def E3_0g (vf9_0 : Tf9_0) (vf10_0 : Tf10_0) (vf12_0 : Tf12_0) (vf11_0 : Tf11_0) (vf13_0 : Tf13_0) (vf14_0 : Tf14_0) (vf15_0 : Tf15_0) : EnvK := EnvK.of [⟨9, nt9, [⟨pa9_0, Fn9_0 vf9_0⟩]⟩, ⟨10, nt10, [⟨pa10_0, Fn10_0 vf10_0⟩]⟩, ⟨12, nt12, [⟨pa12_0, Fn12_0 vf12_0⟩]⟩, ⟨11, nt11, [⟨pa11_0, Fn11_0 vf11_0⟩]⟩, ⟨13, nt13, [⟨pa13_0, Fn13_0 vf13_0⟩]⟩, ⟨14, nt14, [⟨pa14_0, Fn14_0 vf14_0⟩]⟩, ⟨15, nt15, [⟨pa15_0, Fn15_0 vf15_0⟩]⟩] noSeq
noncomputable def E3_0 : EnvK := E3_0g f9_0 f10_0 f12_0 f11_0 f13_0 f14_0 f15_0
theorem eo3_0 : E3_0.Ok Tryz.prog := EnvK.of_ok noSeq_ok ⟨⟨io9_0, trivial⟩, ⟨io10_0, trivial⟩, ⟨io12_0, trivial⟩, ⟨io11_0, trivial⟩, ⟨io13_0, trivial⟩, ⟨io14_0, trivial⟩, ⟨io15_0, trivial⟩, trivial⟩
noncomputable def c3_0_21g  : MCode := (.seq (.region r3_23 [] (tO [0, 3, 4, 5, 6, 22])) (.cond (.tmp 22) (.region r3_25 [] (tO [3, 4, 5, 6])) .skip))
noncomputable def c3_0_21 : MCode := c3_0_21g 
theorem g3_0_21 : c3_0_21.Good Tryz.prog E3_0 sh3 := ⟨trivial, ⟨trivial, trivial⟩⟩
--CODE 21 0
abbrev TJ3_0_0 : Type 1 := (α : Type) → Rows → Int → (Int → Rows → Option α) → (Bool → Option α) → Option α
def J3_0_0g (vf14_0 : Tf14_0) (α : Type) (x7 : Rows) (x9 : Int) (k1 : Int → Rows → Option α) (k2 : Bool → Option α) : Option α :=
 cK (x9 == 0)
 (vf14_0 α x7
 (fun x12 x13 => k1 x13 x12))
 (k2 (x9 == 0))
noncomputable def J3_0_0 (α : Type) (x7 : Rows) (x9 : Int) (k1 : Int → Rows → Option α) (k2 : Bool → Option α) : Option α := J3_0_0g f14_0 α x7 x9 k1 k2
def F3_0_0 (v : TJ3_0_0) (α : Type) (K : Exit → St → Option α) : Rows → Int → Int → Rows → Option α := fun x7 x8 x9 x10 => v α x7 x9 (fun (y1 : Int) (y2 : Rows) => u3_0_1 (K .normal) x8 y1 x10 y2) (fun (y1 : Bool) => u3_0_2 (K .normal) x7 x8 x9 y1 x10) 
theorem m3_0_0g (vf9_0 : Tf9_0) (vf10_0 : Tf10_0) (vf12_0 : Tf12_0) (vf11_0 : Tf11_0) (vf13_0 : Tf13_0) (vf14_0 : Tf14_0) (vf15_0 : Tf15_0)  (α : Type) (K : Exit → St → Option α) : F3_0_0 (J3_0_0g vf14_0) α K = p3_0_0.unc fun σ => runM Tryz.prog (E3_0g vf9_0 vf10_0 vf12_0 vf11_0 vf13_0 vf14_0 vf15_0) sh3 (c3_0_21g ) K σ := by kernel_rfl
theorem m3_0_0 : ∀ (α : Type) (K : Exit → St → Option α), F3_0_0 J3_0_0 α K = p3_0_0.unc fun σ => runM Tryz.prog E3_0 sh3 c3_0_21 K σ := m3_0_0g f9_0 f10_0 f12_0 f11_0 f13_0 f14_0 f15_0
abbrev Tf3_0 : Type 1 := (α : Type) → Rows → (Bool → Option α) → Option α
def f3_0g (vJ3_0_0 : TJ3_0_0) (vf10_0 : Tf10_0) (vf11_0 : Tf11_0) (vf12_0 : Tf12_0) (vf13_0 : Tf13_0) (vf15_0 : Tf15_0) (vf9_0 : Tf9_0) (α : Type) (x1 : Rows) (k1 : Bool → Option α) : Option α :=
 vf9_0 α 
 (vf10_0 α ((List.length x1 : Nat) : Int)
 (fun x2 => cK (!x2)
 (k1 true)
 (vf12_0 α x1
 (fun x3 => vf11_0 α x3
 (fun x4 x5 => flatK [x4]
 (vf13_0 α x1
 (fun x6 => vJ3_0_0 α x1 x6
 (fun x14 x15 => cK (x5 == x14)
 (vf15_0 α x4 x15
 (fun x18 => k1 x18))
 (k1 false))
 (fun x16 => cK (x5 == x6)
 (vf15_0 α x4 ([] : Rows)
 (fun x19 => k1 x19))
 (k1 false)))))))))
noncomputable def f3_0 (α : Type) (x1 : Rows) (k1 : Bool → Option α) : Option α := f3_0g J3_0_0 f10_0 f11_0 f12_0 f13_0 f15_0 f9_0 α x1 k1
def pa3_0 : PT (List DV) := pA [pV false [dL]]
def Fn3_0 (v : Tf3_0) (α : Type) (k : List RV → Option α) : Rows → Option α := fun x1 => v α x1 (fun (y1 : Bool) => ur3_0_0 k y1)
noncomputable def cm3_0g (vJ3_0_0 : TJ3_0_0) : MCode := (.seq (.region r3_2 [] (tO [0])) (.seq (.seq (.region r3_5 [] (tO [0, 8])) (.cond (.tmp 8) (.seq (.region r3_8 [] (tO [2])) .ret) .skip)) (.seq (.seq (.region r3_11 [] (tO [0, 12])) (.cond (.tmp 12) (.seq (.region r3_14 [] (tO [2])) .ret) .skip)) (.seq (.region r3_16 [] (tO [0, 3, 4])) (.seq (.region r3_18 [] (tO [0, 3, 4, 5])) (.seq (.region r3_20 [] (tO [0, 3, 4, 5, 6])) (.seq (.mark [⟨p3_0_0, F3_0_0 vJ3_0_0⟩] c3_0_21) (.seq (.region r3_27 [] (tO [2])) .ret))))))))
noncomputable def cm3_0 : MCode := cm3_0g J3_0_0
theorem gm3_0 : cm3_0.Good Tryz.prog E3_0 sh3 := ⟨trivial, ⟨⟨trivial, ⟨⟨trivial, trivial⟩, trivial⟩⟩, ⟨⟨trivial, ⟨⟨trivial, trivial⟩, trivial⟩⟩, ⟨trivial, ⟨trivial, ⟨trivial, ⟨⟨g3_0_21, m3_0_0, trivial⟩, ⟨trivial, trivial⟩⟩⟩⟩⟩⟩⟩⟩
theorem fm3_0g (vf9_0 : Tf9_0) (vf10_0 : Tf10_0) (vf12_0 : Tf12_0) (vf11_0 : Tf11_0) (vf13_0 : Tf13_0) (vf14_0 : Tf14_0) (vf15_0 : Tf15_0) (vJ3_0_0 : TJ3_0_0) (α : Type) (k : List RV → Option α) : Fn3_0 (f3_0g vJ3_0_0 vf10_0 vf11_0 vf12_0 vf13_0 vf15_0 vf9_0) α k = pa3_0.unc fun ds => fnM Tryz.prog (E3_0g vf9_0 vf10_0 vf12_0 vf11_0 vf13_0 vf14_0 vf15_0) sh3 (cm3_0g vJ3_0_0) rs3 k ds := by kernel_rfl
theorem fm3_0 : ∀ (α : Type) (k : List RV → Option α), Fn3_0 f3_0 α k = pa3_0.unc fun ds => fnM Tryz.prog E3_0 sh3 cm3_0 rs3 k ds := fm3_0g f9_0 f10_0 f12_0 f11_0 f13_0 f14_0 f15_0 J3_0_0
theorem is3 : FnIs Tryz.prog 3 nt3 tr3 tl3 cm3_0.erase rs3 := ⟨Tryz.f3, Tryz.func3, rfl, by kernel_rfl, by kernel_rfl, by kernel_rfl⟩
theorem io3_0 : InstOk Tryz.prog 3 nt3 ⟨pa3_0, Fn3_0 f3_0⟩ := inst_ok eo3_0 followsTry is3 ⟨⟨sh3, cm3_0, by kernel_rfl, gm3_0, fm3_0⟩⟩
end Go.AM.K
