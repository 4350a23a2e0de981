/- Printed by KGen. -/
import Derived.Test.YtehamglokkjipaaGreatAcX
import Derived.Test.YtehamglokkjipaaGreatKMa
namespace Go.AM.K
open Go.Proofs
set_option maxRecDepth 100000
set_option linter.unusedVariables false
abbrev nt45 : Nat := 10
def sh45 : List (Nat × List Sh) := []
def r45_2 : List AOper := [oO 4 (.mv (.const (.complex Go.FloatKind.f64 0 0)))]
def r45_4 : List AOper := [oM 5 0, oO 6 (.pure (oB (.convert 3 117 (.tmp 5)) 117)), oM 7 1, oO 8 (.pure (oB (.convert 3 117 (.tmp 7)) 117)), oO 9 (.pure (oB (.call { callee := .builtin .complex, args := #[(.tmp 6), (.tmp 8)], argTypes := #[117, 117] }) 43)), oM 4 9]
def tr45 : List (Nat × Tidy) := [tT 0 [0, 1], tT 1 [4]]
def tl45 : List (Nat × Tidy) := []
def rs45 : List AResV := [.tmp 4]
def pr45_0_0 : PT (List RV) := pRs [pR false [rD (dX .f64)]]
def ur45_0_0 {β : Type} (g : List RV → β) : Nat → Nat → β := pr45_0_0.unc g
def E45_0g  : EnvK := EnvK.of [] noSeq
noncomputable def E45_0 : EnvK := E45_0g 
theorem eo45_0 : E45_0.Ok Tryz.prog := EnvK.of_ok noSeq_ok trivial
abbrev Tf45_0 : Type 1 := (α : Type) → Int → Int → (Nat → Nat → Option α) → Option α
def f45_0g  (α : Type) (x1 x2 : Int) (k1 : Nat → Nat → Option α) : Option α :=
 k1 (FloatKind.nearest .f64 x1) (FloatKind.nearest .f64 x2)
noncomputable def f45_0 (α : Type) (x1 x2 : Int) (k1 : Nat → Nat → Option α) : Option α := f45_0g  α x1 x2 k1
def pa45_0 : PT (List DV) := pA [pV false [(dI .i64)], pV false [(dI .i64)]]
def Fn45_0 (v : Tf45_0) (α : Type) (k : List RV → Option α) : Int → Int → Option α := fun x1 x2 => v α x1 x2 (fun (y1 : Nat) (y2 : Nat) => ur45_0_0 k y1 y2)
noncomputable def cm45_0g  : MCode := (.seq (.region r45_2 [] (tO [0, 1])) (.seq (.region r45_4 [] (tO [4])) .ret))
noncomputable def cm45_0 : MCode := cm45_0g 
theorem gm45_0 : cm45_0.Good Tryz.prog E45_0 sh45 := ⟨trivial, ⟨trivial, trivial⟩⟩
theorem fm45_0g   (α : Type) (k : List RV → Option α) : Fn45_0 (f45_0g ) α k = pa45_0.unc fun ds => fnM Tryz.prog (E45_0g ) sh45 (cm45_0g ) rs45 k ds := by kernel_rfl
theorem fm45_0 : ∀ (α : Type) (k : List RV → Option α), Fn45_0 f45_0 α k = pa45_0.unc fun ds => fnM Tryz.prog E45_0 sh45 cm45_0 rs45 k ds := fm45_0g 
theorem is45 : FnIs Tryz.prog 45 nt45 tr45 tl45 cm45_0.erase rs45 := ⟨Tryz.f45, Tryz.func45, rfl, by kernel_rfl, by kernel_rfl, by kernel_rfl⟩
theorem io45_0 : InstOk Tryz.prog 45 nt45 ⟨pa45_0, Fn45_0 f45_0⟩ := inst_ok eo45_0 followsTry is45 ⟨⟨sh45, cm45_0, by kernel_rfl, gm45_0, fm45_0⟩⟩
abbrev nt91 : Nat := 14
def sh91 : List (Nat × List Sh) := []
def r91_2 : List AOper := [oO 4 (.mv (kI 0))]
def r91_4 : List AOper := [oM 5 0, oM 6 1, oO 7 (.bin .rem 3 (.tmp 5) (.tmp 6)), oM 0 7]
def r91_7 : List AOper := [oM 8 0, oO 9 (.bin .lss 3 (.tmp 8) (kI 0))]
def r91_9 : List AOper := [oM 10 0, oM 11 1, oO 12 (.bin .add 3 (.tmp 10) (.tmp 11)), oM 0 12]
def r91_11 : List AOper := [oM 13 0, oM 4 13]
def tr91 : List (Nat × Tidy) := [tT 0 [0, 1], tT 1 [0, 1], tT 2 [0, 1, 9], tT 3 [0], tT 4 [4]]
def tl91 : List (Nat × Tidy) := []
def rs91 : List AResV := [.tmp 4]
def pr91_0_0 : PT (List RV) := pRs [pR false [rD (dI .i64)]]
def ur91_0_0 {β : Type} (g : List RV → β) : Int → β := pr91_0_0.unc g
def E91_0g  : EnvK := EnvK.of [] noSeq
noncomputable def E91_0 : EnvK := E91_0g 
theorem eo91_0 : E91_0.Ok Tryz.prog := EnvK.of_ok noSeq_ok trivial
abbrev Tf91_0 : Type 1 := (α : Type) → Int → Int → (Int → Option α) → Option α
def f91_0g  (α : Type) (x1 x2 : Int) (k1 : Int → Option α) : Option α :=
 gK (x2 != 0) (cK (decide ((Int.tmod x1 x2) < 0))
 (k1 (w64 ((Int.tmod x1 x2) + x2)))
 (k1 (Int.tmod x1 x2)))
noncomputable def f91_0 (α : Type) (x1 x2 : Int) (k1 : Int → Option α) : Option α := f91_0g  α x1 x2 k1
def pa91_0 : PT (List DV) := pA [pV false [(dI .i64)], pV false [(dI .i64)]]
def Fn91_0 (v : Tf91_0) (α : Type) (k : List RV → Option α) : Int → Int → Option α := fun x1 x2 => v α x1 x2 (fun (y1 : Int) => ur91_0_0 k y1)
noncomputable def cm91_0g  : MCode := (.seq (.region r91_2 [] (tO [0, 1])) (.seq (.region r91_4 [] (tO [0, 1])) (.seq (.seq (.region r91_7 [] (tO [0, 1, 9])) (.cond (.tmp 9) (.region r91_9 [] (tO [0])) .skip)) (.seq (.region r91_11 [] (tO [4])) .ret))))
noncomputable def cm91_0 : MCode := cm91_0g 
theorem gm91_0 : cm91_0.Good Tryz.prog E91_0 sh91 := ⟨trivial, ⟨trivial, ⟨⟨trivial, ⟨trivial, trivial⟩⟩, ⟨trivial, trivial⟩⟩⟩⟩
theorem fm91_0g   (α : Type) (k : List RV → Option α) : Fn91_0 (f91_0g ) α k = pa91_0.unc fun ds => fnM Tryz.prog (E91_0g ) sh91 (cm91_0g ) rs91 k ds := by kernel_rfl
theorem fm91_0 : ∀ (α : Type) (k : List RV → Option α), Fn91_0 f91_0 α k = pa91_0.unc fun ds => fnM Tryz.prog E91_0 sh91 cm91_0 rs91 k ds := fm91_0g 
theorem is91 : FnIs Tryz.prog 91 nt91 tr91 tl91 cm91_0.erase rs91 := ⟨Tryz.f91, Tryz.func91, rfl, by kernel_rfl, by kernel_rfl, by kernel_rfl⟩
theorem io91_0 : InstOk Tryz.prog 91 nt91 ⟨pa91_0, Fn91_0 f91_0⟩ := inst_ok eo91_0 followsTry is91 ⟨⟨sh91, cm91_0, by kernel_rfl, gm91_0, fm91_0⟩⟩
abbrev nt76 : Nat := 16
def sh76 : List (Nat × List Sh) := []
def r76_2 : List AOper := [oO 4 (.mv (kI 0))]
def r76_4 : List AOper := [oM 6 0, oM 7 1, oO 8 (.bin .quo 3 (.tmp 6) (.tmp 7)), oM 5 8]
def r76_7 : List AOper := [oM 9 0, oM 10 1, oO 11 (.bin .rem 3 (.tmp 9) (.tmp 10)), oO 12 (.bin .lss 3 (.tmp 11) (kI 0))]
def r76_9 : List AOper := [oM 13 5, oO 14 (.bin .sub 3 (.tmp 13) (kI 1)), oM 5 14]
def r76_11 : List AOper := [oM 15 5, oM 4 15]
def tr76 : List (Nat × Tidy) := [tT 0 [0, 1], tT 1 [0, 1, 5], tT 2 [5, 12], tT 3 [5], tT 4 [4]]
def tl76 : List (Nat × Tidy) := []
def rs76 : List AResV := [.tmp 4]
def pr76_0_0 : PT (List RV) := pRs [pR false [rD (dI .i64)]]
def ur76_0_0 {β : Type} (g : List RV → β) : Int → β := pr76_0_0.unc g
def E76_0g  : EnvK := EnvK.of [] noSeq
noncomputable def E76_0 : EnvK := E76_0g 
theorem eo76_0 : E76_0.Ok Tryz.prog := EnvK.of_ok noSeq_ok trivial
abbrev Tf76_0 : Type 1 := (α : Type) → Int → Int → (Int → Option α) → Option α
def f76_0g  (α : Type) (x1 x2 : Int) (k1 : Int → Option α) : Option α :=
 gK (x2 != 0) (gK (x2 != 0) (cK (decide ((Int.tmod x1 x2) < 0))
 (k1 (w64 ((w64 (Int.tdiv x1 x2)) - 1)))
 (k1 (w64 (Int.tdiv x1 x2)))))
noncomputable def f76_0 (α : Type) (x1 x2 : Int) (k1 : Int → Option α) : Option α := f76_0g  α x1 x2 k1
def pa76_0 : PT (List DV) := pA [pV false [(dI .i64)], pV false [(dI .i64)]]
def Fn76_0 (v : Tf76_0) (α : Type) (k : List RV → Option α) : Int → Int → Option α := fun x1 x2 => v α x1 x2 (fun (y1 : Int) => ur76_0_0 k y1)
noncomputable def cm76_0g  : MCode := (.seq (.region r76_2 [] (tO [0, 1])) (.seq (.region r76_4 [] (tO [0, 1, 5])) (.seq (.seq (.region r76_7 [] (tO [5, 12])) (.cond (.tmp 12) (.region r76_9 [] (tO [5])) .skip)) (.seq (.region r76_11 [] (tO [4])) .ret))))
noncomputable def cm76_0 : MCode := cm76_0g 
theorem gm76_0 : cm76_0.Good Tryz.prog E76_0 sh76 := ⟨trivial, ⟨trivial, ⟨⟨trivial, ⟨trivial, trivial⟩⟩, ⟨trivial, trivial⟩⟩⟩⟩
theorem fm76_0g   (α : Type) (k : List RV → Option α) : Fn76_0 (f76_0g ) α k = pa76_0.unc fun ds => fnM Tryz.prog (E76_0g ) sh76 (cm76_0g ) rs76 k ds := by kernel_rfl
theorem fm76_0 : ∀ (α : Type) (k : List RV → Option α), Fn76_0 f76_0 α k = pa76_0.unc fun ds => fnM Tryz.prog E76_0 sh76 cm76_0 rs76 k ds := fm76_0g 
theorem is76 : FnIs Tryz.prog 76 nt76 tr76 tl76 cm76_0.erase rs76 := ⟨Tryz.f76, Tryz.func76, rfl, by kernel_rfl, by kernel_rfl, by kernel_rfl⟩
theorem io76_0 : InstOk Tryz.prog 76 nt76 ⟨pa76_0, Fn76_0 f76_0⟩ := inst_ok eo76_0 followsTry is76 ⟨⟨sh76, cm76_0, by kernel_rfl, gm76_0, fm76_0⟩⟩
abbrev nt111 : Nat := 20
def sh111 : List (Nat × List Sh) := []
def r111_2 : List AOper := [oO 8 (.alloc [(cI 0), (cI 0)])]
def r111_4 : List AOper := [oM 9 0, oM 10 3, oM 11 2, oO 12 (.bin .sub 3 (.tmp 10) (.tmp 11)), oO 13 (.bin .mul 3 (.tmp 9) (.tmp 12)), oM 14 1, oM 15 2, oO 16 (.bin .mul 3 (.tmp 14) (.tmp 15)), oO 17 (.bin .add 3 (.tmp 13) (.tmp 16)), oM 18 3, oO 19 (.build [(cI 0), (cI 0)] [(0, 1, (.tmp 17)), (1, 1, (.tmp 18))]), oD (.store 2 (.tmp 8) (.tmp 19))]
def tr111 : List (Nat × Tidy) := [tT 0 [0, 1, 2, 3, 8], tT 1 [8]]
def tl111 : List (Nat × Tidy) := []
def rs111 : List AResV := [.cell 8 true 2]
def pr111_0_0 : PT (List RV) := pRs [pR true [rD (dI .i64), rD (dI .i64)]]
def ur111_0_0 {β : Type} (g : List RV → β) : Int → Int → β := pr111_0_0.unc g
def E111_0g  : EnvK := EnvK.of [] noSeq
noncomputable def E111_0 : EnvK := E111_0g 
theorem eo111_0 : E111_0.Ok Tryz.prog := EnvK.of_ok noSeq_ok trivial
abbrev Tf111_0 : Type 1 := (α : Type) → Int → Int → Int → Int → (Int → Int → Option α) → Option α
def f111_0g  (α : Type) (x1 x2 x3 x4 : Int) (k1 : Int → Int → Option α) : Option α :=
 k1 (w64 ((w64 (x1 * (w64 (x4 - x3)))) + (w64 (x2 * x3)))) x4
noncomputable def f111_0 (α : Type) (x1 x2 x3 x4 : Int) (k1 : Int → Int → Option α) : Option α := f111_0g  α x1 x2 x3 x4 k1
def pa111_0 : PT (List DV) := pA [pV false [(dI .i64)], pV false [(dI .i64)], pV false [(dI .i64)], pV false [(dI .i64)]]
def Fn111_0 (v : Tf111_0) (α : Type) (k : List RV → Option α) : Int → Int → Int → Int → Option α := fun x1 x2 x3 x4 => v α x1 x2 x3 x4 (fun (y1 : Int) (y2 : Int) => ur111_0_0 k y1 y2)
noncomputable def cm111_0g  : MCode := (.seq (.region r111_2 [] (tO [0, 1, 2, 3, 8])) (.seq (.region r111_4 [] (tO [8])) .ret))
noncomputable def cm111_0 : MCode := cm111_0g 
theorem gm111_0 : cm111_0.Good Tryz.prog E111_0 sh111 := ⟨trivial, ⟨trivial, trivial⟩⟩
theorem fm111_0g   (α : Type) (k : List RV → Option α) : Fn111_0 (f111_0g ) α k = pa111_0.unc fun ds => fnM Tryz.prog (E111_0g ) sh111 (cm111_0g ) rs111 k ds := by kernel_rfl
theorem fm111_0 : ∀ (α : Type) (k : List RV → Option α), Fn111_0 f111_0 α k = pa111_0.unc fun ds => fnM Tryz.prog E111_0 sh111 cm111_0 rs111 k ds := fm111_0g 
theorem is111 : FnIs Tryz.prog 111 nt111 tr111 tl111 cm111_0.erase rs111 := ⟨Tryz.f111, Tryz.func111, rfl, by kernel_rfl, by kernel_rfl, by kernel_rfl⟩
theorem io111_0 : InstOk Tryz.prog 111 nt111 ⟨pa111_0, Fn111_0 f111_0⟩ := inst_ok eo111_0 followsTry is111 ⟨⟨sh111, cm111_0, by kernel_rfl, gm111_0, fm111_0⟩⟩
abbrev nt75 : Nat := 25
def sh75 : List (Nat × List Sh) := [(9, [.sl]), (14, [.sl]), (17, [.int .i64]), (18, [.int .i64])]
def r75_2 : List AOper := [oO 2 (.box (.tmp 0)), oO 4 (.mv (kI 0))]
def r75_4 : List AOper := [oO 5 (.mv (kI 0))]
def td75_7 : Option Tidy := (some ⟨[1, 2, 5], true, [⟨true, 2, 2, 30202, 1⟩, ⟨true, 2, 3, 30203, 1⟩, ⟨true, 2, 4, 30204, 1⟩], []⟩)
def r75_10 : List AOper := [oM 6 5, oO 7 (.bin .add 3 (.tmp 6) (kI 1)), oO 8 (.faddr 2 (.tmp 2)), oO 9 (.load false 1 (.tmp 8)), oO 10 (.len (.tmp 9)), oO 11 (.bin .lss 3 (.tmp 7) (.tmp 10)), oM 12 11, oG 13 (.faddr 2 (.tmp 2)) 12 true, oG 14 (.load false 1 (.tmp 13)) 12 true, oG 15 (.mv (.tmp 5)) 12 true, oG 16 (.bin .add 3 (.tmp 15) (kI 1)) 12 true, oG 17 (.iaddr 1 none (.tmp 14) (.tmp 16)) 12 true, oG 18 (.load false 1 (.tmp 17)) 12 true, oG 19 (.mv (.tmp 1)) 12 true, oG 20 (.bin .leq 3 (.tmp 18) (.tmp 19)) 12 true, oO 21 (.pick (.tmp 12) (.tmp 20) (.const (.bool false)))]
def r75_13 : List AOper := [oM 22 5, oO 23 (.bin .add 3 (.tmp 22) (kI 1)), oM 5 23]
def r75_15 : List AOper := [oM 24 5, oM 4 24]
def tr75 : List (Nat × Tidy) := [tT 0 [1, 2], tT 1 [1, 2, 5], tT 2 [1, 2, 5, 21], tT 3 [1, 2, 5], tT 4 [4]]
def tl75 : List (Nat × Tidy) := [(2, ⟨[1, 2, 5], true, [⟨true, 2, 2, 30202, 1⟩, ⟨true, 2, 3, 30203, 1⟩, ⟨true, 2, 4, 30204, 1⟩], []⟩)]
def rs75 : List AResV := [.tmp 4]
def p75_0_0 : PT St := pS [sl 1 (aV false [(cD (dI .i64))]), sl 2 (aV false [(cPtr 2 0)]), sl 5 (aV false [(cD (dI .i64))])] [eBox 2 [(cD dS), (cD (dI .i64)), (cD dL), (cD dL), (cD dL), (cD (dI .i64)), (cD (dI .i64))]]
def u75_0_0 {β : Type} (g : St → β) : Int → Int → ByteArray → Int → Rows → Rows → Rows → Int → Int → β := p75_0_0.unc g
def p75_0_1 : PT St := pS [sl 1 (aV false [(cD (dI .i64))]), sl 2 (aV false [(cPtr 2 0)]), sl 5 (aV false [(cD (dI .i64))]), sl 21 (aV false [(cD dB)])] [eBox 2 [(cD dS), (cD (dI .i64)), (cD dL), (cD dL), (cD dL), (cD (dI .i64)), (cD (dI .i64))]]
def u75_0_1 {β : Type} (g : St → β) : Int → Int → Bool → ByteArray → Int → Rows → Rows → Rows → Int → Int → β := p75_0_1.unc g
def pr75_0_0 : PT (List RV) := pRs [pR false [rD (dI .i64)]]
def ur75_0_0 {β : Type} (g : List RV → β) : Int → β := pr75_0_0.unc g
def E75_0g  : EnvK := EnvK.of [] noSeq
noncomputable def E75_0 : EnvK := E75_0g 
theorem eo75_0 : E75_0.Ok Tryz.prog := EnvK.of_ok noSeq_ok trivial
noncomputable def c75_0_7g  : MCode := (.seq (.seq (.region r75_10 [] (tO [1, 2, 5, 21])) (.cond (.tmp 21) .skip (.exit 0))) (.block 1 (.region r75_13 [] (tO [1, 2, 5]))))
noncomputable def c75_0_7 : MCode := c75_0_7g 
theorem g75_0_7 : c75_0_7.Good Tryz.prog E75_0 sh75 := ⟨⟨trivial, ⟨trivial, trivial⟩⟩, trivial⟩
--CODE 7 0
def S75_0_0g  (α : Type) (x9 : Int) (x13 : Rows) (x10 : Int) (kn : Int → Option α) (k1 : Int → Bool → Option α) : Option α :=
 cK (decide ((w64 (x10 + 1)) < ((List.length x13 : Nat) : Int)))
 (rowK x13 (w64 (x10 + 1)) [.int .i64]
 (fun x19 => cK (decide (x19 ≤ x9))
 (kn (w64 (x10 + 1)))
 (k1 x10 (decide (x19 ≤ x9)))))
 (k1 x10 false)
noncomputable def S75_0_0 (α : Type) (x9 : Int) (x13 : Rows) (x10 : Int) (kn : Int → Option α) (k1 : Int → Bool → Option α) : Option α := S75_0_0g  α x9 x13 x10 kn k1
noncomputable def R75_0_0 (α : Type) (x9 : Int) (x13 : Rows) (k1 : Int → Bool → Option α) : Nat → Int → Option α
 | 0, _ => none
 | n + 1, x10 => S75_0_0 α x9 x13 x10 (R75_0_0 α x9 x13 k1 n) k1
noncomputable def L75_0_0 (α : Type) (x9 : Int) (x13 : Rows) (k1 : Int → Bool → Option α) (x10 : Int) : Option α := R75_0_0 α x9 x13 k1 fuel x10
abbrev TL75_0_0 : Type 1 := (α : Type) → Int → Rows → (Int → Bool → Option α) → Int → Option α
def F75_0_0 (v : TL75_0_0) (α : Type) (K : Exit → St → Option α) : Int → Int → ByteArray → Int → Rows → Rows → Rows → Int → Int → Option α := fun x9 x10 x11 x12 x13 x14 x15 x16 x17 => v α x9 x13 (fun (y1 : Int) (y2 : Bool) => u75_0_1 (K (.exit 0)) x9 y1 y2 x11 x12 x13 x14 x15 x16 x17) x10
theorem r75_0_0g   (α : Type) (K : Exit → St → Option α) (Kn : St → Option α) (x9 x10 : Int) (x11 : ByteArray) (x12 : Int) (x13 x14 x15 : Rows) (x16 x17 : Int) : u75_0_0 (fun σ => runM Tryz.prog (E75_0g ) sh75 (c75_0_7g ) (thenK (fun σ => tidyK td75_7 σ Kn) K) σ) x9 x10 x11 x12 x13 x14 x15 x16 x17 = S75_0_0g  α x9 x13 x10 (fun x10 => u75_0_0 Kn x9 x10 x11 x12 x13 x14 x15 x16 x17) (fun (y1 : Int) (y2 : Bool) => u75_0_1 (K (.exit 0)) x9 y1 y2 x11 x12 x13 x14 x15 x16 x17) := by kernel_rfl
theorem r75_0_0 (α : Type) (K : Exit → St → Option α) (Kn : St → Option α) (x9 x10 : Int) (x11 : ByteArray) (x12 : Int) (x13 x14 x15 : Rows) (x16 x17 : Int) : u75_0_0 (fun σ => runM Tryz.prog E75_0 sh75 c75_0_7 (thenK (fun σ => tidyK td75_7 σ Kn) K) σ) x9 x10 x11 x12 x13 x14 x15 x16 x17 = S75_0_0 α x9 x13 x10 (fun x10 => u75_0_0 Kn x9 x10 x11 x12 x13 x14 x15 x16 x17) (fun (y1 : Int) (y2 : Bool) => u75_0_1 (K (.exit 0)) x9 y1 y2 x11 x12 x13 x14 x15 x16 x17) := r75_0_0g  α K Kn x9 x10 x11 x12 x13 x14 x15 x16 x17
theorem t75_0_0 (α : Type) (K : Exit → St → Option α) : ∀ (n : Nat) (x9 x10 : Int) (x11 : ByteArray) (x12 : Int) (x13 x14 x15 : Rows) (x16 x17 : Int), R75_0_0 α x9 x13 (fun (y1 : Int) (y2 : Bool) => u75_0_1 (K (.exit 0)) x9 y1 y2 x11 x12 x13 x14 x15 x16 x17) n x10 = u75_0_0 (loopT (runM Tryz.prog E75_0 sh75 c75_0_7) td75_7 K n) x9 x10 x11 x12 x13 x14 x15 x16 x17 := by
 intro n
 induction n with
 | zero => intros; rfl
 | succ n ih => intro x9 x10 x11 x12 x13 x14 x15 x16 x17; exact (congrArg (fun kn => S75_0_0 α x9 x13 x10 kn (fun (y1 : Int) (y2 : Bool) => u75_0_1 (K (.exit 0)) x9 y1 y2 x11 x12 x13 x14 x15 x16 x17)) (funext fun x10 => ih x9 x10 x11 x12 x13 x14 x15 x16 x17)).trans (r75_0_0 α K (loopT (runM Tryz.prog E75_0 sh75 c75_0_7) td75_7 K n) x9 x10 x11 x12 x13 x14 x15 x16 x17).symm
theorem m75_0_0 : ∀ (α : Type) (K : Exit → St → Option α), F75_0_0 L75_0_0 α K = p75_0_0.unc fun σ => loopT (runM Tryz.prog E75_0 sh75 c75_0_7) td75_7 K fuel σ := fun α K => funext fun x9 => funext fun x10 => funext fun x11 => funext fun x12 => funext fun x13 => funext fun x14 => funext fun x15 => funext fun x16 => funext fun x17 => t75_0_0 α K fuel x9 x10 x11 x12 x13 x14 x15 x16 x17
abbrev Tf75_0 : Type 1 := (α : Type) → ByteArray → Int → Rows → Rows → Rows → Int → Int → Int → (Int → Option α) → Option α
def f75_0g (vL75_0_0 : TL75_0_0) (α : Type) (x1 : ByteArray) (x2 : Int) (x3 x4 x5 : Rows) (x6 x7 x8 : Int) (k1 : Int → Option α) : Option α :=
 vL75_0_0 α x8 x3
 (fun x20 x21 => k1 x20) 0
noncomputable def f75_0 (α : Type) (x1 : ByteArray) (x2 : Int) (x3 x4 x5 : Rows) (x6 x7 x8 : Int) (k1 : Int → Option α) : Option α := f75_0g L75_0_0 α x1 x2 x3 x4 x5 x6 x7 x8 k1
def pa75_0 : PT (List DV) := pA [pV true [dS, (dI .i64), dL, dL, dL, (dI .i64), (dI .i64)], pV false [(dI .i64)]]
def Fn75_0 (v : Tf75_0) (α : Type) (k : List RV → Option α) : ByteArray → Int → Rows → Rows → Rows → Int → Int → Int → Option α := fun x1 x2 x3 x4 x5 x6 x7 x8 => v α x1 x2 x3 x4 x5 x6 x7 x8 (fun (y1 : Int) => ur75_0_0 k y1)
noncomputable def cm75_0g (vL75_0_0 : TL75_0_0) : MCode := (.seq (.region r75_2 [] (tO [1, 2])) (.seq (.region r75_4 [] (tO [1, 2, 5])) (.seq (.block 0 (.loop td75_7 [⟨p75_0_0, F75_0_0 vL75_0_0⟩] c75_0_7)) (.seq (.region r75_15 [] (tO [4])) .ret))))
noncomputable def cm75_0 : MCode := cm75_0g L75_0_0
theorem gm75_0 : cm75_0.Good Tryz.prog E75_0 sh75 := ⟨trivial, ⟨trivial, ⟨⟨g75_0_7, m75_0_0, trivial⟩, ⟨trivial, trivial⟩⟩⟩⟩
theorem fm75_0g  (vL75_0_0 : TL75_0_0) (α : Type) (k : List RV → Option α) : Fn75_0 (f75_0g vL75_0_0) α k = pa75_0.unc fun ds => fnM Tryz.prog (E75_0g ) sh75 (cm75_0g vL75_0_0) rs75 k ds := by kernel_rfl
theorem fm75_0 : ∀ (α : Type) (k : List RV → Option α), Fn75_0 f75_0 α k = pa75_0.unc fun ds => fnM Tryz.prog E75_0 sh75 cm75_0 rs75 k ds := fm75_0g L75_0_0
theorem is75 : FnIs Tryz.prog 75 nt75 tr75 tl75 cm75_0.erase rs75 := ⟨Tryz.f75, Tryz.func75, rfl, by kernel_rfl, by kernel_rfl, by kernel_rfl⟩
theorem io75_0 : InstOk Tryz.prog 75 nt75 ⟨pa75_0, Fn75_0 f75_0⟩ := inst_ok eo75_0 followsTry is75 ⟨⟨sh75, cm75_0, by kernel_rfl, gm75_0, fm75_0⟩⟩
abbrev nt71 : Nat := 21
def sh71 : List (Nat × List Sh) := []
def r71_2 : List AOper := [oO 4 (.mv (.const (.bool false)))]
def r71_4 : List AOper := [oM 5 0, oO 6 (.pure (oB (.call { callee := .builtin .real, args := #[(.tmp 5)], argTypes := #[43] }) 117)), oO 7 (.pure (oB (.call { callee := .value (.func 110), args := #[(.tmp 6)], argTypes := #[117] }) 164)), oM 8 1, oO 9 (.pure (oB (.call { callee := .builtin .real, args := #[(.tmp 8)], argTypes := #[43] }) 117)), oO 10 (.pure (oB (.call { callee := .value (.func 110), args := #[(.tmp 9)], argTypes := #[117] }) 164)), oO 11 (.bin .eql 164 (.tmp 7) (.tmp 10)), oM 12 11, oG 13 (.mv (.tmp 0)) 12 true, oG 14 (.pure (oB (.call { callee := .builtin .imag, args := #[(.tmp 13)], argTypes := #[43] }) 117)) 12 true, oG 15 (.pure (oB (.call { callee := .value (.func 110), args := #[(.tmp 14)], argTypes := #[117] }) 164)) 12 true, oG 16 (.mv (.tmp 1)) 12 true, oG 17 (.pure (oB (.call { callee := .builtin .imag, args := #[(.tmp 16)], argTypes := #[43] }) 117)) 12 true, oG 18 (.pure (oB (.call { callee := .value (.func 110), args := #[(.tmp 17)], argTypes := #[117] }) 164)) 12 true, oG 19 (.bin .eql 164 (.tmp 15) (.tmp 18)) 12 true, oO 20 (.pick (.tmp 12) (.tmp 19) (.const (.bool false))), oM 4 20]
def tr71 : List (Nat × Tidy) := [tT 0 [0, 1], tT 1 [4]]
def tl71 : List (Nat × Tidy) := []
def rs71 : List AResV := [.tmp 4]
def pr71_0_0 : PT (List RV) := pRs [pR false [rD dB]]
def ur71_0_0 {β : Type} (g : List RV → β) : Bool → β := pr71_0_0.unc g
def E71_0g  : EnvK := EnvK.of [] noSeq
noncomputable def E71_0 : EnvK := E71_0g 
theorem eo71_0 : E71_0.Ok Tryz.prog := EnvK.of_ok noSeq_ok trivial
abbrev Tf71_0 : Type 1 := (α : Type) → Nat → Nat → Nat → Nat → (Bool → Option α) → Option α
def f71_0g  (α : Type) (x1 x2 x3 x4 : Nat) (k1 : Bool → Option α) : Option α :=
 cK (((x1 : Nat) : Int) == ((x3 : Nat) : Int))
 (k1 (((x2 : Nat) : Int) == ((x4 : Nat) : Int)))
 (k1 false)
noncomputable def f71_0 (α : Type) (x1 x2 x3 x4 : Nat) (k1 : Bool → Option α) : Option α := f71_0g  α x1 x2 x3 x4 k1
def pa71_0 : PT (List DV) := pA [pV false [(dX .f64)], pV false [(dX .f64)]]
def Fn71_0 (v : Tf71_0) (α : Type) (k : List RV → Option α) : Nat → Nat → Nat → Nat → Option α := fun x1 x2 x3 x4 => v α x1 x2 x3 x4 (fun (y1 : Bool) => ur71_0_0 k y1)
noncomputable def cm71_0g  : MCode := (.seq (.region r71_2 [] (tO [0, 1])) (.seq (.region r71_4 [] (tO [4])) .ret))
noncomputable def cm71_0 : MCode := cm71_0g 
theorem gm71_0 : cm71_0.Good Tryz.prog E71_0 sh71 := ⟨trivial, ⟨trivial, trivial⟩⟩
theorem fm71_0g   (α : Type) (k : List RV → Option α) : Fn71_0 (f71_0g ) α k = pa71_0.unc fun ds => fnM Tryz.prog (E71_0g ) sh71 (cm71_0g ) rs71 k ds := by kernel_rfl
theorem fm71_0 : ∀ (α : Type) (k : List RV → Option α), Fn71_0 f71_0 α k = pa71_0.unc fun ds => fnM Tryz.prog E71_0 sh71 cm71_0 rs71 k ds := fm71_0g 
theorem is71 : FnIs Tryz.prog 71 nt71 tr71 tl71 cm71_0.erase rs71 := ⟨Tryz.f71, Tryz.func71, rfl, by kernel_rfl, by kernel_rfl, by kernel_rfl⟩
theorem io71_0 : InstOk Tryz.prog 71 nt71 ⟨pa71_0, Fn71_0 f71_0⟩ := inst_ok eo71_0 followsTry is71 ⟨⟨sh71, cm71_0, by kernel_rfl, gm71_0, fm71_0⟩⟩
abbrev nt69 : Nat := 24
def sh69 : List (Nat × List Sh) := []
def r69_2 : List AOper := [oO 2 (.mv (.const (.bool false)))]
def r69_5 : List AOper := [oM 3 0, oM 4 0, oO 5 (.bin .neq 117 (.tmp 3) (.tmp 4)), oM 6 5, oG 7 (.mv (.tmp 0)) 6 false, oG 8 (.mv (.tmp 0)) 6 false, oG 9 (.bin .sub 117 (.tmp 7) (.tmp 8)) 6 false, oG 10 (.bin .neq 117 (.tmp 9) (.const (.float Go.FloatKind.f64 0))) 6 false, oO 11 (.pick (.tmp 6) (.const (.bool true)) (.tmp 10))]
def r69_8 : List AOper := [oO 2 (.mv (.const (.bool false)))]
def r69_11 : List AOper := [oM 12 0, oO 13 (.bin .geq 117 (.tmp 12) (.const (.float Go.FloatKind.f64 14069741636278059008))), oM 14 13, oG 15 (.mv (.tmp 0)) 14 true, oG 16 (.bin .leq 117 (.tmp 15) (.const (.float Go.FloatKind.f64 4846369599423283200))) 14 true, oO 17 (.pick (.tmp 14) (.tmp 16) (.const (.bool false))), oO 18 (.pure (oB (.unOp .not 4 (.tmp 17)) 4))]
def r69_14 : List AOper := [oO 2 (.mv (.const (.bool true)))]
def r69_16 : List AOper := [oM 19 0, oO 20 (.pure (oB (.convert 117 3 (.tmp 19)) 3)), oO 21 (.pure (oB (.convert 3 117 (.tmp 20)) 117)), oM 22 0, oO 23 (.bin .eql 117 (.tmp 21) (.tmp 22)), oM 2 23]
def tr69 : List (Nat × Tidy) := [tT 0 [0], tT 1 [0, 11], tT 2 [2], tT 3 [0, 18], tT 4 [2], tT 5 [2]]
def tl69 : List (Nat × Tidy) := []
def rs69 : List AResV := [.tmp 2]
def pr69_0_0 : PT (List RV) := pRs [pR false [rD dB]]
def ur69_0_0 {β : Type} (g : List RV → β) : Bool → β := pr69_0_0.unc g
def E69_0g  : EnvK := EnvK.of [] noSeq
noncomputable def E69_0 : EnvK := E69_0g 
theorem eo69_0 : E69_0.Ok Tryz.prog := EnvK.of_ok noSeq_ok trivial
abbrev Tf69_0 : Type 1 := (α : Type) → (Option α) → Option α
def f69_0g  (α : Type)  (k1 : Option α) : Option α :=
 k1
noncomputable def f69_0 (α : Type)  (k1 : Option α) : Option α := f69_0g  α  k1
def pa69_0 : PT (List DV) := pA [pV false [(dNan .f64)]]
def Fn69_0 (v : Tf69_0) (α : Type) (k : List RV → Option α) : Option α := v α  (ur69_0_0 k false)
noncomputable def cm69_0g  : MCode := (.seq (.region r69_2 [] (tO [0])) (.seq (.seq (.region r69_5 [] (tO [0, 11])) (.cond (.tmp 11) (.seq (.region r69_8 [] (tO [2])) .ret) .skip)) (.seq (.seq (.region r69_11 [] (tO [0, 18])) (.cond (.tmp 18) (.seq (.region r69_14 [] (tO [2])) .ret) .skip)) (.seq (.region r69_16 [] (tO [2])) .ret))))
noncomputable def cm69_0 : MCode := cm69_0g 
theorem gm69_0 : cm69_0.Good Tryz.prog E69_0 sh69 := ⟨trivial, ⟨⟨trivial, ⟨⟨trivial, trivial⟩, trivial⟩⟩, ⟨⟨trivial, ⟨⟨trivial, trivial⟩, trivial⟩⟩, ⟨trivial, trivial⟩⟩⟩⟩
theorem fm69_0g   (α : Type) (k : List RV → Option α) : Fn69_0 (f69_0g ) α k = pa69_0.unc fun ds => fnM Tryz.prog (E69_0g ) sh69 (cm69_0g ) rs69 k ds := by kernel_rfl
theorem fm69_0 : ∀ (α : Type) (k : List RV → Option α), Fn69_0 f69_0 α k = pa69_0.unc fun ds => fnM Tryz.prog E69_0 sh69 cm69_0 rs69 k ds := fm69_0g 
theorem is69 : FnIs Tryz.prog 69 nt69 tr69 tl69 cm69_0.erase rs69 := ⟨Tryz.f69, Tryz.func69, rfl, by kernel_rfl, by kernel_rfl, by kernel_rfl⟩
theorem io69_0 : InstOk Tryz.prog 69 nt69 ⟨pa69_0, Fn69_0 f69_0⟩ := inst_ok eo69_0 followsTry is69 ⟨⟨sh69, cm69_0, by kernel_rfl, gm69_0, fm69_0⟩⟩
def pr69_1_0 : PT (List RV) := pRs [pR false [rD dB]]
def ur69_1_0 {β : Type} (g : List RV → β) : Bool → β := pr69_1_0.unc g
def E69_1g  : EnvK := EnvK.of [] noSeq
noncomputable def E69_1 : EnvK := E69_1g 
theorem eo69_1 : E69_1.Ok Tryz.prog := EnvK.of_ok noSeq_ok trivial
abbrev Tf69_1 : Type 1 := (α : Type) → Nat → (Bool → Option α) → Option α
def f69_1g  (α : Type) (x1 : Nat) (k1 : Bool → Option α) : Option α :=
 cK ((FloatKind.format .f64).order x1 x1 != some Ordering.eq)
 (k1 false)
 (flN ((FloatKind.format .f64).sub x1 x1)
 (fun x2 => cK ((FloatKind.format .f64).order x2 0 != some Ordering.eq)
 (k1 false)
 (cK ((FloatKind.format .f64).order x1 14069741636278059008 == some Ordering.gt || (FloatKind.format .f64).order x1 14069741636278059008 == some Ordering.eq)
 (cK (!((FloatKind.format .f64).order x1 4846369599423283200 == some Ordering.lt || (FloatKind.format .f64).order x1 4846369599423283200 == some Ordering.eq))
 (k1 true)
 (ivK (f2i .f64 x1 .i64)
 (fun x3 => k1 ((FloatKind.format .f64).order (FloatKind.nearest .f64 x3) x1 == some Ordering.eq))))
 (k1 true)))
 (k1 false))
noncomputable def f69_1 (α : Type) (x1 : Nat) (k1 : Bool → Option α) : Option α := f69_1g  α x1 k1
def pa69_1 : PT (List DV) := pA [pV false [(dF .f64)]]
def Fn69_1 (v : Tf69_1) (α : Type) (k : List RV → Option α) : Nat → Option α := fun x1 => v α x1 (fun (y1 : Bool) => ur69_1_0 k y1)
noncomputable def cm69_1g  : MCode := (.seq (.region r69_2 [] (tO [0])) (.seq (.seq (.region r69_5 [] (tO [0, 11])) (.cond (.tmp 11) (.seq (.region r69_8 [] (tO [2])) .ret) .skip)) (.seq (.seq (.region r69_11 [] (tO [0, 18])) (.cond (.tmp 18) (.seq (.region r69_14 [] (tO [2])) .ret) .skip)) (.seq (.region r69_16 [] (tO [2])) .ret))))
noncomputable def cm69_1 : MCode := cm69_1g 
theorem gm69_1 : cm69_1.Good Tryz.prog E69_1 sh69 := ⟨trivial, ⟨⟨trivial, ⟨⟨trivial, trivial⟩, trivial⟩⟩, ⟨⟨trivial, ⟨⟨trivial, trivial⟩, trivial⟩⟩, ⟨trivial, trivial⟩⟩⟩⟩
theorem fm69_1g   (α : Type) (k : List RV → Option α) : Fn69_1 (f69_1g ) α k = pa69_1.unc fun ds => fnM Tryz.prog (E69_1g ) sh69 (cm69_1g ) rs69 k ds := by kernel_rfl
theorem fm69_1 : ∀ (α : Type) (k : List RV → Option α), Fn69_1 f69_1 α k = pa69_1.unc fun ds => fnM Tryz.prog E69_1 sh69 cm69_1 rs69 k ds := fm69_1g 
theorem io69_1 : InstOk Tryz.prog 69 nt69 ⟨pa69_1, Fn69_1 f69_1⟩ := inst_ok eo69_1 followsTry is69 ⟨⟨sh69, cm69_1, by kernel_rfl, gm69_1, fm69_1⟩⟩
abbrev nt57 : Nat := 15
def sh57 : List (Nat × List Sh) := []
def r57_2 : List AOper := [oO 6 (.mv (.const (.bool false)))]
def r57_4 : List AOper := [oM 7 1, oM 8 0, oO 9 (.bin .leq 3 (.tmp 7) (.tmp 8)), oM 10 9, oG 11 (.mv (.tmp 0)) 10 true, oG 12 (.mv (.tmp 2)) 10 true, oG 13 (.bin .leq 3 (.tmp 11) (.tmp 12)) 10 true, oO 14 (.pick (.tmp 10) (.tmp 13) (.const (.bool false))), oM 6 14]
def tr57 : List (Nat × Tidy) := [tT 0 [0, 1, 2], tT 1 [6]]
def tl57 : List (Nat × Tidy) := []
def rs57 : List AResV := [.tmp 6]
def pr57_0_0 : PT (List RV) := pRs [pR false [rD dB]]
def ur57_0_0 {β : Type} (g : List RV → β) : Bool → β := pr57_0_0.unc g
def E57_0g  : EnvK := EnvK.of [] noSeq
noncomputable def E57_0 : EnvK := E57_0g 
theorem eo57_0 : E57_0.Ok Tryz.prog := EnvK.of_ok noSeq_ok trivial
abbrev Tf57_0 : Type 1 := (α : Type) → Int → Int → Int → (Bool → Option α) → Option α
def f57_0g  (α : Type) (x1 x2 x3 : Int) (k1 : Bool → Option α) : Option α :=
 cK (decide (x2 ≤ x1))
 (k1 (decide (x1 ≤ x3)))
 (k1 false)
noncomputable def f57_0 (α : Type) (x1 x2 x3 : Int) (k1 : Bool → Option α) : Option α := f57_0g  α x1 x2 x3 k1
def pa57_0 : PT (List DV) := pA [pV false [(dI .i64)], pV false [(dI .i64)], pV false [(dI .i64)]]
def Fn57_0 (v : Tf57_0) (α : Type) (k : List RV → Option α) : Int → Int → Int → Option α := fun x1 x2 x3 => v α x1 x2 x3 (fun (y1 : Bool) => ur57_0_0 k y1)
noncomputable def cm57_0g  : MCode := (.seq (.region r57_2 [] (tO [0, 1, 2])) (.seq (.region r57_4 [] (tO [6])) .ret))
noncomputable def cm57_0 : MCode := cm57_0g 
theorem gm57_0 : cm57_0.Good Tryz.prog E57_0 sh57 := ⟨trivial, ⟨trivial, trivial⟩⟩
theorem fm57_0g   (α : Type) (k : List RV → Option α) : Fn57_0 (f57_0g ) α k = pa57_0.unc fun ds => fnM Tryz.prog (E57_0g ) sh57 (cm57_0g ) rs57 k ds := by kernel_rfl
theorem fm57_0 : ∀ (α : Type) (k : List RV → Option α), Fn57_0 f57_0 α k = pa57_0.unc fun ds => fnM Tryz.prog E57_0 sh57 cm57_0 rs57 k ds := fm57_0g 
theorem is57 : FnIs Tryz.prog 57 nt57 tr57 tl57 cm57_0.erase rs57 := ⟨Tryz.f57, Tryz.func57, rfl, by kernel_rfl, by kernel_rfl, by kernel_rfl⟩
theorem io57_0 : InstOk Tryz.prog 57 nt57 ⟨pa57_0, Fn57_0 f57_0⟩ := inst_ok eo57_0 followsTry is57 ⟨⟨sh57, cm57_0, by kernel_rfl, gm57_0, fm57_0⟩⟩
abbrev nt66 : Nat := 55
def sh66 : List (Nat × List Sh) := []
def r66_2 : List AOper := [oO 2 (.mv (.const (.bool false)))]
def r66_5 : List AOper := [oM 6 0, oO 7 (.pure (oB (.call { callee := .builtin .len, args := #[(.tmp 6)], argTypes := #[9] }) 3)), oO 8 (.bin .lss 3 (.tmp 7) (kI 1)), oM 9 8, oG 10 (.mv (.tmp 0)) 9 false, oG 11 (.pure (oB (.call { callee := .builtin .len, args := #[(.tmp 10)], argTypes := #[9] }) 3)) 9 false, oG 12 (.bin .gtr 3 (.tmp 11) (kI 12)) 9 false, oO 13 (.pick (.tmp 9) (.const (.bool true)) (.tmp 12))]
def r66_8 : List AOper := [oO 2 (.mv (.const (.bool false)))]
def r66_11 : List AOper := [oO 3 (.mv (kI 0))]
def td66_13 : Option Tidy := (tO [0, 3])
def r66_16 : List AOper := [oM 14 3, oM 15 0, oO 16 (.pure (oB (.call { callee := .builtin .len, args := #[(.tmp 15)], argTypes := #[9] }) 3)), oO 17 (.bin .lss 3 (.tmp 14) (.tmp 16))]
def r66_21 : List AOper := [oM 20 0, oM 21 3, oO 22 (.pure (oB (.index 9 (.tmp 20) (.tmp 21)) 5)), oM 4 22]
def r66_23 : List AOper := [oM 23 4, oO 24 (.bin .geq 5 (.tmp 23) (.const (.int .u8 97))), oM 25 24, oG 26 (.mv (.tmp 4)) 25 true, oG 27 (.bin .leq 5 (.tmp 26) (.const (.int .u8 122))) 25 true, oO 28 (.pick (.tmp 25) (.tmp 27) (.const (.bool false))), oM 29 28, oG 30 (.mv (.tmp 4)) 29 false, oG 31 (.bin .geq 5 (.tmp 30) (.const (.int .u8 65))) 29 false, oG 32 (.mv (.tmp 31)) 29 false, oG 33 (.mv (.tmp 4)) 32 true, oG 34 (.bin .leq 5 (.tmp 33) (.const (.int .u8 90))) 32 true, oG 35 (.pick (.tmp 32) (.tmp 34) (.const (.bool false))) 29 false, oO 36 (.pick (.tmp 29) (.const (.bool true)) (.tmp 35)), oM 5 36]
def r66_25 : List AOper := [oM 37 5, oO 38 (.pure (oB (.unOp .not 4 (.tmp 37)) 4)), oM 39 38, oG 40 (.mv (.tmp 3)) 39 true, oG 41 (.bin .eql 3 (.tmp 40) (kI 0)) 39 true, oG 42 (.mv (.tmp 41)) 39 true, oG 43 (.mv (.tmp 4)) 42 false, oG 44 (.bin .neq 5 (.tmp 43) (.const (.int .u8 45))) 42 false, oG 45 (.mv (.tmp 44)) 42 false, oG 46 (.mv (.tmp 4)) 45 true, oG 47 (.bin .lss 5 (.tmp 46) (.const (.int .u8 48))) 45 true, oG 48 (.mv (.tmp 47)) 45 true, oG 49 (.mv (.tmp 4)) 48 false, oG 50 (.bin .gtr 5 (.tmp 49) (.const (.int .u8 57))) 48 false, oG 51 (.pick (.tmp 48) (.const (.bool true)) (.tmp 50)) 45 true, oG 52 (.pick (.tmp 45) (.tmp 51) (.const (.bool false))) 42 false, oG 53 (.pick (.tmp 42) (.const (.bool true)) (.tmp 52)) 39 true, oO 54 (.pick (.tmp 39) (.tmp 53) (.const (.bool false)))]
def r66_28 : List AOper := [oO 2 (.mv (.const (.bool false)))]
def r66_29 : List AOper := [oM 18 3, oO 19 (.bin .add 3 (.tmp 18) (kI 1)), oM 3 19]
def r66_31 : List AOper := [oO 2 (.mv (.const (.bool true)))]
def tr66 : List (Nat × Tidy) := [tT 0 [0], tT 1 [0, 13], tT 2 [2], tT 3 [0, 3], tT 4 [0, 3, 17], tT 6 [0, 3, 4], tT 7 [0, 3, 4, 5], tT 8 [0, 3, 54], tT 9 [2], tT 5 [0, 3], tT 10 [2]]
def tl66 : List (Nat × Tidy) := [tT 4 [0, 3]]
def rs66 : List AResV := [.tmp 2]
def p66_0_0 : PT St := pS [sl 0 (aV false [(cD dS)]), sl 3 (aV false [(cD (dI .i64))]), sl 4 (aV false [(cD (dI .u8))])] []
def u66_0_0 {β : Type} (g : St → β) : ByteArray → Int → Int → β := p66_0_0.unc g
def p66_0_1 : PT St := pS [sl 0 (aV false [(cD dS)]), sl 3 (aV false [(cD (dI .i64))]), sl 4 (aV false [(cD (dI .u8))]), sl 5 (aV false [(cD dB)])] []
def u66_0_1 {β : Type} (g : St → β) : ByteArray → Int → Int → Bool → β := p66_0_1.unc g
def p66_0_2 : PT St := pS [sl 0 (aV false [(cD dS)]), sl 3 (aV false [(cD (dI .i64))]), sl 54 (aV false [(cD dB)])] []
def u66_0_2 {β : Type} (g : St → β) : ByteArray → Int → Bool → β := p66_0_2.unc g
def p66_0_3 : PT St := pS [sl 0 (aV false [(cD dS)]), sl 3 (aV false [(cD (dI .i64))])] []
def u66_0_3 {β : Type} (g : St → β) : ByteArray → Int → β := p66_0_3.unc g
def p66_0_4 : PT St := pS [sl 2 (aV false [(cD dB)])] []
def u66_0_4 {β : Type} (g : St → β) : Bool → β := p66_0_4.unc g
def p66_0_5 : PT St := pS [sl 0 (aV false [(cD dS)]), sl 3 (aV false [(cD (dI .i64))]), sl 17 (aV false [(cD dB)])] []
def u66_0_5 {β : Type} (g : St → β) : ByteArray → Int → Bool → β := p66_0_5.unc g
def pr66_0_0 : PT (List RV) := pRs [pR false [rD dB]]
def ur66_0_0 {β : Type} (g : List RV → β) : Bool → β := pr66_0_0.unc g
def E66_0g  : EnvK := EnvK.of [] noSeq
noncomputable def E66_0 : EnvK := E66_0g 
theorem eo66_0 : E66_0.Ok Tryz.prog := EnvK.of_ok noSeq_ok trivial
noncomputable def c66_0_24g  : MCode := (.region r66_25 [] (tO [0, 3, 54]))
noncomputable def c66_0_24 : MCode := c66_0_24g 
theorem g66_0_24 : c66_0_24.Good Tryz.prog E66_0 sh66 := trivial
--CODE 24 0
abbrev TJ66_0_1 : Type 1 := (α : Type) → Int → Int → Bool → (Bool → Option α) → Option α
def J66_0_1g  (α : Type) (x13 x14 : Int) (x15 : Bool) (k1 : Bool → Option α) : Option α :=
 cK (!x15)
 (cK (x13 == 0)
 (k1 true)
 (cK (x14 != 45)
 (cK (decide (x14 < 48))
 (k1 true)
 (k1 (decide (57 < x14))))
 (k1 false)))
 (k1 false)
noncomputable def J66_0_1 (α : Type) (x13 x14 : Int) (x15 : Bool) (k1 : Bool → Option α) : Option α := J66_0_1g  α x13 x14 x15 k1
def F66_0_1 (v : TJ66_0_1) (α : Type) (K : Exit → St → Option α) : ByteArray → Int → Int → Bool → Option α := fun x12 x13 x14 x15 => v α x13 x14 x15 (fun (y1 : Bool) => u66_0_2 (K .normal) x12 x13 y1) 
theorem m66_0_1g   (α : Type) (K : Exit → St → Option α) : F66_0_1 (J66_0_1g ) α K = p66_0_1.unc fun σ => runM Tryz.prog (E66_0g ) sh66 (c66_0_24g ) K σ := by kernel_rfl
theorem m66_0_1 : ∀ (α : Type) (K : Exit → St → Option α), F66_0_1 J66_0_1 α K = p66_0_1.unc fun σ => runM Tryz.prog E66_0 sh66 c66_0_24 K σ := m66_0_1g 
noncomputable def c66_0_22g  : MCode := (.region r66_23 [] (tO [0, 3, 4, 5]))
noncomputable def c66_0_22 : MCode := c66_0_22g 
theorem g66_0_22 : c66_0_22.Good Tryz.prog E66_0 sh66 := trivial
--CODE 22 0
abbrev TJ66_0_0 : Type 1 := (α : Type) → Int → (Bool → Option α) → Option α
def J66_0_0g  (α : Type) (x8 : Int) (k1 : Bool → Option α) : Option α :=
 cK (decide (97 ≤ x8))
 (cK (decide (x8 ≤ 122))
 (k1 true)
 (cK (decide (65 ≤ x8))
 (k1 (decide (x8 ≤ 90)))
 (k1 false)))
 (cK (decide (65 ≤ x8))
 (k1 (decide (x8 ≤ 90)))
 (k1 false))
noncomputable def J66_0_0 (α : Type) (x8 : Int) (k1 : Bool → Option α) : Option α := J66_0_0g  α x8 k1
def F66_0_0 (v : TJ66_0_0) (α : Type) (K : Exit → St → Option α) : ByteArray → Int → Int → Option α := fun x6 x7 x8 => v α x8 (fun (y1 : Bool) => u66_0_1 (K .normal) x6 x7 x8 y1) 
theorem m66_0_0g   (α : Type) (K : Exit → St → Option α) : F66_0_0 (J66_0_0g ) α K = p66_0_0.unc fun σ => runM Tryz.prog (E66_0g ) sh66 (c66_0_22g ) K σ := by kernel_rfl
theorem m66_0_0 : ∀ (α : Type) (K : Exit → St → Option α), F66_0_0 J66_0_0 α K = p66_0_0.unc fun σ => runM Tryz.prog E66_0 sh66 c66_0_22 K σ := m66_0_0g 
noncomputable def c66_0_13g (vJ66_0_0 : TJ66_0_0) (vJ66_0_1 : TJ66_0_1) : MCode := (.seq (.seq (.region r66_16 [] (tO [0, 3, 17])) (.cond (.tmp 17) .skip (.exit 0))) (.seq (.block 1 (.seq (.region r66_21 [] (tO [0, 3, 4])) (.seq (.mark [⟨p66_0_0, F66_0_0 vJ66_0_0⟩] c66_0_22) (.seq (.mark [⟨p66_0_1, F66_0_1 vJ66_0_1⟩] c66_0_24) (.cond (.tmp 54) (.seq (.region r66_28 [] (tO [2])) .ret) .skip))))) (.region r66_29 [] (tO [0, 3]))))
noncomputable def c66_0_13 : MCode := c66_0_13g J66_0_0 J66_0_1
theorem g66_0_13 : c66_0_13.Good Tryz.prog E66_0 sh66 := ⟨⟨trivial, ⟨trivial, trivial⟩⟩, ⟨⟨trivial, ⟨⟨g66_0_22, m66_0_0, trivial⟩, ⟨⟨g66_0_24, m66_0_1, trivial⟩, ⟨⟨trivial, trivial⟩, trivial⟩⟩⟩⟩, trivial⟩⟩
--CODE 13 0
def S66_0_2g (vJ66_0_0 : TJ66_0_0) (vJ66_0_1 : TJ66_0_1) (α : Type) (x2 : ByteArray) (x3 : Int) (kn : Int → Option α) (k1 : Option α) (k2 : Int → Bool → Option α) : Option α :=
 cK (decide (x3 < ((ByteArray.size x2 : Nat) : Int)))
 (sixK x2 x3
 (fun x5 => vJ66_0_0 α ((UInt8.toNat x5 : Nat) : Int)
 (fun x10 => vJ66_0_1 α x3 ((UInt8.toNat x5 : Nat) : Int) x10
 (fun x17 => cK x17
 (k1)
 (kn (w64 (x3 + 1)))))))
 (k2 x3 (decide (x3 < ((ByteArray.size x2 : Nat) : Int))))
noncomputable def S66_0_2 (α : Type) (x2 : ByteArray) (x3 : Int) (kn : Int → Option α) (k1 : Option α) (k2 : Int → Bool → Option α) : Option α := S66_0_2g J66_0_0 J66_0_1 α x2 x3 kn k1 k2
noncomputable def R66_0_2 (α : Type) (x2 : ByteArray) (k1 : Option α) (k2 : Int → Bool → Option α) : Nat → Int → Option α
 | 0, _ => none
 | n + 1, x3 => S66_0_2 α x2 x3 (R66_0_2 α x2 k1 k2 n) k1 k2
noncomputable def L66_0_2 (α : Type) (x2 : ByteArray) (k1 : Option α) (k2 : Int → Bool → Option α) (x3 : Int) : Option α := R66_0_2 α x2 k1 k2 fuel x3
abbrev TL66_0_2 : Type 1 := (α : Type) → ByteArray → (Option α) → (Int → Bool → Option α) → Int → Option α
def F66_0_2 (v : TL66_0_2) (α : Type) (K : Exit → St → Option α) : ByteArray → Int → Option α := fun x2 x3 => v α x2 (u66_0_4 (K .ret) false) (fun (y1 : Int) (y2 : Bool) => u66_0_5 (K (.exit 0)) x2 y1 y2) x3
theorem r66_0_2g  (vJ66_0_0 : TJ66_0_0) (vJ66_0_1 : TJ66_0_1) (α : Type) (K : Exit → St → Option α) (Kn : St → Option α) (x2 : ByteArray) (x3 : Int) : u66_0_3 (fun σ => runM Tryz.prog (E66_0g ) sh66 (c66_0_13g vJ66_0_0 vJ66_0_1) (thenK (fun σ => tidyK td66_13 σ Kn) K) σ) x2 x3 = S66_0_2g vJ66_0_0 vJ66_0_1 α x2 x3 (fun x3 => u66_0_3 Kn x2 x3) (u66_0_4 (K .ret) false) (fun (y1 : Int) (y2 : Bool) => u66_0_5 (K (.exit 0)) x2 y1 y2) := by kernel_rfl
theorem r66_0_2 (α : Type) (K : Exit → St → Option α) (Kn : St → Option α) (x2 : ByteArray) (x3 : Int) : u66_0_3 (fun σ => runM Tryz.prog E66_0 sh66 c66_0_13 (thenK (fun σ => tidyK td66_13 σ Kn) K) σ) x2 x3 = S66_0_2 α x2 x3 (fun x3 => u66_0_3 Kn x2 x3) (u66_0_4 (K .ret) false) (fun (y1 : Int) (y2 : Bool) => u66_0_5 (K (.exit 0)) x2 y1 y2) := r66_0_2g J66_0_0 J66_0_1 α K Kn x2 x3
theorem t66_0_2 (α : Type) (K : Exit → St → Option α) : ∀ (n : Nat) (x2 : ByteArray) (x3 : Int), R66_0_2 α x2 (u66_0_4 (K .ret) false) (fun (y1 : Int) (y2 : Bool) => u66_0_5 (K (.exit 0)) x2 y1 y2) n x3 = u66_0_3 (loopT (runM Tryz.prog E66_0 sh66 c66_0_13) td66_13 K n) x2 x3 := by
 intro n
 induction n with
 | zero => intros; rfl
 | succ n ih => intro x2 x3; exact (congrArg (fun kn => S66_0_2 α x2 x3 kn (u66_0_4 (K .ret) false) (fun (y1 : Int) (y2 : Bool) => u66_0_5 (K (.exit 0)) x2 y1 y2)) (funext fun x3 => ih x2 x3)).trans (r66_0_2 α K (loopT (runM Tryz.prog E66_0 sh66 c66_0_13) td66_13 K n) x2 x3).symm
theorem m66_0_2 : ∀ (α : Type) (K : Exit → St → Option α), F66_0_2 L66_0_2 α K = p66_0_3.unc fun σ => loopT (runM Tryz.prog E66_0 sh66 c66_0_13) td66_13 K fuel σ := fun α K => funext fun x2 => funext fun x3 => t66_0_2 α K fuel x2 x3
abbrev Tf66_0 : Type 1 := (α : Type) → ByteArray → (Bool → Option α) → Option α
def f66_0g (vL66_0_2 : TL66_0_2) (α : Type) (x1 : ByteArray) (k1 : Bool → Option α) : Option α :=
 cK (decide (((ByteArray.size x1 : Nat) : Int) < 1))
 (k1 false)
 (cK (decide (12 < ((ByteArray.size x1 : Nat) : Int)))
 (k1 false)
 (vL66_0_2 α x1
 (k1 false)
 (fun x19 x20 => k1 true) 0))
noncomputable def f66_0 (α : Type) (x1 : ByteArray) (k1 : Bool → Option α) : Option α := f66_0g L66_0_2 α x1 k1
def pa66_0 : PT (List DV) := pA [pV false [dS]]
def Fn66_0 (v : Tf66_0) (α : Type) (k : List RV → Option α) : ByteArray → Option α := fun x1 => v α x1 (fun (y1 : Bool) => ur66_0_0 k y1)
noncomputable def cm66_0g (vL66_0_2 : TL66_0_2) : MCode := (.seq (.region r66_2 [] (tO [0])) (.seq (.seq (.region r66_5 [] (tO [0, 13])) (.cond (.tmp 13) (.seq (.region r66_8 [] (tO [2])) .ret) .skip)) (.seq (.seq (.region r66_11 [] (tO [0, 3])) (.block 0 (.loop td66_13 [⟨p66_0_3, F66_0_2 vL66_0_2⟩] c66_0_13))) (.seq (.region r66_31 [] (tO [2])) .ret))))
noncomputable def cm66_0 : MCode := cm66_0g L66_0_2
theorem gm66_0 : cm66_0.Good Tryz.prog E66_0 sh66 := ⟨trivial, ⟨⟨trivial, ⟨⟨trivial, trivial⟩, trivial⟩⟩, ⟨⟨trivial, ⟨g66_0_13, m66_0_2, trivial⟩⟩, ⟨trivial, trivial⟩⟩⟩⟩
theorem fm66_0g  (vL66_0_2 : TL66_0_2) (α : Type) (k : List RV → Option α) : Fn66_0 (f66_0g vL66_0_2) α k = pa66_0.unc fun ds => fnM Tryz.prog (E66_0g ) sh66 (cm66_0g vL66_0_2) rs66 k ds := by kernel_rfl
theorem fm66_0 : ∀ (α : Type) (k : List RV → Option α), Fn66_0 f66_0 α k = pa66_0.unc fun ds => fnM Tryz.prog E66_0 sh66 cm66_0 rs66 k ds := fm66_0g L66_0_2
theorem is66 : FnIs Tryz.prog 66 nt66 tr66 tl66 cm66_0.erase rs66 := ⟨Tryz.f66, Tryz.func66, rfl, by kernel_rfl, by kernel_rfl, by kernel_rfl⟩
theorem io66_0 : InstOk Tryz.prog 66 nt66 ⟨pa66_0, Fn66_0 f66_0⟩ := inst_ok eo66_0 followsTry is66 ⟨⟨sh66, cm66_0, by kernel_rfl, gm66_0, fm66_0⟩⟩
abbrev nt127 : Nat := 15
def sh127 : List (Nat × List Sh) := []
def r127_2 : List AOper := [oO 6 (.mv (.const (.bool false)))]
def r127_4 : List AOper := [oM 7 1, oM 8 0, oO 9 (.bin .leq 3 (.tmp 7) (.tmp 8)), oM 10 9, oG 11 (.mv (.tmp 0)) 10 true, oG 12 (.mv (.tmp 2)) 10 true, oG 13 (.bin .leq 3 (.tmp 11) (.tmp 12)) 10 true, oO 14 (.pick (.tmp 10) (.tmp 13) (.const (.bool false))), oM 6 14]
def tr127 : List (Nat × Tidy) := [tT 0 [0, 1, 2], tT 1 [6]]
def tl127 : List (Nat × Tidy) := []
def rs127 : List AResV := [.tmp 6]
def pr127_0_0 : PT (List RV) := pRs [pR false [rD dB]]
def ur127_0_0 {β : Type} (g : List RV → β) : Bool → β := pr127_0_0.unc g
def E127_0g  : EnvK := EnvK.of [] noSeq
noncomputable def E127_0 : EnvK := E127_0g 
theorem eo127_0 : E127_0.Ok Tryz.prog := EnvK.of_ok noSeq_ok trivial
abbrev Tf127_0 : Type 1 := (α : Type) → Int → Int → Int → (Bool → Option α) → Option α
def f127_0g  (α : Type) (x1 x2 x3 : Int) (k1 : Bool → Option α) : Option α :=
 cK (decide (x2 ≤ x1))
 (k1 (decide (x1 ≤ x3)))
 (k1 false)
noncomputable def f127_0 (α : Type) (x1 x2 x3 : Int) (k1 : Bool → Option α) : Option α := f127_0g  α x1 x2 x3 k1
def pa127_0 : PT (List DV) := pA [pV false [(dI .i64)], pV false [(dI .i64)], pV false [(dI .i64)]]
def Fn127_0 (v : Tf127_0) (α : Type) (k : List RV → Option α) : Int → Int → Int → Option α := fun x1 x2 x3 => v α x1 x2 x3 (fun (y1 : Bool) => ur127_0_0 k y1)
noncomputable def cm127_0g  : MCode := (.seq (.region r127_2 [] (tO [0, 1, 2])) (.seq (.region r127_4 [] (tO [6])) .ret))
noncomputable def cm127_0 : MCode := cm127_0g 
theorem gm127_0 : cm127_0.Good Tryz.prog E127_0 sh127 := ⟨trivial, ⟨trivial, trivial⟩⟩
theorem fm127_0g   (α : Type) (k : List RV → Option α) : Fn127_0 (f127_0g ) α k = pa127_0.unc fun ds => fnM Tryz.prog (E127_0g ) sh127 (cm127_0g ) rs127 k ds := by kernel_rfl
theorem fm127_0 : ∀ (α : Type) (k : List RV → Option α), Fn127_0 f127_0 α k = pa127_0.unc fun ds => fnM Tryz.prog E127_0 sh127 cm127_0 rs127 k ds := fm127_0g 
theorem is127 : FnIs Tryz.prog 127 nt127 tr127 tl127 cm127_0.erase rs127 := ⟨Tryz.f127, Tryz.func127, rfl, by kernel_rfl, by kernel_rfl, by kernel_rfl⟩
theorem io127_0 : InstOk Tryz.prog 127 nt127 ⟨pa127_0, Fn127_0 f127_0⟩ := inst_ok eo127_0 followsTry is127 ⟨⟨sh127, cm127_0, by kernel_rfl, gm127_0, fm127_0⟩⟩
abbrev nt130 : Nat := 10
def sh130 : List (Nat × List Sh) := []
def r130_2 : List AOper := [oO 2 (.alloc [(cI 0), (cI 0)])]
def r130_4 : List AOper := [oM 3 0, oO 4 (.pure (oB (.call { callee := .builtin .real, args := #[(.tmp 3)], argTypes := #[43] }) 117)), oO 5 (.pure (oB (.convert 117 3 (.tmp 4)) 3)), oM 6 0, oO 7 (.pure (oB (.call { callee := .builtin .imag, args := #[(.tmp 6)], argTypes := #[43] }) 117)), oO 8 (.pure (oB (.convert 117 3 (.tmp 7)) 3)), oO 9 (.build [(cI 0), (cI 0)] [(0, 1, (.tmp 5)), (1, 1, (.tmp 8))]), oD (.store 2 (.tmp 2) (.tmp 9))]
def tr130 : List (Nat × Tidy) := [tT 0 [0, 2], tT 1 [2]]
def tl130 : List (Nat × Tidy) := []
def rs130 : List AResV := [.cell 2 true 2]
def pr130_0_0 : PT (List RV) := pRs [pR true [rD (dI .i64), rD (dI .i64)]]
def ur130_0_0 {β : Type} (g : List RV → β) : Int → Int → β := pr130_0_0.unc g
def E130_0g  : EnvK := EnvK.of [] noSeq
noncomputable def E130_0 : EnvK := E130_0g 
theorem eo130_0 : E130_0.Ok Tryz.prog := EnvK.of_ok noSeq_ok trivial
abbrev Tf130_0 : Type 1 := (α : Type) → Nat → Nat → (Int → Int → Option α) → Option α
def f130_0g  (α : Type) (x1 x2 : Nat) (k1 : Int → Int → Option α) : Option α :=
 ivK (f2i .f64 x1 .i64)
 (fun x3 => ivK (f2i .f64 x2 .i64)
 (fun x4 => k1 x3 x4))
noncomputable def f130_0 (α : Type) (x1 x2 : Nat) (k1 : Int → Int → Option α) : Option α := f130_0g  α x1 x2 k1
def pa130_0 : PT (List DV) := pA [pV false [(dX .f64)]]
def Fn130_0 (v : Tf130_0) (α : Type) (k : List RV → Option α) : Nat → Nat → Option α := fun x1 x2 => v α x1 x2 (fun (y1 : Int) (y2 : Int) => ur130_0_0 k y1 y2)
noncomputable def cm130_0g  : MCode := (.seq (.region r130_2 [] (tO [0, 2])) (.seq (.region r130_4 [] (tO [2])) .ret))
noncomputable def cm130_0 : MCode := cm130_0g 
theorem gm130_0 : cm130_0.Good Tryz.prog E130_0 sh130 := ⟨trivial, ⟨trivial, trivial⟩⟩
theorem fm130_0g   (α : Type) (k : List RV → Option α) : Fn130_0 (f130_0g ) α k = pa130_0.unc fun ds => fnM Tryz.prog (E130_0g ) sh130 (cm130_0g ) rs130 k ds := by kernel_rfl
theorem fm130_0 : ∀ (α : Type) (k : List RV → Option α), Fn130_0 f130_0 α k = pa130_0.unc fun ds => fnM Tryz.prog E130_0 sh130 cm130_0 rs130 k ds := fm130_0g 
theorem is130 : FnIs Tryz.prog 130 nt130 tr130 tl130 cm130_0.erase rs130 := ⟨Tryz.f130, Tryz.func130, rfl, by kernel_rfl, by kernel_rfl, by kernel_rfl⟩
theorem io130_0 : InstOk Tryz.prog 130 nt130 ⟨pa130_0, Fn130_0 f130_0⟩ := inst_ok eo130_0 followsTry is130 ⟨⟨sh130, cm130_0, by kernel_rfl, gm130_0, fm130_0⟩⟩
abbrev nt203 : Nat := 23
def sh203 : List (Nat × List Sh) := [(12, [.int .i64]), (17, [.int .i64])]
def r203_2 : List AOper := [oO 3 (.box (.tmp 0)), oO 6 (.alloc [(cI 0), (cI 0)])]
def r203_4 : List AOper := [oM 8 1, oM 9 1, oO 10 (.bin .mul 3 (.tmp 8) (.tmp 9)), oM 7 10]
def r203_6 : List AOper := [oO 11 (.faddr 0 (.tmp 3)), oO 12 (.load false 1 (.tmp 11)), oM 13 7, oO 14 (.bin .mul 3 (.tmp 12) (.tmp 13)), oM 15 2, oO 16 (.faddr 1 (.tmp 3)), oO 17 (.load false 1 (.tmp 16)), oO 18 (.bin .mul 3 (.tmp 15) (.tmp 17)), oO 19 (.bin .mul 3 (.tmp 18) (kI 1000000)), oO 20 (.bin .add 3 (.tmp 14) (.tmp 19)), oM 21 7, oO 22 (.build [(cI 0), (cI 0)] [(0, 1, (.tmp 20)), (1, 1, (.tmp 21))]), oD (.store 2 (.tmp 6) (.tmp 22))]
def tr203 : List (Nat × Tidy) := [tT 0 [1, 2, 3, 6], tT 1 [2, 3, 6, 7], tT 2 [6]]
def tl203 : List (Nat × Tidy) := []
def rs203 : List AResV := [.cell 6 true 2]
def pr203_0_0 : PT (List RV) := pRs [pR true [rD (dI .i64), rD (dI .i64)]]
def ur203_0_0 {β : Type} (g : List RV → β) : Int → Int → β := pr203_0_0.unc g
def E203_0g  : EnvK := EnvK.of [] noSeq
noncomputable def E203_0 : EnvK := E203_0g 
theorem eo203_0 : E203_0.Ok Tryz.prog := EnvK.of_ok noSeq_ok trivial
abbrev Tf203_0 : Type 1 := (α : Type) → Int → Int → Int → Int → (Int → Int → Option α) → Option α
def f203_0g  (α : Type) (x1 x2 x3 x4 : Int) (k1 : Int → Int → Option α) : Option α :=
 k1 (w64 ((w64 (x1 * (w64 (x3 * x3)))) + (w64 ((w64 (x4 * x2)) * 1000000)))) (w64 (x3 * x3))
noncomputable def f203_0 (α : Type) (x1 x2 x3 x4 : Int) (k1 : Int → Int → Option α) : Option α := f203_0g  α x1 x2 x3 x4 k1
def pa203_0 : PT (List DV) := pA [pV true [(dI .i64), (dI .i64)], pV false [(dI .i64)], pV false [(dI .i64)]]
def Fn203_0 (v : Tf203_0) (α : Type) (k : List RV → Option α) : Int → Int → Int → Int → Option α := fun x1 x2 x3 x4 => v α x1 x2 x3 x4 (fun (y1 : Int) (y2 : Int) => ur203_0_0 k y1 y2)
noncomputable def cm203_0g  : MCode := (.seq (.region r203_2 [] (tO [1, 2, 3, 6])) (.seq (.region r203_4 [] (tO [2, 3, 6, 7])) (.seq (.region r203_6 [] (tO [6])) .ret)))
noncomputable def cm203_0 : MCode := cm203_0g 
theorem gm203_0 : cm203_0.Good Tryz.prog E203_0 sh203 := ⟨trivial, ⟨trivial, ⟨trivial, trivial⟩⟩⟩
theorem fm203_0g   (α : Type) (k : List RV → Option α) : Fn203_0 (f203_0g ) α k = pa203_0.unc fun ds => fnM Tryz.prog (E203_0g ) sh203 (cm203_0g ) rs203 k ds := by kernel_rfl
theorem fm203_0 : ∀ (α : Type) (k : List RV → Option α), Fn203_0 f203_0 α k = pa203_0.unc fun ds => fnM Tryz.prog E203_0 sh203 cm203_0 rs203 k ds := fm203_0g 
theorem is203 : FnIs Tryz.prog 203 nt203 tr203 tl203 cm203_0.erase rs203 := ⟨Tryz.f203, Tryz.func203, rfl, by kernel_rfl, by kernel_rfl, by kernel_rfl⟩
theorem io203_0 : InstOk Tryz.prog 203 nt203 ⟨pa203_0, Fn203_0 f203_0⟩ := inst_ok eo203_0 followsTry is203 ⟨⟨sh203, cm203_0, by kernel_rfl, gm203_0, fm203_0⟩⟩
abbrev nt108 : Nat := 18
def sh108 : List (Nat × List Sh) := [(5, [.int .i64]), (7, [.int .i64]), (10, [.int .i64]), (12, [.int .i64])]
def r108_2 : List AOper := [oO 1 (.box (.tmp 0)), oO 2 (.mv (kI 0))]
def r108_4 : List AOper := [oO 4 (.faddr 0 (.tmp 1)), oO 5 (.load false 1 (.tmp 4)), oO 6 (.faddr 1 (.tmp 1)), oO 7 (.load false 1 (.tmp 6)), oO 8 (.bin .quo 3 (.tmp 5) (.tmp 7)), oM 3 8]
def r108_7 : List AOper := [oO 9 (.faddr 0 (.tmp 1)), oO 10 (.load false 1 (.tmp 9)), oO 11 (.faddr 1 (.tmp 1)), oO 12 (.load false 1 (.tmp 11)), oO 13 (.bin .rem 3 (.tmp 10) (.tmp 12)), oO 14 (.bin .lss 3 (.tmp 13) (kI 0))]
def r108_9 : List AOper := [oM 15 3, oO 16 (.bin .sub 3 (.tmp 15) (kI 1)), oM 3 16]
def r108_11 : List AOper := [oM 17 3, oM 2 17]
def tr108 : List (Nat × Tidy) := [tT 0 [1], tT 1 [1, 3], tT 2 [3, 14], tT 3 [3], tT 4 [2]]
def tl108 : List (Nat × Tidy) := []
def rs108 : List AResV := [.tmp 2]
def pr108_0_0 : PT (List RV) := pRs [pR false [rD (dI .i64)]]
def ur108_0_0 {β : Type} (g : List RV → β) : Int → β := pr108_0_0.unc g
def E108_0g  : EnvK := EnvK.of [] noSeq
noncomputable def E108_0 : EnvK := E108_0g 
theorem eo108_0 : E108_0.Ok Tryz.prog := EnvK.of_ok noSeq_ok trivial
abbrev Tf108_0 : Type 1 := (α : Type) → Int → Int → (Int → Option α) → Option α
def f108_0g  (α : Type) (x1 x2 : Int) (k1 : Int → Option α) : Option α :=
 gK (x2 != 0) (gK (x2 != 0) (cK (decide ((Int.tmod x1 x2) < 0))
 (k1 (w64 ((w64 (Int.tdiv x1 x2)) - 1)))
 (k1 (w64 (Int.tdiv x1 x2)))))
noncomputable def f108_0 (α : Type) (x1 x2 : Int) (k1 : Int → Option α) : Option α := f108_0g  α x1 x2 k1
def pa108_0 : PT (List DV) := pA [pV true [(dI .i64), (dI .i64)]]
def Fn108_0 (v : Tf108_0) (α : Type) (k : List RV → Option α) : Int → Int → Option α := fun x1 x2 => v α x1 x2 (fun (y1 : Int) => ur108_0_0 k y1)
noncomputable def cm108_0g  : MCode := (.seq (.region r108_2 [] (tO [1])) (.seq (.region r108_4 [] (tO [1, 3])) (.seq (.seq (.region r108_7 [] (tO [3, 14])) (.cond (.tmp 14) (.region r108_9 [] (tO [3])) .skip)) (.seq (.region r108_11 [] (tO [2])) .ret))))
noncomputable def cm108_0 : MCode := cm108_0g 
theorem gm108_0 : cm108_0.Good Tryz.prog E108_0 sh108 := ⟨trivial, ⟨trivial, ⟨⟨trivial, ⟨trivial, trivial⟩⟩, ⟨trivial, trivial⟩⟩⟩⟩
theorem fm108_0g   (α : Type) (k : List RV → Option α) : Fn108_0 (f108_0g ) α k = pa108_0.unc fun ds => fnM Tryz.prog (E108_0g ) sh108 (cm108_0g ) rs108 k ds := by kernel_rfl
theorem fm108_0 : ∀ (α : Type) (k : List RV → Option α), Fn108_0 f108_0 α k = pa108_0.unc fun ds => fnM Tryz.prog E108_0 sh108 cm108_0 rs108 k ds := fm108_0g 
theorem is108 : FnIs Tryz.prog 108 nt108 tr108 tl108 cm108_0.erase rs108 := ⟨Tryz.f108, Tryz.func108, rfl, by kernel_rfl, by kernel_rfl, by kernel_rfl⟩
theorem io108_0 : InstOk Tryz.prog 108 nt108 ⟨pa108_0, Fn108_0 f108_0⟩ := inst_ok eo108_0 followsTry is108 ⟨⟨sh108, cm108_0, by kernel_rfl, gm108_0, fm108_0⟩⟩
abbrev nt198 : Nat := 20
def sh198 : List (Nat × List Sh) := [(7, [.sl]), (9, [.flt .f32]), (10, [.flt .f32]), (14, [.sl]), (16, [.flt .f32]), (17, [.flt .f32])]
def r198_2 : List AOper := [oO 2 (.box (.tmp 0)), oO 4 (.alloc [(cI 0), (cI 0)])]
def r198_4 : List AOper := [oO 5 (.faddr 0 (.tmp 2)), oO 6 (.faddr 3 (.tmp 5)), oO 7 (.load false 1 (.tmp 6)), oM 8 1, oO 9 (.iaddr 1 none (.tmp 7) (.tmp 8)), oO 10 (.load false 1 (.tmp 9)), oO 11 (.pure (oB (.convert 125 3 (.tmp 10)) 3)), oO 12 (.faddr 0 (.tmp 2)), oO 13 (.faddr 4 (.tmp 12)), oO 14 (.load false 1 (.tmp 13)), oM 15 1, oO 16 (.iaddr 1 none (.tmp 14) (.tmp 15)), oO 17 (.load false 1 (.tmp 16)), oO 18 (.pure (oB (.convert 125 3 (.tmp 17)) 3)), oO 19 (.build [(cI 0), (cI 0)] [(0, 1, (.tmp 11)), (1, 1, (.tmp 18))]), oD (.store 2 (.tmp 4) (.tmp 19))]
def tr198 : List (Nat × Tidy) := [tT 0 [1, 2, 4], tT 1 [4]]
def tl198 : List (Nat × Tidy) := []
def rs198 : List AResV := [.cell 4 true 2]
def pr198_0_0 : PT (List RV) := pRs [pR true [rD (dI .i64), rD (dI .i64)]]
def ur198_0_0 {β : Type} (g : List RV → β) : Int → Int → β := pr198_0_0.unc g
def E198_0g  : EnvK := EnvK.of [] noSeq
noncomputable def E198_0 : EnvK := E198_0g 
theorem eo198_0 : E198_0.Ok Tryz.prog := EnvK.of_ok noSeq_ok trivial
abbrev Tf198_0 : Type 1 := (α : Type) → ByteArray → Int → Rows → Rows → Rows → Int → Int → Int → (Int → Int → Option α) → Option α
def f198_0g  (α : Type) (x1 : ByteArray) (x2 : Int) (x3 x4 x5 : Rows) (x6 x7 x8 : Int) (k1 : Int → Int → Option α) : Option α :=
 rowK x4 x8 [.flt .f32]
 (fun x9 => ivK (f2i .f32 x9 .i64)
 (fun x10 => rowK x5 x8 [.flt .f32]
 (fun x11 => ivK (f2i .f32 x11 .i64)
 (fun x12 => k1 x10 x12))))
noncomputable def f198_0 (α : Type) (x1 : ByteArray) (x2 : Int) (x3 x4 x5 : Rows) (x6 x7 x8 : Int) (k1 : Int → Int → Option α) : Option α := f198_0g  α x1 x2 x3 x4 x5 x6 x7 x8 k1
def pa198_0 : PT (List DV) := pA [pV true [dS, (dI .i64), dL, dL, dL, (dI .i64), (dI .i64)], pV false [(dI .i64)]]
def Fn198_0 (v : Tf198_0) (α : Type) (k : List RV → Option α) : ByteArray → Int → Rows → Rows → Rows → Int → Int → Int → Option α := fun x1 x2 x3 x4 x5 x6 x7 x8 => v α x1 x2 x3 x4 x5 x6 x7 x8 (fun (y1 : Int) (y2 : Int) => ur198_0_0 k y1 y2)
noncomputable def cm198_0g  : MCode := (.seq (.region r198_2 [] (tO [1, 2, 4])) (.seq (.region r198_4 [] (tO [4])) .ret))
noncomputable def cm198_0 : MCode := cm198_0g 
theorem gm198_0 : cm198_0.Good Tryz.prog E198_0 sh198 := ⟨trivial, ⟨trivial, trivial⟩⟩
theorem fm198_0g   (α : Type) (k : List RV → Option α) : Fn198_0 (f198_0g ) α k = pa198_0.unc fun ds => fnM Tryz.prog (E198_0g ) sh198 (cm198_0g ) rs198 k ds := by kernel_rfl
theorem fm198_0 : ∀ (α : Type) (k : List RV → Option α), Fn198_0 f198_0 α k = pa198_0.unc fun ds => fnM Tryz.prog E198_0 sh198 cm198_0 rs198 k ds := fm198_0g 
theorem is198 : FnIs Tryz.prog 198 nt198 tr198 tl198 cm198_0.erase rs198 := ⟨Tryz.f198, Tryz.func198, rfl, by kernel_rfl, by kernel_rfl, by kernel_rfl⟩
theorem io198_0 : InstOk Tryz.prog 198 nt198 ⟨pa198_0, Fn198_0 f198_0⟩ := inst_ok eo198_0 followsTry is198 ⟨⟨sh198, cm198_0, by kernel_rfl, gm198_0, fm198_0⟩⟩
abbrev nt197 : Nat := 27
def sh197 : List (Nat × List Sh) := [(10, [.sl]), (16, [.sl]), (19, [.int .i64]), (20, [.int .i64])]
def r197_2 : List AOper := [oO 2 (.box (.tmp 0)), oO 4 (.mv (kI 0))]
def r197_4 : List AOper := [oO 5 (.mv (kI 0))]
def td197_7 : Option Tidy := (some ⟨[1, 2, 5], true, [⟨true, 2, 2, 30202, 1⟩, ⟨true, 2, 3, 30203, 1⟩, ⟨true, 2, 4, 30204, 1⟩], []⟩)
def r197_10 : List AOper := [oM 6 5, oO 7 (.bin .add 3 (.tmp 6) (kI 2)), oO 8 (.faddr 0 (.tmp 2)), oO 9 (.faddr 2 (.tmp 8)), oO 10 (.load false 1 (.tmp 9)), oO 11 (.len (.tmp 10)), oO 12 (.bin .lss 3 (.tmp 7) (.tmp 11)), oM 13 12, oG 14 (.faddr 0 (.tmp 2)) 13 true, oG 15 (.faddr 2 (.tmp 14)) 13 true, oG 16 (.load false 1 (.tmp 15)) 13 true, oG 17 (.mv (.tmp 5)) 13 true, oG 18 (.bin .add 3 (.tmp 17) (kI 1)) 13 true, oG 19 (.iaddr 1 none (.tmp 16) (.tmp 18)) 13 true, oG 20 (.load false 1 (.tmp 19)) 13 true, oG 21 (.mv (.tmp 1)) 13 true, oG 22 (.bin .leq 3 (.tmp 20) (.tmp 21)) 13 true, oO 23 (.pick (.tmp 13) (.tmp 22) (.const (.bool false)))]
def r197_13 : List AOper := [oM 24 5, oO 25 (.bin .add 3 (.tmp 24) (kI 1)), oM 5 25]
def r197_15 : List AOper := [oM 26 5, oM 4 26]
def tr197 : List (Nat × Tidy) := [tT 0 [1, 2], tT 1 [1, 2, 5], tT 2 [1, 2, 5, 23], tT 3 [1, 2, 5], tT 4 [4]]
def tl197 : List (Nat × Tidy) := [(2, ⟨[1, 2, 5], true, [⟨true, 2, 2, 30202, 1⟩, ⟨true, 2, 3, 30203, 1⟩, ⟨true, 2, 4, 30204, 1⟩], []⟩)]
def rs197 : List AResV := [.tmp 4]
def p197_0_0 : PT St := pS [sl 1 (aV false [(cD (dI .i64))]), sl 2 (aV false [(cPtr 2 0)]), sl 5 (aV false [(cD (dI .i64))])] [eBox 2 [(cD dS), (cD (dI .i64)), (cD dL), (cD dL), (cD dL), (cD (dI .i64)), (cD (dI .i64))]]
def u197_0_0 {β : Type} (g : St → β) : Int → Int → ByteArray → Int → Rows → Rows → Rows → Int → Int → β := p197_0_0.unc g
def p197_0_1 : PT St := pS [sl 1 (aV false [(cD (dI .i64))]), sl 2 (aV false [(cPtr 2 0)]), sl 5 (aV false [(cD (dI .i64))]), sl 23 (aV false [(cD dB)])] [eBox 2 [(cD dS), (cD (dI .i64)), (cD dL), (cD dL), (cD dL), (cD (dI .i64)), (cD (dI .i64))]]
def u197_0_1 {β : Type} (g : St → β) : Int → Int → Bool → ByteArray → Int → Rows → Rows → Rows → Int → Int → β := p197_0_1.unc g
def pr197_0_0 : PT (List RV) := pRs [pR false [rD (dI .i64)]]
def ur197_0_0 {β : Type} (g : List RV → β) : Int → β := pr197_0_0.unc g
def E197_0g  : EnvK := EnvK.of [] noSeq
noncomputable def E197_0 : EnvK := E197_0g 
theorem eo197_0 : E197_0.Ok Tryz.prog := EnvK.of_ok noSeq_ok trivial
noncomputable def c197_0_7g  : MCode := (.seq (.seq (.region r197_10 [] (tO [1, 2, 5, 23])) (.cond (.tmp 23) .skip (.exit 0))) (.block 1 (.region r197_13 [] (tO [1, 2, 5]))))
noncomputable def c197_0_7 : MCode := c197_0_7g 
theorem g197_0_7 : c197_0_7.Good Tryz.prog E197_0 sh197 := ⟨⟨trivial, ⟨trivial, trivial⟩⟩, trivial⟩
--CODE 7 0
def S197_0_0g  (α : Type) (x9 : Int) (x13 : Rows) (x10 : Int) (kn : Int → Option α) (k1 : Int → Bool → Option α) : Option α :=
 cK (decide ((w64 (x10 + 2)) < ((List.length x13 : Nat) : Int)))
 (rowK x13 (w64 (x10 + 1)) [.int .i64]
 (fun x19 => cK (decide (x19 ≤ x9))
 (kn (w64 (x10 + 1)))
 (k1 x10 (decide (x19 ≤ x9)))))
 (k1 x10 false)
noncomputable def S197_0_0 (α : Type) (x9 : Int) (x13 : Rows) (x10 : Int) (kn : Int → Option α) (k1 : Int → Bool → Option α) : Option α := S197_0_0g  α x9 x13 x10 kn k1
noncomputable def R197_0_0 (α : Type) (x9 : Int) (x13 : Rows) (k1 : Int → Bool → Option α) : Nat → Int → Option α
 | 0, _ => none
 | n + 1, x10 => S197_0_0 α x9 x13 x10 (R197_0_0 α x9 x13 k1 n) k1
noncomputable def L197_0_0 (α : Type) (x9 : Int) (x13 : Rows) (k1 : Int → Bool → Option α) (x10 : Int) : Option α := R197_0_0 α x9 x13 k1 fuel x10
abbrev TL197_0_0 : Type 1 := (α : Type) → Int → Rows → (Int → Bool → Option α) → Int → Option α
def F197_0_0 (v : TL197_0_0) (α : Type) (K : Exit → St → Option α) : Int → Int → ByteArray → Int → Rows → Rows → Rows → Int → Int → Option α := fun x9 x10 x11 x12 x13 x14 x15 x16 x17 => v α x9 x13 (fun (y1 : Int) (y2 : Bool) => u197_0_1 (K (.exit 0)) x9 y1 y2 x11 x12 x13 x14 x15 x16 x17) x10
theorem r197_0_0g   (α : Type) (K : Exit → St → Option α) (Kn : St → Option α) (x9 x10 : Int) (x11 : ByteArray) (x12 : Int) (x13 x14 x15 : Rows) (x16 x17 : Int) : u197_0_0 (fun σ => runM Tryz.prog (E197_0g ) sh197 (c197_0_7g ) (thenK (fun σ => tidyK td197_7 σ Kn) K) σ) x9 x10 x11 x12 x13 x14 x15 x16 x17 = S197_0_0g  α x9 x13 x10 (fun x10 => u197_0_0 Kn x9 x10 x11 x12 x13 x14 x15 x16 x17) (fun (y1 : Int) (y2 : Bool) => u197_0_1 (K (.exit 0)) x9 y1 y2 x11 x12 x13 x14 x15 x16 x17) := by kernel_rfl
theorem r197_0_0 (α : Type) (K : Exit → St → Option α) (Kn : St → Option α) (x9 x10 : Int) (x11 : ByteArray) (x12 : Int) (x13 x14 x15 : Rows) (x16 x17 : Int) : u197_0_0 (fun σ => runM Tryz.prog E197_0 sh197 c197_0_7 (thenK (fun σ => tidyK td197_7 σ Kn) K) σ) x9 x10 x11 x12 x13 x14 x15 x16 x17 = S197_0_0 α x9 x13 x10 (fun x10 => u197_0_0 Kn x9 x10 x11 x12 x13 x14 x15 x16 x17) (fun (y1 : Int) (y2 : Bool) => u197_0_1 (K (.exit 0)) x9 y1 y2 x11 x12 x13 x14 x15 x16 x17) := r197_0_0g  α K Kn x9 x10 x11 x12 x13 x14 x15 x16 x17
theorem t197_0_0 (α : Type) (K : Exit → St → Option α) : ∀ (n : Nat) (x9 x10 : Int) (x11 : ByteArray) (x12 : Int) (x13 x14 x15 : Rows) (x16 x17 : Int), R197_0_0 α x9 x13 (fun (y1 : Int) (y2 : Bool) => u197_0_1 (K (.exit 0)) x9 y1 y2 x11 x12 x13 x14 x15 x16 x17) n x10 = u197_0_0 (loopT (runM Tryz.prog E197_0 sh197 c197_0_7) td197_7 K n) x9 x10 x11 x12 x13 x14 x15 x16 x17 := by
 intro n
 induction n with
 | zero => intros; rfl
 | succ n ih => intro x9 x10 x11 x12 x13 x14 x15 x16 x17; exact (congrArg (fun kn => S197_0_0 α x9 x13 x10 kn (fun (y1 : Int) (y2 : Bool) => u197_0_1 (K (.exit 0)) x9 y1 y2 x11 x12 x13 x14 x15 x16 x17)) (funext fun x10 => ih x9 x10 x11 x12 x13 x14 x15 x16 x17)).trans (r197_0_0 α K (loopT (runM Tryz.prog E197_0 sh197 c197_0_7) td197_7 K n) x9 x10 x11 x12 x13 x14 x15 x16 x17).symm
theorem m197_0_0 : ∀ (α : Type) (K : Exit → St → Option α), F197_0_0 L197_0_0 α K = p197_0_0.unc fun σ => loopT (runM Tryz.prog E197_0 sh197 c197_0_7) td197_7 K fuel σ := fun α K => funext fun x9 => funext fun x10 => funext fun x11 => funext fun x12 => funext fun x13 => funext fun x14 => funext fun x15 => funext fun x16 => funext fun x17 => t197_0_0 α K fuel x9 x10 x11 x12 x13 x14 x15 x16 x17
abbrev Tf197_0 : Type 1 := (α : Type) → ByteArray → Int → Rows → Rows → Rows → Int → Int → Int → (Int → Option α) → Option α
def f197_0g (vL197_0_0 : TL197_0_0) (α : Type) (x1 : ByteArray) (x2 : Int) (x3 x4 x5 : Rows) (x6 x7 x8 : Int) (k1 : Int → Option α) : Option α :=
 vL197_0_0 α x8 x3
 (fun x20 x21 => k1 x20) 0
noncomputable def f197_0 (α : Type) (x1 : ByteArray) (x2 : Int) (x3 x4 x5 : Rows) (x6 x7 x8 : Int) (k1 : Int → Option α) : Option α := f197_0g L197_0_0 α x1 x2 x3 x4 x5 x6 x7 x8 k1
def pa197_0 : PT (List DV) := pA [pV true [dS, (dI .i64), dL, dL, dL, (dI .i64), (dI .i64)], pV false [(dI .i64)]]
def Fn197_0 (v : Tf197_0) (α : Type) (k : List RV → Option α) : ByteArray → Int → Rows → Rows → Rows → Int → Int → Int → Option α := fun x1 x2 x3 x4 x5 x6 x7 x8 => v α x1 x2 x3 x4 x5 x6 x7 x8 (fun (y1 : Int) => ur197_0_0 k y1)
noncomputable def cm197_0g (vL197_0_0 : TL197_0_0) : MCode := (.seq (.region r197_2 [] (tO [1, 2])) (.seq (.region r197_4 [] (tO [1, 2, 5])) (.seq (.block 0 (.loop td197_7 [⟨p197_0_0, F197_0_0 vL197_0_0⟩] c197_0_7)) (.seq (.region r197_15 [] (tO [4])) .ret))))
noncomputable def cm197_0 : MCode := cm197_0g L197_0_0
theorem gm197_0 : cm197_0.Good Tryz.prog E197_0 sh197 := ⟨trivial, ⟨trivial, ⟨⟨g197_0_7, m197_0_0, trivial⟩, ⟨trivial, trivial⟩⟩⟩⟩
theorem fm197_0g  (vL197_0_0 : TL197_0_0) (α : Type) (k : List RV → Option α) : Fn197_0 (f197_0g vL197_0_0) α k = pa197_0.unc fun ds => fnM Tryz.prog (E197_0g ) sh197 (cm197_0g vL197_0_0) rs197 k ds := by kernel_rfl
theorem fm197_0 : ∀ (α : Type) (k : List RV → Option α), Fn197_0 f197_0 α k = pa197_0.unc fun ds => fnM Tryz.prog E197_0 sh197 cm197_0 rs197 k ds := fm197_0g L197_0_0
theorem is197 : FnIs Tryz.prog 197 nt197 tr197 tl197 cm197_0.erase rs197 := ⟨Tryz.f197, Tryz.func197, rfl, by kernel_rfl, by kernel_rfl, by kernel_rfl⟩
theorem io197_0 : InstOk Tryz.prog 197 nt197 ⟨pa197_0, Fn197_0 f197_0⟩ := inst_ok eo197_0 followsTry is197 ⟨⟨sh197, cm197_0, by kernel_rfl, gm197_0, fm197_0⟩⟩
abbrev nt201 : Nat := 5
def sh201 : List (Nat × List Sh) := []
def r201_2 : List AOper := [oO 2 (.box (.tmp 0)), oO 4 (.mv (.const (.bool false)))]
def r201_4 : List AOper := [oO 4 (.mv (.const (.bool true)))]
def tr201 : List (Nat × Tidy) := [tT 0 [], tT 1 [4]]
def tl201 : List (Nat × Tidy) := []
def rs201 : List AResV := [.tmp 4]
def pr201_0_0 : PT (List RV) := pRs [pR false [rD dB]]
def ur201_0_0 {β : Type} (g : List RV → β) : Bool → β := pr201_0_0.unc g
def E201_0g  : EnvK := EnvK.of [] noSeq
noncomputable def E201_0 : EnvK := E201_0g 
theorem eo201_0 : E201_0.Ok Tryz.prog := EnvK.of_ok noSeq_ok trivial
abbrev Tf201_0 : Type 1 := (α : Type) → Int → Int → Int → (Option α) → Option α
def f201_0g  (α : Type) (x1 x2 x3 : Int) (k1 : Option α) : Option α :=
 k1
noncomputable def f201_0 (α : Type) (x1 x2 x3 : Int) (k1 : Option α) : Option α := f201_0g  α x1 x2 x3 k1
def pa201_0 : PT (List DV) := pA [pV true [(dI .i64), (dI .i64)], pV false [(dI .i64)]]
def Fn201_0 (v : Tf201_0) (α : Type) (k : List RV → Option α) : Int → Int → Int → Option α := fun x1 x2 x3 => v α x1 x2 x3 (ur201_0_0 k true)
noncomputable def cm201_0g  : MCode := (.seq (.region r201_2 [] (tO [])) (.seq (.region r201_4 [] (tO [4])) .ret))
noncomputable def cm201_0 : MCode := cm201_0g 
theorem gm201_0 : cm201_0.Good Tryz.prog E201_0 sh201 := ⟨trivial, ⟨trivial, trivial⟩⟩
theorem fm201_0g   (α : Type) (k : List RV → Option α) : Fn201_0 (f201_0g ) α k = pa201_0.unc fun ds => fnM Tryz.prog (E201_0g ) sh201 (cm201_0g ) rs201 k ds := by kernel_rfl
theorem fm201_0 : ∀ (α : Type) (k : List RV → Option α), Fn201_0 f201_0 α k = pa201_0.unc fun ds => fnM Tryz.prog E201_0 sh201 cm201_0 rs201 k ds := fm201_0g 
theorem is201 : FnIs Tryz.prog 201 nt201 tr201 tl201 cm201_0.erase rs201 := ⟨Tryz.f201, Tryz.func201, rfl, by kernel_rfl, by kernel_rfl, by kernel_rfl⟩
theorem io201_0 : InstOk Tryz.prog 201 nt201 ⟨pa201_0, Fn201_0 f201_0⟩ := inst_ok eo201_0 followsTry is201 ⟨⟨sh201, cm201_0, by kernel_rfl, gm201_0, fm201_0⟩⟩
abbrev nt150 : Nat := 7
def sh150 : List (Nat × List Sh) := []
def r150_2 : List AOper := [oO 2 (.mv (.const (.float Go.FloatKind.f64 0)))]
def r150_6 : List AOper := [oM 3 0, oO 4 (.pure (oB (.call { callee := .value (.func 162), args := #[(.tmp 3)], argTypes := #[117] }) 117)), oM 2 4]
def r150_8 : List AOper := [oM 5 0, oO 6 (.call 163 [(.tmp 5)]), oM 2 6]
def tr150 : List (Nat × Tidy) := [tT 0 [0], tT 1 [2], tT 2 [2]]
def tl150 : List (Nat × Tidy) := []
def rs150 : List AResV := [.tmp 2]
def pr150_0_0 : PT (List RV) := pRs [pR false [rD (dNan .f64)]]
def ur150_0_0 {β : Type} (g : List RV → β) : β := pr150_0_0.unc g
def pr150_0_1 : PT (List RV) := pRs [pR false [rD (dF .f64)]]
def ur150_0_1 {β : Type} (g : List RV → β) : Nat → β := pr150_0_1.unc g
def E150_0g  : EnvK := EnvK.of [] noSeq
noncomputable def E150_0 : EnvK := E150_0g 
theorem eo150_0 : E150_0.Ok Tryz.prog := EnvK.of_ok noSeq_ok trivial
abbrev Tf150_0 : Type 1 := (α : Type) → Nat → (Option α) → (Nat → Option α) → Option α
def f150_0g  (α : Type) (x1 : Nat) (k1 : Option α) (k2 : Nat → Option α) : Option α :=
 cK (isNaNb .f64 x1)
 (k1)
 (k2 (truncF x1))
noncomputable def f150_0 (α : Type) (x1 : Nat) (k1 : Option α) (k2 : Nat → Option α) : Option α := f150_0g  α x1 k1 k2
def pa150_0 : PT (List DV) := pA [pV false [(dF .f64)]]
def Fn150_0 (v : Tf150_0) (α : Type) (k : List RV → Option α) : Nat → Option α := fun x1 => v α x1 (ur150_0_0 k ) (fun (y1 : Nat) => ur150_0_1 k y1)
noncomputable def cm150_0g  : MCode := (.seq (.region r150_2 [] (tO [0])) (.seq (.cond (.const (.bool true)) (.seq (.region r150_6 [] (tO [2])) .ret) .skip) (.seq (.region r150_8 [] (tO [2])) .ret)))
noncomputable def cm150_0 : MCode := cm150_0g 
theorem gm150_0 : cm150_0.Good Tryz.prog E150_0 sh150 := ⟨trivial, ⟨⟨⟨trivial, trivial⟩, trivial⟩, ⟨trivial, trivial⟩⟩⟩
theorem fm150_0g   (α : Type) (k : List RV → Option α) : Fn150_0 (f150_0g ) α k = pa150_0.unc fun ds => fnM Tryz.prog (E150_0g ) sh150 (cm150_0g ) rs150 k ds := by kernel_rfl
theorem fm150_0 : ∀ (α : Type) (k : List RV → Option α), Fn150_0 f150_0 α k = pa150_0.unc fun ds => fnM Tryz.prog E150_0 sh150 cm150_0 rs150 k ds := fm150_0g 
theorem is150 : FnIs Tryz.prog 150 nt150 tr150 tl150 cm150_0.erase rs150 := ⟨Tryz.f150, Tryz.func150, rfl, by kernel_rfl, by kernel_rfl, by kernel_rfl⟩
theorem io150_0 : InstOk Tryz.prog 150 nt150 ⟨pa150_0, Fn150_0 f150_0⟩ := inst_ok eo150_0 followsTry is150 ⟨⟨sh150, cm150_0, by kernel_rfl, gm150_0, fm150_0⟩⟩
abbrev nt129 : Nat := 7
def sh129 : List (Nat × List Sh) := []
def r129_2 : List AOper := [oO 2 (.mv (.const (.float Go.FloatKind.f64 0)))]
def r129_4 : List AOper := [oM 3 0, oO 4 (.pure (oB (.call { callee := .value (.func 110), args := #[(.tmp 3)], argTypes := #[117] }) 164)), oO 5 (.bin .andNot 164 (.tmp 4) (.const (.int .u64 9223372036854775808))), oO 6 (.pure (oB (.call { callee := .value (.func 152), args := #[(.tmp 5)], argTypes := #[164] }) 117)), oM 2 6]
def tr129 : List (Nat × Tidy) := [tT 0 [0], tT 1 [2]]
def tl129 : List (Nat × Tidy) := []
def rs129 : List AResV := [.tmp 2]
def pr129_0_0 : PT (List RV) := pRs [pR false [rD (dF .f64)]]
def ur129_0_0 {β : Type} (g : List RV → β) : Nat → β := pr129_0_0.unc g
def E129_0g  : EnvK := EnvK.of [] noSeq
noncomputable def E129_0 : EnvK := E129_0g 
theorem eo129_0 : E129_0.Ok Tryz.prog := EnvK.of_ok noSeq_ok trivial
abbrev Tf129_0 : Type 1 := (α : Type) → Nat → (Nat → Option α) → Option α
def f129_0g  (α : Type) (x1 : Nat) (k1 : Nat → Option α) : Option α :=
 k1 (Int.toNat (iAndNot .u64 ((x1 : Nat) : Int) 9223372036854775808))
noncomputable def f129_0 (α : Type) (x1 : Nat) (k1 : Nat → Option α) : Option α := f129_0g  α x1 k1
def pa129_0 : PT (List DV) := pA [pV false [(dF .f64)]]
def Fn129_0 (v : Tf129_0) (α : Type) (k : List RV → Option α) : Nat → Option α := fun x1 => v α x1 (fun (y1 : Nat) => ur129_0_0 k y1)
noncomputable def cm129_0g  : MCode := (.seq (.region r129_2 [] (tO [0])) (.seq (.region r129_4 [] (tO [2])) .ret))
noncomputable def cm129_0 : MCode := cm129_0g 
theorem gm129_0 : cm129_0.Good Tryz.prog E129_0 sh129 := ⟨trivial, ⟨trivial, trivial⟩⟩
theorem fm129_0g   (α : Type) (k : List RV → Option α) : Fn129_0 (f129_0g ) α k = pa129_0.unc fun ds => fnM Tryz.prog (E129_0g ) sh129 (cm129_0g ) rs129 k ds := by kernel_rfl
theorem fm129_0 : ∀ (α : Type) (k : List RV → Option α), Fn129_0 f129_0 α k = pa129_0.unc fun ds => fnM Tryz.prog E129_0 sh129 cm129_0 rs129 k ds := fm129_0g 
theorem is129 : FnIs Tryz.prog 129 nt129 tr129 tl129 cm129_0.erase rs129 := ⟨Tryz.f129, Tryz.func129, rfl, by kernel_rfl, by kernel_rfl, by kernel_rfl⟩
theorem io129_0 : InstOk Tryz.prog 129 nt129 ⟨pa129_0, Fn129_0 f129_0⟩ := inst_ok eo129_0 followsTry is129 ⟨⟨sh129, cm129_0, by kernel_rfl, gm129_0, fm129_0⟩⟩
abbrev nt174 : Nat := 6
def sh174 : List (Nat × List Sh) := []
def r174_2 : List AOper := [oO 2 (.mv (.const (.bool false)))]
def r174_4 : List AOper := [oM 3 0, oM 4 0, oO 5 (.bin .neq 117 (.tmp 3) (.tmp 4)), oM 2 5]
def tr174 : List (Nat × Tidy) := [tT 0 [0], tT 1 [2]]
def tl174 : List (Nat × Tidy) := []
def rs174 : List AResV := [.tmp 2]
def pr174_0_0 : PT (List RV) := pRs [pR false [rD dB]]
def ur174_0_0 {β : Type} (g : List RV → β) : Bool → β := pr174_0_0.unc g
def E174_0g  : EnvK := EnvK.of [] noSeq
noncomputable def E174_0 : EnvK := E174_0g 
theorem eo174_0 : E174_0.Ok Tryz.prog := EnvK.of_ok noSeq_ok trivial
abbrev Tf174_0 : Type 1 := (α : Type) → (Option α) → Option α
def f174_0g  (α : Type)  (k1 : Option α) : Option α :=
 k1
noncomputable def f174_0 (α : Type)  (k1 : Option α) : Option α := f174_0g  α  k1
def pa174_0 : PT (List DV) := pA [pV false [(dNan .f64)]]
def Fn174_0 (v : Tf174_0) (α : Type) (k : List RV → Option α) : Option α := v α  (ur174_0_0 k true)
noncomputable def cm174_0g  : MCode := (.seq (.region r174_2 [] (tO [0])) (.seq (.region r174_4 [] (tO [2])) .ret))
noncomputable def cm174_0 : MCode := cm174_0g 
theorem gm174_0 : cm174_0.Good Tryz.prog E174_0 sh174 := ⟨trivial, ⟨trivial, trivial⟩⟩
theorem fm174_0g   (α : Type) (k : List RV → Option α) : Fn174_0 (f174_0g ) α k = pa174_0.unc fun ds => fnM Tryz.prog (E174_0g ) sh174 (cm174_0g ) rs174 k ds := by kernel_rfl
theorem fm174_0 : ∀ (α : Type) (k : List RV → Option α), Fn174_0 f174_0 α k = pa174_0.unc fun ds => fnM Tryz.prog E174_0 sh174 cm174_0 rs174 k ds := fm174_0g 
theorem is174 : FnIs Tryz.prog 174 nt174 tr174 tl174 cm174_0.erase rs174 := ⟨Tryz.f174, Tryz.func174, rfl, by kernel_rfl, by kernel_rfl, by kernel_rfl⟩
theorem io174_0 : InstOk Tryz.prog 174 nt174 ⟨pa174_0, Fn174_0 f174_0⟩ := inst_ok eo174_0 followsTry is174 ⟨⟨sh174, cm174_0, by kernel_rfl, gm174_0, fm174_0⟩⟩
def pr174_1_0 : PT (List RV) := pRs [pR false [rD dB]]
def ur174_1_0 {β : Type} (g : List RV → β) : Bool → β := pr174_1_0.unc g
def E174_1g  : EnvK := EnvK.of [] noSeq
noncomputable def E174_1 : EnvK := E174_1g 
theorem eo174_1 : E174_1.Ok Tryz.prog := EnvK.of_ok noSeq_ok trivial
abbrev Tf174_1 : Type 1 := (α : Type) → Nat → (Bool → Option α) → Option α
def f174_1g  (α : Type) (x1 : Nat) (k1 : Bool → Option α) : Option α :=
 k1 ((FloatKind.format .f64).order x1 x1 != some Ordering.eq)
noncomputable def f174_1 (α : Type) (x1 : Nat) (k1 : Bool → Option α) : Option α := f174_1g  α x1 k1
def pa174_1 : PT (List DV) := pA [pV false [(dF .f64)]]
def Fn174_1 (v : Tf174_1) (α : Type) (k : List RV → Option α) : Nat → Option α := fun x1 => v α x1 (fun (y1 : Bool) => ur174_1_0 k y1)
noncomputable def cm174_1g  : MCode := (.seq (.region r174_2 [] (tO [0])) (.seq (.region r174_4 [] (tO [2])) .ret))
noncomputable def cm174_1 : MCode := cm174_1g 
theorem gm174_1 : cm174_1.Good Tryz.prog E174_1 sh174 := ⟨trivial, ⟨trivial, trivial⟩⟩
theorem fm174_1g   (α : Type) (k : List RV → Option α) : Fn174_1 (f174_1g ) α k = pa174_1.unc fun ds => fnM Tryz.prog (E174_1g ) sh174 (cm174_1g ) rs174 k ds := by kernel_rfl
theorem fm174_1 : ∀ (α : Type) (k : List RV → Option α), Fn174_1 f174_1 α k = pa174_1.unc fun ds => fnM Tryz.prog E174_1 sh174 cm174_1 rs174 k ds := fm174_1g 
theorem io174_1 : InstOk Tryz.prog 174 nt174 ⟨pa174_1, Fn174_1 f174_1⟩ := inst_ok eo174_1 followsTry is174 ⟨⟨sh174, cm174_1, by kernel_rfl, gm174_1, fm174_1⟩⟩
abbrev nt51 : Nat := 15
def sh51 : List (Nat × List Sh) := []
def r51_2 : List AOper := [oO 6 (.mv (.const (.bool false)))]
def r51_4 : List AOper := [oM 7 0, oM 8 1, oO 9 (.bin .geq 3 (.tmp 7) (.tmp 8)), oM 10 9, oG 11 (.mv (.tmp 0)) 10 true, oG 12 (.mv (.tmp 2)) 10 true, oG 13 (.bin .leq 3 (.tmp 11) (.tmp 12)) 10 true, oO 14 (.pick (.tmp 10) (.tmp 13) (.const (.bool false))), oM 6 14]
def tr51 : List (Nat × Tidy) := [tT 0 [0, 1, 2], tT 1 [6]]
def tl51 : List (Nat × Tidy) := []
def rs51 : List AResV := [.tmp 6]
def pr51_0_0 : PT (List RV) := pRs [pR false [rD dB]]
def ur51_0_0 {β : Type} (g : List RV → β) : Bool → β := pr51_0_0.unc g
def E51_0g  : EnvK := EnvK.of [] noSeq
noncomputable def E51_0 : EnvK := E51_0g 
theorem eo51_0 : E51_0.Ok Tryz.prog := EnvK.of_ok noSeq_ok trivial
abbrev Tf51_0 : Type 1 := (α : Type) → Int → Int → Int → (Bool → Option α) → Option α
def f51_0g  (α : Type) (x1 x2 x3 : Int) (k1 : Bool → Option α) : Option α :=
 cK (decide (x2 ≤ x1))
 (k1 (decide (x1 ≤ x3)))
 (k1 false)
noncomputable def f51_0 (α : Type) (x1 x2 x3 : Int) (k1 : Bool → Option α) : Option α := f51_0g  α x1 x2 x3 k1
def pa51_0 : PT (List DV) := pA [pV false [(dI .i64)], pV false [(dI .i64)], pV false [(dI .i64)]]
def Fn51_0 (v : Tf51_0) (α : Type) (k : List RV → Option α) : Int → Int → Int → Option α := fun x1 x2 x3 => v α x1 x2 x3 (fun (y1 : Bool) => ur51_0_0 k y1)
noncomputable def cm51_0g  : MCode := (.seq (.region r51_2 [] (tO [0, 1, 2])) (.seq (.region r51_4 [] (tO [6])) .ret))
noncomputable def cm51_0 : MCode := cm51_0g 
theorem gm51_0 : cm51_0.Good Tryz.prog E51_0 sh51 := ⟨trivial, ⟨trivial, trivial⟩⟩
theorem fm51_0g   (α : Type) (k : List RV → Option α) : Fn51_0 (f51_0g ) α k = pa51_0.unc fun ds => fnM Tryz.prog (E51_0g ) sh51 (cm51_0g ) rs51 k ds := by kernel_rfl
theorem fm51_0 : ∀ (α : Type) (k : List RV → Option α), Fn51_0 f51_0 α k = pa51_0.unc fun ds => fnM Tryz.prog E51_0 sh51 cm51_0 rs51 k ds := fm51_0g 
theorem is51 : FnIs Tryz.prog 51 nt51 tr51 tl51 cm51_0.erase rs51 := ⟨Tryz.f51, Tryz.func51, rfl, by kernel_rfl, by kernel_rfl, by kernel_rfl⟩
theorem io51_0 : InstOk Tryz.prog 51 nt51 ⟨pa51_0, Fn51_0 f51_0⟩ := inst_ok eo51_0 followsTry is51 ⟨⟨sh51, cm51_0, by kernel_rfl, gm51_0, fm51_0⟩⟩
abbrev nt141 : Nat := 54
def sh141 : List (Nat × List Sh) := [(12, [.int .u8]), (13, [.int .u8])]
def r141_2 : List AOper := [oO 2 (.mv (.const (.bool false)))]
def r141_5 : List AOper := [oM 6 0, oO 7 (.bytes (.tmp 6)), oO 8 (.len (.tmp 7)), oO 9 (.mv (kI 0))]
def td141_7 : Option Tidy := (some ⟨[0, 7, 8, 9], true, [⟨false, 7, 0, 20007, 1⟩], []⟩)
def r141_9 : List AOper := [oO 10 (.bin .lss 3 (.tmp 9) (.tmp 8))]
def r141_15 : List AOper := [oM 11 9, oO 12 (.iaddr 1 none (.tmp 7) (.tmp 9)), oO 13 (.load false 1 (.tmp 12)), oM 3 11, oM 4 13]
def r141_17 : List AOper := [oM 14 4, oO 15 (.bin .geq 5 (.tmp 14) (.const (.int .u8 97))), oM 16 15, oG 17 (.mv (.tmp 4)) 16 true, oG 18 (.bin .leq 5 (.tmp 17) (.const (.int .u8 122))) 16 true, oO 19 (.pick (.tmp 16) (.tmp 18) (.const (.bool false))), oM 20 19, oG 21 (.mv (.tmp 4)) 20 false, oG 22 (.bin .geq 5 (.tmp 21) (.const (.int .u8 65))) 20 false, oG 23 (.mv (.tmp 22)) 20 false, oG 24 (.mv (.tmp 4)) 23 true, oG 25 (.bin .leq 5 (.tmp 24) (.const (.int .u8 90))) 23 true, oG 26 (.pick (.tmp 23) (.tmp 25) (.const (.bool false))) 20 false, oO 27 (.pick (.tmp 20) (.const (.bool true)) (.tmp 26)), oM 5 27]
def r141_19 : List AOper := [oM 28 5, oO 29 (.pure (oB (.unOp .not 4 (.tmp 28)) 4)), oM 30 29, oG 31 (.mv (.tmp 3)) 30 true, oG 32 (.bin .eql 3 (.tmp 31) (kI 0)) 30 true, oG 33 (.mv (.tmp 32)) 30 true, oG 34 (.mv (.tmp 4)) 33 false, oG 35 (.bin .neq 5 (.tmp 34) (.const (.int .u8 45))) 33 false, oG 36 (.mv (.tmp 35)) 33 false, oG 37 (.mv (.tmp 4)) 36 true, oG 38 (.bin .lss 5 (.tmp 37) (.const (.int .u8 48))) 36 true, oG 39 (.mv (.tmp 38)) 36 true, oG 40 (.mv (.tmp 4)) 39 false, oG 41 (.bin .gtr 5 (.tmp 40) (.const (.int .u8 57))) 39 false, oG 42 (.pick (.tmp 39) (.const (.bool true)) (.tmp 41)) 36 true, oG 43 (.pick (.tmp 36) (.tmp 42) (.const (.bool false))) 33 false, oG 44 (.pick (.tmp 33) (.const (.bool true)) (.tmp 43)) 30 true, oO 45 (.pick (.tmp 30) (.tmp 44) (.const (.bool false)))]
def r141_22 : List AOper := [oO 2 (.mv (.const (.bool false)))]
def r141_23 : List AOper := [oO 46 (.bin .add 3 (.tmp 9) (kI 1)), oM 9 46]
def r141_25 : List AOper := [oM 47 0, ⟨(some 48), (.bin .neq 9 (.tmp 47) (.const (.string ⟨#[]⟩))), none⟩, oM 49 48, oG 50 (.mv (.tmp 0)) 49 true, oG 51 (.pure (oB (.call { callee := .builtin .len, args := #[(.tmp 50)], argTypes := #[9] }) 3)) 49 true, oG 52 (.bin .leq 3 (.tmp 51) (kI 12)) 49 true, oO 53 (.pick (.tmp 49) (.tmp 52) (.const (.bool false))), oM 2 53]
def tr141 : List (Nat × Tidy) := [tT 0 [0], tT 1 [0, 7, 8, 9], tT 2 [0, 7, 8, 9, 10], tT 3 [0, 3, 4, 7, 8, 9], tT 4 [0, 3, 4, 5, 7, 8, 9], tT 5 [0, 7, 8, 9, 45], tT 6 [2], tT 7 [0, 7, 8, 9], tT 8 [2]]
def tl141 : List (Nat × Tidy) := [(2, ⟨[0, 7, 8, 9], true, [⟨false, 7, 0, 20007, 1⟩], []⟩)]
def rs141 : List AResV := [.tmp 2]
def p141_0_0 : PT St := pS [sl 0 (aV false [(cD dS)]), sl 3 (aV false [(cD (dI .i64))]), sl 4 (aV false [(cD (dI .u8))]), sl 7 (aV false [(cRef 20007)]), sl 8 (aV false [(cD (dI .i64))]), sl 9 (aV false [(cD (dI .i64))])] [eOwn 20007 1]
def u141_0_0 {β : Type} (g : St → β) : ByteArray → Int → Int → Int → Int → Rows → β := p141_0_0.unc g
def p141_0_1 : PT St := pS [sl 0 (aV false [(cD dS)]), sl 3 (aV false [(cD (dI .i64))]), sl 4 (aV false [(cD (dI .u8))]), sl 5 (aV false [(cD dB)]), sl 7 (aV false [(cRef 20007)]), sl 8 (aV false [(cD (dI .i64))]), sl 9 (aV false [(cD (dI .i64))])] [eOwn 20007 1]
def u141_0_1 {β : Type} (g : St → β) : ByteArray → Int → Int → Bool → Int → Int → Rows → β := p141_0_1.unc g
def p141_0_2 : PT St := pS [sl 0 (aV false [(cD dS)]), sl 7 (aV false [(cRef 20007)]), sl 8 (aV false [(cD (dI .i64))]), sl 9 (aV false [(cD (dI .i64))]), sl 45 (aV false [(cD dB)])] [eOwn 20007 1]
def u141_0_2 {β : Type} (g : St → β) : ByteArray → Int → Int → Bool → Rows → β := p141_0_2.unc g
def p141_0_3 : PT St := pS [sl 0 (aV false [(cD dS)]), sl 7 (aV false [(cRef 20007)]), sl 8 (aV false [(cD (dI .i64))]), sl 9 (aV false [(cD (dI .i64))])] [eOwn 20007 1]
def u141_0_3 {β : Type} (g : St → β) : ByteArray → Int → Int → Rows → β := p141_0_3.unc g
def p141_0_4 : PT St := pS [sl 2 (aV false [(cD dB)])] []
def u141_0_4 {β : Type} (g : St → β) : Bool → β := p141_0_4.unc g
def p141_0_5 : PT St := pS [sl 0 (aV false [(cD dS)]), sl 7 (aV false [(cRef 20007)]), sl 8 (aV false [(cD (dI .i64))]), sl 9 (aV false [(cD (dI .i64))]), sl 10 (aV false [(cD dB)])] [eOwn 20007 1]
def u141_0_5 {β : Type} (g : St → β) : ByteArray → Int → Int → Bool → Rows → β := p141_0_5.unc g
def pr141_0_0 : PT (List RV) := pRs [pR false [rD dB]]
def ur141_0_0 {β : Type} (g : List RV → β) : Bool → β := pr141_0_0.unc g
def E141_0g  : EnvK := EnvK.of [] noSeq
noncomputable def E141_0 : EnvK := E141_0g 
theorem eo141_0 : E141_0.Ok Tryz.prog := EnvK.of_ok noSeq_ok trivial
noncomputable def c141_0_18g  : MCode := (.region r141_19 [] (tO [0, 7, 8, 9, 45]))
noncomputable def c141_0_18 : MCode := c141_0_18g 
theorem g141_0_18 : c141_0_18.Good Tryz.prog E141_0 sh141 := trivial
--CODE 18 0
abbrev TJ141_0_1 : Type 1 := (α : Type) → Int → Int → Bool → (Bool → Option α) → Option α
def J141_0_1g  (α : Type) (x18 x19 : Int) (x20 : Bool) (k1 : Bool → Option α) : Option α :=
 cK (!x20)
 (cK (x18 == 0)
 (k1 true)
 (cK (x19 != 45)
 (cK (decide (x19 < 48))
 (k1 true)
 (k1 (decide (57 < x19))))
 (k1 false)))
 (k1 false)
noncomputable def J141_0_1 (α : Type) (x18 x19 : Int) (x20 : Bool) (k1 : Bool → Option α) : Option α := J141_0_1g  α x18 x19 x20 k1
def F141_0_1 (v : TJ141_0_1) (α : Type) (K : Exit → St → Option α) : ByteArray → Int → Int → Bool → Int → Int → Rows → Option α := fun x17 x18 x19 x20 x21 x22 x23 => v α x18 x19 x20 (fun (y1 : Bool) => u141_0_2 (K .normal) x17 x21 x22 y1 x23) 
theorem m141_0_1g   (α : Type) (K : Exit → St → Option α) : F141_0_1 (J141_0_1g ) α K = p141_0_1.unc fun σ => runM Tryz.prog (E141_0g ) sh141 (c141_0_18g ) K σ := by kernel_rfl
theorem m141_0_1 : ∀ (α : Type) (K : Exit → St → Option α), F141_0_1 J141_0_1 α K = p141_0_1.unc fun σ => runM Tryz.prog E141_0 sh141 c141_0_18 K σ := m141_0_1g 
noncomputable def c141_0_16g  : MCode := (.region r141_17 [] (tO [0, 3, 4, 5, 7, 8, 9]))
noncomputable def c141_0_16 : MCode := c141_0_16g 
theorem g141_0_16 : c141_0_16.Good Tryz.prog E141_0 sh141 := trivial
--CODE 16 0
abbrev TJ141_0_0 : Type 1 := (α : Type) → Int → (Bool → Option α) → Option α
def J141_0_0g  (α : Type) (x10 : Int) (k1 : Bool → Option α) : Option α :=
 cK (decide (97 ≤ x10))
 (cK (decide (x10 ≤ 122))
 (k1 true)
 (cK (decide (65 ≤ x10))
 (k1 (decide (x10 ≤ 90)))
 (k1 false)))
 (cK (decide (65 ≤ x10))
 (k1 (decide (x10 ≤ 90)))
 (k1 false))
noncomputable def J141_0_0 (α : Type) (x10 : Int) (k1 : Bool → Option α) : Option α := J141_0_0g  α x10 k1
def F141_0_0 (v : TJ141_0_0) (α : Type) (K : Exit → St → Option α) : ByteArray → Int → Int → Int → Int → Rows → Option α := fun x8 x9 x10 x11 x12 x13 => v α x10 (fun (y1 : Bool) => u141_0_1 (K .normal) x8 x9 x10 y1 x11 x12 x13) 
theorem m141_0_0g   (α : Type) (K : Exit → St → Option α) : F141_0_0 (J141_0_0g ) α K = p141_0_0.unc fun σ => runM Tryz.prog (E141_0g ) sh141 (c141_0_16g ) K σ := by kernel_rfl
theorem m141_0_0 : ∀ (α : Type) (K : Exit → St → Option α), F141_0_0 J141_0_0 α K = p141_0_0.unc fun σ => runM Tryz.prog E141_0 sh141 c141_0_16 K σ := m141_0_0g 
noncomputable def c141_0_7g (vJ141_0_0 : TJ141_0_0) (vJ141_0_1 : TJ141_0_1) : MCode := (.seq (.region r141_9 [] (tO [0, 7, 8, 9, 10])) (.seq (.cond (.tmp 10) .skip (.exit 0)) (.seq (.block 1 (.seq (.region r141_15 [] (tO [0, 3, 4, 7, 8, 9])) (.seq (.mark [⟨p141_0_0, F141_0_0 vJ141_0_0⟩] c141_0_16) (.seq (.mark [⟨p141_0_1, F141_0_1 vJ141_0_1⟩] c141_0_18) (.cond (.tmp 45) (.seq (.region r141_22 [] (tO [2])) .ret) .skip))))) (.region r141_23 [] (tO [0, 7, 8, 9])))))
noncomputable def c141_0_7 : MCode := c141_0_7g J141_0_0 J141_0_1
theorem g141_0_7 : c141_0_7.Good Tryz.prog E141_0 sh141 := ⟨trivial, ⟨⟨trivial, trivial⟩, ⟨⟨trivial, ⟨⟨g141_0_16, m141_0_0, trivial⟩, ⟨⟨g141_0_18, m141_0_1, trivial⟩, ⟨⟨trivial, trivial⟩, trivial⟩⟩⟩⟩, trivial⟩⟩⟩
--CODE 7 0
def S141_0_2g (vJ141_0_0 : TJ141_0_0) (vJ141_0_1 : TJ141_0_1) (α : Type) (x3 : Int) (x5 : Rows) (x4 : Int) (kn : Int → Option α) (k1 : Option α) (k2 : Int → Bool → Option α) : Option α :=
 cK (decide (x4 < x3))
 (ixK x5 x4 1
 (ldK x5 (Int.toNat x4) 0 [.int .u8]
 (fun x7 => vJ141_0_0 α x7
 (fun x15 => vJ141_0_1 α x4 x7 x15
 (fun x25 => cK x25
 (k1)
 (kn (w64 (x4 + 1))))))))
 (k2 x4 (decide (x4 < x3)))
noncomputable def S141_0_2 (α : Type) (x3 : Int) (x5 : Rows) (x4 : Int) (kn : Int → Option α) (k1 : Option α) (k2 : Int → Bool → Option α) : Option α := S141_0_2g J141_0_0 J141_0_1 α x3 x5 x4 kn k1 k2
noncomputable def R141_0_2 (α : Type) (x3 : Int) (x5 : Rows) (k1 : Option α) (k2 : Int → Bool → Option α) : Nat → Int → Option α
 | 0, _ => none
 | n + 1, x4 => S141_0_2 α x3 x5 x4 (R141_0_2 α x3 x5 k1 k2 n) k1 k2
noncomputable def L141_0_2 (α : Type) (x3 : Int) (x5 : Rows) (k1 : Option α) (k2 : Int → Bool → Option α) (x4 : Int) : Option α := R141_0_2 α x3 x5 k1 k2 fuel x4
abbrev TL141_0_2 : Type 1 := (α : Type) → Int → Rows → (Option α) → (Int → Bool → Option α) → Int → Option α
def F141_0_2 (v : TL141_0_2) (α : Type) (K : Exit → St → Option α) : ByteArray → Int → Int → Rows → Option α := fun x2 x3 x4 x5 => v α x3 x5 (u141_0_4 (K .ret) false) (fun (y1 : Int) (y2 : Bool) => u141_0_5 (K (.exit 0)) x2 x3 y1 y2 x5) x4
theorem r141_0_2g  (vJ141_0_0 : TJ141_0_0) (vJ141_0_1 : TJ141_0_1) (α : Type) (K : Exit → St → Option α) (Kn : St → Option α) (x2 : ByteArray) (x3 x4 : Int) (x5 : Rows) : u141_0_3 (fun σ => runM Tryz.prog (E141_0g ) sh141 (c141_0_7g vJ141_0_0 vJ141_0_1) (thenK (fun σ => tidyK td141_7 σ Kn) K) σ) x2 x3 x4 x5 = S141_0_2g vJ141_0_0 vJ141_0_1 α x3 x5 x4 (fun x4 => u141_0_3 Kn x2 x3 x4 x5) (u141_0_4 (K .ret) false) (fun (y1 : Int) (y2 : Bool) => u141_0_5 (K (.exit 0)) x2 x3 y1 y2 x5) := by kernel_rfl
theorem r141_0_2 (α : Type) (K : Exit → St → Option α) (Kn : St → Option α) (x2 : ByteArray) (x3 x4 : Int) (x5 : Rows) : u141_0_3 (fun σ => runM Tryz.prog E141_0 sh141 c141_0_7 (thenK (fun σ => tidyK td141_7 σ Kn) K) σ) x2 x3 x4 x5 = S141_0_2 α x3 x5 x4 (fun x4 => u141_0_3 Kn x2 x3 x4 x5) (u141_0_4 (K .ret) false) (fun (y1 : Int) (y2 : Bool) => u141_0_5 (K (.exit 0)) x2 x3 y1 y2 x5) := r141_0_2g J141_0_0 J141_0_1 α K Kn x2 x3 x4 x5
theorem t141_0_2 (α : Type) (K : Exit → St → Option α) : ∀ (n : Nat) (x2 : ByteArray) (x3 x4 : Int) (x5 : Rows), R141_0_2 α x3 x5 (u141_0_4 (K .ret) false) (fun (y1 : Int) (y2 : Bool) => u141_0_5 (K (.exit 0)) x2 x3 y1 y2 x5) n x4 = u141_0_3 (loopT (runM Tryz.prog E141_0 sh141 c141_0_7) td141_7 K n) x2 x3 x4 x5 := by
 intro n
 induction n with
 | zero => intros; rfl
 | succ n ih => intro x2 x3 x4 x5; exact (congrArg (fun kn => S141_0_2 α x3 x5 x4 kn (u141_0_4 (K .ret) false) (fun (y1 : Int) (y2 : Bool) => u141_0_5 (K (.exit 0)) x2 x3 y1 y2 x5)) (funext fun x4 => ih x2 x3 x4 x5)).trans (r141_0_2 α K (loopT (runM Tryz.prog E141_0 sh141 c141_0_7) td141_7 K n) x2 x3 x4 x5).symm
theorem m141_0_2 : ∀ (α : Type) (K : Exit → St → Option α), F141_0_2 L141_0_2 α K = p141_0_3.unc fun σ => loopT (runM Tryz.prog E141_0 sh141 c141_0_7) td141_7 K fuel σ := fun α K => funext fun x2 => funext fun x3 => funext fun x4 => funext fun x5 => t141_0_2 α K fuel x2 x3 x4 x5
abbrev Tf141_0 : Type 1 := (α : Type) → ByteArray → (Bool → Option α) → Option α
def f141_0g (vL141_0_2 : TL141_0_2) (α : Type) (x1 : ByteArray) (k1 : Bool → Option α) : Option α :=
 gK (decide (ByteArray.size x1 ≤ 9223372036854775807)) (vL141_0_2 α ((List.length (bytesR x1) : Nat) : Int) (bytesR x1)
 (k1 false)
 (fun x27 x28 => cK (!(x1.toList == (⟨#[]⟩ : ByteArray).toList))
 (k1 (decide (((ByteArray.size x1 : Nat) : Int) ≤ 12)))
 (k1 false)) 0)
noncomputable def f141_0 (α : Type) (x1 : ByteArray) (k1 : Bool → Option α) : Option α := f141_0g L141_0_2 α x1 k1
def pa141_0 : PT (List DV) := pA [pV false [dS]]
def Fn141_0 (v : Tf141_0) (α : Type) (k : List RV → Option α) : ByteArray → Option α := fun x1 => v α x1 (fun (y1 : Bool) => ur141_0_0 k y1)
noncomputable def cm141_0g (vL141_0_2 : TL141_0_2) : MCode := (.seq (.region r141_2 [] (tO [0])) (.seq (.seq (.region r141_5 [] (tO [0, 7, 8, 9])) (.block 0 (.loop td141_7 [⟨p141_0_3, F141_0_2 vL141_0_2⟩] c141_0_7))) (.seq (.region r141_25 [] (tO [2])) .ret)))
noncomputable def cm141_0 : MCode := cm141_0g L141_0_2
theorem gm141_0 : cm141_0.Good Tryz.prog E141_0 sh141 := ⟨trivial, ⟨⟨trivial, ⟨g141_0_7, m141_0_2, trivial⟩⟩, ⟨trivial, trivial⟩⟩⟩
theorem fm141_0g  (vL141_0_2 : TL141_0_2) (α : Type) (k : List RV → Option α) : Fn141_0 (f141_0g vL141_0_2) α k = pa141_0.unc fun ds => fnM Tryz.prog (E141_0g ) sh141 (cm141_0g vL141_0_2) rs141 k ds := by kernel_rfl
theorem fm141_0 : ∀ (α : Type) (k : List RV → Option α), Fn141_0 f141_0 α k = pa141_0.unc fun ds => fnM Tryz.prog E141_0 sh141 cm141_0 rs141 k ds := fm141_0g L141_0_2
theorem is141 : FnIs Tryz.prog 141 nt141 tr141 tl141 cm141_0.erase rs141 := ⟨Tryz.f141, Tryz.func141, rfl, by kernel_rfl, by kernel_rfl, by kernel_rfl⟩
theorem io141_0 : InstOk Tryz.prog 141 nt141 ⟨pa141_0, Fn141_0 f141_0⟩ := inst_ok eo141_0 followsTry is141 ⟨⟨sh141, cm141_0, by kernel_rfl, gm141_0, fm141_0⟩⟩
abbrev nt12 : Nat := 6
def sh12 : List (Nat × List Sh) := []
def r12_2 : List AOper := [oO 2 (.mv (.const (.slice none 0 0)))]
def r12_4 : List AOper := [oO 3 (.bslice 1 0 [(.v (.int .i64 0))] []), oM 4 0, oO 5 (.append 1 8 (.tmp 3) (.tmp 4)), oM 2 5]
def tr12 : List (Nat × Tidy) := [tT 0 [0], (1, ⟨[2], true, [⟨false, 2, 0, 20002, 1⟩], []⟩)]
def tl12 : List (Nat × Tidy) := []
def rs12 : List AResV := [.tmp 2]
def pr12_0_0 : PT (List RV) := pRs [pR false [rO 1]]
def ur12_0_0 {β : Type} (g : List RV → β) : Rows → β := pr12_0_0.unc g
def E12_0g  : EnvK := EnvK.of [] noSeq
noncomputable def E12_0 : EnvK := E12_0g 
theorem eo12_0 : E12_0.Ok Tryz.prog := EnvK.of_ok noSeq_ok trivial
abbrev Tf12_0 : Type 1 := (α : Type) → Rows → (Rows → Option α) → Option α
def f12_0g  (α : Type) (x1 : Rows) (k1 : Rows → Option α) : Option α :=
 gK (apOk 1 8 ([] : Rows) x1) (k1 (([] : Rows) ++ x1))
noncomputable def f12_0 (α : Type) (x1 : Rows) (k1 : Rows → Option α) : Option α := f12_0g  α x1 k1
def pa12_0 : PT (List DV) := pA [pV false [dL]]
def Fn12_0 (v : Tf12_0) (α : Type) (k : List RV → Option α) : Rows → Option α := fun x1 => v α x1 (fun (y1 : Rows) => ur12_0_0 k y1)
noncomputable def cm12_0g  : MCode := (.seq (.region r12_2 [] (tO [0])) (.seq (.region r12_4 [] (some ⟨[2], true, [⟨false, 2, 0, 20002, 1⟩], []⟩)) .ret))
noncomputable def cm12_0 : MCode := cm12_0g 
theorem gm12_0 : cm12_0.Good Tryz.prog E12_0 sh12 := ⟨trivial, ⟨trivial, trivial⟩⟩
theorem fm12_0g   (α : Type) (k : List RV → Option α) : Fn12_0 (f12_0g ) α k = pa12_0.unc fun ds => fnM Tryz.prog (E12_0g ) sh12 (cm12_0g ) rs12 k ds := by kernel_rfl
theorem fm12_0 : ∀ (α : Type) (k : List RV → Option α), Fn12_0 f12_0 α k = pa12_0.unc fun ds => fnM Tryz.prog E12_0 sh12 cm12_0 rs12 k ds := fm12_0g 
theorem is12 : FnIs Tryz.prog 12 nt12 tr12 tl12 cm12_0.erase rs12 := ⟨Tryz.f12, Tryz.func12, rfl, by kernel_rfl, by kernel_rfl, by kernel_rfl⟩
theorem io12_0 : InstOk Tryz.prog 12 nt12 ⟨pa12_0, Fn12_0 f12_0⟩ := inst_ok eo12_0 followsTry is12 ⟨⟨sh12, cm12_0, by kernel_rfl, gm12_0, fm12_0⟩⟩
abbrev nt61 : Nat := 13
def sh61 : List (Nat × List Sh) := []
def r61_2 : List AOper := [oO 2 (.mv (.const (.bool false)))]
def r61_4 : List AOper := [oM 3 0, oO 4 (.bin .leq 3 (.tmp 3) (kI 12)), oM 5 4, oG 6 (.mv (.tmp 0)) 5 false, oG 7 (.bin .geq 3 (.tmp 6) (kI 64)) 5 false, oG 8 (.mv (.tmp 7)) 5 false, oG 9 (.mv (.tmp 0)) 8 true, oG 10 (.bin .leq 3 (.tmp 9) (kI 66)) 8 true, oG 11 (.pick (.tmp 8) (.tmp 10) (.const (.bool false))) 5 false, oO 12 (.pick (.tmp 5) (.const (.bool true)) (.tmp 11)), oM 2 12]
def tr61 : List (Nat × Tidy) := [tT 0 [0], tT 1 [2]]
def tl61 : List (Nat × Tidy) := []
def rs61 : List AResV := [.tmp 2]
def pr61_0_0 : PT (List RV) := pRs [pR false [rD dB]]
def ur61_0_0 {β : Type} (g : List RV → β) : Bool → β := pr61_0_0.unc g
def E61_0g  : EnvK := EnvK.of [] noSeq
noncomputable def E61_0 : EnvK := E61_0g 
theorem eo61_0 : E61_0.Ok Tryz.prog := EnvK.of_ok noSeq_ok trivial
abbrev Tf61_0 : Type 1 := (α : Type) → Int → (Bool → Option α) → Option α
def f61_0g  (α : Type) (x1 : Int) (k1 : Bool → Option α) : Option α :=
 cK (decide (x1 ≤ 12))
 (k1 true)
 (cK (decide (64 ≤ x1))
 (k1 (decide (x1 ≤ 66)))
 (k1 false))
noncomputable def f61_0 (α : Type) (x1 : Int) (k1 : Bool → Option α) : Option α := f61_0g  α x1 k1
def pa61_0 : PT (List DV) := pA [pV false [(dI .i64)]]
def Fn61_0 (v : Tf61_0) (α : Type) (k : List RV → Option α) : Int → Option α := fun x1 => v α x1 (fun (y1 : Bool) => ur61_0_0 k y1)
noncomputable def cm61_0g  : MCode := (.seq (.region r61_2 [] (tO [0])) (.seq (.region r61_4 [] (tO [2])) .ret))
noncomputable def cm61_0 : MCode := cm61_0g 
theorem gm61_0 : cm61_0.Good Tryz.prog E61_0 sh61 := ⟨trivial, ⟨trivial, trivial⟩⟩
theorem fm61_0g   (α : Type) (k : List RV → Option α) : Fn61_0 (f61_0g ) α k = pa61_0.unc fun ds => fnM Tryz.prog (E61_0g ) sh61 (cm61_0g ) rs61 k ds := by kernel_rfl
theorem fm61_0 : ∀ (α : Type) (k : List RV → Option α), Fn61_0 f61_0 α k = pa61_0.unc fun ds => fnM Tryz.prog E61_0 sh61 cm61_0 rs61 k ds := fm61_0g 
theorem is61 : FnIs Tryz.prog 61 nt61 tr61 tl61 cm61_0.erase rs61 := ⟨Tryz.f61, Tryz.func61, rfl, by kernel_rfl, by kernel_rfl, by kernel_rfl⟩
theorem io61_0 : InstOk Tryz.prog 61 nt61 ⟨pa61_0, Fn61_0 f61_0⟩ := inst_ok eo61_0 followsTry is61 ⟨⟨sh61, cm61_0, by kernel_rfl, gm61_0, fm61_0⟩⟩
abbrev nt49 : Nat := 12
def sh49 : List (Nat × List Sh) := []
def r49_2 : List AOper := [oO 6 (.alloc [(.d (.v (.complex Go.FloatKind.f64 0 0))), (cI 0)])]
def r49_4 : List AOper := [oM 7 0, oM 8 1, oO 9 (.call 45 [(.tmp 7), (.tmp 8)]), oM 10 2, oO 11 (.build [(.d (.v (.complex Go.FloatKind.f64 0 0))), (cI 0)] [(0, 1, (.tmp 9)), (1, 1, (.tmp 10))]), oD (.store 2 (.tmp 6) (.tmp 11))]
def tr49 : List (Nat × Tidy) := [tT 0 [0, 1, 2, 6], tT 1 [6]]
def tl49 : List (Nat × Tidy) := []
def rs49 : List AResV := [.cell 6 true 2]
def pr49_0_0 : PT (List RV) := pRs [pR true [rD (dX .f64), rD (dI .i64)]]
def ur49_0_0 {β : Type} (g : List RV → β) : Nat → Nat → Int → β := pr49_0_0.unc g
def E49_0g (vf45_0 : Tf45_0) : EnvK := EnvK.of [⟨45, nt45, [⟨pa45_0, Fn45_0 vf45_0⟩]⟩] noSeq
noncomputable def E49_0 : EnvK := E49_0g f45_0
theorem eo49_0 : E49_0.Ok Tryz.prog := EnvK.of_ok noSeq_ok ⟨⟨io45_0, trivial⟩, trivial⟩
abbrev Tf49_0 : Type 1 := (α : Type) → Int → Int → Int → (Nat → Nat → Int → Option α) → Option α
def f49_0g (vf45_0 : Tf45_0) (α : Type) (x1 x2 x3 : Int) (k1 : Nat → Nat → Int → Option α) : Option α :=
 vf45_0 α x1 x2
 (fun x4 x5 => k1 x4 x5 x3)
noncomputable def f49_0 (α : Type) (x1 x2 x3 : Int) (k1 : Nat → Nat → Int → Option α) : Option α := f49_0g f45_0 α x1 x2 x3 k1
def pa49_0 : PT (List DV) := pA [pV false [(dI .i64)], pV false [(dI .i64)], pV false [(dI .i64)]]
def Fn49_0 (v : Tf49_0) (α : Type) (k : List RV → Option α) : Int → Int → Int → Option α := fun x1 x2 x3 => v α x1 x2 x3 (fun (y1 : Nat) (y2 : Nat) (y3 : Int) => ur49_0_0 k y1 y2 y3)
noncomputable def cm49_0g  : MCode := (.seq (.region r49_2 [] (tO [0, 1, 2, 6])) (.seq (.region r49_4 [] (tO [6])) .ret))
noncomputable def cm49_0 : MCode := cm49_0g 
theorem gm49_0 : cm49_0.Good Tryz.prog E49_0 sh49 := ⟨trivial, ⟨trivial, trivial⟩⟩
theorem fm49_0g (vf45_0 : Tf45_0)  (α : Type) (k : List RV → Option α) : Fn49_0 (f49_0g vf45_0) α k = pa49_0.unc fun ds => fnM Tryz.prog (E49_0g vf45_0) sh49 (cm49_0g ) rs49 k ds := by kernel_rfl
theorem fm49_0 : ∀ (α : Type) (k : List RV → Option α), Fn49_0 f49_0 α k = pa49_0.unc fun ds => fnM Tryz.prog E49_0 sh49 cm49_0 rs49 k ds := fm49_0g f45_0
theorem is49 : FnIs Tryz.prog 49 nt49 tr49 tl49 cm49_0.erase rs49 := ⟨Tryz.f49, Tryz.func49, rfl, by kernel_rfl, by kernel_rfl, by kernel_rfl⟩
theorem io49_0 : InstOk Tryz.prog 49 nt49 ⟨pa49_0, Fn49_0 f49_0⟩ := inst_ok eo49_0 followsTry is49 ⟨⟨sh49, cm49_0, by kernel_rfl, gm49_0, fm49_0⟩⟩
abbrev nt77 : Nat := 10
def sh77 : List (Nat × List Sh) := []
def r77_2 : List AOper := [oO 4 (.mv (kI 0))]
def r77_4 : List AOper := [oM 5 0, oO 6 (.pure (oB (.unOp .neg 3 (.tmp 5)) 3)), oM 7 1, oO 8 (.call 76 [(.tmp 6), (.tmp 7)]), oO 9 (.pure (oB (.unOp .neg 3 (.tmp 8)) 3)), oM 4 9]
def tr77 : List (Nat × Tidy) := [tT 0 [0, 1], tT 1 [4]]
def tl77 : List (Nat × Tidy) := []
def rs77 : List AResV := [.tmp 4]
def pr77_0_0 : PT (List RV) := pRs [pR false [rD (dI .i64)]]
def ur77_0_0 {β : Type} (g : List RV → β) : Int → β := pr77_0_0.unc g
def E77_0g (vf76_0 : Tf76_0) : EnvK := EnvK.of [⟨76, nt76, [⟨pa76_0, Fn76_0 vf76_0⟩]⟩] noSeq
noncomputable def E77_0 : EnvK := E77_0g f76_0
theorem eo77_0 : E77_0.Ok Tryz.prog := EnvK.of_ok noSeq_ok ⟨⟨io76_0, trivial⟩, trivial⟩
abbrev Tf77_0 : Type 1 := (α : Type) → Int → Int → (Int → Option α) → Option α
def f77_0g (vf76_0 : Tf76_0) (α : Type) (x1 x2 : Int) (k1 : Int → Option α) : Option α :=
 vf76_0 α (w64 (0 - x1)) x2
 (fun x3 => k1 (w64 (0 - x3)))
noncomputable def f77_0 (α : Type) (x1 x2 : Int) (k1 : Int → Option α) : Option α := f77_0g f76_0 α x1 x2 k1
def pa77_0 : PT (List DV) := pA [pV false [(dI .i64)], pV false [(dI .i64)]]
def Fn77_0 (v : Tf77_0) (α : Type) (k : List RV → Option α) : Int → Int → Option α := fun x1 x2 => v α x1 x2 (fun (y1 : Int) => ur77_0_0 k y1)
noncomputable def cm77_0g  : MCode := (.seq (.region r77_2 [] (tO [0, 1])) (.seq (.region r77_4 [] (tO [4])) .ret))
noncomputable def cm77_0 : MCode := cm77_0g 
theorem gm77_0 : cm77_0.Good Tryz.prog E77_0 sh77 := ⟨trivial, ⟨trivial, trivial⟩⟩
theorem fm77_0g (vf76_0 : Tf76_0)  (α : Type) (k : List RV → Option α) : Fn77_0 (f77_0g vf76_0) α k = pa77_0.unc fun ds => fnM Tryz.prog (E77_0g vf76_0) sh77 (cm77_0g ) rs77 k ds := by kernel_rfl
theorem fm77_0 : ∀ (α : Type) (k : List RV → Option α), Fn77_0 f77_0 α k = pa77_0.unc fun ds => fnM Tryz.prog E77_0 sh77 cm77_0 rs77 k ds := fm77_0g f76_0
theorem is77 : FnIs Tryz.prog 77 nt77 tr77 tl77 cm77_0.erase rs77 := ⟨Tryz.f77, Tryz.func77, rfl, by kernel_rfl, by kernel_rfl, by kernel_rfl⟩
theorem io77_0 : InstOk Tryz.prog 77 nt77 ⟨pa77_0, Fn77_0 f77_0⟩ := inst_ok eo77_0 followsTry is77 ⟨⟨sh77, cm77_0, by kernel_rfl, gm77_0, fm77_0⟩⟩
abbrev nt107 : Nat := 5
def sh107 : List (Nat × List Sh) := []
def r107_2 : List AOper := [oO 2 (.mv (.const (.bool false)))]
def r107_4 : List AOper := [oM 3 0, oO 4 (.call 57 [(.tmp 3), (kI (-67108864)), (kI 67108864)]), oM 2 4]
def tr107 : List (Nat × Tidy) := [tT 0 [0], tT 1 [2]]
def tl107 : List (Nat × Tidy) := []
def rs107 : List AResV := [.tmp 2]
def pr107_0_0 : PT (List RV) := pRs [pR false [rD dB]]
def ur107_0_0 {β : Type} (g : List RV → β) : Bool → β := pr107_0_0.unc g
def E107_0g (vf57_0 : Tf57_0) : EnvK := EnvK.of [⟨57, nt57, [⟨pa57_0, Fn57_0 vf57_0⟩]⟩] noSeq
noncomputable def E107_0 : EnvK := E107_0g f57_0
theorem eo107_0 : E107_0.Ok Tryz.prog := EnvK.of_ok noSeq_ok ⟨⟨io57_0, trivial⟩, trivial⟩
abbrev Tf107_0 : Type 1 := (α : Type) → Int → (Bool → Option α) → Option α
def f107_0g (vf57_0 : Tf57_0) (α : Type) (x1 : Int) (k1 : Bool → Option α) : Option α :=
 vf57_0 α x1 (-67108864) 67108864
 (fun x2 => k1 x2)
noncomputable def f107_0 (α : Type) (x1 : Int) (k1 : Bool → Option α) : Option α := f107_0g f57_0 α x1 k1
def pa107_0 : PT (List DV) := pA [pV false [(dI .i64)]]
def Fn107_0 (v : Tf107_0) (α : Type) (k : List RV → Option α) : Int → Option α := fun x1 => v α x1 (fun (y1 : Bool) => ur107_0_0 k y1)
noncomputable def cm107_0g  : MCode := (.seq (.region r107_2 [] (tO [0])) (.seq (.region r107_4 [] (tO [2])) .ret))
noncomputable def cm107_0 : MCode := cm107_0g 
theorem gm107_0 : cm107_0.Good Tryz.prog E107_0 sh107 := ⟨trivial, ⟨trivial, trivial⟩⟩
theorem fm107_0g (vf57_0 : Tf57_0)  (α : Type) (k : List RV → Option α) : Fn107_0 (f107_0g vf57_0) α k = pa107_0.unc fun ds => fnM Tryz.prog (E107_0g vf57_0) sh107 (cm107_0g ) rs107 k ds := by kernel_rfl
theorem fm107_0 : ∀ (α : Type) (k : List RV → Option α), Fn107_0 f107_0 α k = pa107_0.unc fun ds => fnM Tryz.prog E107_0 sh107 cm107_0 rs107 k ds := fm107_0g f57_0
theorem is107 : FnIs Tryz.prog 107 nt107 tr107 tl107 cm107_0.erase rs107 := ⟨Tryz.f107, Tryz.func107, rfl, by kernel_rfl, by kernel_rfl, by kernel_rfl⟩
theorem io107_0 : InstOk Tryz.prog 107 nt107 ⟨pa107_0, Fn107_0 f107_0⟩ := inst_ok eo107_0 followsTry is107 ⟨⟨sh107, cm107_0, by kernel_rfl, gm107_0, fm107_0⟩⟩
abbrev nt74 : Nat := 13
def sh74 : List (Nat × List Sh) := [(4, [.int .i64]), (7, [.int .i64]), (10, [.int .i64])]
def r74_2 : List AOper := [oO 1 (.box (.tmp 0)), oO 2 (.mv (kI 0))]
def r74_4 : List AOper := [oO 3 (.faddr 0 (.tmp 1)), oO 4 (.load false 1 (.tmp 3)), oO 5 (.bin .mul 3 (kI 2) (.tmp 4)), oO 6 (.faddr 1 (.tmp 1)), oO 7 (.load false 1 (.tmp 6)), oO 8 (.bin .add 3 (.tmp 5) (.tmp 7)), oO 9 (.faddr 1 (.tmp 1)), oO 10 (.load false 1 (.tmp 9)), oO 11 (.bin .mul 3 (kI 2) (.tmp 10)), oO 12 (.call 76 [(.tmp 8), (.tmp 11)]), oM 2 12]
def tr74 : List (Nat × Tidy) := [tT 0 [1], tT 1 [2]]
def tl74 : List (Nat × Tidy) := []
def rs74 : List AResV := [.tmp 2]
def pr74_0_0 : PT (List RV) := pRs [pR false [rD (dI .i64)]]
def ur74_0_0 {β : Type} (g : List RV → β) : Int → β := pr74_0_0.unc g
def E74_0g (vf76_0 : Tf76_0) : EnvK := EnvK.of [⟨76, nt76, [⟨pa76_0, Fn76_0 vf76_0⟩]⟩] noSeq
noncomputable def E74_0 : EnvK := E74_0g f76_0
theorem eo74_0 : E74_0.Ok Tryz.prog := EnvK.of_ok noSeq_ok ⟨⟨io76_0, trivial⟩, trivial⟩
abbrev Tf74_0 : Type 1 := (α : Type) → Int → Int → (Int → Option α) → Option α
def f74_0g (vf76_0 : Tf76_0) (α : Type) (x1 x2 : Int) (k1 : Int → Option α) : Option α :=
 vf76_0 α (w64 ((w64 (2 * x1)) + x2)) (w64 (2 * x2))
 (fun x3 => k1 x3)
noncomputable def f74_0 (α : Type) (x1 x2 : Int) (k1 : Int → Option α) : Option α := f74_0g f76_0 α x1 x2 k1
def pa74_0 : PT (List DV) := pA [pV true [(dI .i64), (dI .i64)]]
def Fn74_0 (v : Tf74_0) (α : Type) (k : List RV → Option α) : Int → Int → Option α := fun x1 x2 => v α x1 x2 (fun (y1 : Int) => ur74_0_0 k y1)
noncomputable def cm74_0g  : MCode := (.seq (.region r74_2 [] (tO [1])) (.seq (.region r74_4 [] (tO [2])) .ret))
noncomputable def cm74_0 : MCode := cm74_0g 
theorem gm74_0 : cm74_0.Good Tryz.prog E74_0 sh74 := ⟨trivial, ⟨trivial, trivial⟩⟩
theorem fm74_0g (vf76_0 : Tf76_0)  (α : Type) (k : List RV → Option α) : Fn74_0 (f74_0g vf76_0) α k = pa74_0.unc fun ds => fnM Tryz.prog (E74_0g vf76_0) sh74 (cm74_0g ) rs74 k ds := by kernel_rfl
theorem fm74_0 : ∀ (α : Type) (k : List RV → Option α), Fn74_0 f74_0 α k = pa74_0.unc fun ds => fnM Tryz.prog E74_0 sh74 cm74_0 rs74 k ds := fm74_0g f76_0
theorem is74 : FnIs Tryz.prog 74 nt74 tr74 tl74 cm74_0.erase rs74 := ⟨Tryz.f74, Tryz.func74, rfl, by kernel_rfl, by kernel_rfl, by kernel_rfl⟩
theorem io74_0 : InstOk Tryz.prog 74 nt74 ⟨pa74_0, Fn74_0 f74_0⟩ := inst_ok eo74_0 followsTry is74 ⟨⟨sh74, cm74_0, by kernel_rfl, gm74_0, fm74_0⟩⟩
abbrev nt73 : Nat := 106
def sh73 : List (Nat × List Sh) := [(9, [.int .i64]), (13, [.int .i64]), (20, [.int .i64]), (29, [.str, .int .i64, .sl, .sl, .sl, .int .i64, .int .i64]), (33, [.sl]), (35, [.int .i64]), (36, [.int .i64]), (40, [.sl]), (42, [.flt .f32]), (43, [.flt .f32]), (47, [.sl]), (49, [.flt .f32]), (50, [.flt .f32]), (55, [.sl]), (58, [.int .i64]), (59, [.int .i64]), (61, [.sl]), (63, [.int .i64]), (64, [.int .i64]), (68, [.sl]), (70, [.int .i64]), (71, [.int .i64]), (74, [.sl]), (76, [.flt .f32]), (77, [.flt .f32]), (80, [.sl]), (83, [.flt .f32]), (84, [.flt .f32]), (90, [.sl]), (92, [.flt .f32]), (93, [.flt .f32]), (96, [.sl]), (99, [.flt .f32]), (100, [.flt .f32])]
def r73_2 : List AOper := [oO 2 (.box (.tmp 0)), oO 4 (.alloc [(cI 0), (cI 0), (cI 0), (cI 0)])]
def r73_5 : List AOper := [oO 8 (.faddr 1 (.tmp 2)), oO 9 (.load false 1 (.tmp 8)), oO 10 (.bin .eql 3 (.tmp 9) (kI 2))]
def r73_8 : List AOper := [oO 11 (.faddr 5 (.tmp 2)), oO 12 (.iaddr 1 (some 2) (.tmp 11) (kI 0)), oO 13 (.load false 1 (.tmp 12)), oM 14 1, oO 15 (.bin .mul 3 (.tmp 13) (.tmp 14)), oM 16 1, oO 17 (.bin .mul 3 (.tmp 15) (.tmp 16)), oO 18 (.faddr 5 (.tmp 2)), oO 19 (.iaddr 1 (some 2) (.tmp 18) (kI 1)), oO 20 (.load false 1 (.tmp 19)), oO 21 (.bin .mul 3 (.tmp 20) (kI 1000000)), oO 22 (.bin .add 3 (.tmp 17) (.tmp 21)), oM 23 1, oM 24 1, oO 25 (.bin .mul 3 (.tmp 23) (.tmp 24)), oO 26 (.build [(cI 0), (cI 0)] [(0, 1, (.tmp 22)), (1, 1, (.tmp 25))]), oO 27 (.build [(cI 0), (cI 0)] [(0, 1, (kI 0)), (1, 1, (kI 1))]), oO 28 (.build [(cI 0), (cI 0), (cI 0), (cI 0)] [(0, 2, (.tmp 26)), (2, 2, (.tmp 27))]), oD (.store 4 (.tmp 4) (.tmp 28))]
def r73_10 : List AOper := [oO 29 (.load true 7 (.tmp 2)), oM 30 1, oO 31 (.call 75 [(.tmp 29), (.tmp 30)]), oM 5 31]
def r73_13 : List AOper := [oO 32 (.faddr 2 (.tmp 2)), oO 33 (.load false 1 (.tmp 32)), oM 34 5, oO 35 (.iaddr 1 none (.tmp 33) (.tmp 34)), oO 36 (.load false 1 (.tmp 35)), oM 37 1, oO 38 (.bin .eql 3 (.tmp 36) (.tmp 37))]
def r73_16 : List AOper := [oO 39 (.faddr 3 (.tmp 2)), oO 40 (.load false 1 (.tmp 39)), oM 41 5, oO 42 (.iaddr 1 none (.tmp 40) (.tmp 41)), oO 43 (.load false 1 (.tmp 42)), oO 44 (.pure (oB (.convert 125 3 (.tmp 43)) 3)), oO 45 (.build [(cI 0), (cI 0)] [(0, 1, (.tmp 44)), (1, 1, (kI 1))]), oO 46 (.faddr 4 (.tmp 2)), oO 47 (.load false 1 (.tmp 46)), oM 48 5, oO 49 (.iaddr 1 none (.tmp 47) (.tmp 48)), oO 50 (.load false 1 (.tmp 49)), oO 51 (.pure (oB (.convert 125 3 (.tmp 50)) 3)), oO 52 (.build [(cI 0), (cI 0)] [(0, 1, (.tmp 51)), (1, 1, (kI 1))]), oO 53 (.build [(cI 0), (cI 0), (cI 0), (cI 0)] [(0, 2, (.tmp 45)), (2, 2, (.tmp 52))]), oD (.store 4 (.tmp 4) (.tmp 53))]
def r73_18 : List AOper := [oO 54 (.faddr 2 (.tmp 2)), oO 55 (.load false 1 (.tmp 54)), oM 56 5, oO 57 (.bin .add 3 (.tmp 56) (kI 1)), oO 58 (.iaddr 1 none (.tmp 55) (.tmp 57)), oO 59 (.load false 1 (.tmp 58)), oO 60 (.faddr 2 (.tmp 2)), oO 61 (.load false 1 (.tmp 60)), oM 62 5, oO 63 (.iaddr 1 none (.tmp 61) (.tmp 62)), oO 64 (.load false 1 (.tmp 63)), oO 65 (.bin .sub 3 (.tmp 59) (.tmp 64)), oM 66 1, oO 67 (.faddr 2 (.tmp 2)), oO 68 (.load false 1 (.tmp 67)), oM 69 5, oO 70 (.iaddr 1 none (.tmp 68) (.tmp 69)), oO 71 (.load false 1 (.tmp 70)), oO 72 (.bin .sub 3 (.tmp 66) (.tmp 71)), oM 6 65, oM 7 72]
def r73_20 : List AOper := [oO 73 (.faddr 3 (.tmp 2)), oO 74 (.load false 1 (.tmp 73)), oM 75 5, oO 76 (.iaddr 1 none (.tmp 74) (.tmp 75)), oO 77 (.load false 1 (.tmp 76)), oO 78 (.pure (oB (.convert 125 3 (.tmp 77)) 3)), oO 79 (.faddr 3 (.tmp 2)), oO 80 (.load false 1 (.tmp 79)), oM 81 5, oO 82 (.bin .add 3 (.tmp 81) (kI 1)), oO 83 (.iaddr 1 none (.tmp 80) (.tmp 82)), oO 84 (.load false 1 (.tmp 83)), oO 85 (.pure (oB (.convert 125 3 (.tmp 84)) 3)), oM 86 7, oM 87 6, oO 88 (.call 111 [(.tmp 78), (.tmp 85), (.tmp 86), (.tmp 87)]), oO 89 (.faddr 4 (.tmp 2)), oO 90 (.load false 1 (.tmp 89)), oM 91 5, oO 92 (.iaddr 1 none (.tmp 90) (.tmp 91)), oO 93 (.load false 1 (.tmp 92)), oO 94 (.pure (oB (.convert 125 3 (.tmp 93)) 3)), oO 95 (.faddr 4 (.tmp 2)), oO 96 (.load false 1 (.tmp 95)), oM 97 5, oO 98 (.bin .add 3 (.tmp 97) (kI 1)), oO 99 (.iaddr 1 none (.tmp 96) (.tmp 98)), oO 100 (.load false 1 (.tmp 99)), oO 101 (.pure (oB (.convert 125 3 (.tmp 100)) 3)), oM 102 7, oM 103 6, oO 104 (.call 111 [(.tmp 94), (.tmp 101), (.tmp 102), (.tmp 103)]), oO 105 (.build [(cI 0), (cI 0), (cI 0), (cI 0)] [(0, 2, (.tmp 88)), (2, 2, (.tmp 104))]), oD (.store 4 (.tmp 4) (.tmp 105))]
def tr73 : List (Nat × Tidy) := [tT 0 [1, 2, 4], tT 1 [1, 2, 4, 10], tT 2 [4], tT 3 [1, 2, 4, 5], tT 4 [1, 2, 4, 5, 38], tT 5 [4], tT 6 [2, 4, 5, 6, 7], tT 7 [4]]
def tl73 : List (Nat × Tidy) := []
def rs73 : List AResV := [.cell 4 true 4]
def pr73_0_0 : PT (List RV) := pRs [pR true [rD (dI .i64), rD (dI .i64), rD (dI .i64), rD (dI .i64)]]
def ur73_0_0 {β : Type} (g : List RV → β) : Int → Int → Int → Int → β := pr73_0_0.unc g
def E73_0g (vf75_0 : Tf75_0) (vf111_0 : Tf111_0) : EnvK := EnvK.of [⟨75, nt75, [⟨pa75_0, Fn75_0 vf75_0⟩]⟩, ⟨111, nt111, [⟨pa111_0, Fn111_0 vf111_0⟩]⟩] noSeq
noncomputable def E73_0 : EnvK := E73_0g f75_0 f111_0
theorem eo73_0 : E73_0.Ok Tryz.prog := EnvK.of_ok noSeq_ok ⟨⟨io75_0, trivial⟩, ⟨io111_0, trivial⟩, trivial⟩
abbrev Tf73_0 : Type 1 := (α : Type) → ByteArray → Int → Rows → Rows → Rows → Int → Int → Int → (Int → Int → Int → Int → Option α) → Option α
def f73_0g (vf111_0 : Tf111_0) (vf75_0 : Tf75_0) (α : Type) (x1 : ByteArray) (x2 : Int) (x3 x4 x5 : Rows) (x6 x7 x8 : Int) (k1 : Int → Int → Int → Int → Option α) : Option α :=
 cK (x2 == 2)
 (k1 (w64 ((w64 ((w64 (x6 * x8)) * x8)) + (w64 (x7 * 1000000)))) (w64 (x8 * x8)) 0 1)
 (vf75_0 α x1 x2 x3 x4 x5 x6 x7 x8
 (fun x9 => rowK x3 x9 [.int .i64]
 (fun x10 => cK (x10 == x8)
 (rowK x4 x9 [.flt .f32]
 (fun x11 => ivK (f2i .f32 x11 .i64)
 (fun x12 => rowK x5 x9 [.flt .f32]
 (fun x13 => ivK (f2i .f32 x13 .i64)
 (fun x14 => k1 x12 1 x14 1)))))
 (rowK x3 (w64 (x9 + 1)) [.int .i64]
 (fun x15 => rowK x3 x9 [.int .i64]
 (fun x16 => rowK x3 x9 [.int .i64]
 (fun x17 => rowK x4 x9 [.flt .f32]
 (fun x18 => ivK (f2i .f32 x18 .i64)
 (fun x19 => rowK x4 (w64 (x9 + 1)) [.flt .f32]
 (fun x20 => ivK (f2i .f32 x20 .i64)
 (fun x21 => vf111_0 α x19 x21 (w64 (x8 - x17)) (w64 (x15 - x16))
 (fun x22 x23 => rowK x5 x9 [.flt .f32]
 (fun x24 => ivK (f2i .f32 x24 .i64)
 (fun x25 => rowK x5 (w64 (x9 + 1)) [.flt .f32]
 (fun x26 => ivK (f2i .f32 x26 .i64)
 (fun x27 => vf111_0 α x25 x27 (w64 (x8 - x17)) (w64 (x15 - x16))
 (fun x28 x29 => k1 x22 x23 x28 x29)))))))))))))))))
noncomputable def f73_0 (α : Type) (x1 : ByteArray) (x2 : Int) (x3 x4 x5 : Rows) (x6 x7 x8 : Int) (k1 : Int → Int → Int → Int → Option α) : Option α := f73_0g f111_0 f75_0 α x1 x2 x3 x4 x5 x6 x7 x8 k1
def pa73_0 : PT (List DV) := pA [pV true [dS, (dI .i64), dL, dL, dL, (dI .i64), (dI .i64)], pV false [(dI .i64)]]
def Fn73_0 (v : Tf73_0) (α : Type) (k : List RV → Option α) : ByteArray → Int → Rows → Rows → Rows → Int → Int → Int → Option α := fun x1 x2 x3 x4 x5 x6 x7 x8 => v α x1 x2 x3 x4 x5 x6 x7 x8 (fun (y1 : Int) (y2 : Int) (y3 : Int) (y4 : Int) => ur73_0_0 k y1 y2 y3 y4)
noncomputable def cm73_0g  : MCode := (.seq (.region r73_2 [] (tO [1, 2, 4])) (.seq (.seq (.region r73_5 [] (tO [1, 2, 4, 10])) (.cond (.tmp 10) (.seq (.region r73_8 [] (tO [4])) .ret) .skip)) (.seq (.region r73_10 [] (tO [1, 2, 4, 5])) (.seq (.seq (.region r73_13 [] (tO [1, 2, 4, 5, 38])) (.cond (.tmp 38) (.seq (.region r73_16 [] (tO [4])) .ret) .skip)) (.seq (.region r73_18 [] (tO [2, 4, 5, 6, 7])) (.seq (.region r73_20 [(15, 17), (15, 19), (15, 20), (15, 23), (15, 26), (15, 27)] (tO [4])) .ret))))))
noncomputable def cm73_0 : MCode := cm73_0g 
theorem gm73_0 : cm73_0.Good Tryz.prog E73_0 sh73 := ⟨trivial, ⟨⟨trivial, ⟨⟨trivial, trivial⟩, trivial⟩⟩, ⟨trivial, ⟨⟨trivial, ⟨⟨trivial, trivial⟩, trivial⟩⟩, ⟨trivial, ⟨trivial, trivial⟩⟩⟩⟩⟩⟩
theorem fm73_0g (vf75_0 : Tf75_0) (vf111_0 : Tf111_0)  (α : Type) (k : List RV → Option α) : Fn73_0 (f73_0g vf111_0 vf75_0) α k = pa73_0.unc fun ds => fnM Tryz.prog (E73_0g vf75_0 vf111_0) sh73 (cm73_0g ) rs73 k ds := by kernel_rfl
theorem fm73_0 : ∀ (α : Type) (k : List RV → Option α), Fn73_0 f73_0 α k = pa73_0.unc fun ds => fnM Tryz.prog E73_0 sh73 cm73_0 rs73 k ds := fm73_0g f75_0 f111_0
theorem is73 : FnIs Tryz.prog 73 nt73 tr73 tl73 cm73_0.erase rs73 := ⟨Tryz.f73, Tryz.func73, rfl, by kernel_rfl, by kernel_rfl, by kernel_rfl⟩
theorem io73_0 : InstOk Tryz.prog 73 nt73 ⟨pa73_0, Fn73_0 f73_0⟩ := inst_ok eo73_0 followsTry is73 ⟨⟨sh73, cm73_0, by kernel_rfl, gm73_0, fm73_0⟩⟩
abbrev nt23 : Nat := 17
def sh23 : List (Nat × List Sh) := [(6, [.cpx .f64]), (8, [.cpx .f64]), (12, [.int .i64]), (14, [.int .i64])]
def r23_2 : List AOper := [oO 2 (.box (.tmp 0)), oO 3 (.box (.tmp 1)), oO 4 (.mv (.const (.bool false)))]
def r23_4 : List AOper := [oO 5 (.faddr 0 (.tmp 2)), oO 6 (.load false 1 (.tmp 5)), oO 7 (.faddr 0 (.tmp 3)), oO 8 (.load false 1 (.tmp 7)), oO 9 (.call 71 [(.tmp 6), (.tmp 8)]), oM 10 9, oG 11 (.faddr 1 (.tmp 2)) 10 true, oG 12 (.load false 1 (.tmp 11)) 10 true, oG 13 (.faddr 1 (.tmp 3)) 10 true, oG 14 (.load false 1 (.tmp 13)) 10 true, oG 15 (.bin .eql 3 (.tmp 12) (.tmp 14)) 10 true, oO 16 (.pick (.tmp 10) (.tmp 15) (.const (.bool false))), oM 4 16]
def tr23 : List (Nat × Tidy) := [tT 0 [2, 3], tT 1 [4]]
def tl23 : List (Nat × Tidy) := []
def rs23 : List AResV := [.tmp 4]
def pr23_0_0 : PT (List RV) := pRs [pR false [rD dB]]
def ur23_0_0 {β : Type} (g : List RV → β) : Bool → β := pr23_0_0.unc g
def E23_0g (vf71_0 : Tf71_0) : EnvK := EnvK.of [⟨71, nt71, [⟨pa71_0, Fn71_0 vf71_0⟩]⟩] noSeq
noncomputable def E23_0 : EnvK := E23_0g f71_0
theorem eo23_0 : E23_0.Ok Tryz.prog := EnvK.of_ok noSeq_ok ⟨⟨io71_0, trivial⟩, trivial⟩
abbrev Tf23_0 : Type 1 := (α : Type) → Nat → Nat → Int → Nat → Nat → Int → (Bool → Option α) → Option α
def f23_0g (vf71_0 : Tf71_0) (α : Type) (x1 x2 : Nat) (x3 : Int) (x4 x5 : Nat) (x6 : Int) (k1 : Bool → Option α) : Option α :=
 vf71_0 α x1 x2 x4 x5
 (fun x7 => cK x7
 (k1 (x3 == x6))
 (k1 false))
noncomputable def f23_0 (α : Type) (x1 x2 : Nat) (x3 : Int) (x4 x5 : Nat) (x6 : Int) (k1 : Bool → Option α) : Option α := f23_0g f71_0 α x1 x2 x3 x4 x5 x6 k1
def pa23_0 : PT (List DV) := pA [pV true [(dX .f64), (dI .i64)], pV true [(dX .f64), (dI .i64)]]
def Fn23_0 (v : Tf23_0) (α : Type) (k : List RV → Option α) : Nat → Nat → Int → Nat → Nat → Int → Option α := fun x1 x2 x3 x4 x5 x6 => v α x1 x2 x3 x4 x5 x6 (fun (y1 : Bool) => ur23_0_0 k y1)
noncomputable def cm23_0g  : MCode := (.seq (.region r23_2 [] (tO [2, 3])) (.seq (.region r23_4 [] (tO [4])) .ret))
noncomputable def cm23_0 : MCode := cm23_0g 
theorem gm23_0 : cm23_0.Good Tryz.prog E23_0 sh23 := ⟨trivial, ⟨trivial, trivial⟩⟩
theorem fm23_0g (vf71_0 : Tf71_0)  (α : Type) (k : List RV → Option α) : Fn23_0 (f23_0g vf71_0) α k = pa23_0.unc fun ds => fnM Tryz.prog (E23_0g vf71_0) sh23 (cm23_0g ) rs23 k ds := by kernel_rfl
theorem fm23_0 : ∀ (α : Type) (k : List RV → Option α), Fn23_0 f23_0 α k = pa23_0.unc fun ds => fnM Tryz.prog E23_0 sh23 cm23_0 rs23 k ds := fm23_0g f71_0
theorem is23 : FnIs Tryz.prog 23 nt23 tr23 tl23 cm23_0.erase rs23 := ⟨Tryz.f23, Tryz.func23, rfl, by kernel_rfl, by kernel_rfl, by kernel_rfl⟩
theorem io23_0 : InstOk Tryz.prog 23 nt23 ⟨pa23_0, Fn23_0 f23_0⟩ := inst_ok eo23_0 followsTry is23 ⟨⟨sh23, cm23_0, by kernel_rfl, gm23_0, fm23_0⟩⟩
abbrev nt70 : Nat := 25
def sh70 : List (Nat × List Sh) := [(6, [.int .i64]), (11, [.sl]), (12, [.int .i64]), (13, [.int .i64]), (15, [.sl]), (17, [.sl]), (20, [.int .i64]), (21, [.int .i64])]
def r70_2 : List AOper := [oO 2 (.box (.tmp 0)), oO 4 (.mv (kI 0))]
def r70_5 : List AOper := [oO 5 (.faddr 1 (.tmp 2)), oO 6 (.load false 1 (.tmp 5)), oO 7 (.bin .eql 3 (.tmp 6) (kI 1)), oM 8 7, oG 9 (.mv (.tmp 1)) 8 true, oG 10 (.faddr 2 (.tmp 2)) 8 true, oG 11 (.load false 1 (.tmp 10)) 8 true, oG 12 (.iaddr 1 none (.tmp 11) (kI 0)) 8 true, oG 13 (.load false 1 (.tmp 12)) 8 true, oG 14 (.faddr 2 (.tmp 2)) 8 true, oG 15 (.load false 1 (.tmp 14)) 8 true, oG 16 (.faddr 2 (.tmp 2)) 8 true, oG 17 (.load false 1 (.tmp 16)) 8 true, oG 18 (.len (.tmp 17)) 8 true, oG 19 (.bin .sub 3 (.tmp 18) (kI 1)) 8 true, oG 20 (.iaddr 1 none (.tmp 15) (.tmp 19)) 8 true, oG 21 (.load false 1 (.tmp 20)) 8 true, oG 22 (.call 57 [(.tmp 9), (.tmp 13), (.tmp 21)]) 8 true, oG 23 (.pure (oB (.unOp .not 4 (.tmp 22)) 4)) 8 true, oO 24 (.pick (.tmp 8) (.tmp 23) (.const (.bool false)))]
def r70_8 : List AOper := [oO 4 (.mv (kI 17))]
def r70_10 : List AOper := [oO 4 (.mv (kI 0))]
def tr70 : List (Nat × Tidy) := [tT 0 [1, 2], tT 1 [24], tT 2 [4], tT 3 [4]]
def tl70 : List (Nat × Tidy) := []
def rs70 : List AResV := [.tmp 4]
def pr70_0_0 : PT (List RV) := pRs [pR false [rD (dI .i64)]]
def ur70_0_0 {β : Type} (g : List RV → β) : Int → β := pr70_0_0.unc g
def E70_0g (vf57_0 : Tf57_0) : EnvK := EnvK.of [⟨57, nt57, [⟨pa57_0, Fn57_0 vf57_0⟩]⟩] noSeq
noncomputable def E70_0 : EnvK := E70_0g f57_0
theorem eo70_0 : E70_0.Ok Tryz.prog := EnvK.of_ok noSeq_ok ⟨⟨io57_0, trivial⟩, trivial⟩
abbrev Tf70_0 : Type 1 := (α : Type) → ByteArray → Int → Rows → Rows → Rows → Int → Int → Int → (Int → Option α) → Option α
def f70_0g (vf57_0 : Tf57_0) (α : Type) (x1 : ByteArray) (x2 : Int) (x3 x4 x5 : Rows) (x6 x7 x8 : Int) (k1 : Int → Option α) : Option α :=
 cK (x2 == 1)
 (rowK x3 0 [.int .i64]
 (fun x9 => rowK x3 (w64 (((List.length x3 : Nat) : Int) - 1)) [.int .i64]
 (fun x10 => vf57_0 α x8 x9 x10
 (fun x11 => cK (!x11)
 (k1 17)
 (k1 0)))))
 (k1 0)
noncomputable def f70_0 (α : Type) (x1 : ByteArray) (x2 : Int) (x3 x4 x5 : Rows) (x6 x7 x8 : Int) (k1 : Int → Option α) : Option α := f70_0g f57_0 α x1 x2 x3 x4 x5 x6 x7 x8 k1
def pa70_0 : PT (List DV) := pA [pV true [dS, (dI .i64), dL, dL, dL, (dI .i64), (dI .i64)], pV false [(dI .i64)]]
def Fn70_0 (v : Tf70_0) (α : Type) (k : List RV → Option α) : ByteArray → Int → Rows → Rows → Rows → Int → Int → Int → Option α := fun x1 x2 x3 x4 x5 x6 x7 x8 => v α x1 x2 x3 x4 x5 x6 x7 x8 (fun (y1 : Int) => ur70_0_0 k y1)
noncomputable def cm70_0g  : MCode := (.seq (.region r70_2 [] (tO [1, 2])) (.seq (.seq (.region r70_5 [] (tO [24])) (.cond (.tmp 24) (.seq (.region r70_8 [] (tO [4])) .ret) .skip)) (.seq (.region r70_10 [] (tO [4])) .ret)))
noncomputable def cm70_0 : MCode := cm70_0g 
theorem gm70_0 : cm70_0.Good Tryz.prog E70_0 sh70 := ⟨trivial, ⟨⟨trivial, ⟨⟨trivial, trivial⟩, trivial⟩⟩, ⟨trivial, trivial⟩⟩⟩
theorem fm70_0g (vf57_0 : Tf57_0)  (α : Type) (k : List RV → Option α) : Fn70_0 (f70_0g vf57_0) α k = pa70_0.unc fun ds => fnM Tryz.prog (E70_0g vf57_0) sh70 (cm70_0g ) rs70 k ds := by kernel_rfl
theorem fm70_0 : ∀ (α : Type) (k : List RV → Option α), Fn70_0 f70_0 α k = pa70_0.unc fun ds => fnM Tryz.prog E70_0 sh70 cm70_0 rs70 k ds := fm70_0g f57_0
theorem is70 : FnIs Tryz.prog 70 nt70 tr70 tl70 cm70_0.erase rs70 := ⟨Tryz.f70, Tryz.func70, rfl, by kernel_rfl, by kernel_rfl, by kernel_rfl⟩
theorem io70_0 : InstOk Tryz.prog 70 nt70 ⟨pa70_0, Fn70_0 f70_0⟩ := inst_ok eo70_0 followsTry is70 ⟨⟨sh70, cm70_0, by kernel_rfl, gm70_0, fm70_0⟩⟩
abbrev nt68 : Nat := 5
def sh68 : List (Nat × List Sh) := []
def r68_2 : List AOper := [oO 2 (.mv (.const (.bool false)))]
def r68_4 : List AOper := [oM 3 0, oO 4 (.call 57 [(.tmp 3), (kI 1000), (kI 200000)]), oM 2 4]
def tr68 : List (Nat × Tidy) := [tT 0 [0], tT 1 [2]]
def tl68 : List (Nat × Tidy) := []
def rs68 : List AResV := [.tmp 2]
def pr68_0_0 : PT (List RV) := pRs [pR false [rD dB]]
def ur68_0_0 {β : Type} (g : List RV → β) : Bool → β := pr68_0_0.unc g
def E68_0g (vf57_0 : Tf57_0) : EnvK := EnvK.of [⟨57, nt57, [⟨pa57_0, Fn57_0 vf57_0⟩]⟩] noSeq
noncomputable def E68_0 : EnvK := E68_0g f57_0
theorem eo68_0 : E68_0.Ok Tryz.prog := EnvK.of_ok noSeq_ok ⟨⟨io57_0, trivial⟩, trivial⟩
abbrev Tf68_0 : Type 1 := (α : Type) → Int → (Bool → Option α) → Option α
def f68_0g (vf57_0 : Tf57_0) (α : Type) (x1 : Int) (k1 : Bool → Option α) : Option α :=
 vf57_0 α x1 1000 200000
 (fun x2 => k1 x2)
noncomputable def f68_0 (α : Type) (x1 : Int) (k1 : Bool → Option α) : Option α := f68_0g f57_0 α x1 k1
def pa68_0 : PT (List DV) := pA [pV false [(dI .i64)]]
def Fn68_0 (v : Tf68_0) (α : Type) (k : List RV → Option α) : Int → Option α := fun x1 => v α x1 (fun (y1 : Bool) => ur68_0_0 k y1)
noncomputable def cm68_0g  : MCode := (.seq (.region r68_2 [] (tO [0])) (.seq (.region r68_4 [] (tO [2])) .ret))
noncomputable def cm68_0 : MCode := cm68_0g 
theorem gm68_0 : cm68_0.Good Tryz.prog E68_0 sh68 := ⟨trivial, ⟨trivial, trivial⟩⟩
theorem fm68_0g (vf57_0 : Tf57_0)  (α : Type) (k : List RV → Option α) : Fn68_0 (f68_0g vf57_0) α k = pa68_0.unc fun ds => fnM Tryz.prog (E68_0g vf57_0) sh68 (cm68_0g ) rs68 k ds := by kernel_rfl
theorem fm68_0 : ∀ (α : Type) (k : List RV → Option α), Fn68_0 f68_0 α k = pa68_0.unc fun ds => fnM Tryz.prog E68_0 sh68 cm68_0 rs68 k ds := fm68_0g f57_0
theorem is68 : FnIs Tryz.prog 68 nt68 tr68 tl68 cm68_0.erase rs68 := ⟨Tryz.f68, Tryz.func68, rfl, by kernel_rfl, by kernel_rfl, by kernel_rfl⟩
theorem io68_0 : InstOk Tryz.prog 68 nt68 ⟨pa68_0, Fn68_0 f68_0⟩ := inst_ok eo68_0 followsTry is68 ⟨⟨sh68, cm68_0, by kernel_rfl, gm68_0, fm68_0⟩⟩
abbrev nt67 : Nat := 11
def sh67 : List (Nat × List Sh) := []
def r67_2 : List AOper := [oO 4 (.mv (.const (.bool false)))]
def r67_4 : List AOper := [oM 5 0, oO 6 (.call 57 [(.tmp 5), (kI 5000), (kI 60000)]), oM 7 6, oG 8 (.mv (.tmp 1)) 7 true, oG 9 (.call 57 [(.tmp 8), (kI 0), (kI 20000)]) 7 true, oO 10 (.pick (.tmp 7) (.tmp 9) (.const (.bool false))), oM 4 10]
def tr67 : List (Nat × Tidy) := [tT 0 [0, 1], tT 1 [4]]
def tl67 : List (Nat × Tidy) := []
def rs67 : List AResV := [.tmp 4]
def pr67_0_0 : PT (List RV) := pRs [pR false [rD dB]]
def ur67_0_0 {β : Type} (g : List RV → β) : Bool → β := pr67_0_0.unc g
def E67_0g (vf57_0 : Tf57_0) : EnvK := EnvK.of [⟨57, nt57, [⟨pa57_0, Fn57_0 vf57_0⟩]⟩] noSeq
noncomputable def E67_0 : EnvK := E67_0g f57_0
theorem eo67_0 : E67_0.Ok Tryz.prog := EnvK.of_ok noSeq_ok ⟨⟨io57_0, trivial⟩, trivial⟩
abbrev Tf67_0 : Type 1 := (α : Type) → Int → Int → (Bool → Option α) → Option α
def f67_0g (vf57_0 : Tf57_0) (α : Type) (x1 x2 : Int) (k1 : Bool → Option α) : Option α :=
 vf57_0 α x1 5000 60000
 (fun x3 => cK x3
 (vf57_0 α x2 0 20000
 (fun x4 => k1 x4))
 (k1 false))
noncomputable def f67_0 (α : Type) (x1 x2 : Int) (k1 : Bool → Option α) : Option α := f67_0g f57_0 α x1 x2 k1
def pa67_0 : PT (List DV) := pA [pV false [(dI .i64)], pV false [(dI .i64)]]
def Fn67_0 (v : Tf67_0) (α : Type) (k : List RV → Option α) : Int → Int → Option α := fun x1 x2 => v α x1 x2 (fun (y1 : Bool) => ur67_0_0 k y1)
noncomputable def cm67_0g  : MCode := (.seq (.region r67_2 [] (tO [0, 1])) (.seq (.region r67_4 [] (tO [4])) .ret))
noncomputable def cm67_0 : MCode := cm67_0g 
theorem gm67_0 : cm67_0.Good Tryz.prog E67_0 sh67 := ⟨trivial, ⟨trivial, trivial⟩⟩
theorem fm67_0g (vf57_0 : Tf57_0)  (α : Type) (k : List RV → Option α) : Fn67_0 (f67_0g vf57_0) α k = pa67_0.unc fun ds => fnM Tryz.prog (E67_0g vf57_0) sh67 (cm67_0g ) rs67 k ds := by kernel_rfl
theorem fm67_0 : ∀ (α : Type) (k : List RV → Option α), Fn67_0 f67_0 α k = pa67_0.unc fun ds => fnM Tryz.prog E67_0 sh67 cm67_0 rs67 k ds := fm67_0g f57_0
theorem is67 : FnIs Tryz.prog 67 nt67 tr67 tl67 cm67_0.erase rs67 := ⟨Tryz.f67, Tryz.func67, rfl, by kernel_rfl, by kernel_rfl, by kernel_rfl⟩
theorem io67_0 : InstOk Tryz.prog 67 nt67 ⟨pa67_0, Fn67_0 f67_0⟩ := inst_ok eo67_0 followsTry is67 ⟨⟨sh67, cm67_0, by kernel_rfl, gm67_0, fm67_0⟩⟩
abbrev nt202 : Nat := 9
def sh202 : List (Nat × List Sh) := [(6, [.int .i64, .int .i64])]
def r202_2 : List AOper := [oO 2 (.box (.tmp 0)), oO 4 (.alloc [(cI 0), (cI 0)]), oO 5 (.mv (.const (.bool false)))]
def r202_4 : List AOper := [oO 6 (.load true 2 (.tmp 2)), oM 7 1, oO 8 (.call 203 [(.tmp 6), (.tmp 7), (kI 3)]), oD (.store 2 (.tmp 4) (.tmp 8)), oO 5 (.mv (.const (.bool true)))]
def tr202 : List (Nat × Tidy) := [tT 0 [1, 2, 4], tT 1 [4, 5]]
def tl202 : List (Nat × Tidy) := []
def rs202 : List AResV := [.cell 4 true 2, .tmp 5]
def pr202_0_0 : PT (List RV) := pRs [pR true [rD (dI .i64), rD (dI .i64)], pR false [rD dB]]
def ur202_0_0 {β : Type} (g : List RV → β) : Int → Int → Bool → β := pr202_0_0.unc g
def E202_0g (vf203_0 : Tf203_0) : EnvK := EnvK.of [⟨203, nt203, [⟨pa203_0, Fn203_0 vf203_0⟩]⟩] noSeq
noncomputable def E202_0 : EnvK := E202_0g f203_0
theorem eo202_0 : E202_0.Ok Tryz.prog := EnvK.of_ok noSeq_ok ⟨⟨io203_0, trivial⟩, trivial⟩
abbrev Tf202_0 : Type 1 := (α : Type) → Int → Int → Int → (Int → Int → Option α) → Option α
def f202_0g (vf203_0 : Tf203_0) (α : Type) (x1 x2 x3 : Int) (k1 : Int → Int → Option α) : Option α :=
 vf203_0 α x1 x2 x3 3
 (fun x4 x5 => k1 x4 x5)
noncomputable def f202_0 (α : Type) (x1 x2 x3 : Int) (k1 : Int → Int → Option α) : Option α := f202_0g f203_0 α x1 x2 x3 k1
def pa202_0 : PT (List DV) := pA [pV true [(dI .i64), (dI .i64)], pV false [(dI .i64)]]
def Fn202_0 (v : Tf202_0) (α : Type) (k : List RV → Option α) : Int → Int → Int → Option α := fun x1 x2 x3 => v α x1 x2 x3 (fun (y1 : Int) (y2 : Int) => ur202_0_0 k y1 y2 true)
noncomputable def cm202_0g  : MCode := (.seq (.region r202_2 [] (tO [1, 2, 4])) (.seq (.region r202_4 [] (tO [4, 5])) .ret))
noncomputable def cm202_0 : MCode := cm202_0g 
theorem gm202_0 : cm202_0.Good Tryz.prog E202_0 sh202 := ⟨trivial, ⟨trivial, trivial⟩⟩
theorem fm202_0g (vf203_0 : Tf203_0)  (α : Type) (k : List RV → Option α) : Fn202_0 (f202_0g vf203_0) α k = pa202_0.unc fun ds => fnM Tryz.prog (E202_0g vf203_0) sh202 (cm202_0g ) rs202 k ds := by kernel_rfl
theorem fm202_0 : ∀ (α : Type) (k : List RV → Option α), Fn202_0 f202_0 α k = pa202_0.unc fun ds => fnM Tryz.prog E202_0 sh202 cm202_0 rs202 k ds := fm202_0g f203_0
theorem is202 : FnIs Tryz.prog 202 nt202 tr202 tl202 cm202_0.erase rs202 := ⟨Tryz.f202, Tryz.func202, rfl, by kernel_rfl, by kernel_rfl, by kernel_rfl⟩
theorem io202_0 : InstOk Tryz.prog 202 nt202 ⟨pa202_0, Fn202_0 f202_0⟩ := inst_ok eo202_0 followsTry is202 ⟨⟨sh202, cm202_0, by kernel_rfl, gm202_0, fm202_0⟩⟩
abbrev nt109 : Nat := 11
def sh109 : List (Nat × List Sh) := [(4, [.int .i64]), (7, [.int .i64])]
def r109_2 : List AOper := [oO 1 (.box (.tmp 0)), oO 2 (.mv (kI 0))]
def r109_4 : List AOper := [oO 3 (.faddr 0 (.tmp 1)), oO 4 (.load false 1 (.tmp 3)), oO 5 (.pure (oB (.unOp .neg 3 (.tmp 4)) 3)), oO 6 (.faddr 1 (.tmp 1)), oO 7 (.load false 1 (.tmp 6)), oO 8 (.build [(cI 0), (cI 0)] [(0, 1, (.tmp 5)), (1, 1, (.tmp 7))]), oO 9 (.call 108 [(.tmp 8)]), oO 10 (.pure (oB (.unOp .neg 3 (.tmp 9)) 3)), oM 2 10]
def tr109 : List (Nat × Tidy) := [tT 0 [1], tT 1 [2]]
def tl109 : List (Nat × Tidy) := []
def rs109 : List AResV := [.tmp 2]
def pr109_0_0 : PT (List RV) := pRs [pR false [rD (dI .i64)]]
def ur109_0_0 {β : Type} (g : List RV → β) : Int → β := pr109_0_0.unc g
def E109_0g (vf108_0 : Tf108_0) : EnvK := EnvK.of [⟨108, nt108, [⟨pa108_0, Fn108_0 vf108_0⟩]⟩] noSeq
noncomputable def E109_0 : EnvK := E109_0g f108_0
theorem eo109_0 : E109_0.Ok Tryz.prog := EnvK.of_ok noSeq_ok ⟨⟨io108_0, trivial⟩, trivial⟩
abbrev Tf109_0 : Type 1 := (α : Type) → Int → Int → (Int → Option α) → Option α
def f109_0g (vf108_0 : Tf108_0) (α : Type) (x1 x2 : Int) (k1 : Int → Option α) : Option α :=
 vf108_0 α (w64 (0 - x1)) x2
 (fun x3 => k1 (w64 (0 - x3)))
noncomputable def f109_0 (α : Type) (x1 x2 : Int) (k1 : Int → Option α) : Option α := f109_0g f108_0 α x1 x2 k1
def pa109_0 : PT (List DV) := pA [pV true [(dI .i64), (dI .i64)]]
def Fn109_0 (v : Tf109_0) (α : Type) (k : List RV → Option α) : Int → Int → Option α := fun x1 x2 => v α x1 x2 (fun (y1 : Int) => ur109_0_0 k y1)
noncomputable def cm109_0g  : MCode := (.seq (.region r109_2 [] (tO [1])) (.seq (.region r109_4 [] (tO [2])) .ret))
noncomputable def cm109_0 : MCode := cm109_0g 
theorem gm109_0 : cm109_0.Good Tryz.prog E109_0 sh109 := ⟨trivial, ⟨trivial, trivial⟩⟩
theorem fm109_0g (vf108_0 : Tf108_0)  (α : Type) (k : List RV → Option α) : Fn109_0 (f109_0g vf108_0) α k = pa109_0.unc fun ds => fnM Tryz.prog (E109_0g vf108_0) sh109 (cm109_0g ) rs109 k ds := by kernel_rfl
theorem fm109_0 : ∀ (α : Type) (k : List RV → Option α), Fn109_0 f109_0 α k = pa109_0.unc fun ds => fnM Tryz.prog E109_0 sh109 cm109_0 rs109 k ds := fm109_0g f108_0
theorem is109 : FnIs Tryz.prog 109 nt109 tr109 tl109 cm109_0.erase rs109 := ⟨Tryz.f109, Tryz.func109, rfl, by kernel_rfl, by kernel_rfl, by kernel_rfl⟩
theorem io109_0 : InstOk Tryz.prog 109 nt109 ⟨pa109_0, Fn109_0 f109_0⟩ := inst_ok eo109_0 followsTry is109 ⟨⟨sh109, cm109_0, by kernel_rfl, gm109_0, fm109_0⟩⟩
abbrev nt196 : Nat := 58
def sh196 : List (Nat × List Sh) := [(12, [.sl]), (16, [.str, .int .i64, .sl, .sl, .sl, .int .i64, .int .i64]), (19, [.str, .int .i64, .sl, .sl, .sl, .int .i64, .int .i64]), (23, [.str, .int .i64, .sl, .sl, .sl, .int .i64, .int .i64]), (30, [.sl]), (33, [.int .i64]), (34, [.int .i64]), (37, [.sl]), (39, [.int .i64]), (40, [.int .i64]), (50, [.sl]), (52, [.int .i64]), (53, [.int .i64])]
def r196_2 : List AOper := [oO 2 (.box (.tmp 0)), oO 4 (.alloc [(cI 0), (cI 0)]), oO 5 (.mv (.const (.bool false)))]
def r196_5 : List AOper := [oO 10 (.faddr 0 (.tmp 2)), oO 11 (.faddr 2 (.tmp 10)), oO 12 (.load false 1 (.tmp 11)), oO 13 (.len (.tmp 12)), oO 14 (.bin .eql 3 (.tmp 13) (kI 1))]
def r196_8 : List AOper := [oO 15 (.build [(cI 0), (cI 0)] []), oD (.store 2 (.tmp 4) (.tmp 15)), oO 5 (.mv (.const (.bool false)))]
def r196_10 : List AOper := [oO 16 (.load true 7 (.tmp 2)), oM 17 1, oO 18 (.call 197 [(.tmp 16), (.tmp 17)]), oM 6 18]
def r196_12 : List AOper := [oO 19 (.load true 7 (.tmp 2)), oM 20 6, oO 21 (.call 198 [(.tmp 19), (.tmp 20)]), oO 22 (.index false 2 1 (.tmp 21) (kI 0)), oO 23 (.load true 7 (.tmp 2)), oM 24 6, oO 25 (.bin .add 3 (.tmp 24) (kI 1)), oO 26 (.call 198 [(.tmp 23), (.tmp 25)]), oO 27 (.index false 2 1 (.tmp 26) (kI 0)), oO 28 (.faddr 0 (.tmp 2)), oO 29 (.faddr 2 (.tmp 28)), oO 30 (.load false 1 (.tmp 29)), oM 31 6, oO 32 (.bin .add 3 (.tmp 31) (kI 1)), oO 33 (.iaddr 1 none (.tmp 30) (.tmp 32)), oO 34 (.load false 1 (.tmp 33)), oO 35 (.faddr 0 (.tmp 2)), oO 36 (.faddr 2 (.tmp 35)), oO 37 (.load false 1 (.tmp 36)), oM 38 6, oO 39 (.iaddr 1 none (.tmp 37) (.tmp 38)), oO 40 (.load false 1 (.tmp 39)), oO 41 (.bin .sub 3 (.tmp 34) (.tmp 40)), oM 7 22, oM 8 27, oM 9 41]
def r196_14 : List AOper := [oM 42 7, oM 43 9, oO 44 (.bin .mul 3 (.tmp 42) (.tmp 43)), oM 45 8, oM 46 7, oO 47 (.bin .sub 3 (.tmp 45) (.tmp 46)), oO 48 (.faddr 0 (.tmp 2)), oO 49 (.faddr 2 (.tmp 48)), oO 50 (.load false 1 (.tmp 49)), oM 51 6, oO 52 (.iaddr 1 none (.tmp 50) (.tmp 51)), oO 53 (.load false 1 (.tmp 52)), oO 54 (.bin .mul 3 (.tmp 47) (.tmp 53)), oO 55 (.bin .sub 3 (.tmp 44) (.tmp 54)), oM 56 9, oO 57 (.build [(cI 0), (cI 0)] [(0, 1, (.tmp 55)), (1, 1, (.tmp 56))]), oD (.store 2 (.tmp 4) (.tmp 57)), oO 5 (.mv (.const (.bool true)))]
def tr196 : List (Nat × Tidy) := [tT 0 [1, 2, 4], tT 1 [1, 2, 4, 14], tT 2 [4, 5], tT 3 [2, 4, 6], tT 4 [2, 4, 6, 7, 8, 9], tT 5 [4, 5]]
def tl196 : List (Nat × Tidy) := []
def rs196 : List AResV := [.cell 4 true 2, .tmp 5]
def pr196_0_0 : PT (List RV) := pRs [pR true [rD (dI .i64), rD (dI .i64)], pR false [rD dB]]
def ur196_0_0 {β : Type} (g : List RV → β) : Int → Int → Bool → β := pr196_0_0.unc g
def E196_0g (vf197_0 : Tf197_0) (vf198_0 : Tf198_0) : EnvK := EnvK.of [⟨197, nt197, [⟨pa197_0, Fn197_0 vf197_0⟩]⟩, ⟨198, nt198, [⟨pa198_0, Fn198_0 vf198_0⟩]⟩] noSeq
noncomputable def E196_0 : EnvK := E196_0g f197_0 f198_0
theorem eo196_0 : E196_0.Ok Tryz.prog := EnvK.of_ok noSeq_ok ⟨⟨io197_0, trivial⟩, ⟨io198_0, trivial⟩, trivial⟩
abbrev Tf196_0 : Type 1 := (α : Type) → ByteArray → Int → Rows → Rows → Rows → Int → Int → Int → (Int → Int → Bool → Option α) → Option α
def f196_0g (vf197_0 : Tf197_0) (vf198_0 : Tf198_0) (α : Type) (x1 : ByteArray) (x2 : Int) (x3 x4 x5 : Rows) (x6 x7 x8 : Int) (k1 : Int → Int → Bool → Option α) : Option α :=
 cK (((List.length x3 : Nat) : Int) == 1)
 (k1 0 0 false)
 (vf197_0 α x1 x2 x3 x4 x5 x6 x7 x8
 (fun x9 => vf198_0 α x1 x2 x3 x4 x5 x6 x7 x9
 (fun x10 x11 => vf198_0 α x1 x2 x3 x4 x5 x6 x7 (w64 (x9 + 1))
 (fun x12 x13 => rowK x3 (w64 (x9 + 1)) [.int .i64]
 (fun x14 => rowK x3 x9 [.int .i64]
 (fun x15 => rowK x3 x9 [.int .i64]
 (fun x16 => k1 (w64 ((w64 (x10 * (w64 (x14 - x15)))) - (w64 ((w64 (x12 - x10)) * x16)))) (w64 (x14 - x15)) true)))))))
noncomputable def f196_0 (α : Type) (x1 : ByteArray) (x2 : Int) (x3 x4 x5 : Rows) (x6 x7 x8 : Int) (k1 : Int → Int → Bool → Option α) : Option α := f196_0g f197_0 f198_0 α x1 x2 x3 x4 x5 x6 x7 x8 k1
def pa196_0 : PT (List DV) := pA [pV true [dS, (dI .i64), dL, dL, dL, (dI .i64), (dI .i64)], pV false [(dI .i64)]]
def Fn196_0 (v : Tf196_0) (α : Type) (k : List RV → Option α) : ByteArray → Int → Rows → Rows → Rows → Int → Int → Int → Option α := fun x1 x2 x3 x4 x5 x6 x7 x8 => v α x1 x2 x3 x4 x5 x6 x7 x8 (fun (y1 : Int) (y2 : Int) (y3 : Bool) => ur196_0_0 k y1 y2 y3)
noncomputable def cm196_0g  : MCode := (.seq (.region r196_2 [] (tO [1, 2, 4])) (.seq (.seq (.region r196_5 [] (tO [1, 2, 4, 14])) (.cond (.tmp 14) (.seq (.region r196_8 [] (tO [4, 5])) .ret) .skip)) (.seq (.region r196_10 [] (tO [2, 4, 6])) (.seq (.region r196_12 [(2, 4), (2, 11), (7, 11), (2, 14), (7, 14), (2, 15), (7, 15), (2, 18), (7, 18), (2, 20), (7, 20), (2, 21), (7, 21)] (tO [2, 4, 6, 7, 8, 9])) (.seq (.region r196_14 [] (tO [4, 5])) .ret)))))
noncomputable def cm196_0 : MCode := cm196_0g 
theorem gm196_0 : cm196_0.Good Tryz.prog E196_0 sh196 := ⟨trivial, ⟨⟨trivial, ⟨⟨trivial, trivial⟩, trivial⟩⟩, ⟨trivial, ⟨trivial, ⟨trivial, trivial⟩⟩⟩⟩⟩
theorem fm196_0g (vf197_0 : Tf197_0) (vf198_0 : Tf198_0)  (α : Type) (k : List RV → Option α) : Fn196_0 (f196_0g vf197_0 vf198_0) α k = pa196_0.unc fun ds => fnM Tryz.prog (E196_0g vf197_0 vf198_0) sh196 (cm196_0g ) rs196 k ds := by kernel_rfl
theorem fm196_0 : ∀ (α : Type) (k : List RV → Option α), Fn196_0 f196_0 α k = pa196_0.unc fun ds => fnM Tryz.prog E196_0 sh196 cm196_0 rs196 k ds := fm196_0g f197_0 f198_0
theorem is196 : FnIs Tryz.prog 196 nt196 tr196 tl196 cm196_0.erase rs196 := ⟨Tryz.f196, Tryz.func196, rfl, by kernel_rfl, by kernel_rfl, by kernel_rfl⟩
theorem io196_0 : InstOk Tryz.prog 196 nt196 ⟨pa196_0, Fn196_0 f196_0⟩ := inst_ok eo196_0 followsTry is196 ⟨⟨sh196, cm196_0, by kernel_rfl, gm196_0, fm196_0⟩⟩
abbrev nt199 : Nat := 10
def sh199 : List (Nat × List Sh) := [(5, [.int .i64, .int .i64])]
def r199_2 : List AOper := [oO 2 (.box (.tmp 0)), oO 4 (.alloc [(cI 0), (cI 0), (cI 0), (cI 0)])]
def r199_4 : List AOper := [oO 5 (.load true 2 (.tmp 2)), oM 6 1, oO 7 (.call 203 [(.tmp 5), (.tmp 6), (kI 1)]), oO 8 (.build [(cI 0), (cI 0)] [(0, 1, (kI 0)), (1, 1, (kI 1))]), oO 9 (.build [(cI 0), (cI 0), (cI 0), (cI 0)] [(0, 2, (.tmp 7)), (2, 2, (.tmp 8))]), oD (.store 4 (.tmp 4) (.tmp 9))]
def tr199 : List (Nat × Tidy) := [tT 0 [1, 2, 4], tT 1 [4]]
def tl199 : List (Nat × Tidy) := []
def rs199 : List AResV := [.cell 4 true 4]
def pr199_0_0 : PT (List RV) := pRs [pR true [rD (dI .i64), rD (dI .i64), rD (dI .i64), rD (dI .i64)]]
def ur199_0_0 {β : Type} (g : List RV → β) : Int → Int → Int → Int → β := pr199_0_0.unc g
def E199_0g (vf203_0 : Tf203_0) : EnvK := EnvK.of [⟨203, nt203, [⟨pa203_0, Fn203_0 vf203_0⟩]⟩] noSeq
noncomputable def E199_0 : EnvK := E199_0g f203_0
theorem eo199_0 : E199_0.Ok Tryz.prog := EnvK.of_ok noSeq_ok ⟨⟨io203_0, trivial⟩, trivial⟩
abbrev Tf199_0 : Type 1 := (α : Type) → Int → Int → Int → (Int → Int → Option α) → Option α
def f199_0g (vf203_0 : Tf203_0) (α : Type) (x1 x2 x3 : Int) (k1 : Int → Int → Option α) : Option α :=
 vf203_0 α x1 x2 x3 1
 (fun x4 x5 => k1 x4 x5)
noncomputable def f199_0 (α : Type) (x1 x2 x3 : Int) (k1 : Int → Int → Option α) : Option α := f199_0g f203_0 α x1 x2 x3 k1
def pa199_0 : PT (List DV) := pA [pV true [(dI .i64), (dI .i64)], pV false [(dI .i64)]]
def Fn199_0 (v : Tf199_0) (α : Type) (k : List RV → Option α) : Int → Int → Int → Option α := fun x1 x2 x3 => v α x1 x2 x3 (fun (y1 : Int) (y2 : Int) => ur199_0_0 k y1 y2 0 1)
noncomputable def cm199_0g  : MCode := (.seq (.region r199_2 [] (tO [1, 2, 4])) (.seq (.region r199_4 [] (tO [4])) .ret))
noncomputable def cm199_0 : MCode := cm199_0g 
theorem gm199_0 : cm199_0.Good Tryz.prog E199_0 sh199 := ⟨trivial, ⟨trivial, trivial⟩⟩
theorem fm199_0g (vf203_0 : Tf203_0)  (α : Type) (k : List RV → Option α) : Fn199_0 (f199_0g vf203_0) α k = pa199_0.unc fun ds => fnM Tryz.prog (E199_0g vf203_0) sh199 (cm199_0g ) rs199 k ds := by kernel_rfl
theorem fm199_0 : ∀ (α : Type) (k : List RV → Option α), Fn199_0 f199_0 α k = pa199_0.unc fun ds => fnM Tryz.prog E199_0 sh199 cm199_0 rs199 k ds := fm199_0g f203_0
theorem is199 : FnIs Tryz.prog 199 nt199 tr199 tl199 cm199_0.erase rs199 := ⟨Tryz.f199, Tryz.func199, rfl, by kernel_rfl, by kernel_rfl, by kernel_rfl⟩
theorem io199_0 : InstOk Tryz.prog 199 nt199 ⟨pa199_0, Fn199_0 f199_0⟩ := inst_ok eo199_0 followsTry is199 ⟨⟨sh199, cm199_0, by kernel_rfl, gm199_0, fm199_0⟩⟩
abbrev nt63 : Nat := 14
def sh63 : List (Nat × List Sh) := [(4, [.int .i64]), (7, [.int .i64]), (10, [.int .i64])]
def r63_2 : List AOper := [oO 1 (.box (.tmp 0)), oO 2 (.mv (kI 0))]
def r63_4 : List AOper := [oO 3 (.faddr 0 (.tmp 1)), oO 4 (.load false 1 (.tmp 3)), oO 5 (.bin .mul 3 (kI 2) (.tmp 4)), oO 6 (.faddr 1 (.tmp 1)), oO 7 (.load false 1 (.tmp 6)), oO 8 (.bin .add 3 (.tmp 5) (.tmp 7)), oO 9 (.faddr 1 (.tmp 1)), oO 10 (.load false 1 (.tmp 9)), oO 11 (.bin .mul 3 (kI 2) (.tmp 10)), oO 12 (.build [(cI 0), (cI 0)] [(0, 1, (.tmp 8)), (1, 1, (.tmp 11))]), oO 13 (.call 108 [(.tmp 12)]), oM 2 13]
def tr63 : List (Nat × Tidy) := [tT 0 [1], tT 1 [2]]
def tl63 : List (Nat × Tidy) := []
def rs63 : List AResV := [.tmp 2]
def pr63_0_0 : PT (List RV) := pRs [pR false [rD (dI .i64)]]
def ur63_0_0 {β : Type} (g : List RV → β) : Int → β := pr63_0_0.unc g
def E63_0g (vf108_0 : Tf108_0) : EnvK := EnvK.of [⟨108, nt108, [⟨pa108_0, Fn108_0 vf108_0⟩]⟩] noSeq
noncomputable def E63_0 : EnvK := E63_0g f108_0
theorem eo63_0 : E63_0.Ok Tryz.prog := EnvK.of_ok noSeq_ok ⟨⟨io108_0, trivial⟩, trivial⟩
abbrev Tf63_0 : Type 1 := (α : Type) → Int → Int → (Int → Option α) → Option α
def f63_0g (vf108_0 : Tf108_0) (α : Type) (x1 x2 : Int) (k1 : Int → Option α) : Option α :=
 vf108_0 α (w64 ((w64 (2 * x1)) + x2)) (w64 (2 * x2))
 (fun x3 => k1 x3)
noncomputable def f63_0 (α : Type) (x1 x2 : Int) (k1 : Int → Option α) : Option α := f63_0g f108_0 α x1 x2 k1
def pa63_0 : PT (List DV) := pA [pV true [(dI .i64), (dI .i64)]]
def Fn63_0 (v : Tf63_0) (α : Type) (k : List RV → Option α) : Int → Int → Option α := fun x1 x2 => v α x1 x2 (fun (y1 : Int) => ur63_0_0 k y1)
noncomputable def cm63_0g  : MCode := (.seq (.region r63_2 [] (tO [1])) (.seq (.region r63_4 [] (tO [2])) .ret))
noncomputable def cm63_0 : MCode := cm63_0g 
theorem gm63_0 : cm63_0.Good Tryz.prog E63_0 sh63 := ⟨trivial, ⟨trivial, trivial⟩⟩
theorem fm63_0g (vf108_0 : Tf108_0)  (α : Type) (k : List RV → Option α) : Fn63_0 (f63_0g vf108_0) α k = pa63_0.unc fun ds => fnM Tryz.prog (E63_0g vf108_0) sh63 (cm63_0g ) rs63 k ds := by kernel_rfl
theorem fm63_0 : ∀ (α : Type) (k : List RV → Option α), Fn63_0 f63_0 α k = pa63_0.unc fun ds => fnM Tryz.prog E63_0 sh63 cm63_0 rs63 k ds := fm63_0g f108_0
theorem is63 : FnIs Tryz.prog 63 nt63 tr63 tl63 cm63_0.erase rs63 := ⟨Tryz.f63, Tryz.func63, rfl, by kernel_rfl, by kernel_rfl, by kernel_rfl⟩
theorem io63_0 : InstOk Tryz.prog 63 nt63 ⟨pa63_0, Fn63_0 f63_0⟩ := inst_ok eo63_0 followsTry is63 ⟨⟨sh63, cm63_0, by kernel_rfl, gm63_0, fm63_0⟩⟩
abbrev nt193 : Nat := 78
def sh193 : List (Nat × List Sh) := [(11, [.str, .int .i64, .sl, .sl, .sl, .int .i64, .int .i64]), (14, [.str, .int .i64, .sl, .sl, .sl, .int .i64, .int .i64]), (19, [.sl]), (23, [.int .i64]), (26, [.int .i64]), (29, [.str, .int .i64, .sl, .sl, .sl, .int .i64, .int .i64]), (35, [.sl]), (38, [.int .i64]), (39, [.int .i64]), (42, [.sl]), (44, [.int .i64]), (45, [.int .i64]), (53, [.int .i64]), (58, [.int .i64]), (61, [.int .i64]), (66, [.sl]), (68, [.int .i64]), (69, [.int .i64]), (77, [.int .i64, .int .i64, .int .i64, .int .i64])]
def r193_2 : List AOper := [oO 2 (.box (.tmp 0)), oO 4 (.alloc [(cI 0), (cI 0), (cI 0), (cI 0)])]
def r193_4 : List AOper := [oO 11 (.load true 7 (.tmp 2)), oM 12 1, oO 13 (.call 197 [(.tmp 11), (.tmp 12)]), oM 5 13]
def r193_6 : List AOper := [oO 14 (.load true 7 (.tmp 2)), oM 15 5, oO 16 (.call 198 [(.tmp 14), (.tmp 15)]), oO 6 (.alloc [(cI 0), (cI 0)]), oD (.store 2 (.tmp 6) (.tmp 16))]
def r193_9 : List AOper := [oO 17 (.faddr 0 (.tmp 2)), oO 18 (.faddr 2 (.tmp 17)), oO 19 (.load false 1 (.tmp 18)), oO 20 (.len (.tmp 19)), oO 21 (.bin .eql 3 (.tmp 20) (kI 1))]
def r193_12 : List AOper := [oO 22 (.iaddr 1 (some 2) (.tmp 6) (kI 0)), oO 23 (.load false 1 (.tmp 22)), oO 24 (.build [(cI 0), (cI 0)] [(0, 1, (.tmp 23)), (1, 1, (kI 1))]), oO 25 (.iaddr 1 (some 2) (.tmp 6) (kI 1)), oO 26 (.load false 1 (.tmp 25)), oO 27 (.build [(cI 0), (cI 0)] [(0, 1, (.tmp 26)), (1, 1, (kI 1))]), oO 28 (.build [(cI 0), (cI 0), (cI 0), (cI 0)] [(0, 2, (.tmp 24)), (2, 2, (.tmp 27))]), oD (.store 4 (.tmp 4) (.tmp 28))]
def r193_14 : List AOper := [oO 29 (.load true 7 (.tmp 2)), oM 30 5, oO 31 (.bin .add 3 (.tmp 30) (kI 1)), oO 32 (.call 198 [(.tmp 29), (.tmp 31)]), oO 33 (.faddr 0 (.tmp 2)), oO 34 (.faddr 2 (.tmp 33)), oO 35 (.load false 1 (.tmp 34)), oM 36 5, oO 37 (.bin .add 3 (.tmp 36) (kI 1)), oO 38 (.iaddr 1 none (.tmp 35) (.tmp 37)), oO 39 (.load false 1 (.tmp 38)), oO 40 (.faddr 0 (.tmp 2)), oO 41 (.faddr 2 (.tmp 40)), oO 42 (.load false 1 (.tmp 41)), oM 43 5, oO 44 (.iaddr 1 none (.tmp 42) (.tmp 43)), oO 45 (.load false 1 (.tmp 44)), oO 46 (.bin .sub 3 (.tmp 39) (.tmp 45)), oO 7 (.alloc [(cI 0), (cI 0)]), oD (.store 2 (.tmp 7) (.tmp 32)), oM 8 46]
def r193_16 : List AOper := [oO 9 (.alloc [(cI 0), (cI 0), (cI 0), (cI 0)])]
def r193_19 : List AOper := [oO 47 (.mv (kI 0))]
def td193_21 : Option Tidy := (some ⟨[1, 2, 4, 5, 6, 7, 8, 9, 47], true, [⟨true, 2, 2, 30202, 1⟩, ⟨true, 2, 3, 30203, 1⟩, ⟨true, 2, 4, 30204, 1⟩], []⟩)
def r193_23 : List AOper := [oO 48 (.bin .lss 3 (.tmp 47) (kI 2))]
def r193_29 : List AOper := [oM 49 47, oM 10 49]
def r193_30 : List AOper := [oM 50 10, oM 51 10, oO 52 (.iaddr 1 (some 2) (.tmp 6) (.tmp 51)), oO 53 (.load false 1 (.tmp 52)), oM 54 8, oO 55 (.bin .mul 3 (.tmp 53) (.tmp 54)), oM 56 10, oO 57 (.iaddr 1 (some 2) (.tmp 7) (.tmp 56)), oO 58 (.load false 1 (.tmp 57)), oM 59 10, oO 60 (.iaddr 1 (some 2) (.tmp 6) (.tmp 59)), oO 61 (.load false 1 (.tmp 60)), oO 62 (.bin .sub 3 (.tmp 58) (.tmp 61)), oM 63 1, oO 64 (.faddr 0 (.tmp 2)), oO 65 (.faddr 2 (.tmp 64)), oO 66 (.load false 1 (.tmp 65)), oM 67 5, oO 68 (.iaddr 1 none (.tmp 66) (.tmp 67)), oO 69 (.load false 1 (.tmp 68)), oO 70 (.bin .sub 3 (.tmp 63) (.tmp 69)), oO 71 (.bin .mul 3 (.tmp 62) (.tmp 70)), oO 72 (.bin .add 3 (.tmp 55) (.tmp 71)), oM 73 8, oO 74 (.build [(cI 0), (cI 0)] [(0, 1, (.tmp 72)), (1, 1, (.tmp 73))]), oO 75 (.iaddr 2 (some 2) (.tmp 9) (.tmp 50)), oD (.store 2 (.tmp 75) (.tmp 74))]
def r193_31 : List AOper := [oO 76 (.bin .add 3 (.tmp 47) (kI 1)), oM 47 76]
def r193_33 : List AOper := [oO 77 (.load true 4 (.tmp 9)), oD (.store 4 (.tmp 4) (.tmp 77))]
def tr193 : List (Nat × Tidy) := [tT 0 [1, 2, 4], tT 1 [1, 2, 4, 5], tT 2 [1, 2, 4, 5, 6], tT 3 [1, 2, 4, 5, 6, 21], tT 4 [4], tT 5 [1, 2, 4, 5, 6, 7, 8], tT 6 [1, 2, 4, 5, 6, 7, 8, 9], tT 7 [1, 2, 4, 5, 6, 7, 8, 9, 47], tT 8 [1, 2, 4, 5, 6, 7, 8, 9, 47, 48], tT 9 [1, 2, 4, 5, 6, 7, 8, 9, 10, 47], tT 10 [1, 2, 4, 5, 6, 7, 8, 9, 47], tT 11 [1, 2, 4, 5, 6, 7, 8, 9, 47], tT 12 [4]]
def tl193 : List (Nat × Tidy) := [(8, ⟨[1, 2, 4, 5, 6, 7, 8, 9, 47], true, [⟨true, 2, 2, 30202, 1⟩, ⟨true, 2, 3, 30203, 1⟩, ⟨true, 2, 4, 30204, 1⟩], []⟩)]
def rs193 : List AResV := [.cell 4 true 4]
def pr193_0_0 : PT (List RV) := pRs [pR true [rD (dI .i64), rD (dI .i64), rD (dI .i64), rD (dI .i64)]]
def ur193_0_0 {β : Type} (g : List RV → β) : Int → Int → Int → Int → β := pr193_0_0.unc g
def E193_0g (vf197_0 : Tf197_0) (vf198_0 : Tf198_0) : EnvK := EnvK.of [⟨197, nt197, [⟨pa197_0, Fn197_0 vf197_0⟩]⟩, ⟨198, nt198, [⟨pa198_0, Fn198_0 vf198_0⟩]⟩] noSeq
noncomputable def E193_0 : EnvK := E193_0g f197_0 f198_0
theorem eo193_0 : E193_0.Ok Tryz.prog := EnvK.of_ok noSeq_ok ⟨⟨io197_0, trivial⟩, ⟨io198_0, trivial⟩, trivial⟩
abbrev Tf193_0 : Type 1 := (α : Type) → ByteArray → Int → Rows → Rows → Rows → Int → Int → Int → (Int → Int → Int → Int → Option α) → Option α
def f193_0g (vf197_0 : Tf197_0) (vf198_0 : Tf198_0) (α : Type) (x1 : ByteArray) (x2 : Int) (x3 x4 x5 : Rows) (x6 x7 x8 : Int) (k1 : Int → Int → Int → Int → Option α) : Option α :=
 vf197_0 α x1 x2 x3 x4 x5 x6 x7 x8
 (fun x9 => vf198_0 α x1 x2 x3 x4 x5 x6 x7 x9
 (fun x10 x11 => cK (((List.length x3 : Nat) : Int) == 1)
 (k1 x10 1 x11 1)
 (vf198_0 α x1 x2 x3 x4 x5 x6 x7 (w64 (x9 + 1))
 (fun x12 x13 => rowK x3 (w64 (x9 + 1)) [.int .i64]
 (fun x14 => rowK x3 x9 [.int .i64]
 (fun x15 => rowK x3 x9 [.int .i64]
 (fun x16 => rowK x3 x9 [.int .i64]
 (fun x17 => k1 (w64 ((w64 (x10 * (w64 (x14 - x15)))) + (w64 ((w64 (x12 - x10)) * (w64 (x8 - x16)))))) (w64 (x14 - x15)) (w64 ((w64 (x11 * (w64 (x14 - x15)))) + (w64 ((w64 (x13 - x11)) * (w64 (x8 - x17)))))) (w64 (x14 - x15))))))))))
noncomputable def f193_0 (α : Type) (x1 : ByteArray) (x2 : Int) (x3 x4 x5 : Rows) (x6 x7 x8 : Int) (k1 : Int → Int → Int → Int → Option α) : Option α := f193_0g f197_0 f198_0 α x1 x2 x3 x4 x5 x6 x7 x8 k1
def pa193_0 : PT (List DV) := pA [pV true [dS, (dI .i64), dL, dL, dL, (dI .i64), (dI .i64)], pV false [(dI .i64)]]
def Fn193_0 (v : Tf193_0) (α : Type) (k : List RV → Option α) : ByteArray → Int → Rows → Rows → Rows → Int → Int → Int → Option α := fun x1 x2 x3 x4 x5 x6 x7 x8 => v α x1 x2 x3 x4 x5 x6 x7 x8 (fun (y1 : Int) (y2 : Int) (y3 : Int) (y4 : Int) => ur193_0_0 k y1 y2 y3 y4)
noncomputable def cm193_0g  : MCode := (.seq (.region r193_2 [] (tO [1, 2, 4])) (.seq (.region r193_4 [] (tO [1, 2, 4, 5])) (.seq (.region r193_6 [] (tO [1, 2, 4, 5, 6])) (.seq (.seq (.region r193_9 [] (tO [1, 2, 4, 5, 6, 21])) (.cond (.tmp 21) (.seq (.region r193_12 [] (tO [4])) .ret) .skip)) (.seq (.region r193_14 [(3, 6), (3, 9), (3, 10), (3, 13), (3, 15), (3, 16), (0, 18), (3, 18), (6, 18), (9, 18), (10, 18), (13, 18), (15, 18), (16, 18), (6, 19), (9, 19), (10, 19), (13, 19), (15, 19), (16, 19)] (tO [1, 2, 4, 5, 6, 7, 8])) (.seq (.region r193_16 [] (tO [1, 2, 4, 5, 6, 7, 8, 9])) (.seq (.seq (.region r193_19 [] (tO [1, 2, 4, 5, 6, 7, 8, 9, 47])) (.block 0 (.loopU 3 td193_21 (.seq (.region r193_23 [] (tO [1, 2, 4, 5, 6, 7, 8, 9, 47, 48])) (.seq (.cond (.tmp 48) .skip (.exit 0)) (.seq (.block 1 (.seq (.region r193_29 [] (tO [1, 2, 4, 5, 6, 7, 8, 9, 10, 47])) (.region r193_30 [] (tO [1, 2, 4, 5, 6, 7, 8, 9, 47])))) (.region r193_31 [] (tO [1, 2, 4, 5, 6, 7, 8, 9, 47])))))))) (.seq (.region r193_33 [] (tO [4])) .ret))))))))
noncomputable def cm193_0 : MCode := cm193_0g 
theorem gm193_0 : cm193_0.Good Tryz.prog E193_0 sh193 := ⟨trivial, ⟨trivial, ⟨trivial, ⟨⟨trivial, ⟨⟨trivial, trivial⟩, trivial⟩⟩, ⟨trivial, ⟨trivial, ⟨⟨trivial, ⟨⟨trivial, ⟨⟨trivial, trivial⟩, ⟨⟨trivial, trivial⟩, trivial⟩⟩⟩, by decide⟩⟩, ⟨trivial, trivial⟩⟩⟩⟩⟩⟩⟩⟩
theorem fm193_0g (vf197_0 : Tf197_0) (vf198_0 : Tf198_0)  (α : Type) (k : List RV → Option α) : Fn193_0 (f193_0g vf197_0 vf198_0) α k = pa193_0.unc fun ds => fnM Tryz.prog (E193_0g vf197_0 vf198_0) sh193 (cm193_0g ) rs193 k ds := by kernel_rfl
theorem fm193_0 : ∀ (α : Type) (k : List RV → Option α), Fn193_0 f193_0 α k = pa193_0.unc fun ds => fnM Tryz.prog E193_0 sh193 cm193_0 rs193 k ds := fm193_0g f197_0 f198_0
theorem is193 : FnIs Tryz.prog 193 nt193 tr193 tl193 cm193_0.erase rs193 := ⟨Tryz.f193, Tryz.func193, rfl, by kernel_rfl, by kernel_rfl, by kernel_rfl⟩
theorem io193_0 : InstOk Tryz.prog 193 nt193 ⟨pa193_0, Fn193_0 f193_0⟩ := inst_ok eo193_0 followsTry is193 ⟨⟨sh193, cm193_0, by kernel_rfl, gm193_0, fm193_0⟩⟩
abbrev nt195 : Nat := 22
def sh195 : List (Nat × List Sh) := [(8, [.sl]), (9, [.int .i64]), (10, [.int .i64]), (13, [.sl]), (16, [.sl]), (19, [.int .i64]), (20, [.int .i64])]
def r195_2 : List AOper := [oO 2 (.box (.tmp 0)), oO 4 (.mv (.const (.bool false)))]
def r195_4 : List AOper := [oM 5 1, oO 6 (.faddr 0 (.tmp 2)), oO 7 (.faddr 2 (.tmp 6)), oO 8 (.load false 1 (.tmp 7)), oO 9 (.iaddr 1 none (.tmp 8) (kI 0)), oO 10 (.load false 1 (.tmp 9)), oO 11 (.faddr 0 (.tmp 2)), oO 12 (.faddr 2 (.tmp 11)), oO 13 (.load false 1 (.tmp 12)), oO 14 (.faddr 0 (.tmp 2)), oO 15 (.faddr 2 (.tmp 14)), oO 16 (.load false 1 (.tmp 15)), oO 17 (.len (.tmp 16)), oO 18 (.bin .sub 3 (.tmp 17) (kI 1)), oO 19 (.iaddr 1 none (.tmp 13) (.tmp 18)), oO 20 (.load false 1 (.tmp 19)), oO 21 (.call 51 [(.tmp 5), (.tmp 10), (.tmp 20)]), oM 4 21]
def tr195 : List (Nat × Tidy) := [tT 0 [1, 2], tT 1 [4]]
def tl195 : List (Nat × Tidy) := []
def rs195 : List AResV := [.tmp 4]
def pr195_0_0 : PT (List RV) := pRs [pR false [rD dB]]
def ur195_0_0 {β : Type} (g : List RV → β) : Bool → β := pr195_0_0.unc g
def E195_0g (vf51_0 : Tf51_0) : EnvK := EnvK.of [⟨51, nt51, [⟨pa51_0, Fn51_0 vf51_0⟩]⟩] noSeq
noncomputable def E195_0 : EnvK := E195_0g f51_0
theorem eo195_0 : E195_0.Ok Tryz.prog := EnvK.of_ok noSeq_ok ⟨⟨io51_0, trivial⟩, trivial⟩
abbrev Tf195_0 : Type 1 := (α : Type) → ByteArray → Int → Rows → Rows → Rows → Int → Int → Int → (Bool → Option α) → Option α
def f195_0g (vf51_0 : Tf51_0) (α : Type) (x1 : ByteArray) (x2 : Int) (x3 x4 x5 : Rows) (x6 x7 x8 : Int) (k1 : Bool → Option α) : Option α :=
 rowK x3 0 [.int .i64]
 (fun x9 => rowK x3 (w64 (((List.length x3 : Nat) : Int) - 1)) [.int .i64]
 (fun x10 => vf51_0 α x8 x9 x10
 (fun x11 => k1 x11)))
noncomputable def f195_0 (α : Type) (x1 : ByteArray) (x2 : Int) (x3 x4 x5 : Rows) (x6 x7 x8 : Int) (k1 : Bool → Option α) : Option α := f195_0g f51_0 α x1 x2 x3 x4 x5 x6 x7 x8 k1
def pa195_0 : PT (List DV) := pA [pV true [dS, (dI .i64), dL, dL, dL, (dI .i64), (dI .i64)], pV false [(dI .i64)]]
def Fn195_0 (v : Tf195_0) (α : Type) (k : List RV → Option α) : ByteArray → Int → Rows → Rows → Rows → Int → Int → Int → Option α := fun x1 x2 x3 x4 x5 x6 x7 x8 => v α x1 x2 x3 x4 x5 x6 x7 x8 (fun (y1 : Bool) => ur195_0_0 k y1)
noncomputable def cm195_0g  : MCode := (.seq (.region r195_2 [] (tO [1, 2])) (.seq (.region r195_4 [] (tO [4])) .ret))
noncomputable def cm195_0 : MCode := cm195_0g 
theorem gm195_0 : cm195_0.Good Tryz.prog E195_0 sh195 := ⟨trivial, ⟨trivial, trivial⟩⟩
theorem fm195_0g (vf51_0 : Tf51_0)  (α : Type) (k : List RV → Option α) : Fn195_0 (f195_0g vf51_0) α k = pa195_0.unc fun ds => fnM Tryz.prog (E195_0g vf51_0) sh195 (cm195_0g ) rs195 k ds := by kernel_rfl
theorem fm195_0 : ∀ (α : Type) (k : List RV → Option α), Fn195_0 f195_0 α k = pa195_0.unc fun ds => fnM Tryz.prog E195_0 sh195 cm195_0 rs195 k ds := fm195_0g f51_0
theorem is195 : FnIs Tryz.prog 195 nt195 tr195 tl195 cm195_0.erase rs195 := ⟨Tryz.f195, Tryz.func195, rfl, by kernel_rfl, by kernel_rfl, by kernel_rfl⟩
theorem io195_0 : InstOk Tryz.prog 195 nt195 ⟨pa195_0, Fn195_0 f195_0⟩ := inst_ok eo195_0 followsTry is195 ⟨⟨sh195, cm195_0, by kernel_rfl, gm195_0, fm195_0⟩⟩
abbrev nt143 : Nat := 11
def sh143 : List (Nat × List Sh) := [(4, [.int .i64]), (8, [.int .i64])]
def r143_2 : List AOper := [oO 1 (.box (.tmp 0)), oO 2 (.mv (.const (.bool false)))]
def r143_4 : List AOper := [oO 3 (.iaddr 1 (some 2) (.tmp 1) (kI 0)), oO 4 (.load false 1 (.tmp 3)), oO 5 (.call 51 [(.tmp 4), (kI 5000), (kI 60000)]), oM 6 5, oG 7 (.iaddr 1 (some 2) (.tmp 1) (kI 1)) 6 true, oG 8 (.load false 1 (.tmp 7)) 6 true, oG 9 (.call 51 [(.tmp 8), (kI 0), (kI 20000)]) 6 true, oO 10 (.pick (.tmp 6) (.tmp 9) (.const (.bool false))), oM 2 10]
def tr143 : List (Nat × Tidy) := [tT 0 [1], tT 1 [2]]
def tl143 : List (Nat × Tidy) := []
def rs143 : List AResV := [.tmp 2]
def pr143_0_0 : PT (List RV) := pRs [pR false [rD dB]]
def ur143_0_0 {β : Type} (g : List RV → β) : Bool → β := pr143_0_0.unc g
def E143_0g (vf51_0 : Tf51_0) : EnvK := EnvK.of [⟨51, nt51, [⟨pa51_0, Fn51_0 vf51_0⟩]⟩] noSeq
noncomputable def E143_0 : EnvK := E143_0g f51_0
theorem eo143_0 : E143_0.Ok Tryz.prog := EnvK.of_ok noSeq_ok ⟨⟨io51_0, trivial⟩, trivial⟩
abbrev Tf143_0 : Type 1 := (α : Type) → Int → Int → (Bool → Option α) → Option α
def f143_0g (vf51_0 : Tf51_0) (α : Type) (x1 x2 : Int) (k1 : Bool → Option α) : Option α :=
 vf51_0 α x1 5000 60000
 (fun x3 => cK x3
 (vf51_0 α x2 0 20000
 (fun x4 => k1 x4))
 (k1 false))
noncomputable def f143_0 (α : Type) (x1 x2 : Int) (k1 : Bool → Option α) : Option α := f143_0g f51_0 α x1 x2 k1
def pa143_0 : PT (List DV) := pA [pV true [(dI .i64), (dI .i64)]]
def Fn143_0 (v : Tf143_0) (α : Type) (k : List RV → Option α) : Int → Int → Option α := fun x1 x2 => v α x1 x2 (fun (y1 : Bool) => ur143_0_0 k y1)
noncomputable def cm143_0g  : MCode := (.seq (.region r143_2 [] (tO [1])) (.seq (.region r143_4 [] (tO [2])) .ret))
noncomputable def cm143_0 : MCode := cm143_0g 
theorem gm143_0 : cm143_0.Good Tryz.prog E143_0 sh143 := ⟨trivial, ⟨trivial, trivial⟩⟩
theorem fm143_0g (vf51_0 : Tf51_0)  (α : Type) (k : List RV → Option α) : Fn143_0 (f143_0g vf51_0) α k = pa143_0.unc fun ds => fnM Tryz.prog (E143_0g vf51_0) sh143 (cm143_0g ) rs143 k ds := by kernel_rfl
theorem fm143_0 : ∀ (α : Type) (k : List RV → Option α), Fn143_0 f143_0 α k = pa143_0.unc fun ds => fnM Tryz.prog E143_0 sh143 cm143_0 rs143 k ds := fm143_0g f51_0
theorem is143 : FnIs Tryz.prog 143 nt143 tr143 tl143 cm143_0.erase rs143 := ⟨Tryz.f143, Tryz.func143, rfl, by kernel_rfl, by kernel_rfl, by kernel_rfl⟩
theorem io143_0 : InstOk Tryz.prog 143 nt143 ⟨pa143_0, Fn143_0 f143_0⟩ := inst_ok eo143_0 followsTry is143 ⟨⟨sh143, cm143_0, by kernel_rfl, gm143_0, fm143_0⟩⟩
abbrev nt169 : Nat := 5
def sh169 : List (Nat × List Sh) := []
def r169_2 : List AOper := [oO 2 (.mv (.const (.bool false)))]
def r169_4 : List AOper := [oM 3 0, oO 4 (.call 51 [(.tmp 3), (kI 0), (kI 80000)]), oM 2 4]
def tr169 : List (Nat × Tidy) := [tT 0 [0], tT 1 [2]]
def tl169 : List (Nat × Tidy) := []
def rs169 : List AResV := [.tmp 2]
def pr169_0_0 : PT (List RV) := pRs [pR false [rD dB]]
def ur169_0_0 {β : Type} (g : List RV → β) : Bool → β := pr169_0_0.unc g
def E169_0g (vf51_0 : Tf51_0) : EnvK := EnvK.of [⟨51, nt51, [⟨pa51_0, Fn51_0 vf51_0⟩]⟩] noSeq
noncomputable def E169_0 : EnvK := E169_0g f51_0
theorem eo169_0 : E169_0.Ok Tryz.prog := EnvK.of_ok noSeq_ok ⟨⟨io51_0, trivial⟩, trivial⟩
abbrev Tf169_0 : Type 1 := (α : Type) → Int → (Bool → Option α) → Option α
def f169_0g (vf51_0 : Tf51_0) (α : Type) (x1 : Int) (k1 : Bool → Option α) : Option α :=
 vf51_0 α x1 0 80000
 (fun x2 => k1 x2)
noncomputable def f169_0 (α : Type) (x1 : Int) (k1 : Bool → Option α) : Option α := f169_0g f51_0 α x1 k1
def pa169_0 : PT (List DV) := pA [pV false [(dI .i64)]]
def Fn169_0 (v : Tf169_0) (α : Type) (k : List RV → Option α) : Int → Option α := fun x1 => v α x1 (fun (y1 : Bool) => ur169_0_0 k y1)
noncomputable def cm169_0g  : MCode := (.seq (.region r169_2 [] (tO [0])) (.seq (.region r169_4 [] (tO [2])) .ret))
noncomputable def cm169_0 : MCode := cm169_0g 
theorem gm169_0 : cm169_0.Good Tryz.prog E169_0 sh169 := ⟨trivial, ⟨trivial, trivial⟩⟩
theorem fm169_0g (vf51_0 : Tf51_0)  (α : Type) (k : List RV → Option α) : Fn169_0 (f169_0g vf51_0) α k = pa169_0.unc fun ds => fnM Tryz.prog (E169_0g vf51_0) sh169 (cm169_0g ) rs169 k ds := by kernel_rfl
theorem fm169_0 : ∀ (α : Type) (k : List RV → Option α), Fn169_0 f169_0 α k = pa169_0.unc fun ds => fnM Tryz.prog E169_0 sh169 cm169_0 rs169 k ds := fm169_0g f51_0
theorem is169 : FnIs Tryz.prog 169 nt169 tr169 tl169 cm169_0.erase rs169 := ⟨Tryz.f169, Tryz.func169, rfl, by kernel_rfl, by kernel_rfl, by kernel_rfl⟩
theorem io169_0 : InstOk Tryz.prog 169 nt169 ⟨pa169_0, Fn169_0 f169_0⟩ := inst_ok eo169_0 followsTry is169 ⟨⟨sh169, cm169_0, by kernel_rfl, gm169_0, fm169_0⟩⟩
abbrev nt132 : Nat := 5
def sh132 : List (Nat × List Sh) := []
def r132_2 : List AOper := [oO 2 (.mv (.const (.bool false)))]
def r132_4 : List AOper := [oM 3 0, oO 4 (.call 51 [(.tmp 3), (kI 5000), (kI 80000)]), oM 2 4]
def tr132 : List (Nat × Tidy) := [tT 0 [0], tT 1 [2]]
def tl132 : List (Nat × Tidy) := []
def rs132 : List AResV := [.tmp 2]
def pr132_0_0 : PT (List RV) := pRs [pR false [rD dB]]
def ur132_0_0 {β : Type} (g : List RV → β) : Bool → β := pr132_0_0.unc g
def E132_0g (vf51_0 : Tf51_0) : EnvK := EnvK.of [⟨51, nt51, [⟨pa51_0, Fn51_0 vf51_0⟩]⟩] noSeq
noncomputable def E132_0 : EnvK := E132_0g f51_0
theorem eo132_0 : E132_0.Ok Tryz.prog := EnvK.of_ok noSeq_ok ⟨⟨io51_0, trivial⟩, trivial⟩
abbrev Tf132_0 : Type 1 := (α : Type) → Int → (Bool → Option α) → Option α
def f132_0g (vf51_0 : Tf51_0) (α : Type) (x1 : Int) (k1 : Bool → Option α) : Option α :=
 vf51_0 α x1 5000 80000
 (fun x2 => k1 x2)
noncomputable def f132_0 (α : Type) (x1 : Int) (k1 : Bool → Option α) : Option α := f132_0g f51_0 α x1 k1
def pa132_0 : PT (List DV) := pA [pV false [(dI .i64)]]
def Fn132_0 (v : Tf132_0) (α : Type) (k : List RV → Option α) : Int → Option α := fun x1 => v α x1 (fun (y1 : Bool) => ur132_0_0 k y1)
noncomputable def cm132_0g  : MCode := (.seq (.region r132_2 [] (tO [0])) (.seq (.region r132_4 [] (tO [2])) .ret))
noncomputable def cm132_0 : MCode := cm132_0g 
theorem gm132_0 : cm132_0.Good Tryz.prog E132_0 sh132 := ⟨trivial, ⟨trivial, trivial⟩⟩
theorem fm132_0g (vf51_0 : Tf51_0)  (α : Type) (k : List RV → Option α) : Fn132_0 (f132_0g vf51_0) α k = pa132_0.unc fun ds => fnM Tryz.prog (E132_0g vf51_0) sh132 (cm132_0g ) rs132 k ds := by kernel_rfl
theorem fm132_0 : ∀ (α : Type) (k : List RV → Option α), Fn132_0 f132_0 α k = pa132_0.unc fun ds => fnM Tryz.prog E132_0 sh132 cm132_0 rs132 k ds := fm132_0g f51_0
theorem is132 : FnIs Tryz.prog 132 nt132 tr132 tl132 cm132_0.erase rs132 := ⟨Tryz.f132, Tryz.func132, rfl, by kernel_rfl, by kernel_rfl, by kernel_rfl⟩
theorem io132_0 : InstOk Tryz.prog 132 nt132 ⟨pa132_0, Fn132_0 f132_0⟩ := inst_ok eo132_0 followsTry is132 ⟨⟨sh132, cm132_0, by kernel_rfl, gm132_0, fm132_0⟩⟩
abbrev nt151 : Nat := 15
def sh151 : List (Nat × List Sh) := []
def r151_2 : List AOper := [oO 4 (.mv (.const (.bool false)))]
def r151_5 : List AOper := [oM 5 1, oO 6 (.bin .eql 3 (.tmp 5) (kI 0))]
def r151_7 : List AOper := [oM 7 0, oO 8 (.call 129 [(.tmp 7)]), oM 0 8]
def r151_9 : List AOper := [oM 9 1, oO 10 (.bin .lss 3 (.tmp 9) (kI 0))]
def r151_11 : List AOper := [oM 11 0, oO 12 (.pure (oB (.unOp .neg 117 (.tmp 11)) 117)), oM 0 12]
def r151_13 : List AOper := [oM 13 0, oO 14 (.bin .gtr 117 (.tmp 13) (.const (.float Go.FloatKind.f64 9218868437227405311))), oM 4 14]
def tr151 : List (Nat × Tidy) := [tT 0 [0, 1], tT 1 [0, 1, 6], tT 2 [0], tT 3 [0, 10], tT 4 [0], tT 5 [4]]
def tl151 : List (Nat × Tidy) := []
def rs151 : List AResV := [.tmp 4]
def pr151_0_0 : PT (List RV) := pRs [pR false [rD dB]]
def ur151_0_0 {β : Type} (g : List RV → β) : Bool → β := pr151_0_0.unc g
def E151_0g (vf129_0 : Tf129_0) : EnvK := EnvK.of [⟨129, nt129, [⟨pa129_0, Fn129_0 vf129_0⟩]⟩] noSeq
noncomputable def E151_0 : EnvK := E151_0g f129_0
theorem eo151_0 : E151_0.Ok Tryz.prog := EnvK.of_ok noSeq_ok ⟨⟨io129_0, trivial⟩, trivial⟩
abbrev Tf151_0 : Type 1 := (α : Type) → Nat → Int → (Bool → Option α) → Option α
def f151_0g (vf129_0 : Tf129_0) (α : Type) (x1 : Nat) (x2 : Int) (k1 : Bool → Option α) : Option α :=
 cK (x2 == 0)
 (vf129_0 α x1
 (fun x3 => k1 ((FloatKind.format .f64).order x3 9218868437227405311 == some Ordering.gt)))
 (cK (decide (x2 < 0))
 (k1 ((FloatKind.format .f64).order (Op.negFloat .f64 x1) 9218868437227405311 == some Ordering.gt))
 (k1 ((FloatKind.format .f64).order x1 9218868437227405311 == some Ordering.gt)))
noncomputable def f151_0 (α : Type) (x1 : Nat) (x2 : Int) (k1 : Bool → Option α) : Option α := f151_0g f129_0 α x1 x2 k1
def pa151_0 : PT (List DV) := pA [pV false [(dF .f64)], pV false [(dI .i64)]]
def Fn151_0 (v : Tf151_0) (α : Type) (k : List RV → Option α) : Nat → Int → Option α := fun x1 x2 => v α x1 x2 (fun (y1 : Bool) => ur151_0_0 k y1)
noncomputable def cm151_0g  : MCode := (.seq (.region r151_2 [] (tO [0, 1])) (.seq (.seq (.region r151_5 [] (tO [0, 1, 6])) (.cond (.tmp 6) (.region r151_7 [] (tO [0])) (.seq (.region r151_9 [] (tO [0, 10])) (.cond (.tmp 10) (.region r151_11 [] (tO [0])) .skip)))) (.seq (.region r151_13 [] (tO [4])) .ret)))
noncomputable def cm151_0 : MCode := cm151_0g 
theorem gm151_0 : cm151_0.Good Tryz.prog E151_0 sh151 := ⟨trivial, ⟨⟨trivial, ⟨trivial, ⟨trivial, ⟨trivial, trivial⟩⟩⟩⟩, ⟨trivial, trivial⟩⟩⟩
theorem fm151_0g (vf129_0 : Tf129_0)  (α : Type) (k : List RV → Option α) : Fn151_0 (f151_0g vf129_0) α k = pa151_0.unc fun ds => fnM Tryz.prog (E151_0g vf129_0) sh151 (cm151_0g ) rs151 k ds := by kernel_rfl
theorem fm151_0 : ∀ (α : Type) (k : List RV → Option α), Fn151_0 f151_0 α k = pa151_0.unc fun ds => fnM Tryz.prog E151_0 sh151 cm151_0 rs151 k ds := fm151_0g f129_0
theorem is151 : FnIs Tryz.prog 151 nt151 tr151 tl151 cm151_0.erase rs151 := ⟨Tryz.f151, Tryz.func151, rfl, by kernel_rfl, by kernel_rfl, by kernel_rfl⟩
theorem io151_0 : InstOk Tryz.prog 151 nt151 ⟨pa151_0, Fn151_0 f151_0⟩ := inst_ok eo151_0 followsTry is151 ⟨⟨sh151, cm151_0, by kernel_rfl, gm151_0, fm151_0⟩⟩
abbrev nt80 : Nat := 5
def sh80 : List (Nat × List Sh) := []
def r80_2 : List AOper := [oO 2 (.mv (.const (.bool false)))]
def r80_4 : List AOper := [oM 3 0, oO 4 (.call 51 [(.tmp 3), (kI 1000), (kI 200000)]), oM 2 4]
def tr80 : List (Nat × Tidy) := [tT 0 [0], tT 1 [2]]
def tl80 : List (Nat × Tidy) := []
def rs80 : List AResV := [.tmp 2]
def pr80_0_0 : PT (List RV) := pRs [pR false [rD dB]]
def ur80_0_0 {β : Type} (g : List RV → β) : Bool → β := pr80_0_0.unc g
def E80_0g (vf51_0 : Tf51_0) : EnvK := EnvK.of [⟨51, nt51, [⟨pa51_0, Fn51_0 vf51_0⟩]⟩] noSeq
noncomputable def E80_0 : EnvK := E80_0g f51_0
theorem eo80_0 : E80_0.Ok Tryz.prog := EnvK.of_ok noSeq_ok ⟨⟨io51_0, trivial⟩, trivial⟩
abbrev Tf80_0 : Type 1 := (α : Type) → Int → (Bool → Option α) → Option α
def f80_0g (vf51_0 : Tf51_0) (α : Type) (x1 : Int) (k1 : Bool → Option α) : Option α :=
 vf51_0 α x1 1000 200000
 (fun x2 => k1 x2)
noncomputable def f80_0 (α : Type) (x1 : Int) (k1 : Bool → Option α) : Option α := f80_0g f51_0 α x1 k1
def pa80_0 : PT (List DV) := pA [pV false [(dI .i64)]]
def Fn80_0 (v : Tf80_0) (α : Type) (k : List RV → Option α) : Int → Option α := fun x1 => v α x1 (fun (y1 : Bool) => ur80_0_0 k y1)
noncomputable def cm80_0g  : MCode := (.seq (.region r80_2 [] (tO [0])) (.seq (.region r80_4 [] (tO [2])) .ret))
noncomputable def cm80_0 : MCode := cm80_0g 
theorem gm80_0 : cm80_0.Good Tryz.prog E80_0 sh80 := ⟨trivial, ⟨trivial, trivial⟩⟩
theorem fm80_0g (vf51_0 : Tf51_0)  (α : Type) (k : List RV → Option α) : Fn80_0 (f80_0g vf51_0) α k = pa80_0.unc fun ds => fnM Tryz.prog (E80_0g vf51_0) sh80 (cm80_0g ) rs80 k ds := by kernel_rfl
theorem fm80_0 : ∀ (α : Type) (k : List RV → Option α), Fn80_0 f80_0 α k = pa80_0.unc fun ds => fnM Tryz.prog E80_0 sh80 cm80_0 rs80 k ds := fm80_0g f51_0
theorem is80 : FnIs Tryz.prog 80 nt80 tr80 tl80 cm80_0.erase rs80 := ⟨Tryz.f80, Tryz.func80, rfl, by kernel_rfl, by kernel_rfl, by kernel_rfl⟩
theorem io80_0 : InstOk Tryz.prog 80 nt80 ⟨pa80_0, Fn80_0 f80_0⟩ := inst_ok eo80_0 followsTry is80 ⟨⟨sh80, cm80_0, by kernel_rfl, gm80_0, fm80_0⟩⟩
abbrev nt18 : Nat := 21
def sh18 : List (Nat × List Sh) := [(4, [.str]), (6, [.int .i64]), (8, [.sl]), (12, [.sl]), (16, [.sl]), (19, [.int .i64, .int .i64])]
def r18_2 : List AOper := [oO 1 (.box (.tmp 0)), ⟨(some 2), (.alloc [(.d (.v (.string ⟨#[]⟩))), (cI 0), .nils, .nils, .nils, (cI 0), (cI 0)]), none⟩]
def r18_4 : List AOper := [oO 3 (.faddr 0 (.tmp 1)), oO 4 (.load false 1 (.tmp 3)), oO 5 (.faddr 1 (.tmp 1)), oO 6 (.load false 1 (.tmp 5)), oO 7 (.faddr 2 (.tmp 1)), oO 8 (.load false 1 (.tmp 7)), oO 9 (.call 12 [(.tmp 8)]), oO 10 (.bslice 1 0 [(.v (.float Go.FloatKind.f32 0))] []), oO 11 (.faddr 3 (.tmp 1)), oO 12 (.load false 1 (.tmp 11)), oO 13 (.append 1 4 (.tmp 10) (.tmp 12)), oO 14 (.bslice 1 0 [(.v (.float Go.FloatKind.f32 0))] []), oO 15 (.faddr 4 (.tmp 1)), oO 16 (.load false 1 (.tmp 15)), oO 17 (.append 1 4 (.tmp 14) (.tmp 16)), oO 18 (.faddr 5 (.tmp 1)), oO 19 (.load true 2 (.tmp 18)), ⟨(some 20), (.build [(.d (.v (.string ⟨#[]⟩))), (cI 0), .nils, .nils, .nils, (cI 0), (cI 0)] [(0, 1, (.tmp 4)), (1, 1, (.tmp 6)), (2, 1, (.tmp 9)), (3, 1, (.tmp 13)), (4, 1, (.tmp 17)), (5, 2, (.tmp 19))]), none⟩, oD (.store 7 (.tmp 2) (.tmp 20))]
def tr18 : List (Nat × Tidy) := [(0, ⟨[1, 2], true, [⟨true, 2, 2, 30202, 1⟩, ⟨true, 2, 3, 30203, 1⟩, ⟨true, 2, 4, 30204, 1⟩], []⟩), (1, ⟨[2], true, [⟨true, 2, 2, 30202, 1⟩, ⟨true, 2, 3, 30203, 1⟩, ⟨true, 2, 4, 30204, 1⟩], []⟩)]
def tl18 : List (Nat × Tidy) := []
def rs18 : List AResV := [.cell 2 true 7]
def pr18_0_0 : PT (List RV) := pRs [pR true [rD dS, rD (dI .i64), rO 1, rO 1, rO 1, rD (dI .i64), rD (dI .i64)]]
def ur18_0_0 {β : Type} (g : List RV → β) : ByteArray → Int → Rows → Rows → Rows → Int → Int → β := pr18_0_0.unc g
def E18_0g (vf12_0 : Tf12_0) : EnvK := EnvK.of [⟨12, nt12, [⟨pa12_0, Fn12_0 vf12_0⟩]⟩] noSeq
noncomputable def E18_0 : EnvK := E18_0g f12_0
theorem eo18_0 : E18_0.Ok Tryz.prog := EnvK.of_ok noSeq_ok ⟨⟨io12_0, trivial⟩, trivial⟩
abbrev Tf18_0 : Type 1 := (α : Type) → ByteArray → Int → Rows → Rows → Rows → Int → Int → (ByteArray → Int → Rows → Rows → Rows → Int → Int → Option α) → Option α
def f18_0g (vf12_0 : Tf12_0) (α : Type) (x1 : ByteArray) (x2 : Int) (x3 x4 x5 : Rows) (x6 x7 : Int) (k1 : ByteArray → Int → Rows → Rows → Rows → Int → Int → Option α) : Option α :=
 vf12_0 α x3
 (fun x8 => gK (apOk 1 4 ([] : Rows) x4) (gK (apOk 1 4 ([] : Rows) x5) (k1 x1 x2 x8 (([] : Rows) ++ x4) (([] : Rows) ++ x5) x6 x7)))
noncomputable def f18_0 (α : Type) (x1 : ByteArray) (x2 : Int) (x3 x4 x5 : Rows) (x6 x7 : Int) (k1 : ByteArray → Int → Rows → Rows → Rows → Int → Int → Option α) : Option α := f18_0g f12_0 α x1 x2 x3 x4 x5 x6 x7 k1
def pa18_0 : PT (List DV) := pA [pV true [dS, (dI .i64), dL, dL, dL, (dI .i64), (dI .i64)]]
def Fn18_0 (v : Tf18_0) (α : Type) (k : List RV → Option α) : ByteArray → Int → Rows → Rows → Rows → Int → Int → Option α := fun x1 x2 x3 x4 x5 x6 x7 => v α x1 x2 x3 x4 x5 x6 x7 (fun (y1 : ByteArray) (y2 : Int) (y3 : Rows) (y4 : Rows) (y5 : Rows) (y6 : Int) (y7 : Int) => ur18_0_0 k y1 y2 y3 y4 y5 y6 y7)
noncomputable def cm18_0g  : MCode := (.seq (.region r18_2 [] (some ⟨[1, 2], true, [⟨true, 2, 2, 30202, 1⟩, ⟨true, 2, 3, 30203, 1⟩, ⟨true, 2, 4, 30204, 1⟩], []⟩)) (.seq (.region r18_4 [(1, 6), (3, 6), (1, 7), (3, 7), (5, 7), (6, 7), (6, 9), (7, 9), (1, 10), (3, 10), (1, 11), (3, 11), (5, 11), (6, 11), (7, 11), (9, 11), (10, 11), (6, 13), (7, 13), (10, 13), (11, 13), (1, 14), (3, 14), (6, 16), (7, 16), (10, 16), (11, 16), (14, 16)] (some ⟨[2], true, [⟨true, 2, 2, 30202, 1⟩, ⟨true, 2, 3, 30203, 1⟩, ⟨true, 2, 4, 30204, 1⟩], []⟩)) .ret))
noncomputable def cm18_0 : MCode := cm18_0g 
theorem gm18_0 : cm18_0.Good Tryz.prog E18_0 sh18 := ⟨trivial, ⟨trivial, trivial⟩⟩
theorem fm18_0g (vf12_0 : Tf12_0)  (α : Type) (k : List RV → Option α) : Fn18_0 (f18_0g vf12_0) α k = pa18_0.unc fun ds => fnM Tryz.prog (E18_0g vf12_0) sh18 (cm18_0g ) rs18 k ds := by kernel_rfl
theorem fm18_0 : ∀ (α : Type) (k : List RV → Option α), Fn18_0 f18_0 α k = pa18_0.unc fun ds => fnM Tryz.prog E18_0 sh18 cm18_0 rs18 k ds := fm18_0g f12_0
theorem is18 : FnIs Tryz.prog 18 nt18 tr18 tl18 cm18_0.erase rs18 := ⟨Tryz.f18, Tryz.func18, rfl, by kernel_rfl, by kernel_rfl, by kernel_rfl⟩
theorem io18_0 : InstOk Tryz.prog 18 nt18 ⟨pa18_0, Fn18_0 f18_0⟩ := inst_ok eo18_0 followsTry is18 ⟨⟨sh18, cm18_0, by kernel_rfl, gm18_0, fm18_0⟩⟩
abbrev nt16 : Nat := 25
def sh16 : List (Nat × List Sh) := [(4, [.sl]), (9, [.sl]), (15, [.sl]), (21, [.str])]
def r16_2 : List AOper := [oO 1 (.box (.tmp 0)), oO 2 (.mv (.const (.bool false)))]
def r16_4 : List AOper := [oO 3 (.faddr 2 (.tmp 1)), oO 4 (.load false 1 (.tmp 3)), oO 5 (.len (.tmp 4)), oO 6 (.call 61 [(.tmp 5)]), oM 7 6, oG 8 (.faddr 3 (.tmp 1)) 7 true, oG 9 (.load false 1 (.tmp 8)) 7 true, oG 10 (.len (.tmp 9)) 7 true, oG 11 (.call 61 [(.tmp 10)]) 7 true, oO 12 (.pick (.tmp 7) (.tmp 11) (.const (.bool false))), oM 13 12, oG 14 (.faddr 4 (.tmp 1)) 13 true, oG 15 (.load false 1 (.tmp 14)) 13 true, oG 16 (.len (.tmp 15)) 13 true, oG 17 (.call 61 [(.tmp 16)]) 13 true, oO 18 (.pick (.tmp 13) (.tmp 17) (.const (.bool false))), oM 19 18, oG 20 (.faddr 0 (.tmp 1)) 19 true, oG 21 (.load false 1 (.tmp 20)) 19 true, oG 22 (.pure (oB (.call { callee := .builtin .len, args := #[(.tmp 21)], argTypes := #[9] }) 3)) 19 true, oG 23 (.bin .leq 3 (.tmp 22) (kI 20)) 19 true, oO 24 (.pick (.tmp 19) (.tmp 23) (.const (.bool false))), oM 2 24]
def tr16 : List (Nat × Tidy) := [tT 0 [1], tT 1 [2]]
def tl16 : List (Nat × Tidy) := []
def rs16 : List AResV := [.tmp 2]
def pr16_0_0 : PT (List RV) := pRs [pR false [rD dB]]
def ur16_0_0 {β : Type} (g : List RV → β) : Bool → β := pr16_0_0.unc g
def E16_0g (vf61_0 : Tf61_0) : EnvK := EnvK.of [⟨61, nt61, [⟨pa61_0, Fn61_0 vf61_0⟩]⟩] noSeq
noncomputable def E16_0 : EnvK := E16_0g f61_0
theorem eo16_0 : E16_0.Ok Tryz.prog := EnvK.of_ok noSeq_ok ⟨⟨io61_0, trivial⟩, trivial⟩
abbrev Tf16_0 : Type 1 := (α : Type) → ByteArray → Int → Rows → Rows → Rows → Int → Int → (Bool → Option α) → Option α
def f16_0g (vf61_0 : Tf61_0) (α : Type) (x1 : ByteArray) (x2 : Int) (x3 x4 x5 : Rows) (x6 x7 : Int) (k1 : Bool → Option α) : Option α :=
 vf61_0 α ((List.length x3 : Nat) : Int)
 (fun x8 => cK x8
 (vf61_0 α ((List.length x4 : Nat) : Int)
 (fun x9 => cK x9
 (vf61_0 α ((List.length x5 : Nat) : Int)
 (fun x10 => cK x10
 (k1 (decide (((ByteArray.size x1 : Nat) : Int) ≤ 20)))
 (k1 false)))
 (k1 false)))
 (k1 false))
noncomputable def f16_0 (α : Type) (x1 : ByteArray) (x2 : Int) (x3 x4 x5 : Rows) (x6 x7 : Int) (k1 : Bool → Option α) : Option α := f16_0g f61_0 α x1 x2 x3 x4 x5 x6 x7 k1
def pa16_0 : PT (List DV) := pA [pV true [dS, (dI .i64), dL, dL, dL, (dI .i64), (dI .i64)]]
def Fn16_0 (v : Tf16_0) (α : Type) (k : List RV → Option α) : ByteArray → Int → Rows → Rows → Rows → Int → Int → Option α := fun x1 x2 x3 x4 x5 x6 x7 => v α x1 x2 x3 x4 x5 x6 x7 (fun (y1 : Bool) => ur16_0_0 k y1)
noncomputable def cm16_0g  : MCode := (.seq (.region r16_2 [] (tO [1])) (.seq (.region r16_4 [] (tO [2])) .ret))
noncomputable def cm16_0 : MCode := cm16_0g 
theorem gm16_0 : cm16_0.Good Tryz.prog E16_0 sh16 := ⟨trivial, ⟨trivial, trivial⟩⟩
theorem fm16_0g (vf61_0 : Tf61_0)  (α : Type) (k : List RV → Option α) : Fn16_0 (f16_0g vf61_0) α k = pa16_0.unc fun ds => fnM Tryz.prog (E16_0g vf61_0) sh16 (cm16_0g ) rs16 k ds := by kernel_rfl
theorem fm16_0 : ∀ (α : Type) (k : List RV → Option α), Fn16_0 f16_0 α k = pa16_0.unc fun ds => fnM Tryz.prog E16_0 sh16 cm16_0 rs16 k ds := fm16_0g f61_0
theorem is16 : FnIs Tryz.prog 16 nt16 tr16 tl16 cm16_0.erase rs16 := ⟨Tryz.f16, Tryz.func16, rfl, by kernel_rfl, by kernel_rfl, by kernel_rfl⟩
theorem io16_0 : InstOk Tryz.prog 16 nt16 ⟨pa16_0, Fn16_0 f16_0⟩ := inst_ok eo16_0 followsTry is16 ⟨⟨sh16, cm16_0, by kernel_rfl, gm16_0, fm16_0⟩⟩
abbrev nt27 : Nat := 10
def sh27 : List (Nat × List Sh) := [(4, [.int .i64]), (6, [.int .i64]), (8, [.int .i64])]
def r27_2 : List AOper := [oO 1 (.box (.tmp 0)), oO 2 (.alloc [(.d (.v (.complex Go.FloatKind.f64 0 0))), (cI 0)])]
def r27_4 : List AOper := [oO 3 (.faddr 0 (.tmp 1)), oO 4 (.load false 1 (.tmp 3)), oO 5 (.faddr 1 (.tmp 1)), oO 6 (.load false 1 (.tmp 5)), oO 7 (.faddr 2 (.tmp 1)), oO 8 (.load false 1 (.tmp 7)), oO 9 (.call 49 [(.tmp 4), (.tmp 6), (.tmp 8)]), oD (.store 2 (.tmp 2) (.tmp 9))]
def tr27 : List (Nat × Tidy) := [tT 0 [1, 2], tT 1 [2]]
def tl27 : List (Nat × Tidy) := []
def rs27 : List AResV := [.cell 2 true 2]
def pr27_0_0 : PT (List RV) := pRs [pR true [rD (dX .f64), rD (dI .i64)]]
def ur27_0_0 {β : Type} (g : List RV → β) : Nat → Nat → Int → β := pr27_0_0.unc g
def E27_0g (vf49_0 : Tf49_0) : EnvK := EnvK.of [⟨49, nt49, [⟨pa49_0, Fn49_0 vf49_0⟩]⟩] noSeq
noncomputable def E27_0 : EnvK := E27_0g f49_0
theorem eo27_0 : E27_0.Ok Tryz.prog := EnvK.of_ok noSeq_ok ⟨⟨io49_0, trivial⟩, trivial⟩
abbrev Tf27_0 : Type 1 := (α : Type) → Int → Int → Int → (Nat → Nat → Int → Option α) → Option α
def f27_0g (vf49_0 : Tf49_0) (α : Type) (x1 x2 x3 : Int) (k1 : Nat → Nat → Int → Option α) : Option α :=
 vf49_0 α x1 x2 x3
 (fun x4 x5 x6 => k1 x4 x5 x6)
noncomputable def f27_0 (α : Type) (x1 x2 x3 : Int) (k1 : Nat → Nat → Int → Option α) : Option α := f27_0g f49_0 α x1 x2 x3 k1
def pa27_0 : PT (List DV) := pA [pV true [(dI .i64), (dI .i64), (dI .i64)]]
def Fn27_0 (v : Tf27_0) (α : Type) (k : List RV → Option α) : Int → Int → Int → Option α := fun x1 x2 x3 => v α x1 x2 x3 (fun (y1 : Nat) (y2 : Nat) (y3 : Int) => ur27_0_0 k y1 y2 y3)
noncomputable def cm27_0g  : MCode := (.seq (.region r27_2 [] (tO [1, 2])) (.seq (.region r27_4 [] (tO [2])) .ret))
noncomputable def cm27_0 : MCode := cm27_0g 
theorem gm27_0 : cm27_0.Good Tryz.prog E27_0 sh27 := ⟨trivial, ⟨trivial, trivial⟩⟩
theorem fm27_0g (vf49_0 : Tf49_0)  (α : Type) (k : List RV → Option α) : Fn27_0 (f27_0g vf49_0) α k = pa27_0.unc fun ds => fnM Tryz.prog (E27_0g vf49_0) sh27 (cm27_0g ) rs27 k ds := by kernel_rfl
theorem fm27_0 : ∀ (α : Type) (k : List RV → Option α), Fn27_0 f27_0 α k = pa27_0.unc fun ds => fnM Tryz.prog E27_0 sh27 cm27_0 rs27 k ds := fm27_0g f49_0
theorem is27 : FnIs Tryz.prog 27 nt27 tr27 tl27 cm27_0.erase rs27 := ⟨Tryz.f27, Tryz.func27, rfl, by kernel_rfl, by kernel_rfl, by kernel_rfl⟩
theorem io27_0 : InstOk Tryz.prog 27 nt27 ⟨pa27_0, Fn27_0 f27_0⟩ := inst_ok eo27_0 followsTry is27 ⟨⟨sh27, cm27_0, by kernel_rfl, gm27_0, fm27_0⟩⟩
abbrev nt26 : Nat := 105
def sh26 : List (Nat × List Sh) := [(14, [.int .i64]), (18, [.int .i64]), (25, [.int .i64]), (34, [.sl]), (39, [.str, .int .i64, .sl, .sl, .sl, .int .i64, .int .i64]), (46, [.sl]), (48, [.flt .f32]), (49, [.flt .f32]), (52, [.sl]), (55, [.flt .f32]), (56, [.flt .f32]), (59, [.sl]), (62, [.int .i64]), (63, [.int .i64]), (65, [.sl]), (67, [.int .i64]), (68, [.int .i64]), (72, [.sl]), (74, [.int .i64]), (75, [.int .i64]), (95, [.int .i64]), (97, [.int .i64]), (100, [.int .i64]), (102, [.int .i64])]
def r26_2 : List AOper := [oO 2 (.box (.tmp 0)), oO 4 (.alloc [(cI 0), (cI 0)]), oO 5 (.mv (kI 0))]
def r26_4 : List AOper := [oO 6 (.alloc [(cI 0), (cI 0)])]
def r26_7 : List AOper := [oO 13 (.faddr 1 (.tmp 2)), oO 14 (.load false 1 (.tmp 13)), oO 15 (.bin .eql 3 (.tmp 14) (kI 2))]
def r26_9 : List AOper := [oO 16 (.faddr 5 (.tmp 2)), oO 17 (.iaddr 1 (some 2) (.tmp 16) (kI 0)), oO 18 (.load false 1 (.tmp 17)), oM 19 1, oO 20 (.bin .mul 3 (.tmp 18) (.tmp 19)), oM 21 1, oO 22 (.bin .mul 3 (.tmp 20) (.tmp 21)), oO 23 (.faddr 5 (.tmp 2)), oO 24 (.iaddr 1 (some 2) (.tmp 23) (kI 1)), oO 25 (.load false 1 (.tmp 24)), oO 26 (.bin .mul 3 (kI 3) (.tmp 25)), oO 27 (.bin .mul 3 (.tmp 26) (kI 1000000)), oO 28 (.bin .add 3 (.tmp 22) (.tmp 27)), oM 29 1, oM 30 1, oO 31 (.bin .mul 3 (.tmp 29) (.tmp 30)), oO 32 (.build [(cI 0), (cI 0)] [(0, 1, (.tmp 28)), (1, 1, (.tmp 31))]), oD (.store 2 (.tmp 6) (.tmp 32))]
def r26_11 : List AOper := [oO 33 (.faddr 2 (.tmp 2)), oO 34 (.load false 1 (.tmp 33)), oO 35 (.len (.tmp 34)), oM 7 35]
def r26_14 : List AOper := [oM 36 7, oO 37 (.bin .eql 3 (.tmp 36) (kI 1))]
def r26_17 : List AOper := [oO 38 (.build [(cI 0), (cI 0)] []), oD (.store 2 (.tmp 4) (.tmp 38)), oO 5 (.mv (kI 12))]
def r26_19 : List AOper := [oO 39 (.load true 7 (.tmp 2)), oM 40 1, oO 41 (.call 75 [(.tmp 39), (.tmp 40)]), oM 42 7, oO 43 (.bin .sub 3 (.tmp 42) (kI 2)), oO 44 (.pure (oB (.call { callee := .builtin .min, args := #[(.tmp 41), (.tmp 43)], argTypes := #[3, 3] }) 3)), oM 8 44]
def r26_21 : List AOper := [oO 45 (.faddr 3 (.tmp 2)), oO 46 (.load false 1 (.tmp 45)), oM 47 8, oO 48 (.iaddr 1 none (.tmp 46) (.tmp 47)), oO 49 (.load false 1 (.tmp 48)), oO 50 (.pure (oB (.convert 125 3 (.tmp 49)) 3)), oO 51 (.faddr 3 (.tmp 2)), oO 52 (.load false 1 (.tmp 51)), oM 53 8, oO 54 (.bin .add 3 (.tmp 53) (kI 1)), oO 55 (.iaddr 1 none (.tmp 52) (.tmp 54)), oO 56 (.load false 1 (.tmp 55)), oO 57 (.pure (oB (.convert 125 3 (.tmp 56)) 3)), oO 58 (.faddr 2 (.tmp 2)), oO 59 (.load false 1 (.tmp 58)), oM 60 8, oO 61 (.bin .add 3 (.tmp 60) (kI 1)), oO 62 (.iaddr 1 none (.tmp 59) (.tmp 61)), oO 63 (.load false 1 (.tmp 62)), oO 64 (.faddr 2 (.tmp 2)), oO 65 (.load false 1 (.tmp 64)), oM 66 8, oO 67 (.iaddr 1 none (.tmp 65) (.tmp 66)), oO 68 (.load false 1 (.tmp 67)), oO 69 (.bin .sub 3 (.tmp 63) (.tmp 68)), oM 70 1, oO 71 (.faddr 2 (.tmp 2)), oO 72 (.load false 1 (.tmp 71)), oM 73 8, oO 74 (.iaddr 1 none (.tmp 72) (.tmp 73)), oO 75 (.load false 1 (.tmp 74)), oO 76 (.bin .sub 3 (.tmp 70) (.tmp 75)), oM 9 50, oM 10 57, oM 11 69, oM 12 76]
def r26_22 : List AOper := [oM 77 9, oM 78 11, oM 79 12, oO 80 (.bin .sub 3 (.tmp 78) (.tmp 79)), oO 81 (.bin .mul 3 (.tmp 77) (.tmp 80)), oM 82 10, oM 83 12, oO 84 (.bin .mul 3 (.tmp 82) (.tmp 83)), oO 85 (.bin .add 3 (.tmp 81) (.tmp 84)), oM 86 1, oM 87 10, oM 88 9, oO 89 (.bin .sub 3 (.tmp 87) (.tmp 88)), oO 90 (.bin .mul 3 (.tmp 86) (.tmp 89)), oO 91 (.bin .sub 3 (.tmp 85) (.tmp 90)), oM 92 11, oO 93 (.build [(cI 0), (cI 0)] [(0, 1, (.tmp 91)), (1, 1, (.tmp 92))]), oD (.store 2 (.tmp 6) (.tmp 93))]
def r26_24 : List AOper := [oO 94 (.faddr 0 (.tmp 6)), oO 95 (.load false 1 (.tmp 94)), oO 96 (.faddr 1 (.tmp 6)), oO 97 (.load false 1 (.tmp 96)), oO 98 (.call 76 [(.tmp 95), (.tmp 97)]), oO 99 (.faddr 0 (.tmp 6)), oO 100 (.load false 1 (.tmp 99)), oO 101 (.faddr 1 (.tmp 6)), oO 102 (.load false 1 (.tmp 101)), oO 103 (.call 77 [(.tmp 100), (.tmp 102)]), oO 104 (.build [(cI 0), (cI 0)] [(0, 1, (.tmp 98)), (1, 1, (.tmp 103))]), oD (.store 2 (.tmp 4) (.tmp 104)), oO 5 (.mv (kI 0))]
def tr26 : List (Nat × Tidy) := [tT 0 [1, 2, 4], tT 1 [1, 2, 4, 6], tT 2 [1, 2, 4, 6, 15], tT 3 [4, 6], tT 4 [1, 2, 4, 6, 7], tT 5 [1, 2, 4, 6, 7, 37], tT 6 [4, 5], tT 7 [1, 2, 4, 6, 8], tT 8 [1, 4, 6, 9, 10, 11, 12], tT 9 [4, 6], tT 10 [4, 5]]
def tl26 : List (Nat × Tidy) := []
def rs26 : List AResV := [.cell 4 true 2, .tmp 5]
def p26_0_0 : PT St := pS [sl 1 (aV false [(cD (dI .i64))]), sl 2 (aV false [(cPtr 2 0)]), sl 4 (aV false [(cPtr 4 0)]), sl 6 (aV false [(cPtr 6 0)])] [eBox 2 [(cD dS), (cD (dI .i64)), (cD dL), (cD dL), (cD dL), (cD (dI .i64)), (cD (dI .i64))], eBox 4 [(cD (dI .i64)), (cD (dI .i64))], eBox 6 [(cD (dI .i64)), (cD (dI .i64))]]
def u26_0_0 {β : Type} (g : St → β) : Int → ByteArray → Int → Rows → Rows → Rows → Int → Int → Int → Int → Int → Int → β := p26_0_0.unc g
def p26_0_1 : PT St := pS [sl 4 (aV false [(cPtr 4 0)]), sl 6 (aV false [(cPtr 6 0)])] [eBox 4 [(cD (dI .i64)), (cD (dI .i64))], eBox 6 [(cD (dI .i64)), (cD (dI .i64))]]
def u26_0_1 {β : Type} (g : St → β) : Int → Int → Int → Int → β := p26_0_1.unc g
def p26_0_2 : PT St := pS [sl 4 (aV false [(cPtr 4 0)]), sl 5 (aV false [(cD (dI .i64))])] [eBox 4 [(cD (dI .i64)), (cD (dI .i64))]]
def u26_0_2 {β : Type} (g : St → β) : Int → Int → Int → β := p26_0_2.unc g
def pr26_0_0 : PT (List RV) := pRs [pR true [rD (dI .i64), rD (dI .i64)], pR false [rD (dI .i64)]]
def ur26_0_0 {β : Type} (g : List RV → β) : Int → Int → Int → β := pr26_0_0.unc g
def E26_0g (vf75_0 : Tf75_0) (vf76_0 : Tf76_0) (vf77_0 : Tf77_0) : EnvK := EnvK.of [⟨75, nt75, [⟨pa75_0, Fn75_0 vf75_0⟩]⟩, ⟨76, nt76, [⟨pa76_0, Fn76_0 vf76_0⟩]⟩, ⟨77, nt77, [⟨pa77_0, Fn77_0 vf77_0⟩]⟩] noSeq
noncomputable def E26_0 : EnvK := E26_0g f75_0 f76_0 f77_0
theorem eo26_0 : E26_0.Ok Tryz.prog := EnvK.of_ok noSeq_ok ⟨⟨io75_0, trivial⟩, ⟨io76_0, trivial⟩, ⟨io77_0, trivial⟩, trivial⟩
noncomputable def c26_0_5g  : MCode := (.seq (.region r26_7 [] (tO [1, 2, 4, 6, 15])) (.cond (.tmp 15) (.region r26_9 [] (tO [4, 6])) (.seq (.region r26_11 [] (tO [1, 2, 4, 6, 7])) (.seq (.seq (.region r26_14 [] (tO [1, 2, 4, 6, 7, 37])) (.cond (.tmp 37) (.seq (.region r26_17 [] (tO [4, 5])) .ret) .skip)) (.seq (.region r26_19 [] (tO [1, 2, 4, 6, 8])) (.seq (.region r26_21 [] (tO [1, 4, 6, 9, 10, 11, 12])) (.region r26_22 [] (tO [4, 6]))))))))
noncomputable def c26_0_5 : MCode := c26_0_5g 
theorem g26_0_5 : c26_0_5.Good Tryz.prog E26_0 sh26 := ⟨trivial, ⟨trivial, ⟨trivial, ⟨⟨trivial, ⟨⟨trivial, trivial⟩, trivial⟩⟩, ⟨trivial, ⟨trivial, trivial⟩⟩⟩⟩⟩⟩
--CODE 5 0
abbrev TJ26_0_0 : Type 1 := (α : Type) → Int → ByteArray → Int → Rows → Rows → Rows → Int → Int → (Int → Int → Option α) → (Option α) → Option α
def J26_0_0g (vf75_0 : Tf75_0) (α : Type) (x9 : Int) (x10 : ByteArray) (x11 : Int) (x12 x13 x14 : Rows) (x15 x16 : Int) (k1 : Int → Int → Option α) (k2 : Option α) : Option α :=
 cK (x11 == 2)
 (k1 (w64 ((w64 ((w64 (x15 * x9)) * x9)) + (w64 ((w64 (3 * x16)) * 1000000)))) (w64 (x9 * x9)))
 (cK (((List.length x12 : Nat) : Int) == 1)
 (k2)
 (vf75_0 α x10 x11 x12 x13 x14 x15 x16 x9
 (fun x22 => rowK x13 (if (w64 (((List.length x12 : Nat) : Int) - 2)) < x22 then (w64 (((List.length x12 : Nat) : Int) - 2)) else x22) [.flt .f32]
 (fun x23 => ivK (f2i .f32 x23 .i64)
 (fun x24 => rowK x13 (w64 ((if (w64 (((List.length x12 : Nat) : Int) - 2)) < x22 then (w64 (((List.length x12 : Nat) : Int) - 2)) else x22) + 1)) [.flt .f32]
 (fun x25 => ivK (f2i .f32 x25 .i64)
 (fun x26 => rowK x12 (w64 ((if (w64 (((List.length x12 : Nat) : Int) - 2)) < x22 then (w64 (((List.length x12 : Nat) : Int) - 2)) else x22) + 1)) [.int .i64]
 (fun x27 => rowK x12 (if (w64 (((List.length x12 : Nat) : Int) - 2)) < x22 then (w64 (((List.length x12 : Nat) : Int) - 2)) else x22) [.int .i64]
 (fun x28 => rowK x12 (if (w64 (((List.length x12 : Nat) : Int) - 2)) < x22 then (w64 (((List.length x12 : Nat) : Int) - 2)) else x22) [.int .i64]
 (fun x29 => k1 (w64 ((w64 ((w64 (x24 * (w64 ((w64 (x27 - x28)) - (w64 (x9 - x29)))))) + (w64 (x26 * (w64 (x9 - x29)))))) - (w64 (x9 * (w64 (x26 - x24)))))) (w64 (x27 - x28))))))))))))
noncomputable def J26_0_0 (α : Type) (x9 : Int) (x10 : ByteArray) (x11 : Int) (x12 x13 x14 : Rows) (x15 x16 : Int) (k1 : Int → Int → Option α) (k2 : Option α) : Option α := J26_0_0g f75_0 α x9 x10 x11 x12 x13 x14 x15 x16 k1 k2
def F26_0_0 (v : TJ26_0_0) (α : Type) (K : Exit → St → Option α) : Int → ByteArray → Int → Rows → Rows → Rows → Int → Int → Int → Int → Int → Int → Option α := fun x9 x10 x11 x12 x13 x14 x15 x16 x17 x18 x19 x20 => v α x9 x10 x11 x12 x13 x14 x15 x16 (fun (y1 : Int) (y2 : Int) => u26_0_1 (K .normal) x17 x18 y1 y2) (u26_0_2 (K .ret) 12 0 0) 
theorem m26_0_0g (vf75_0 : Tf75_0) (vf76_0 : Tf76_0) (vf77_0 : Tf77_0)  (α : Type) (K : Exit → St → Option α) : F26_0_0 (J26_0_0g vf75_0) α K = p26_0_0.unc fun σ => runM Tryz.prog (E26_0g vf75_0 vf76_0 vf77_0) sh26 (c26_0_5g ) K σ := by kernel_rfl
theorem m26_0_0 : ∀ (α : Type) (K : Exit → St → Option α), F26_0_0 J26_0_0 α K = p26_0_0.unc fun σ => runM Tryz.prog E26_0 sh26 c26_0_5 K σ := m26_0_0g f75_0 f76_0 f77_0
abbrev Tf26_0 : Type 1 := (α : Type) → ByteArray → Int → Rows → Rows → Rows → Int → Int → Int → (Int → Int → Int → Option α) → Option α
def f26_0g (vJ26_0_0 : TJ26_0_0) (vf76_0 : Tf76_0) (vf77_0 : Tf77_0) (α : Type) (x1 : ByteArray) (x2 : Int) (x3 x4 x5 : Rows) (x6 x7 x8 : Int) (k1 : Int → Int → Int → Option α) : Option α :=
 vJ26_0_0 α x8 x1 x2 x3 x4 x5 x6 x7
 (fun x30 x31 => vf76_0 α x30 x31
 (fun x33 => vf77_0 α x30 x31
 (fun x34 => k1 x33 x34 0)))
 (k1 0 0 12)
noncomputable def f26_0 (α : Type) (x1 : ByteArray) (x2 : Int) (x3 x4 x5 : Rows) (x6 x7 x8 : Int) (k1 : Int → Int → Int → Option α) : Option α := f26_0g J26_0_0 f76_0 f77_0 α x1 x2 x3 x4 x5 x6 x7 x8 k1
def pa26_0 : PT (List DV) := pA [pV true [dS, (dI .i64), dL, dL, dL, (dI .i64), (dI .i64)], pV false [(dI .i64)]]
def Fn26_0 (v : Tf26_0) (α : Type) (k : List RV → Option α) : ByteArray → Int → Rows → Rows → Rows → Int → Int → Int → Option α := fun x1 x2 x3 x4 x5 x6 x7 x8 => v α x1 x2 x3 x4 x5 x6 x7 x8 (fun (y1 : Int) (y2 : Int) (y3 : Int) => ur26_0_0 k y1 y2 y3)
noncomputable def cm26_0g (vJ26_0_0 : TJ26_0_0) : MCode := (.seq (.region r26_2 [] (tO [1, 2, 4])) (.seq (.region r26_4 [] (tO [1, 2, 4, 6])) (.seq (.mark [⟨p26_0_0, F26_0_0 vJ26_0_0⟩] c26_0_5) (.seq (.region r26_24 [(4, 6), (4, 8)] (tO [4, 5])) .ret))))
noncomputable def cm26_0 : MCode := cm26_0g J26_0_0
theorem gm26_0 : cm26_0.Good Tryz.prog E26_0 sh26 := ⟨trivial, ⟨trivial, ⟨⟨g26_0_5, m26_0_0, trivial⟩, ⟨trivial, trivial⟩⟩⟩⟩
theorem fm26_0g (vf75_0 : Tf75_0) (vf76_0 : Tf76_0) (vf77_0 : Tf77_0) (vJ26_0_0 : TJ26_0_0) (α : Type) (k : List RV → Option α) : Fn26_0 (f26_0g vJ26_0_0 vf76_0 vf77_0) α k = pa26_0.unc fun ds => fnM Tryz.prog (E26_0g vf75_0 vf76_0 vf77_0) sh26 (cm26_0g vJ26_0_0) rs26 k ds := by kernel_rfl
theorem fm26_0 : ∀ (α : Type) (k : List RV → Option α), Fn26_0 f26_0 α k = pa26_0.unc fun ds => fnM Tryz.prog E26_0 sh26 cm26_0 rs26 k ds := fm26_0g f75_0 f76_0 f77_0 J26_0_0
theorem is26 : FnIs Tryz.prog 26 nt26 tr26 tl26 cm26_0.erase rs26 := ⟨Tryz.f26, Tryz.func26, rfl, by kernel_rfl, by kernel_rfl, by kernel_rfl⟩
theorem io26_0 : InstOk Tryz.prog 26 nt26 ⟨pa26_0, Fn26_0 f26_0⟩ := inst_ok eo26_0 followsTry is26 ⟨⟨sh26, cm26_0, by kernel_rfl, gm26_0, fm26_0⟩⟩
end Go.AM.K
