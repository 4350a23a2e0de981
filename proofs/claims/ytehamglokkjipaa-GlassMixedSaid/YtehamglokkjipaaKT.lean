/- Printed by KGen. -/
import Derived.Test.YtehamglokkjipaaAcX
import Derived.Test.YtehamglokkjipaaKMa
namespace Go.AM.K
open Go.Proofs
set_option maxRecDepth 100000
set_option linter.unusedVariables false
abbrev nt42 : Nat := 22
def sh42 : List (Nat × List Sh) := []
def r42_2 : List AOper := [oO 2 (.mv (kI 0))]
def r42_4 : List AOper := [oO 3 (.mv (kI 0)), oO 4 (.mv (kI 1073741824))]
def td42_7 : Option Tidy := (tO [0, 3, 4])
def r42_10 : List AOper := [oM 5 4, oO 6 (.bin .gtr 3 (.tmp 5) (kI 0))]
def r42_15 : List AOper := [oM 7 3, oM 8 4, oO 9 (.bin .add 3 (.tmp 7) (.tmp 8)), oM 10 3, oM 11 4, oO 12 (.bin .add 3 (.tmp 10) (.tmp 11)), oO 13 (.bin .mul 3 (.tmp 9) (.tmp 12)), oM 14 0, oO 15 (.bin .leq 3 (.tmp 13) (.tmp 14))]
def r42_17 : List AOper := [oM 16 3, oM 17 4, oO 18 (.bin .add 3 (.tmp 16) (.tmp 17)), oM 3 18]
def r42_18 : List AOper := [oM 19 4, oO 20 (.bin .quo 3 (.tmp 19) (kI 2)), oM 4 20]
def r42_20 : List AOper := [oM 21 3, oM 2 21]
def tr42 : List (Nat × Tidy) := [tT 0 [0], tT 1 [0, 3, 4], tT 2 [0, 3, 4, 6], tT 3 [0, 3, 4, 15], tT 4 [0, 3, 4], tT 5 [0, 3, 4], tT 6 [2]]
def tl42 : List (Nat × Tidy) := [tT 2 [0, 3, 4]]
def rs42 : List AResV := [.tmp 2]
def p42_0_0 : PT St := pS [sl 0 (aV false [(cD (dI .i64))]), sl 3 (aV false [(cD (dI .i64))]), sl 4 (aV false [(cD (dI .i64))])] []
def u42_0_0 {β : Type} (g : St → β) : Int → Int → Int → β := p42_0_0.unc g
def p42_0_1 : PT St := pS [sl 0 (aV false [(cD (dI .i64))]), sl 3 (aV false [(cD (dI .i64))]), sl 4 (aV false [(cD (dI .i64))]), sl 6 (aV false [(cD dB)])] []
def u42_0_1 {β : Type} (g : St → β) : Int → Int → Int → Bool → β := p42_0_1.unc g
def pr42_0_0 : PT (List RV) := pRs [pR false [rD (dI .i64)]]
def ur42_0_0 {β : Type} (g : List RV → β) : Int → β := pr42_0_0.unc g
def E42_0g  : EnvK := EnvK.of [] noSeq
noncomputable def E42_0 : EnvK := E42_0g 
theorem eo42_0 : E42_0.Ok Try.prog := EnvK.of_ok noSeq_ok trivial
noncomputable def c42_0_7g  : MCode := (.seq (.seq (.region r42_10 [] (tO [0, 3, 4, 6])) (.cond (.tmp 6) .skip (.exit 0))) (.block 1 (.seq (.seq (.region r42_15 [] (tO [0, 3, 4, 15])) (.cond (.tmp 15) (.region r42_17 [] (tO [0, 3, 4])) .skip)) (.region r42_18 [] (tO [0, 3, 4])))))
noncomputable def c42_0_7 : MCode := c42_0_7g 
theorem g42_0_7 : c42_0_7.Good Try.prog E42_0 sh42 := ⟨⟨trivial, ⟨trivial, trivial⟩⟩, ⟨⟨trivial, ⟨trivial, trivial⟩⟩, trivial⟩⟩
--CODE 7 0
def S42_0_0g  (α : Type) (x2 x3 x4 : Int) (kn : Int → Int → Option α) (k1 : Int → Int → Bool → Option α) : Option α :=
 cK (decide (0 < x4))
 (cK (decide ((w64 ((w64 (x3 + x4)) * (w64 (x3 + x4)))) ≤ x2))
 (kn (w64 (x3 + x4)) (w64 (Int.tdiv x4 2)))
 (kn x3 (w64 (Int.tdiv x4 2))))
 (k1 x3 x4 (decide (0 < x4)))
noncomputable def S42_0_0 (α : Type) (x2 x3 x4 : Int) (kn : Int → Int → Option α) (k1 : Int → Int → Bool → Option α) : Option α := S42_0_0g  α x2 x3 x4 kn k1
noncomputable def R42_0_0 (α : Type) (x2 : Int) (k1 : Int → Int → Bool → Option α) : Nat → Int → Int → Option α
 | 0, _, _ => none
 | n + 1, x3, x4 => S42_0_0 α x2 x3 x4 (R42_0_0 α x2 k1 n) k1
noncomputable def L42_0_0 (α : Type) (x2 : Int) (k1 : Int → Int → Bool → Option α) (x3 x4 : Int) : Option α := R42_0_0 α x2 k1 fuel x3 x4
abbrev TL42_0_0 : Type 1 := (α : Type) → Int → (Int → Int → Bool → Option α) → Int → Int → Option α
def F42_0_0 (v : TL42_0_0) (α : Type) (K : Exit → St → Option α) : Int → Int → Int → Option α := fun x2 x3 x4 => v α x2 (fun (y1 : Int) (y2 : Int) (y3 : Bool) => u42_0_1 (K (.exit 0)) x2 y1 y2 y3) x3 x4
theorem r42_0_0g   (α : Type) (K : Exit → St → Option α) (Kn : St → Option α) (x2 x3 x4 : Int) : u42_0_0 (fun σ => runM Try.prog (E42_0g ) sh42 (c42_0_7g ) (thenK (fun σ => tidyK td42_7 σ Kn) K) σ) x2 x3 x4 = S42_0_0g  α x2 x3 x4 (fun x3 x4 => u42_0_0 Kn x2 x3 x4) (fun (y1 : Int) (y2 : Int) (y3 : Bool) => u42_0_1 (K (.exit 0)) x2 y1 y2 y3) := by kernel_rfl
theorem r42_0_0 (α : Type) (K : Exit → St → Option α) (Kn : St → Option α) (x2 x3 x4 : Int) : u42_0_0 (fun σ => runM Try.prog E42_0 sh42 c42_0_7 (thenK (fun σ => tidyK td42_7 σ Kn) K) σ) x2 x3 x4 = S42_0_0 α x2 x3 x4 (fun x3 x4 => u42_0_0 Kn x2 x3 x4) (fun (y1 : Int) (y2 : Int) (y3 : Bool) => u42_0_1 (K (.exit 0)) x2 y1 y2 y3) := r42_0_0g  α K Kn x2 x3 x4
theorem t42_0_0 (α : Type) (K : Exit → St → Option α) : ∀ (n : Nat) (x2 x3 x4 : Int), R42_0_0 α x2 (fun (y1 : Int) (y2 : Int) (y3 : Bool) => u42_0_1 (K (.exit 0)) x2 y1 y2 y3) n x3 x4 = u42_0_0 (loopT (runM Try.prog E42_0 sh42 c42_0_7) td42_7 K n) x2 x3 x4 := by
 intro n
 induction n with
 | zero => intros; rfl
 | succ n ih => intro x2 x3 x4; exact (congrArg (fun kn => S42_0_0 α x2 x3 x4 kn (fun (y1 : Int) (y2 : Int) (y3 : Bool) => u42_0_1 (K (.exit 0)) x2 y1 y2 y3)) (funext fun x3 => funext fun x4 => ih x2 x3 x4)).trans (r42_0_0 α K (loopT (runM Try.prog E42_0 sh42 c42_0_7) td42_7 K n) x2 x3 x4).symm
theorem m42_0_0 : ∀ (α : Type) (K : Exit → St → Option α), F42_0_0 L42_0_0 α K = p42_0_0.unc fun σ => loopT (runM Try.prog E42_0 sh42 c42_0_7) td42_7 K fuel σ := fun α K => funext fun x2 => funext fun x3 => funext fun x4 => t42_0_0 α K fuel x2 x3 x4
abbrev Tf42_0 : Type 1 := (α : Type) → Int → (Int → Option α) → Option α
def f42_0g (vL42_0_0 : TL42_0_0) (α : Type) (x1 : Int) (k1 : Int → Option α) : Option α :=
 vL42_0_0 α x1
 (fun x6 x7 x8 => k1 x6) 0 1073741824
noncomputable def f42_0 (α : Type) (x1 : Int) (k1 : Int → Option α) : Option α := f42_0g L42_0_0 α x1 k1
def pa42_0 : PT (List DV) := pA [pV false [(dI .i64)]]
def Fn42_0 (v : Tf42_0) (α : Type) (k : List RV → Option α) : Int → Option α := fun x1 => v α x1 (fun (y1 : Int) => ur42_0_0 k y1)
noncomputable def cm42_0g (vL42_0_0 : TL42_0_0) : MCode := (.seq (.region r42_2 [] (tO [0])) (.seq (.region r42_4 [] (tO [0, 3, 4])) (.seq (.block 0 (.loop td42_7 [⟨p42_0_0, F42_0_0 vL42_0_0⟩] c42_0_7)) (.seq (.region r42_20 [] (tO [2])) .ret))))
noncomputable def cm42_0 : MCode := cm42_0g L42_0_0
theorem gm42_0 : cm42_0.Good Try.prog E42_0 sh42 := ⟨trivial, ⟨trivial, ⟨⟨g42_0_7, m42_0_0, trivial⟩, ⟨trivial, trivial⟩⟩⟩⟩
theorem fm42_0g  (vL42_0_0 : TL42_0_0) (α : Type) (k : List RV → Option α) : Fn42_0 (f42_0g vL42_0_0) α k = pa42_0.unc fun ds => fnM Try.prog (E42_0g ) sh42 (cm42_0g vL42_0_0) rs42 k ds := by kernel_rfl
theorem fm42_0 : ∀ (α : Type) (k : List RV → Option α), Fn42_0 f42_0 α k = pa42_0.unc fun ds => fnM Try.prog E42_0 sh42 cm42_0 rs42 k ds := fm42_0g L42_0_0
theorem is42 : FnIs Try.prog 42 nt42 tr42 tl42 cm42_0.erase rs42 := ⟨Try.f42, Try.func42, rfl, by kernel_rfl, by kernel_rfl, by kernel_rfl⟩
theorem io42_0 : InstOk Try.prog 42 nt42 ⟨pa42_0, Fn42_0 f42_0⟩ := inst_ok eo42_0 followsTry is42 ⟨⟨sh42, cm42_0, by kernel_rfl, gm42_0, fm42_0⟩⟩
abbrev nt43 : Nat := 16
def sh43 : List (Nat × List Sh) := []
def r43_2 : List AOper := [oO 4 (.mv (kI 0))]
def r43_4 : List AOper := [oM 6 0, oM 7 1, oO 8 (.bin .quo 3 (.tmp 6) (.tmp 7)), oM 5 8]
def r43_7 : List AOper := [oM 9 0, oM 10 1, oO 11 (.bin .rem 3 (.tmp 9) (.tmp 10)), oO 12 (.bin .lss 3 (.tmp 11) (kI 0))]
def r43_9 : List AOper := [oM 13 5, oO 14 (.bin .sub 3 (.tmp 13) (kI 1)), oM 5 14]
def r43_11 : List AOper := [oM 15 5, oM 4 15]
def tr43 : List (Nat × Tidy) := [tT 0 [0, 1], tT 1 [0, 1, 5], tT 2 [5, 12], tT 3 [5], tT 4 [4]]
def tl43 : List (Nat × Tidy) := []
def rs43 : List AResV := [.tmp 4]
def pr43_0_0 : PT (List RV) := pRs [pR false [rD (dI .i64)]]
def ur43_0_0 {β : Type} (g : List RV → β) : Int → β := pr43_0_0.unc g
def E43_0g  : EnvK := EnvK.of [] noSeq
noncomputable def E43_0 : EnvK := E43_0g 
theorem eo43_0 : E43_0.Ok Try.prog := EnvK.of_ok noSeq_ok trivial
abbrev Tf43_0 : Type 1 := (α : Type) → Int → Int → (Int → Option α) → Option α
def f43_0g  (α : Type) (x1 x2 : Int) (k1 : Int → Option α) : Option α :=
 gK (x2 != 0) (gK (x2 != 0) (cK (decide ((Int.tmod x1 x2) < 0))
 (k1 (w64 ((w64 (Int.tdiv x1 x2)) - 1)))
 (k1 (w64 (Int.tdiv x1 x2)))))
noncomputable def f43_0 (α : Type) (x1 x2 : Int) (k1 : Int → Option α) : Option α := f43_0g  α x1 x2 k1
def pa43_0 : PT (List DV) := pA [pV false [(dI .i64)], pV false [(dI .i64)]]
def Fn43_0 (v : Tf43_0) (α : Type) (k : List RV → Option α) : Int → Int → Option α := fun x1 x2 => v α x1 x2 (fun (y1 : Int) => ur43_0_0 k y1)
noncomputable def cm43_0g  : MCode := (.seq (.region r43_2 [] (tO [0, 1])) (.seq (.region r43_4 [] (tO [0, 1, 5])) (.seq (.seq (.region r43_7 [] (tO [5, 12])) (.cond (.tmp 12) (.region r43_9 [] (tO [5])) .skip)) (.seq (.region r43_11 [] (tO [4])) .ret))))
noncomputable def cm43_0 : MCode := cm43_0g 
theorem gm43_0 : cm43_0.Good Try.prog E43_0 sh43 := ⟨trivial, ⟨trivial, ⟨⟨trivial, ⟨trivial, trivial⟩⟩, ⟨trivial, trivial⟩⟩⟩⟩
theorem fm43_0g   (α : Type) (k : List RV → Option α) : Fn43_0 (f43_0g ) α k = pa43_0.unc fun ds => fnM Try.prog (E43_0g ) sh43 (cm43_0g ) rs43 k ds := by kernel_rfl
theorem fm43_0 : ∀ (α : Type) (k : List RV → Option α), Fn43_0 f43_0 α k = pa43_0.unc fun ds => fnM Try.prog E43_0 sh43 cm43_0 rs43 k ds := fm43_0g 
theorem is43 : FnIs Try.prog 43 nt43 tr43 tl43 cm43_0.erase rs43 := ⟨Try.f43, Try.func43, rfl, by kernel_rfl, by kernel_rfl, by kernel_rfl⟩
theorem io43_0 : InstOk Try.prog 43 nt43 ⟨pa43_0, Fn43_0 f43_0⟩ := inst_ok eo43_0 followsTry is43 ⟨⟨sh43, cm43_0, by kernel_rfl, gm43_0, fm43_0⟩⟩
abbrev nt61 : Nat := 18
def sh61 : List (Nat × List Sh) := [(5, [.int .i64]), (7, [.int .i64]), (10, [.int .i64]), (12, [.int .i64])]
def r61_2 : List AOper := [oO 1 (.box (.tmp 0)), oO 2 (.mv (kI 0))]
def r61_4 : List AOper := [oO 4 (.faddr 0 (.tmp 1)), oO 5 (.load false 1 (.tmp 4)), oO 6 (.faddr 1 (.tmp 1)), oO 7 (.load false 1 (.tmp 6)), oO 8 (.bin .quo 3 (.tmp 5) (.tmp 7)), oM 3 8]
def r61_7 : List AOper := [oO 9 (.faddr 0 (.tmp 1)), oO 10 (.load false 1 (.tmp 9)), oO 11 (.faddr 1 (.tmp 1)), oO 12 (.load false 1 (.tmp 11)), oO 13 (.bin .rem 3 (.tmp 10) (.tmp 12)), oO 14 (.bin .lss 3 (.tmp 13) (kI 0))]
def r61_9 : List AOper := [oM 15 3, oO 16 (.bin .sub 3 (.tmp 15) (kI 1)), oM 3 16]
def r61_11 : List AOper := [oM 17 3, oM 2 17]
def tr61 : List (Nat × Tidy) := [tT 0 [1], tT 1 [1, 3], tT 2 [3, 14], tT 3 [3], tT 4 [2]]
def tl61 : List (Nat × Tidy) := []
def rs61 : List AResV := [.tmp 2]
def pr61_0_0 : PT (List RV) := pRs [pR false [rD (dI .i64)]]
def ur61_0_0 {β : Type} (g : List RV → β) : Int → β := pr61_0_0.unc g
def E61_0g  : EnvK := EnvK.of [] noSeq
noncomputable def E61_0 : EnvK := E61_0g 
theorem eo61_0 : E61_0.Ok Try.prog := EnvK.of_ok noSeq_ok trivial
abbrev Tf61_0 : Type 1 := (α : Type) → Int → Int → (Int → Option α) → Option α
def f61_0g  (α : Type) (x1 x2 : Int) (k1 : Int → Option α) : Option α :=
 gK (x2 != 0) (gK (x2 != 0) (cK (decide ((Int.tmod x1 x2) < 0))
 (k1 (w64 ((w64 (Int.tdiv x1 x2)) - 1)))
 (k1 (w64 (Int.tdiv x1 x2)))))
noncomputable def f61_0 (α : Type) (x1 x2 : Int) (k1 : Int → Option α) : Option α := f61_0g  α x1 x2 k1
def pa61_0 : PT (List DV) := pA [pV true [(dI .i64), (dI .i64)]]
def Fn61_0 (v : Tf61_0) (α : Type) (k : List RV → Option α) : Int → Int → Option α := fun x1 x2 => v α x1 x2 (fun (y1 : Int) => ur61_0_0 k y1)
noncomputable def cm61_0g  : MCode := (.seq (.region r61_2 [] (tO [1])) (.seq (.region r61_4 [] (tO [1, 3])) (.seq (.seq (.region r61_7 [] (tO [3, 14])) (.cond (.tmp 14) (.region r61_9 [] (tO [3])) .skip)) (.seq (.region r61_11 [] (tO [2])) .ret))))
noncomputable def cm61_0 : MCode := cm61_0g 
theorem gm61_0 : cm61_0.Good Try.prog E61_0 sh61 := ⟨trivial, ⟨trivial, ⟨⟨trivial, ⟨trivial, trivial⟩⟩, ⟨trivial, trivial⟩⟩⟩⟩
theorem fm61_0g   (α : Type) (k : List RV → Option α) : Fn61_0 (f61_0g ) α k = pa61_0.unc fun ds => fnM Try.prog (E61_0g ) sh61 (cm61_0g ) rs61 k ds := by kernel_rfl
theorem fm61_0 : ∀ (α : Type) (k : List RV → Option α), Fn61_0 f61_0 α k = pa61_0.unc fun ds => fnM Try.prog E61_0 sh61 cm61_0 rs61 k ds := fm61_0g 
theorem is61 : FnIs Try.prog 61 nt61 tr61 tl61 cm61_0.erase rs61 := ⟨Try.f61, Try.func61, rfl, by kernel_rfl, by kernel_rfl, by kernel_rfl⟩
theorem io61_0 : InstOk Try.prog 61 nt61 ⟨pa61_0, Fn61_0 f61_0⟩ := inst_ok eo61_0 followsTry is61 ⟨⟨sh61, cm61_0, by kernel_rfl, gm61_0, fm61_0⟩⟩
abbrev nt16 : Nat := 15
def sh16 : List (Nat × List Sh) := []
def r16_2 : List AOper := [oO 6 (.mv (.const (.bool false)))]
def r16_4 : List AOper := [oM 7 1, oM 8 0, oO 9 (.bin .leq 3 (.tmp 7) (.tmp 8)), oM 10 9, oG 11 (.mv (.tmp 0)) 10 true, oG 12 (.mv (.tmp 2)) 10 true, oG 13 (.bin .leq 3 (.tmp 11) (.tmp 12)) 10 true, oO 14 (.pick (.tmp 10) (.tmp 13) (.const (.bool false))), oM 6 14]
def tr16 : List (Nat × Tidy) := [tT 0 [0, 1, 2], tT 1 [6]]
def tl16 : List (Nat × Tidy) := []
def rs16 : List AResV := [.tmp 6]
def pr16_0_0 : PT (List RV) := pRs [pR false [rD dB]]
def ur16_0_0 {β : Type} (g : List RV → β) : Bool → β := pr16_0_0.unc g
def E16_0g  : EnvK := EnvK.of [] noSeq
noncomputable def E16_0 : EnvK := E16_0g 
theorem eo16_0 : E16_0.Ok Try.prog := EnvK.of_ok noSeq_ok trivial
abbrev Tf16_0 : Type 1 := (α : Type) → Int → Int → Int → (Bool → Option α) → Option α
def f16_0g  (α : Type) (x1 x2 x3 : Int) (k1 : Bool → Option α) : Option α :=
 cK (decide (x2 ≤ x1))
 (k1 (decide (x1 ≤ x3)))
 (k1 false)
noncomputable def f16_0 (α : Type) (x1 x2 x3 : Int) (k1 : Bool → Option α) : Option α := f16_0g  α x1 x2 x3 k1
def pa16_0 : PT (List DV) := pA [pV false [(dI .i64)], pV false [(dI .i64)], pV false [(dI .i64)]]
def Fn16_0 (v : Tf16_0) (α : Type) (k : List RV → Option α) : Int → Int → Int → Option α := fun x1 x2 x3 => v α x1 x2 x3 (fun (y1 : Bool) => ur16_0_0 k y1)
noncomputable def cm16_0g  : MCode := (.seq (.region r16_2 [] (tO [0, 1, 2])) (.seq (.region r16_4 [] (tO [6])) .ret))
noncomputable def cm16_0 : MCode := cm16_0g 
theorem gm16_0 : cm16_0.Good Try.prog E16_0 sh16 := ⟨trivial, ⟨trivial, trivial⟩⟩
theorem fm16_0g   (α : Type) (k : List RV → Option α) : Fn16_0 (f16_0g ) α k = pa16_0.unc fun ds => fnM Try.prog (E16_0g ) sh16 (cm16_0g ) rs16 k ds := by kernel_rfl
theorem fm16_0 : ∀ (α : Type) (k : List RV → Option α), Fn16_0 f16_0 α k = pa16_0.unc fun ds => fnM Try.prog E16_0 sh16 cm16_0 rs16 k ds := fm16_0g 
theorem is16 : FnIs Try.prog 16 nt16 tr16 tl16 cm16_0.erase rs16 := ⟨Try.f16, Try.func16, rfl, by kernel_rfl, by kernel_rfl, by kernel_rfl⟩
theorem io16_0 : InstOk Try.prog 16 nt16 ⟨pa16_0, Fn16_0 f16_0⟩ := inst_ok eo16_0 followsTry is16 ⟨⟨sh16, cm16_0, by kernel_rfl, gm16_0, fm16_0⟩⟩
abbrev nt38 : Nat := 10
def sh38 : List (Nat × List Sh) := [(8, [.int .i64])]
def r38_2 : List AOper := [oO 3 (.mv (.const (.bool false)))]
def r38_4 : List AOper := [oM 4 0, oO 5 (.bin .mul 3 (kI 10000) (.tmp 4)), oM 6 0, oO 7 (.bin .mul 3 (.tmp 5) (.tmp 6)), oO 8 (.load false 1 (.tmp 1)), oO 9 (.bin .lss 3 (.tmp 7) (.tmp 8)), oM 3 9]
def tr38 : List (Nat × Tidy) := [tT 0 [0, 1], tT 1 [3]]
def tl38 : List (Nat × Tidy) := []
def rs38 : List AResV := [.tmp 3]
def pr38_0_0 : PT (List RV) := pRs [pR false [rD dB]]
def ur38_0_0 {β : Type} (g : List RV → β) : Bool → β := pr38_0_0.unc g
def E38_0g  : EnvK := EnvK.of [] noSeq
noncomputable def E38_0 : EnvK := E38_0g 
theorem eo38_0 : E38_0.Ok Try.prog := EnvK.of_ok noSeq_ok trivial
abbrev Tf38_0 : Type 1 := (α : Type) → Int → Int → (Bool → Option α) → Option α
def f38_0g  (α : Type) (x1 x2 : Int) (k1 : Bool → Option α) : Option α :=
 k1 (decide ((w64 ((w64 (10000 * x1)) * x1)) < x2))
noncomputable def f38_0 (α : Type) (x1 x2 : Int) (k1 : Bool → Option α) : Option α := f38_0g  α x1 x2 k1
def pa38_0 : PT (List DV) := pA [pV false [(dI .i64)], pV false [(dP [(dI .i64)] 0)]]
def Fn38_0 (v : Tf38_0) (α : Type) (k : List RV → Option α) : Int → Int → Option α := fun x1 x2 => v α x1 x2 (fun (y1 : Bool) => ur38_0_0 k y1)
noncomputable def cm38_0g  : MCode := (.seq (.region r38_2 [] (tO [0, 1])) (.seq (.region r38_4 [] (tO [3])) .ret))
noncomputable def cm38_0 : MCode := cm38_0g 
theorem gm38_0 : cm38_0.Good Try.prog E38_0 sh38 := ⟨trivial, ⟨trivial, trivial⟩⟩
theorem fm38_0g   (α : Type) (k : List RV → Option α) : Fn38_0 (f38_0g ) α k = pa38_0.unc fun ds => fnM Try.prog (E38_0g ) sh38 (cm38_0g ) rs38 k ds := by kernel_rfl
theorem fm38_0 : ∀ (α : Type) (k : List RV → Option α), Fn38_0 f38_0 α k = pa38_0.unc fun ds => fnM Try.prog E38_0 sh38 cm38_0 rs38 k ds := fm38_0g 
theorem is38 : FnIs Try.prog 38 nt38 tr38 tl38 cm38_0.erase rs38 := ⟨Try.f38, Try.func38, rfl, by kernel_rfl, by kernel_rfl, by kernel_rfl⟩
theorem io38_0 : InstOk Try.prog 38 nt38 ⟨pa38_0, Fn38_0 f38_0⟩ := inst_ok eo38_0 followsTry is38 ⟨⟨sh38, cm38_0, by kernel_rfl, gm38_0, fm38_0⟩⟩
abbrev nt59 : Nat := 18
def sh59 : List (Nat × List Sh) := [(10, [.int .i64]), (11, [.int .i64])]
def r59_2 : List AOper := [oO 2 (.mv (kI 0))]
def r59_4 : List AOper := [oO 3 (.mv (kI 0))]
def r59_7 : List AOper := [oM 6 0, oO 7 (.len (.tmp 6)), oO 8 (.mv (kI 0))]
def td59_9 : Option Tidy := (some ⟨[3, 6, 7, 8], true, [⟨false, 6, 0, 20006, 1⟩], []⟩)
def r59_11 : List AOper := [oO 9 (.bin .lss 3 (.tmp 8) (.tmp 7))]
def r59_17 : List AOper := [oO 10 (.iaddr 1 none (.tmp 6) (.tmp 8)), oO 11 (.load false 1 (.tmp 10)), oM 5 11]
def r59_19 : List AOper := [oM 12 5, oM 13 3, oO 14 (.bin .neq 3 (.tmp 12) (.tmp 13))]
def r59_22 : List AOper := [oM 15 5, oM 2 15]
def r59_23 : List AOper := [oO 16 (.bin .add 3 (.tmp 8) (kI 1)), oM 8 16]
def r59_25 : List AOper := [oM 17 3, oM 2 17]
def tr59 : List (Nat × Tidy) := [tT 0 [0], tT 1 [0, 3], tT 2 [3, 6, 7, 8], tT 3 [3, 6, 7, 8, 9], tT 4 [3, 5, 6, 7, 8], tT 5 [3, 5, 6, 7, 8, 14], tT 6 [2], tT 7 [3, 6, 7, 8], tT 8 [2]]
def tl59 : List (Nat × Tidy) := [(3, ⟨[3, 6, 7, 8], true, [⟨false, 6, 0, 20006, 1⟩], []⟩)]
def rs59 : List AResV := [.tmp 2]
def p59_0_0 : PT St := pS [sl 3 (aV false [(cD (dI .i64))]), sl 6 (aV false [(cD dL)]), sl 7 (aV false [(cD (dI .i64))]), sl 8 (aV false [(cD (dI .i64))])] []
def u59_0_0 {β : Type} (g : St → β) : Int → Rows → Int → Int → β := p59_0_0.unc g
def p59_0_1 : PT St := pS [sl 2 (aV false [(cD (dI .i64))])] []
def u59_0_1 {β : Type} (g : St → β) : Int → β := p59_0_1.unc g
def p59_0_2 : PT St := pS [sl 3 (aV false [(cD (dI .i64))]), sl 6 (aV false [(cD dL)]), sl 7 (aV false [(cD (dI .i64))]), sl 8 (aV false [(cD (dI .i64))]), sl 9 (aV false [(cD dB)])] []
def u59_0_2 {β : Type} (g : St → β) : Int → Rows → Int → Int → Bool → β := p59_0_2.unc g
def pr59_0_0 : PT (List RV) := pRs [pR false [rD (dI .i64)]]
def ur59_0_0 {β : Type} (g : List RV → β) : Int → β := pr59_0_0.unc g
def E59_0g  : EnvK := EnvK.of [] noSeq
noncomputable def E59_0 : EnvK := E59_0g 
theorem eo59_0 : E59_0.Ok Try.prog := EnvK.of_ok noSeq_ok trivial
noncomputable def c59_0_9g  : MCode := (.seq (.region r59_11 [] (tO [3, 6, 7, 8, 9])) (.seq (.cond (.tmp 9) .skip (.exit 0)) (.seq (.block 1 (.seq (.region r59_17 [] (tO [3, 5, 6, 7, 8])) (.seq (.region r59_19 [] (tO [3, 5, 6, 7, 8, 14])) (.cond (.tmp 14) (.seq (.region r59_22 [] (tO [2])) .ret) .skip)))) (.region r59_23 [] (tO [3, 6, 7, 8])))))
noncomputable def c59_0_9 : MCode := c59_0_9g 
theorem g59_0_9 : c59_0_9.Good Try.prog E59_0 sh59 := ⟨trivial, ⟨⟨trivial, trivial⟩, ⟨⟨trivial, ⟨trivial, ⟨⟨trivial, trivial⟩, trivial⟩⟩⟩, trivial⟩⟩⟩
--CODE 9 0
def S59_0_0g  (α : Type) (x2 : Int) (x3 : Rows) (x4 x5 : Int) (kn : Int → Option α) (k1 : Int → Option α) (k2 : Int → Bool → Option α) : Option α :=
 cK (decide (x5 < x4))
 (rowK x3 x5 [.int .i64]
 (fun x7 => cK (x7 != x2)
 (k1 x7)
 (kn (w64 (x5 + 1)))))
 (k2 x5 (decide (x5 < x4)))
noncomputable def S59_0_0 (α : Type) (x2 : Int) (x3 : Rows) (x4 x5 : Int) (kn : Int → Option α) (k1 : Int → Option α) (k2 : Int → Bool → Option α) : Option α := S59_0_0g  α x2 x3 x4 x5 kn k1 k2
noncomputable def R59_0_0 (α : Type) (x2 : Int) (x3 : Rows) (x4 : Int) (k1 : Int → Option α) (k2 : Int → Bool → Option α) : Nat → Int → Option α
 | 0, _ => none
 | n + 1, x5 => S59_0_0 α x2 x3 x4 x5 (R59_0_0 α x2 x3 x4 k1 k2 n) k1 k2
noncomputable def L59_0_0 (α : Type) (x2 : Int) (x3 : Rows) (x4 : Int) (k1 : Int → Option α) (k2 : Int → Bool → Option α) (x5 : Int) : Option α := R59_0_0 α x2 x3 x4 k1 k2 fuel x5
abbrev TL59_0_0 : Type 1 := (α : Type) → Int → Rows → Int → (Int → Option α) → (Int → Bool → Option α) → Int → Option α
def F59_0_0 (v : TL59_0_0) (α : Type) (K : Exit → St → Option α) : Int → Rows → Int → Int → Option α := fun x2 x3 x4 x5 => v α x2 x3 x4 (fun (y1 : Int) => u59_0_1 (K .ret) y1) (fun (y1 : Int) (y2 : Bool) => u59_0_2 (K (.exit 0)) x2 x3 x4 y1 y2) x5
theorem r59_0_0g   (α : Type) (K : Exit → St → Option α) (Kn : St → Option α) (x2 : Int) (x3 : Rows) (x4 x5 : Int) : u59_0_0 (fun σ => runM Try.prog (E59_0g ) sh59 (c59_0_9g ) (thenK (fun σ => tidyK td59_9 σ Kn) K) σ) x2 x3 x4 x5 = S59_0_0g  α x2 x3 x4 x5 (fun x5 => u59_0_0 Kn x2 x3 x4 x5) (fun (y1 : Int) => u59_0_1 (K .ret) y1) (fun (y1 : Int) (y2 : Bool) => u59_0_2 (K (.exit 0)) x2 x3 x4 y1 y2) := by kernel_rfl
theorem r59_0_0 (α : Type) (K : Exit → St → Option α) (Kn : St → Option α) (x2 : Int) (x3 : Rows) (x4 x5 : Int) : u59_0_0 (fun σ => runM Try.prog E59_0 sh59 c59_0_9 (thenK (fun σ => tidyK td59_9 σ Kn) K) σ) x2 x3 x4 x5 = S59_0_0 α x2 x3 x4 x5 (fun x5 => u59_0_0 Kn x2 x3 x4 x5) (fun (y1 : Int) => u59_0_1 (K .ret) y1) (fun (y1 : Int) (y2 : Bool) => u59_0_2 (K (.exit 0)) x2 x3 x4 y1 y2) := r59_0_0g  α K Kn x2 x3 x4 x5
theorem t59_0_0 (α : Type) (K : Exit → St → Option α) : ∀ (n : Nat) (x2 : Int) (x3 : Rows) (x4 x5 : Int), R59_0_0 α x2 x3 x4 (fun (y1 : Int) => u59_0_1 (K .ret) y1) (fun (y1 : Int) (y2 : Bool) => u59_0_2 (K (.exit 0)) x2 x3 x4 y1 y2) n x5 = u59_0_0 (loopT (runM Try.prog E59_0 sh59 c59_0_9) td59_9 K n) x2 x3 x4 x5 := by
 intro n
 induction n with
 | zero => intros; rfl
 | succ n ih => intro x2 x3 x4 x5; exact (congrArg (fun kn => S59_0_0 α x2 x3 x4 x5 kn (fun (y1 : Int) => u59_0_1 (K .ret) y1) (fun (y1 : Int) (y2 : Bool) => u59_0_2 (K (.exit 0)) x2 x3 x4 y1 y2)) (funext fun x5 => ih x2 x3 x4 x5)).trans (r59_0_0 α K (loopT (runM Try.prog E59_0 sh59 c59_0_9) td59_9 K n) x2 x3 x4 x5).symm
theorem m59_0_0 : ∀ (α : Type) (K : Exit → St → Option α), F59_0_0 L59_0_0 α K = p59_0_0.unc fun σ => loopT (runM Try.prog E59_0 sh59 c59_0_9) td59_9 K fuel σ := fun α K => funext fun x2 => funext fun x3 => funext fun x4 => funext fun x5 => t59_0_0 α K fuel x2 x3 x4 x5
abbrev Tf59_0 : Type 1 := (α : Type) → Rows → (Int → Option α) → Option α
def f59_0g (vL59_0_0 : TL59_0_0) (α : Type) (x1 : Rows) (k1 : Int → Option α) : Option α :=
 vL59_0_0 α 0 x1 ((List.length x1 : Nat) : Int)
 (fun x8 => k1 x8)
 (fun x9 x10 => k1 0) 0
noncomputable def f59_0 (α : Type) (x1 : Rows) (k1 : Int → Option α) : Option α := f59_0g L59_0_0 α x1 k1
def pa59_0 : PT (List DV) := pA [pV false [dL]]
def Fn59_0 (v : Tf59_0) (α : Type) (k : List RV → Option α) : Rows → Option α := fun x1 => v α x1 (fun (y1 : Int) => ur59_0_0 k y1)
noncomputable def cm59_0g (vL59_0_0 : TL59_0_0) : MCode := (.seq (.region r59_2 [] (tO [0])) (.seq (.region r59_4 [] (tO [0, 3])) (.seq (.seq (.region r59_7 [] (tO [3, 6, 7, 8])) (.block 0 (.loop td59_9 [⟨p59_0_0, F59_0_0 vL59_0_0⟩] c59_0_9))) (.seq (.region r59_25 [] (tO [2])) .ret))))
noncomputable def cm59_0 : MCode := cm59_0g L59_0_0
theorem gm59_0 : cm59_0.Good Try.prog E59_0 sh59 := ⟨trivial, ⟨trivial, ⟨⟨trivial, ⟨g59_0_9, m59_0_0, trivial⟩⟩, ⟨trivial, trivial⟩⟩⟩⟩
theorem fm59_0g  (vL59_0_0 : TL59_0_0) (α : Type) (k : List RV → Option α) : Fn59_0 (f59_0g vL59_0_0) α k = pa59_0.unc fun ds => fnM Try.prog (E59_0g ) sh59 (cm59_0g vL59_0_0) rs59 k ds := by kernel_rfl
theorem fm59_0 : ∀ (α : Type) (k : List RV → Option α), Fn59_0 f59_0 α k = pa59_0.unc fun ds => fnM Try.prog E59_0 sh59 cm59_0 rs59 k ds := fm59_0g L59_0_0
theorem is59 : FnIs Try.prog 59 nt59 tr59 tl59 cm59_0.erase rs59 := ⟨Try.f59, Try.func59, rfl, by kernel_rfl, by kernel_rfl, by kernel_rfl⟩
theorem io59_0 : InstOk Try.prog 59 nt59 ⟨pa59_0, Fn59_0 f59_0⟩ := inst_ok eo59_0 followsTry is59 ⟨⟨sh59, cm59_0, by kernel_rfl, gm59_0, fm59_0⟩⟩
abbrev nt68 : Nat := 6
def sh68 : List (Nat × List Sh) := []
def r68_2 : List AOper := [oO 2 (.mv (.const (.bool false)))]
def r68_4 : List AOper := [oM 3 0, oM 4 0, oO 5 (.bin .neq 96 (.tmp 3) (.tmp 4)), oM 2 5]
def tr68 : List (Nat × Tidy) := [tT 0 [0], tT 1 [2]]
def tl68 : List (Nat × Tidy) := []
def rs68 : List AResV := [.tmp 2]
def pr68_0_0 : PT (List RV) := pRs [pR false [rD dB]]
def ur68_0_0 {β : Type} (g : List RV → β) : Bool → β := pr68_0_0.unc g
def E68_0g  : EnvK := EnvK.of [] noSeq
noncomputable def E68_0 : EnvK := E68_0g 
theorem eo68_0 : E68_0.Ok Try.prog := EnvK.of_ok noSeq_ok trivial
abbrev Tf68_0 : Type 1 := (α : Type) → Int → (Bool → Option α) → Option α
def f68_0g  (α : Type) (x1 : Int) (k1 : Bool → Option α) : Option α :=
 k1 (x1 != x1)
noncomputable def f68_0 (α : Type) (x1 : Int) (k1 : Bool → Option α) : Option α := f68_0g  α x1 k1
def pa68_0 : PT (List DV) := pA [pV false [(dI .u64)]]
def Fn68_0 (v : Tf68_0) (α : Type) (k : List RV → Option α) : Int → Option α := fun x1 => v α x1 (fun (y1 : Bool) => ur68_0_0 k y1)
noncomputable def cm68_0g  : MCode := (.seq (.region r68_2 [] (tO [0])) (.seq (.region r68_4 [] (tO [2])) .ret))
noncomputable def cm68_0 : MCode := cm68_0g 
theorem gm68_0 : cm68_0.Good Try.prog E68_0 sh68 := ⟨trivial, ⟨trivial, trivial⟩⟩
theorem fm68_0g   (α : Type) (k : List RV → Option α) : Fn68_0 (f68_0g ) α k = pa68_0.unc fun ds => fnM Try.prog (E68_0g ) sh68 (cm68_0g ) rs68 k ds := by kernel_rfl
theorem fm68_0 : ∀ (α : Type) (k : List RV → Option α), Fn68_0 f68_0 α k = pa68_0.unc fun ds => fnM Try.prog E68_0 sh68 cm68_0 rs68 k ds := fm68_0g 
theorem is68 : FnIs Try.prog 68 nt68 tr68 tl68 cm68_0.erase rs68 := ⟨Try.f68, Try.func68, rfl, by kernel_rfl, by kernel_rfl, by kernel_rfl⟩
theorem io68_0 : InstOk Try.prog 68 nt68 ⟨pa68_0, Fn68_0 f68_0⟩ := inst_ok eo68_0 followsTry is68 ⟨⟨sh68, cm68_0, by kernel_rfl, gm68_0, fm68_0⟩⟩
abbrev nt58 : Nat := 51
def sh58 : List (Nat × List Sh) := []
def r58_2 : List AOper := [oO 4 (.mv (.const (.int .u64 0))), oO 5 (.mv (.const (.int .u64 0)))]
def r58_4 : List AOper := [oM 14 0, oO 15 (.bin .and 96 (.tmp 14) (.const (.int .u64 4294967295))), oM 6 15]
def r58_6 : List AOper := [oM 16 0, oO 17 (.bin .shr 96 (.tmp 16) (.const (.int .u64 32))), oM 7 17]
def r58_8 : List AOper := [oM 18 1, oO 19 (.bin .and 96 (.tmp 18) (.const (.int .u64 4294967295))), oM 8 19]
def r58_10 : List AOper := [oM 20 1, oO 21 (.bin .shr 96 (.tmp 20) (.const (.int .u64 32))), oM 9 21]
def r58_12 : List AOper := [oM 22 6, oM 23 8, oO 24 (.bin .mul 96 (.tmp 22) (.tmp 23)), oM 10 24]
def r58_14 : List AOper := [oM 25 7, oM 26 8, oO 27 (.bin .mul 96 (.tmp 25) (.tmp 26)), oM 28 10, oO 29 (.bin .shr 96 (.tmp 28) (.const (.int .u64 32))), oO 30 (.bin .add 96 (.tmp 27) (.tmp 29)), oM 11 30]
def r58_16 : List AOper := [oM 31 11, oO 32 (.bin .and 96 (.tmp 31) (.const (.int .u64 4294967295))), oM 12 32]
def r58_18 : List AOper := [oM 33 11, oO 34 (.bin .shr 96 (.tmp 33) (.const (.int .u64 32))), oM 13 34]
def r58_20 : List AOper := [oM 35 12, oM 36 6, oM 37 9, oO 38 (.bin .mul 96 (.tmp 36) (.tmp 37)), oO 39 (.bin .add 96 (.tmp 35) (.tmp 38)), oM 12 39]
def r58_22 : List AOper := [oM 40 7, oM 41 9, oO 42 (.bin .mul 96 (.tmp 40) (.tmp 41)), oM 43 13, oO 44 (.bin .add 96 (.tmp 42) (.tmp 43)), oM 45 12, oO 46 (.bin .shr 96 (.tmp 45) (.const (.int .u64 32))), oO 47 (.bin .add 96 (.tmp 44) (.tmp 46)), oM 4 47]
def r58_24 : List AOper := [oM 48 0, oM 49 1, oO 50 (.bin .mul 96 (.tmp 48) (.tmp 49)), oM 5 50]
def tr58 : List (Nat × Tidy) := [tT 0 [0, 1], tT 1 [0, 1, 6], tT 2 [0, 1, 6, 7], tT 3 [0, 1, 6, 7, 8], tT 4 [0, 1, 6, 7, 8, 9], tT 5 [0, 1, 6, 7, 8, 9, 10], tT 6 [0, 1, 6, 7, 9, 11], tT 7 [0, 1, 6, 7, 9, 11, 12], tT 8 [0, 1, 6, 7, 9, 12, 13], tT 9 [0, 1, 7, 9, 12, 13], tT 10 [0, 1, 4], tT 11 [4, 5]]
def tl58 : List (Nat × Tidy) := []
def rs58 : List AResV := [.tmp 4, .tmp 5]
def pr58_0_0 : PT (List RV) := pRs [pR false [rD (dI .u64)], pR false [rD (dI .u64)]]
def ur58_0_0 {β : Type} (g : List RV → β) : Int → Int → β := pr58_0_0.unc g
def E58_0g  : EnvK := EnvK.of [] noSeq
noncomputable def E58_0 : EnvK := E58_0g 
theorem eo58_0 : E58_0.Ok Try.prog := EnvK.of_ok noSeq_ok trivial
abbrev Tf58_0 : Type 1 := (α : Type) → Int → Int → (Int → Int → Option α) → Option α
def f58_0g  (α : Type) (x1 x2 : Int) (k1 : Int → Int → Option α) : Option α :=
 k1 (IntKind.wrap .u64 ((IntKind.wrap .u64 ((IntKind.wrap .u64 ((Int.fdiv x1 (2 ^ 32)) * (Int.fdiv x2 (2 ^ 32)))) + (Int.fdiv (IntKind.wrap .u64 ((IntKind.wrap .u64 ((Int.fdiv x1 (2 ^ 32)) * (iAnd .u64 x2 4294967295))) + (Int.fdiv (IntKind.wrap .u64 ((iAnd .u64 x1 4294967295) * (iAnd .u64 x2 4294967295))) (2 ^ 32)))) (2 ^ 32)))) + (Int.fdiv (IntKind.wrap .u64 ((iAnd .u64 (IntKind.wrap .u64 ((IntKind.wrap .u64 ((Int.fdiv x1 (2 ^ 32)) * (iAnd .u64 x2 4294967295))) + (Int.fdiv (IntKind.wrap .u64 ((iAnd .u64 x1 4294967295) * (iAnd .u64 x2 4294967295))) (2 ^ 32)))) 4294967295) + (IntKind.wrap .u64 ((iAnd .u64 x1 4294967295) * (Int.fdiv x2 (2 ^ 32)))))) (2 ^ 32)))) (IntKind.wrap .u64 (x1 * x2))
noncomputable def f58_0 (α : Type) (x1 x2 : Int) (k1 : Int → Int → Option α) : Option α := f58_0g  α x1 x2 k1
def pa58_0 : PT (List DV) := pA [pV false [(dI .u64)], pV false [(dI .u64)]]
def Fn58_0 (v : Tf58_0) (α : Type) (k : List RV → Option α) : Int → Int → Option α := fun x1 x2 => v α x1 x2 (fun (y1 : Int) (y2 : Int) => ur58_0_0 k y1 y2)
noncomputable def cm58_0g  : MCode := (.seq (.region r58_2 [] (tO [0, 1])) (.seq (.region r58_4 [] (tO [0, 1, 6])) (.seq (.region r58_6 [] (tO [0, 1, 6, 7])) (.seq (.region r58_8 [] (tO [0, 1, 6, 7, 8])) (.seq (.region r58_10 [] (tO [0, 1, 6, 7, 8, 9])) (.seq (.region r58_12 [] (tO [0, 1, 6, 7, 8, 9, 10])) (.seq (.region r58_14 [] (tO [0, 1, 6, 7, 9, 11])) (.seq (.region r58_16 [] (tO [0, 1, 6, 7, 9, 11, 12])) (.seq (.region r58_18 [] (tO [0, 1, 6, 7, 9, 12, 13])) (.seq (.region r58_20 [] (tO [0, 1, 7, 9, 12, 13])) (.seq (.region r58_22 [] (tO [0, 1, 4])) (.seq (.region r58_24 [] (tO [4, 5])) .ret))))))))))))
noncomputable def cm58_0 : MCode := cm58_0g 
theorem gm58_0 : cm58_0.Good Try.prog E58_0 sh58 := ⟨trivial, ⟨trivial, ⟨trivial, ⟨trivial, ⟨trivial, ⟨trivial, ⟨trivial, ⟨trivial, ⟨trivial, ⟨trivial, ⟨trivial, ⟨trivial, trivial⟩⟩⟩⟩⟩⟩⟩⟩⟩⟩⟩⟩
theorem fm58_0g   (α : Type) (k : List RV → Option α) : Fn58_0 (f58_0g ) α k = pa58_0.unc fun ds => fnM Try.prog (E58_0g ) sh58 (cm58_0g ) rs58 k ds := by kernel_rfl
theorem fm58_0 : ∀ (α : Type) (k : List RV → Option α), Fn58_0 f58_0 α k = pa58_0.unc fun ds => fnM Try.prog E58_0 sh58 cm58_0 rs58 k ds := fm58_0g 
theorem is58 : FnIs Try.prog 58 nt58 tr58 tl58 cm58_0.erase rs58 := ⟨Try.f58, Try.func58, rfl, by kernel_rfl, by kernel_rfl, by kernel_rfl⟩
theorem io58_0 : InstOk Try.prog 58 nt58 ⟨pa58_0, Fn58_0 f58_0⟩ := inst_ok eo58_0 followsTry is58 ⟨⟨sh58, cm58_0, by kernel_rfl, gm58_0, fm58_0⟩⟩
abbrev nt34 : Nat := 15
def sh34 : List (Nat × List Sh) := []
def r34_2 : List AOper := [oO 6 (.mv (.const (.bool false)))]
def r34_4 : List AOper := [oM 7 0, oM 8 1, oO 9 (.bin .geq 3 (.tmp 7) (.tmp 8)), oM 10 9, oG 11 (.mv (.tmp 0)) 10 true, oG 12 (.mv (.tmp 2)) 10 true, oG 13 (.bin .leq 3 (.tmp 11) (.tmp 12)) 10 true, oO 14 (.pick (.tmp 10) (.tmp 13) (.const (.bool false))), oM 6 14]
def tr34 : List (Nat × Tidy) := [tT 0 [0, 1, 2], tT 1 [6]]
def tl34 : List (Nat × Tidy) := []
def rs34 : List AResV := [.tmp 6]
def pr34_0_0 : PT (List RV) := pRs [pR false [rD dB]]
def ur34_0_0 {β : Type} (g : List RV → β) : Bool → β := pr34_0_0.unc g
def E34_0g  : EnvK := EnvK.of [] noSeq
noncomputable def E34_0 : EnvK := E34_0g 
theorem eo34_0 : E34_0.Ok Try.prog := EnvK.of_ok noSeq_ok trivial
abbrev Tf34_0 : Type 1 := (α : Type) → Int → Int → Int → (Bool → Option α) → Option α
def f34_0g  (α : Type) (x1 x2 x3 : Int) (k1 : Bool → Option α) : Option α :=
 cK (decide (x2 ≤ x1))
 (k1 (decide (x1 ≤ x3)))
 (k1 false)
noncomputable def f34_0 (α : Type) (x1 x2 x3 : Int) (k1 : Bool → Option α) : Option α := f34_0g  α x1 x2 x3 k1
def pa34_0 : PT (List DV) := pA [pV false [(dI .i64)], pV false [(dI .i64)], pV false [(dI .i64)]]
def Fn34_0 (v : Tf34_0) (α : Type) (k : List RV → Option α) : Int → Int → Int → Option α := fun x1 x2 x3 => v α x1 x2 x3 (fun (y1 : Bool) => ur34_0_0 k y1)
noncomputable def cm34_0g  : MCode := (.seq (.region r34_2 [] (tO [0, 1, 2])) (.seq (.region r34_4 [] (tO [6])) .ret))
noncomputable def cm34_0 : MCode := cm34_0g 
theorem gm34_0 : cm34_0.Good Try.prog E34_0 sh34 := ⟨trivial, ⟨trivial, trivial⟩⟩
theorem fm34_0g   (α : Type) (k : List RV → Option α) : Fn34_0 (f34_0g ) α k = pa34_0.unc fun ds => fnM Try.prog (E34_0g ) sh34 (cm34_0g ) rs34 k ds := by kernel_rfl
theorem fm34_0 : ∀ (α : Type) (k : List RV → Option α), Fn34_0 f34_0 α k = pa34_0.unc fun ds => fnM Try.prog E34_0 sh34 cm34_0 rs34 k ds := fm34_0g 
theorem is34 : FnIs Try.prog 34 nt34 tr34 tl34 cm34_0.erase rs34 := ⟨Try.f34, Try.func34, rfl, by kernel_rfl, by kernel_rfl, by kernel_rfl⟩
theorem io34_0 : InstOk Try.prog 34 nt34 ⟨pa34_0, Fn34_0 f34_0⟩ := inst_ok eo34_0 followsTry is34 ⟨⟨sh34, cm34_0, by kernel_rfl, gm34_0, fm34_0⟩⟩
abbrev nt44 : Nat := 10
def sh44 : List (Nat × List Sh) := []
def r44_2 : List AOper := [oO 4 (.mv (kI 0))]
def r44_4 : List AOper := [oM 5 0, oO 6 (.pure (oB (.unOp .neg 3 (.tmp 5)) 3)), oM 7 1, oO 8 (.call 43 [(.tmp 6), (.tmp 7)]), oO 9 (.pure (oB (.unOp .neg 3 (.tmp 8)) 3)), oM 4 9]
def tr44 : List (Nat × Tidy) := [tT 0 [0, 1], tT 1 [4]]
def tl44 : List (Nat × Tidy) := []
def rs44 : List AResV := [.tmp 4]
def pr44_0_0 : PT (List RV) := pRs [pR false [rD (dI .i64)]]
def ur44_0_0 {β : Type} (g : List RV → β) : Int → β := pr44_0_0.unc g
def E44_0g (vf43_0 : Tf43_0) : EnvK := EnvK.of [⟨43, nt43, [⟨pa43_0, Fn43_0 vf43_0⟩]⟩] noSeq
noncomputable def E44_0 : EnvK := E44_0g f43_0
theorem eo44_0 : E44_0.Ok Try.prog := EnvK.of_ok noSeq_ok ⟨⟨io43_0, trivial⟩, trivial⟩
abbrev Tf44_0 : Type 1 := (α : Type) → Int → Int → (Int → Option α) → Option α
def f44_0g (vf43_0 : Tf43_0) (α : Type) (x1 x2 : Int) (k1 : Int → Option α) : Option α :=
 vf43_0 α (w64 (0 - x1)) x2
 (fun x3 => k1 (w64 (0 - x3)))
noncomputable def f44_0 (α : Type) (x1 x2 : Int) (k1 : Int → Option α) : Option α := f44_0g f43_0 α x1 x2 k1
def pa44_0 : PT (List DV) := pA [pV false [(dI .i64)], pV false [(dI .i64)]]
def Fn44_0 (v : Tf44_0) (α : Type) (k : List RV → Option α) : Int → Int → Option α := fun x1 x2 => v α x1 x2 (fun (y1 : Int) => ur44_0_0 k y1)
noncomputable def cm44_0g  : MCode := (.seq (.region r44_2 [] (tO [0, 1])) (.seq (.region r44_4 [] (tO [4])) .ret))
noncomputable def cm44_0 : MCode := cm44_0g 
theorem gm44_0 : cm44_0.Good Try.prog E44_0 sh44 := ⟨trivial, ⟨trivial, trivial⟩⟩
theorem fm44_0g (vf43_0 : Tf43_0)  (α : Type) (k : List RV → Option α) : Fn44_0 (f44_0g vf43_0) α k = pa44_0.unc fun ds => fnM Try.prog (E44_0g vf43_0) sh44 (cm44_0g ) rs44 k ds := by kernel_rfl
theorem fm44_0 : ∀ (α : Type) (k : List RV → Option α), Fn44_0 f44_0 α k = pa44_0.unc fun ds => fnM Try.prog E44_0 sh44 cm44_0 rs44 k ds := fm44_0g f43_0
theorem is44 : FnIs Try.prog 44 nt44 tr44 tl44 cm44_0.erase rs44 := ⟨Try.f44, Try.func44, rfl, by kernel_rfl, by kernel_rfl, by kernel_rfl⟩
theorem io44_0 : InstOk Try.prog 44 nt44 ⟨pa44_0, Fn44_0 f44_0⟩ := inst_ok eo44_0 followsTry is44 ⟨⟨sh44, cm44_0, by kernel_rfl, gm44_0, fm44_0⟩⟩
abbrev nt41 : Nat := 47
def sh41 : List (Nat × List Sh) := []
def r41_2 : List AOper := [oO 8 (.mv (kI 0))]
def td41_4 : Option Tidy := (tO [0, 1, 2, 3])
def r41_7 : List AOper := [oM 11 0, oM 12 1, oO 13 (.call 43 [(.tmp 11), (.tmp 12)]), oM 14 2, oM 15 3, oO 16 (.call 43 [(.tmp 14), (.tmp 15)]), oM 9 13, oM 10 16]
def r41_10 : List AOper := [oM 17 9, oM 18 10, oO 19 (.bin .lss 3 (.tmp 17) (.tmp 18))]
def r41_13 : List AOper := [oO 8 (.mv (kI (-1)))]
def r41_16 : List AOper := [oM 20 9, oM 21 10, oO 22 (.bin .gtr 3 (.tmp 20) (.tmp 21))]
def r41_19 : List AOper := [oO 8 (.mv (kI 1))]
def r41_21 : List AOper := [oM 23 0, oM 24 9, oM 25 1, oO 26 (.bin .mul 3 (.tmp 24) (.tmp 25)), oO 27 (.bin .sub 3 (.tmp 23) (.tmp 26)), oM 28 2, oM 29 10, oM 30 3, oO 31 (.bin .mul 3 (.tmp 29) (.tmp 30)), oO 32 (.bin .sub 3 (.tmp 28) (.tmp 31)), oM 0 27, oM 2 32]
def r41_24 : List AOper := [oM 33 0, oO 34 (.bin .eql 3 (.tmp 33) (kI 0)), oM 35 34, oG 36 (.mv (.tmp 2)) 35 true, oG 37 (.bin .eql 3 (.tmp 36) (kI 0)) 35 true, oO 38 (.pick (.tmp 35) (.tmp 37) (.const (.bool false)))]
def r41_27 : List AOper := [oO 8 (.mv (kI 0))]
def r41_30 : List AOper := [oM 39 0, oO 40 (.bin .eql 3 (.tmp 39) (kI 0))]
def r41_33 : List AOper := [oO 8 (.mv (kI (-1)))]
def r41_36 : List AOper := [oM 41 2, oO 42 (.bin .eql 3 (.tmp 41) (kI 0))]
def r41_39 : List AOper := [oO 8 (.mv (kI 1))]
def r41_40 : List AOper := [oM 43 3, oM 44 2, oM 45 1, oM 46 0, oM 0 43, oM 1 44, oM 2 45, oM 3 46]
def tr41 : List (Nat × Tidy) := [tT 0 [0, 1, 2, 3], tT 1 [0, 1, 2, 3, 9, 10], tT 2 [0, 1, 2, 3, 9, 10, 19], tT 3 [8], tT 4 [0, 1, 2, 3, 9, 10, 22], tT 5 [8], tT 6 [0, 1, 2, 3], tT 7 [0, 1, 2, 3, 38], tT 8 [8], tT 9 [0, 1, 2, 3, 40], tT 10 [8], tT 11 [0, 1, 2, 3, 42], tT 12 [8], tT 13 [0, 1, 2, 3]]
def tl41 : List (Nat × Tidy) := [tT 1 [0, 1, 2, 3]]
def rs41 : List AResV := [.tmp 8]
def p41_0_0 : PT St := pS [sl 0 (aV false [(cD (dI .i64))]), sl 1 (aV false [(cD (dI .i64))]), sl 2 (aV false [(cD (dI .i64))]), sl 3 (aV false [(cD (dI .i64))])] []
def u41_0_0 {β : Type} (g : St → β) : Int → Int → Int → Int → β := p41_0_0.unc g
def p41_0_1 : PT St := pS [sl 8 (aV false [(cD (dI .i64))])] []
def u41_0_1 {β : Type} (g : St → β) : Int → β := p41_0_1.unc g
def p41_0_2 : PT St := pS [sl 0 (aV false [(cD (dI .i64))]), sl 1 (aV false [(cD (dI .i64))]), sl 2 (aV false [(cD (dI .i64))]), sl 3 (aV false [(cD (dI .i64))]), sl 38 (aV false [(cD dB)])] []
def u41_0_2 {β : Type} (g : St → β) : Int → Int → Int → Int → Bool → β := p41_0_2.unc g
def pr41_0_0 : PT (List RV) := pRs [pR false [rD (dI .i64)]]
def ur41_0_0 {β : Type} (g : List RV → β) : Int → β := pr41_0_0.unc g
def E41_0g (vf43_0 : Tf43_0) : EnvK := EnvK.of [⟨43, nt43, [⟨pa43_0, Fn43_0 vf43_0⟩]⟩] noSeq
noncomputable def E41_0 : EnvK := E41_0g f43_0
theorem eo41_0 : E41_0.Ok Try.prog := EnvK.of_ok noSeq_ok ⟨⟨io43_0, trivial⟩, trivial⟩
noncomputable def c41_0_22g  : MCode := (.seq (.region r41_24 [] (tO [0, 1, 2, 3, 38])) (.cond (.tmp 38) (.seq (.region r41_27 [] (tO [8])) .ret) .skip))
noncomputable def c41_0_22 : MCode := c41_0_22g 
theorem g41_0_22 : c41_0_22.Good Try.prog E41_0 sh41 := ⟨trivial, ⟨⟨trivial, trivial⟩, trivial⟩⟩
--CODE 22 0
abbrev TJ41_0_0 : Type 1 := (α : Type) → Int → Int → (Option α) → (Bool → Option α) → Option α
def J41_0_0g  (α : Type) (x12 x14 : Int) (k1 : Option α) (k2 : Bool → Option α) : Option α :=
 cK (x12 == 0)
 (cK (x14 == 0)
 (k1)
 (k2 (x14 == 0)))
 (k2 false)
noncomputable def J41_0_0 (α : Type) (x12 x14 : Int) (k1 : Option α) (k2 : Bool → Option α) : Option α := J41_0_0g  α x12 x14 k1 k2
def F41_0_0 (v : TJ41_0_0) (α : Type) (K : Exit → St → Option α) : Int → Int → Int → Int → Option α := fun x12 x13 x14 x15 => v α x12 x14 (u41_0_1 (K .ret) 0) (fun (y1 : Bool) => u41_0_2 (K .normal) x12 x13 x14 x15 y1) 
theorem m41_0_0g (vf43_0 : Tf43_0)  (α : Type) (K : Exit → St → Option α) : F41_0_0 (J41_0_0g ) α K = p41_0_0.unc fun σ => runM Try.prog (E41_0g vf43_0) sh41 (c41_0_22g ) K σ := by kernel_rfl
theorem m41_0_0 : ∀ (α : Type) (K : Exit → St → Option α), F41_0_0 J41_0_0 α K = p41_0_0.unc fun σ => runM Try.prog E41_0 sh41 c41_0_22 K σ := m41_0_0g f43_0
noncomputable def c41_0_4g (vJ41_0_0 : TJ41_0_0) : MCode := (.block 1 (.seq (.region r41_7 [] (tO [0, 1, 2, 3, 9, 10])) (.seq (.seq (.region r41_10 [] (tO [0, 1, 2, 3, 9, 10, 19])) (.cond (.tmp 19) (.seq (.region r41_13 [] (tO [8])) .ret) .skip)) (.seq (.seq (.region r41_16 [] (tO [0, 1, 2, 3, 9, 10, 22])) (.cond (.tmp 22) (.seq (.region r41_19 [] (tO [8])) .ret) .skip)) (.seq (.region r41_21 [] (tO [0, 1, 2, 3])) (.seq (.mark [⟨p41_0_0, F41_0_0 vJ41_0_0⟩] c41_0_22) (.seq (.seq (.region r41_30 [] (tO [0, 1, 2, 3, 40])) (.cond (.tmp 40) (.seq (.region r41_33 [] (tO [8])) .ret) .skip)) (.seq (.seq (.region r41_36 [] (tO [0, 1, 2, 3, 42])) (.cond (.tmp 42) (.seq (.region r41_39 [] (tO [8])) .ret) .skip)) (.region r41_40 [] (tO [0, 1, 2, 3]))))))))))
noncomputable def c41_0_4 : MCode := c41_0_4g J41_0_0
theorem g41_0_4 : c41_0_4.Good Try.prog E41_0 sh41 := ⟨trivial, ⟨⟨trivial, ⟨⟨trivial, trivial⟩, trivial⟩⟩, ⟨⟨trivial, ⟨⟨trivial, trivial⟩, trivial⟩⟩, ⟨trivial, ⟨⟨g41_0_22, m41_0_0, trivial⟩, ⟨⟨trivial, ⟨⟨trivial, trivial⟩, trivial⟩⟩, ⟨⟨trivial, ⟨⟨trivial, trivial⟩, trivial⟩⟩, trivial⟩⟩⟩⟩⟩⟩⟩
--CODE 4 0
def S41_0_1g (vJ41_0_0 : TJ41_0_0) (vf43_0 : Tf43_0) (α : Type)  (x5 x6 x7 x8 : Int) (kn : Int → Int → Int → Int → Option α) (k1 : Int → Option α) : Option α :=
 vf43_0 α x5 x6
 (fun x10 => vf43_0 α x7 x8
 (fun x11 => cK (decide (x10 < x11))
 (k1 (-1))
 (cK (decide (x11 < x10))
 (k1 1)
 (vJ41_0_0 α (w64 (x5 - (w64 (x10 * x6)))) (w64 (x7 - (w64 (x11 * x8))))
 (k1 0)
 (fun x17 => cK ((w64 (x5 - (w64 (x10 * x6)))) == 0)
 (k1 (-1))
 (cK ((w64 (x7 - (w64 (x11 * x8)))) == 0)
 (k1 1)
 (kn x8 (w64 (x7 - (w64 (x11 * x8)))) x6 (w64 (x5 - (w64 (x10 * x6)))))))))))
noncomputable def S41_0_1 (α : Type)  (x5 x6 x7 x8 : Int) (kn : Int → Int → Int → Int → Option α) (k1 : Int → Option α) : Option α := S41_0_1g J41_0_0 f43_0 α  x5 x6 x7 x8 kn k1
noncomputable def R41_0_1 (α : Type)  (k1 : Int → Option α) : Nat → Int → Int → Int → Int → Option α
 | 0, _, _, _, _ => none
 | n + 1, x5, x6, x7, x8 => S41_0_1 α  x5 x6 x7 x8 (R41_0_1 α  k1 n) k1
noncomputable def L41_0_1 (α : Type)  (k1 : Int → Option α) (x5 x6 x7 x8 : Int) : Option α := R41_0_1 α  k1 fuel x5 x6 x7 x8
abbrev TL41_0_1 : Type 1 := (α : Type) → (Int → Option α) → Int → Int → Int → Int → Option α
def F41_0_1 (v : TL41_0_1) (α : Type) (K : Exit → St → Option α) : Int → Int → Int → Int → Option α := fun x5 x6 x7 x8 => v α  (fun (y1 : Int) => u41_0_1 (K .ret) y1) x5 x6 x7 x8
theorem r41_0_1g (vf43_0 : Tf43_0) (vJ41_0_0 : TJ41_0_0) (α : Type) (K : Exit → St → Option α) (Kn : St → Option α) (x5 x6 x7 x8 : Int) : u41_0_0 (fun σ => runM Try.prog (E41_0g vf43_0) sh41 (c41_0_4g vJ41_0_0) (thenK (fun σ => tidyK td41_4 σ Kn) K) σ) x5 x6 x7 x8 = S41_0_1g vJ41_0_0 vf43_0 α  x5 x6 x7 x8 (fun x5 x6 x7 x8 => u41_0_0 Kn x5 x6 x7 x8) (fun (y1 : Int) => u41_0_1 (K .ret) y1) := by kernel_rfl
theorem r41_0_1 (α : Type) (K : Exit → St → Option α) (Kn : St → Option α) (x5 x6 x7 x8 : Int) : u41_0_0 (fun σ => runM Try.prog E41_0 sh41 c41_0_4 (thenK (fun σ => tidyK td41_4 σ Kn) K) σ) x5 x6 x7 x8 = S41_0_1 α  x5 x6 x7 x8 (fun x5 x6 x7 x8 => u41_0_0 Kn x5 x6 x7 x8) (fun (y1 : Int) => u41_0_1 (K .ret) y1) := r41_0_1g f43_0 J41_0_0 α K Kn x5 x6 x7 x8
theorem t41_0_1 (α : Type) (K : Exit → St → Option α) : ∀ (n : Nat) (x5 x6 x7 x8 : Int), R41_0_1 α  (fun (y1 : Int) => u41_0_1 (K .ret) y1) n x5 x6 x7 x8 = u41_0_0 (loopT (runM Try.prog E41_0 sh41 c41_0_4) td41_4 K n) x5 x6 x7 x8 := by
 intro n
 induction n with
 | zero => intros; rfl
 | succ n ih => intro x5 x6 x7 x8; exact (congrArg (fun kn => S41_0_1 α  x5 x6 x7 x8 kn (fun (y1 : Int) => u41_0_1 (K .ret) y1)) (funext fun x5 => funext fun x6 => funext fun x7 => funext fun x8 => ih x5 x6 x7 x8)).trans (r41_0_1 α K (loopT (runM Try.prog E41_0 sh41 c41_0_4) td41_4 K n) x5 x6 x7 x8).symm
theorem m41_0_1 : ∀ (α : Type) (K : Exit → St → Option α), F41_0_1 L41_0_1 α K = p41_0_0.unc fun σ => loopT (runM Try.prog E41_0 sh41 c41_0_4) td41_4 K fuel σ := fun α K => funext fun x5 => funext fun x6 => funext fun x7 => funext fun x8 => t41_0_1 α K fuel x5 x6 x7 x8
abbrev Tf41_0 : Type 1 := (α : Type) → Int → Int → Int → Int → (Int → Option α) → Option α
def f41_0g (vL41_0_1 : TL41_0_1) (α : Type) (x1 x2 x3 x4 : Int) (k1 : Int → Option α) : Option α :=
 vL41_0_1 α
 (fun x19 => k1 x19) x1 x2 x3 x4
noncomputable def f41_0 (α : Type) (x1 x2 x3 x4 : Int) (k1 : Int → Option α) : Option α := f41_0g L41_0_1 α x1 x2 x3 x4 k1
def pa41_0 : PT (List DV) := pA [pV false [(dI .i64)], pV false [(dI .i64)], pV false [(dI .i64)], pV false [(dI .i64)]]
def Fn41_0 (v : Tf41_0) (α : Type) (k : List RV → Option α) : Int → Int → Int → Int → Option α := fun x1 x2 x3 x4 => v α x1 x2 x3 x4 (fun (y1 : Int) => ur41_0_0 k y1)
noncomputable def cm41_0g (vL41_0_1 : TL41_0_1) : MCode := (.seq (.region r41_2 [] (tO [0, 1, 2, 3])) (.block 0 (.loop td41_4 [⟨p41_0_0, F41_0_1 vL41_0_1⟩] c41_0_4)))
noncomputable def cm41_0 : MCode := cm41_0g L41_0_1
theorem gm41_0 : cm41_0.Good Try.prog E41_0 sh41 := ⟨trivial, ⟨g41_0_4, m41_0_1, trivial⟩⟩
theorem fm41_0g (vf43_0 : Tf43_0) (vL41_0_1 : TL41_0_1) (α : Type) (k : List RV → Option α) : Fn41_0 (f41_0g vL41_0_1) α k = pa41_0.unc fun ds => fnM Try.prog (E41_0g vf43_0) sh41 (cm41_0g vL41_0_1) rs41 k ds := by kernel_rfl
theorem fm41_0 : ∀ (α : Type) (k : List RV → Option α), Fn41_0 f41_0 α k = pa41_0.unc fun ds => fnM Try.prog E41_0 sh41 cm41_0 rs41 k ds := fm41_0g f43_0 L41_0_1
theorem is41 : FnIs Try.prog 41 nt41 tr41 tl41 cm41_0.erase rs41 := ⟨Try.f41, Try.func41, rfl, by kernel_rfl, by kernel_rfl, by kernel_rfl⟩
theorem io41_0 : InstOk Try.prog 41 nt41 ⟨pa41_0, Fn41_0 f41_0⟩ := inst_ok eo41_0 followsTry is41 ⟨⟨sh41, cm41_0, by kernel_rfl, gm41_0, fm41_0⟩⟩
abbrev nt40 : Nat := 5
def sh40 : List (Nat × List Sh) := []
def r40_2 : List AOper := [oO 2 (.mv (.const (.bool false)))]
def r40_4 : List AOper := [oM 3 0, oO 4 (.call 16 [(.tmp 3), (kI 5000), (kI 80000)]), oM 2 4]
def tr40 : List (Nat × Tidy) := [tT 0 [0], tT 1 [2]]
def tl40 : List (Nat × Tidy) := []
def rs40 : List AResV := [.tmp 2]
def pr40_0_0 : PT (List RV) := pRs [pR false [rD dB]]
def ur40_0_0 {β : Type} (g : List RV → β) : Bool → β := pr40_0_0.unc g
def E40_0g (vf16_0 : Tf16_0) : EnvK := EnvK.of [⟨16, nt16, [⟨pa16_0, Fn16_0 vf16_0⟩]⟩] noSeq
noncomputable def E40_0 : EnvK := E40_0g f16_0
theorem eo40_0 : E40_0.Ok Try.prog := EnvK.of_ok noSeq_ok ⟨⟨io16_0, trivial⟩, trivial⟩
abbrev Tf40_0 : Type 1 := (α : Type) → Int → (Bool → Option α) → Option α
def f40_0g (vf16_0 : Tf16_0) (α : Type) (x1 : Int) (k1 : Bool → Option α) : Option α :=
 vf16_0 α x1 5000 80000
 (fun x2 => k1 x2)
noncomputable def f40_0 (α : Type) (x1 : Int) (k1 : Bool → Option α) : Option α := f40_0g f16_0 α x1 k1
def pa40_0 : PT (List DV) := pA [pV false [(dI .i64)]]
def Fn40_0 (v : Tf40_0) (α : Type) (k : List RV → Option α) : Int → Option α := fun x1 => v α x1 (fun (y1 : Bool) => ur40_0_0 k y1)
noncomputable def cm40_0g  : MCode := (.seq (.region r40_2 [] (tO [0])) (.seq (.region r40_4 [] (tO [2])) .ret))
noncomputable def cm40_0 : MCode := cm40_0g 
theorem gm40_0 : cm40_0.Good Try.prog E40_0 sh40 := ⟨trivial, ⟨trivial, trivial⟩⟩
theorem fm40_0g (vf16_0 : Tf16_0)  (α : Type) (k : List RV → Option α) : Fn40_0 (f40_0g vf16_0) α k = pa40_0.unc fun ds => fnM Try.prog (E40_0g vf16_0) sh40 (cm40_0g ) rs40 k ds := by kernel_rfl
theorem fm40_0 : ∀ (α : Type) (k : List RV → Option α), Fn40_0 f40_0 α k = pa40_0.unc fun ds => fnM Try.prog E40_0 sh40 cm40_0 rs40 k ds := fm40_0g f16_0
theorem is40 : FnIs Try.prog 40 nt40 tr40 tl40 cm40_0.erase rs40 := ⟨Try.f40, Try.func40, rfl, by kernel_rfl, by kernel_rfl, by kernel_rfl⟩
theorem io40_0 : InstOk Try.prog 40 nt40 ⟨pa40_0, Fn40_0 f40_0⟩ := inst_ok eo40_0 followsTry is40 ⟨⟨sh40, cm40_0, by kernel_rfl, gm40_0, fm40_0⟩⟩
abbrev nt62 : Nat := 11
def sh62 : List (Nat × List Sh) := [(4, [.int .i64]), (7, [.int .i64])]
def r62_2 : List AOper := [oO 1 (.box (.tmp 0)), oO 2 (.mv (kI 0))]
def r62_4 : List AOper := [oO 3 (.faddr 0 (.tmp 1)), oO 4 (.load false 1 (.tmp 3)), oO 5 (.pure (oB (.unOp .neg 3 (.tmp 4)) 3)), oO 6 (.faddr 1 (.tmp 1)), oO 7 (.load false 1 (.tmp 6)), oO 8 (.build [(cI 0), (cI 0)] [(0, 1, (.tmp 5)), (1, 1, (.tmp 7))]), oO 9 (.call 61 [(.tmp 8)]), oO 10 (.pure (oB (.unOp .neg 3 (.tmp 9)) 3)), oM 2 10]
def tr62 : List (Nat × Tidy) := [tT 0 [1], tT 1 [2]]
def tl62 : List (Nat × Tidy) := []
def rs62 : List AResV := [.tmp 2]
def pr62_0_0 : PT (List RV) := pRs [pR false [rD (dI .i64)]]
def ur62_0_0 {β : Type} (g : List RV → β) : Int → β := pr62_0_0.unc g
def E62_0g (vf61_0 : Tf61_0) : EnvK := EnvK.of [⟨61, nt61, [⟨pa61_0, Fn61_0 vf61_0⟩]⟩] noSeq
noncomputable def E62_0 : EnvK := E62_0g f61_0
theorem eo62_0 : E62_0.Ok Try.prog := EnvK.of_ok noSeq_ok ⟨⟨io61_0, trivial⟩, trivial⟩
abbrev Tf62_0 : Type 1 := (α : Type) → Int → Int → (Int → Option α) → Option α
def f62_0g (vf61_0 : Tf61_0) (α : Type) (x1 x2 : Int) (k1 : Int → Option α) : Option α :=
 vf61_0 α (w64 (0 - x1)) x2
 (fun x3 => k1 (w64 (0 - x3)))
noncomputable def f62_0 (α : Type) (x1 x2 : Int) (k1 : Int → Option α) : Option α := f62_0g f61_0 α x1 x2 k1
def pa62_0 : PT (List DV) := pA [pV true [(dI .i64), (dI .i64)]]
def Fn62_0 (v : Tf62_0) (α : Type) (k : List RV → Option α) : Int → Int → Option α := fun x1 x2 => v α x1 x2 (fun (y1 : Int) => ur62_0_0 k y1)
noncomputable def cm62_0g  : MCode := (.seq (.region r62_2 [] (tO [1])) (.seq (.region r62_4 [] (tO [2])) .ret))
noncomputable def cm62_0 : MCode := cm62_0g 
theorem gm62_0 : cm62_0.Good Try.prog E62_0 sh62 := ⟨trivial, ⟨trivial, trivial⟩⟩
theorem fm62_0g (vf61_0 : Tf61_0)  (α : Type) (k : List RV → Option α) : Fn62_0 (f62_0g vf61_0) α k = pa62_0.unc fun ds => fnM Try.prog (E62_0g vf61_0) sh62 (cm62_0g ) rs62 k ds := by kernel_rfl
theorem fm62_0 : ∀ (α : Type) (k : List RV → Option α), Fn62_0 f62_0 α k = pa62_0.unc fun ds => fnM Try.prog E62_0 sh62 cm62_0 rs62 k ds := fm62_0g f61_0
theorem is62 : FnIs Try.prog 62 nt62 tr62 tl62 cm62_0.erase rs62 := ⟨Try.f62, Try.func62, rfl, by kernel_rfl, by kernel_rfl, by kernel_rfl⟩
theorem io62_0 : InstOk Try.prog 62 nt62 ⟨pa62_0, Fn62_0 f62_0⟩ := inst_ok eo62_0 followsTry is62 ⟨⟨sh62, cm62_0, by kernel_rfl, gm62_0, fm62_0⟩⟩
abbrev nt60 : Nat := 20
def sh60 : List (Nat × List Sh) := []
def r60_2 : List AOper := [oO 4 (.mv (kI 0))]
def r60_4 : List AOper := [oM 7 0, oO 8 (.call 68 [(.tmp 7)]), oM 5 8]
def r60_6 : List AOper := [oM 9 1, oO 10 (.call 68 [(.tmp 9)]), oM 6 10]
def r60_9 : List AOper := [oM 11 5]
def r60_13 : List AOper := [oM 12 6]
def r60_16 : List AOper := [oO 4 (.mv (kI 0))]
def r60_18 : List AOper := [oO 4 (.mv (kI (-1)))]
def r60_21 : List AOper := [oM 13 6]
def r60_24 : List AOper := [oO 4 (.mv (kI 1))]
def r60_27 : List AOper := [oM 14 0, oM 15 1, oO 16 (.bin .lss 96 (.tmp 14) (.tmp 15))]
def r60_30 : List AOper := [oO 4 (.mv (kI (-1)))]
def r60_33 : List AOper := [oM 17 0, oM 18 1, oO 19 (.bin .gtr 96 (.tmp 17) (.tmp 18))]
def r60_36 : List AOper := [oO 4 (.mv (kI 1))]
def r60_38 : List AOper := [oO 4 (.mv (kI 0))]
def tr60 : List (Nat × Tidy) := [tT 0 [0, 1], tT 1 [0, 1, 5], tT 2 [0, 1, 5, 6], tT 3 [0, 1, 6, 11], tT 4 [12], tT 5 [4], tT 6 [4], tT 7 [0, 1, 13], tT 8 [4], tT 9 [0, 1, 16], tT 10 [4], tT 11 [19], tT 12 [4], tT 13 [4]]
def tl60 : List (Nat × Tidy) := []
def rs60 : List AResV := [.tmp 4]
def pr60_0_0 : PT (List RV) := pRs [pR false [rD (dI .i64)]]
def ur60_0_0 {β : Type} (g : List RV → β) : Int → β := pr60_0_0.unc g
def E60_0g (vf68_0 : Tf68_0) : EnvK := EnvK.of [⟨68, nt68, [⟨pa68_0, Fn68_0 vf68_0⟩]⟩] noSeq
noncomputable def E60_0 : EnvK := E60_0g f68_0
theorem eo60_0 : E60_0.Ok Try.prog := EnvK.of_ok noSeq_ok ⟨⟨io68_0, trivial⟩, trivial⟩
abbrev Tf60_0 : Type 1 := (α : Type) → Int → Int → (Int → Option α) → Option α
def f60_0g (vf68_0 : Tf68_0) (α : Type) (x1 x2 : Int) (k1 : Int → Option α) : Option α :=
 vf68_0 α x1
 (fun x3 => vf68_0 α x2
 (fun x4 => cK x3
 (cK x4
 (k1 0)
 (k1 (-1)))
 (cK x4
 (k1 1)
 (cK (decide (x1 < x2))
 (k1 (-1))
 (cK (decide (x2 < x1))
 (k1 1)
 (k1 0))))))
noncomputable def f60_0 (α : Type) (x1 x2 : Int) (k1 : Int → Option α) : Option α := f60_0g f68_0 α x1 x2 k1
def pa60_0 : PT (List DV) := pA [pV false [(dI .u64)], pV false [(dI .u64)]]
def Fn60_0 (v : Tf60_0) (α : Type) (k : List RV → Option α) : Int → Int → Option α := fun x1 x2 => v α x1 x2 (fun (y1 : Int) => ur60_0_0 k y1)
noncomputable def cm60_0g  : MCode := (.seq (.region r60_2 [] (tO [0, 1])) (.seq (.region r60_4 [] (tO [0, 1, 5])) (.seq (.region r60_6 [] (tO [0, 1, 5, 6])) (.seq (.seq (.region r60_9 [] (tO [0, 1, 6, 11])) (.cond (.tmp 11) (.seq (.seq (.region r60_13 [] (tO [12])) (.cond (.tmp 12) (.seq (.region r60_16 [] (tO [4])) .ret) .skip)) (.seq (.region r60_18 [] (tO [4])) .ret)) .skip)) (.seq (.seq (.region r60_21 [] (tO [0, 1, 13])) (.cond (.tmp 13) (.seq (.region r60_24 [] (tO [4])) .ret) .skip)) (.seq (.seq (.region r60_27 [] (tO [0, 1, 16])) (.cond (.tmp 16) (.seq (.region r60_30 [] (tO [4])) .ret) .skip)) (.seq (.seq (.region r60_33 [] (tO [19])) (.cond (.tmp 19) (.seq (.region r60_36 [] (tO [4])) .ret) .skip)) (.seq (.region r60_38 [] (tO [4])) .ret))))))))
noncomputable def cm60_0 : MCode := cm60_0g 
theorem gm60_0 : cm60_0.Good Try.prog E60_0 sh60 := ⟨trivial, ⟨trivial, ⟨trivial, ⟨⟨trivial, ⟨⟨⟨trivial, ⟨⟨trivial, trivial⟩, trivial⟩⟩, ⟨trivial, trivial⟩⟩, trivial⟩⟩, ⟨⟨trivial, ⟨⟨trivial, trivial⟩, trivial⟩⟩, ⟨⟨trivial, ⟨⟨trivial, trivial⟩, trivial⟩⟩, ⟨⟨trivial, ⟨⟨trivial, trivial⟩, trivial⟩⟩, ⟨trivial, trivial⟩⟩⟩⟩⟩⟩⟩⟩
theorem fm60_0g (vf68_0 : Tf68_0)  (α : Type) (k : List RV → Option α) : Fn60_0 (f60_0g vf68_0) α k = pa60_0.unc fun ds => fnM Try.prog (E60_0g vf68_0) sh60 (cm60_0g ) rs60 k ds := by kernel_rfl
theorem fm60_0 : ∀ (α : Type) (k : List RV → Option α), Fn60_0 f60_0 α k = pa60_0.unc fun ds => fnM Try.prog E60_0 sh60 cm60_0 rs60 k ds := fm60_0g f68_0
theorem is60 : FnIs Try.prog 60 nt60 tr60 tl60 cm60_0.erase rs60 := ⟨Try.f60, Try.func60, rfl, by kernel_rfl, by kernel_rfl, by kernel_rfl⟩
theorem io60_0 : InstOk Try.prog 60 nt60 ⟨pa60_0, Fn60_0 f60_0⟩ := inst_ok eo60_0 followsTry is60 ⟨⟨sh60, cm60_0, by kernel_rfl, gm60_0, fm60_0⟩⟩
abbrev nt57 : Nat := 5
def sh57 : List (Nat × List Sh) := []
def r57_2 : List AOper := [oO 2 (.mv (.const (.bool false)))]
def r57_4 : List AOper := [oM 3 0, oO 4 (.call 34 [(.tmp 3), (kI 5000), (kI 80000)]), oM 2 4]
def tr57 : List (Nat × Tidy) := [tT 0 [0], tT 1 [2]]
def tl57 : List (Nat × Tidy) := []
def rs57 : List AResV := [.tmp 2]
def pr57_0_0 : PT (List RV) := pRs [pR false [rD dB]]
def ur57_0_0 {β : Type} (g : List RV → β) : Bool → β := pr57_0_0.unc g
def E57_0g (vf34_0 : Tf34_0) : EnvK := EnvK.of [⟨34, nt34, [⟨pa34_0, Fn34_0 vf34_0⟩]⟩] noSeq
noncomputable def E57_0 : EnvK := E57_0g f34_0
theorem eo57_0 : E57_0.Ok Try.prog := EnvK.of_ok noSeq_ok ⟨⟨io34_0, trivial⟩, trivial⟩
abbrev Tf57_0 : Type 1 := (α : Type) → Int → (Bool → Option α) → Option α
def f57_0g (vf34_0 : Tf34_0) (α : Type) (x1 : Int) (k1 : Bool → Option α) : Option α :=
 vf34_0 α x1 5000 80000
 (fun x2 => k1 x2)
noncomputable def f57_0 (α : Type) (x1 : Int) (k1 : Bool → Option α) : Option α := f57_0g f34_0 α x1 k1
def pa57_0 : PT (List DV) := pA [pV false [(dI .i64)]]
def Fn57_0 (v : Tf57_0) (α : Type) (k : List RV → Option α) : Int → Option α := fun x1 => v α x1 (fun (y1 : Bool) => ur57_0_0 k y1)
noncomputable def cm57_0g  : MCode := (.seq (.region r57_2 [] (tO [0])) (.seq (.region r57_4 [] (tO [2])) .ret))
noncomputable def cm57_0 : MCode := cm57_0g 
theorem gm57_0 : cm57_0.Good Try.prog E57_0 sh57 := ⟨trivial, ⟨trivial, trivial⟩⟩
theorem fm57_0g (vf34_0 : Tf34_0)  (α : Type) (k : List RV → Option α) : Fn57_0 (f57_0g vf34_0) α k = pa57_0.unc fun ds => fnM Try.prog (E57_0g vf34_0) sh57 (cm57_0g ) rs57 k ds := by kernel_rfl
theorem fm57_0 : ∀ (α : Type) (k : List RV → Option α), Fn57_0 f57_0 α k = pa57_0.unc fun ds => fnM Try.prog E57_0 sh57 cm57_0 rs57 k ds := fm57_0g f34_0
theorem is57 : FnIs Try.prog 57 nt57 tr57 tl57 cm57_0.erase rs57 := ⟨Try.f57, Try.func57, rfl, by kernel_rfl, by kernel_rfl, by kernel_rfl⟩
theorem io57_0 : InstOk Try.prog 57 nt57 ⟨pa57_0, Fn57_0 f57_0⟩ := inst_ok eo57_0 followsTry is57 ⟨⟨sh57, cm57_0, by kernel_rfl, gm57_0, fm57_0⟩⟩
abbrev nt15 : Nat := 66
def sh15 : List (Nat × List Sh) := []
def r15_2 : List AOper := [oO 6 (.alloc [(cI 0), (cI 0)]), oO 7 (.mv (kI 0))]
def r15_5 : List AOper := [oM 10 0, oO 11 (.call 40 [(.tmp 10)]), oO 12 (.pure (oB (.unOp .not 4 (.tmp 11)) 4)), oM 13 12, oG 14 (.mv (.tmp 1)) 13 false, oG 15 (.call 40 [(.tmp 14)]) 13 false, oG 16 (.pure (oB (.unOp .not 4 (.tmp 15)) 4)) 13 false, oO 17 (.pick (.tmp 13) (.const (.bool true)) (.tmp 16)), oM 18 17, oG 19 (.mv (.tmp 2)) 18 false, oG 20 (.call 40 [(.tmp 19)]) 18 false, oG 21 (.pure (oB (.unOp .not 4 (.tmp 20)) 4)) 18 false, oO 22 (.pick (.tmp 18) (.const (.bool true)) (.tmp 21))]
def r15_8 : List AOper := [oO 23 (.build [(cI 0), (cI 0)] []), oD (.store 2 (.tmp 6) (.tmp 23)), oO 7 (.mv (kI 2))]
def r15_11 : List AOper := [oM 24 0, oM 25 1, oO 26 (.bin .eql 3 (.tmp 24) (.tmp 25))]
def r15_14 : List AOper := [oO 27 (.build [(cI 0), (cI 0)] []), oD (.store 2 (.tmp 6) (.tmp 27)), oO 7 (.mv (kI 9))]
def r15_17 : List AOper := [oM 28 2, oM 29 0, oM 30 1, oO 31 (.pure (oB (.call { callee := .builtin .min, args := #[(.tmp 29), (.tmp 30)], argTypes := #[3, 3] }) 3)), oM 32 0, oM 33 1, oO 34 (.pure (oB (.call { callee := .builtin .max, args := #[(.tmp 32), (.tmp 33)], argTypes := #[3, 3] }) 3)), oO 35 (.call 16 [(.tmp 28), (.tmp 31), (.tmp 34)]), oO 36 (.pure (oB (.unOp .not 4 (.tmp 35)) 4))]
def r15_20 : List AOper := [oO 37 (.build [(cI 0), (cI 0)] []), oD (.store 2 (.tmp 6) (.tmp 37)), oO 7 (.mv (kI 24))]
def r15_22 : List AOper := [oM 38 2, oM 39 2, oO 40 (.bin .mul 3 (.tmp 38) (.tmp 39)), oM 41 1, oM 42 1, oO 43 (.bin .mul 3 (.tmp 41) (.tmp 42)), oO 44 (.bin .sub 3 (.tmp 40) (.tmp 43)), oO 45 (.bin .mul 3 (kI 10000) (.tmp 44)), oM 46 0, oM 47 0, oO 48 (.bin .mul 3 (.tmp 46) (.tmp 47)), oM 49 1, oM 50 1, oO 51 (.bin .mul 3 (.tmp 49) (.tmp 50)), oO 52 (.bin .sub 3 (.tmp 48) (.tmp 51)), oM 8 45, oM 9 52]
def r15_25 : List AOper := [oM 53 9, oO 54 (.bin .lss 3 (.tmp 53) (kI 0))]
def r15_27 : List AOper := [oM 55 8, oO 56 (.pure (oB (.unOp .neg 3 (.tmp 55)) 3)), oM 57 9, oO 58 (.pure (oB (.unOp .neg 3 (.tmp 57)) 3)), oM 8 56, oM 9 58]
def r15_29 : List AOper := [oM 59 8, oM 60 9, oO 61 (.call 43 [(.tmp 59), (.tmp 60)]), oM 62 8, oM 63 9, oO 64 (.call 44 [(.tmp 62), (.tmp 63)]), oO 65 (.build [(cI 0), (cI 0)] [(0, 1, (.tmp 61)), (1, 1, (.tmp 64))]), oD (.store 2 (.tmp 6) (.tmp 65)), oO 7 (.mv (kI 0))]
def tr15 : List (Nat × Tidy) := [tT 0 [0, 1, 2, 6], tT 1 [0, 1, 2, 6, 22], tT 2 [6, 7], tT 3 [0, 1, 2, 6, 26], tT 4 [6, 7], tT 5 [0, 1, 2, 6, 36], tT 6 [6, 7], tT 7 [6, 8, 9], tT 8 [6, 8, 9, 54], tT 9 [6, 8, 9], tT 10 [6, 7]]
def tl15 : List (Nat × Tidy) := []
def rs15 : List AResV := [.cell 6 true 2, .tmp 7]
def p15_0_0 : PT St := pS [sl 0 (aV false [(cD (dI .i64))]), sl 1 (aV false [(cD (dI .i64))]), sl 2 (aV false [(cD (dI .i64))]), sl 6 (aV false [(cPtr 6 0)])] [eBox 6 [(cD (dI .i64)), (cD (dI .i64))]]
def u15_0_0 {β : Type} (g : St → β) : Int → Int → Int → Int → Int → β := p15_0_0.unc g
def p15_0_1 : PT St := pS [sl 0 (aV false [(cD (dI .i64))]), sl 1 (aV false [(cD (dI .i64))]), sl 2 (aV false [(cD (dI .i64))]), sl 6 (aV false [(cPtr 6 0)]), sl 22 (aV false [(cD dB)])] [eBox 6 [(cD (dI .i64)), (cD (dI .i64))]]
def u15_0_1 {β : Type} (g : St → β) : Int → Int → Int → Bool → Int → Int → β := p15_0_1.unc g
def p15_0_2 : PT St := pS [sl 6 (aV false [(cPtr 6 0)]), sl 8 (aV false [(cD (dI .i64))]), sl 9 (aV false [(cD (dI .i64))])] [eBox 6 [(cD (dI .i64)), (cD (dI .i64))]]
def u15_0_2 {β : Type} (g : St → β) : Int → Int → Int → Int → β := p15_0_2.unc g
def p15_0_3 : PT St := pS [sl 6 (aV false [(cPtr 6 0)]), sl 8 (aV false [(cD (dI .i64))]), sl 9 (aV false [(cD (dI .i64))]), sl 54 (aV false [(cD dB)])] [eBox 6 [(cD (dI .i64)), (cD (dI .i64))]]
def u15_0_3 {β : Type} (g : St → β) : Int → Int → Bool → Int → Int → β := p15_0_3.unc g
def pr15_0_0 : PT (List RV) := pRs [pR true [rD (dI .i64), rD (dI .i64)], pR false [rD (dI .i64)]]
def ur15_0_0 {β : Type} (g : List RV → β) : Int → Int → Int → β := pr15_0_0.unc g
def E15_0g (vf40_0 : Tf40_0) (vf16_0 : Tf16_0) (vf43_0 : Tf43_0) (vf44_0 : Tf44_0) : EnvK := EnvK.of [⟨40, nt40, [⟨pa40_0, Fn40_0 vf40_0⟩]⟩, ⟨16, nt16, [⟨pa16_0, Fn16_0 vf16_0⟩]⟩, ⟨43, nt43, [⟨pa43_0, Fn43_0 vf43_0⟩]⟩, ⟨44, nt44, [⟨pa44_0, Fn44_0 vf44_0⟩]⟩] noSeq
noncomputable def E15_0 : EnvK := E15_0g f40_0 f16_0 f43_0 f44_0
theorem eo15_0 : E15_0.Ok Try.prog := EnvK.of_ok noSeq_ok ⟨⟨io40_0, trivial⟩, ⟨io16_0, trivial⟩, ⟨io43_0, trivial⟩, ⟨io44_0, trivial⟩, trivial⟩
noncomputable def c15_0_23g  : MCode := (.seq (.region r15_25 [] (tO [6, 8, 9, 54])) (.cond (.tmp 54) (.region r15_27 [] (tO [6, 8, 9])) .skip))
noncomputable def c15_0_23 : MCode := c15_0_23g 
theorem g15_0_23 : c15_0_23.Good Try.prog E15_0 sh15 := ⟨trivial, ⟨trivial, trivial⟩⟩
--CODE 23 0
abbrev TJ15_0_1 : Type 1 := (α : Type) → Int → Int → (Int → Int → Option α) → (Bool → Option α) → Option α
def J15_0_1g  (α : Type) (x16 x17 : Int) (k1 : Int → Int → Option α) (k2 : Bool → Option α) : Option α :=
 cK (decide (x17 < 0))
 (k1 (w64 (0 - x16)) (w64 (0 - x17)))
 (k2 (decide (x17 < 0)))
noncomputable def J15_0_1 (α : Type) (x16 x17 : Int) (k1 : Int → Int → Option α) (k2 : Bool → Option α) : Option α := J15_0_1g  α x16 x17 k1 k2
def F15_0_1 (v : TJ15_0_1) (α : Type) (K : Exit → St → Option α) : Int → Int → Int → Int → Option α := fun x16 x17 x18 x19 => v α x16 x17 (fun (y1 : Int) (y2 : Int) => u15_0_2 (K .normal) y1 y2 x18 x19) (fun (y1 : Bool) => u15_0_3 (K .normal) x16 x17 y1 x18 x19) 
theorem m15_0_1g (vf40_0 : Tf40_0) (vf16_0 : Tf16_0) (vf43_0 : Tf43_0) (vf44_0 : Tf44_0)  (α : Type) (K : Exit → St → Option α) : F15_0_1 (J15_0_1g ) α K = p15_0_2.unc fun σ => runM Try.prog (E15_0g vf40_0 vf16_0 vf43_0 vf44_0) sh15 (c15_0_23g ) K σ := by kernel_rfl
theorem m15_0_1 : ∀ (α : Type) (K : Exit → St → Option α), F15_0_1 J15_0_1 α K = p15_0_2.unc fun σ => runM Try.prog E15_0 sh15 c15_0_23 K σ := m15_0_1g f40_0 f16_0 f43_0 f44_0
noncomputable def c15_0_4g  : MCode := (.region r15_5 [] (tO [0, 1, 2, 6, 22]))
noncomputable def c15_0_4 : MCode := c15_0_4g 
theorem g15_0_4 : c15_0_4.Good Try.prog E15_0 sh15 := trivial
--CODE 4 0
abbrev TJ15_0_0 : Type 1 := (α : Type) → Int → Int → Int → (Bool → Option α) → Option α
def J15_0_0g (vf40_0 : Tf40_0) (α : Type) (x4 x5 x6 : Int) (k1 : Bool → Option α) : Option α :=
 vf40_0 α x4
 (fun x10 => cK (!x10)
 (k1 true)
 (vf40_0 α x5
 (fun x11 => cK (!x11)
 (k1 true)
 (vf40_0 α x6
 (fun x12 => k1 (!x12))))))
noncomputable def J15_0_0 (α : Type) (x4 x5 x6 : Int) (k1 : Bool → Option α) : Option α := J15_0_0g f40_0 α x4 x5 x6 k1
def F15_0_0 (v : TJ15_0_0) (α : Type) (K : Exit → St → Option α) : Int → Int → Int → Int → Int → Option α := fun x4 x5 x6 x7 x8 => v α x4 x5 x6 (fun (y1 : Bool) => u15_0_1 (K .normal) x4 x5 x6 y1 x7 x8) 
theorem m15_0_0g (vf40_0 : Tf40_0) (vf16_0 : Tf16_0) (vf43_0 : Tf43_0) (vf44_0 : Tf44_0)  (α : Type) (K : Exit → St → Option α) : F15_0_0 (J15_0_0g vf40_0) α K = p15_0_0.unc fun σ => runM Try.prog (E15_0g vf40_0 vf16_0 vf43_0 vf44_0) sh15 (c15_0_4g ) K σ := by kernel_rfl
theorem m15_0_0 : ∀ (α : Type) (K : Exit → St → Option α), F15_0_0 J15_0_0 α K = p15_0_0.unc fun σ => runM Try.prog E15_0 sh15 c15_0_4 K σ := m15_0_0g f40_0 f16_0 f43_0 f44_0
abbrev Tf15_0 : Type 1 := (α : Type) → Int → Int → Int → (Int → Int → Int → Option α) → Option α
def f15_0g (vJ15_0_0 : TJ15_0_0) (vJ15_0_1 : TJ15_0_1) (vf16_0 : Tf16_0) (vf43_0 : Tf43_0) (vf44_0 : Tf44_0) (α : Type) (x1 x2 x3 : Int) (k1 : Int → Int → Int → Option α) : Option α :=
 vJ15_0_0 α x1 x2 x3
 (fun x13 => cK x13
 (k1 0 0 2)
 (cK (x1 == x2)
 (k1 0 0 9)
 (vf16_0 α x3 (if x2 < x1 then x2 else x1) (if x2 > x1 then x2 else x1)
 (fun x15 => cK (!x15)
 (k1 0 0 24)
 (vJ15_0_1 α (w64 (10000 * (w64 ((w64 (x3 * x3)) - (w64 (x2 * x2)))))) (w64 ((w64 (x1 * x1)) - (w64 (x2 * x2))))
 (fun x21 x22 => vf43_0 α x21 x22
 (fun x25 => vf44_0 α x21 x22
 (fun x26 => k1 x25 x26 0)))
 (fun x23 => vf43_0 α (w64 (10000 * (w64 ((w64 (x3 * x3)) - (w64 (x2 * x2)))))) (w64 ((w64 (x1 * x1)) - (w64 (x2 * x2))))
 (fun x27 => vf44_0 α (w64 (10000 * (w64 ((w64 (x3 * x3)) - (w64 (x2 * x2)))))) (w64 ((w64 (x1 * x1)) - (w64 (x2 * x2))))
 (fun x28 => k1 x27 x28 0))))))))
noncomputable def f15_0 (α : Type) (x1 x2 x3 : Int) (k1 : Int → Int → Int → Option α) : Option α := f15_0g J15_0_0 J15_0_1 f16_0 f43_0 f44_0 α x1 x2 x3 k1
def pa15_0 : PT (List DV) := pA [pV false [(dI .i64)], pV false [(dI .i64)], pV false [(dI .i64)]]
def Fn15_0 (v : Tf15_0) (α : Type) (k : List RV → Option α) : Int → Int → Int → Option α := fun x1 x2 x3 => v α x1 x2 x3 (fun (y1 : Int) (y2 : Int) (y3 : Int) => ur15_0_0 k y1 y2 y3)
noncomputable def cm15_0g (vJ15_0_0 : TJ15_0_0) (vJ15_0_1 : TJ15_0_1) : MCode := (.seq (.region r15_2 [] (tO [0, 1, 2, 6])) (.seq (.seq (.mark [⟨p15_0_0, F15_0_0 vJ15_0_0⟩] c15_0_4) (.cond (.tmp 22) (.seq (.region r15_8 [] (tO [6, 7])) .ret) .skip)) (.seq (.seq (.region r15_11 [] (tO [0, 1, 2, 6, 26])) (.cond (.tmp 26) (.seq (.region r15_14 [] (tO [6, 7])) .ret) .skip)) (.seq (.seq (.region r15_17 [] (tO [0, 1, 2, 6, 36])) (.cond (.tmp 36) (.seq (.region r15_20 [] (tO [6, 7])) .ret) .skip)) (.seq (.region r15_22 [] (tO [6, 8, 9])) (.seq (.mark [⟨p15_0_2, F15_0_1 vJ15_0_1⟩] c15_0_23) (.seq (.region r15_29 [] (tO [6, 7])) .ret)))))))
noncomputable def cm15_0 : MCode := cm15_0g J15_0_0 J15_0_1
theorem gm15_0 : cm15_0.Good Try.prog E15_0 sh15 := ⟨trivial, ⟨⟨⟨g15_0_4, m15_0_0, trivial⟩, ⟨⟨trivial, trivial⟩, trivial⟩⟩, ⟨⟨trivial, ⟨⟨trivial, trivial⟩, trivial⟩⟩, ⟨⟨trivial, ⟨⟨trivial, trivial⟩, trivial⟩⟩, ⟨trivial, ⟨⟨g15_0_23, m15_0_1, trivial⟩, ⟨trivial, trivial⟩⟩⟩⟩⟩⟩⟩
theorem fm15_0g (vf40_0 : Tf40_0) (vf16_0 : Tf16_0) (vf43_0 : Tf43_0) (vf44_0 : Tf44_0) (vJ15_0_0 : TJ15_0_0) (vJ15_0_1 : TJ15_0_1) (α : Type) (k : List RV → Option α) : Fn15_0 (f15_0g vJ15_0_0 vJ15_0_1 vf16_0 vf43_0 vf44_0) α k = pa15_0.unc fun ds => fnM Try.prog (E15_0g vf40_0 vf16_0 vf43_0 vf44_0) sh15 (cm15_0g vJ15_0_0 vJ15_0_1) rs15 k ds := by kernel_rfl
theorem fm15_0 : ∀ (α : Type) (k : List RV → Option α), Fn15_0 f15_0 α k = pa15_0.unc fun ds => fnM Try.prog E15_0 sh15 cm15_0 rs15 k ds := fm15_0g f40_0 f16_0 f43_0 f44_0 J15_0_0 J15_0_1
theorem is15 : FnIs Try.prog 15 nt15 tr15 tl15 cm15_0.erase rs15 := ⟨Try.f15, Try.func15, rfl, by kernel_rfl, by kernel_rfl, by kernel_rfl⟩
theorem io15_0 : InstOk Try.prog 15 nt15 ⟨pa15_0, Fn15_0 f15_0⟩ := inst_ok eo15_0 followsTry is15 ⟨⟨sh15, cm15_0, by kernel_rfl, gm15_0, fm15_0⟩⟩
abbrev nt14 : Nat := 89
def sh14 : List (Nat × List Sh) := []
def r14_2 : List AOper := [oO 6 (.alloc [(cI 0), (cI 0)]), oO 7 (.mv (kI 0))]
def r14_5 : List AOper := [oM 14 0, oO 15 (.call 40 [(.tmp 14)]), oO 16 (.pure (oB (.unOp .not 4 (.tmp 15)) 4)), oM 17 16, oG 18 (.mv (.tmp 1)) 17 false, oG 19 (.call 40 [(.tmp 18)]) 17 false, oG 20 (.pure (oB (.unOp .not 4 (.tmp 19)) 4)) 17 false, oO 21 (.pick (.tmp 17) (.const (.bool true)) (.tmp 20)), oM 22 21, oG 23 (.mv (.tmp 2)) 22 false, oG 24 (.call 16 [(.tmp 23), (kI 0), (kI 10000)]) 22 false, oG 25 (.pure (oB (.unOp .not 4 (.tmp 24)) 4)) 22 false, oO 26 (.pick (.tmp 22) (.const (.bool true)) (.tmp 25))]
def r14_8 : List AOper := [oO 27 (.build [(cI 0), (cI 0)] []), oD (.store 2 (.tmp 6) (.tmp 27)), oO 7 (.mv (kI 2))]
def r14_10 : List AOper := [oM 28 2, oM 29 0, oO 30 (.bin .mul 3 (.tmp 28) (.tmp 29)), oM 31 0, oO 32 (.bin .mul 3 (.tmp 30) (.tmp 31)), oM 33 2, oO 34 (.bin .sub 3 (kI 10000) (.tmp 33)), oM 35 1, oO 36 (.bin .mul 3 (.tmp 34) (.tmp 35)), oM 37 1, oO 38 (.bin .mul 3 (.tmp 36) (.tmp 37)), oO 39 (.bin .add 3 (.tmp 32) (.tmp 38)), oM 8 39]
def r14_12 : List AOper := [oM 40 2, oM 41 1, oO 42 (.bin .mul 3 (.tmp 40) (.tmp 41)), oM 43 1, oO 44 (.bin .mul 3 (.tmp 42) (.tmp 43)), oM 45 2, oO 46 (.bin .sub 3 (kI 10000) (.tmp 45)), oM 47 0, oO 48 (.bin .mul 3 (.tmp 46) (.tmp 47)), oM 49 0, oO 50 (.bin .mul 3 (.tmp 48) (.tmp 49)), oO 51 (.bin .add 3 (.tmp 44) (.tmp 50)), oM 9 51]
def r14_14 : List AOper := [oO 10 (.mv (kI 0)), oO 11 (.mv (kI 80001))]
def td14_17 : Option Tidy := (tO [0, 1, 6, 8, 9, 10, 11])
def r14_20 : List AOper := [oM 52 11, oM 53 10, oO 54 (.bin .sub 3 (.tmp 52) (.tmp 53)), oO 55 (.bin .gtr 3 (.tmp 54) (kI 1))]
def r14_24 : List AOper := [oM 56 10, oM 57 11, oO 58 (.bin .add 3 (.tmp 56) (.tmp 57)), oO 59 (.bin .quo 3 (.tmp 58) (kI 2)), oM 12 59]
def r14_26 : List AOper := [oM 60 12, oM 61 12, oO 62 (.bin .mul 3 (.tmp 60) (.tmp 61)), oM 63 1, oM 64 1, oO 65 (.bin .mul 3 (.tmp 63) (.tmp 64)), oM 66 0, oO 67 (.bin .mul 3 (kI 10000) (.tmp 66)), oM 68 0, oO 69 (.bin .mul 3 (.tmp 67) (.tmp 68)), oM 70 9, oO 71 (.call 41 [(.tmp 62), (.tmp 65), (.tmp 69), (.tmp 70)]), oO 72 (.bin .leq 3 (.tmp 71) (kI 0))]
def r14_28 : List AOper := [oM 73 12, oM 10 73]
def r14_29 : List AOper := [oM 74 12, oM 11 74]
def r14_31 : List AOper := [oM 75 8, oO 76 (.call 43 [(.tmp 75), (kI 10000)]), oO 77 (.call 42 [(.tmp 76)]), oM 13 77]
def r14_34 : List AOper := [oM 78 13, oM 79 13, oO 80 (.bin .mul 3 (.tmp 78) (.tmp 79)), oO 81 (.bin .mul 3 (.tmp 80) (kI 10000)), oM 82 8, oO 83 (.bin .lss 3 (.tmp 81) (.tmp 82))]
def r14_36 : List AOper := [oM 84 13, oO 85 (.bin .add 3 (.tmp 84) (kI 1)), oM 13 85]
def r14_38 : List AOper := [oM 86 10, oM 87 13, oO 88 (.build [(cI 0), (cI 0)] [(0, 1, (.tmp 86)), (1, 1, (.tmp 87))]), oD (.store 2 (.tmp 6) (.tmp 88)), oO 7 (.mv (kI 0))]
def tr14 : List (Nat × Tidy) := [tT 0 [0, 1, 2, 6], tT 1 [0, 1, 2, 6, 26], tT 2 [6, 7], tT 3 [0, 1, 2, 6, 8], tT 4 [0, 1, 6, 8, 9], tT 5 [0, 1, 6, 8, 9, 10, 11], tT 6 [0, 1, 6, 8, 9, 10, 11, 55], tT 7 [0, 1, 6, 8, 9, 10, 11, 12], tT 8 [0, 1, 6, 8, 9, 10, 11, 12, 72], tT 9 [0, 1, 6, 8, 9, 10, 11], tT 10 [0, 1, 6, 8, 9, 10, 11], tT 11 [6, 8, 10, 13], tT 12 [6, 10, 13, 83], tT 13 [6, 10, 13], tT 14 [6, 7]]
def tl14 : List (Nat × Tidy) := [tT 6 [0, 1, 6, 8, 9, 10, 11]]
def rs14 : List AResV := [.cell 6 true 2, .tmp 7]
def p14_0_0 : PT St := pS [sl 0 (aV false [(cD (dI .i64))]), sl 1 (aV false [(cD (dI .i64))]), sl 2 (aV false [(cD (dI .i64))]), sl 6 (aV false [(cPtr 6 0)])] [eBox 6 [(cD (dI .i64)), (cD (dI .i64))]]
def u14_0_0 {β : Type} (g : St → β) : Int → Int → Int → Int → Int → β := p14_0_0.unc g
def p14_0_1 : PT St := pS [sl 0 (aV false [(cD (dI .i64))]), sl 1 (aV false [(cD (dI .i64))]), sl 2 (aV false [(cD (dI .i64))]), sl 6 (aV false [(cPtr 6 0)]), sl 26 (aV false [(cD dB)])] [eBox 6 [(cD (dI .i64)), (cD (dI .i64))]]
def u14_0_1 {β : Type} (g : St → β) : Int → Int → Int → Bool → Int → Int → β := p14_0_1.unc g
def p14_0_2 : PT St := pS [sl 0 (aV false [(cD (dI .i64))]), sl 1 (aV false [(cD (dI .i64))]), sl 6 (aV false [(cPtr 6 0)]), sl 8 (aV false [(cD (dI .i64))]), sl 9 (aV false [(cD (dI .i64))]), sl 10 (aV false [(cD (dI .i64))]), sl 11 (aV false [(cD (dI .i64))])] [eBox 6 [(cD (dI .i64)), (cD (dI .i64))]]
def u14_0_2 {β : Type} (g : St → β) : Int → Int → Int → Int → Int → Int → Int → Int → β := p14_0_2.unc g
def p14_0_3 : PT St := pS [sl 0 (aV false [(cD (dI .i64))]), sl 1 (aV false [(cD (dI .i64))]), sl 6 (aV false [(cPtr 6 0)]), sl 8 (aV false [(cD (dI .i64))]), sl 9 (aV false [(cD (dI .i64))]), sl 10 (aV false [(cD (dI .i64))]), sl 11 (aV false [(cD (dI .i64))]), sl 55 (aV false [(cD dB)])] [eBox 6 [(cD (dI .i64)), (cD (dI .i64))]]
def u14_0_3 {β : Type} (g : St → β) : Int → Int → Int → Int → Int → Int → Bool → Int → Int → β := p14_0_3.unc g
def pr14_0_0 : PT (List RV) := pRs [pR true [rD (dI .i64), rD (dI .i64)], pR false [rD (dI .i64)]]
def ur14_0_0 {β : Type} (g : List RV → β) : Int → Int → Int → β := pr14_0_0.unc g
def E14_0g (vf40_0 : Tf40_0) (vf16_0 : Tf16_0) (vf41_0 : Tf41_0) (vf43_0 : Tf43_0) (vf42_0 : Tf42_0) : EnvK := EnvK.of [⟨40, nt40, [⟨pa40_0, Fn40_0 vf40_0⟩]⟩, ⟨16, nt16, [⟨pa16_0, Fn16_0 vf16_0⟩]⟩, ⟨41, nt41, [⟨pa41_0, Fn41_0 vf41_0⟩]⟩, ⟨43, nt43, [⟨pa43_0, Fn43_0 vf43_0⟩]⟩, ⟨42, nt42, [⟨pa42_0, Fn42_0 vf42_0⟩]⟩] noSeq
noncomputable def E14_0 : EnvK := E14_0g f40_0 f16_0 f41_0 f43_0 f42_0
theorem eo14_0 : E14_0.Ok Try.prog := EnvK.of_ok noSeq_ok ⟨⟨io40_0, trivial⟩, ⟨io16_0, trivial⟩, ⟨io41_0, trivial⟩, ⟨io43_0, trivial⟩, ⟨io42_0, trivial⟩, trivial⟩
noncomputable def c14_0_17g  : MCode := (.seq (.seq (.region r14_20 [] (tO [0, 1, 6, 8, 9, 10, 11, 55])) (.cond (.tmp 55) .skip (.exit 0))) (.block 1 (.seq (.region r14_24 [] (tO [0, 1, 6, 8, 9, 10, 11, 12])) (.seq (.region r14_26 [] (tO [0, 1, 6, 8, 9, 10, 11, 12, 72])) (.cond (.tmp 72) (.region r14_28 [] (tO [0, 1, 6, 8, 9, 10, 11])) (.region r14_29 [] (tO [0, 1, 6, 8, 9, 10, 11])))))))
noncomputable def c14_0_17 : MCode := c14_0_17g 
theorem g14_0_17 : c14_0_17.Good Try.prog E14_0 sh14 := ⟨⟨trivial, ⟨trivial, trivial⟩⟩, ⟨trivial, ⟨trivial, ⟨trivial, trivial⟩⟩⟩⟩
--CODE 17 0
def S14_0_1g (vf41_0 : Tf41_0) (α : Type) (x15 x16 x18 x19 x20 : Int) (kn : Int → Int → Option α) (k1 : Int → Int → Bool → Option α) : Option α :=
 cK (decide (1 < (w64 (x20 - x19))))
 (vf41_0 α (w64 ((w64 (Int.tdiv (w64 (x19 + x20)) 2)) * (w64 (Int.tdiv (w64 (x19 + x20)) 2)))) (w64 (x16 * x16)) (w64 ((w64 (10000 * x15)) * x15)) x18
 (fun x24 => cK (decide (x24 ≤ 0))
 (kn (w64 (Int.tdiv (w64 (x19 + x20)) 2)) x20)
 (kn x19 (w64 (Int.tdiv (w64 (x19 + x20)) 2)))))
 (k1 x19 x20 (decide (1 < (w64 (x20 - x19)))))
noncomputable def S14_0_1 (α : Type) (x15 x16 x18 x19 x20 : Int) (kn : Int → Int → Option α) (k1 : Int → Int → Bool → Option α) : Option α := S14_0_1g f41_0 α x15 x16 x18 x19 x20 kn k1
noncomputable def R14_0_1 (α : Type) (x15 x16 x18 : Int) (k1 : Int → Int → Bool → Option α) : Nat → Int → Int → Option α
 | 0, _, _ => none
 | n + 1, x19, x20 => S14_0_1 α x15 x16 x18 x19 x20 (R14_0_1 α x15 x16 x18 k1 n) k1
noncomputable def L14_0_1 (α : Type) (x15 x16 x18 : Int) (k1 : Int → Int → Bool → Option α) (x19 x20 : Int) : Option α := R14_0_1 α x15 x16 x18 k1 fuel x19 x20
abbrev TL14_0_1 : Type 1 := (α : Type) → Int → Int → Int → (Int → Int → Bool → Option α) → Int → Int → Option α
def F14_0_1 (v : TL14_0_1) (α : Type) (K : Exit → St → Option α) : Int → Int → Int → Int → Int → Int → Int → Int → Option α := fun x15 x16 x17 x18 x19 x20 x21 x22 => v α x15 x16 x18 (fun (y1 : Int) (y2 : Int) (y3 : Bool) => u14_0_3 (K (.exit 0)) x15 x16 x17 x18 y1 y2 y3 x21 x22) x19 x20
theorem r14_0_1g (vf40_0 : Tf40_0) (vf16_0 : Tf16_0) (vf41_0 : Tf41_0) (vf43_0 : Tf43_0) (vf42_0 : Tf42_0)  (α : Type) (K : Exit → St → Option α) (Kn : St → Option α) (x15 x16 x17 x18 x19 x20 x21 x22 : Int) : u14_0_2 (fun σ => runM Try.prog (E14_0g vf40_0 vf16_0 vf41_0 vf43_0 vf42_0) sh14 (c14_0_17g ) (thenK (fun σ => tidyK td14_17 σ Kn) K) σ) x15 x16 x17 x18 x19 x20 x21 x22 = S14_0_1g vf41_0 α x15 x16 x18 x19 x20 (fun x19 x20 => u14_0_2 Kn x15 x16 x17 x18 x19 x20 x21 x22) (fun (y1 : Int) (y2 : Int) (y3 : Bool) => u14_0_3 (K (.exit 0)) x15 x16 x17 x18 y1 y2 y3 x21 x22) := by kernel_rfl
theorem r14_0_1 (α : Type) (K : Exit → St → Option α) (Kn : St → Option α) (x15 x16 x17 x18 x19 x20 x21 x22 : Int) : u14_0_2 (fun σ => runM Try.prog E14_0 sh14 c14_0_17 (thenK (fun σ => tidyK td14_17 σ Kn) K) σ) x15 x16 x17 x18 x19 x20 x21 x22 = S14_0_1 α x15 x16 x18 x19 x20 (fun x19 x20 => u14_0_2 Kn x15 x16 x17 x18 x19 x20 x21 x22) (fun (y1 : Int) (y2 : Int) (y3 : Bool) => u14_0_3 (K (.exit 0)) x15 x16 x17 x18 y1 y2 y3 x21 x22) := r14_0_1g f40_0 f16_0 f41_0 f43_0 f42_0 α K Kn x15 x16 x17 x18 x19 x20 x21 x22
theorem t14_0_1 (α : Type) (K : Exit → St → Option α) : ∀ (n : Nat) (x15 x16 x17 x18 x19 x20 x21 x22 : Int), R14_0_1 α x15 x16 x18 (fun (y1 : Int) (y2 : Int) (y3 : Bool) => u14_0_3 (K (.exit 0)) x15 x16 x17 x18 y1 y2 y3 x21 x22) n x19 x20 = u14_0_2 (loopT (runM Try.prog E14_0 sh14 c14_0_17) td14_17 K n) x15 x16 x17 x18 x19 x20 x21 x22 := by
 intro n
 induction n with
 | zero => intros; rfl
 | succ n ih => intro x15 x16 x17 x18 x19 x20 x21 x22; exact (congrArg (fun kn => S14_0_1 α x15 x16 x18 x19 x20 kn (fun (y1 : Int) (y2 : Int) (y3 : Bool) => u14_0_3 (K (.exit 0)) x15 x16 x17 x18 y1 y2 y3 x21 x22)) (funext fun x19 => funext fun x20 => ih x15 x16 x17 x18 x19 x20 x21 x22)).trans (r14_0_1 α K (loopT (runM Try.prog E14_0 sh14 c14_0_17) td14_17 K n) x15 x16 x17 x18 x19 x20 x21 x22).symm
theorem m14_0_1 : ∀ (α : Type) (K : Exit → St → Option α), F14_0_1 L14_0_1 α K = p14_0_2.unc fun σ => loopT (runM Try.prog E14_0 sh14 c14_0_17) td14_17 K fuel σ := fun α K => funext fun x15 => funext fun x16 => funext fun x17 => funext fun x18 => funext fun x19 => funext fun x20 => funext fun x21 => funext fun x22 => t14_0_1 α K fuel x15 x16 x17 x18 x19 x20 x21 x22
noncomputable def c14_0_4g  : MCode := (.region r14_5 [] (tO [0, 1, 2, 6, 26]))
noncomputable def c14_0_4 : MCode := c14_0_4g 
theorem g14_0_4 : c14_0_4.Good Try.prog E14_0 sh14 := trivial
--CODE 4 0
abbrev TJ14_0_0 : Type 1 := (α : Type) → Int → Int → Int → (Bool → Option α) → Option α
def J14_0_0g (vf16_0 : Tf16_0) (vf40_0 : Tf40_0) (α : Type) (x4 x5 x6 : Int) (k1 : Bool → Option α) : Option α :=
 vf40_0 α x4
 (fun x10 => cK (!x10)
 (k1 true)
 (vf40_0 α x5
 (fun x11 => cK (!x11)
 (k1 true)
 (vf16_0 α x6 0 10000
 (fun x12 => k1 (!x12))))))
noncomputable def J14_0_0 (α : Type) (x4 x5 x6 : Int) (k1 : Bool → Option α) : Option α := J14_0_0g f16_0 f40_0 α x4 x5 x6 k1
def F14_0_0 (v : TJ14_0_0) (α : Type) (K : Exit → St → Option α) : Int → Int → Int → Int → Int → Option α := fun x4 x5 x6 x7 x8 => v α x4 x5 x6 (fun (y1 : Bool) => u14_0_1 (K .normal) x4 x5 x6 y1 x7 x8) 
theorem m14_0_0g (vf40_0 : Tf40_0) (vf16_0 : Tf16_0) (vf41_0 : Tf41_0) (vf43_0 : Tf43_0) (vf42_0 : Tf42_0)  (α : Type) (K : Exit → St → Option α) : F14_0_0 (J14_0_0g vf16_0 vf40_0) α K = p14_0_0.unc fun σ => runM Try.prog (E14_0g vf40_0 vf16_0 vf41_0 vf43_0 vf42_0) sh14 (c14_0_4g ) K σ := by kernel_rfl
theorem m14_0_0 : ∀ (α : Type) (K : Exit → St → Option α), F14_0_0 J14_0_0 α K = p14_0_0.unc fun σ => runM Try.prog E14_0 sh14 c14_0_4 K σ := m14_0_0g f40_0 f16_0 f41_0 f43_0 f42_0
abbrev Tf14_0 : Type 1 := (α : Type) → Int → Int → Int → (Int → Int → Int → Option α) → Option α
def f14_0g (vJ14_0_0 : TJ14_0_0) (vL14_0_1 : TL14_0_1) (vf42_0 : Tf42_0) (vf43_0 : Tf43_0) (α : Type) (x1 x2 x3 : Int) (k1 : Int → Int → Int → Option α) : Option α :=
 vJ14_0_0 α x1 x2 x3
 (fun x13 => cK x13
 (k1 0 0 2)
 (vL14_0_1 α x1 x2 (w64 ((w64 ((w64 (x3 * x2)) * x2)) + (w64 ((w64 ((w64 (10000 - x3)) * x1)) * x1))))
 (fun x25 x26 x27 => vf43_0 α (w64 ((w64 ((w64 (x3 * x1)) * x1)) + (w64 ((w64 ((w64 (10000 - x3)) * x2)) * x2)))) 10000
 (fun x29 => vf42_0 α x29
 (fun x30 => cK (decide ((w64 ((w64 (x30 * x30)) * 10000)) < (w64 ((w64 ((w64 (x3 * x1)) * x1)) + (w64 ((w64 ((w64 (10000 - x3)) * x2)) * x2))))))
 (k1 x25 (w64 (x30 + 1)) 0)
 (k1 x25 x30 0)))) 0 80001))
noncomputable def f14_0 (α : Type) (x1 x2 x3 : Int) (k1 : Int → Int → Int → Option α) : Option α := f14_0g J14_0_0 L14_0_1 f42_0 f43_0 α x1 x2 x3 k1
def pa14_0 : PT (List DV) := pA [pV false [(dI .i64)], pV false [(dI .i64)], pV false [(dI .i64)]]
def Fn14_0 (v : Tf14_0) (α : Type) (k : List RV → Option α) : Int → Int → Int → Option α := fun x1 x2 x3 => v α x1 x2 x3 (fun (y1 : Int) (y2 : Int) (y3 : Int) => ur14_0_0 k y1 y2 y3)
noncomputable def cm14_0g (vJ14_0_0 : TJ14_0_0) (vL14_0_1 : TL14_0_1) : MCode := (.seq (.region r14_2 [] (tO [0, 1, 2, 6])) (.seq (.seq (.mark [⟨p14_0_0, F14_0_0 vJ14_0_0⟩] c14_0_4) (.cond (.tmp 26) (.seq (.region r14_8 [] (tO [6, 7])) .ret) .skip)) (.seq (.region r14_10 [] (tO [0, 1, 2, 6, 8])) (.seq (.region r14_12 [] (tO [0, 1, 6, 8, 9])) (.seq (.region r14_14 [] (tO [0, 1, 6, 8, 9, 10, 11])) (.seq (.block 0 (.loop td14_17 [⟨p14_0_2, F14_0_1 vL14_0_1⟩] c14_0_17)) (.seq (.region r14_31 [] (tO [6, 8, 10, 13])) (.seq (.seq (.region r14_34 [] (tO [6, 10, 13, 83])) (.cond (.tmp 83) (.region r14_36 [] (tO [6, 10, 13])) .skip)) (.seq (.region r14_38 [] (tO [6, 7])) .ret)))))))))
noncomputable def cm14_0 : MCode := cm14_0g J14_0_0 L14_0_1
theorem gm14_0 : cm14_0.Good Try.prog E14_0 sh14 := ⟨trivial, ⟨⟨⟨g14_0_4, m14_0_0, trivial⟩, ⟨⟨trivial, trivial⟩, trivial⟩⟩, ⟨trivial, ⟨trivial, ⟨trivial, ⟨⟨g14_0_17, m14_0_1, trivial⟩, ⟨trivial, ⟨⟨trivial, ⟨trivial, trivial⟩⟩, ⟨trivial, trivial⟩⟩⟩⟩⟩⟩⟩⟩⟩
theorem fm14_0g (vf40_0 : Tf40_0) (vf16_0 : Tf16_0) (vf41_0 : Tf41_0) (vf43_0 : Tf43_0) (vf42_0 : Tf42_0) (vJ14_0_0 : TJ14_0_0) (vL14_0_1 : TL14_0_1) (α : Type) (k : List RV → Option α) : Fn14_0 (f14_0g vJ14_0_0 vL14_0_1 vf42_0 vf43_0) α k = pa14_0.unc fun ds => fnM Try.prog (E14_0g vf40_0 vf16_0 vf41_0 vf43_0 vf42_0) sh14 (cm14_0g vJ14_0_0 vL14_0_1) rs14 k ds := by kernel_rfl
theorem fm14_0 : ∀ (α : Type) (k : List RV → Option α), Fn14_0 f14_0 α k = pa14_0.unc fun ds => fnM Try.prog E14_0 sh14 cm14_0 rs14 k ds := fm14_0g f40_0 f16_0 f41_0 f43_0 f42_0 J14_0_0 L14_0_1
theorem is14 : FnIs Try.prog 14 nt14 tr14 tl14 cm14_0.erase rs14 := ⟨Try.f14, Try.func14, rfl, by kernel_rfl, by kernel_rfl, by kernel_rfl⟩
theorem io14_0 : InstOk Try.prog 14 nt14 ⟨pa14_0, Fn14_0 f14_0⟩ := inst_ok eo14_0 followsTry is14 ⟨⟨sh14, cm14_0, by kernel_rfl, gm14_0, fm14_0⟩⟩
abbrev nt39 : Nat := 8
def sh39 : List (Nat × List Sh) := [(3, [.int .i64, .int .i64]), (5, [.int .i64, .int .i64])]
def r39_2 : List AOper := [oO 1 (.box (.tmp 0)), oO 2 (.alloc [(cI 0), (cI 0)])]
def r39_4 : List AOper := [oO 3 (.load true 2 (.tmp 1)), oO 4 (.call 61 [(.tmp 3)]), oO 5 (.load true 2 (.tmp 1)), oO 6 (.call 62 [(.tmp 5)]), oO 7 (.build [(cI 0), (cI 0)] [(0, 1, (.tmp 4)), (1, 1, (.tmp 6))]), oD (.store 2 (.tmp 2) (.tmp 7))]
def tr39 : List (Nat × Tidy) := [tT 0 [1, 2], tT 1 [2]]
def tl39 : List (Nat × Tidy) := []
def rs39 : List AResV := [.cell 2 true 2]
def pr39_0_0 : PT (List RV) := pRs [pR true [rD (dI .i64), rD (dI .i64)]]
def ur39_0_0 {β : Type} (g : List RV → β) : Int → Int → β := pr39_0_0.unc g
def E39_0g (vf61_0 : Tf61_0) (vf62_0 : Tf62_0) : EnvK := EnvK.of [⟨61, nt61, [⟨pa61_0, Fn61_0 vf61_0⟩]⟩, ⟨62, nt62, [⟨pa62_0, Fn62_0 vf62_0⟩]⟩] noSeq
noncomputable def E39_0 : EnvK := E39_0g f61_0 f62_0
theorem eo39_0 : E39_0.Ok Try.prog := EnvK.of_ok noSeq_ok ⟨⟨io61_0, trivial⟩, ⟨io62_0, trivial⟩, trivial⟩
abbrev Tf39_0 : Type 1 := (α : Type) → Int → Int → (Int → Int → Option α) → Option α
def f39_0g (vf61_0 : Tf61_0) (vf62_0 : Tf62_0) (α : Type) (x1 x2 : Int) (k1 : Int → Int → Option α) : Option α :=
 vf61_0 α x1 x2
 (fun x3 => vf62_0 α x1 x2
 (fun x4 => k1 x3 x4))
noncomputable def f39_0 (α : Type) (x1 x2 : Int) (k1 : Int → Int → Option α) : Option α := f39_0g f61_0 f62_0 α x1 x2 k1
def pa39_0 : PT (List DV) := pA [pV true [(dI .i64), (dI .i64)]]
def Fn39_0 (v : Tf39_0) (α : Type) (k : List RV → Option α) : Int → Int → Option α := fun x1 x2 => v α x1 x2 (fun (y1 : Int) (y2 : Int) => ur39_0_0 k y1 y2)
noncomputable def cm39_0g  : MCode := (.seq (.region r39_2 [] (tO [1, 2])) (.seq (.region r39_4 [(1, 2)] (tO [2])) .ret))
noncomputable def cm39_0 : MCode := cm39_0g 
theorem gm39_0 : cm39_0.Good Try.prog E39_0 sh39 := ⟨trivial, ⟨trivial, trivial⟩⟩
theorem fm39_0g (vf61_0 : Tf61_0) (vf62_0 : Tf62_0)  (α : Type) (k : List RV → Option α) : Fn39_0 (f39_0g vf61_0 vf62_0) α k = pa39_0.unc fun ds => fnM Try.prog (E39_0g vf61_0 vf62_0) sh39 (cm39_0g ) rs39 k ds := by kernel_rfl
theorem fm39_0 : ∀ (α : Type) (k : List RV → Option α), Fn39_0 f39_0 α k = pa39_0.unc fun ds => fnM Try.prog E39_0 sh39 cm39_0 rs39 k ds := fm39_0g f61_0 f62_0
theorem is39 : FnIs Try.prog 39 nt39 tr39 tl39 cm39_0.erase rs39 := ⟨Try.f39, Try.func39, rfl, by kernel_rfl, by kernel_rfl, by kernel_rfl⟩
theorem io39_0 : InstOk Try.prog 39 nt39 ⟨pa39_0, Fn39_0 f39_0⟩ := inst_ok eo39_0 followsTry is39 ⟨⟨sh39, cm39_0, by kernel_rfl, gm39_0, fm39_0⟩⟩
abbrev nt37 : Nat := 37
def sh37 : List (Nat × List Sh) := []
def r37_2 : List AOper := [oO 8 (.mv (kI 0))]
def r37_4 : List AOper := [oM 14 0, oO 15 (.pure (oB (.convert 3 96 (.tmp 14)) 96)), oM 16 1, oO 17 (.pure (oB (.convert 3 96 (.tmp 16)) 96)), oO 18 (.call 58 [(.tmp 15), (.tmp 17)]), oM 13 18, oO 19 (.extract 0 (.tmp 13)), oO 20 (.extract 1 (.tmp 13)), oM 9 19, oM 10 20]
def r37_6 : List AOper := [oM 22 2, oO 23 (.pure (oB (.convert 3 96 (.tmp 22)) 96)), oM 24 3, oO 25 (.pure (oB (.convert 3 96 (.tmp 24)) 96)), oO 26 (.call 58 [(.tmp 23), (.tmp 25)]), oM 21 26, oO 27 (.extract 0 (.tmp 21)), oO 28 (.extract 1 (.tmp 21)), oM 11 27, oM 12 28]
def r37_8 : List AOper := [oM 29 9, oM 30 11, oO 31 (.call 60 [(.tmp 29), (.tmp 30)]), oM 32 10, oM 33 12, oO 34 (.call 60 [(.tmp 32), (.tmp 33)]), oO 35 (.bslice 1 2 [(.v (.int .i64 0))] [(0, (.tmp 31)), (1, (.tmp 34))]), oO 36 (.call 59 [(.tmp 35)]), oM 8 36]
def tr37 : List (Nat × Tidy) := [tT 0 [0, 1, 2, 3], tT 1 [2, 3, 9, 10], tT 2 [9, 10, 11, 12], tT 3 [8]]
def tl37 : List (Nat × Tidy) := []
def rs37 : List AResV := [.tmp 8]
def pr37_0_0 : PT (List RV) := pRs [pR false [rD (dI .i64)]]
def ur37_0_0 {β : Type} (g : List RV → β) : Int → β := pr37_0_0.unc g
def E37_0g (vf58_0 : Tf58_0) (vf60_0 : Tf60_0) (vf59_0 : Tf59_0) : EnvK := EnvK.of [⟨58, nt58, [⟨pa58_0, Fn58_0 vf58_0⟩]⟩, ⟨60, nt60, [⟨pa60_0, Fn60_0 vf60_0⟩]⟩, ⟨59, nt59, [⟨pa59_0, Fn59_0 vf59_0⟩]⟩] noSeq
noncomputable def E37_0 : EnvK := E37_0g f58_0 f60_0 f59_0
theorem eo37_0 : E37_0.Ok Try.prog := EnvK.of_ok noSeq_ok ⟨⟨io58_0, trivial⟩, ⟨io60_0, trivial⟩, ⟨io59_0, trivial⟩, trivial⟩
abbrev Tf37_0 : Type 1 := (α : Type) → Int → Int → Int → Int → (Int → Option α) → Option α
def f37_0g (vf58_0 : Tf58_0) (vf59_0 : Tf59_0) (vf60_0 : Tf60_0) (α : Type) (x1 x2 x3 x4 : Int) (k1 : Int → Option α) : Option α :=
 vf58_0 α (IntKind.wrap .u64 (x1)) (IntKind.wrap .u64 (x2))
 (fun x5 x6 => vf58_0 α (IntKind.wrap .u64 (x3)) (IntKind.wrap .u64 (x4))
 (fun x7 x8 => vf60_0 α x5 x7
 (fun x9 => vf60_0 α x6 x8
 (fun x10 => vf59_0 α [[DC.v (.int .i64 x9)], [DC.v (.int .i64 x10)]]
 (fun x11 => k1 x11)))))
noncomputable def f37_0 (α : Type) (x1 x2 x3 x4 : Int) (k1 : Int → Option α) : Option α := f37_0g f58_0 f59_0 f60_0 α x1 x2 x3 x4 k1
def pa37_0 : PT (List DV) := pA [pV false [(dI .i64)], pV false [(dI .i64)], pV false [(dI .i64)], pV false [(dI .i64)]]
def Fn37_0 (v : Tf37_0) (α : Type) (k : List RV → Option α) : Int → Int → Int → Int → Option α := fun x1 x2 x3 x4 => v α x1 x2 x3 x4 (fun (y1 : Int) => ur37_0_0 k y1)
noncomputable def cm37_0g  : MCode := (.seq (.region r37_2 [] (tO [0, 1, 2, 3])) (.seq (.region r37_4 [] (tO [2, 3, 9, 10])) (.seq (.region r37_6 [] (tO [9, 10, 11, 12])) (.seq (.region r37_8 [] (tO [8])) .ret))))
noncomputable def cm37_0 : MCode := cm37_0g 
theorem gm37_0 : cm37_0.Good Try.prog E37_0 sh37 := ⟨trivial, ⟨trivial, ⟨trivial, ⟨trivial, trivial⟩⟩⟩⟩
theorem fm37_0g (vf58_0 : Tf58_0) (vf60_0 : Tf60_0) (vf59_0 : Tf59_0)  (α : Type) (k : List RV → Option α) : Fn37_0 (f37_0g vf58_0 vf59_0 vf60_0) α k = pa37_0.unc fun ds => fnM Try.prog (E37_0g vf58_0 vf60_0 vf59_0) sh37 (cm37_0g ) rs37 k ds := by kernel_rfl
theorem fm37_0 : ∀ (α : Type) (k : List RV → Option α), Fn37_0 f37_0 α k = pa37_0.unc fun ds => fnM Try.prog E37_0 sh37 cm37_0 rs37 k ds := fm37_0g f58_0 f60_0 f59_0
theorem is37 : FnIs Try.prog 37 nt37 tr37 tl37 cm37_0.erase rs37 := ⟨Try.f37, Try.func37, rfl, by kernel_rfl, by kernel_rfl, by kernel_rfl⟩
theorem io37_0 : InstOk Try.prog 37 nt37 ⟨pa37_0, Fn37_0 f37_0⟩ := inst_ok eo37_0 followsTry is37 ⟨⟨sh37, cm37_0, by kernel_rfl, gm37_0, fm37_0⟩⟩
abbrev nt33 : Nat := 15
def sh33 : List (Nat × List Sh) := [(9, [.int .i64]), (10, [.int .i64])]
def r33_2 : List AOper := [oO 2 (.mv (kI 0))]
def r33_5 : List AOper := [oM 5 0, oO 6 (.len (.tmp 5)), oO 7 (.mv (kI 0))]
def td33_7 : Option Tidy := (some ⟨[5, 6, 7], true, [⟨false, 5, 0, 20005, 1⟩], []⟩)
def r33_9 : List AOper := [oO 8 (.bin .lss 3 (.tmp 7) (.tmp 6))]
def r33_15 : List AOper := [oO 9 (.iaddr 1 none (.tmp 5) (.tmp 7)), oO 10 (.load false 1 (.tmp 9)), oM 4 10]
def r33_17 : List AOper := [oM 11 4, oO 12 (.call 57 [(.tmp 11)]), oO 13 (.pure (oB (.unOp .not 4 (.tmp 12)) 4))]
def r33_20 : List AOper := [oO 2 (.mv (kI 2))]
def r33_21 : List AOper := [oO 14 (.bin .add 3 (.tmp 7) (kI 1)), oM 7 14]
def r33_23 : List AOper := [oO 2 (.mv (kI 0))]
def tr33 : List (Nat × Tidy) := [tT 0 [0], tT 1 [5, 6, 7], tT 2 [5, 6, 7, 8], tT 3 [4, 5, 6, 7], tT 4 [5, 6, 7, 13], tT 5 [2], tT 6 [5, 6, 7], tT 7 [2]]
def tl33 : List (Nat × Tidy) := [(2, ⟨[5, 6, 7], true, [⟨false, 5, 0, 20005, 1⟩], []⟩)]
def rs33 : List AResV := [.tmp 2]
def p33_0_0 : PT St := pS [sl 5 (aV false [(cD dL)]), sl 6 (aV false [(cD (dI .i64))]), sl 7 (aV false [(cD (dI .i64))])] []
def u33_0_0 {β : Type} (g : St → β) : Rows → Int → Int → β := p33_0_0.unc g
def p33_0_1 : PT St := pS [sl 2 (aV false [(cD (dI .i64))])] []
def u33_0_1 {β : Type} (g : St → β) : Int → β := p33_0_1.unc g
def p33_0_2 : PT St := pS [sl 5 (aV false [(cD dL)]), sl 6 (aV false [(cD (dI .i64))]), sl 7 (aV false [(cD (dI .i64))]), sl 8 (aV false [(cD dB)])] []
def u33_0_2 {β : Type} (g : St → β) : Rows → Int → Int → Bool → β := p33_0_2.unc g
def pr33_0_0 : PT (List RV) := pRs [pR false [rD (dI .i64)]]
def ur33_0_0 {β : Type} (g : List RV → β) : Int → β := pr33_0_0.unc g
def E33_0g (vf57_0 : Tf57_0) : EnvK := EnvK.of [⟨57, nt57, [⟨pa57_0, Fn57_0 vf57_0⟩]⟩] noSeq
noncomputable def E33_0 : EnvK := E33_0g f57_0
theorem eo33_0 : E33_0.Ok Try.prog := EnvK.of_ok noSeq_ok ⟨⟨io57_0, trivial⟩, trivial⟩
noncomputable def c33_0_7g  : MCode := (.seq (.region r33_9 [] (tO [5, 6, 7, 8])) (.seq (.cond (.tmp 8) .skip (.exit 0)) (.seq (.block 1 (.seq (.region r33_15 [] (tO [4, 5, 6, 7])) (.seq (.region r33_17 [] (tO [5, 6, 7, 13])) (.cond (.tmp 13) (.seq (.region r33_20 [] (tO [2])) .ret) .skip)))) (.region r33_21 [] (tO [5, 6, 7])))))
noncomputable def c33_0_7 : MCode := c33_0_7g 
theorem g33_0_7 : c33_0_7.Good Try.prog E33_0 sh33 := ⟨trivial, ⟨⟨trivial, trivial⟩, ⟨⟨trivial, ⟨trivial, ⟨⟨trivial, trivial⟩, trivial⟩⟩⟩, trivial⟩⟩⟩
--CODE 7 0
def S33_0_0g (vf57_0 : Tf57_0) (α : Type) (x2 : Rows) (x3 x4 : Int) (kn : Int → Option α) (k1 : Option α) (k2 : Int → Bool → Option α) : Option α :=
 cK (decide (x4 < x3))
 (rowK x2 x4 [.int .i64]
 (fun x6 => vf57_0 α x6
 (fun x7 => cK (!x7)
 (k1)
 (kn (w64 (x4 + 1))))))
 (k2 x4 (decide (x4 < x3)))
noncomputable def S33_0_0 (α : Type) (x2 : Rows) (x3 x4 : Int) (kn : Int → Option α) (k1 : Option α) (k2 : Int → Bool → Option α) : Option α := S33_0_0g f57_0 α x2 x3 x4 kn k1 k2
noncomputable def R33_0_0 (α : Type) (x2 : Rows) (x3 : Int) (k1 : Option α) (k2 : Int → Bool → Option α) : Nat → Int → Option α
 | 0, _ => none
 | n + 1, x4 => S33_0_0 α x2 x3 x4 (R33_0_0 α x2 x3 k1 k2 n) k1 k2
noncomputable def L33_0_0 (α : Type) (x2 : Rows) (x3 : Int) (k1 : Option α) (k2 : Int → Bool → Option α) (x4 : Int) : Option α := R33_0_0 α x2 x3 k1 k2 fuel x4
abbrev TL33_0_0 : Type 1 := (α : Type) → Rows → Int → (Option α) → (Int → Bool → Option α) → Int → Option α
def F33_0_0 (v : TL33_0_0) (α : Type) (K : Exit → St → Option α) : Rows → Int → Int → Option α := fun x2 x3 x4 => v α x2 x3 (u33_0_1 (K .ret) 2) (fun (y1 : Int) (y2 : Bool) => u33_0_2 (K (.exit 0)) x2 x3 y1 y2) x4
theorem r33_0_0g (vf57_0 : Tf57_0)  (α : Type) (K : Exit → St → Option α) (Kn : St → Option α) (x2 : Rows) (x3 x4 : Int) : u33_0_0 (fun σ => runM Try.prog (E33_0g vf57_0) sh33 (c33_0_7g ) (thenK (fun σ => tidyK td33_7 σ Kn) K) σ) x2 x3 x4 = S33_0_0g vf57_0 α x2 x3 x4 (fun x4 => u33_0_0 Kn x2 x3 x4) (u33_0_1 (K .ret) 2) (fun (y1 : Int) (y2 : Bool) => u33_0_2 (K (.exit 0)) x2 x3 y1 y2) := by kernel_rfl
theorem r33_0_0 (α : Type) (K : Exit → St → Option α) (Kn : St → Option α) (x2 : Rows) (x3 x4 : Int) : u33_0_0 (fun σ => runM Try.prog E33_0 sh33 c33_0_7 (thenK (fun σ => tidyK td33_7 σ Kn) K) σ) x2 x3 x4 = S33_0_0 α x2 x3 x4 (fun x4 => u33_0_0 Kn x2 x3 x4) (u33_0_1 (K .ret) 2) (fun (y1 : Int) (y2 : Bool) => u33_0_2 (K (.exit 0)) x2 x3 y1 y2) := r33_0_0g f57_0 α K Kn x2 x3 x4
theorem t33_0_0 (α : Type) (K : Exit → St → Option α) : ∀ (n : Nat) (x2 : Rows) (x3 x4 : Int), R33_0_0 α x2 x3 (u33_0_1 (K .ret) 2) (fun (y1 : Int) (y2 : Bool) => u33_0_2 (K (.exit 0)) x2 x3 y1 y2) n x4 = u33_0_0 (loopT (runM Try.prog E33_0 sh33 c33_0_7) td33_7 K n) x2 x3 x4 := by
 intro n
 induction n with
 | zero => intros; rfl
 | succ n ih => intro x2 x3 x4; exact (congrArg (fun kn => S33_0_0 α x2 x3 x4 kn (u33_0_1 (K .ret) 2) (fun (y1 : Int) (y2 : Bool) => u33_0_2 (K (.exit 0)) x2 x3 y1 y2)) (funext fun x4 => ih x2 x3 x4)).trans (r33_0_0 α K (loopT (runM Try.prog E33_0 sh33 c33_0_7) td33_7 K n) x2 x3 x4).symm
theorem m33_0_0 : ∀ (α : Type) (K : Exit → St → Option α), F33_0_0 L33_0_0 α K = p33_0_0.unc fun σ => loopT (runM Try.prog E33_0 sh33 c33_0_7) td33_7 K fuel σ := fun α K => funext fun x2 => funext fun x3 => funext fun x4 => t33_0_0 α K fuel x2 x3 x4
abbrev Tf33_0 : Type 1 := (α : Type) → Rows → (Int → Option α) → Option α
def f33_0g (vL33_0_0 : TL33_0_0) (α : Type) (x1 : Rows) (k1 : Int → Option α) : Option α :=
 vL33_0_0 α x1 ((List.length x1 : Nat) : Int)
 (k1 2)
 (fun x8 x9 => k1 0) 0
noncomputable def f33_0 (α : Type) (x1 : Rows) (k1 : Int → Option α) : Option α := f33_0g L33_0_0 α x1 k1
def pa33_0 : PT (List DV) := pA [pV false [dL]]
def Fn33_0 (v : Tf33_0) (α : Type) (k : List RV → Option α) : Rows → Option α := fun x1 => v α x1 (fun (y1 : Int) => ur33_0_0 k y1)
noncomputable def cm33_0g (vL33_0_0 : TL33_0_0) : MCode := (.seq (.region r33_2 [] (tO [0])) (.seq (.seq (.region r33_5 [] (tO [5, 6, 7])) (.block 0 (.loop td33_7 [⟨p33_0_0, F33_0_0 vL33_0_0⟩] c33_0_7))) (.seq (.region r33_23 [] (tO [2])) .ret)))
noncomputable def cm33_0 : MCode := cm33_0g L33_0_0
theorem gm33_0 : cm33_0.Good Try.prog E33_0 sh33 := ⟨trivial, ⟨⟨trivial, ⟨g33_0_7, m33_0_0, trivial⟩⟩, ⟨trivial, trivial⟩⟩⟩
theorem fm33_0g (vf57_0 : Tf57_0) (vL33_0_0 : TL33_0_0) (α : Type) (k : List RV → Option α) : Fn33_0 (f33_0g vL33_0_0) α k = pa33_0.unc fun ds => fnM Try.prog (E33_0g vf57_0) sh33 (cm33_0g vL33_0_0) rs33 k ds := by kernel_rfl
theorem fm33_0 : ∀ (α : Type) (k : List RV → Option α), Fn33_0 f33_0 α k = pa33_0.unc fun ds => fnM Try.prog E33_0 sh33 cm33_0 rs33 k ds := fm33_0g f57_0 L33_0_0
theorem is33 : FnIs Try.prog 33 nt33 tr33 tl33 cm33_0.erase rs33 := ⟨Try.f33, Try.func33, rfl, by kernel_rfl, by kernel_rfl, by kernel_rfl⟩
theorem io33_0 : InstOk Try.prog 33 nt33 ⟨pa33_0, Fn33_0 f33_0⟩ := inst_ok eo33_0 followsTry is33 ⟨⟨sh33, cm33_0, by kernel_rfl, gm33_0, fm33_0⟩⟩
abbrev nt13 : Nat := 64
def sh13 : List (Nat × List Sh) := [(53, [.int .i64]), (56, [.int .i64]), (59, [.int .i64]), (62, [.int .i64, .int .i64])]
def r13_2 : List AOper := [oO 6 (.alloc [(cI 0), (cI 0)]), oO 7 (.mv (kI 0))]
def r13_5 : List AOper := [oM 10 0, oM 11 1, oM 12 2, oO 13 (.bslice 1 3 [(.v (.int .i64 0))] [(0, (.tmp 10)), (1, (.tmp 11)), (2, (.tmp 12))]), oO 14 (.call 33 [(.tmp 13)]), oM 8 14]
def r13_8 : List AOper := [oM 16 8, oO 17 (.bin .neq 29 (.tmp 16) (kI 0)), oM 15 17]
def r13_11 : List AOper := [oO 18 (.build [(cI 0), (cI 0)] []), oM 19 8, oD (.store 2 (.tmp 6) (.tmp 18)), oM 7 19]
def r13_13 : List AOper := [oM 21 0, oM 22 1, oO 23 (.bin .eql 3 (.tmp 21) (.tmp 22)), oM 20 23]
def r13_16 : List AOper := [oO 24 (.build [(cI 0), (cI 0)] []), oD (.store 2 (.tmp 6) (.tmp 24)), oO 7 (.mv (kI 9))]
def r13_18 : List AOper := [oM 26 2, oM 27 0, oM 28 1, oO 29 (.pure (oB (.call { callee := .builtin .min, args := #[(.tmp 27), (.tmp 28)], argTypes := #[3, 3] }) 3)), oM 30 0, oM 31 1, oO 32 (.pure (oB (.call { callee := .builtin .max, args := #[(.tmp 30), (.tmp 31)], argTypes := #[3, 3] }) 3)), oO 33 (.call 34 [(.tmp 26), (.tmp 29), (.tmp 32)]), oO 34 (.pure (oB (.unOp .not 4 (.tmp 33)) 4)), oM 25 34]
def r13_21 : List AOper := [oO 35 (.build [(cI 0), (cI 0)] []), oD (.store 2 (.tmp 6) (.tmp 35)), oO 7 (.mv (kI 24))]
def r13_23 : List AOper := [oM 36 2, oM 37 2, oO 38 (.bin .mul 3 (.tmp 36) (.tmp 37)), oM 39 1, oM 40 1, oO 41 (.bin .mul 3 (.tmp 39) (.tmp 40)), oO 42 (.bin .sub 3 (.tmp 38) (.tmp 41)), oO 43 (.bin .mul 3 (kI 10000) (.tmp 42)), oM 44 0, oM 45 0, oO 46 (.bin .mul 3 (.tmp 44) (.tmp 45)), oM 47 1, oM 48 1, oO 49 (.bin .mul 3 (.tmp 47) (.tmp 48)), oO 50 (.bin .sub 3 (.tmp 46) (.tmp 49)), oO 51 (.build [(cI 0), (cI 0)] [(0, 1, (.tmp 43)), (1, 1, (.tmp 50))]), oO 9 (.alloc [(cI 0), (cI 0)]), oD (.store 2 (.tmp 9) (.tmp 51))]
def r13_26 : List AOper := [oO 52 (.faddr 1 (.tmp 9)), oO 53 (.load false 1 (.tmp 52)), oO 54 (.bin .lss 3 (.tmp 53) (kI 0))]
def r13_28 : List AOper := [oO 55 (.faddr 0 (.tmp 9)), oO 56 (.load false 1 (.tmp 55)), oO 57 (.pure (oB (.unOp .neg 3 (.tmp 56)) 3)), oO 58 (.faddr 1 (.tmp 9)), oO 59 (.load false 1 (.tmp 58)), oO 60 (.pure (oB (.unOp .neg 3 (.tmp 59)) 3)), oO 61 (.build [(cI 0), (cI 0)] [(0, 1, (.tmp 57)), (1, 1, (.tmp 60))]), oD (.store 2 (.tmp 9) (.tmp 61))]
def r13_30 : List AOper := [oO 62 (.load true 2 (.tmp 9)), oO 63 (.call 39 [(.tmp 62)]), oD (.store 2 (.tmp 6) (.tmp 63)), oO 7 (.mv (kI 0))]
def tr13 : List (Nat × Tidy) := [tT 0 [0, 1, 2, 6], tT 1 [0, 1, 2, 6, 8], tT 2 [0, 1, 2, 6, 8, 15], tT 3 [6, 7], tT 4 [0, 1, 2, 6, 20], tT 5 [6, 7], tT 6 [0, 1, 2, 6, 25], tT 7 [6, 7], tT 8 [6, 9], tT 9 [6, 9, 54], tT 10 [6, 9], tT 11 [6, 7]]
def tl13 : List (Nat × Tidy) := []
def rs13 : List AResV := [.cell 6 true 2, .tmp 7]
def p13_0_0 : PT St := pS [sl 6 (aV false [(cPtr 6 0)]), sl 9 (aV false [(cPtr 9 0)])] [eBox 6 [(cD (dI .i64)), (cD (dI .i64))], eBox 9 [(cD (dI .i64)), (cD (dI .i64))]]
def u13_0_0 {β : Type} (g : St → β) : Int → Int → Int → Int → β := p13_0_0.unc g
def p13_0_1 : PT St := pS [sl 6 (aV false [(cPtr 6 0)]), sl 9 (aV false [(cPtr 9 0)]), sl 54 (aV false [(cD dB)])] [eBox 6 [(cD (dI .i64)), (cD (dI .i64))], eBox 9 [(cD (dI .i64)), (cD (dI .i64))]]
def u13_0_1 {β : Type} (g : St → β) : Bool → Int → Int → Int → Int → β := p13_0_1.unc g
def pr13_0_0 : PT (List RV) := pRs [pR true [rD (dI .i64), rD (dI .i64)], pR false [rD (dI .i64)]]
def ur13_0_0 {β : Type} (g : List RV → β) : Int → Int → Int → β := pr13_0_0.unc g
def E13_0g (vf33_0 : Tf33_0) (vf34_0 : Tf34_0) (vf39_0 : Tf39_0) : EnvK := EnvK.of [⟨33, nt33, [⟨pa33_0, Fn33_0 vf33_0⟩]⟩, ⟨34, nt34, [⟨pa34_0, Fn34_0 vf34_0⟩]⟩, ⟨39, nt39, [⟨pa39_0, Fn39_0 vf39_0⟩]⟩] noSeq
noncomputable def E13_0 : EnvK := E13_0g f33_0 f34_0 f39_0
theorem eo13_0 : E13_0.Ok Try.prog := EnvK.of_ok noSeq_ok ⟨⟨io33_0, trivial⟩, ⟨io34_0, trivial⟩, ⟨io39_0, trivial⟩, trivial⟩
noncomputable def c13_0_24g  : MCode := (.seq (.region r13_26 [] (tO [6, 9, 54])) (.cond (.tmp 54) (.region r13_28 [] (tO [6, 9])) .skip))
noncomputable def c13_0_24 : MCode := c13_0_24g 
theorem g13_0_24 : c13_0_24.Good Try.prog E13_0 sh13 := ⟨trivial, ⟨trivial, trivial⟩⟩
--CODE 24 0
abbrev TJ13_0_0 : Type 1 := (α : Type) → Int → Int → (Int → Int → Option α) → (Bool → Option α) → Option α
def J13_0_0g  (α : Type) (x8 x9 : Int) (k1 : Int → Int → Option α) (k2 : Bool → Option α) : Option α :=
 cK (decide (x9 < 0))
 (k1 (w64 (0 - x8)) (w64 (0 - x9)))
 (k2 (decide (x9 < 0)))
noncomputable def J13_0_0 (α : Type) (x8 x9 : Int) (k1 : Int → Int → Option α) (k2 : Bool → Option α) : Option α := J13_0_0g  α x8 x9 k1 k2
def F13_0_0 (v : TJ13_0_0) (α : Type) (K : Exit → St → Option α) : Int → Int → Int → Int → Option α := fun x6 x7 x8 x9 => v α x8 x9 (fun (y1 : Int) (y2 : Int) => u13_0_0 (K .normal) x6 x7 y1 y2) (fun (y1 : Bool) => u13_0_1 (K .normal) y1 x6 x7 x8 x9) 
theorem m13_0_0g (vf33_0 : Tf33_0) (vf34_0 : Tf34_0) (vf39_0 : Tf39_0)  (α : Type) (K : Exit → St → Option α) : F13_0_0 (J13_0_0g ) α K = p13_0_0.unc fun σ => runM Try.prog (E13_0g vf33_0 vf34_0 vf39_0) sh13 (c13_0_24g ) K σ := by kernel_rfl
theorem m13_0_0 : ∀ (α : Type) (K : Exit → St → Option α), F13_0_0 J13_0_0 α K = p13_0_0.unc fun σ => runM Try.prog E13_0 sh13 c13_0_24 K σ := m13_0_0g f33_0 f34_0 f39_0
abbrev Tf13_0 : Type 1 := (α : Type) → Int → Int → Int → (Int → Int → Int → Option α) → Option α
def f13_0g (vJ13_0_0 : TJ13_0_0) (vf33_0 : Tf33_0) (vf34_0 : Tf34_0) (vf39_0 : Tf39_0) (α : Type) (x1 x2 x3 : Int) (k1 : Int → Int → Int → Option α) : Option α :=
 vf33_0 α [[DC.v (.int .i64 x1)], [DC.v (.int .i64 x2)], [DC.v (.int .i64 x3)]]
 (fun x4 => cK (x4 != 0)
 (k1 0 0 x4)
 (cK (x1 == x2)
 (k1 0 0 9)
 (vf34_0 α x3 (if x2 < x1 then x2 else x1) (if x2 > x1 then x2 else x1)
 (fun x5 => cK (!x5)
 (k1 0 0 24)
 (vJ13_0_0 α (w64 (10000 * (w64 ((w64 (x3 * x3)) - (w64 (x2 * x2)))))) (w64 ((w64 (x1 * x1)) - (w64 (x2 * x2))))
 (fun x11 x12 => vf39_0 α x11 x12
 (fun x15 x16 => k1 x15 x16 0))
 (fun x13 => vf39_0 α (w64 (10000 * (w64 ((w64 (x3 * x3)) - (w64 (x2 * x2)))))) (w64 ((w64 (x1 * x1)) - (w64 (x2 * x2))))
 (fun x17 x18 => k1 x17 x18 0)))))))
noncomputable def f13_0 (α : Type) (x1 x2 x3 : Int) (k1 : Int → Int → Int → Option α) : Option α := f13_0g J13_0_0 f33_0 f34_0 f39_0 α x1 x2 x3 k1
def pa13_0 : PT (List DV) := pA [pV false [(dI .i64)], pV false [(dI .i64)], pV false [(dI .i64)]]
def Fn13_0 (v : Tf13_0) (α : Type) (k : List RV → Option α) : Int → Int → Int → Option α := fun x1 x2 x3 => v α x1 x2 x3 (fun (y1 : Int) (y2 : Int) (y3 : Int) => ur13_0_0 k y1 y2 y3)
noncomputable def cm13_0g (vJ13_0_0 : TJ13_0_0) : MCode := (.seq (.region r13_2 [] (tO [0, 1, 2, 6])) (.seq (.seq (.region r13_5 [] (tO [0, 1, 2, 6, 8])) (.block 0 (.seq (.region r13_8 [] (tO [0, 1, 2, 6, 8, 15])) (.cond (.tmp 15) (.seq (.region r13_11 [] (tO [6, 7])) .ret) (.seq (.region r13_13 [] (tO [0, 1, 2, 6, 20])) (.cond (.tmp 20) (.seq (.region r13_16 [] (tO [6, 7])) .ret) (.seq (.region r13_18 [] (tO [0, 1, 2, 6, 25])) (.cond (.tmp 25) (.seq (.region r13_21 [] (tO [6, 7])) .ret) .skip)))))))) (.seq (.region r13_23 [] (tO [6, 9])) (.seq (.mark [⟨p13_0_0, F13_0_0 vJ13_0_0⟩] c13_0_24) (.seq (.region r13_30 [] (tO [6, 7])) .ret)))))
noncomputable def cm13_0 : MCode := cm13_0g J13_0_0
theorem gm13_0 : cm13_0.Good Try.prog E13_0 sh13 := ⟨trivial, ⟨⟨trivial, ⟨trivial, ⟨⟨trivial, trivial⟩, ⟨trivial, ⟨⟨trivial, trivial⟩, ⟨trivial, ⟨⟨trivial, trivial⟩, trivial⟩⟩⟩⟩⟩⟩⟩, ⟨trivial, ⟨⟨g13_0_24, m13_0_0, trivial⟩, ⟨trivial, trivial⟩⟩⟩⟩⟩
theorem fm13_0g (vf33_0 : Tf33_0) (vf34_0 : Tf34_0) (vf39_0 : Tf39_0) (vJ13_0_0 : TJ13_0_0) (α : Type) (k : List RV → Option α) : Fn13_0 (f13_0g vJ13_0_0 vf33_0 vf34_0 vf39_0) α k = pa13_0.unc fun ds => fnM Try.prog (E13_0g vf33_0 vf34_0 vf39_0) sh13 (cm13_0g vJ13_0_0) rs13 k ds := by kernel_rfl
theorem fm13_0 : ∀ (α : Type) (k : List RV → Option α), Fn13_0 f13_0 α k = pa13_0.unc fun ds => fnM Try.prog E13_0 sh13 cm13_0 rs13 k ds := fm13_0g f33_0 f34_0 f39_0 J13_0_0
theorem is13 : FnIs Try.prog 13 nt13 tr13 tl13 cm13_0.erase rs13 := ⟨Try.f13, Try.func13, rfl, by kernel_rfl, by kernel_rfl, by kernel_rfl⟩
theorem io13_0 : InstOk Try.prog 13 nt13 ⟨pa13_0, Fn13_0 f13_0⟩ := inst_ok eo13_0 followsTry is13 ⟨⟨sh13, cm13_0, by kernel_rfl, gm13_0, fm13_0⟩⟩
abbrev nt36 : Nat := 19
def sh36 : List (Nat × List Sh) := [(9, [.int .i64]), (10, [.int .i64]), (11, [.int .i64]), (13, [.int .i64]), (15, [.int .i64])]
def r36_2 : List AOper := [oO 5 (.mv (.const (.bool false)))]
def r36_4 : List AOper := [oM 6 0, oM 7 0, oO 8 (.bin .mul 3 (.tmp 6) (.tmp 7)), oO 9 (.load false 1 (.tmp 1)), oO 10 (.load false 1 (.tmp 2)), oO 11 (.load false 1 (.tmp 2)), oO 12 (.bin .mul 3 (.tmp 10) (.tmp 11)), oO 13 (.load false 1 (.tmp 3)), oO 14 (.bin .mul 3 (kI 10000) (.tmp 13)), oO 15 (.load false 1 (.tmp 3)), oO 16 (.bin .mul 3 (.tmp 14) (.tmp 15)), oO 17 (.call 37 [(.tmp 8), (.tmp 9), (.tmp 12), (.tmp 16)]), oO 18 (.bin .leq 3 (.tmp 17) (kI 0)), oM 5 18]
def tr36 : List (Nat × Tidy) := [tT 0 [0, 1, 2, 3], tT 1 [5]]
def tl36 : List (Nat × Tidy) := []
def rs36 : List AResV := [.tmp 5]
def pr36_0_0 : PT (List RV) := pRs [pR false [rD dB]]
def ur36_0_0 {β : Type} (g : List RV → β) : Bool → β := pr36_0_0.unc g
def E36_0g (vf37_0 : Tf37_0) : EnvK := EnvK.of [⟨37, nt37, [⟨pa37_0, Fn37_0 vf37_0⟩]⟩] noSeq
noncomputable def E36_0 : EnvK := E36_0g f37_0
theorem eo36_0 : E36_0.Ok Try.prog := EnvK.of_ok noSeq_ok ⟨⟨io37_0, trivial⟩, trivial⟩
abbrev Tf36_0 : Type 1 := (α : Type) → Int → Int → Int → Int → (Bool → Option α) → Option α
def f36_0g (vf37_0 : Tf37_0) (α : Type) (x1 x2 x3 x4 : Int) (k1 : Bool → Option α) : Option α :=
 vf37_0 α (w64 (x1 * x1)) x2 (w64 (x3 * x3)) (w64 ((w64 (10000 * x4)) * x4))
 (fun x5 => k1 (decide (x5 ≤ 0)))
noncomputable def f36_0 (α : Type) (x1 x2 x3 x4 : Int) (k1 : Bool → Option α) : Option α := f36_0g f37_0 α x1 x2 x3 x4 k1
def pa36_0 : PT (List DV) := pA [pV false [(dI .i64)], pV false [(dP [(dI .i64)] 0)], pV false [(dP [(dI .i64)] 0)], pV false [(dP [(dI .i64)] 0)]]
def Fn36_0 (v : Tf36_0) (α : Type) (k : List RV → Option α) : Int → Int → Int → Int → Option α := fun x1 x2 x3 x4 => v α x1 x2 x3 x4 (fun (y1 : Bool) => ur36_0_0 k y1)
noncomputable def cm36_0g  : MCode := (.seq (.region r36_2 [] (tO [0, 1, 2, 3])) (.seq (.region r36_4 [] (tO [5])) .ret))
noncomputable def cm36_0 : MCode := cm36_0g 
theorem gm36_0 : cm36_0.Good Try.prog E36_0 sh36 := ⟨trivial, ⟨trivial, trivial⟩⟩
theorem fm36_0g (vf37_0 : Tf37_0)  (α : Type) (k : List RV → Option α) : Fn36_0 (f36_0g vf37_0) α k = pa36_0.unc fun ds => fnM Try.prog (E36_0g vf37_0) sh36 (cm36_0g ) rs36 k ds := by kernel_rfl
theorem fm36_0 : ∀ (α : Type) (k : List RV → Option α), Fn36_0 f36_0 α k = pa36_0.unc fun ds => fnM Try.prog E36_0 sh36 cm36_0 rs36 k ds := fm36_0g f37_0
theorem is36 : FnIs Try.prog 36 nt36 tr36 tl36 cm36_0.erase rs36 := ⟨Try.f36, Try.func36, rfl, by kernel_rfl, by kernel_rfl, by kernel_rfl⟩
theorem io36_0 : InstOk Try.prog 36 nt36 ⟨pa36_0, Fn36_0 f36_0⟩ := inst_ok eo36_0 followsTry is36 ⟨⟨sh36, cm36_0, by kernel_rfl, gm36_0, fm36_0⟩⟩
abbrev nt35 : Nat := 24
def sh35 : List (Nat × List Sh) := []
def r35_2 : List AOper := [oO 4 (.mv (kI 0))]
def r35_4 : List AOper := [oM 8 0, oO 5 (.mv (kI 0)), oM 6 8]
def td35_7 : Option Tidy := (tO [1, 5, 6])
def r35_10 : List AOper := [oM 9 5, oM 10 6, oO 11 (.bin .lss 3 (.tmp 9) (.tmp 10))]
def r35_14 : List AOper := [oM 12 5, oM 13 6, oO 14 (.bin .add 3 (.tmp 12) (.tmp 13)), oO 15 (.bin .add 3 (.tmp 14) (kI 1)), oO 16 (.bin .quo 3 (.tmp 15) (kI 2)), oM 7 16]
def r35_16 : List AOper := [oM 17 1, oM 18 7, oO 19 (.calld (.tmp 17) [(.tmp 18)])]
def r35_18 : List AOper := [oM 20 7, oM 5 20]
def r35_19 : List AOper := [oM 21 7, oO 22 (.bin .sub 3 (.tmp 21) (kI 1)), oM 6 22]
def r35_21 : List AOper := [oM 23 5, oM 4 23]
def tr35 : List (Nat × Tidy) := [tT 0 [0, 1], tT 1 [1, 5, 6], tT 2 [1, 5, 6, 11], tT 3 [1, 5, 6, 7], tT 4 [1, 5, 6, 7, 19], tT 5 [1, 5, 6], tT 6 [1, 5, 6], tT 7 [4]]
def tl35 : List (Nat × Tidy) := [tT 2 [1, 5, 6]]
def rs35 : List AResV := [.tmp 4]
def p35_0_0 : PT St := pS [sl 1 (aV false [(cD (dFn 36 [(dP [(dI .i64)] 0), (dP [(dI .i64)] 0), (dP [(dI .i64)] 0)]))]), sl 5 (aV false [(cD (dI .i64))]), sl 6 (aV false [(cD (dI .i64))])] []
def u35_0_0 {β : Type} (g : St → β) : Int → Int → Int → Int → Int → β := p35_0_0.unc g
def p35_0_1 : PT St := pS [sl 1 (aV false [(cD (dFn 36 [(dP [(dI .i64)] 0), (dP [(dI .i64)] 0), (dP [(dI .i64)] 0)]))]), sl 5 (aV false [(cD (dI .i64))]), sl 6 (aV false [(cD (dI .i64))]), sl 11 (aV false [(cD dB)])] []
def u35_0_1 {β : Type} (g : St → β) : Int → Int → Int → Int → Int → Bool → β := p35_0_1.unc g
def pr35_0_0 : PT (List RV) := pRs [pR false [rD (dI .i64)]]
def ur35_0_0 {β : Type} (g : List RV → β) : Int → β := pr35_0_0.unc g
def E35_0g (vf36_0 : Tf36_0) : EnvK := EnvK.of [⟨36, nt36, [⟨pa36_0, Fn36_0 vf36_0⟩]⟩] noSeq
noncomputable def E35_0 : EnvK := E35_0g f36_0
theorem eo35_0 : E35_0.Ok Try.prog := EnvK.of_ok noSeq_ok ⟨⟨io36_0, trivial⟩, trivial⟩
noncomputable def c35_0_7g  : MCode := (.seq (.seq (.region r35_10 [] (tO [1, 5, 6, 11])) (.cond (.tmp 11) .skip (.exit 0))) (.block 1 (.seq (.region r35_14 [] (tO [1, 5, 6, 7])) (.seq (.region r35_16 [] (tO [1, 5, 6, 7, 19])) (.cond (.tmp 19) (.region r35_18 [] (tO [1, 5, 6])) (.region r35_19 [] (tO [1, 5, 6])))))))
noncomputable def c35_0_7 : MCode := c35_0_7g 
theorem g35_0_7 : c35_0_7.Good Try.prog E35_0 sh35 := ⟨⟨trivial, ⟨trivial, trivial⟩⟩, ⟨trivial, ⟨trivial, ⟨trivial, trivial⟩⟩⟩⟩
--CODE 7 0
def S35_0_0g (vf36_0 : Tf36_0) (α : Type) (x5 x6 x7 x8 x9 : Int) (kn : Int → Int → Option α) (k1 : Int → Int → Bool → Option α) : Option α :=
 cK (decide (x8 < x9))
 (vf36_0 α (w64 (Int.tdiv (w64 ((w64 (x8 + x9)) + 1)) 2)) x5 x6 x7
 (fun x11 => cK x11
 (kn (w64 (Int.tdiv (w64 ((w64 (x8 + x9)) + 1)) 2)) x9)
 (kn x8 (w64 ((w64 (Int.tdiv (w64 ((w64 (x8 + x9)) + 1)) 2)) - 1)))))
 (k1 x8 x9 (decide (x8 < x9)))
noncomputable def S35_0_0 (α : Type) (x5 x6 x7 x8 x9 : Int) (kn : Int → Int → Option α) (k1 : Int → Int → Bool → Option α) : Option α := S35_0_0g f36_0 α x5 x6 x7 x8 x9 kn k1
noncomputable def R35_0_0 (α : Type) (x5 x6 x7 : Int) (k1 : Int → Int → Bool → Option α) : Nat → Int → Int → Option α
 | 0, _, _ => none
 | n + 1, x8, x9 => S35_0_0 α x5 x6 x7 x8 x9 (R35_0_0 α x5 x6 x7 k1 n) k1
noncomputable def L35_0_0 (α : Type) (x5 x6 x7 : Int) (k1 : Int → Int → Bool → Option α) (x8 x9 : Int) : Option α := R35_0_0 α x5 x6 x7 k1 fuel x8 x9
abbrev TL35_0_0 : Type 1 := (α : Type) → Int → Int → Int → (Int → Int → Bool → Option α) → Int → Int → Option α
def F35_0_0 (v : TL35_0_0) (α : Type) (K : Exit → St → Option α) : Int → Int → Int → Int → Int → Option α := fun x5 x6 x7 x8 x9 => v α x5 x6 x7 (fun (y1 : Int) (y2 : Int) (y3 : Bool) => u35_0_1 (K (.exit 0)) x5 x6 x7 y1 y2 y3) x8 x9
theorem r35_0_0g (vf36_0 : Tf36_0)  (α : Type) (K : Exit → St → Option α) (Kn : St → Option α) (x5 x6 x7 x8 x9 : Int) : u35_0_0 (fun σ => runM Try.prog (E35_0g vf36_0) sh35 (c35_0_7g ) (thenK (fun σ => tidyK td35_7 σ Kn) K) σ) x5 x6 x7 x8 x9 = S35_0_0g vf36_0 α x5 x6 x7 x8 x9 (fun x8 x9 => u35_0_0 Kn x5 x6 x7 x8 x9) (fun (y1 : Int) (y2 : Int) (y3 : Bool) => u35_0_1 (K (.exit 0)) x5 x6 x7 y1 y2 y3) := by kernel_rfl
theorem r35_0_0 (α : Type) (K : Exit → St → Option α) (Kn : St → Option α) (x5 x6 x7 x8 x9 : Int) : u35_0_0 (fun σ => runM Try.prog E35_0 sh35 c35_0_7 (thenK (fun σ => tidyK td35_7 σ Kn) K) σ) x5 x6 x7 x8 x9 = S35_0_0 α x5 x6 x7 x8 x9 (fun x8 x9 => u35_0_0 Kn x5 x6 x7 x8 x9) (fun (y1 : Int) (y2 : Int) (y3 : Bool) => u35_0_1 (K (.exit 0)) x5 x6 x7 y1 y2 y3) := r35_0_0g f36_0 α K Kn x5 x6 x7 x8 x9
theorem t35_0_0 (α : Type) (K : Exit → St → Option α) : ∀ (n : Nat) (x5 x6 x7 x8 x9 : Int), R35_0_0 α x5 x6 x7 (fun (y1 : Int) (y2 : Int) (y3 : Bool) => u35_0_1 (K (.exit 0)) x5 x6 x7 y1 y2 y3) n x8 x9 = u35_0_0 (loopT (runM Try.prog E35_0 sh35 c35_0_7) td35_7 K n) x5 x6 x7 x8 x9 := by
 intro n
 induction n with
 | zero => intros; rfl
 | succ n ih => intro x5 x6 x7 x8 x9; exact (congrArg (fun kn => S35_0_0 α x5 x6 x7 x8 x9 kn (fun (y1 : Int) (y2 : Int) (y3 : Bool) => u35_0_1 (K (.exit 0)) x5 x6 x7 y1 y2 y3)) (funext fun x8 => funext fun x9 => ih x5 x6 x7 x8 x9)).trans (r35_0_0 α K (loopT (runM Try.prog E35_0 sh35 c35_0_7) td35_7 K n) x5 x6 x7 x8 x9).symm
theorem m35_0_0 : ∀ (α : Type) (K : Exit → St → Option α), F35_0_0 L35_0_0 α K = p35_0_0.unc fun σ => loopT (runM Try.prog E35_0 sh35 c35_0_7) td35_7 K fuel σ := fun α K => funext fun x5 => funext fun x6 => funext fun x7 => funext fun x8 => funext fun x9 => t35_0_0 α K fuel x5 x6 x7 x8 x9
abbrev Tf35_0 : Type 1 := (α : Type) → Int → Int → Int → Int → (Int → Option α) → Option α
def f35_0g (vL35_0_0 : TL35_0_0) (α : Type) (x1 x2 x3 x4 : Int) (k1 : Int → Option α) : Option α :=
 vL35_0_0 α x2 x3 x4
 (fun x12 x13 x14 => k1 x12) 0 x1
noncomputable def f35_0 (α : Type) (x1 x2 x3 x4 : Int) (k1 : Int → Option α) : Option α := f35_0g L35_0_0 α x1 x2 x3 x4 k1
def pa35_0 : PT (List DV) := pA [pV false [(dI .i64)], pV false [(dFn 36 [(dP [(dI .i64)] 0), (dP [(dI .i64)] 0), (dP [(dI .i64)] 0)])]]
def Fn35_0 (v : Tf35_0) (α : Type) (k : List RV → Option α) : Int → Int → Int → Int → Option α := fun x1 x2 x3 x4 => v α x1 x2 x3 x4 (fun (y1 : Int) => ur35_0_0 k y1)
noncomputable def cm35_0g (vL35_0_0 : TL35_0_0) : MCode := (.seq (.region r35_2 [] (tO [0, 1])) (.seq (.region r35_4 [] (tO [1, 5, 6])) (.seq (.block 0 (.loop td35_7 [⟨p35_0_0, F35_0_0 vL35_0_0⟩] c35_0_7)) (.seq (.region r35_21 [] (tO [4])) .ret))))
noncomputable def cm35_0 : MCode := cm35_0g L35_0_0
theorem gm35_0 : cm35_0.Good Try.prog E35_0 sh35 := ⟨trivial, ⟨trivial, ⟨⟨g35_0_7, m35_0_0, trivial⟩, ⟨trivial, trivial⟩⟩⟩⟩
theorem fm35_0g (vf36_0 : Tf36_0) (vL35_0_0 : TL35_0_0) (α : Type) (k : List RV → Option α) : Fn35_0 (f35_0g vL35_0_0) α k = pa35_0.unc fun ds => fnM Try.prog (E35_0g vf36_0) sh35 (cm35_0g vL35_0_0) rs35 k ds := by kernel_rfl
theorem fm35_0 : ∀ (α : Type) (k : List RV → Option α), Fn35_0 f35_0 α k = pa35_0.unc fun ds => fnM Try.prog E35_0 sh35 cm35_0 rs35 k ds := fm35_0g f36_0 L35_0_0
theorem is35 : FnIs Try.prog 35 nt35 tr35 tl35 cm35_0.erase rs35 := ⟨Try.f35, Try.func35, rfl, by kernel_rfl, by kernel_rfl, by kernel_rfl⟩
theorem io35_0 : InstOk Try.prog 35 nt35 ⟨pa35_0, Fn35_0 f35_0⟩ := inst_ok eo35_0 followsTry is35 ⟨⟨sh35, cm35_0, by kernel_rfl, gm35_0, fm35_0⟩⟩
def p35_1_0 : PT St := pS [sl 1 (aV false [(cD (dFn 38 [(dP [(dI .i64)] 0)]))]), sl 5 (aV false [(cD (dI .i64))]), sl 6 (aV false [(cD (dI .i64))])] []
def u35_1_0 {β : Type} (g : St → β) : Int → Int → Int → β := p35_1_0.unc g
def p35_1_1 : PT St := pS [sl 1 (aV false [(cD (dFn 38 [(dP [(dI .i64)] 0)]))]), sl 5 (aV false [(cD (dI .i64))]), sl 6 (aV false [(cD (dI .i64))]), sl 11 (aV false [(cD dB)])] []
def u35_1_1 {β : Type} (g : St → β) : Int → Int → Int → Bool → β := p35_1_1.unc g
def pr35_1_0 : PT (List RV) := pRs [pR false [rD (dI .i64)]]
def ur35_1_0 {β : Type} (g : List RV → β) : Int → β := pr35_1_0.unc g
def E35_1g (vf38_0 : Tf38_0) : EnvK := EnvK.of [⟨38, nt38, [⟨pa38_0, Fn38_0 vf38_0⟩]⟩] noSeq
noncomputable def E35_1 : EnvK := E35_1g f38_0
theorem eo35_1 : E35_1.Ok Try.prog := EnvK.of_ok noSeq_ok ⟨⟨io38_0, trivial⟩, trivial⟩
noncomputable def c35_1_7g  : MCode := (.seq (.seq (.region r35_10 [] (tO [1, 5, 6, 11])) (.cond (.tmp 11) .skip (.exit 0))) (.block 1 (.seq (.region r35_14 [] (tO [1, 5, 6, 7])) (.seq (.region r35_16 [] (tO [1, 5, 6, 7, 19])) (.cond (.tmp 19) (.region r35_18 [] (tO [1, 5, 6])) (.region r35_19 [] (tO [1, 5, 6])))))))
noncomputable def c35_1_7 : MCode := c35_1_7g 
theorem g35_1_7 : c35_1_7.Good Try.prog E35_1 sh35 := ⟨⟨trivial, ⟨trivial, trivial⟩⟩, ⟨trivial, ⟨trivial, ⟨trivial, trivial⟩⟩⟩⟩
--CODE 7 0
def S35_1_0g (vf38_0 : Tf38_0) (α : Type) (x3 x4 x5 : Int) (kn : Int → Int → Option α) (k1 : Int → Int → Bool → Option α) : Option α :=
 cK (decide (x4 < x5))
 (vf38_0 α (w64 (Int.tdiv (w64 ((w64 (x4 + x5)) + 1)) 2)) x3
 (fun x7 => cK x7
 (kn (w64 (Int.tdiv (w64 ((w64 (x4 + x5)) + 1)) 2)) x5)
 (kn x4 (w64 ((w64 (Int.tdiv (w64 ((w64 (x4 + x5)) + 1)) 2)) - 1)))))
 (k1 x4 x5 (decide (x4 < x5)))
noncomputable def S35_1_0 (α : Type) (x3 x4 x5 : Int) (kn : Int → Int → Option α) (k1 : Int → Int → Bool → Option α) : Option α := S35_1_0g f38_0 α x3 x4 x5 kn k1
noncomputable def R35_1_0 (α : Type) (x3 : Int) (k1 : Int → Int → Bool → Option α) : Nat → Int → Int → Option α
 | 0, _, _ => none
 | n + 1, x4, x5 => S35_1_0 α x3 x4 x5 (R35_1_0 α x3 k1 n) k1
noncomputable def L35_1_0 (α : Type) (x3 : Int) (k1 : Int → Int → Bool → Option α) (x4 x5 : Int) : Option α := R35_1_0 α x3 k1 fuel x4 x5
abbrev TL35_1_0 : Type 1 := (α : Type) → Int → (Int → Int → Bool → Option α) → Int → Int → Option α
def F35_1_0 (v : TL35_1_0) (α : Type) (K : Exit → St → Option α) : Int → Int → Int → Option α := fun x3 x4 x5 => v α x3 (fun (y1 : Int) (y2 : Int) (y3 : Bool) => u35_1_1 (K (.exit 0)) x3 y1 y2 y3) x4 x5
theorem r35_1_0g (vf38_0 : Tf38_0)  (α : Type) (K : Exit → St → Option α) (Kn : St → Option α) (x3 x4 x5 : Int) : u35_1_0 (fun σ => runM Try.prog (E35_1g vf38_0) sh35 (c35_1_7g ) (thenK (fun σ => tidyK td35_7 σ Kn) K) σ) x3 x4 x5 = S35_1_0g vf38_0 α x3 x4 x5 (fun x4 x5 => u35_1_0 Kn x3 x4 x5) (fun (y1 : Int) (y2 : Int) (y3 : Bool) => u35_1_1 (K (.exit 0)) x3 y1 y2 y3) := by kernel_rfl
theorem r35_1_0 (α : Type) (K : Exit → St → Option α) (Kn : St → Option α) (x3 x4 x5 : Int) : u35_1_0 (fun σ => runM Try.prog E35_1 sh35 c35_1_7 (thenK (fun σ => tidyK td35_7 σ Kn) K) σ) x3 x4 x5 = S35_1_0 α x3 x4 x5 (fun x4 x5 => u35_1_0 Kn x3 x4 x5) (fun (y1 : Int) (y2 : Int) (y3 : Bool) => u35_1_1 (K (.exit 0)) x3 y1 y2 y3) := r35_1_0g f38_0 α K Kn x3 x4 x5
theorem t35_1_0 (α : Type) (K : Exit → St → Option α) : ∀ (n : Nat) (x3 x4 x5 : Int), R35_1_0 α x3 (fun (y1 : Int) (y2 : Int) (y3 : Bool) => u35_1_1 (K (.exit 0)) x3 y1 y2 y3) n x4 x5 = u35_1_0 (loopT (runM Try.prog E35_1 sh35 c35_1_7) td35_7 K n) x3 x4 x5 := by
 intro n
 induction n with
 | zero => intros; rfl
 | succ n ih => intro x3 x4 x5; exact (congrArg (fun kn => S35_1_0 α x3 x4 x5 kn (fun (y1 : Int) (y2 : Int) (y3 : Bool) => u35_1_1 (K (.exit 0)) x3 y1 y2 y3)) (funext fun x4 => funext fun x5 => ih x3 x4 x5)).trans (r35_1_0 α K (loopT (runM Try.prog E35_1 sh35 c35_1_7) td35_7 K n) x3 x4 x5).symm
theorem m35_1_0 : ∀ (α : Type) (K : Exit → St → Option α), F35_1_0 L35_1_0 α K = p35_1_0.unc fun σ => loopT (runM Try.prog E35_1 sh35 c35_1_7) td35_7 K fuel σ := fun α K => funext fun x3 => funext fun x4 => funext fun x5 => t35_1_0 α K fuel x3 x4 x5
abbrev Tf35_1 : Type 1 := (α : Type) → Int → Int → (Int → Option α) → Option α
def f35_1g (vL35_1_0 : TL35_1_0) (α : Type) (x1 x2 : Int) (k1 : Int → Option α) : Option α :=
 vL35_1_0 α x2
 (fun x8 x9 x10 => k1 x8) 0 x1
noncomputable def f35_1 (α : Type) (x1 x2 : Int) (k1 : Int → Option α) : Option α := f35_1g L35_1_0 α x1 x2 k1
def pa35_1 : PT (List DV) := pA [pV false [(dI .i64)], pV false [(dFn 38 [(dP [(dI .i64)] 0)])]]
def Fn35_1 (v : Tf35_1) (α : Type) (k : List RV → Option α) : Int → Int → Option α := fun x1 x2 => v α x1 x2 (fun (y1 : Int) => ur35_1_0 k y1)
noncomputable def cm35_1g (vL35_1_0 : TL35_1_0) : MCode := (.seq (.region r35_2 [] (tO [0, 1])) (.seq (.region r35_4 [] (tO [1, 5, 6])) (.seq (.block 0 (.loop td35_7 [⟨p35_1_0, F35_1_0 vL35_1_0⟩] c35_1_7)) (.seq (.region r35_21 [] (tO [4])) .ret))))
noncomputable def cm35_1 : MCode := cm35_1g L35_1_0
theorem gm35_1 : cm35_1.Good Try.prog E35_1 sh35 := ⟨trivial, ⟨trivial, ⟨⟨g35_1_7, m35_1_0, trivial⟩, ⟨trivial, trivial⟩⟩⟩⟩
theorem fm35_1g (vf38_0 : Tf38_0) (vL35_1_0 : TL35_1_0) (α : Type) (k : List RV → Option α) : Fn35_1 (f35_1g vL35_1_0) α k = pa35_1.unc fun ds => fnM Try.prog (E35_1g vf38_0) sh35 (cm35_1g vL35_1_0) rs35 k ds := by kernel_rfl
theorem fm35_1 : ∀ (α : Type) (k : List RV → Option α), Fn35_1 f35_1 α k = pa35_1.unc fun ds => fnM Try.prog E35_1 sh35 cm35_1 rs35 k ds := fm35_1g f38_0 L35_1_0
theorem io35_1 : InstOk Try.prog 35 nt35 ⟨pa35_1, Fn35_1 f35_1⟩ := inst_ok eo35_1 followsTry is35 ⟨⟨sh35, cm35_1, by kernel_rfl, gm35_1, fm35_1⟩⟩
abbrev nt12 : Nat := 54
def sh12 : List (Nat × List Sh) := [(12, [.int .i64]), (13, [.int .i64]), (27, [.int .i64]), (29, [.int .i64]), (32, [.int .i64]), (34, [.int .i64]), (38, [.int .i64]), (40, [.int .i64]), (43, [.int .i64]), (45, [.int .i64])]
def r12_2 : List AOper := [oO 3 (.box (.tmp 0)), oO 4 (.box (.tmp 1)), oO 6 (.alloc [(cI 0), (cI 0)]), oO 7 (.mv (kI 0))]
def r12_5 : List AOper := [oO 12 (.load false 1 (.tmp 3)), oO 13 (.load false 1 (.tmp 4)), oO 14 (.bslice 1 2 [(.v (.int .i64 0))] [(0, (.tmp 12)), (1, (.tmp 13))]), oO 15 (.call 33 [(.tmp 14)]), oM 8 15]
def r12_7 : List AOper := [oM 16 8, oO 17 (.bin .neq 29 (.tmp 16) (kI 0))]
def r12_10 : List AOper := [oO 18 (.build [(cI 0), (cI 0)] []), oM 19 8, oD (.store 2 (.tmp 6) (.tmp 18)), oM 7 19]
def r12_13 : List AOper := [oM 20 2, oO 21 (.call 34 [(.tmp 20), (kI 0), (kI 10000)]), oO 22 (.pure (oB (.unOp .not 4 (.tmp 21)) 4))]
def r12_16 : List AOper := [oO 23 (.build [(cI 0), (cI 0)] []), oD (.store 2 (.tmp 6) (.tmp 23)), oO 7 (.mv (kI 2))]
def r12_18 : List AOper := [oM 24 2, oO 25 (.bin .sub 3 (kI 10000) (.tmp 24)), oM 9 25]
def r12_20 : List AOper := [oM 26 2, oO 27 (.load false 1 (.tmp 4)), oO 28 (.bin .mul 3 (.tmp 26) (.tmp 27)), oO 29 (.load false 1 (.tmp 4)), oO 30 (.bin .mul 3 (.tmp 28) (.tmp 29)), oM 31 9, oO 32 (.load false 1 (.tmp 3)), oO 33 (.bin .mul 3 (.tmp 31) (.tmp 32)), oO 34 (.load false 1 (.tmp 3)), oO 35 (.bin .mul 3 (.tmp 33) (.tmp 34)), oO 36 (.bin .add 3 (.tmp 30) (.tmp 35)), oM 37 2, oO 38 (.load false 1 (.tmp 3)), oO 39 (.bin .mul 3 (.tmp 37) (.tmp 38)), oO 40 (.load false 1 (.tmp 3)), oO 41 (.bin .mul 3 (.tmp 39) (.tmp 40)), oM 42 9, oO 43 (.load false 1 (.tmp 4)), oO 44 (.bin .mul 3 (.tmp 42) (.tmp 43)), oO 45 (.load false 1 (.tmp 4)), oO 46 (.bin .mul 3 (.tmp 44) (.tmp 45)), oO 47 (.bin .add 3 (.tmp 41) (.tmp 46)), oO 10 (.alloc [(cI 0)]), oO 11 (.alloc [(cI 0)]), oD (.store 1 (.tmp 10) (.tmp 36)), oD (.store 1 (.tmp 11) (.tmp 47))]
def r12_22 : List AOper := [oO 48 (.mkfn 36 [(.tmp 10), (.tmp 3), (.tmp 4)]), oO 49 (.call 35 [(kI 80000), (.tmp 48)]), oO 50 (.mkfn 38 [(.tmp 11)]), oO 51 (.call 35 [(kI 80000), (.tmp 50)]), oO 52 (.bin .add 3 (kI 1) (.tmp 51)), oO 53 (.build [(cI 0), (cI 0)] [(0, 1, (.tmp 49)), (1, 1, (.tmp 52))]), oD (.store 2 (.tmp 6) (.tmp 53)), oO 7 (.mv (kI 0))]
def tr12 : List (Nat × Tidy) := [tT 0 [2, 3, 4, 6], tT 1 [2, 3, 4, 6, 8], tT 2 [2, 3, 4, 6, 8, 17], tT 3 [6, 7], tT 4 [2, 3, 4, 6, 22], tT 5 [6, 7], tT 6 [2, 3, 4, 6, 9], tT 7 [3, 4, 6, 10, 11], tT 8 [6, 7]]
def tl12 : List (Nat × Tidy) := []
def rs12 : List AResV := [.cell 6 true 2, .tmp 7]
def pr12_0_0 : PT (List RV) := pRs [pR true [rD (dI .i64), rD (dI .i64)], pR false [rD (dI .i64)]]
def ur12_0_0 {β : Type} (g : List RV → β) : Int → Int → Int → β := pr12_0_0.unc g
def E12_0g (vf33_0 : Tf33_0) (vf34_0 : Tf34_0) (vf35_0 : Tf35_0) (vf35_1 : Tf35_1) : EnvK := EnvK.of [⟨33, nt33, [⟨pa33_0, Fn33_0 vf33_0⟩]⟩, ⟨34, nt34, [⟨pa34_0, Fn34_0 vf34_0⟩]⟩, ⟨35, nt35, [⟨pa35_0, Fn35_0 vf35_0⟩, ⟨pa35_1, Fn35_1 vf35_1⟩]⟩] noSeq
noncomputable def E12_0 : EnvK := E12_0g f33_0 f34_0 f35_0 f35_1
theorem eo12_0 : E12_0.Ok Try.prog := EnvK.of_ok noSeq_ok ⟨⟨io33_0, trivial⟩, ⟨io34_0, trivial⟩, ⟨io35_0, io35_1, trivial⟩, trivial⟩
abbrev Tf12_0 : Type 1 := (α : Type) → Int → Int → Int → (Int → Int → Int → Option α) → Option α
def f12_0g (vf33_0 : Tf33_0) (vf34_0 : Tf34_0) (vf35_0 : Tf35_0) (vf35_1 : Tf35_1) (α : Type) (x1 x2 x3 : Int) (k1 : Int → Int → Int → Option α) : Option α :=
 vf33_0 α [[DC.v (.int .i64 x1)], [DC.v (.int .i64 x2)]]
 (fun x4 => cK (x4 != 0)
 (k1 0 0 x4)
 (vf34_0 α x3 0 10000
 (fun x5 => cK (!x5)
 (k1 0 0 2)
 (vf35_0 α 80000 (w64 ((w64 ((w64 (x3 * x2)) * x2)) + (w64 ((w64 ((w64 (10000 - x3)) * x1)) * x1)))) x1 x2
 (fun x6 => vf35_1 α 80000 (w64 ((w64 ((w64 (x3 * x1)) * x1)) + (w64 ((w64 ((w64 (10000 - x3)) * x2)) * x2))))
 (fun x7 => k1 x6 (w64 (1 + x7)) 0))))))
noncomputable def f12_0 (α : Type) (x1 x2 x3 : Int) (k1 : Int → Int → Int → Option α) : Option α := f12_0g f33_0 f34_0 f35_0 f35_1 α x1 x2 x3 k1
def pa12_0 : PT (List DV) := pA [pV false [(dI .i64)], pV false [(dI .i64)], pV false [(dI .i64)]]
def Fn12_0 (v : Tf12_0) (α : Type) (k : List RV → Option α) : Int → Int → Int → Option α := fun x1 x2 x3 => v α x1 x2 x3 (fun (y1 : Int) (y2 : Int) (y3 : Int) => ur12_0_0 k y1 y2 y3)
noncomputable def cm12_0g  : MCode := (.seq (.region r12_2 [] (tO [2, 3, 4, 6])) (.seq (.seq (.region r12_5 [] (tO [2, 3, 4, 6, 8])) (.seq (.region r12_7 [] (tO [2, 3, 4, 6, 8, 17])) (.cond (.tmp 17) (.seq (.region r12_10 [] (tO [6, 7])) .ret) .skip))) (.seq (.seq (.region r12_13 [] (tO [2, 3, 4, 6, 22])) (.cond (.tmp 22) (.seq (.region r12_16 [] (tO [6, 7])) .ret) .skip)) (.seq (.region r12_18 [] (tO [2, 3, 4, 6, 9])) (.seq (.region r12_20 [(1, 22), (3, 22), (6, 22), (8, 22), (12, 22), (14, 22), (17, 22), (19, 22), (1, 23), (3, 23), (6, 23), (8, 23), (12, 23), (14, 23), (17, 23), (19, 23), (22, 23), (12, 24), (14, 24), (17, 24), (19, 24)] (tO [3, 4, 6, 10, 11])) (.seq (.region r12_22 [] (tO [6, 7])) .ret))))))
noncomputable def cm12_0 : MCode := cm12_0g 
theorem gm12_0 : cm12_0.Good Try.prog E12_0 sh12 := ⟨trivial, ⟨⟨trivial, ⟨trivial, ⟨⟨trivial, trivial⟩, trivial⟩⟩⟩, ⟨⟨trivial, ⟨⟨trivial, trivial⟩, trivial⟩⟩, ⟨trivial, ⟨trivial, ⟨trivial, trivial⟩⟩⟩⟩⟩⟩
theorem fm12_0g (vf33_0 : Tf33_0) (vf34_0 : Tf34_0) (vf35_0 : Tf35_0) (vf35_1 : Tf35_1)  (α : Type) (k : List RV → Option α) : Fn12_0 (f12_0g vf33_0 vf34_0 vf35_0 vf35_1) α k = pa12_0.unc fun ds => fnM Try.prog (E12_0g vf33_0 vf34_0 vf35_0 vf35_1) sh12 (cm12_0g ) rs12 k ds := by kernel_rfl
theorem fm12_0 : ∀ (α : Type) (k : List RV → Option α), Fn12_0 f12_0 α k = pa12_0.unc fun ds => fnM Try.prog E12_0 sh12 cm12_0 rs12 k ds := fm12_0g f33_0 f34_0 f35_0 f35_1
theorem is12 : FnIs Try.prog 12 nt12 tr12 tl12 cm12_0.erase rs12 := ⟨Try.f12, Try.func12, rfl, by kernel_rfl, by kernel_rfl, by kernel_rfl⟩
theorem io12_0 : InstOk Try.prog 12 nt12 ⟨pa12_0, Fn12_0 f12_0⟩ := inst_ok eo12_0 followsTry is12 ⟨⟨sh12, cm12_0, by kernel_rfl, gm12_0, fm12_0⟩⟩
abbrev nt5 : Nat := 114
def sh5 : List (Nat × List Sh) := [(29, [.int .i64, .int .i64]), (44, [.int .i64, .int .i64]), (45, [.int .i64, .int .i64]), (50, [.int .i64]), (55, [.int .i64]), (61, [.int .i64]), (70, [.int .i64, .int .i64]), (79, [.int .i64]), (87, [.int .i64]), (104, [.int .i64]), (106, [.int .i64]), (109, [.int .i64]), (111, [.int .i64])]
def r5_2 : List AOper := [oO 6 (.mv (.const (.bool false)))]
def r5_5 : List AOper := [oO 15 (.call 7 []), oO 16 (.pure (oB (.unOp .not 4 (.tmp 15)) 4))]
def r5_8 : List AOper := [oO 6 (.mv (.const (.bool false)))]
def r5_10 : List AOper := [oM 18 0, oM 19 1, oM 20 2, oO 21 (.call 12 [(.tmp 18), (.tmp 19), (.tmp 20)]), oM 17 21, oO 22 (.extract 0 (.tmp 17)), oO 23 (.extract 1 (.tmp 17)), oO 7 (.alloc [(cI 0), (cI 0)]), oD (.store 2 (.tmp 7) (.tmp 22)), oM 8 23]
def r5_13 : List AOper := [oM 24 8, oO 25 (.bin .neq 29 (.tmp 24) (kI 0))]
def r5_16 : List AOper := [oM 26 8, oO 27 (.bin .eql 29 (.tmp 26) (kI 2)), oM 28 27, oG 29 (.load true 2 (.tmp 7)) 28 true, oG 30 (.build [(cI 0), (cI 0)] []) 28 true, oG 31 (.bin .eql 36 (.tmp 29) (.tmp 30)) 28 true, oO 32 (.pick (.tmp 28) (.tmp 31) (.const (.bool false))), oM 6 32]
def r5_18 : List AOper := [oM 34 1, oM 35 0, oM 36 2, oO 37 (.bin .sub 3 (kI 10000) (.tmp 36)), oO 38 (.call 12 [(.tmp 34), (.tmp 35), (.tmp 37)]), oM 33 38, oO 39 (.extract 0 (.tmp 33)), oO 40 (.extract 1 (.tmp 33)), oO 9 (.alloc [(cI 0), (cI 0)]), oD (.store 2 (.tmp 9) (.tmp 39)), oM 10 40]
def r5_21 : List AOper := [oM 41 10, oO 42 (.bin .neq 29 (.tmp 41) (kI 0)), oM 43 42, oG 44 (.load true 2 (.tmp 9)) 43 false, oG 45 (.load true 2 (.tmp 7)) 43 false, oG 46 (.bin .neq 36 (.tmp 44) (.tmp 45)) 43 false, oO 47 (.pick (.tmp 43) (.const (.bool true)) (.tmp 46)), oM 48 47, oG 49 (.faddr 0 (.tmp 7)) 48 false, oG 50 (.load false 1 (.tmp 49)) 48 false, oG 51 (.mv (.tmp 0)) 48 false, oG 52 (.mv (.tmp 1)) 48 false, oG 53 (.pure (oB (.call { callee := .builtin .min, args := #[(.tmp 51), (.tmp 52)], argTypes := #[3, 3] }) 3)) 48 false, oG 54 (.faddr 1 (.tmp 7)) 48 false, oG 55 (.load false 1 (.tmp 54)) 48 false, oG 56 (.call 16 [(.tmp 50), (.tmp 53), (.tmp 55)]) 48 false, oG 57 (.pure (oB (.unOp .not 4 (.tmp 56)) 4)) 48 false, oO 58 (.pick (.tmp 48) (.const (.bool true)) (.tmp 57)), oM 59 58, oG 60 (.faddr 1 (.tmp 7)) 59 false, oG 61 (.load false 1 (.tmp 60)) 59 false, oG 62 (.mv (.tmp 0)) 59 false, oG 63 (.mv (.tmp 1)) 59 false, oG 64 (.pure (oB (.call { callee := .builtin .max, args := #[(.tmp 62), (.tmp 63)], argTypes := #[3, 3] }) 3)) 59 false, oG 65 (.bin .gtr 3 (.tmp 61) (.tmp 64)) 59 false, oO 66 (.pick (.tmp 59) (.const (.bool true)) (.tmp 65))]
def r5_24 : List AOper := [oO 6 (.mv (.const (.bool false)))]
def r5_27 : List AOper := [oM 67 0, oM 68 1, oO 69 (.bin .eql 3 (.tmp 67) (.tmp 68))]
def r5_30 : List AOper := [oO 70 (.load true 2 (.tmp 7)), oM 71 0, oM 72 0, oO 73 (.build [(cI 0), (cI 0)] [(0, 1, (.tmp 71)), (1, 1, (.tmp 72))]), oO 74 (.bin .eql 36 (.tmp 70) (.tmp 73)), oM 6 74]
def r5_32 : List AOper := [oM 76 0, oM 77 1, oO 78 (.faddr 1 (.tmp 7)), oO 79 (.load false 1 (.tmp 78)), oO 80 (.call 13 [(.tmp 76), (.tmp 77), (.tmp 79)]), oM 75 80, oO 81 (.extract 0 (.tmp 75)), oO 82 (.extract 1 (.tmp 75)), oO 11 (.alloc [(cI 0), (cI 0)]), oD (.store 2 (.tmp 11) (.tmp 81)), oM 12 82]
def r5_34 : List AOper := [oM 84 0, oM 85 1, oO 86 (.faddr 1 (.tmp 7)), oO 87 (.load false 1 (.tmp 86)), oO 88 (.bin .sub 3 (.tmp 87) (kI 1)), oM 89 0, oM 90 1, oO 91 (.pure (oB (.call { callee := .builtin .min, args := #[(.tmp 89), (.tmp 90)], argTypes := #[3, 3] }) 3)), oO 92 (.pure (oB (.call { callee := .builtin .max, args := #[(.tmp 88), (.tmp 91)], argTypes := #[3, 3] }) 3)), oO 93 (.call 13 [(.tmp 84), (.tmp 85), (.tmp 92)]), oM 83 93, oO 94 (.extract 0 (.tmp 83)), oO 95 (.extract 1 (.tmp 83)), oO 13 (.alloc [(cI 0), (cI 0)]), oD (.store 2 (.tmp 13) (.tmp 94)), oM 14 95]
def r5_37 : List AOper := [oM 96 12, oO 97 (.bin .neq 29 (.tmp 96) (kI 0)), oM 98 97, oG 99 (.mv (.tmp 14)) 98 false, oG 100 (.bin .neq 29 (.tmp 99) (kI 0)) 98 false, oO 101 (.pick (.tmp 98) (.const (.bool true)) (.tmp 100))]
def r5_40 : List AOper := [oO 6 (.mv (.const (.bool false)))]
def r5_42 : List AOper := [oM 102 2, oO 103 (.faddr 0 (.tmp 13)), oO 104 (.load false 1 (.tmp 103)), oO 105 (.faddr 0 (.tmp 11)), oO 106 (.load false 1 (.tmp 105)), oO 107 (.pure (oB (.call { callee := .builtin .min, args := #[(.tmp 104), (.tmp 106)], argTypes := #[3, 3] }) 3)), oO 108 (.faddr 1 (.tmp 13)), oO 109 (.load false 1 (.tmp 108)), oO 110 (.faddr 1 (.tmp 11)), oO 111 (.load false 1 (.tmp 110)), oO 112 (.pure (oB (.call { callee := .builtin .max, args := #[(.tmp 109), (.tmp 111)], argTypes := #[3, 3] }) 3)), oO 113 (.call 16 [(.tmp 102), (.tmp 107), (.tmp 112)]), oM 6 113]
def tr5 : List (Nat × Tidy) := [tT 0 [0, 1, 2], tT 1 [0, 1, 2, 16], tT 2 [6], tT 3 [0, 1, 2, 7, 8], tT 4 [0, 1, 2, 7, 8, 25], tT 5 [6], tT 6 [0, 1, 2, 7, 9, 10], tT 7 [0, 1, 2, 7, 66], tT 8 [6], tT 9 [0, 1, 2, 7, 69], tT 10 [6], tT 11 [0, 1, 2, 7, 11, 12], tT 12 [2, 11, 12, 13, 14], tT 13 [2, 11, 13, 101], tT 14 [6], tT 15 [6]]
def tl5 : List (Nat × Tidy) := []
def rs5 : List AResV := [.tmp 6]
def pr5_0_0 : PT (List RV) := pRs [pR false [rD dB]]
def ur5_0_0 {β : Type} (g : List RV → β) : Bool → β := pr5_0_0.unc g
def E5_0g (vf7_0 : Tf7_0) (vf12_0 : Tf12_0) (vf16_0 : Tf16_0) (vf13_0 : Tf13_0) : EnvK := EnvK.of [⟨7, nt7, [⟨pa7_0, Fn7_0 vf7_0⟩]⟩, ⟨12, nt12, [⟨pa12_0, Fn12_0 vf12_0⟩]⟩, ⟨16, nt16, [⟨pa16_0, Fn16_0 vf16_0⟩]⟩, ⟨13, nt13, [⟨pa13_0, Fn13_0 vf13_0⟩]⟩] noSeq
noncomputable def E5_0 : EnvK := E5_0g f7_0 f12_0 f16_0 f13_0
theorem eo5_0 : E5_0.Ok Try.prog := EnvK.of_ok noSeq_ok ⟨⟨io7_0, trivial⟩, ⟨io12_0, trivial⟩, ⟨io16_0, trivial⟩, ⟨io13_0, trivial⟩, trivial⟩
abbrev Tf5_0 : Type 1 := (α : Type) → Int → Int → Int → (Bool → Option α) → Option α
def f5_0g (vf12_0 : Tf12_0) (vf13_0 : Tf13_0) (vf16_0 : Tf16_0) (vf7_0 : Tf7_0) (α : Type) (x1 x2 x3 : Int) (k1 : Bool → Option α) : Option α :=
 vf7_0 α 
 (vf12_0 α x1 x2 x3
 (fun x4 x5 x6 => cK (x6 != 0)
 (cK (x6 == 2)
 (k1 ((x4 == 0) && ((x5 == 0) && true)))
 (k1 false))
 (vf12_0 α x2 x1 (w64 (10000 - x3))
 (fun x7 x8 x9 => cK (x9 != 0)
 (k1 false)
 (cK (!((x7 == x4) && ((x8 == x5) && true)))
 (k1 false)
 (vf16_0 α x4 (if x2 < x1 then x2 else x1) x5
 (fun x10 => cK (!x10)
 (k1 false)
 (cK (decide ((if x2 > x1 then x2 else x1) < x5))
 (k1 false)
 (cK (x1 == x2)
 (k1 ((x4 == x1) && ((x5 == x1) && true)))
 (vf13_0 α x1 x2 x5
 (fun x11 x12 x13 => vf13_0 α x1 x2 (if (if x2 < x1 then x2 else x1) > (w64 (x5 - 1)) then (if x2 < x1 then x2 else x1) else (w64 (x5 - 1)))
 (fun x14 x15 x16 => cK (x13 != 0)
 (k1 false)
 (cK (x16 != 0)
 (k1 false)
 (vf16_0 α x3 (if x11 < x14 then x11 else x14) (if x12 > x15 then x12 else x15)
 (fun x17 => k1 x17)))))))))))))))
noncomputable def f5_0 (α : Type) (x1 x2 x3 : Int) (k1 : Bool → Option α) : Option α := f5_0g f12_0 f13_0 f16_0 f7_0 α x1 x2 x3 k1
def pa5_0 : PT (List DV) := pA [pV false [(dI .i64)], pV false [(dI .i64)], pV false [(dI .i64)]]
def Fn5_0 (v : Tf5_0) (α : Type) (k : List RV → Option α) : Int → Int → Int → Option α := fun x1 x2 x3 => v α x1 x2 x3 (fun (y1 : Bool) => ur5_0_0 k y1)
noncomputable def cm5_0g  : MCode := (.seq (.region r5_2 [] (tO [0, 1, 2])) (.seq (.seq (.region r5_5 [] (tO [0, 1, 2, 16])) (.cond (.tmp 16) (.seq (.region r5_8 [] (tO [6])) .ret) .skip)) (.seq (.region r5_10 [] (tO [0, 1, 2, 7, 8])) (.seq (.seq (.region r5_13 [] (tO [0, 1, 2, 7, 8, 25])) (.cond (.tmp 25) (.seq (.region r5_16 [] (tO [6])) .ret) .skip)) (.seq (.region r5_18 [] (tO [0, 1, 2, 7, 9, 10])) (.seq (.seq (.region r5_21 [] (tO [0, 1, 2, 7, 66])) (.cond (.tmp 66) (.seq (.region r5_24 [] (tO [6])) .ret) .skip)) (.seq (.seq (.region r5_27 [] (tO [0, 1, 2, 7, 69])) (.cond (.tmp 69) (.seq (.region r5_30 [] (tO [6])) .ret) .skip)) (.seq (.region r5_32 [] (tO [0, 1, 2, 7, 11, 12])) (.seq (.region r5_34 [] (tO [2, 11, 12, 13, 14])) (.seq (.seq (.region r5_37 [] (tO [2, 11, 13, 101])) (.cond (.tmp 101) (.seq (.region r5_40 [] (tO [6])) .ret) .skip)) (.seq (.region r5_42 [] (tO [6])) .ret)))))))))))
noncomputable def cm5_0 : MCode := cm5_0g 
theorem gm5_0 : cm5_0.Good Try.prog E5_0 sh5 := ⟨trivial, ⟨⟨trivial, ⟨⟨trivial, trivial⟩, trivial⟩⟩, ⟨trivial, ⟨⟨trivial, ⟨⟨trivial, trivial⟩, trivial⟩⟩, ⟨trivial, ⟨⟨trivial, ⟨⟨trivial, trivial⟩, trivial⟩⟩, ⟨⟨trivial, ⟨⟨trivial, trivial⟩, trivial⟩⟩, ⟨trivial, ⟨trivial, ⟨⟨trivial, ⟨⟨trivial, trivial⟩, trivial⟩⟩, ⟨trivial, trivial⟩⟩⟩⟩⟩⟩⟩⟩⟩⟩⟩
theorem fm5_0g (vf7_0 : Tf7_0) (vf12_0 : Tf12_0) (vf16_0 : Tf16_0) (vf13_0 : Tf13_0)  (α : Type) (k : List RV → Option α) : Fn5_0 (f5_0g vf12_0 vf13_0 vf16_0 vf7_0) α k = pa5_0.unc fun ds => fnM Try.prog (E5_0g vf7_0 vf12_0 vf16_0 vf13_0) sh5 (cm5_0g ) rs5 k ds := by kernel_rfl
theorem fm5_0 : ∀ (α : Type) (k : List RV → Option α), Fn5_0 f5_0 α k = pa5_0.unc fun ds => fnM Try.prog E5_0 sh5 cm5_0 rs5 k ds := fm5_0g f7_0 f12_0 f16_0 f13_0
theorem is5 : FnIs Try.prog 5 nt5 tr5 tl5 cm5_0.erase rs5 := ⟨Try.f5, Try.func5, rfl, by kernel_rfl, by kernel_rfl, by kernel_rfl⟩
theorem io5_0 : InstOk Try.prog 5 nt5 ⟨pa5_0, Fn5_0 f5_0⟩ := inst_ok eo5_0 followsTry is5 ⟨⟨sh5, cm5_0, by kernel_rfl, gm5_0, fm5_0⟩⟩
end Go.AM.K
