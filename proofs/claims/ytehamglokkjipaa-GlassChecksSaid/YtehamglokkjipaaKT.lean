/- Printed by KGen. -/
import Derived.Test.YtehamglokkjipaaAcX
import Derived.Test.YtehamglokkjipaaKMa
namespace Go.AM.K
open Go.Proofs
set_option maxRecDepth 100000
set_option linter.unusedVariables false
abbrev nt42 : Nat := 22
def sh42 : List (Nat × List Sh) := []
def r42_2 : List AOper := [oO 2 (.mv (kI 0))]
def r42_4 : List AOper := [oO 3 (.mv (kI 0)), oO 4 (.mv (kI 1073741824))]
def td42_7 : Option Tidy := (tO [0, 3, 4])
def r42_10 : List AOper := [oM 5 4, oO 6 (.bin .gtr 3 (.tmp 5) (kI 0))]
def r42_15 : List AOper := [oM 7 3, oM 8 4, oO 9 (.bin .add 3 (.tmp 7) (.tmp 8)), oM 10 3, oM 11 4, oO 12 (.bin .add 3 (.tmp 10) (.tmp 11)), oO 13 (.bin .mul 3 (.tmp 9) (.tmp 12)), oM 14 0, oO 15 (.bin .leq 3 (.tmp 13) (.tmp 14))]
def r42_17 : List AOper := [oM 16 3, oM 17 4, oO 18 (.bin .add 3 (.tmp 16) (.tmp 17)), oM 3 18]
def r42_18 : List AOper := [oM 19 4, oO 20 (.bin .quo 3 (.tmp 19) (kI 2)), oM 4 20]
def r42_20 : List AOper := [oM 21 3, oM 2 21]
def tr42 : List (Nat × Tidy) := [tT 0 [0], tT 1 [0, 3, 4], tT 2 [0, 3, 4, 6], tT 3 [0, 3, 4, 15], tT 4 [0, 3, 4], tT 5 [0, 3, 4], tT 6 [2]]
def tl42 : List (Nat × Tidy) := [tT 2 [0, 3, 4]]
def rs42 : List AResV := [.tmp 2]
def p42_0_0 : PT St := pS [sl 0 (aV false [(cD (dI .i64))]), sl 3 (aV false [(cD (dI .i64))]), sl 4 (aV false [(cD (dI .i64))])] []
def u42_0_0 {β : Type} (g : St → β) : Int → Int → Int → β := p42_0_0.unc g
def p42_0_1 : PT St := pS [sl 0 (aV false [(cD (dI .i64))]), sl 3 (aV false [(cD (dI .i64))]), sl 4 (aV false [(cD (dI .i64))]), sl 6 (aV false [(cD dB)])] []
def u42_0_1 {β : Type} (g : St → β) : Int → Int → Int → Bool → β := p42_0_1.unc g
def pr42_0_0 : PT (List RV) := pRs [pR false [rD (dI .i64)]]
def ur42_0_0 {β : Type} (g : List RV → β) : Int → β := pr42_0_0.unc g
def E42_0g  : EnvK := EnvK.of [] noSeq
noncomputable def E42_0 : EnvK := E42_0g 
theorem eo42_0 : E42_0.Ok Try.prog := EnvK.of_ok noSeq_ok trivial
noncomputable def c42_0_7g  : MCode := (.seq (.seq (.region r42_10 [] (tO [0, 3, 4, 6])) (.cond (.tmp 6) .skip (.exit 0))) (.block 1 (.seq (.seq (.region r42_15 [] (tO [0, 3, 4, 15])) (.cond (.tmp 15) (.region r42_17 [] (tO [0, 3, 4])) .skip)) (.region r42_18 [] (tO [0, 3, 4])))))
noncomputable def c42_0_7 : MCode := c42_0_7g 
theorem g42_0_7 : c42_0_7.Good Try.prog E42_0 sh42 := ⟨⟨trivial, ⟨trivial, trivial⟩⟩, ⟨⟨trivial, ⟨trivial, trivial⟩⟩, trivial⟩⟩
--CODE 7 0
def S42_0_0g  (α : Type) (x2 x3 x4 : Int) (kn : Int → Int → Option α) (k1 : Int → Int → Bool → Option α) : Option α :=
 cK (decide (0 < x4))
 (cK (decide ((w64 ((w64 (x3 + x4)) * (w64 (x3 + x4)))) ≤ x2))
 (kn (w64 (x3 + x4)) (w64 (Int.tdiv x4 2)))
 (kn x3 (w64 (Int.tdiv x4 2))))
 (k1 x3 x4 (decide (0 < x4)))
noncomputable def S42_0_0 (α : Type) (x2 x3 x4 : Int) (kn : Int → Int → Option α) (k1 : Int → Int → Bool → Option α) : Option α := S42_0_0g  α x2 x3 x4 kn k1
noncomputable def R42_0_0 (α : Type) (x2 : Int) (k1 : Int → Int → Bool → Option α) : Nat → Int → Int → Option α
 | 0, _, _ => none
 | n + 1, x3, x4 => S42_0_0 α x2 x3 x4 (R42_0_0 α x2 k1 n) k1
noncomputable def L42_0_0 (α : Type) (x2 : Int) (k1 : Int → Int → Bool → Option α) (x3 x4 : Int) : Option α := R42_0_0 α x2 k1 fuel x3 x4
abbrev TL42_0_0 : Type 1 := (α : Type) → Int → (Int → Int → Bool → Option α) → Int → Int → Option α
def F42_0_0 (v : TL42_0_0) (α : Type) (K : Exit → St → Option α) : Int → Int → Int → Option α := fun x2 x3 x4 => v α x2 (fun (y1 : Int) (y2 : Int) (y3 : Bool) => u42_0_1 (K (.exit 0)) x2 y1 y2 y3) x3 x4
theorem r42_0_0g   (α : Type) (K : Exit → St → Option α) (Kn : St → Option α) (x2 x3 x4 : Int) : u42_0_0 (fun σ => runM Try.prog (E42_0g ) sh42 (c42_0_7g ) (thenK (fun σ => tidyK td42_7 σ Kn) K) σ) x2 x3 x4 = S42_0_0g  α x2 x3 x4 (fun x3 x4 => u42_0_0 Kn x2 x3 x4) (fun (y1 : Int) (y2 : Int) (y3 : Bool) => u42_0_1 (K (.exit 0)) x2 y1 y2 y3) := by kernel_rfl
theorem r42_0_0 (α : Type) (K : Exit → St → Option α) (Kn : St → Option α) (x2 x3 x4 : Int) : u42_0_0 (fun σ => runM Try.prog E42_0 sh42 c42_0_7 (thenK (fun σ => tidyK td42_7 σ Kn) K) σ) x2 x3 x4 = S42_0_0 α x2 x3 x4 (fun x3 x4 => u42_0_0 Kn x2 x3 x4) (fun (y1 : Int) (y2 : Int) (y3 : Bool) => u42_0_1 (K (.exit 0)) x2 y1 y2 y3) := r42_0_0g  α K Kn x2 x3 x4
theorem t42_0_0 (α : Type) (K : Exit → St → Option α) : ∀ (n : Nat) (x2 x3 x4 : Int), R42_0_0 α x2 (fun (y1 : Int) (y2 : Int) (y3 : Bool) => u42_0_1 (K (.exit 0)) x2 y1 y2 y3) n x3 x4 = u42_0_0 (loopT (runM Try.prog E42_0 sh42 c42_0_7) td42_7 K n) x2 x3 x4 := by
 intro n
 induction n with
 | zero => intros; rfl
 | succ n ih => intro x2 x3 x4; exact (congrArg (fun kn => S42_0_0 α x2 x3 x4 kn (fun (y1 : Int) (y2 : Int) (y3 : Bool) => u42_0_1 (K (.exit 0)) x2 y1 y2 y3)) (funext fun x3 => funext fun x4 => ih x2 x3 x4)).trans (r42_0_0 α K (loopT (runM Try.prog E42_0 sh42 c42_0_7) td42_7 K n) x2 x3 x4).symm
theorem m42_0_0 : ∀ (α : Type) (K : Exit → St → Option α), F42_0_0 L42_0_0 α K = p42_0_0.unc fun σ => loopT (runM Try.prog E42_0 sh42 c42_0_7) td42_7 K fuel σ := fun α K => funext fun x2 => funext fun x3 => funext fun x4 => t42_0_0 α K fuel x2 x3 x4
abbrev Tf42_0 : Type 1 := (α : Type) → Int → (Int → Option α) → Option α
def f42_0g (vL42_0_0 : TL42_0_0) (α : Type) (x1 : Int) (k1 : Int → Option α) : Option α :=
 vL42_0_0 α x1
 (fun x6 x7 x8 => k1 x6) 0 1073741824
noncomputable def f42_0 (α : Type) (x1 : Int) (k1 : Int → Option α) : Option α := f42_0g L42_0_0 α x1 k1
def pa42_0 : PT (List DV) := pA [pV false [(dI .i64)]]
def Fn42_0 (v : Tf42_0) (α : Type) (k : List RV → Option α) : Int → Option α := fun x1 => v α x1 (fun (y1 : Int) => ur42_0_0 k y1)
noncomputable def cm42_0g (vL42_0_0 : TL42_0_0) : MCode := (.seq (.region r42_2 [] (tO [0])) (.seq (.region r42_4 [] (tO [0, 3, 4])) (.seq (.block 0 (.loop td42_7 [⟨p42_0_0, F42_0_0 vL42_0_0⟩] c42_0_7)) (.seq (.region r42_20 [] (tO [2])) .ret))))
noncomputable def cm42_0 : MCode := cm42_0g L42_0_0
theorem gm42_0 : cm42_0.Good Try.prog E42_0 sh42 := ⟨trivial, ⟨trivial, ⟨⟨g42_0_7, m42_0_0, trivial⟩, ⟨trivial, trivial⟩⟩⟩⟩
theorem fm42_0g  (vL42_0_0 : TL42_0_0) (α : Type) (k : List RV → Option α) : Fn42_0 (f42_0g vL42_0_0) α k = pa42_0.unc fun ds => fnM Try.prog (E42_0g ) sh42 (cm42_0g vL42_0_0) rs42 k ds := by kernel_rfl
theorem fm42_0 : ∀ (α : Type) (k : List RV → Option α), Fn42_0 f42_0 α k = pa42_0.unc fun ds => fnM Try.prog E42_0 sh42 cm42_0 rs42 k ds := fm42_0g L42_0_0
theorem is42 : FnIs Try.prog 42 nt42 tr42 tl42 cm42_0.erase rs42 := ⟨Try.f42, Try.func42, rfl, by kernel_rfl, by kernel_rfl, by kernel_rfl⟩
theorem io42_0 : InstOk Try.prog 42 nt42 ⟨pa42_0, Fn42_0 f42_0⟩ := inst_ok eo42_0 followsTry is42 ⟨⟨sh42, cm42_0, by kernel_rfl, gm42_0, fm42_0⟩⟩
abbrev nt43 : Nat := 16
def sh43 : List (Nat × List Sh) := []
def r43_2 : List AOper := [oO 4 (.mv (kI 0))]
def r43_4 : List AOper := [oM 6 0, oM 7 1, oO 8 (.bin .quo 3 (.tmp 6) (.tmp 7)), oM 5 8]
def r43_7 : List AOper := [oM 9 0, oM 10 1, oO 11 (.bin .rem 3 (.tmp 9) (.tmp 10)), oO 12 (.bin .lss 3 (.tmp 11) (kI 0))]
def r43_9 : List AOper := [oM 13 5, oO 14 (.bin .sub 3 (.tmp 13) (kI 1)), oM 5 14]
def r43_11 : List AOper := [oM 15 5, oM 4 15]
def tr43 : List (Nat × Tidy) := [tT 0 [0, 1], tT 1 [0, 1, 5], tT 2 [5, 12], tT 3 [5], tT 4 [4]]
def tl43 : List (Nat × Tidy) := []
def rs43 : List AResV := [.tmp 4]
def pr43_0_0 : PT (List RV) := pRs [pR false [rD (dI .i64)]]
def ur43_0_0 {β : Type} (g : List RV → β) : Int → β := pr43_0_0.unc g
def E43_0g  : EnvK := EnvK.of [] noSeq
noncomputable def E43_0 : EnvK := E43_0g 
theorem eo43_0 : E43_0.Ok Try.prog := EnvK.of_ok noSeq_ok trivial
abbrev Tf43_0 : Type 1 := (α : Type) → Int → Int → (Int → Option α) → Option α
def f43_0g  (α : Type) (x1 x2 : Int) (k1 : Int → Option α) : Option α :=
 gK (x2 != 0) (gK (x2 != 0) (cK (decide ((Int.tmod x1 x2) < 0))
 (k1 (w64 ((w64 (Int.tdiv x1 x2)) - 1)))
 (k1 (w64 (Int.tdiv x1 x2)))))
noncomputable def f43_0 (α : Type) (x1 x2 : Int) (k1 : Int → Option α) : Option α := f43_0g  α x1 x2 k1
def pa43_0 : PT (List DV) := pA [pV false [(dI .i64)], pV false [(dI .i64)]]
def Fn43_0 (v : Tf43_0) (α : Type) (k : List RV → Option α) : Int → Int → Option α := fun x1 x2 => v α x1 x2 (fun (y1 : Int) => ur43_0_0 k y1)
noncomputable def cm43_0g  : MCode := (.seq (.region r43_2 [] (tO [0, 1])) (.seq (.region r43_4 [] (tO [0, 1, 5])) (.seq (.seq (.region r43_7 [] (tO [5, 12])) (.cond (.tmp 12) (.region r43_9 [] (tO [5])) .skip)) (.seq (.region r43_11 [] (tO [4])) .ret))))
noncomputable def cm43_0 : MCode := cm43_0g 
theorem gm43_0 : cm43_0.Good Try.prog E43_0 sh43 := ⟨trivial, ⟨trivial, ⟨⟨trivial, ⟨trivial, trivial⟩⟩, ⟨trivial, trivial⟩⟩⟩⟩
theorem fm43_0g   (α : Type) (k : List RV → Option α) : Fn43_0 (f43_0g ) α k = pa43_0.unc fun ds => fnM Try.prog (E43_0g ) sh43 (cm43_0g ) rs43 k ds := by kernel_rfl
theorem fm43_0 : ∀ (α : Type) (k : List RV → Option α), Fn43_0 f43_0 α k = pa43_0.unc fun ds => fnM Try.prog E43_0 sh43 cm43_0 rs43 k ds := fm43_0g 
theorem is43 : FnIs Try.prog 43 nt43 tr43 tl43 cm43_0.erase rs43 := ⟨Try.f43, Try.func43, rfl, by kernel_rfl, by kernel_rfl, by kernel_rfl⟩
theorem io43_0 : InstOk Try.prog 43 nt43 ⟨pa43_0, Fn43_0 f43_0⟩ := inst_ok eo43_0 followsTry is43 ⟨⟨sh43, cm43_0, by kernel_rfl, gm43_0, fm43_0⟩⟩
abbrev nt61 : Nat := 18
def sh61 : List (Nat × List Sh) := [(5, [.int .i64]), (7, [.int .i64]), (10, [.int .i64]), (12, [.int .i64])]
def r61_2 : List AOper := [oO 1 (.box (.tmp 0)), oO 2 (.mv (kI 0))]
def r61_4 : List AOper := [oO 4 (.faddr 0 (.tmp 1)), oO 5 (.load false 1 (.tmp 4)), oO 6 (.faddr 1 (.tmp 1)), oO 7 (.load false 1 (.tmp 6)), oO 8 (.bin .quo 3 (.tmp 5) (.tmp 7)), oM 3 8]
def r61_7 : List AOper := [oO 9 (.faddr 0 (.tmp 1)), oO 10 (.load false 1 (.tmp 9)), oO 11 (.faddr 1 (.tmp 1)), oO 12 (.load false 1 (.tmp 11)), oO 13 (.bin .rem 3 (.tmp 10) (.tmp 12)), oO 14 (.bin .lss 3 (.tmp 13) (kI 0))]
def r61_9 : List AOper := [oM 15 3, oO 16 (.bin .sub 3 (.tmp 15) (kI 1)), oM 3 16]
def r61_11 : List AOper := [oM 17 3, oM 2 17]
def tr61 : List (Nat × Tidy) := [tT 0 [1], tT 1 [1, 3], tT 2 [3, 14], tT 3 [3], tT 4 [2]]
def tl61 : List (Nat × Tidy) := []
def rs61 : List AResV := [.tmp 2]
def pr61_0_0 : PT (List RV) := pRs [pR false [rD (dI .i64)]]
def ur61_0_0 {β : Type} (g : List RV → β) : Int → β := pr61_0_0.unc g
def E61_0g  : EnvK := EnvK.of [] noSeq
noncomputable def E61_0 : EnvK := E61_0g 
theorem eo61_0 : E61_0.Ok Try.prog := EnvK.of_ok noSeq_ok trivial
abbrev Tf61_0 : Type 1 := (α : Type) → Int → Int → (Int → Option α) → Option α
def f61_0g  (α : Type) (x1 x2 : Int) (k1 : Int → Option α) : Option α :=
 gK (x2 != 0) (gK (x2 != 0) (cK (decide ((Int.tmod x1 x2) < 0))
 (k1 (w64 ((w64 (Int.tdiv x1 x2)) - 1)))
 (k1 (w64 (Int.tdiv x1 x2)))))
noncomputable def f61_0 (α : Type) (x1 x2 : Int) (k1 : Int → Option α) : Option α := f61_0g  α x1 x2 k1
def pa61_0 : PT (List DV) := pA [pV true [(dI .i64), (dI .i64)]]
def Fn61_0 (v : Tf61_0) (α : Type) (k : List RV → Option α) : Int → Int → Option α := fun x1 x2 => v α x1 x2 (fun (y1 : Int) => ur61_0_0 k y1)
noncomputable def cm61_0g  : MCode := (.seq (.region r61_2 [] (tO [1])) (.seq (.region r61_4 [] (tO [1, 3])) (.seq (.seq (.region r61_7 [] (tO [3, 14])) (.cond (.tmp 14) (.region r61_9 [] (tO [3])) .skip)) (.seq (.region r61_11 [] (tO [2])) .ret))))
noncomputable def cm61_0 : MCode := cm61_0g 
theorem gm61_0 : cm61_0.Good Try.prog E61_0 sh61 := ⟨trivial, ⟨trivial, ⟨⟨trivial, ⟨trivial, trivial⟩⟩, ⟨trivial, trivial⟩⟩⟩⟩
theorem fm61_0g   (α : Type) (k : List RV → Option α) : Fn61_0 (f61_0g ) α k = pa61_0.unc fun ds => fnM Try.prog (E61_0g ) sh61 (cm61_0g ) rs61 k ds := by kernel_rfl
theorem fm61_0 : ∀ (α : Type) (k : List RV → Option α), Fn61_0 f61_0 α k = pa61_0.unc fun ds => fnM Try.prog E61_0 sh61 cm61_0 rs61 k ds := fm61_0g 
theorem is61 : FnIs Try.prog 61 nt61 tr61 tl61 cm61_0.erase rs61 := ⟨Try.f61, Try.func61, rfl, by kernel_rfl, by kernel_rfl, by kernel_rfl⟩
theorem io61_0 : InstOk Try.prog 61 nt61 ⟨pa61_0, Fn61_0 f61_0⟩ := inst_ok eo61_0 followsTry is61 ⟨⟨sh61, cm61_0, by kernel_rfl, gm61_0, fm61_0⟩⟩
abbrev nt38 : Nat := 10
def sh38 : List (Nat × List Sh) := [(8, [.int .i64])]
def r38_2 : List AOper := [oO 3 (.mv (.const (.bool false)))]
def r38_4 : List AOper := [oM 4 0, oO 5 (.bin .mul 3 (kI 10000) (.tmp 4)), oM 6 0, oO 7 (.bin .mul 3 (.tmp 5) (.tmp 6)), oO 8 (.load false 1 (.tmp 1)), oO 9 (.bin .lss 3 (.tmp 7) (.tmp 8)), oM 3 9]
def tr38 : List (Nat × Tidy) := [tT 0 [0, 1], tT 1 [3]]
def tl38 : List (Nat × Tidy) := []
def rs38 : List AResV := [.tmp 3]
def pr38_0_0 : PT (List RV) := pRs [pR false [rD dB]]
def ur38_0_0 {β : Type} (g : List RV → β) : Bool → β := pr38_0_0.unc g
def E38_0g  : EnvK := EnvK.of [] noSeq
noncomputable def E38_0 : EnvK := E38_0g 
theorem eo38_0 : E38_0.Ok Try.prog := EnvK.of_ok noSeq_ok trivial
abbrev Tf38_0 : Type 1 := (α : Type) → Int → Int → (Bool → Option α) → Option α
def f38_0g  (α : Type) (x1 x2 : Int) (k1 : Bool → Option α) : Option α :=
 k1 (decide ((w64 ((w64 (10000 * x1)) * x1)) < x2))
noncomputable def f38_0 (α : Type) (x1 x2 : Int) (k1 : Bool → Option α) : Option α := f38_0g  α x1 x2 k1
def pa38_0 : PT (List DV) := pA [pV false [(dI .i64)], pV false [(dP [(dI .i64)] 0)]]
def Fn38_0 (v : Tf38_0) (α : Type) (k : List RV → Option α) : Int → Int → Option α := fun x1 x2 => v α x1 x2 (fun (y1 : Bool) => ur38_0_0 k y1)
noncomputable def cm38_0g  : MCode := (.seq (.region r38_2 [] (tO [0, 1])) (.seq (.region r38_4 [] (tO [3])) .ret))
noncomputable def cm38_0 : MCode := cm38_0g 
theorem gm38_0 : cm38_0.Good Try.prog E38_0 sh38 := ⟨trivial, ⟨trivial, trivial⟩⟩
theorem fm38_0g   (α : Type) (k : List RV → Option α) : Fn38_0 (f38_0g ) α k = pa38_0.unc fun ds => fnM Try.prog (E38_0g ) sh38 (cm38_0g ) rs38 k ds := by kernel_rfl
theorem fm38_0 : ∀ (α : Type) (k : List RV → Option α), Fn38_0 f38_0 α k = pa38_0.unc fun ds => fnM Try.prog E38_0 sh38 cm38_0 rs38 k ds := fm38_0g 
theorem is38 : FnIs Try.prog 38 nt38 tr38 tl38 cm38_0.erase rs38 := ⟨Try.f38, Try.func38, rfl, by kernel_rfl, by kernel_rfl, by kernel_rfl⟩
theorem io38_0 : InstOk Try.prog 38 nt38 ⟨pa38_0, Fn38_0 f38_0⟩ := inst_ok eo38_0 followsTry is38 ⟨⟨sh38, cm38_0, by kernel_rfl, gm38_0, fm38_0⟩⟩
abbrev nt59 : Nat := 18
def sh59 : List (Nat × List Sh) := [(10, [.int .i64]), (11, [.int .i64])]
def r59_2 : List AOper := [oO 2 (.mv (kI 0))]
def r59_4 : List AOper := [oO 3 (.mv (kI 0))]
def r59_7 : List AOper := [oM 6 0, oO 7 (.len (.tmp 6)), oO 8 (.mv (kI 0))]
def td59_9 : Option Tidy := (some ⟨[3, 6, 7, 8], true, [⟨false, 6, 0, 20006, 1⟩], []⟩)
def r59_11 : List AOper := [oO 9 (.bin .lss 3 (.tmp 8) (.tmp 7))]
def r59_17 : List AOper := [oO 10 (.iaddr 1 none (.tmp 6) (.tmp 8)), oO 11 (.load false 1 (.tmp 10)), oM 5 11]
def r59_19 : List AOper := [oM 12 5, oM 13 3, oO 14 (.bin .neq 3 (.tmp 12) (.tmp 13))]
def r59_22 : List AOper := [oM 15 5, oM 2 15]
def r59_23 : List AOper := [oO 16 (.bin .add 3 (.tmp 8) (kI 1)), oM 8 16]
def r59_25 : List AOper := [oM 17 3, oM 2 17]
def tr59 : List (Nat × Tidy) := [tT 0 [0], tT 1 [0, 3], tT 2 [3, 6, 7, 8], tT 3 [3, 6, 7, 8, 9], tT 4 [3, 5, 6, 7, 8], tT 5 [3, 5, 6, 7, 8, 14], tT 6 [2], tT 7 [3, 6, 7, 8], tT 8 [2]]
def tl59 : List (Nat × Tidy) := [(3, ⟨[3, 6, 7, 8], true, [⟨false, 6, 0, 20006, 1⟩], []⟩)]
def rs59 : List AResV := [.tmp 2]
def p59_0_0 : PT St := pS [sl 3 (aV false [(cD (dI .i64))]), sl 6 (aV false [(cD dL)]), sl 7 (aV false [(cD (dI .i64))]), sl 8 (aV false [(cD (dI .i64))])] []
def u59_0_0 {β : Type} (g : St → β) : Int → Rows → Int → Int → β := p59_0_0.unc g
def p59_0_1 : PT St := pS [sl 2 (aV false [(cD (dI .i64))])] []
def u59_0_1 {β : Type} (g : St → β) : Int → β := p59_0_1.unc g
def p59_0_2 : PT St := pS [sl 3 (aV false [(cD (dI .i64))]), sl 6 (aV false [(cD dL)]), sl 7 (aV false [(cD (dI .i64))]), sl 8 (aV false [(cD (dI .i64))]), sl 9 (aV false [(cD dB)])] []
def u59_0_2 {β : Type} (g : St → β) : Int → Rows → Int → Int → Bool → β := p59_0_2.unc g
def pr59_0_0 : PT (List RV) := pRs [pR false [rD (dI .i64)]]
def ur59_0_0 {β : Type} (g : List RV → β) : Int → β := pr59_0_0.unc g
def E59_0g  : EnvK := EnvK.of [] noSeq
noncomputable def E59_0 : EnvK := E59_0g 
theorem eo59_0 : E59_0.Ok Try.prog := EnvK.of_ok noSeq_ok trivial
noncomputable def c59_0_9g  : MCode := (.seq (.region r59_11 [] (tO [3, 6, 7, 8, 9])) (.seq (.cond (.tmp 9) .skip (.exit 0)) (.seq (.block 1 (.seq (.region r59_17 [] (tO [3, 5, 6, 7, 8])) (.seq (.region r59_19 [] (tO [3, 5, 6, 7, 8, 14])) (.cond (.tmp 14) (.seq (.region r59_22 [] (tO [2])) .ret) .skip)))) (.region r59_23 [] (tO [3, 6, 7, 8])))))
noncomputable def c59_0_9 : MCode := c59_0_9g 
theorem g59_0_9 : c59_0_9.Good Try.prog E59_0 sh59 := ⟨trivial, ⟨⟨trivial, trivial⟩, ⟨⟨trivial, ⟨trivial, ⟨⟨trivial, trivial⟩, trivial⟩⟩⟩, trivial⟩⟩⟩
--CODE 9 0
def S59_0_0g  (α : Type) (x2 : Int) (x3 : Rows) (x4 x5 : Int) (kn : Int → Option α) (k1 : Int → Option α) (k2 : Int → Bool → Option α) : Option α :=
 cK (decide (x5 < x4))
 (rowK x3 x5 [.int .i64]
 (fun x7 => cK (x7 != x2)
 (k1 x7)
 (kn (w64 (x5 + 1)))))
 (k2 x5 (decide (x5 < x4)))
noncomputable def S59_0_0 (α : Type) (x2 : Int) (x3 : Rows) (x4 x5 : Int) (kn : Int → Option α) (k1 : Int → Option α) (k2 : Int → Bool → Option α) : Option α := S59_0_0g  α x2 x3 x4 x5 kn k1 k2
noncomputable def R59_0_0 (α : Type) (x2 : Int) (x3 : Rows) (x4 : Int) (k1 : Int → Option α) (k2 : Int → Bool → Option α) : Nat → Int → Option α
 | 0, _ => none
 | n + 1, x5 => S59_0_0 α x2 x3 x4 x5 (R59_0_0 α x2 x3 x4 k1 k2 n) k1 k2
noncomputable def L59_0_0 (α : Type) (x2 : Int) (x3 : Rows) (x4 : Int) (k1 : Int → Option α) (k2 : Int → Bool → Option α) (x5 : Int) : Option α := R59_0_0 α x2 x3 x4 k1 k2 fuel x5
abbrev TL59_0_0 : Type 1 := (α : Type) → Int → Rows → Int → (Int → Option α) → (Int → Bool → Option α) → Int → Option α
def F59_0_0 (v : TL59_0_0) (α : Type) (K : Exit → St → Option α) : Int → Rows → Int → Int → Option α := fun x2 x3 x4 x5 => v α x2 x3 x4 (fun (y1 : Int) => u59_0_1 (K .ret) y1) (fun (y1 : Int) (y2 : Bool) => u59_0_2 (K (.exit 0)) x2 x3 x4 y1 y2) x5
theorem r59_0_0g   (α : Type) (K : Exit → St → Option α) (Kn : St → Option α) (x2 : Int) (x3 : Rows) (x4 x5 : Int) : u59_0_0 (fun σ => runM Try.prog (E59_0g ) sh59 (c59_0_9g ) (thenK (fun σ => tidyK td59_9 σ Kn) K) σ) x2 x3 x4 x5 = S59_0_0g  α x2 x3 x4 x5 (fun x5 => u59_0_0 Kn x2 x3 x4 x5) (fun (y1 : Int) => u59_0_1 (K .ret) y1) (fun (y1 : Int) (y2 : Bool) => u59_0_2 (K (.exit 0)) x2 x3 x4 y1 y2) := by kernel_rfl
theorem r59_0_0 (α : Type) (K : Exit → St → Option α) (Kn : St → Option α) (x2 : Int) (x3 : Rows) (x4 x5 : Int) : u59_0_0 (fun σ => runM Try.prog E59_0 sh59 c59_0_9 (thenK (fun σ => tidyK td59_9 σ Kn) K) σ) x2 x3 x4 x5 = S59_0_0 α x2 x3 x4 x5 (fun x5 => u59_0_0 Kn x2 x3 x4 x5) (fun (y1 : Int) => u59_0_1 (K .ret) y1) (fun (y1 : Int) (y2 : Bool) => u59_0_2 (K (.exit 0)) x2 x3 x4 y1 y2) := r59_0_0g  α K Kn x2 x3 x4 x5
theorem t59_0_0 (α : Type) (K : Exit → St → Option α) : ∀ (n : Nat) (x2 : Int) (x3 : Rows) (x4 x5 : Int), R59_0_0 α x2 x3 x4 (fun (y1 : Int) => u59_0_1 (K .ret) y1) (fun (y1 : Int) (y2 : Bool) => u59_0_2 (K (.exit 0)) x2 x3 x4 y1 y2) n x5 = u59_0_0 (loopT (runM Try.prog E59_0 sh59 c59_0_9) td59_9 K n) x2 x3 x4 x5 := by
 intro n
 induction n with
 | zero => intros; rfl
 | succ n ih => intro x2 x3 x4 x5; exact (congrArg (fun kn => S59_0_0 α x2 x3 x4 x5 kn (fun (y1 : Int) => u59_0_1 (K .ret) y1) (fun (y1 : Int) (y2 : Bool) => u59_0_2 (K (.exit 0)) x2 x3 x4 y1 y2)) (funext fun x5 => ih x2 x3 x4 x5)).trans (r59_0_0 α K (loopT (runM Try.prog E59_0 sh59 c59_0_9) td59_9 K n) x2 x3 x4 x5).symm
theorem m59_0_0 : ∀ (α : Type) (K : Exit → St → Option α), F59_0_0 L59_0_0 α K = p59_0_0.unc fun σ => loopT (runM Try.prog E59_0 sh59 c59_0_9) td59_9 K fuel σ := fun α K => funext fun x2 => funext fun x3 => funext fun x4 => funext fun x5 => t59_0_0 α K fuel x2 x3 x4 x5
abbrev Tf59_0 : Type 1 := (α : Type) → Rows → (Int → Option α) → Option α
def f59_0g (vL59_0_0 : TL59_0_0) (α : Type) (x1 : Rows) (k1 : Int → Option α) : Option α :=
 vL59_0_0 α 0 x1 ((List.length x1 : Nat) : Int)
 (fun x8 => k1 x8)
 (fun x9 x10 => k1 0) 0
noncomputable def f59_0 (α : Type) (x1 : Rows) (k1 : Int → Option α) : Option α := f59_0g L59_0_0 α x1 k1
def pa59_0 : PT (List DV) := pA [pV false [dL]]
def Fn59_0 (v : Tf59_0) (α : Type) (k : List RV → Option α) : Rows → Option α := fun x1 => v α x1 (fun (y1 : Int) => ur59_0_0 k y1)
noncomputable def cm59_0g (vL59_0_0 : TL59_0_0) : MCode := (.seq (.region r59_2 [] (tO [0])) (.seq (.region r59_4 [] (tO [0, 3])) (.seq (.seq (.region r59_7 [] (tO [3, 6, 7, 8])) (.block 0 (.loop td59_9 [⟨p59_0_0, F59_0_0 vL59_0_0⟩] c59_0_9))) (.seq (.region r59_25 [] (tO [2])) .ret))))
noncomputable def cm59_0 : MCode := cm59_0g L59_0_0
theorem gm59_0 : cm59_0.Good Try.prog E59_0 sh59 := ⟨trivial, ⟨trivial, ⟨⟨trivial, ⟨g59_0_9, m59_0_0, trivial⟩⟩, ⟨trivial, trivial⟩⟩⟩⟩
theorem fm59_0g  (vL59_0_0 : TL59_0_0) (α : Type) (k : List RV → Option α) : Fn59_0 (f59_0g vL59_0_0) α k = pa59_0.unc fun ds => fnM Try.prog (E59_0g ) sh59 (cm59_0g vL59_0_0) rs59 k ds := by kernel_rfl
theorem fm59_0 : ∀ (α : Type) (k : List RV → Option α), Fn59_0 f59_0 α k = pa59_0.unc fun ds => fnM Try.prog E59_0 sh59 cm59_0 rs59 k ds := fm59_0g L59_0_0
theorem is59 : FnIs Try.prog 59 nt59 tr59 tl59 cm59_0.erase rs59 := ⟨Try.f59, Try.func59, rfl, by kernel_rfl, by kernel_rfl, by kernel_rfl⟩
theorem io59_0 : InstOk Try.prog 59 nt59 ⟨pa59_0, Fn59_0 f59_0⟩ := inst_ok eo59_0 followsTry is59 ⟨⟨sh59, cm59_0, by kernel_rfl, gm59_0, fm59_0⟩⟩
abbrev nt68 : Nat := 6
def sh68 : List (Nat × List Sh) := []
def r68_2 : List AOper := [oO 2 (.mv (.const (.bool false)))]
def r68_4 : List AOper := [oM 3 0, oM 4 0, oO 5 (.bin .neq 96 (.tmp 3) (.tmp 4)), oM 2 5]
def tr68 : List (Nat × Tidy) := [tT 0 [0], tT 1 [2]]
def tl68 : List (Nat × Tidy) := []
def rs68 : List AResV := [.tmp 2]
def pr68_0_0 : PT (List RV) := pRs [pR false [rD dB]]
def ur68_0_0 {β : Type} (g : List RV → β) : Bool → β := pr68_0_0.unc g
def E68_0g  : EnvK := EnvK.of [] noSeq
noncomputable def E68_0 : EnvK := E68_0g 
theorem eo68_0 : E68_0.Ok Try.prog := EnvK.of_ok noSeq_ok trivial
abbrev Tf68_0 : Type 1 := (α : Type) → Int → (Bool → Option α) → Option α
def f68_0g  (α : Type) (x1 : Int) (k1 : Bool → Option α) : Option α :=
 k1 (x1 != x1)
noncomputable def f68_0 (α : Type) (x1 : Int) (k1 : Bool → Option α) : Option α := f68_0g  α x1 k1
def pa68_0 : PT (List DV) := pA [pV false [(dI .u64)]]
def Fn68_0 (v : Tf68_0) (α : Type) (k : List RV → Option α) : Int → Option α := fun x1 => v α x1 (fun (y1 : Bool) => ur68_0_0 k y1)
noncomputable def cm68_0g  : MCode := (.seq (.region r68_2 [] (tO [0])) (.seq (.region r68_4 [] (tO [2])) .ret))
noncomputable def cm68_0 : MCode := cm68_0g 
theorem gm68_0 : cm68_0.Good Try.prog E68_0 sh68 := ⟨trivial, ⟨trivial, trivial⟩⟩
theorem fm68_0g   (α : Type) (k : List RV → Option α) : Fn68_0 (f68_0g ) α k = pa68_0.unc fun ds => fnM Try.prog (E68_0g ) sh68 (cm68_0g ) rs68 k ds := by kernel_rfl
theorem fm68_0 : ∀ (α : Type) (k : List RV → Option α), Fn68_0 f68_0 α k = pa68_0.unc fun ds => fnM Try.prog E68_0 sh68 cm68_0 rs68 k ds := fm68_0g 
theorem is68 : FnIs Try.prog 68 nt68 tr68 tl68 cm68_0.erase rs68 := ⟨Try.f68, Try.func68, rfl, by kernel_rfl, by kernel_rfl, by kernel_rfl⟩
theorem io68_0 : InstOk Try.prog 68 nt68 ⟨pa68_0, Fn68_0 f68_0⟩ := inst_ok eo68_0 followsTry is68 ⟨⟨sh68, cm68_0, by kernel_rfl, gm68_0, fm68_0⟩⟩
abbrev nt58 : Nat := 51
def sh58 : List (Nat × List Sh) := []
def r58_2 : List AOper := [oO 4 (.mv (.const (.int .u64 0))), oO 5 (.mv (.const (.int .u64 0)))]
def r58_4 : List AOper := [oM 14 0, oO 15 (.bin .and 96 (.tmp 14) (.const (.int .u64 4294967295))), oM 6 15]
def r58_6 : List AOper := [oM 16 0, oO 17 (.bin .shr 96 (.tmp 16) (.const (.int .u64 32))), oM 7 17]
def r58_8 : List AOper := [oM 18 1, oO 19 (.bin .and 96 (.tmp 18) (.const (.int .u64 4294967295))), oM 8 19]
def r58_10 : List AOper := [oM 20 1, oO 21 (.bin .shr 96 (.tmp 20) (.const (.int .u64 32))), oM 9 21]
def r58_12 : List AOper := [oM 22 6, oM 23 8, oO 24 (.bin .mul 96 (.tmp 22) (.tmp 23)), oM 10 24]
def r58_14 : List AOper := [oM 25 7, oM 26 8, oO 27 (.bin .mul 96 (.tmp 25) (.tmp 26)), oM 28 10, oO 29 (.bin .shr 96 (.tmp 28) (.const (.int .u64 32))), oO 30 (.bin .add 96 (.tmp 27) (.tmp 29)), oM 11 30]
def r58_16 : List AOper := [oM 31 11, oO 32 (.bin .and 96 (.tmp 31) (.const (.int .u64 4294967295))), oM 12 32]
def r58_18 : List AOper := [oM 33 11, oO 34 (.bin .shr 96 (.tmp 33) (.const (.int .u64 32))), oM 13 34]
def r58_20 : List AOper := [oM 35 12, oM 36 6, oM 37 9, oO 38 (.bin .mul 96 (.tmp 36) (.tmp 37)), oO 39 (.bin .add 96 (.tmp 35) (.tmp 38)), oM 12 39]
def r58_22 : List AOper := [oM 40 7, oM 41 9, oO 42 (.bin .mul 96 (.tmp 40) (.tmp 41)), oM 43 13, oO 44 (.bin .add 96 (.tmp 42) (.tmp 43)), oM 45 12, oO 46 (.bin .shr 96 (.tmp 45) (.const (.int .u64 32))), oO 47 (.bin .add 96 (.tmp 44) (.tmp 46)), oM 4 47]
def r58_24 : List AOper := [oM 48 0, oM 49 1, oO 50 (.bin .mul 96 (.tmp 48) (.tmp 49)), oM 5 50]
def tr58 : List (Nat × Tidy) := [tT 0 [0, 1], tT 1 [0, 1, 6], tT 2 [0, 1, 6, 7], tT 3 [0, 1, 6, 7, 8], tT 4 [0, 1, 6, 7, 8, 9], tT 5 [0, 1, 6, 7, 8, 9, 10], tT 6 [0, 1, 6, 7, 9, 11], tT 7 [0, 1, 6, 7, 9, 11, 12], tT 8 [0, 1, 6, 7, 9, 12, 13], tT 9 [0, 1, 7, 9, 12, 13], tT 10 [0, 1, 4], tT 11 [4, 5]]
def tl58 : List (Nat × Tidy) := []
def rs58 : List AResV := [.tmp 4, .tmp 5]
def pr58_0_0 : PT (List RV) := pRs [pR false [rD (dI .u64)], pR false [rD (dI .u64)]]
def ur58_0_0 {β : Type} (g : List RV → β) : Int → Int → β := pr58_0_0.unc g
def E58_0g  : EnvK := EnvK.of [] noSeq
noncomputable def E58_0 : EnvK := E58_0g 
theorem eo58_0 : E58_0.Ok Try.prog := EnvK.of_ok noSeq_ok trivial
abbrev Tf58_0 : Type 1 := (α : Type) → Int → Int → (Int → Int → Option α) → Option α
def f58_0g  (α : Type) (x1 x2 : Int) (k1 : Int → Int → Option α) : Option α :=
 k1 (IntKind.wrap .u64 ((IntKind.wrap .u64 ((IntKind.wrap .u64 ((Int.fdiv x1 (2 ^ 32)) * (Int.fdiv x2 (2 ^ 32)))) + (Int.fdiv (IntKind.wrap .u64 ((IntKind.wrap .u64 ((Int.fdiv x1 (2 ^ 32)) * (iAnd .u64 x2 4294967295))) + (Int.fdiv (IntKind.wrap .u64 ((iAnd .u64 x1 4294967295) * (iAnd .u64 x2 4294967295))) (2 ^ 32)))) (2 ^ 32)))) + (Int.fdiv (IntKind.wrap .u64 ((iAnd .u64 (IntKind.wrap .u64 ((IntKind.wrap .u64 ((Int.fdiv x1 (2 ^ 32)) * (iAnd .u64 x2 4294967295))) + (Int.fdiv (IntKind.wrap .u64 ((iAnd .u64 x1 4294967295) * (iAnd .u64 x2 4294967295))) (2 ^ 32)))) 4294967295) + (IntKind.wrap .u64 ((iAnd .u64 x1 4294967295) * (Int.fdiv x2 (2 ^ 32)))))) (2 ^ 32)))) (IntKind.wrap .u64 (x1 * x2))
noncomputable def f58_0 (α : Type) (x1 x2 : Int) (k1 : Int → Int → Option α) : Option α := f58_0g  α x1 x2 k1
def pa58_0 : PT (List DV) := pA [pV false [(dI .u64)], pV false [(dI .u64)]]
def Fn58_0 (v : Tf58_0) (α : Type) (k : List RV → Option α) : Int → Int → Option α := fun x1 x2 => v α x1 x2 (fun (y1 : Int) (y2 : Int) => ur58_0_0 k y1 y2)
noncomputable def cm58_0g  : MCode := (.seq (.region r58_2 [] (tO [0, 1])) (.seq (.region r58_4 [] (tO [0, 1, 6])) (.seq (.region r58_6 [] (tO [0, 1, 6, 7])) (.seq (.region r58_8 [] (tO [0, 1, 6, 7, 8])) (.seq (.region r58_10 [] (tO [0, 1, 6, 7, 8, 9])) (.seq (.region r58_12 [] (tO [0, 1, 6, 7, 8, 9, 10])) (.seq (.region r58_14 [] (tO [0, 1, 6, 7, 9, 11])) (.seq (.region r58_16 [] (tO [0, 1, 6, 7, 9, 11, 12])) (.seq (.region r58_18 [] (tO [0, 1, 6, 7, 9, 12, 13])) (.seq (.region r58_20 [] (tO [0, 1, 7, 9, 12, 13])) (.seq (.region r58_22 [] (tO [0, 1, 4])) (.seq (.region r58_24 [] (tO [4, 5])) .ret))))))))))))
noncomputable def cm58_0 : MCode := cm58_0g 
theorem gm58_0 : cm58_0.Good Try.prog E58_0 sh58 := ⟨trivial, ⟨trivial, ⟨trivial, ⟨trivial, ⟨trivial, ⟨trivial, ⟨trivial, ⟨trivial, ⟨trivial, ⟨trivial, ⟨trivial, ⟨trivial, trivial⟩⟩⟩⟩⟩⟩⟩⟩⟩⟩⟩⟩
theorem fm58_0g   (α : Type) (k : List RV → Option α) : Fn58_0 (f58_0g ) α k = pa58_0.unc fun ds => fnM Try.prog (E58_0g ) sh58 (cm58_0g ) rs58 k ds := by kernel_rfl
theorem fm58_0 : ∀ (α : Type) (k : List RV → Option α), Fn58_0 f58_0 α k = pa58_0.unc fun ds => fnM Try.prog E58_0 sh58 cm58_0 rs58 k ds := fm58_0g 
theorem is58 : FnIs Try.prog 58 nt58 tr58 tl58 cm58_0.erase rs58 := ⟨Try.f58, Try.func58, rfl, by kernel_rfl, by kernel_rfl, by kernel_rfl⟩
theorem io58_0 : InstOk Try.prog 58 nt58 ⟨pa58_0, Fn58_0 f58_0⟩ := inst_ok eo58_0 followsTry is58 ⟨⟨sh58, cm58_0, by kernel_rfl, gm58_0, fm58_0⟩⟩
abbrev nt32 : Nat := 24
def sh32 : List (Nat × List Sh) := []
def r32_2 : List AOper := [oO 2 (.mv (.const (.bool false)))]
def r32_5 : List AOper := [oM 3 0, oM 4 0, oO 5 (.bin .neq 65 (.tmp 3) (.tmp 4)), oM 6 5, oG 7 (.mv (.tmp 0)) 6 false, oG 8 (.mv (.tmp 0)) 6 false, oG 9 (.bin .sub 65 (.tmp 7) (.tmp 8)) 6 false, oG 10 (.bin .neq 65 (.tmp 9) (.const (.float Go.FloatKind.f64 0))) 6 false, oO 11 (.pick (.tmp 6) (.const (.bool true)) (.tmp 10))]
def r32_8 : List AOper := [oO 2 (.mv (.const (.bool false)))]
def r32_11 : List AOper := [oM 12 0, oO 13 (.bin .geq 65 (.tmp 12) (.const (.float Go.FloatKind.f64 14069741636278059008))), oM 14 13, oG 15 (.mv (.tmp 0)) 14 true, oG 16 (.bin .leq 65 (.tmp 15) (.const (.float Go.FloatKind.f64 4846369599423283200))) 14 true, oO 17 (.pick (.tmp 14) (.tmp 16) (.const (.bool false))), oO 18 (.pure (oB (.unOp .not 4 (.tmp 17)) 4))]
def r32_14 : List AOper := [oO 2 (.mv (.const (.bool true)))]
def r32_16 : List AOper := [oM 19 0, oO 20 (.pure (oB (.convert 65 3 (.tmp 19)) 3)), oO 21 (.pure (oB (.convert 3 65 (.tmp 20)) 65)), oM 22 0, oO 23 (.bin .eql 65 (.tmp 21) (.tmp 22)), oM 2 23]
def tr32 : List (Nat × Tidy) := [tT 0 [0], tT 1 [0, 11], tT 2 [2], tT 3 [0, 18], tT 4 [2], tT 5 [2]]
def tl32 : List (Nat × Tidy) := []
def rs32 : List AResV := [.tmp 2]
def pr32_0_0 : PT (List RV) := pRs [pR false [rD dB]]
def ur32_0_0 {β : Type} (g : List RV → β) : Bool → β := pr32_0_0.unc g
def E32_0g  : EnvK := EnvK.of [] noSeq
noncomputable def E32_0 : EnvK := E32_0g 
theorem eo32_0 : E32_0.Ok Try.prog := EnvK.of_ok noSeq_ok trivial
abbrev Tf32_0 : Type 1 := (α : Type) → (Option α) → Option α
def f32_0g  (α : Type)  (k1 : Option α) : Option α :=
 k1
noncomputable def f32_0 (α : Type)  (k1 : Option α) : Option α := f32_0g  α  k1
def pa32_0 : PT (List DV) := pA [pV false [(dNan .f64)]]
def Fn32_0 (v : Tf32_0) (α : Type) (k : List RV → Option α) : Option α := v α  (ur32_0_0 k false)
noncomputable def cm32_0g  : MCode := (.seq (.region r32_2 [] (tO [0])) (.seq (.seq (.region r32_5 [] (tO [0, 11])) (.cond (.tmp 11) (.seq (.region r32_8 [] (tO [2])) .ret) .skip)) (.seq (.seq (.region r32_11 [] (tO [0, 18])) (.cond (.tmp 18) (.seq (.region r32_14 [] (tO [2])) .ret) .skip)) (.seq (.region r32_16 [] (tO [2])) .ret))))
noncomputable def cm32_0 : MCode := cm32_0g 
theorem gm32_0 : cm32_0.Good Try.prog E32_0 sh32 := ⟨trivial, ⟨⟨trivial, ⟨⟨trivial, trivial⟩, trivial⟩⟩, ⟨⟨trivial, ⟨⟨trivial, trivial⟩, trivial⟩⟩, ⟨trivial, trivial⟩⟩⟩⟩
theorem fm32_0g   (α : Type) (k : List RV → Option α) : Fn32_0 (f32_0g ) α k = pa32_0.unc fun ds => fnM Try.prog (E32_0g ) sh32 (cm32_0g ) rs32 k ds := by kernel_rfl
theorem fm32_0 : ∀ (α : Type) (k : List RV → Option α), Fn32_0 f32_0 α k = pa32_0.unc fun ds => fnM Try.prog E32_0 sh32 cm32_0 rs32 k ds := fm32_0g 
theorem is32 : FnIs Try.prog 32 nt32 tr32 tl32 cm32_0.erase rs32 := ⟨Try.f32, Try.func32, rfl, by kernel_rfl, by kernel_rfl, by kernel_rfl⟩
theorem io32_0 : InstOk Try.prog 32 nt32 ⟨pa32_0, Fn32_0 f32_0⟩ := inst_ok eo32_0 followsTry is32 ⟨⟨sh32, cm32_0, by kernel_rfl, gm32_0, fm32_0⟩⟩
def pr32_1_0 : PT (List RV) := pRs [pR false [rD dB]]
def ur32_1_0 {β : Type} (g : List RV → β) : Bool → β := pr32_1_0.unc g
def E32_1g  : EnvK := EnvK.of [] noSeq
noncomputable def E32_1 : EnvK := E32_1g 
theorem eo32_1 : E32_1.Ok Try.prog := EnvK.of_ok noSeq_ok trivial
abbrev Tf32_1 : Type 1 := (α : Type) → Nat → (Bool → Option α) → Option α
def f32_1g  (α : Type) (x1 : Nat) (k1 : Bool → Option α) : Option α :=
 cK ((FloatKind.format .f64).order x1 x1 != some Ordering.eq)
 (k1 false)
 (flN ((FloatKind.format .f64).sub x1 x1)
 (fun x2 => cK ((FloatKind.format .f64).order x2 0 != some Ordering.eq)
 (k1 false)
 (cK ((FloatKind.format .f64).order x1 14069741636278059008 == some Ordering.gt || (FloatKind.format .f64).order x1 14069741636278059008 == some Ordering.eq)
 (cK (!((FloatKind.format .f64).order x1 4846369599423283200 == some Ordering.lt || (FloatKind.format .f64).order x1 4846369599423283200 == some Ordering.eq))
 (k1 true)
 (ivK (f2i .f64 x1 .i64)
 (fun x3 => k1 ((FloatKind.format .f64).order (FloatKind.nearest .f64 x3) x1 == some Ordering.eq))))
 (k1 true)))
 (k1 false))
noncomputable def f32_1 (α : Type) (x1 : Nat) (k1 : Bool → Option α) : Option α := f32_1g  α x1 k1
def pa32_1 : PT (List DV) := pA [pV false [(dF .f64)]]
def Fn32_1 (v : Tf32_1) (α : Type) (k : List RV → Option α) : Nat → Option α := fun x1 => v α x1 (fun (y1 : Bool) => ur32_1_0 k y1)
noncomputable def cm32_1g  : MCode := (.seq (.region r32_2 [] (tO [0])) (.seq (.seq (.region r32_5 [] (tO [0, 11])) (.cond (.tmp 11) (.seq (.region r32_8 [] (tO [2])) .ret) .skip)) (.seq (.seq (.region r32_11 [] (tO [0, 18])) (.cond (.tmp 18) (.seq (.region r32_14 [] (tO [2])) .ret) .skip)) (.seq (.region r32_16 [] (tO [2])) .ret))))
noncomputable def cm32_1 : MCode := cm32_1g 
theorem gm32_1 : cm32_1.Good Try.prog E32_1 sh32 := ⟨trivial, ⟨⟨trivial, ⟨⟨trivial, trivial⟩, trivial⟩⟩, ⟨⟨trivial, ⟨⟨trivial, trivial⟩, trivial⟩⟩, ⟨trivial, trivial⟩⟩⟩⟩
theorem fm32_1g   (α : Type) (k : List RV → Option α) : Fn32_1 (f32_1g ) α k = pa32_1.unc fun ds => fnM Try.prog (E32_1g ) sh32 (cm32_1g ) rs32 k ds := by kernel_rfl
theorem fm32_1 : ∀ (α : Type) (k : List RV → Option α), Fn32_1 f32_1 α k = pa32_1.unc fun ds => fnM Try.prog E32_1 sh32 cm32_1 rs32 k ds := fm32_1g 
theorem io32_1 : InstOk Try.prog 32 nt32 ⟨pa32_1, Fn32_1 f32_1⟩ := inst_ok eo32_1 followsTry is32 ⟨⟨sh32, cm32_1, by kernel_rfl, gm32_1, fm32_1⟩⟩
abbrev nt16 : Nat := 15
def sh16 : List (Nat × List Sh) := []
def r16_2 : List AOper := [oO 6 (.mv (.const (.bool false)))]
def r16_4 : List AOper := [oM 7 1, oM 8 0, oO 9 (.bin .leq 3 (.tmp 7) (.tmp 8)), oM 10 9, oG 11 (.mv (.tmp 0)) 10 true, oG 12 (.mv (.tmp 2)) 10 true, oG 13 (.bin .leq 3 (.tmp 11) (.tmp 12)) 10 true, oO 14 (.pick (.tmp 10) (.tmp 13) (.const (.bool false))), oM 6 14]
def tr16 : List (Nat × Tidy) := [tT 0 [0, 1, 2], tT 1 [6]]
def tl16 : List (Nat × Tidy) := []
def rs16 : List AResV := [.tmp 6]
def pr16_0_0 : PT (List RV) := pRs [pR false [rD dB]]
def ur16_0_0 {β : Type} (g : List RV → β) : Bool → β := pr16_0_0.unc g
def E16_0g  : EnvK := EnvK.of [] noSeq
noncomputable def E16_0 : EnvK := E16_0g 
theorem eo16_0 : E16_0.Ok Try.prog := EnvK.of_ok noSeq_ok trivial
abbrev Tf16_0 : Type 1 := (α : Type) → Int → Int → Int → (Bool → Option α) → Option α
def f16_0g  (α : Type) (x1 x2 x3 : Int) (k1 : Bool → Option α) : Option α :=
 cK (decide (x2 ≤ x1))
 (k1 (decide (x1 ≤ x3)))
 (k1 false)
noncomputable def f16_0 (α : Type) (x1 x2 x3 : Int) (k1 : Bool → Option α) : Option α := f16_0g  α x1 x2 x3 k1
def pa16_0 : PT (List DV) := pA [pV false [(dI .i64)], pV false [(dI .i64)], pV false [(dI .i64)]]
def Fn16_0 (v : Tf16_0) (α : Type) (k : List RV → Option α) : Int → Int → Int → Option α := fun x1 x2 x3 => v α x1 x2 x3 (fun (y1 : Bool) => ur16_0_0 k y1)
noncomputable def cm16_0g  : MCode := (.seq (.region r16_2 [] (tO [0, 1, 2])) (.seq (.region r16_4 [] (tO [6])) .ret))
noncomputable def cm16_0 : MCode := cm16_0g 
theorem gm16_0 : cm16_0.Good Try.prog E16_0 sh16 := ⟨trivial, ⟨trivial, trivial⟩⟩
theorem fm16_0g   (α : Type) (k : List RV → Option α) : Fn16_0 (f16_0g ) α k = pa16_0.unc fun ds => fnM Try.prog (E16_0g ) sh16 (cm16_0g ) rs16 k ds := by kernel_rfl
theorem fm16_0 : ∀ (α : Type) (k : List RV → Option α), Fn16_0 f16_0 α k = pa16_0.unc fun ds => fnM Try.prog E16_0 sh16 cm16_0 rs16 k ds := fm16_0g 
theorem is16 : FnIs Try.prog 16 nt16 tr16 tl16 cm16_0.erase rs16 := ⟨Try.f16, Try.func16, rfl, by kernel_rfl, by kernel_rfl, by kernel_rfl⟩
theorem io16_0 : InstOk Try.prog 16 nt16 ⟨pa16_0, Fn16_0 f16_0⟩ := inst_ok eo16_0 followsTry is16 ⟨⟨sh16, cm16_0, by kernel_rfl, gm16_0, fm16_0⟩⟩
abbrev nt29 : Nat := 55
def sh29 : List (Nat × List Sh) := []
def r29_2 : List AOper := [oO 2 (.mv (.const (.bool false)))]
def r29_5 : List AOper := [oM 6 0, oO 7 (.pure (oB (.call { callee := .builtin .len, args := #[(.tmp 6)], argTypes := #[9] }) 3)), oO 8 (.bin .lss 3 (.tmp 7) (kI 1)), oM 9 8, oG 10 (.mv (.tmp 0)) 9 false, oG 11 (.pure (oB (.call { callee := .builtin .len, args := #[(.tmp 10)], argTypes := #[9] }) 3)) 9 false, oG 12 (.bin .gtr 3 (.tmp 11) (kI 12)) 9 false, oO 13 (.pick (.tmp 9) (.const (.bool true)) (.tmp 12))]
def r29_8 : List AOper := [oO 2 (.mv (.const (.bool false)))]
def r29_11 : List AOper := [oO 3 (.mv (kI 0))]
def td29_13 : Option Tidy := (tO [0, 3])
def r29_16 : List AOper := [oM 14 3, oM 15 0, oO 16 (.pure (oB (.call { callee := .builtin .len, args := #[(.tmp 15)], argTypes := #[9] }) 3)), oO 17 (.bin .lss 3 (.tmp 14) (.tmp 16))]
def r29_21 : List AOper := [oM 20 0, oM 21 3, oO 22 (.pure (oB (.index 9 (.tmp 20) (.tmp 21)) 5)), oM 4 22]
def r29_23 : List AOper := [oM 23 4, oO 24 (.bin .geq 5 (.tmp 23) (.const (.int .u8 97))), oM 25 24, oG 26 (.mv (.tmp 4)) 25 true, oG 27 (.bin .leq 5 (.tmp 26) (.const (.int .u8 122))) 25 true, oO 28 (.pick (.tmp 25) (.tmp 27) (.const (.bool false))), oM 29 28, oG 30 (.mv (.tmp 4)) 29 false, oG 31 (.bin .geq 5 (.tmp 30) (.const (.int .u8 65))) 29 false, oG 32 (.mv (.tmp 31)) 29 false, oG 33 (.mv (.tmp 4)) 32 true, oG 34 (.bin .leq 5 (.tmp 33) (.const (.int .u8 90))) 32 true, oG 35 (.pick (.tmp 32) (.tmp 34) (.const (.bool false))) 29 false, oO 36 (.pick (.tmp 29) (.const (.bool true)) (.tmp 35)), oM 5 36]
def r29_25 : List AOper := [oM 37 5, oO 38 (.pure (oB (.unOp .not 4 (.tmp 37)) 4)), oM 39 38, oG 40 (.mv (.tmp 3)) 39 true, oG 41 (.bin .eql 3 (.tmp 40) (kI 0)) 39 true, oG 42 (.mv (.tmp 41)) 39 true, oG 43 (.mv (.tmp 4)) 42 false, oG 44 (.bin .neq 5 (.tmp 43) (.const (.int .u8 45))) 42 false, oG 45 (.mv (.tmp 44)) 42 false, oG 46 (.mv (.tmp 4)) 45 true, oG 47 (.bin .lss 5 (.tmp 46) (.const (.int .u8 48))) 45 true, oG 48 (.mv (.tmp 47)) 45 true, oG 49 (.mv (.tmp 4)) 48 false, oG 50 (.bin .gtr 5 (.tmp 49) (.const (.int .u8 57))) 48 false, oG 51 (.pick (.tmp 48) (.const (.bool true)) (.tmp 50)) 45 true, oG 52 (.pick (.tmp 45) (.tmp 51) (.const (.bool false))) 42 false, oG 53 (.pick (.tmp 42) (.const (.bool true)) (.tmp 52)) 39 true, oO 54 (.pick (.tmp 39) (.tmp 53) (.const (.bool false)))]
def r29_28 : List AOper := [oO 2 (.mv (.const (.bool false)))]
def r29_29 : List AOper := [oM 18 3, oO 19 (.bin .add 3 (.tmp 18) (kI 1)), oM 3 19]
def r29_31 : List AOper := [oO 2 (.mv (.const (.bool true)))]
def tr29 : List (Nat × Tidy) := [tT 0 [0], tT 1 [0, 13], tT 2 [2], tT 3 [0, 3], tT 4 [0, 3, 17], tT 6 [0, 3, 4], tT 7 [0, 3, 4, 5], tT 8 [0, 3, 54], tT 9 [2], tT 5 [0, 3], tT 10 [2]]
def tl29 : List (Nat × Tidy) := [tT 4 [0, 3]]
def rs29 : List AResV := [.tmp 2]
def p29_0_0 : PT St := pS [sl 0 (aV false [(cD dS)]), sl 3 (aV false [(cD (dI .i64))]), sl 4 (aV false [(cD (dI .u8))])] []
def u29_0_0 {β : Type} (g : St → β) : ByteArray → Int → Int → β := p29_0_0.unc g
def p29_0_1 : PT St := pS [sl 0 (aV false [(cD dS)]), sl 3 (aV false [(cD (dI .i64))]), sl 4 (aV false [(cD (dI .u8))]), sl 5 (aV false [(cD dB)])] []
def u29_0_1 {β : Type} (g : St → β) : ByteArray → Int → Int → Bool → β := p29_0_1.unc g
def p29_0_2 : PT St := pS [sl 0 (aV false [(cD dS)]), sl 3 (aV false [(cD (dI .i64))]), sl 54 (aV false [(cD dB)])] []
def u29_0_2 {β : Type} (g : St → β) : ByteArray → Int → Bool → β := p29_0_2.unc g
def p29_0_3 : PT St := pS [sl 0 (aV false [(cD dS)]), sl 3 (aV false [(cD (dI .i64))])] []
def u29_0_3 {β : Type} (g : St → β) : ByteArray → Int → β := p29_0_3.unc g
def p29_0_4 : PT St := pS [sl 2 (aV false [(cD dB)])] []
def u29_0_4 {β : Type} (g : St → β) : Bool → β := p29_0_4.unc g
def p29_0_5 : PT St := pS [sl 0 (aV false [(cD dS)]), sl 3 (aV false [(cD (dI .i64))]), sl 17 (aV false [(cD dB)])] []
def u29_0_5 {β : Type} (g : St → β) : ByteArray → Int → Bool → β := p29_0_5.unc g
def pr29_0_0 : PT (List RV) := pRs [pR false [rD dB]]
def ur29_0_0 {β : Type} (g : List RV → β) : Bool → β := pr29_0_0.unc g
def E29_0g  : EnvK := EnvK.of [] noSeq
noncomputable def E29_0 : EnvK := E29_0g 
theorem eo29_0 : E29_0.Ok Try.prog := EnvK.of_ok noSeq_ok trivial
noncomputable def c29_0_24g  : MCode := (.region r29_25 [] (tO [0, 3, 54]))
noncomputable def c29_0_24 : MCode := c29_0_24g 
theorem g29_0_24 : c29_0_24.Good Try.prog E29_0 sh29 := trivial
--CODE 24 0
abbrev TJ29_0_1 : Type 1 := (α : Type) → Int → Int → Bool → (Bool → Option α) → Option α
def J29_0_1g  (α : Type) (x13 x14 : Int) (x15 : Bool) (k1 : Bool → Option α) : Option α :=
 cK (!x15)
 (cK (x13 == 0)
 (k1 true)
 (cK (x14 != 45)
 (cK (decide (x14 < 48))
 (k1 true)
 (k1 (decide (57 < x14))))
 (k1 false)))
 (k1 false)
noncomputable def J29_0_1 (α : Type) (x13 x14 : Int) (x15 : Bool) (k1 : Bool → Option α) : Option α := J29_0_1g  α x13 x14 x15 k1
def F29_0_1 (v : TJ29_0_1) (α : Type) (K : Exit → St → Option α) : ByteArray → Int → Int → Bool → Option α := fun x12 x13 x14 x15 => v α x13 x14 x15 (fun (y1 : Bool) => u29_0_2 (K .normal) x12 x13 y1) 
theorem m29_0_1g   (α : Type) (K : Exit → St → Option α) : F29_0_1 (J29_0_1g ) α K = p29_0_1.unc fun σ => runM Try.prog (E29_0g ) sh29 (c29_0_24g ) K σ := by kernel_rfl
theorem m29_0_1 : ∀ (α : Type) (K : Exit → St → Option α), F29_0_1 J29_0_1 α K = p29_0_1.unc fun σ => runM Try.prog E29_0 sh29 c29_0_24 K σ := m29_0_1g 
noncomputable def c29_0_22g  : MCode := (.region r29_23 [] (tO [0, 3, 4, 5]))
noncomputable def c29_0_22 : MCode := c29_0_22g 
theorem g29_0_22 : c29_0_22.Good Try.prog E29_0 sh29 := trivial
--CODE 22 0
abbrev TJ29_0_0 : Type 1 := (α : Type) → Int → (Bool → Option α) → Option α
def J29_0_0g  (α : Type) (x8 : Int) (k1 : Bool → Option α) : Option α :=
 cK (decide (97 ≤ x8))
 (cK (decide (x8 ≤ 122))
 (k1 true)
 (cK (decide (65 ≤ x8))
 (k1 (decide (x8 ≤ 90)))
 (k1 false)))
 (cK (decide (65 ≤ x8))
 (k1 (decide (x8 ≤ 90)))
 (k1 false))
noncomputable def J29_0_0 (α : Type) (x8 : Int) (k1 : Bool → Option α) : Option α := J29_0_0g  α x8 k1
def F29_0_0 (v : TJ29_0_0) (α : Type) (K : Exit → St → Option α) : ByteArray → Int → Int → Option α := fun x6 x7 x8 => v α x8 (fun (y1 : Bool) => u29_0_1 (K .normal) x6 x7 x8 y1) 
theorem m29_0_0g   (α : Type) (K : Exit → St → Option α) : F29_0_0 (J29_0_0g ) α K = p29_0_0.unc fun σ => runM Try.prog (E29_0g ) sh29 (c29_0_22g ) K σ := by kernel_rfl
theorem m29_0_0 : ∀ (α : Type) (K : Exit → St → Option α), F29_0_0 J29_0_0 α K = p29_0_0.unc fun σ => runM Try.prog E29_0 sh29 c29_0_22 K σ := m29_0_0g 
noncomputable def c29_0_13g (vJ29_0_0 : TJ29_0_0) (vJ29_0_1 : TJ29_0_1) : MCode := (.seq (.seq (.region r29_16 [] (tO [0, 3, 17])) (.cond (.tmp 17) .skip (.exit 0))) (.seq (.block 1 (.seq (.region r29_21 [] (tO [0, 3, 4])) (.seq (.mark [⟨p29_0_0, F29_0_0 vJ29_0_0⟩] c29_0_22) (.seq (.mark [⟨p29_0_1, F29_0_1 vJ29_0_1⟩] c29_0_24) (.cond (.tmp 54) (.seq (.region r29_28 [] (tO [2])) .ret) .skip))))) (.region r29_29 [] (tO [0, 3]))))
noncomputable def c29_0_13 : MCode := c29_0_13g J29_0_0 J29_0_1
theorem g29_0_13 : c29_0_13.Good Try.prog E29_0 sh29 := ⟨⟨trivial, ⟨trivial, trivial⟩⟩, ⟨⟨trivial, ⟨⟨g29_0_22, m29_0_0, trivial⟩, ⟨⟨g29_0_24, m29_0_1, trivial⟩, ⟨⟨trivial, trivial⟩, trivial⟩⟩⟩⟩, trivial⟩⟩
--CODE 13 0
def S29_0_2g (vJ29_0_0 : TJ29_0_0) (vJ29_0_1 : TJ29_0_1) (α : Type) (x2 : ByteArray) (x3 : Int) (kn : Int → Option α) (k1 : Option α) (k2 : Int → Bool → Option α) : Option α :=
 cK (decide (x3 < ((ByteArray.size x2 : Nat) : Int)))
 (sixK x2 x3
 (fun x5 => vJ29_0_0 α ((UInt8.toNat x5 : Nat) : Int)
 (fun x10 => vJ29_0_1 α x3 ((UInt8.toNat x5 : Nat) : Int) x10
 (fun x17 => cK x17
 (k1)
 (kn (w64 (x3 + 1)))))))
 (k2 x3 (decide (x3 < ((ByteArray.size x2 : Nat) : Int))))
noncomputable def S29_0_2 (α : Type) (x2 : ByteArray) (x3 : Int) (kn : Int → Option α) (k1 : Option α) (k2 : Int → Bool → Option α) : Option α := S29_0_2g J29_0_0 J29_0_1 α x2 x3 kn k1 k2
noncomputable def R29_0_2 (α : Type) (x2 : ByteArray) (k1 : Option α) (k2 : Int → Bool → Option α) : Nat → Int → Option α
 | 0, _ => none
 | n + 1, x3 => S29_0_2 α x2 x3 (R29_0_2 α x2 k1 k2 n) k1 k2
noncomputable def L29_0_2 (α : Type) (x2 : ByteArray) (k1 : Option α) (k2 : Int → Bool → Option α) (x3 : Int) : Option α := R29_0_2 α x2 k1 k2 fuel x3
abbrev TL29_0_2 : Type 1 := (α : Type) → ByteArray → (Option α) → (Int → Bool → Option α) → Int → Option α
def F29_0_2 (v : TL29_0_2) (α : Type) (K : Exit → St → Option α) : ByteArray → Int → Option α := fun x2 x3 => v α x2 (u29_0_4 (K .ret) false) (fun (y1 : Int) (y2 : Bool) => u29_0_5 (K (.exit 0)) x2 y1 y2) x3
theorem r29_0_2g  (vJ29_0_0 : TJ29_0_0) (vJ29_0_1 : TJ29_0_1) (α : Type) (K : Exit → St → Option α) (Kn : St → Option α) (x2 : ByteArray) (x3 : Int) : u29_0_3 (fun σ => runM Try.prog (E29_0g ) sh29 (c29_0_13g vJ29_0_0 vJ29_0_1) (thenK (fun σ => tidyK td29_13 σ Kn) K) σ) x2 x3 = S29_0_2g vJ29_0_0 vJ29_0_1 α x2 x3 (fun x3 => u29_0_3 Kn x2 x3) (u29_0_4 (K .ret) false) (fun (y1 : Int) (y2 : Bool) => u29_0_5 (K (.exit 0)) x2 y1 y2) := by kernel_rfl
theorem r29_0_2 (α : Type) (K : Exit → St → Option α) (Kn : St → Option α) (x2 : ByteArray) (x3 : Int) : u29_0_3 (fun σ => runM Try.prog E29_0 sh29 c29_0_13 (thenK (fun σ => tidyK td29_13 σ Kn) K) σ) x2 x3 = S29_0_2 α x2 x3 (fun x3 => u29_0_3 Kn x2 x3) (u29_0_4 (K .ret) false) (fun (y1 : Int) (y2 : Bool) => u29_0_5 (K (.exit 0)) x2 y1 y2) := r29_0_2g J29_0_0 J29_0_1 α K Kn x2 x3
theorem t29_0_2 (α : Type) (K : Exit → St → Option α) : ∀ (n : Nat) (x2 : ByteArray) (x3 : Int), R29_0_2 α x2 (u29_0_4 (K .ret) false) (fun (y1 : Int) (y2 : Bool) => u29_0_5 (K (.exit 0)) x2 y1 y2) n x3 = u29_0_3 (loopT (runM Try.prog E29_0 sh29 c29_0_13) td29_13 K n) x2 x3 := by
 intro n
 induction n with
 | zero => intros; rfl
 | succ n ih => intro x2 x3; exact (congrArg (fun kn => S29_0_2 α x2 x3 kn (u29_0_4 (K .ret) false) (fun (y1 : Int) (y2 : Bool) => u29_0_5 (K (.exit 0)) x2 y1 y2)) (funext fun x3 => ih x2 x3)).trans (r29_0_2 α K (loopT (runM Try.prog E29_0 sh29 c29_0_13) td29_13 K n) x2 x3).symm
theorem m29_0_2 : ∀ (α : Type) (K : Exit → St → Option α), F29_0_2 L29_0_2 α K = p29_0_3.unc fun σ => loopT (runM Try.prog E29_0 sh29 c29_0_13) td29_13 K fuel σ := fun α K => funext fun x2 => funext fun x3 => t29_0_2 α K fuel x2 x3
abbrev Tf29_0 : Type 1 := (α : Type) → ByteArray → (Bool → Option α) → Option α
def f29_0g (vL29_0_2 : TL29_0_2) (α : Type) (x1 : ByteArray) (k1 : Bool → Option α) : Option α :=
 cK (decide (((ByteArray.size x1 : Nat) : Int) < 1))
 (k1 false)
 (cK (decide (12 < ((ByteArray.size x1 : Nat) : Int)))
 (k1 false)
 (vL29_0_2 α x1
 (k1 false)
 (fun x19 x20 => k1 true) 0))
noncomputable def f29_0 (α : Type) (x1 : ByteArray) (k1 : Bool → Option α) : Option α := f29_0g L29_0_2 α x1 k1
def pa29_0 : PT (List DV) := pA [pV false [dS]]
def Fn29_0 (v : Tf29_0) (α : Type) (k : List RV → Option α) : ByteArray → Option α := fun x1 => v α x1 (fun (y1 : Bool) => ur29_0_0 k y1)
noncomputable def cm29_0g (vL29_0_2 : TL29_0_2) : MCode := (.seq (.region r29_2 [] (tO [0])) (.seq (.seq (.region r29_5 [] (tO [0, 13])) (.cond (.tmp 13) (.seq (.region r29_8 [] (tO [2])) .ret) .skip)) (.seq (.seq (.region r29_11 [] (tO [0, 3])) (.block 0 (.loop td29_13 [⟨p29_0_3, F29_0_2 vL29_0_2⟩] c29_0_13))) (.seq (.region r29_31 [] (tO [2])) .ret))))
noncomputable def cm29_0 : MCode := cm29_0g L29_0_2
theorem gm29_0 : cm29_0.Good Try.prog E29_0 sh29 := ⟨trivial, ⟨⟨trivial, ⟨⟨trivial, trivial⟩, trivial⟩⟩, ⟨⟨trivial, ⟨g29_0_13, m29_0_2, trivial⟩⟩, ⟨trivial, trivial⟩⟩⟩⟩
theorem fm29_0g  (vL29_0_2 : TL29_0_2) (α : Type) (k : List RV → Option α) : Fn29_0 (f29_0g vL29_0_2) α k = pa29_0.unc fun ds => fnM Try.prog (E29_0g ) sh29 (cm29_0g vL29_0_2) rs29 k ds := by kernel_rfl
theorem fm29_0 : ∀ (α : Type) (k : List RV → Option α), Fn29_0 f29_0 α k = pa29_0.unc fun ds => fnM Try.prog E29_0 sh29 cm29_0 rs29 k ds := fm29_0g L29_0_2
theorem is29 : FnIs Try.prog 29 nt29 tr29 tl29 cm29_0.erase rs29 := ⟨Try.f29, Try.func29, rfl, by kernel_rfl, by kernel_rfl, by kernel_rfl⟩
theorem io29_0 : InstOk Try.prog 29 nt29 ⟨pa29_0, Fn29_0 f29_0⟩ := inst_ok eo29_0 followsTry is29 ⟨⟨sh29, cm29_0, by kernel_rfl, gm29_0, fm29_0⟩⟩
abbrev nt78 : Nat := 7
def sh78 : List (Nat × List Sh) := []
def r78_2 : List AOper := [oO 2 (.mv (.const (.float Go.FloatKind.f64 0)))]
def r78_6 : List AOper := [oM 3 0, oO 4 (.pure (oB (.call { callee := .value (.func 86), args := #[(.tmp 3)], argTypes := #[65] }) 65)), oM 2 4]
def r78_8 : List AOper := [oM 5 0, oO 6 (.call 87 [(.tmp 5)]), oM 2 6]
def tr78 : List (Nat × Tidy) := [tT 0 [0], tT 1 [2], tT 2 [2]]
def tl78 : List (Nat × Tidy) := []
def rs78 : List AResV := [.tmp 2]
def pr78_0_0 : PT (List RV) := pRs [pR false [rD (dNan .f64)]]
def ur78_0_0 {β : Type} (g : List RV → β) : β := pr78_0_0.unc g
def pr78_0_1 : PT (List RV) := pRs [pR false [rD (dF .f64)]]
def ur78_0_1 {β : Type} (g : List RV → β) : Nat → β := pr78_0_1.unc g
def E78_0g  : EnvK := EnvK.of [] noSeq
noncomputable def E78_0 : EnvK := E78_0g 
theorem eo78_0 : E78_0.Ok Try.prog := EnvK.of_ok noSeq_ok trivial
abbrev Tf78_0 : Type 1 := (α : Type) → Nat → (Option α) → (Nat → Option α) → Option α
def f78_0g  (α : Type) (x1 : Nat) (k1 : Option α) (k2 : Nat → Option α) : Option α :=
 cK (isNaNb .f64 x1)
 (k1)
 (k2 (truncF x1))
noncomputable def f78_0 (α : Type) (x1 : Nat) (k1 : Option α) (k2 : Nat → Option α) : Option α := f78_0g  α x1 k1 k2
def pa78_0 : PT (List DV) := pA [pV false [(dF .f64)]]
def Fn78_0 (v : Tf78_0) (α : Type) (k : List RV → Option α) : Nat → Option α := fun x1 => v α x1 (ur78_0_0 k ) (fun (y1 : Nat) => ur78_0_1 k y1)
noncomputable def cm78_0g  : MCode := (.seq (.region r78_2 [] (tO [0])) (.seq (.cond (.const (.bool true)) (.seq (.region r78_6 [] (tO [2])) .ret) .skip) (.seq (.region r78_8 [] (tO [2])) .ret)))
noncomputable def cm78_0 : MCode := cm78_0g 
theorem gm78_0 : cm78_0.Good Try.prog E78_0 sh78 := ⟨trivial, ⟨⟨⟨trivial, trivial⟩, trivial⟩, ⟨trivial, trivial⟩⟩⟩
theorem fm78_0g   (α : Type) (k : List RV → Option α) : Fn78_0 (f78_0g ) α k = pa78_0.unc fun ds => fnM Try.prog (E78_0g ) sh78 (cm78_0g ) rs78 k ds := by kernel_rfl
theorem fm78_0 : ∀ (α : Type) (k : List RV → Option α), Fn78_0 f78_0 α k = pa78_0.unc fun ds => fnM Try.prog E78_0 sh78 cm78_0 rs78 k ds := fm78_0g 
theorem is78 : FnIs Try.prog 78 nt78 tr78 tl78 cm78_0.erase rs78 := ⟨Try.f78, Try.func78, rfl, by kernel_rfl, by kernel_rfl, by kernel_rfl⟩
theorem io78_0 : InstOk Try.prog 78 nt78 ⟨pa78_0, Fn78_0 f78_0⟩ := inst_ok eo78_0 followsTry is78 ⟨⟨sh78, cm78_0, by kernel_rfl, gm78_0, fm78_0⟩⟩
abbrev nt85 : Nat := 7
def sh85 : List (Nat × List Sh) := []
def r85_2 : List AOper := [oO 2 (.mv (.const (.float Go.FloatKind.f64 0)))]
def r85_4 : List AOper := [oM 3 0, oO 4 (.pure (oB (.call { callee := .value (.func 75), args := #[(.tmp 3)], argTypes := #[65] }) 96)), oO 5 (.bin .andNot 96 (.tmp 4) (.const (.int .u64 9223372036854775808))), oO 6 (.pure (oB (.call { callee := .value (.func 94), args := #[(.tmp 5)], argTypes := #[96] }) 65)), oM 2 6]
def tr85 : List (Nat × Tidy) := [tT 0 [0], tT 1 [2]]
def tl85 : List (Nat × Tidy) := []
def rs85 : List AResV := [.tmp 2]
def pr85_0_0 : PT (List RV) := pRs [pR false [rD (dF .f64)]]
def ur85_0_0 {β : Type} (g : List RV → β) : Nat → β := pr85_0_0.unc g
def E85_0g  : EnvK := EnvK.of [] noSeq
noncomputable def E85_0 : EnvK := E85_0g 
theorem eo85_0 : E85_0.Ok Try.prog := EnvK.of_ok noSeq_ok trivial
abbrev Tf85_0 : Type 1 := (α : Type) → Nat → (Nat → Option α) → Option α
def f85_0g  (α : Type) (x1 : Nat) (k1 : Nat → Option α) : Option α :=
 k1 (Int.toNat (iAndNot .u64 ((x1 : Nat) : Int) 9223372036854775808))
noncomputable def f85_0 (α : Type) (x1 : Nat) (k1 : Nat → Option α) : Option α := f85_0g  α x1 k1
def pa85_0 : PT (List DV) := pA [pV false [(dF .f64)]]
def Fn85_0 (v : Tf85_0) (α : Type) (k : List RV → Option α) : Nat → Option α := fun x1 => v α x1 (fun (y1 : Nat) => ur85_0_0 k y1)
noncomputable def cm85_0g  : MCode := (.seq (.region r85_2 [] (tO [0])) (.seq (.region r85_4 [] (tO [2])) .ret))
noncomputable def cm85_0 : MCode := cm85_0g 
theorem gm85_0 : cm85_0.Good Try.prog E85_0 sh85 := ⟨trivial, ⟨trivial, trivial⟩⟩
theorem fm85_0g   (α : Type) (k : List RV → Option α) : Fn85_0 (f85_0g ) α k = pa85_0.unc fun ds => fnM Try.prog (E85_0g ) sh85 (cm85_0g ) rs85 k ds := by kernel_rfl
theorem fm85_0 : ∀ (α : Type) (k : List RV → Option α), Fn85_0 f85_0 α k = pa85_0.unc fun ds => fnM Try.prog E85_0 sh85 cm85_0 rs85 k ds := fm85_0g 
theorem is85 : FnIs Try.prog 85 nt85 tr85 tl85 cm85_0.erase rs85 := ⟨Try.f85, Try.func85, rfl, by kernel_rfl, by kernel_rfl, by kernel_rfl⟩
theorem io85_0 : InstOk Try.prog 85 nt85 ⟨pa85_0, Fn85_0 f85_0⟩ := inst_ok eo85_0 followsTry is85 ⟨⟨sh85, cm85_0, by kernel_rfl, gm85_0, fm85_0⟩⟩
abbrev nt76 : Nat := 6
def sh76 : List (Nat × List Sh) := []
def r76_2 : List AOper := [oO 2 (.mv (.const (.bool false)))]
def r76_4 : List AOper := [oM 3 0, oM 4 0, oO 5 (.bin .neq 65 (.tmp 3) (.tmp 4)), oM 2 5]
def tr76 : List (Nat × Tidy) := [tT 0 [0], tT 1 [2]]
def tl76 : List (Nat × Tidy) := []
def rs76 : List AResV := [.tmp 2]
def pr76_0_0 : PT (List RV) := pRs [pR false [rD dB]]
def ur76_0_0 {β : Type} (g : List RV → β) : Bool → β := pr76_0_0.unc g
def E76_0g  : EnvK := EnvK.of [] noSeq
noncomputable def E76_0 : EnvK := E76_0g 
theorem eo76_0 : E76_0.Ok Try.prog := EnvK.of_ok noSeq_ok trivial
abbrev Tf76_0 : Type 1 := (α : Type) → (Option α) → Option α
def f76_0g  (α : Type)  (k1 : Option α) : Option α :=
 k1
noncomputable def f76_0 (α : Type)  (k1 : Option α) : Option α := f76_0g  α  k1
def pa76_0 : PT (List DV) := pA [pV false [(dNan .f64)]]
def Fn76_0 (v : Tf76_0) (α : Type) (k : List RV → Option α) : Option α := v α  (ur76_0_0 k true)
noncomputable def cm76_0g  : MCode := (.seq (.region r76_2 [] (tO [0])) (.seq (.region r76_4 [] (tO [2])) .ret))
noncomputable def cm76_0 : MCode := cm76_0g 
theorem gm76_0 : cm76_0.Good Try.prog E76_0 sh76 := ⟨trivial, ⟨trivial, trivial⟩⟩
theorem fm76_0g   (α : Type) (k : List RV → Option α) : Fn76_0 (f76_0g ) α k = pa76_0.unc fun ds => fnM Try.prog (E76_0g ) sh76 (cm76_0g ) rs76 k ds := by kernel_rfl
theorem fm76_0 : ∀ (α : Type) (k : List RV → Option α), Fn76_0 f76_0 α k = pa76_0.unc fun ds => fnM Try.prog E76_0 sh76 cm76_0 rs76 k ds := fm76_0g 
theorem is76 : FnIs Try.prog 76 nt76 tr76 tl76 cm76_0.erase rs76 := ⟨Try.f76, Try.func76, rfl, by kernel_rfl, by kernel_rfl, by kernel_rfl⟩
theorem io76_0 : InstOk Try.prog 76 nt76 ⟨pa76_0, Fn76_0 f76_0⟩ := inst_ok eo76_0 followsTry is76 ⟨⟨sh76, cm76_0, by kernel_rfl, gm76_0, fm76_0⟩⟩
def pr76_1_0 : PT (List RV) := pRs [pR false [rD dB]]
def ur76_1_0 {β : Type} (g : List RV → β) : Bool → β := pr76_1_0.unc g
def E76_1g  : EnvK := EnvK.of [] noSeq
noncomputable def E76_1 : EnvK := E76_1g 
theorem eo76_1 : E76_1.Ok Try.prog := EnvK.of_ok noSeq_ok trivial
abbrev Tf76_1 : Type 1 := (α : Type) → Nat → (Bool → Option α) → Option α
def f76_1g  (α : Type) (x1 : Nat) (k1 : Bool → Option α) : Option α :=
 k1 ((FloatKind.format .f64).order x1 x1 != some Ordering.eq)
noncomputable def f76_1 (α : Type) (x1 : Nat) (k1 : Bool → Option α) : Option α := f76_1g  α x1 k1
def pa76_1 : PT (List DV) := pA [pV false [(dF .f64)]]
def Fn76_1 (v : Tf76_1) (α : Type) (k : List RV → Option α) : Nat → Option α := fun x1 => v α x1 (fun (y1 : Bool) => ur76_1_0 k y1)
noncomputable def cm76_1g  : MCode := (.seq (.region r76_2 [] (tO [0])) (.seq (.region r76_4 [] (tO [2])) .ret))
noncomputable def cm76_1 : MCode := cm76_1g 
theorem gm76_1 : cm76_1.Good Try.prog E76_1 sh76 := ⟨trivial, ⟨trivial, trivial⟩⟩
theorem fm76_1g   (α : Type) (k : List RV → Option α) : Fn76_1 (f76_1g ) α k = pa76_1.unc fun ds => fnM Try.prog (E76_1g ) sh76 (cm76_1g ) rs76 k ds := by kernel_rfl
theorem fm76_1 : ∀ (α : Type) (k : List RV → Option α), Fn76_1 f76_1 α k = pa76_1.unc fun ds => fnM Try.prog E76_1 sh76 cm76_1 rs76 k ds := fm76_1g 
theorem io76_1 : InstOk Try.prog 76 nt76 ⟨pa76_1, Fn76_1 f76_1⟩ := inst_ok eo76_1 followsTry is76 ⟨⟨sh76, cm76_1, by kernel_rfl, gm76_1, fm76_1⟩⟩
abbrev nt34 : Nat := 15
def sh34 : List (Nat × List Sh) := []
def r34_2 : List AOper := [oO 6 (.mv (.const (.bool false)))]
def r34_4 : List AOper := [oM 7 0, oM 8 1, oO 9 (.bin .geq 3 (.tmp 7) (.tmp 8)), oM 10 9, oG 11 (.mv (.tmp 0)) 10 true, oG 12 (.mv (.tmp 2)) 10 true, oG 13 (.bin .leq 3 (.tmp 11) (.tmp 12)) 10 true, oO 14 (.pick (.tmp 10) (.tmp 13) (.const (.bool false))), oM 6 14]
def tr34 : List (Nat × Tidy) := [tT 0 [0, 1, 2], tT 1 [6]]
def tl34 : List (Nat × Tidy) := []
def rs34 : List AResV := [.tmp 6]
def pr34_0_0 : PT (List RV) := pRs [pR false [rD dB]]
def ur34_0_0 {β : Type} (g : List RV → β) : Bool → β := pr34_0_0.unc g
def E34_0g  : EnvK := EnvK.of [] noSeq
noncomputable def E34_0 : EnvK := E34_0g 
theorem eo34_0 : E34_0.Ok Try.prog := EnvK.of_ok noSeq_ok trivial
abbrev Tf34_0 : Type 1 := (α : Type) → Int → Int → Int → (Bool → Option α) → Option α
def f34_0g  (α : Type) (x1 x2 x3 : Int) (k1 : Bool → Option α) : Option α :=
 cK (decide (x2 ≤ x1))
 (k1 (decide (x1 ≤ x3)))
 (k1 false)
noncomputable def f34_0 (α : Type) (x1 x2 x3 : Int) (k1 : Bool → Option α) : Option α := f34_0g  α x1 x2 x3 k1
def pa34_0 : PT (List DV) := pA [pV false [(dI .i64)], pV false [(dI .i64)], pV false [(dI .i64)]]
def Fn34_0 (v : Tf34_0) (α : Type) (k : List RV → Option α) : Int → Int → Int → Option α := fun x1 x2 x3 => v α x1 x2 x3 (fun (y1 : Bool) => ur34_0_0 k y1)
noncomputable def cm34_0g  : MCode := (.seq (.region r34_2 [] (tO [0, 1, 2])) (.seq (.region r34_4 [] (tO [6])) .ret))
noncomputable def cm34_0 : MCode := cm34_0g 
theorem gm34_0 : cm34_0.Good Try.prog E34_0 sh34 := ⟨trivial, ⟨trivial, trivial⟩⟩
theorem fm34_0g   (α : Type) (k : List RV → Option α) : Fn34_0 (f34_0g ) α k = pa34_0.unc fun ds => fnM Try.prog (E34_0g ) sh34 (cm34_0g ) rs34 k ds := by kernel_rfl
theorem fm34_0 : ∀ (α : Type) (k : List RV → Option α), Fn34_0 f34_0 α k = pa34_0.unc fun ds => fnM Try.prog E34_0 sh34 cm34_0 rs34 k ds := fm34_0g 
theorem is34 : FnIs Try.prog 34 nt34 tr34 tl34 cm34_0.erase rs34 := ⟨Try.f34, Try.func34, rfl, by kernel_rfl, by kernel_rfl, by kernel_rfl⟩
theorem io34_0 : InstOk Try.prog 34 nt34 ⟨pa34_0, Fn34_0 f34_0⟩ := inst_ok eo34_0 followsTry is34 ⟨⟨sh34, cm34_0, by kernel_rfl, gm34_0, fm34_0⟩⟩
abbrev nt25 : Nat := 54
def sh25 : List (Nat × List Sh) := [(12, [.int .u8]), (13, [.int .u8])]
def r25_2 : List AOper := [oO 2 (.mv (.const (.bool false)))]
def r25_5 : List AOper := [oM 6 0, oO 7 (.bytes (.tmp 6)), oO 8 (.len (.tmp 7)), oO 9 (.mv (kI 0))]
def td25_7 : Option Tidy := (some ⟨[0, 7, 8, 9], true, [⟨false, 7, 0, 20007, 1⟩], []⟩)
def r25_9 : List AOper := [oO 10 (.bin .lss 3 (.tmp 9) (.tmp 8))]
def r25_15 : List AOper := [oM 11 9, oO 12 (.iaddr 1 none (.tmp 7) (.tmp 9)), oO 13 (.load false 1 (.tmp 12)), oM 3 11, oM 4 13]
def r25_17 : List AOper := [oM 14 4, oO 15 (.bin .geq 5 (.tmp 14) (.const (.int .u8 97))), oM 16 15, oG 17 (.mv (.tmp 4)) 16 true, oG 18 (.bin .leq 5 (.tmp 17) (.const (.int .u8 122))) 16 true, oO 19 (.pick (.tmp 16) (.tmp 18) (.const (.bool false))), oM 20 19, oG 21 (.mv (.tmp 4)) 20 false, oG 22 (.bin .geq 5 (.tmp 21) (.const (.int .u8 65))) 20 false, oG 23 (.mv (.tmp 22)) 20 false, oG 24 (.mv (.tmp 4)) 23 true, oG 25 (.bin .leq 5 (.tmp 24) (.const (.int .u8 90))) 23 true, oG 26 (.pick (.tmp 23) (.tmp 25) (.const (.bool false))) 20 false, oO 27 (.pick (.tmp 20) (.const (.bool true)) (.tmp 26)), oM 5 27]
def r25_19 : List AOper := [oM 28 5, oO 29 (.pure (oB (.unOp .not 4 (.tmp 28)) 4)), oM 30 29, oG 31 (.mv (.tmp 3)) 30 true, oG 32 (.bin .eql 3 (.tmp 31) (kI 0)) 30 true, oG 33 (.mv (.tmp 32)) 30 true, oG 34 (.mv (.tmp 4)) 33 false, oG 35 (.bin .neq 5 (.tmp 34) (.const (.int .u8 45))) 33 false, oG 36 (.mv (.tmp 35)) 33 false, oG 37 (.mv (.tmp 4)) 36 true, oG 38 (.bin .lss 5 (.tmp 37) (.const (.int .u8 48))) 36 true, oG 39 (.mv (.tmp 38)) 36 true, oG 40 (.mv (.tmp 4)) 39 false, oG 41 (.bin .gtr 5 (.tmp 40) (.const (.int .u8 57))) 39 false, oG 42 (.pick (.tmp 39) (.const (.bool true)) (.tmp 41)) 36 true, oG 43 (.pick (.tmp 36) (.tmp 42) (.const (.bool false))) 33 false, oG 44 (.pick (.tmp 33) (.const (.bool true)) (.tmp 43)) 30 true, oO 45 (.pick (.tmp 30) (.tmp 44) (.const (.bool false)))]
def r25_22 : List AOper := [oO 2 (.mv (.const (.bool false)))]
def r25_23 : List AOper := [oO 46 (.bin .add 3 (.tmp 9) (kI 1)), oM 9 46]
def r25_25 : List AOper := [oM 47 0, ⟨(some 48), (.bin .neq 9 (.tmp 47) (.const (.string ⟨#[]⟩))), none⟩, oM 49 48, oG 50 (.mv (.tmp 0)) 49 true, oG 51 (.pure (oB (.call { callee := .builtin .len, args := #[(.tmp 50)], argTypes := #[9] }) 3)) 49 true, oG 52 (.bin .leq 3 (.tmp 51) (kI 12)) 49 true, oO 53 (.pick (.tmp 49) (.tmp 52) (.const (.bool false))), oM 2 53]
def tr25 : List (Nat × Tidy) := [tT 0 [0], tT 1 [0, 7, 8, 9], tT 2 [0, 7, 8, 9, 10], tT 3 [0, 3, 4, 7, 8, 9], tT 4 [0, 3, 4, 5, 7, 8, 9], tT 5 [0, 7, 8, 9, 45], tT 6 [2], tT 7 [0, 7, 8, 9], tT 8 [2]]
def tl25 : List (Nat × Tidy) := [(2, ⟨[0, 7, 8, 9], true, [⟨false, 7, 0, 20007, 1⟩], []⟩)]
def rs25 : List AResV := [.tmp 2]
def p25_0_0 : PT St := pS [sl 0 (aV false [(cD dS)]), sl 3 (aV false [(cD (dI .i64))]), sl 4 (aV false [(cD (dI .u8))]), sl 7 (aV false [(cRef 20007)]), sl 8 (aV false [(cD (dI .i64))]), sl 9 (aV false [(cD (dI .i64))])] [eOwn 20007 1]
def u25_0_0 {β : Type} (g : St → β) : ByteArray → Int → Int → Int → Int → Rows → β := p25_0_0.unc g
def p25_0_1 : PT St := pS [sl 0 (aV false [(cD dS)]), sl 3 (aV false [(cD (dI .i64))]), sl 4 (aV false [(cD (dI .u8))]), sl 5 (aV false [(cD dB)]), sl 7 (aV false [(cRef 20007)]), sl 8 (aV false [(cD (dI .i64))]), sl 9 (aV false [(cD (dI .i64))])] [eOwn 20007 1]
def u25_0_1 {β : Type} (g : St → β) : ByteArray → Int → Int → Bool → Int → Int → Rows → β := p25_0_1.unc g
def p25_0_2 : PT St := pS [sl 0 (aV false [(cD dS)]), sl 7 (aV false [(cRef 20007)]), sl 8 (aV false [(cD (dI .i64))]), sl 9 (aV false [(cD (dI .i64))]), sl 45 (aV false [(cD dB)])] [eOwn 20007 1]
def u25_0_2 {β : Type} (g : St → β) : ByteArray → Int → Int → Bool → Rows → β := p25_0_2.unc g
def p25_0_3 : PT St := pS [sl 0 (aV false [(cD dS)]), sl 7 (aV false [(cRef 20007)]), sl 8 (aV false [(cD (dI .i64))]), sl 9 (aV false [(cD (dI .i64))])] [eOwn 20007 1]
def u25_0_3 {β : Type} (g : St → β) : ByteArray → Int → Int → Rows → β := p25_0_3.unc g
def p25_0_4 : PT St := pS [sl 2 (aV false [(cD dB)])] []
def u25_0_4 {β : Type} (g : St → β) : Bool → β := p25_0_4.unc g
def p25_0_5 : PT St := pS [sl 0 (aV false [(cD dS)]), sl 7 (aV false [(cRef 20007)]), sl 8 (aV false [(cD (dI .i64))]), sl 9 (aV false [(cD (dI .i64))]), sl 10 (aV false [(cD dB)])] [eOwn 20007 1]
def u25_0_5 {β : Type} (g : St → β) : ByteArray → Int → Int → Bool → Rows → β := p25_0_5.unc g
def pr25_0_0 : PT (List RV) := pRs [pR false [rD dB]]
def ur25_0_0 {β : Type} (g : List RV → β) : Bool → β := pr25_0_0.unc g
def E25_0g  : EnvK := EnvK.of [] noSeq
noncomputable def E25_0 : EnvK := E25_0g 
theorem eo25_0 : E25_0.Ok Try.prog := EnvK.of_ok noSeq_ok trivial
noncomputable def c25_0_18g  : MCode := (.region r25_19 [] (tO [0, 7, 8, 9, 45]))
noncomputable def c25_0_18 : MCode := c25_0_18g 
theorem g25_0_18 : c25_0_18.Good Try.prog E25_0 sh25 := trivial
--CODE 18 0
abbrev TJ25_0_1 : Type 1 := (α : Type) → Int → Int → Bool → (Bool → Option α) → Option α
def J25_0_1g  (α : Type) (x18 x19 : Int) (x20 : Bool) (k1 : Bool → Option α) : Option α :=
 cK (!x20)
 (cK (x18 == 0)
 (k1 true)
 (cK (x19 != 45)
 (cK (decide (x19 < 48))
 (k1 true)
 (k1 (decide (57 < x19))))
 (k1 false)))
 (k1 false)
noncomputable def J25_0_1 (α : Type) (x18 x19 : Int) (x20 : Bool) (k1 : Bool → Option α) : Option α := J25_0_1g  α x18 x19 x20 k1
def F25_0_1 (v : TJ25_0_1) (α : Type) (K : Exit → St → Option α) : ByteArray → Int → Int → Bool → Int → Int → Rows → Option α := fun x17 x18 x19 x20 x21 x22 x23 => v α x18 x19 x20 (fun (y1 : Bool) => u25_0_2 (K .normal) x17 x21 x22 y1 x23) 
theorem m25_0_1g   (α : Type) (K : Exit → St → Option α) : F25_0_1 (J25_0_1g ) α K = p25_0_1.unc fun σ => runM Try.prog (E25_0g ) sh25 (c25_0_18g ) K σ := by kernel_rfl
theorem m25_0_1 : ∀ (α : Type) (K : Exit → St → Option α), F25_0_1 J25_0_1 α K = p25_0_1.unc fun σ => runM Try.prog E25_0 sh25 c25_0_18 K σ := m25_0_1g 
noncomputable def c25_0_16g  : MCode := (.region r25_17 [] (tO [0, 3, 4, 5, 7, 8, 9]))
noncomputable def c25_0_16 : MCode := c25_0_16g 
theorem g25_0_16 : c25_0_16.Good Try.prog E25_0 sh25 := trivial
--CODE 16 0
abbrev TJ25_0_0 : Type 1 := (α : Type) → Int → (Bool → Option α) → Option α
def J25_0_0g  (α : Type) (x10 : Int) (k1 : Bool → Option α) : Option α :=
 cK (decide (97 ≤ x10))
 (cK (decide (x10 ≤ 122))
 (k1 true)
 (cK (decide (65 ≤ x10))
 (k1 (decide (x10 ≤ 90)))
 (k1 false)))
 (cK (decide (65 ≤ x10))
 (k1 (decide (x10 ≤ 90)))
 (k1 false))
noncomputable def J25_0_0 (α : Type) (x10 : Int) (k1 : Bool → Option α) : Option α := J25_0_0g  α x10 k1
def F25_0_0 (v : TJ25_0_0) (α : Type) (K : Exit → St → Option α) : ByteArray → Int → Int → Int → Int → Rows → Option α := fun x8 x9 x10 x11 x12 x13 => v α x10 (fun (y1 : Bool) => u25_0_1 (K .normal) x8 x9 x10 y1 x11 x12 x13) 
theorem m25_0_0g   (α : Type) (K : Exit → St → Option α) : F25_0_0 (J25_0_0g ) α K = p25_0_0.unc fun σ => runM Try.prog (E25_0g ) sh25 (c25_0_16g ) K σ := by kernel_rfl
theorem m25_0_0 : ∀ (α : Type) (K : Exit → St → Option α), F25_0_0 J25_0_0 α K = p25_0_0.unc fun σ => runM Try.prog E25_0 sh25 c25_0_16 K σ := m25_0_0g 
noncomputable def c25_0_7g (vJ25_0_0 : TJ25_0_0) (vJ25_0_1 : TJ25_0_1) : MCode := (.seq (.region r25_9 [] (tO [0, 7, 8, 9, 10])) (.seq (.cond (.tmp 10) .skip (.exit 0)) (.seq (.block 1 (.seq (.region r25_15 [] (tO [0, 3, 4, 7, 8, 9])) (.seq (.mark [⟨p25_0_0, F25_0_0 vJ25_0_0⟩] c25_0_16) (.seq (.mark [⟨p25_0_1, F25_0_1 vJ25_0_1⟩] c25_0_18) (.cond (.tmp 45) (.seq (.region r25_22 [] (tO [2])) .ret) .skip))))) (.region r25_23 [] (tO [0, 7, 8, 9])))))
noncomputable def c25_0_7 : MCode := c25_0_7g J25_0_0 J25_0_1
theorem g25_0_7 : c25_0_7.Good Try.prog E25_0 sh25 := ⟨trivial, ⟨⟨trivial, trivial⟩, ⟨⟨trivial, ⟨⟨g25_0_16, m25_0_0, trivial⟩, ⟨⟨g25_0_18, m25_0_1, trivial⟩, ⟨⟨trivial, trivial⟩, trivial⟩⟩⟩⟩, trivial⟩⟩⟩
--CODE 7 0
def S25_0_2g (vJ25_0_0 : TJ25_0_0) (vJ25_0_1 : TJ25_0_1) (α : Type) (x3 : Int) (x5 : Rows) (x4 : Int) (kn : Int → Option α) (k1 : Option α) (k2 : Int → Bool → Option α) : Option α :=
 cK (decide (x4 < x3))
 (ixK x5 x4 1
 (ldK x5 (Int.toNat x4) 0 [.int .u8]
 (fun x7 => vJ25_0_0 α x7
 (fun x15 => vJ25_0_1 α x4 x7 x15
 (fun x25 => cK x25
 (k1)
 (kn (w64 (x4 + 1))))))))
 (k2 x4 (decide (x4 < x3)))
noncomputable def S25_0_2 (α : Type) (x3 : Int) (x5 : Rows) (x4 : Int) (kn : Int → Option α) (k1 : Option α) (k2 : Int → Bool → Option α) : Option α := S25_0_2g J25_0_0 J25_0_1 α x3 x5 x4 kn k1 k2
noncomputable def R25_0_2 (α : Type) (x3 : Int) (x5 : Rows) (k1 : Option α) (k2 : Int → Bool → Option α) : Nat → Int → Option α
 | 0, _ => none
 | n + 1, x4 => S25_0_2 α x3 x5 x4 (R25_0_2 α x3 x5 k1 k2 n) k1 k2
noncomputable def L25_0_2 (α : Type) (x3 : Int) (x5 : Rows) (k1 : Option α) (k2 : Int → Bool → Option α) (x4 : Int) : Option α := R25_0_2 α x3 x5 k1 k2 fuel x4
abbrev TL25_0_2 : Type 1 := (α : Type) → Int → Rows → (Option α) → (Int → Bool → Option α) → Int → Option α
def F25_0_2 (v : TL25_0_2) (α : Type) (K : Exit → St → Option α) : ByteArray → Int → Int → Rows → Option α := fun x2 x3 x4 x5 => v α x3 x5 (u25_0_4 (K .ret) false) (fun (y1 : Int) (y2 : Bool) => u25_0_5 (K (.exit 0)) x2 x3 y1 y2 x5) x4
theorem r25_0_2g  (vJ25_0_0 : TJ25_0_0) (vJ25_0_1 : TJ25_0_1) (α : Type) (K : Exit → St → Option α) (Kn : St → Option α) (x2 : ByteArray) (x3 x4 : Int) (x5 : Rows) : u25_0_3 (fun σ => runM Try.prog (E25_0g ) sh25 (c25_0_7g vJ25_0_0 vJ25_0_1) (thenK (fun σ => tidyK td25_7 σ Kn) K) σ) x2 x3 x4 x5 = S25_0_2g vJ25_0_0 vJ25_0_1 α x3 x5 x4 (fun x4 => u25_0_3 Kn x2 x3 x4 x5) (u25_0_4 (K .ret) false) (fun (y1 : Int) (y2 : Bool) => u25_0_5 (K (.exit 0)) x2 x3 y1 y2 x5) := by kernel_rfl
theorem r25_0_2 (α : Type) (K : Exit → St → Option α) (Kn : St → Option α) (x2 : ByteArray) (x3 x4 : Int) (x5 : Rows) : u25_0_3 (fun σ => runM Try.prog E25_0 sh25 c25_0_7 (thenK (fun σ => tidyK td25_7 σ Kn) K) σ) x2 x3 x4 x5 = S25_0_2 α x3 x5 x4 (fun x4 => u25_0_3 Kn x2 x3 x4 x5) (u25_0_4 (K .ret) false) (fun (y1 : Int) (y2 : Bool) => u25_0_5 (K (.exit 0)) x2 x3 y1 y2 x5) := r25_0_2g J25_0_0 J25_0_1 α K Kn x2 x3 x4 x5
theorem t25_0_2 (α : Type) (K : Exit → St → Option α) : ∀ (n : Nat) (x2 : ByteArray) (x3 x4 : Int) (x5 : Rows), R25_0_2 α x3 x5 (u25_0_4 (K .ret) false) (fun (y1 : Int) (y2 : Bool) => u25_0_5 (K (.exit 0)) x2 x3 y1 y2 x5) n x4 = u25_0_3 (loopT (runM Try.prog E25_0 sh25 c25_0_7) td25_7 K n) x2 x3 x4 x5 := by
 intro n
 induction n with
 | zero => intros; rfl
 | succ n ih => intro x2 x3 x4 x5; exact (congrArg (fun kn => S25_0_2 α x3 x5 x4 kn (u25_0_4 (K .ret) false) (fun (y1 : Int) (y2 : Bool) => u25_0_5 (K (.exit 0)) x2 x3 y1 y2 x5)) (funext fun x4 => ih x2 x3 x4 x5)).trans (r25_0_2 α K (loopT (runM Try.prog E25_0 sh25 c25_0_7) td25_7 K n) x2 x3 x4 x5).symm
theorem m25_0_2 : ∀ (α : Type) (K : Exit → St → Option α), F25_0_2 L25_0_2 α K = p25_0_3.unc fun σ => loopT (runM Try.prog E25_0 sh25 c25_0_7) td25_7 K fuel σ := fun α K => funext fun x2 => funext fun x3 => funext fun x4 => funext fun x5 => t25_0_2 α K fuel x2 x3 x4 x5
abbrev Tf25_0 : Type 1 := (α : Type) → ByteArray → (Bool → Option α) → Option α
def f25_0g (vL25_0_2 : TL25_0_2) (α : Type) (x1 : ByteArray) (k1 : Bool → Option α) : Option α :=
 gK (decide (ByteArray.size x1 ≤ 9223372036854775807)) (vL25_0_2 α ((List.length (bytesR x1) : Nat) : Int) (bytesR x1)
 (k1 false)
 (fun x27 x28 => cK (!(x1.toList == (⟨#[]⟩ : ByteArray).toList))
 (k1 (decide (((ByteArray.size x1 : Nat) : Int) ≤ 12)))
 (k1 false)) 0)
noncomputable def f25_0 (α : Type) (x1 : ByteArray) (k1 : Bool → Option α) : Option α := f25_0g L25_0_2 α x1 k1
def pa25_0 : PT (List DV) := pA [pV false [dS]]
def Fn25_0 (v : Tf25_0) (α : Type) (k : List RV → Option α) : ByteArray → Option α := fun x1 => v α x1 (fun (y1 : Bool) => ur25_0_0 k y1)
noncomputable def cm25_0g (vL25_0_2 : TL25_0_2) : MCode := (.seq (.region r25_2 [] (tO [0])) (.seq (.seq (.region r25_5 [] (tO [0, 7, 8, 9])) (.block 0 (.loop td25_7 [⟨p25_0_3, F25_0_2 vL25_0_2⟩] c25_0_7))) (.seq (.region r25_25 [] (tO [2])) .ret)))
noncomputable def cm25_0 : MCode := cm25_0g L25_0_2
theorem gm25_0 : cm25_0.Good Try.prog E25_0 sh25 := ⟨trivial, ⟨⟨trivial, ⟨g25_0_7, m25_0_2, trivial⟩⟩, ⟨trivial, trivial⟩⟩⟩
theorem fm25_0g  (vL25_0_2 : TL25_0_2) (α : Type) (k : List RV → Option α) : Fn25_0 (f25_0g vL25_0_2) α k = pa25_0.unc fun ds => fnM Try.prog (E25_0g ) sh25 (cm25_0g vL25_0_2) rs25 k ds := by kernel_rfl
theorem fm25_0 : ∀ (α : Type) (k : List RV → Option α), Fn25_0 f25_0 α k = pa25_0.unc fun ds => fnM Try.prog E25_0 sh25 cm25_0 rs25 k ds := fm25_0g L25_0_2
theorem is25 : FnIs Try.prog 25 nt25 tr25 tl25 cm25_0.erase rs25 := ⟨Try.f25, Try.func25, rfl, by kernel_rfl, by kernel_rfl, by kernel_rfl⟩
theorem io25_0 : InstOk Try.prog 25 nt25 ⟨pa25_0, Fn25_0 f25_0⟩ := inst_ok eo25_0 followsTry is25 ⟨⟨sh25, cm25_0, by kernel_rfl, gm25_0, fm25_0⟩⟩
abbrev nt28 : Nat := 6
def sh28 : List (Nat × List Sh) := []
def r28_2 : List AOper := [oO 2 (.mv (.const (.slice none 0 0)))]
def r28_4 : List AOper := [oO 3 (.bslice 1 0 [(.v (.int .i64 0))] []), oM 4 0, oO 5 (.append 1 8 (.tmp 3) (.tmp 4)), oM 2 5]
def tr28 : List (Nat × Tidy) := [tT 0 [0], (1, ⟨[2], true, [⟨false, 2, 0, 20002, 1⟩], []⟩)]
def tl28 : List (Nat × Tidy) := []
def rs28 : List AResV := [.tmp 2]
def pr28_0_0 : PT (List RV) := pRs [pR false [rO 1]]
def ur28_0_0 {β : Type} (g : List RV → β) : Rows → β := pr28_0_0.unc g
def E28_0g  : EnvK := EnvK.of [] noSeq
noncomputable def E28_0 : EnvK := E28_0g 
theorem eo28_0 : E28_0.Ok Try.prog := EnvK.of_ok noSeq_ok trivial
abbrev Tf28_0 : Type 1 := (α : Type) → Rows → (Rows → Option α) → Option α
def f28_0g  (α : Type) (x1 : Rows) (k1 : Rows → Option α) : Option α :=
 gK (apOk 1 8 ([] : Rows) x1) (k1 (([] : Rows) ++ x1))
noncomputable def f28_0 (α : Type) (x1 : Rows) (k1 : Rows → Option α) : Option α := f28_0g  α x1 k1
def pa28_0 : PT (List DV) := pA [pV false [dL]]
def Fn28_0 (v : Tf28_0) (α : Type) (k : List RV → Option α) : Rows → Option α := fun x1 => v α x1 (fun (y1 : Rows) => ur28_0_0 k y1)
noncomputable def cm28_0g  : MCode := (.seq (.region r28_2 [] (tO [0])) (.seq (.region r28_4 [] (some ⟨[2], true, [⟨false, 2, 0, 20002, 1⟩], []⟩)) .ret))
noncomputable def cm28_0 : MCode := cm28_0g 
theorem gm28_0 : cm28_0.Good Try.prog E28_0 sh28 := ⟨trivial, ⟨trivial, trivial⟩⟩
theorem fm28_0g   (α : Type) (k : List RV → Option α) : Fn28_0 (f28_0g ) α k = pa28_0.unc fun ds => fnM Try.prog (E28_0g ) sh28 (cm28_0g ) rs28 k ds := by kernel_rfl
theorem fm28_0 : ∀ (α : Type) (k : List RV → Option α), Fn28_0 f28_0 α k = pa28_0.unc fun ds => fnM Try.prog E28_0 sh28 cm28_0 rs28 k ds := fm28_0g 
theorem is28 : FnIs Try.prog 28 nt28 tr28 tl28 cm28_0.erase rs28 := ⟨Try.f28, Try.func28, rfl, by kernel_rfl, by kernel_rfl, by kernel_rfl⟩
theorem io28_0 : InstOk Try.prog 28 nt28 ⟨pa28_0, Fn28_0 f28_0⟩ := inst_ok eo28_0 followsTry is28 ⟨⟨sh28, cm28_0, by kernel_rfl, gm28_0, fm28_0⟩⟩
abbrev nt24 : Nat := 13
def sh24 : List (Nat × List Sh) := []
def r24_2 : List AOper := [oO 2 (.mv (.const (.bool false)))]
def r24_4 : List AOper := [oM 3 0, oO 4 (.bin .leq 3 (.tmp 3) (kI 12)), oM 5 4, oG 6 (.mv (.tmp 0)) 5 false, oG 7 (.bin .geq 3 (.tmp 6) (kI 64)) 5 false, oG 8 (.mv (.tmp 7)) 5 false, oG 9 (.mv (.tmp 0)) 8 true, oG 10 (.bin .leq 3 (.tmp 9) (kI 66)) 8 true, oG 11 (.pick (.tmp 8) (.tmp 10) (.const (.bool false))) 5 false, oO 12 (.pick (.tmp 5) (.const (.bool true)) (.tmp 11)), oM 2 12]
def tr24 : List (Nat × Tidy) := [tT 0 [0], tT 1 [2]]
def tl24 : List (Nat × Tidy) := []
def rs24 : List AResV := [.tmp 2]
def pr24_0_0 : PT (List RV) := pRs [pR false [rD dB]]
def ur24_0_0 {β : Type} (g : List RV → β) : Bool → β := pr24_0_0.unc g
def E24_0g  : EnvK := EnvK.of [] noSeq
noncomputable def E24_0 : EnvK := E24_0g 
theorem eo24_0 : E24_0.Ok Try.prog := EnvK.of_ok noSeq_ok trivial
abbrev Tf24_0 : Type 1 := (α : Type) → Int → (Bool → Option α) → Option α
def f24_0g  (α : Type) (x1 : Int) (k1 : Bool → Option α) : Option α :=
 cK (decide (x1 ≤ 12))
 (k1 true)
 (cK (decide (64 ≤ x1))
 (k1 (decide (x1 ≤ 66)))
 (k1 false))
noncomputable def f24_0 (α : Type) (x1 : Int) (k1 : Bool → Option α) : Option α := f24_0g  α x1 k1
def pa24_0 : PT (List DV) := pA [pV false [(dI .i64)]]
def Fn24_0 (v : Tf24_0) (α : Type) (k : List RV → Option α) : Int → Option α := fun x1 => v α x1 (fun (y1 : Bool) => ur24_0_0 k y1)
noncomputable def cm24_0g  : MCode := (.seq (.region r24_2 [] (tO [0])) (.seq (.region r24_4 [] (tO [2])) .ret))
noncomputable def cm24_0 : MCode := cm24_0g 
theorem gm24_0 : cm24_0.Good Try.prog E24_0 sh24 := ⟨trivial, ⟨trivial, trivial⟩⟩
theorem fm24_0g   (α : Type) (k : List RV → Option α) : Fn24_0 (f24_0g ) α k = pa24_0.unc fun ds => fnM Try.prog (E24_0g ) sh24 (cm24_0g ) rs24 k ds := by kernel_rfl
theorem fm24_0 : ∀ (α : Type) (k : List RV → Option α), Fn24_0 f24_0 α k = pa24_0.unc fun ds => fnM Try.prog E24_0 sh24 cm24_0 rs24 k ds := fm24_0g 
theorem is24 : FnIs Try.prog 24 nt24 tr24 tl24 cm24_0.erase rs24 := ⟨Try.f24, Try.func24, rfl, by kernel_rfl, by kernel_rfl, by kernel_rfl⟩
theorem io24_0 : InstOk Try.prog 24 nt24 ⟨pa24_0, Fn24_0 f24_0⟩ := inst_ok eo24_0 followsTry is24 ⟨⟨sh24, cm24_0, by kernel_rfl, gm24_0, fm24_0⟩⟩
abbrev nt44 : Nat := 10
def sh44 : List (Nat × List Sh) := []
def r44_2 : List AOper := [oO 4 (.mv (kI 0))]
def r44_4 : List AOper := [oM 5 0, oO 6 (.pure (oB (.unOp .neg 3 (.tmp 5)) 3)), oM 7 1, oO 8 (.call 43 [(.tmp 6), (.tmp 7)]), oO 9 (.pure (oB (.unOp .neg 3 (.tmp 8)) 3)), oM 4 9]
def tr44 : List (Nat × Tidy) := [tT 0 [0, 1], tT 1 [4]]
def tl44 : List (Nat × Tidy) := []
def rs44 : List AResV := [.tmp 4]
def pr44_0_0 : PT (List RV) := pRs [pR false [rD (dI .i64)]]
def ur44_0_0 {β : Type} (g : List RV → β) : Int → β := pr44_0_0.unc g
def E44_0g (vf43_0 : Tf43_0) : EnvK := EnvK.of [⟨43, nt43, [⟨pa43_0, Fn43_0 vf43_0⟩]⟩] noSeq
noncomputable def E44_0 : EnvK := E44_0g f43_0
theorem eo44_0 : E44_0.Ok Try.prog := EnvK.of_ok noSeq_ok ⟨⟨io43_0, trivial⟩, trivial⟩
abbrev Tf44_0 : Type 1 := (α : Type) → Int → Int → (Int → Option α) → Option α
def f44_0g (vf43_0 : Tf43_0) (α : Type) (x1 x2 : Int) (k1 : Int → Option α) : Option α :=
 vf43_0 α (w64 (0 - x1)) x2
 (fun x3 => k1 (w64 (0 - x3)))
noncomputable def f44_0 (α : Type) (x1 x2 : Int) (k1 : Int → Option α) : Option α := f44_0g f43_0 α x1 x2 k1
def pa44_0 : PT (List DV) := pA [pV false [(dI .i64)], pV false [(dI .i64)]]
def Fn44_0 (v : Tf44_0) (α : Type) (k : List RV → Option α) : Int → Int → Option α := fun x1 x2 => v α x1 x2 (fun (y1 : Int) => ur44_0_0 k y1)
noncomputable def cm44_0g  : MCode := (.seq (.region r44_2 [] (tO [0, 1])) (.seq (.region r44_4 [] (tO [4])) .ret))
noncomputable def cm44_0 : MCode := cm44_0g 
theorem gm44_0 : cm44_0.Good Try.prog E44_0 sh44 := ⟨trivial, ⟨trivial, trivial⟩⟩
theorem fm44_0g (vf43_0 : Tf43_0)  (α : Type) (k : List RV → Option α) : Fn44_0 (f44_0g vf43_0) α k = pa44_0.unc fun ds => fnM Try.prog (E44_0g vf43_0) sh44 (cm44_0g ) rs44 k ds := by kernel_rfl
theorem fm44_0 : ∀ (α : Type) (k : List RV → Option α), Fn44_0 f44_0 α k = pa44_0.unc fun ds => fnM Try.prog E44_0 sh44 cm44_0 rs44 k ds := fm44_0g f43_0
theorem is44 : FnIs Try.prog 44 nt44 tr44 tl44 cm44_0.erase rs44 := ⟨Try.f44, Try.func44, rfl, by kernel_rfl, by kernel_rfl, by kernel_rfl⟩
theorem io44_0 : InstOk Try.prog 44 nt44 ⟨pa44_0, Fn44_0 f44_0⟩ := inst_ok eo44_0 followsTry is44 ⟨⟨sh44, cm44_0, by kernel_rfl, gm44_0, fm44_0⟩⟩
abbrev nt41 : Nat := 47
def sh41 : List (Nat × List Sh) := []
def r41_2 : List AOper := [oO 8 (.mv (kI 0))]
def td41_4 : Option Tidy := (tO [0, 1, 2, 3])
def r41_7 : List AOper := [oM 11 0, oM 12 1, oO 13 (.call 43 [(.tmp 11), (.tmp 12)]), oM 14 2, oM 15 3, oO 16 (.call 43 [(.tmp 14), (.tmp 15)]), oM 9 13, oM 10 16]
def r41_10 : List AOper := [oM 17 9, oM 18 10, oO 19 (.bin .lss 3 (.tmp 17) (.tmp 18))]
def r41_13 : List AOper := [oO 8 (.mv (kI (-1)))]
def r41_16 : List AOper := [oM 20 9, oM 21 10, oO 22 (.bin .gtr 3 (.tmp 20) (.tmp 21))]
def r41_19 : List AOper := [oO 8 (.mv (kI 1))]
def r41_21 : List AOper := [oM 23 0, oM 24 9, oM 25 1, oO 26 (.bin .mul 3 (.tmp 24) (.tmp 25)), oO 27 (.bin .sub 3 (.tmp 23) (.tmp 26)), oM 28 2, oM 29 10, oM 30 3, oO 31 (.bin .mul 3 (.tmp 29) (.tmp 30)), oO 32 (.bin .sub 3 (.tmp 28) (.tmp 31)), oM 0 27, oM 2 32]
def r41_24 : List AOper := [oM 33 0, oO 34 (.bin .eql 3 (.tmp 33) (kI 0)), oM 35 34, oG 36 (.mv (.tmp 2)) 35 true, oG 37 (.bin .eql 3 (.tmp 36) (kI 0)) 35 true, oO 38 (.pick (.tmp 35) (.tmp 37) (.const (.bool false)))]
def r41_27 : List AOper := [oO 8 (.mv (kI 0))]
def r41_30 : List AOper := [oM 39 0, oO 40 (.bin .eql 3 (.tmp 39) (kI 0))]
def r41_33 : List AOper := [oO 8 (.mv (kI (-1)))]
def r41_36 : List AOper := [oM 41 2, oO 42 (.bin .eql 3 (.tmp 41) (kI 0))]
def r41_39 : List AOper := [oO 8 (.mv (kI 1))]
def r41_40 : List AOper := [oM 43 3, oM 44 2, oM 45 1, oM 46 0, oM 0 43, oM 1 44, oM 2 45, oM 3 46]
def tr41 : List (Nat × Tidy) := [tT 0 [0, 1, 2, 3], tT 1 [0, 1, 2, 3, 9, 10], tT 2 [0, 1, 2, 3, 9, 10, 19], tT 3 [8], tT 4 [0, 1, 2, 3, 9, 10, 22], tT 5 [8], tT 6 [0, 1, 2, 3], tT 7 [0, 1, 2, 3, 38], tT 8 [8], tT 9 [0, 1, 2, 3, 40], tT 10 [8], tT 11 [0, 1, 2, 3, 42], tT 12 [8], tT 13 [0, 1, 2, 3]]
def tl41 : List (Nat × Tidy) := [tT 1 [0, 1, 2, 3]]
def rs41 : List AResV := [.tmp 8]
def p41_0_0 : PT St := pS [sl 0 (aV false [(cD (dI .i64))]), sl 1 (aV false [(cD (dI .i64))]), sl 2 (aV false [(cD (dI .i64))]), sl 3 (aV false [(cD (dI .i64))])] []
def u41_0_0 {β : Type} (g : St → β) : Int → Int → Int → Int → β := p41_0_0.unc g
def p41_0_1 : PT St := pS [sl 8 (aV false [(cD (dI .i64))])] []
def u41_0_1 {β : Type} (g : St → β) : Int → β := p41_0_1.unc g
def p41_0_2 : PT St := pS [sl 0 (aV false [(cD (dI .i64))]), sl 1 (aV false [(cD (dI .i64))]), sl 2 (aV false [(cD (dI .i64))]), sl 3 (aV false [(cD (dI .i64))]), sl 38 (aV false [(cD dB)])] []
def u41_0_2 {β : Type} (g : St → β) : Int → Int → Int → Int → Bool → β := p41_0_2.unc g
def pr41_0_0 : PT (List RV) := pRs [pR false [rD (dI .i64)]]
def ur41_0_0 {β : Type} (g : List RV → β) : Int → β := pr41_0_0.unc g
def E41_0g (vf43_0 : Tf43_0) : EnvK := EnvK.of [⟨43, nt43, [⟨pa43_0, Fn43_0 vf43_0⟩]⟩] noSeq
noncomputable def E41_0 : EnvK := E41_0g f43_0
theorem eo41_0 : E41_0.Ok Try.prog := EnvK.of_ok noSeq_ok ⟨⟨io43_0, trivial⟩, trivial⟩
noncomputable def c41_0_22g  : MCode := (.seq (.region r41_24 [] (tO [0, 1, 2, 3, 38])) (.cond (.tmp 38) (.seq (.region r41_27 [] (tO [8])) .ret) .skip))
noncomputable def c41_0_22 : MCode := c41_0_22g 
theorem g41_0_22 : c41_0_22.Good Try.prog E41_0 sh41 := ⟨trivial, ⟨⟨trivial, trivial⟩, trivial⟩⟩
--CODE 22 0
abbrev TJ41_0_0 : Type 1 := (α : Type) → Int → Int → (Option α) → (Bool → Option α) → Option α
def J41_0_0g  (α : Type) (x12 x14 : Int) (k1 : Option α) (k2 : Bool → Option α) : Option α :=
 cK (x12 == 0)
 (cK (x14 == 0)
 (k1)
 (k2 (x14 == 0)))
 (k2 false)
noncomputable def J41_0_0 (α : Type) (x12 x14 : Int) (k1 : Option α) (k2 : Bool → Option α) : Option α := J41_0_0g  α x12 x14 k1 k2
def F41_0_0 (v : TJ41_0_0) (α : Type) (K : Exit → St → Option α) : Int → Int → Int → Int → Option α := fun x12 x13 x14 x15 => v α x12 x14 (u41_0_1 (K .ret) 0) (fun (y1 : Bool) => u41_0_2 (K .normal) x12 x13 x14 x15 y1) 
theorem m41_0_0g (vf43_0 : Tf43_0)  (α : Type) (K : Exit → St → Option α) : F41_0_0 (J41_0_0g ) α K = p41_0_0.unc fun σ => runM Try.prog (E41_0g vf43_0) sh41 (c41_0_22g ) K σ := by kernel_rfl
theorem m41_0_0 : ∀ (α : Type) (K : Exit → St → Option α), F41_0_0 J41_0_0 α K = p41_0_0.unc fun σ => runM Try.prog E41_0 sh41 c41_0_22 K σ := m41_0_0g f43_0
noncomputable def c41_0_4g (vJ41_0_0 : TJ41_0_0) : MCode := (.block 1 (.seq (.region r41_7 [] (tO [0, 1, 2, 3, 9, 10])) (.seq (.seq (.region r41_10 [] (tO [0, 1, 2, 3, 9, 10, 19])) (.cond (.tmp 19) (.seq (.region r41_13 [] (tO [8])) .ret) .skip)) (.seq (.seq (.region r41_16 [] (tO [0, 1, 2, 3, 9, 10, 22])) (.cond (.tmp 22) (.seq (.region r41_19 [] (tO [8])) .ret) .skip)) (.seq (.region r41_21 [] (tO [0, 1, 2, 3])) (.seq (.mark [⟨p41_0_0, F41_0_0 vJ41_0_0⟩] c41_0_22) (.seq (.seq (.region r41_30 [] (tO [0, 1, 2, 3, 40])) (.cond (.tmp 40) (.seq (.region r41_33 [] (tO [8])) .ret) .skip)) (.seq (.seq (.region r41_36 [] (tO [0, 1, 2, 3, 42])) (.cond (.tmp 42) (.seq (.region r41_39 [] (tO [8])) .ret) .skip)) (.region r41_40 [] (tO [0, 1, 2, 3]))))))))))
noncomputable def c41_0_4 : MCode := c41_0_4g J41_0_0
theorem g41_0_4 : c41_0_4.Good Try.prog E41_0 sh41 := ⟨trivial, ⟨⟨trivial, ⟨⟨trivial, trivial⟩, trivial⟩⟩, ⟨⟨trivial, ⟨⟨trivial, trivial⟩, trivial⟩⟩, ⟨trivial, ⟨⟨g41_0_22, m41_0_0, trivial⟩, ⟨⟨trivial, ⟨⟨trivial, trivial⟩, trivial⟩⟩, ⟨⟨trivial, ⟨⟨trivial, trivial⟩, trivial⟩⟩, trivial⟩⟩⟩⟩⟩⟩⟩
--CODE 4 0
def S41_0_1g (vJ41_0_0 : TJ41_0_0) (vf43_0 : Tf43_0) (α : Type)  (x5 x6 x7 x8 : Int) (kn : Int → Int → Int → Int → Option α) (k1 : Int → Option α) : Option α :=
 vf43_0 α x5 x6
 (fun x10 => vf43_0 α x7 x8
 (fun x11 => cK (decide (x10 < x11))
 (k1 (-1))
 (cK (decide (x11 < x10))
 (k1 1)
 (vJ41_0_0 α (w64 (x5 - (w64 (x10 * x6)))) (w64 (x7 - (w64 (x11 * x8))))
 (k1 0)
 (fun x17 => cK ((w64 (x5 - (w64 (x10 * x6)))) == 0)
 (k1 (-1))
 (cK ((w64 (x7 - (w64 (x11 * x8)))) == 0)
 (k1 1)
 (kn x8 (w64 (x7 - (w64 (x11 * x8)))) x6 (w64 (x5 - (w64 (x10 * x6)))))))))))
noncomputable def S41_0_1 (α : Type)  (x5 x6 x7 x8 : Int) (kn : Int → Int → Int → Int → Option α) (k1 : Int → Option α) : Option α := S41_0_1g J41_0_0 f43_0 α  x5 x6 x7 x8 kn k1
noncomputable def R41_0_1 (α : Type)  (k1 : Int → Option α) : Nat → Int → Int → Int → Int → Option α
 | 0, _, _, _, _ => none
 | n + 1, x5, x6, x7, x8 => S41_0_1 α  x5 x6 x7 x8 (R41_0_1 α  k1 n) k1
noncomputable def L41_0_1 (α : Type)  (k1 : Int → Option α) (x5 x6 x7 x8 : Int) : Option α := R41_0_1 α  k1 fuel x5 x6 x7 x8
abbrev TL41_0_1 : Type 1 := (α : Type) → (Int → Option α) → Int → Int → Int → Int → Option α
def F41_0_1 (v : TL41_0_1) (α : Type) (K : Exit → St → Option α) : Int → Int → Int → Int → Option α := fun x5 x6 x7 x8 => v α  (fun (y1 : Int) => u41_0_1 (K .ret) y1) x5 x6 x7 x8
theorem r41_0_1g (vf43_0 : Tf43_0) (vJ41_0_0 : TJ41_0_0) (α : Type) (K : Exit → St → Option α) (Kn : St → Option α) (x5 x6 x7 x8 : Int) : u41_0_0 (fun σ => runM Try.prog (E41_0g vf43_0) sh41 (c41_0_4g vJ41_0_0) (thenK (fun σ => tidyK td41_4 σ Kn) K) σ) x5 x6 x7 x8 = S41_0_1g vJ41_0_0 vf43_0 α  x5 x6 x7 x8 (fun x5 x6 x7 x8 => u41_0_0 Kn x5 x6 x7 x8) (fun (y1 : Int) => u41_0_1 (K .ret) y1) := by kernel_rfl
theorem r41_0_1 (α : Type) (K : Exit → St → Option α) (Kn : St → Option α) (x5 x6 x7 x8 : Int) : u41_0_0 (fun σ => runM Try.prog E41_0 sh41 c41_0_4 (thenK (fun σ => tidyK td41_4 σ Kn) K) σ) x5 x6 x7 x8 = S41_0_1 α  x5 x6 x7 x8 (fun x5 x6 x7 x8 => u41_0_0 Kn x5 x6 x7 x8) (fun (y1 : Int) => u41_0_1 (K .ret) y1) := r41_0_1g f43_0 J41_0_0 α K Kn x5 x6 x7 x8
theorem t41_0_1 (α : Type) (K : Exit → St → Option α) : ∀ (n : Nat) (x5 x6 x7 x8 : Int), R41_0_1 α  (fun (y1 : Int) => u41_0_1 (K .ret) y1) n x5 x6 x7 x8 = u41_0_0 (loopT (runM Try.prog E41_0 sh41 c41_0_4) td41_4 K n) x5 x6 x7 x8 := by
 intro n
 induction n with
 | zero => intros; rfl
 | succ n ih => intro x5 x6 x7 x8; exact (congrArg (fun kn => S41_0_1 α  x5 x6 x7 x8 kn (fun (y1 : Int) => u41_0_1 (K .ret) y1)) (funext fun x5 => funext fun x6 => funext fun x7 => funext fun x8 => ih x5 x6 x7 x8)).trans (r41_0_1 α K (loopT (runM Try.prog E41_0 sh41 c41_0_4) td41_4 K n) x5 x6 x7 x8).symm
theorem m41_0_1 : ∀ (α : Type) (K : Exit → St → Option α), F41_0_1 L41_0_1 α K = p41_0_0.unc fun σ => loopT (runM Try.prog E41_0 sh41 c41_0_4) td41_4 K fuel σ := fun α K => funext fun x5 => funext fun x6 => funext fun x7 => funext fun x8 => t41_0_1 α K fuel x5 x6 x7 x8
abbrev Tf41_0 : Type 1 := (α : Type) → Int → Int → Int → Int → (Int → Option α) → Option α
def f41_0g (vL41_0_1 : TL41_0_1) (α : Type) (x1 x2 x3 x4 : Int) (k1 : Int → Option α) : Option α :=
 vL41_0_1 α
 (fun x19 => k1 x19) x1 x2 x3 x4
noncomputable def f41_0 (α : Type) (x1 x2 x3 x4 : Int) (k1 : Int → Option α) : Option α := f41_0g L41_0_1 α x1 x2 x3 x4 k1
def pa41_0 : PT (List DV) := pA [pV false [(dI .i64)], pV false [(dI .i64)], pV false [(dI .i64)], pV false [(dI .i64)]]
def Fn41_0 (v : Tf41_0) (α : Type) (k : List RV → Option α) : Int → Int → Int → Int → Option α := fun x1 x2 x3 x4 => v α x1 x2 x3 x4 (fun (y1 : Int) => ur41_0_0 k y1)
noncomputable def cm41_0g (vL41_0_1 : TL41_0_1) : MCode := (.seq (.region r41_2 [] (tO [0, 1, 2, 3])) (.block 0 (.loop td41_4 [⟨p41_0_0, F41_0_1 vL41_0_1⟩] c41_0_4)))
noncomputable def cm41_0 : MCode := cm41_0g L41_0_1
theorem gm41_0 : cm41_0.Good Try.prog E41_0 sh41 := ⟨trivial, ⟨g41_0_4, m41_0_1, trivial⟩⟩
theorem fm41_0g (vf43_0 : Tf43_0) (vL41_0_1 : TL41_0_1) (α : Type) (k : List RV → Option α) : Fn41_0 (f41_0g vL41_0_1) α k = pa41_0.unc fun ds => fnM Try.prog (E41_0g vf43_0) sh41 (cm41_0g vL41_0_1) rs41 k ds := by kernel_rfl
theorem fm41_0 : ∀ (α : Type) (k : List RV → Option α), Fn41_0 f41_0 α k = pa41_0.unc fun ds => fnM Try.prog E41_0 sh41 cm41_0 rs41 k ds := fm41_0g f43_0 L41_0_1
theorem is41 : FnIs Try.prog 41 nt41 tr41 tl41 cm41_0.erase rs41 := ⟨Try.f41, Try.func41, rfl, by kernel_rfl, by kernel_rfl, by kernel_rfl⟩
theorem io41_0 : InstOk Try.prog 41 nt41 ⟨pa41_0, Fn41_0 f41_0⟩ := inst_ok eo41_0 followsTry is41 ⟨⟨sh41, cm41_0, by kernel_rfl, gm41_0, fm41_0⟩⟩
abbrev nt40 : Nat := 5
def sh40 : List (Nat × List Sh) := []
def r40_2 : List AOper := [oO 2 (.mv (.const (.bool false)))]
def r40_4 : List AOper := [oM 3 0, oO 4 (.call 16 [(.tmp 3), (kI 5000), (kI 80000)]), oM 2 4]
def tr40 : List (Nat × Tidy) := [tT 0 [0], tT 1 [2]]
def tl40 : List (Nat × Tidy) := []
def rs40 : List AResV := [.tmp 2]
def pr40_0_0 : PT (List RV) := pRs [pR false [rD dB]]
def ur40_0_0 {β : Type} (g : List RV → β) : Bool → β := pr40_0_0.unc g
def E40_0g (vf16_0 : Tf16_0) : EnvK := EnvK.of [⟨16, nt16, [⟨pa16_0, Fn16_0 vf16_0⟩]⟩] noSeq
noncomputable def E40_0 : EnvK := E40_0g f16_0
theorem eo40_0 : E40_0.Ok Try.prog := EnvK.of_ok noSeq_ok ⟨⟨io16_0, trivial⟩, trivial⟩
abbrev Tf40_0 : Type 1 := (α : Type) → Int → (Bool → Option α) → Option α
def f40_0g (vf16_0 : Tf16_0) (α : Type) (x1 : Int) (k1 : Bool → Option α) : Option α :=
 vf16_0 α x1 5000 80000
 (fun x2 => k1 x2)
noncomputable def f40_0 (α : Type) (x1 : Int) (k1 : Bool → Option α) : Option α := f40_0g f16_0 α x1 k1
def pa40_0 : PT (List DV) := pA [pV false [(dI .i64)]]
def Fn40_0 (v : Tf40_0) (α : Type) (k : List RV → Option α) : Int → Option α := fun x1 => v α x1 (fun (y1 : Bool) => ur40_0_0 k y1)
noncomputable def cm40_0g  : MCode := (.seq (.region r40_2 [] (tO [0])) (.seq (.region r40_4 [] (tO [2])) .ret))
noncomputable def cm40_0 : MCode := cm40_0g 
theorem gm40_0 : cm40_0.Good Try.prog E40_0 sh40 := ⟨trivial, ⟨trivial, trivial⟩⟩
theorem fm40_0g (vf16_0 : Tf16_0)  (α : Type) (k : List RV → Option α) : Fn40_0 (f40_0g vf16_0) α k = pa40_0.unc fun ds => fnM Try.prog (E40_0g vf16_0) sh40 (cm40_0g ) rs40 k ds := by kernel_rfl
theorem fm40_0 : ∀ (α : Type) (k : List RV → Option α), Fn40_0 f40_0 α k = pa40_0.unc fun ds => fnM Try.prog E40_0 sh40 cm40_0 rs40 k ds := fm40_0g f16_0
theorem is40 : FnIs Try.prog 40 nt40 tr40 tl40 cm40_0.erase rs40 := ⟨Try.f40, Try.func40, rfl, by kernel_rfl, by kernel_rfl, by kernel_rfl⟩
theorem io40_0 : InstOk Try.prog 40 nt40 ⟨pa40_0, Fn40_0 f40_0⟩ := inst_ok eo40_0 followsTry is40 ⟨⟨sh40, cm40_0, by kernel_rfl, gm40_0, fm40_0⟩⟩
abbrev nt62 : Nat := 11
def sh62 : List (Nat × List Sh) := [(4, [.int .i64]), (7, [.int .i64])]
def r62_2 : List AOper := [oO 1 (.box (.tmp 0)), oO 2 (.mv (kI 0))]
def r62_4 : List AOper := [oO 3 (.faddr 0 (.tmp 1)), oO 4 (.load false 1 (.tmp 3)), oO 5 (.pure (oB (.unOp .neg 3 (.tmp 4)) 3)), oO 6 (.faddr 1 (.tmp 1)), oO 7 (.load false 1 (.tmp 6)), oO 8 (.build [(cI 0), (cI 0)] [(0, 1, (.tmp 5)), (1, 1, (.tmp 7))]), oO 9 (.call 61 [(.tmp 8)]), oO 10 (.pure (oB (.unOp .neg 3 (.tmp 9)) 3)), oM 2 10]
def tr62 : List (Nat × Tidy) := [tT 0 [1], tT 1 [2]]
def tl62 : List (Nat × Tidy) := []
def rs62 : List AResV := [.tmp 2]
def pr62_0_0 : PT (List RV) := pRs [pR false [rD (dI .i64)]]
def ur62_0_0 {β : Type} (g : List RV → β) : Int → β := pr62_0_0.unc g
def E62_0g (vf61_0 : Tf61_0) : EnvK := EnvK.of [⟨61, nt61, [⟨pa61_0, Fn61_0 vf61_0⟩]⟩] noSeq
noncomputable def E62_0 : EnvK := E62_0g f61_0
theorem eo62_0 : E62_0.Ok Try.prog := EnvK.of_ok noSeq_ok ⟨⟨io61_0, trivial⟩, trivial⟩
abbrev Tf62_0 : Type 1 := (α : Type) → Int → Int → (Int → Option α) → Option α
def f62_0g (vf61_0 : Tf61_0) (α : Type) (x1 x2 : Int) (k1 : Int → Option α) : Option α :=
 vf61_0 α (w64 (0 - x1)) x2
 (fun x3 => k1 (w64 (0 - x3)))
noncomputable def f62_0 (α : Type) (x1 x2 : Int) (k1 : Int → Option α) : Option α := f62_0g f61_0 α x1 x2 k1
def pa62_0 : PT (List DV) := pA [pV true [(dI .i64), (dI .i64)]]
def Fn62_0 (v : Tf62_0) (α : Type) (k : List RV → Option α) : Int → Int → Option α := fun x1 x2 => v α x1 x2 (fun (y1 : Int) => ur62_0_0 k y1)
noncomputable def cm62_0g  : MCode := (.seq (.region r62_2 [] (tO [1])) (.seq (.region r62_4 [] (tO [2])) .ret))
noncomputable def cm62_0 : MCode := cm62_0g 
theorem gm62_0 : cm62_0.Good Try.prog E62_0 sh62 := ⟨trivial, ⟨trivial, trivial⟩⟩
theorem fm62_0g (vf61_0 : Tf61_0)  (α : Type) (k : List RV → Option α) : Fn62_0 (f62_0g vf61_0) α k = pa62_0.unc fun ds => fnM Try.prog (E62_0g vf61_0) sh62 (cm62_0g ) rs62 k ds := by kernel_rfl
theorem fm62_0 : ∀ (α : Type) (k : List RV → Option α), Fn62_0 f62_0 α k = pa62_0.unc fun ds => fnM Try.prog E62_0 sh62 cm62_0 rs62 k ds := fm62_0g f61_0
theorem is62 : FnIs Try.prog 62 nt62 tr62 tl62 cm62_0.erase rs62 := ⟨Try.f62, Try.func62, rfl, by kernel_rfl, by kernel_rfl, by kernel_rfl⟩
theorem io62_0 : InstOk Try.prog 62 nt62 ⟨pa62_0, Fn62_0 f62_0⟩ := inst_ok eo62_0 followsTry is62 ⟨⟨sh62, cm62_0, by kernel_rfl, gm62_0, fm62_0⟩⟩
abbrev nt60 : Nat := 20
def sh60 : List (Nat × List Sh) := []
def r60_2 : List AOper := [oO 4 (.mv (kI 0))]
def r60_4 : List AOper := [oM 7 0, oO 8 (.call 68 [(.tmp 7)]), oM 5 8]
def r60_6 : List AOper := [oM 9 1, oO 10 (.call 68 [(.tmp 9)]), oM 6 10]
def r60_9 : List AOper := [oM 11 5]
def r60_13 : List AOper := [oM 12 6]
def r60_16 : List AOper := [oO 4 (.mv (kI 0))]
def r60_18 : List AOper := [oO 4 (.mv (kI (-1)))]
def r60_21 : List AOper := [oM 13 6]
def r60_24 : List AOper := [oO 4 (.mv (kI 1))]
def r60_27 : List AOper := [oM 14 0, oM 15 1, oO 16 (.bin .lss 96 (.tmp 14) (.tmp 15))]
def r60_30 : List AOper := [oO 4 (.mv (kI (-1)))]
def r60_33 : List AOper := [oM 17 0, oM 18 1, oO 19 (.bin .gtr 96 (.tmp 17) (.tmp 18))]
def r60_36 : List AOper := [oO 4 (.mv (kI 1))]
def r60_38 : List AOper := [oO 4 (.mv (kI 0))]
def tr60 : List (Nat × Tidy) := [tT 0 [0, 1], tT 1 [0, 1, 5], tT 2 [0, 1, 5, 6], tT 3 [0, 1, 6, 11], tT 4 [12], tT 5 [4], tT 6 [4], tT 7 [0, 1, 13], tT 8 [4], tT 9 [0, 1, 16], tT 10 [4], tT 11 [19], tT 12 [4], tT 13 [4]]
def tl60 : List (Nat × Tidy) := []
def rs60 : List AResV := [.tmp 4]
def pr60_0_0 : PT (List RV) := pRs [pR false [rD (dI .i64)]]
def ur60_0_0 {β : Type} (g : List RV → β) : Int → β := pr60_0_0.unc g
def E60_0g (vf68_0 : Tf68_0) : EnvK := EnvK.of [⟨68, nt68, [⟨pa68_0, Fn68_0 vf68_0⟩]⟩] noSeq
noncomputable def E60_0 : EnvK := E60_0g f68_0
theorem eo60_0 : E60_0.Ok Try.prog := EnvK.of_ok noSeq_ok ⟨⟨io68_0, trivial⟩, trivial⟩
abbrev Tf60_0 : Type 1 := (α : Type) → Int → Int → (Int → Option α) → Option α
def f60_0g (vf68_0 : Tf68_0) (α : Type) (x1 x2 : Int) (k1 : Int → Option α) : Option α :=
 vf68_0 α x1
 (fun x3 => vf68_0 α x2
 (fun x4 => cK x3
 (cK x4
 (k1 0)
 (k1 (-1)))
 (cK x4
 (k1 1)
 (cK (decide (x1 < x2))
 (k1 (-1))
 (cK (decide (x2 < x1))
 (k1 1)
 (k1 0))))))
noncomputable def f60_0 (α : Type) (x1 x2 : Int) (k1 : Int → Option α) : Option α := f60_0g f68_0 α x1 x2 k1
def pa60_0 : PT (List DV) := pA [pV false [(dI .u64)], pV false [(dI .u64)]]
def Fn60_0 (v : Tf60_0) (α : Type) (k : List RV → Option α) : Int → Int → Option α := fun x1 x2 => v α x1 x2 (fun (y1 : Int) => ur60_0_0 k y1)
noncomputable def cm60_0g  : MCode := (.seq (.region r60_2 [] (tO [0, 1])) (.seq (.region r60_4 [] (tO [0, 1, 5])) (.seq (.region r60_6 [] (tO [0, 1, 5, 6])) (.seq (.seq (.region r60_9 [] (tO [0, 1, 6, 11])) (.cond (.tmp 11) (.seq (.seq (.region r60_13 [] (tO [12])) (.cond (.tmp 12) (.seq (.region r60_16 [] (tO [4])) .ret) .skip)) (.seq (.region r60_18 [] (tO [4])) .ret)) .skip)) (.seq (.seq (.region r60_21 [] (tO [0, 1, 13])) (.cond (.tmp 13) (.seq (.region r60_24 [] (tO [4])) .ret) .skip)) (.seq (.seq (.region r60_27 [] (tO [0, 1, 16])) (.cond (.tmp 16) (.seq (.region r60_30 [] (tO [4])) .ret) .skip)) (.seq (.seq (.region r60_33 [] (tO [19])) (.cond (.tmp 19) (.seq (.region r60_36 [] (tO [4])) .ret) .skip)) (.seq (.region r60_38 [] (tO [4])) .ret))))))))
noncomputable def cm60_0 : MCode := cm60_0g 
theorem gm60_0 : cm60_0.Good Try.prog E60_0 sh60 := ⟨trivial, ⟨trivial, ⟨trivial, ⟨⟨trivial, ⟨⟨⟨trivial, ⟨⟨trivial, trivial⟩, trivial⟩⟩, ⟨trivial, trivial⟩⟩, trivial⟩⟩, ⟨⟨trivial, ⟨⟨trivial, trivial⟩, trivial⟩⟩, ⟨⟨trivial, ⟨⟨trivial, trivial⟩, trivial⟩⟩, ⟨⟨trivial, ⟨⟨trivial, trivial⟩, trivial⟩⟩, ⟨trivial, trivial⟩⟩⟩⟩⟩⟩⟩⟩
theorem fm60_0g (vf68_0 : Tf68_0)  (α : Type) (k : List RV → Option α) : Fn60_0 (f60_0g vf68_0) α k = pa60_0.unc fun ds => fnM Try.prog (E60_0g vf68_0) sh60 (cm60_0g ) rs60 k ds := by kernel_rfl
theorem fm60_0 : ∀ (α : Type) (k : List RV → Option α), Fn60_0 f60_0 α k = pa60_0.unc fun ds => fnM Try.prog E60_0 sh60 cm60_0 rs60 k ds := fm60_0g f68_0
theorem is60 : FnIs Try.prog 60 nt60 tr60 tl60 cm60_0.erase rs60 := ⟨Try.f60, Try.func60, rfl, by kernel_rfl, by kernel_rfl, by kernel_rfl⟩
theorem io60_0 : InstOk Try.prog 60 nt60 ⟨pa60_0, Fn60_0 f60_0⟩ := inst_ok eo60_0 followsTry is60 ⟨⟨sh60, cm60_0, by kernel_rfl, gm60_0, fm60_0⟩⟩
abbrev nt31 : Nat := 5
def sh31 : List (Nat × List Sh) := []
def r31_2 : List AOper := [oO 2 (.mv (.const (.bool false)))]
def r31_4 : List AOper := [oM 3 0, oO 4 (.call 16 [(.tmp 3), (kI 1000), (kI 200000)]), oM 2 4]
def tr31 : List (Nat × Tidy) := [tT 0 [0], tT 1 [2]]
def tl31 : List (Nat × Tidy) := []
def rs31 : List AResV := [.tmp 2]
def pr31_0_0 : PT (List RV) := pRs [pR false [rD dB]]
def ur31_0_0 {β : Type} (g : List RV → β) : Bool → β := pr31_0_0.unc g
def E31_0g (vf16_0 : Tf16_0) : EnvK := EnvK.of [⟨16, nt16, [⟨pa16_0, Fn16_0 vf16_0⟩]⟩] noSeq
noncomputable def E31_0 : EnvK := E31_0g f16_0
theorem eo31_0 : E31_0.Ok Try.prog := EnvK.of_ok noSeq_ok ⟨⟨io16_0, trivial⟩, trivial⟩
abbrev Tf31_0 : Type 1 := (α : Type) → Int → (Bool → Option α) → Option α
def f31_0g (vf16_0 : Tf16_0) (α : Type) (x1 : Int) (k1 : Bool → Option α) : Option α :=
 vf16_0 α x1 1000 200000
 (fun x2 => k1 x2)
noncomputable def f31_0 (α : Type) (x1 : Int) (k1 : Bool → Option α) : Option α := f31_0g f16_0 α x1 k1
def pa31_0 : PT (List DV) := pA [pV false [(dI .i64)]]
def Fn31_0 (v : Tf31_0) (α : Type) (k : List RV → Option α) : Int → Option α := fun x1 => v α x1 (fun (y1 : Bool) => ur31_0_0 k y1)
noncomputable def cm31_0g  : MCode := (.seq (.region r31_2 [] (tO [0])) (.seq (.region r31_4 [] (tO [2])) .ret))
noncomputable def cm31_0 : MCode := cm31_0g 
theorem gm31_0 : cm31_0.Good Try.prog E31_0 sh31 := ⟨trivial, ⟨trivial, trivial⟩⟩
theorem fm31_0g (vf16_0 : Tf16_0)  (α : Type) (k : List RV → Option α) : Fn31_0 (f31_0g vf16_0) α k = pa31_0.unc fun ds => fnM Try.prog (E31_0g vf16_0) sh31 (cm31_0g ) rs31 k ds := by kernel_rfl
theorem fm31_0 : ∀ (α : Type) (k : List RV → Option α), Fn31_0 f31_0 α k = pa31_0.unc fun ds => fnM Try.prog E31_0 sh31 cm31_0 rs31 k ds := fm31_0g f16_0
theorem is31 : FnIs Try.prog 31 nt31 tr31 tl31 cm31_0.erase rs31 := ⟨Try.f31, Try.func31, rfl, by kernel_rfl, by kernel_rfl, by kernel_rfl⟩
theorem io31_0 : InstOk Try.prog 31 nt31 ⟨pa31_0, Fn31_0 f31_0⟩ := inst_ok eo31_0 followsTry is31 ⟨⟨sh31, cm31_0, by kernel_rfl, gm31_0, fm31_0⟩⟩
abbrev nt30 : Nat := 11
def sh30 : List (Nat × List Sh) := []
def r30_2 : List AOper := [oO 4 (.mv (.const (.bool false)))]
def r30_4 : List AOper := [oM 5 0, oO 6 (.call 16 [(.tmp 5), (kI 5000), (kI 60000)]), oM 7 6, oG 8 (.mv (.tmp 1)) 7 true, oG 9 (.call 16 [(.tmp 8), (kI 0), (kI 20000)]) 7 true, oO 10 (.pick (.tmp 7) (.tmp 9) (.const (.bool false))), oM 4 10]
def tr30 : List (Nat × Tidy) := [tT 0 [0, 1], tT 1 [4]]
def tl30 : List (Nat × Tidy) := []
def rs30 : List AResV := [.tmp 4]
def pr30_0_0 : PT (List RV) := pRs [pR false [rD dB]]
def ur30_0_0 {β : Type} (g : List RV → β) : Bool → β := pr30_0_0.unc g
def E30_0g (vf16_0 : Tf16_0) : EnvK := EnvK.of [⟨16, nt16, [⟨pa16_0, Fn16_0 vf16_0⟩]⟩] noSeq
noncomputable def E30_0 : EnvK := E30_0g f16_0
theorem eo30_0 : E30_0.Ok Try.prog := EnvK.of_ok noSeq_ok ⟨⟨io16_0, trivial⟩, trivial⟩
abbrev Tf30_0 : Type 1 := (α : Type) → Int → Int → (Bool → Option α) → Option α
def f30_0g (vf16_0 : Tf16_0) (α : Type) (x1 x2 : Int) (k1 : Bool → Option α) : Option α :=
 vf16_0 α x1 5000 60000
 (fun x3 => cK x3
 (vf16_0 α x2 0 20000
 (fun x4 => k1 x4))
 (k1 false))
noncomputable def f30_0 (α : Type) (x1 x2 : Int) (k1 : Bool → Option α) : Option α := f30_0g f16_0 α x1 x2 k1
def pa30_0 : PT (List DV) := pA [pV false [(dI .i64)], pV false [(dI .i64)]]
def Fn30_0 (v : Tf30_0) (α : Type) (k : List RV → Option α) : Int → Int → Option α := fun x1 x2 => v α x1 x2 (fun (y1 : Bool) => ur30_0_0 k y1)
noncomputable def cm30_0g  : MCode := (.seq (.region r30_2 [] (tO [0, 1])) (.seq (.region r30_4 [] (tO [4])) .ret))
noncomputable def cm30_0 : MCode := cm30_0g 
theorem gm30_0 : cm30_0.Good Try.prog E30_0 sh30 := ⟨trivial, ⟨trivial, trivial⟩⟩
theorem fm30_0g (vf16_0 : Tf16_0)  (α : Type) (k : List RV → Option α) : Fn30_0 (f30_0g vf16_0) α k = pa30_0.unc fun ds => fnM Try.prog (E30_0g vf16_0) sh30 (cm30_0g ) rs30 k ds := by kernel_rfl
theorem fm30_0 : ∀ (α : Type) (k : List RV → Option α), Fn30_0 f30_0 α k = pa30_0.unc fun ds => fnM Try.prog E30_0 sh30 cm30_0 rs30 k ds := fm30_0g f16_0
theorem is30 : FnIs Try.prog 30 nt30 tr30 tl30 cm30_0.erase rs30 := ⟨Try.f30, Try.func30, rfl, by kernel_rfl, by kernel_rfl, by kernel_rfl⟩
theorem io30_0 : InstOk Try.prog 30 nt30 ⟨pa30_0, Fn30_0 f30_0⟩ := inst_ok eo30_0 followsTry is30 ⟨⟨sh30, cm30_0, by kernel_rfl, gm30_0, fm30_0⟩⟩
abbrev nt27 : Nat := 11
def sh27 : List (Nat × List Sh) := [(4, [.int .i64]), (8, [.int .i64])]
def r27_2 : List AOper := [oO 1 (.box (.tmp 0)), oO 2 (.mv (.const (.bool false)))]
def r27_4 : List AOper := [oO 3 (.iaddr 1 (some 2) (.tmp 1) (kI 0)), oO 4 (.load false 1 (.tmp 3)), oO 5 (.call 34 [(.tmp 4), (kI 5000), (kI 60000)]), oM 6 5, oG 7 (.iaddr 1 (some 2) (.tmp 1) (kI 1)) 6 true, oG 8 (.load false 1 (.tmp 7)) 6 true, oG 9 (.call 34 [(.tmp 8), (kI 0), (kI 20000)]) 6 true, oO 10 (.pick (.tmp 6) (.tmp 9) (.const (.bool false))), oM 2 10]
def tr27 : List (Nat × Tidy) := [tT 0 [1], tT 1 [2]]
def tl27 : List (Nat × Tidy) := []
def rs27 : List AResV := [.tmp 2]
def pr27_0_0 : PT (List RV) := pRs [pR false [rD dB]]
def ur27_0_0 {β : Type} (g : List RV → β) : Bool → β := pr27_0_0.unc g
def E27_0g (vf34_0 : Tf34_0) : EnvK := EnvK.of [⟨34, nt34, [⟨pa34_0, Fn34_0 vf34_0⟩]⟩] noSeq
noncomputable def E27_0 : EnvK := E27_0g f34_0
theorem eo27_0 : E27_0.Ok Try.prog := EnvK.of_ok noSeq_ok ⟨⟨io34_0, trivial⟩, trivial⟩
abbrev Tf27_0 : Type 1 := (α : Type) → Int → Int → (Bool → Option α) → Option α
def f27_0g (vf34_0 : Tf34_0) (α : Type) (x1 x2 : Int) (k1 : Bool → Option α) : Option α :=
 vf34_0 α x1 5000 60000
 (fun x3 => cK x3
 (vf34_0 α x2 0 20000
 (fun x4 => k1 x4))
 (k1 false))
noncomputable def f27_0 (α : Type) (x1 x2 : Int) (k1 : Bool → Option α) : Option α := f27_0g f34_0 α x1 x2 k1
def pa27_0 : PT (List DV) := pA [pV true [(dI .i64), (dI .i64)]]
def Fn27_0 (v : Tf27_0) (α : Type) (k : List RV → Option α) : Int → Int → Option α := fun x1 x2 => v α x1 x2 (fun (y1 : Bool) => ur27_0_0 k y1)
noncomputable def cm27_0g  : MCode := (.seq (.region r27_2 [] (tO [1])) (.seq (.region r27_4 [] (tO [2])) .ret))
noncomputable def cm27_0 : MCode := cm27_0g 
theorem gm27_0 : cm27_0.Good Try.prog E27_0 sh27 := ⟨trivial, ⟨trivial, trivial⟩⟩
theorem fm27_0g (vf34_0 : Tf34_0)  (α : Type) (k : List RV → Option α) : Fn27_0 (f27_0g vf34_0) α k = pa27_0.unc fun ds => fnM Try.prog (E27_0g vf34_0) sh27 (cm27_0g ) rs27 k ds := by kernel_rfl
theorem fm27_0 : ∀ (α : Type) (k : List RV → Option α), Fn27_0 f27_0 α k = pa27_0.unc fun ds => fnM Try.prog E27_0 sh27 cm27_0 rs27 k ds := fm27_0g f34_0
theorem is27 : FnIs Try.prog 27 nt27 tr27 tl27 cm27_0.erase rs27 := ⟨Try.f27, Try.func27, rfl, by kernel_rfl, by kernel_rfl, by kernel_rfl⟩
theorem io27_0 : InstOk Try.prog 27 nt27 ⟨pa27_0, Fn27_0 f27_0⟩ := inst_ok eo27_0 followsTry is27 ⟨⟨sh27, cm27_0, by kernel_rfl, gm27_0, fm27_0⟩⟩
abbrev nt67 : Nat := 5
def sh67 : List (Nat × List Sh) := []
def r67_2 : List AOper := [oO 2 (.mv (.const (.bool false)))]
def r67_4 : List AOper := [oM 3 0, oO 4 (.call 34 [(.tmp 3), (kI 0), (kI 80000)]), oM 2 4]
def tr67 : List (Nat × Tidy) := [tT 0 [0], tT 1 [2]]
def tl67 : List (Nat × Tidy) := []
def rs67 : List AResV := [.tmp 2]
def pr67_0_0 : PT (List RV) := pRs [pR false [rD dB]]
def ur67_0_0 {β : Type} (g : List RV → β) : Bool → β := pr67_0_0.unc g
def E67_0g (vf34_0 : Tf34_0) : EnvK := EnvK.of [⟨34, nt34, [⟨pa34_0, Fn34_0 vf34_0⟩]⟩] noSeq
noncomputable def E67_0 : EnvK := E67_0g f34_0
theorem eo67_0 : E67_0.Ok Try.prog := EnvK.of_ok noSeq_ok ⟨⟨io34_0, trivial⟩, trivial⟩
abbrev Tf67_0 : Type 1 := (α : Type) → Int → (Bool → Option α) → Option α
def f67_0g (vf34_0 : Tf34_0) (α : Type) (x1 : Int) (k1 : Bool → Option α) : Option α :=
 vf34_0 α x1 0 80000
 (fun x2 => k1 x2)
noncomputable def f67_0 (α : Type) (x1 : Int) (k1 : Bool → Option α) : Option α := f67_0g f34_0 α x1 k1
def pa67_0 : PT (List DV) := pA [pV false [(dI .i64)]]
def Fn67_0 (v : Tf67_0) (α : Type) (k : List RV → Option α) : Int → Option α := fun x1 => v α x1 (fun (y1 : Bool) => ur67_0_0 k y1)
noncomputable def cm67_0g  : MCode := (.seq (.region r67_2 [] (tO [0])) (.seq (.region r67_4 [] (tO [2])) .ret))
noncomputable def cm67_0 : MCode := cm67_0g 
theorem gm67_0 : cm67_0.Good Try.prog E67_0 sh67 := ⟨trivial, ⟨trivial, trivial⟩⟩
theorem fm67_0g (vf34_0 : Tf34_0)  (α : Type) (k : List RV → Option α) : Fn67_0 (f67_0g vf34_0) α k = pa67_0.unc fun ds => fnM Try.prog (E67_0g vf34_0) sh67 (cm67_0g ) rs67 k ds := by kernel_rfl
theorem fm67_0 : ∀ (α : Type) (k : List RV → Option α), Fn67_0 f67_0 α k = pa67_0.unc fun ds => fnM Try.prog E67_0 sh67 cm67_0 rs67 k ds := fm67_0g f34_0
theorem is67 : FnIs Try.prog 67 nt67 tr67 tl67 cm67_0.erase rs67 := ⟨Try.f67, Try.func67, rfl, by kernel_rfl, by kernel_rfl, by kernel_rfl⟩
theorem io67_0 : InstOk Try.prog 67 nt67 ⟨pa67_0, Fn67_0 f67_0⟩ := inst_ok eo67_0 followsTry is67 ⟨⟨sh67, cm67_0, by kernel_rfl, gm67_0, fm67_0⟩⟩
abbrev nt57 : Nat := 5
def sh57 : List (Nat × List Sh) := []
def r57_2 : List AOper := [oO 2 (.mv (.const (.bool false)))]
def r57_4 : List AOper := [oM 3 0, oO 4 (.call 34 [(.tmp 3), (kI 5000), (kI 80000)]), oM 2 4]
def tr57 : List (Nat × Tidy) := [tT 0 [0], tT 1 [2]]
def tl57 : List (Nat × Tidy) := []
def rs57 : List AResV := [.tmp 2]
def pr57_0_0 : PT (List RV) := pRs [pR false [rD dB]]
def ur57_0_0 {β : Type} (g : List RV → β) : Bool → β := pr57_0_0.unc g
def E57_0g (vf34_0 : Tf34_0) : EnvK := EnvK.of [⟨34, nt34, [⟨pa34_0, Fn34_0 vf34_0⟩]⟩] noSeq
noncomputable def E57_0 : EnvK := E57_0g f34_0
theorem eo57_0 : E57_0.Ok Try.prog := EnvK.of_ok noSeq_ok ⟨⟨io34_0, trivial⟩, trivial⟩
abbrev Tf57_0 : Type 1 := (α : Type) → Int → (Bool → Option α) → Option α
def f57_0g (vf34_0 : Tf34_0) (α : Type) (x1 : Int) (k1 : Bool → Option α) : Option α :=
 vf34_0 α x1 5000 80000
 (fun x2 => k1 x2)
noncomputable def f57_0 (α : Type) (x1 : Int) (k1 : Bool → Option α) : Option α := f57_0g f34_0 α x1 k1
def pa57_0 : PT (List DV) := pA [pV false [(dI .i64)]]
def Fn57_0 (v : Tf57_0) (α : Type) (k : List RV → Option α) : Int → Option α := fun x1 => v α x1 (fun (y1 : Bool) => ur57_0_0 k y1)
noncomputable def cm57_0g  : MCode := (.seq (.region r57_2 [] (tO [0])) (.seq (.region r57_4 [] (tO [2])) .ret))
noncomputable def cm57_0 : MCode := cm57_0g 
theorem gm57_0 : cm57_0.Good Try.prog E57_0 sh57 := ⟨trivial, ⟨trivial, trivial⟩⟩
theorem fm57_0g (vf34_0 : Tf34_0)  (α : Type) (k : List RV → Option α) : Fn57_0 (f57_0g vf34_0) α k = pa57_0.unc fun ds => fnM Try.prog (E57_0g vf34_0) sh57 (cm57_0g ) rs57 k ds := by kernel_rfl
theorem fm57_0 : ∀ (α : Type) (k : List RV → Option α), Fn57_0 f57_0 α k = pa57_0.unc fun ds => fnM Try.prog E57_0 sh57 cm57_0 rs57 k ds := fm57_0g f34_0
theorem is57 : FnIs Try.prog 57 nt57 tr57 tl57 cm57_0.erase rs57 := ⟨Try.f57, Try.func57, rfl, by kernel_rfl, by kernel_rfl, by kernel_rfl⟩
theorem io57_0 : InstOk Try.prog 57 nt57 ⟨pa57_0, Fn57_0 f57_0⟩ := inst_ok eo57_0 followsTry is57 ⟨⟨sh57, cm57_0, by kernel_rfl, gm57_0, fm57_0⟩⟩
abbrev nt77 : Nat := 15
def sh77 : List (Nat × List Sh) := []
def r77_2 : List AOper := [oO 4 (.mv (.const (.bool false)))]
def r77_5 : List AOper := [oM 5 1, oO 6 (.bin .eql 3 (.tmp 5) (kI 0))]
def r77_7 : List AOper := [oM 7 0, oO 8 (.call 85 [(.tmp 7)]), oM 0 8]
def r77_9 : List AOper := [oM 9 1, oO 10 (.bin .lss 3 (.tmp 9) (kI 0))]
def r77_11 : List AOper := [oM 11 0, oO 12 (.pure (oB (.unOp .neg 65 (.tmp 11)) 65)), oM 0 12]
def r77_13 : List AOper := [oM 13 0, oO 14 (.bin .gtr 65 (.tmp 13) (.const (.float Go.FloatKind.f64 9218868437227405311))), oM 4 14]
def tr77 : List (Nat × Tidy) := [tT 0 [0, 1], tT 1 [0, 1, 6], tT 2 [0], tT 3 [0, 10], tT 4 [0], tT 5 [4]]
def tl77 : List (Nat × Tidy) := []
def rs77 : List AResV := [.tmp 4]
def pr77_0_0 : PT (List RV) := pRs [pR false [rD dB]]
def ur77_0_0 {β : Type} (g : List RV → β) : Bool → β := pr77_0_0.unc g
def E77_0g (vf85_0 : Tf85_0) : EnvK := EnvK.of [⟨85, nt85, [⟨pa85_0, Fn85_0 vf85_0⟩]⟩] noSeq
noncomputable def E77_0 : EnvK := E77_0g f85_0
theorem eo77_0 : E77_0.Ok Try.prog := EnvK.of_ok noSeq_ok ⟨⟨io85_0, trivial⟩, trivial⟩
abbrev Tf77_0 : Type 1 := (α : Type) → Nat → Int → (Bool → Option α) → Option α
def f77_0g (vf85_0 : Tf85_0) (α : Type) (x1 : Nat) (x2 : Int) (k1 : Bool → Option α) : Option α :=
 cK (x2 == 0)
 (vf85_0 α x1
 (fun x3 => k1 ((FloatKind.format .f64).order x3 9218868437227405311 == some Ordering.gt)))
 (cK (decide (x2 < 0))
 (k1 ((FloatKind.format .f64).order (Op.negFloat .f64 x1) 9218868437227405311 == some Ordering.gt))
 (k1 ((FloatKind.format .f64).order x1 9218868437227405311 == some Ordering.gt)))
noncomputable def f77_0 (α : Type) (x1 : Nat) (x2 : Int) (k1 : Bool → Option α) : Option α := f77_0g f85_0 α x1 x2 k1
def pa77_0 : PT (List DV) := pA [pV false [(dF .f64)], pV false [(dI .i64)]]
def Fn77_0 (v : Tf77_0) (α : Type) (k : List RV → Option α) : Nat → Int → Option α := fun x1 x2 => v α x1 x2 (fun (y1 : Bool) => ur77_0_0 k y1)
noncomputable def cm77_0g  : MCode := (.seq (.region r77_2 [] (tO [0, 1])) (.seq (.seq (.region r77_5 [] (tO [0, 1, 6])) (.cond (.tmp 6) (.region r77_7 [] (tO [0])) (.seq (.region r77_9 [] (tO [0, 10])) (.cond (.tmp 10) (.region r77_11 [] (tO [0])) .skip)))) (.seq (.region r77_13 [] (tO [4])) .ret)))
noncomputable def cm77_0 : MCode := cm77_0g 
theorem gm77_0 : cm77_0.Good Try.prog E77_0 sh77 := ⟨trivial, ⟨⟨trivial, ⟨trivial, ⟨trivial, ⟨trivial, trivial⟩⟩⟩⟩, ⟨trivial, trivial⟩⟩⟩
theorem fm77_0g (vf85_0 : Tf85_0)  (α : Type) (k : List RV → Option α) : Fn77_0 (f77_0g vf85_0) α k = pa77_0.unc fun ds => fnM Try.prog (E77_0g vf85_0) sh77 (cm77_0g ) rs77 k ds := by kernel_rfl
theorem fm77_0 : ∀ (α : Type) (k : List RV → Option α), Fn77_0 f77_0 α k = pa77_0.unc fun ds => fnM Try.prog E77_0 sh77 cm77_0 rs77 k ds := fm77_0g f85_0
theorem is77 : FnIs Try.prog 77 nt77 tr77 tl77 cm77_0.erase rs77 := ⟨Try.f77, Try.func77, rfl, by kernel_rfl, by kernel_rfl, by kernel_rfl⟩
theorem io77_0 : InstOk Try.prog 77 nt77 ⟨pa77_0, Fn77_0 f77_0⟩ := inst_ok eo77_0 followsTry is77 ⟨⟨sh77, cm77_0, by kernel_rfl, gm77_0, fm77_0⟩⟩
abbrev nt46 : Nat := 5
def sh46 : List (Nat × List Sh) := []
def r46_2 : List AOper := [oO 2 (.mv (.const (.bool false)))]
def r46_4 : List AOper := [oM 3 0, oO 4 (.call 34 [(.tmp 3), (kI 1000), (kI 200000)]), oM 2 4]
def tr46 : List (Nat × Tidy) := [tT 0 [0], tT 1 [2]]
def tl46 : List (Nat × Tidy) := []
def rs46 : List AResV := [.tmp 2]
def pr46_0_0 : PT (List RV) := pRs [pR false [rD dB]]
def ur46_0_0 {β : Type} (g : List RV → β) : Bool → β := pr46_0_0.unc g
def E46_0g (vf34_0 : Tf34_0) : EnvK := EnvK.of [⟨34, nt34, [⟨pa34_0, Fn34_0 vf34_0⟩]⟩] noSeq
noncomputable def E46_0 : EnvK := E46_0g f34_0
theorem eo46_0 : E46_0.Ok Try.prog := EnvK.of_ok noSeq_ok ⟨⟨io34_0, trivial⟩, trivial⟩
abbrev Tf46_0 : Type 1 := (α : Type) → Int → (Bool → Option α) → Option α
def f46_0g (vf34_0 : Tf34_0) (α : Type) (x1 : Int) (k1 : Bool → Option α) : Option α :=
 vf34_0 α x1 1000 200000
 (fun x2 => k1 x2)
noncomputable def f46_0 (α : Type) (x1 : Int) (k1 : Bool → Option α) : Option α := f46_0g f34_0 α x1 k1
def pa46_0 : PT (List DV) := pA [pV false [(dI .i64)]]
def Fn46_0 (v : Tf46_0) (α : Type) (k : List RV → Option α) : Int → Option α := fun x1 => v α x1 (fun (y1 : Bool) => ur46_0_0 k y1)
noncomputable def cm46_0g  : MCode := (.seq (.region r46_2 [] (tO [0])) (.seq (.region r46_4 [] (tO [2])) .ret))
noncomputable def cm46_0 : MCode := cm46_0g 
theorem gm46_0 : cm46_0.Good Try.prog E46_0 sh46 := ⟨trivial, ⟨trivial, trivial⟩⟩
theorem fm46_0g (vf34_0 : Tf34_0)  (α : Type) (k : List RV → Option α) : Fn46_0 (f46_0g vf34_0) α k = pa46_0.unc fun ds => fnM Try.prog (E46_0g vf34_0) sh46 (cm46_0g ) rs46 k ds := by kernel_rfl
theorem fm46_0 : ∀ (α : Type) (k : List RV → Option α), Fn46_0 f46_0 α k = pa46_0.unc fun ds => fnM Try.prog E46_0 sh46 cm46_0 rs46 k ds := fm46_0g f34_0
theorem is46 : FnIs Try.prog 46 nt46 tr46 tl46 cm46_0.erase rs46 := ⟨Try.f46, Try.func46, rfl, by kernel_rfl, by kernel_rfl, by kernel_rfl⟩
theorem io46_0 : InstOk Try.prog 46 nt46 ⟨pa46_0, Fn46_0 f46_0⟩ := inst_ok eo46_0 followsTry is46 ⟨⟨sh46, cm46_0, by kernel_rfl, gm46_0, fm46_0⟩⟩
abbrev nt10 : Nat := 21
def sh10 : List (Nat × List Sh) := [(4, [.str]), (6, [.int .i64]), (8, [.sl]), (12, [.sl]), (16, [.sl]), (19, [.int .i64, .int .i64])]
def r10_2 : List AOper := [oO 1 (.box (.tmp 0)), ⟨(some 2), (.alloc [(.d (.v (.string ⟨#[]⟩))), (cI 0), .nils, .nils, .nils, (cI 0), (cI 0)]), none⟩]
def r10_4 : List AOper := [oO 3 (.faddr 0 (.tmp 1)), oO 4 (.load false 1 (.tmp 3)), oO 5 (.faddr 1 (.tmp 1)), oO 6 (.load false 1 (.tmp 5)), oO 7 (.faddr 2 (.tmp 1)), oO 8 (.load false 1 (.tmp 7)), oO 9 (.call 28 [(.tmp 8)]), oO 10 (.bslice 1 0 [(.v (.float Go.FloatKind.f32 0))] []), oO 11 (.faddr 3 (.tmp 1)), oO 12 (.load false 1 (.tmp 11)), oO 13 (.append 1 4 (.tmp 10) (.tmp 12)), oO 14 (.bslice 1 0 [(.v (.float Go.FloatKind.f32 0))] []), oO 15 (.faddr 4 (.tmp 1)), oO 16 (.load false 1 (.tmp 15)), oO 17 (.append 1 4 (.tmp 14) (.tmp 16)), oO 18 (.faddr 5 (.tmp 1)), oO 19 (.load true 2 (.tmp 18)), ⟨(some 20), (.build [(.d (.v (.string ⟨#[]⟩))), (cI 0), .nils, .nils, .nils, (cI 0), (cI 0)] [(0, 1, (.tmp 4)), (1, 1, (.tmp 6)), (2, 1, (.tmp 9)), (3, 1, (.tmp 13)), (4, 1, (.tmp 17)), (5, 2, (.tmp 19))]), none⟩, oD (.store 7 (.tmp 2) (.tmp 20))]
def tr10 : List (Nat × Tidy) := [(0, ⟨[1, 2], true, [⟨true, 2, 2, 30202, 1⟩, ⟨true, 2, 3, 30203, 1⟩, ⟨true, 2, 4, 30204, 1⟩], []⟩), (1, ⟨[2], true, [⟨true, 2, 2, 30202, 1⟩, ⟨true, 2, 3, 30203, 1⟩, ⟨true, 2, 4, 30204, 1⟩], []⟩)]
def tl10 : List (Nat × Tidy) := []
def rs10 : List AResV := [.cell 2 true 7]
def pr10_0_0 : PT (List RV) := pRs [pR true [rD dS, rD (dI .i64), rO 1, rO 1, rO 1, rD (dI .i64), rD (dI .i64)]]
def ur10_0_0 {β : Type} (g : List RV → β) : ByteArray → Int → Rows → Rows → Rows → Int → Int → β := pr10_0_0.unc g
def E10_0g (vf28_0 : Tf28_0) : EnvK := EnvK.of [⟨28, nt28, [⟨pa28_0, Fn28_0 vf28_0⟩]⟩] noSeq
noncomputable def E10_0 : EnvK := E10_0g f28_0
theorem eo10_0 : E10_0.Ok Try.prog := EnvK.of_ok noSeq_ok ⟨⟨io28_0, trivial⟩, trivial⟩
abbrev Tf10_0 : Type 1 := (α : Type) → ByteArray → Int → Rows → Rows → Rows → Int → Int → (ByteArray → Int → Rows → Rows → Rows → Int → Int → Option α) → Option α
def f10_0g (vf28_0 : Tf28_0) (α : Type) (x1 : ByteArray) (x2 : Int) (x3 x4 x5 : Rows) (x6 x7 : Int) (k1 : ByteArray → Int → Rows → Rows → Rows → Int → Int → Option α) : Option α :=
 vf28_0 α x3
 (fun x8 => gK (apOk 1 4 ([] : Rows) x4) (gK (apOk 1 4 ([] : Rows) x5) (k1 x1 x2 x8 (([] : Rows) ++ x4) (([] : Rows) ++ x5) x6 x7)))
noncomputable def f10_0 (α : Type) (x1 : ByteArray) (x2 : Int) (x3 x4 x5 : Rows) (x6 x7 : Int) (k1 : ByteArray → Int → Rows → Rows → Rows → Int → Int → Option α) : Option α := f10_0g f28_0 α x1 x2 x3 x4 x5 x6 x7 k1
def pa10_0 : PT (List DV) := pA [pV true [dS, (dI .i64), dL, dL, dL, (dI .i64), (dI .i64)]]
def Fn10_0 (v : Tf10_0) (α : Type) (k : List RV → Option α) : ByteArray → Int → Rows → Rows → Rows → Int → Int → Option α := fun x1 x2 x3 x4 x5 x6 x7 => v α x1 x2 x3 x4 x5 x6 x7 (fun (y1 : ByteArray) (y2 : Int) (y3 : Rows) (y4 : Rows) (y5 : Rows) (y6 : Int) (y7 : Int) => ur10_0_0 k y1 y2 y3 y4 y5 y6 y7)
noncomputable def cm10_0g  : MCode := (.seq (.region r10_2 [] (some ⟨[1, 2], true, [⟨true, 2, 2, 30202, 1⟩, ⟨true, 2, 3, 30203, 1⟩, ⟨true, 2, 4, 30204, 1⟩], []⟩)) (.seq (.region r10_4 [(1, 6), (3, 6), (1, 7), (3, 7), (5, 7), (6, 7), (6, 9), (7, 9), (1, 10), (3, 10), (1, 11), (3, 11), (5, 11), (6, 11), (7, 11), (9, 11), (10, 11), (6, 13), (7, 13), (10, 13), (11, 13), (1, 14), (3, 14), (6, 16), (7, 16), (10, 16), (11, 16), (14, 16)] (some ⟨[2], true, [⟨true, 2, 2, 30202, 1⟩, ⟨true, 2, 3, 30203, 1⟩, ⟨true, 2, 4, 30204, 1⟩], []⟩)) .ret))
noncomputable def cm10_0 : MCode := cm10_0g 
theorem gm10_0 : cm10_0.Good Try.prog E10_0 sh10 := ⟨trivial, ⟨trivial, trivial⟩⟩
theorem fm10_0g (vf28_0 : Tf28_0)  (α : Type) (k : List RV → Option α) : Fn10_0 (f10_0g vf28_0) α k = pa10_0.unc fun ds => fnM Try.prog (E10_0g vf28_0) sh10 (cm10_0g ) rs10 k ds := by kernel_rfl
theorem fm10_0 : ∀ (α : Type) (k : List RV → Option α), Fn10_0 f10_0 α k = pa10_0.unc fun ds => fnM Try.prog E10_0 sh10 cm10_0 rs10 k ds := fm10_0g f28_0
theorem is10 : FnIs Try.prog 10 nt10 tr10 tl10 cm10_0.erase rs10 := ⟨Try.f10, Try.func10, rfl, by kernel_rfl, by kernel_rfl, by kernel_rfl⟩
theorem io10_0 : InstOk Try.prog 10 nt10 ⟨pa10_0, Fn10_0 f10_0⟩ := inst_ok eo10_0 followsTry is10 ⟨⟨sh10, cm10_0, by kernel_rfl, gm10_0, fm10_0⟩⟩
abbrev nt8 : Nat := 25
def sh8 : List (Nat × List Sh) := [(4, [.sl]), (9, [.sl]), (15, [.sl]), (21, [.str])]
def r8_2 : List AOper := [oO 1 (.box (.tmp 0)), oO 2 (.mv (.const (.bool false)))]
def r8_4 : List AOper := [oO 3 (.faddr 2 (.tmp 1)), oO 4 (.load false 1 (.tmp 3)), oO 5 (.len (.tmp 4)), oO 6 (.call 24 [(.tmp 5)]), oM 7 6, oG 8 (.faddr 3 (.tmp 1)) 7 true, oG 9 (.load false 1 (.tmp 8)) 7 true, oG 10 (.len (.tmp 9)) 7 true, oG 11 (.call 24 [(.tmp 10)]) 7 true, oO 12 (.pick (.tmp 7) (.tmp 11) (.const (.bool false))), oM 13 12, oG 14 (.faddr 4 (.tmp 1)) 13 true, oG 15 (.load false 1 (.tmp 14)) 13 true, oG 16 (.len (.tmp 15)) 13 true, oG 17 (.call 24 [(.tmp 16)]) 13 true, oO 18 (.pick (.tmp 13) (.tmp 17) (.const (.bool false))), oM 19 18, oG 20 (.faddr 0 (.tmp 1)) 19 true, oG 21 (.load false 1 (.tmp 20)) 19 true, oG 22 (.pure (oB (.call { callee := .builtin .len, args := #[(.tmp 21)], argTypes := #[9] }) 3)) 19 true, oG 23 (.bin .leq 3 (.tmp 22) (kI 20)) 19 true, oO 24 (.pick (.tmp 19) (.tmp 23) (.const (.bool false))), oM 2 24]
def tr8 : List (Nat × Tidy) := [tT 0 [1], tT 1 [2]]
def tl8 : List (Nat × Tidy) := []
def rs8 : List AResV := [.tmp 2]
def pr8_0_0 : PT (List RV) := pRs [pR false [rD dB]]
def ur8_0_0 {β : Type} (g : List RV → β) : Bool → β := pr8_0_0.unc g
def E8_0g (vf24_0 : Tf24_0) : EnvK := EnvK.of [⟨24, nt24, [⟨pa24_0, Fn24_0 vf24_0⟩]⟩] noSeq
noncomputable def E8_0 : EnvK := E8_0g f24_0
theorem eo8_0 : E8_0.Ok Try.prog := EnvK.of_ok noSeq_ok ⟨⟨io24_0, trivial⟩, trivial⟩
abbrev Tf8_0 : Type 1 := (α : Type) → ByteArray → Int → Rows → Rows → Rows → Int → Int → (Bool → Option α) → Option α
def f8_0g (vf24_0 : Tf24_0) (α : Type) (x1 : ByteArray) (x2 : Int) (x3 x4 x5 : Rows) (x6 x7 : Int) (k1 : Bool → Option α) : Option α :=
 vf24_0 α ((List.length x3 : Nat) : Int)
 (fun x8 => cK x8
 (vf24_0 α ((List.length x4 : Nat) : Int)
 (fun x9 => cK x9
 (vf24_0 α ((List.length x5 : Nat) : Int)
 (fun x10 => cK x10
 (k1 (decide (((ByteArray.size x1 : Nat) : Int) ≤ 20)))
 (k1 false)))
 (k1 false)))
 (k1 false))
noncomputable def f8_0 (α : Type) (x1 : ByteArray) (x2 : Int) (x3 x4 x5 : Rows) (x6 x7 : Int) (k1 : Bool → Option α) : Option α := f8_0g f24_0 α x1 x2 x3 x4 x5 x6 x7 k1
def pa8_0 : PT (List DV) := pA [pV true [dS, (dI .i64), dL, dL, dL, (dI .i64), (dI .i64)]]
def Fn8_0 (v : Tf8_0) (α : Type) (k : List RV → Option α) : ByteArray → Int → Rows → Rows → Rows → Int → Int → Option α := fun x1 x2 x3 x4 x5 x6 x7 => v α x1 x2 x3 x4 x5 x6 x7 (fun (y1 : Bool) => ur8_0_0 k y1)
noncomputable def cm8_0g  : MCode := (.seq (.region r8_2 [] (tO [1])) (.seq (.region r8_4 [] (tO [2])) .ret))
noncomputable def cm8_0 : MCode := cm8_0g 
theorem gm8_0 : cm8_0.Good Try.prog E8_0 sh8 := ⟨trivial, ⟨trivial, trivial⟩⟩
theorem fm8_0g (vf24_0 : Tf24_0)  (α : Type) (k : List RV → Option α) : Fn8_0 (f8_0g vf24_0) α k = pa8_0.unc fun ds => fnM Try.prog (E8_0g vf24_0) sh8 (cm8_0g ) rs8 k ds := by kernel_rfl
theorem fm8_0 : ∀ (α : Type) (k : List RV → Option α), Fn8_0 f8_0 α k = pa8_0.unc fun ds => fnM Try.prog E8_0 sh8 cm8_0 rs8 k ds := fm8_0g f24_0
theorem is8 : FnIs Try.prog 8 nt8 tr8 tl8 cm8_0.erase rs8 := ⟨Try.f8, Try.func8, rfl, by kernel_rfl, by kernel_rfl, by kernel_rfl⟩
theorem io8_0 : InstOk Try.prog 8 nt8 ⟨pa8_0, Fn8_0 f8_0⟩ := inst_ok eo8_0 followsTry is8 ⟨⟨sh8, cm8_0, by kernel_rfl, gm8_0, fm8_0⟩⟩
abbrev nt15 : Nat := 66
def sh15 : List (Nat × List Sh) := []
def r15_2 : List AOper := [oO 6 (.alloc [(cI 0), (cI 0)]), oO 7 (.mv (kI 0))]
def r15_5 : List AOper := [oM 10 0, oO 11 (.call 40 [(.tmp 10)]), oO 12 (.pure (oB (.unOp .not 4 (.tmp 11)) 4)), oM 13 12, oG 14 (.mv (.tmp 1)) 13 false, oG 15 (.call 40 [(.tmp 14)]) 13 false, oG 16 (.pure (oB (.unOp .not 4 (.tmp 15)) 4)) 13 false, oO 17 (.pick (.tmp 13) (.const (.bool true)) (.tmp 16)), oM 18 17, oG 19 (.mv (.tmp 2)) 18 false, oG 20 (.call 40 [(.tmp 19)]) 18 false, oG 21 (.pure (oB (.unOp .not 4 (.tmp 20)) 4)) 18 false, oO 22 (.pick (.tmp 18) (.const (.bool true)) (.tmp 21))]
def r15_8 : List AOper := [oO 23 (.build [(cI 0), (cI 0)] []), oD (.store 2 (.tmp 6) (.tmp 23)), oO 7 (.mv (kI 2))]
def r15_11 : List AOper := [oM 24 0, oM 25 1, oO 26 (.bin .eql 3 (.tmp 24) (.tmp 25))]
def r15_14 : List AOper := [oO 27 (.build [(cI 0), (cI 0)] []), oD (.store 2 (.tmp 6) (.tmp 27)), oO 7 (.mv (kI 9))]
def r15_17 : List AOper := [oM 28 2, oM 29 0, oM 30 1, oO 31 (.pure (oB (.call { callee := .builtin .min, args := #[(.tmp 29), (.tmp 30)], argTypes := #[3, 3] }) 3)), oM 32 0, oM 33 1, oO 34 (.pure (oB (.call { callee := .builtin .max, args := #[(.tmp 32), (.tmp 33)], argTypes := #[3, 3] }) 3)), oO 35 (.call 16 [(.tmp 28), (.tmp 31), (.tmp 34)]), oO 36 (.pure (oB (.unOp .not 4 (.tmp 35)) 4))]
def r15_20 : List AOper := [oO 37 (.build [(cI 0), (cI 0)] []), oD (.store 2 (.tmp 6) (.tmp 37)), oO 7 (.mv (kI 24))]
def r15_22 : List AOper := [oM 38 2, oM 39 2, oO 40 (.bin .mul 3 (.tmp 38) (.tmp 39)), oM 41 1, oM 42 1, oO 43 (.bin .mul 3 (.tmp 41) (.tmp 42)), oO 44 (.bin .sub 3 (.tmp 40) (.tmp 43)), oO 45 (.bin .mul 3 (kI 10000) (.tmp 44)), oM 46 0, oM 47 0, oO 48 (.bin .mul 3 (.tmp 46) (.tmp 47)), oM 49 1, oM 50 1, oO 51 (.bin .mul 3 (.tmp 49) (.tmp 50)), oO 52 (.bin .sub 3 (.tmp 48) (.tmp 51)), oM 8 45, oM 9 52]
def r15_25 : List AOper := [oM 53 9, oO 54 (.bin .lss 3 (.tmp 53) (kI 0))]
def r15_27 : List AOper := [oM 55 8, oO 56 (.pure (oB (.unOp .neg 3 (.tmp 55)) 3)), oM 57 9, oO 58 (.pure (oB (.unOp .neg 3 (.tmp 57)) 3)), oM 8 56, oM 9 58]
def r15_29 : List AOper := [oM 59 8, oM 60 9, oO 61 (.call 43 [(.tmp 59), (.tmp 60)]), oM 62 8, oM 63 9, oO 64 (.call 44 [(.tmp 62), (.tmp 63)]), oO 65 (.build [(cI 0), (cI 0)] [(0, 1, (.tmp 61)), (1, 1, (.tmp 64))]), oD (.store 2 (.tmp 6) (.tmp 65)), oO 7 (.mv (kI 0))]
def tr15 : List (Nat × Tidy) := [tT 0 [0, 1, 2, 6], tT 1 [0, 1, 2, 6, 22], tT 2 [6, 7], tT 3 [0, 1, 2, 6, 26], tT 4 [6, 7], tT 5 [0, 1, 2, 6, 36], tT 6 [6, 7], tT 7 [6, 8, 9], tT 8 [6, 8, 9, 54], tT 9 [6, 8, 9], tT 10 [6, 7]]
def tl15 : List (Nat × Tidy) := []
def rs15 : List AResV := [.cell 6 true 2, .tmp 7]
def p15_0_0 : PT St := pS [sl 0 (aV false [(cD (dI .i64))]), sl 1 (aV false [(cD (dI .i64))]), sl 2 (aV false [(cD (dI .i64))]), sl 6 (aV false [(cPtr 6 0)])] [eBox 6 [(cD (dI .i64)), (cD (dI .i64))]]
def u15_0_0 {β : Type} (g : St → β) : Int → Int → Int → Int → Int → β := p15_0_0.unc g
def p15_0_1 : PT St := pS [sl 0 (aV false [(cD (dI .i64))]), sl 1 (aV false [(cD (dI .i64))]), sl 2 (aV false [(cD (dI .i64))]), sl 6 (aV false [(cPtr 6 0)]), sl 22 (aV false [(cD dB)])] [eBox 6 [(cD (dI .i64)), (cD (dI .i64))]]
def u15_0_1 {β : Type} (g : St → β) : Int → Int → Int → Bool → Int → Int → β := p15_0_1.unc g
def p15_0_2 : PT St := pS [sl 6 (aV false [(cPtr 6 0)]), sl 8 (aV false [(cD (dI .i64))]), sl 9 (aV false [(cD (dI .i64))])] [eBox 6 [(cD (dI .i64)), (cD (dI .i64))]]
def u15_0_2 {β : Type} (g : St → β) : Int → Int → Int → Int → β := p15_0_2.unc g
def p15_0_3 : PT St := pS [sl 6 (aV false [(cPtr 6 0)]), sl 8 (aV false [(cD (dI .i64))]), sl 9 (aV false [(cD (dI .i64))]), sl 54 (aV false [(cD dB)])] [eBox 6 [(cD (dI .i64)), (cD (dI .i64))]]
def u15_0_3 {β : Type} (g : St → β) : Int → Int → Bool → Int → Int → β := p15_0_3.unc g
def pr15_0_0 : PT (List RV) := pRs [pR true [rD (dI .i64), rD (dI .i64)], pR false [rD (dI .i64)]]
def ur15_0_0 {β : Type} (g : List RV → β) : Int → Int → Int → β := pr15_0_0.unc g
def E15_0g (vf40_0 : Tf40_0) (vf16_0 : Tf16_0) (vf43_0 : Tf43_0) (vf44_0 : Tf44_0) : EnvK := EnvK.of [⟨40, nt40, [⟨pa40_0, Fn40_0 vf40_0⟩]⟩, ⟨16, nt16, [⟨pa16_0, Fn16_0 vf16_0⟩]⟩, ⟨43, nt43, [⟨pa43_0, Fn43_0 vf43_0⟩]⟩, ⟨44, nt44, [⟨pa44_0, Fn44_0 vf44_0⟩]⟩] noSeq
noncomputable def E15_0 : EnvK := E15_0g f40_0 f16_0 f43_0 f44_0
theorem eo15_0 : E15_0.Ok Try.prog := EnvK.of_ok noSeq_ok ⟨⟨io40_0, trivial⟩, ⟨io16_0, trivial⟩, ⟨io43_0, trivial⟩, ⟨io44_0, trivial⟩, trivial⟩
noncomputable def c15_0_23g  : MCode := (.seq (.region r15_25 [] (tO [6, 8, 9, 54])) (.cond (.tmp 54) (.region r15_27 [] (tO [6, 8, 9])) .skip))
noncomputable def c15_0_23 : MCode := c15_0_23g 
theorem g15_0_23 : c15_0_23.Good Try.prog E15_0 sh15 := ⟨trivial, ⟨trivial, trivial⟩⟩
--CODE 23 0
abbrev TJ15_0_1 : Type 1 := (α : Type) → Int → Int → (Int → Int → Option α) → (Bool → Option α) → Option α
def J15_0_1g  (α : Type) (x16 x17 : Int) (k1 : Int → Int → Option α) (k2 : Bool → Option α) : Option α :=
 cK (decide (x17 < 0))
 (k1 (w64 (0 - x16)) (w64 (0 - x17)))
 (k2 (decide (x17 < 0)))
noncomputable def J15_0_1 (α : Type) (x16 x17 : Int) (k1 : Int → Int → Option α) (k2 : Bool → Option α) : Option α := J15_0_1g  α x16 x17 k1 k2
def F15_0_1 (v : TJ15_0_1) (α : Type) (K : Exit → St → Option α) : Int → Int → Int → Int → Option α := fun x16 x17 x18 x19 => v α x16 x17 (fun (y1 : Int) (y2 : Int) => u15_0_2 (K .normal) y1 y2 x18 x19) (fun (y1 : Bool) => u15_0_3 (K .normal) x16 x17 y1 x18 x19) 
theorem m15_0_1g (vf40_0 : Tf40_0) (vf16_0 : Tf16_0) (vf43_0 : Tf43_0) (vf44_0 : Tf44_0)  (α : Type) (K : Exit → St → Option α) : F15_0_1 (J15_0_1g ) α K = p15_0_2.unc fun σ => runM Try.prog (E15_0g vf40_0 vf16_0 vf43_0 vf44_0) sh15 (c15_0_23g ) K σ := by kernel_rfl
theorem m15_0_1 : ∀ (α : Type) (K : Exit → St → Option α), F15_0_1 J15_0_1 α K = p15_0_2.unc fun σ => runM Try.prog E15_0 sh15 c15_0_23 K σ := m15_0_1g f40_0 f16_0 f43_0 f44_0
noncomputable def c15_0_4g  : MCode := (.region r15_5 [] (tO [0, 1, 2, 6, 22]))
noncomputable def c15_0_4 : MCode := c15_0_4g 
theorem g15_0_4 : c15_0_4.Good Try.prog E15_0 sh15 := trivial
--CODE 4 0
abbrev TJ15_0_0 : Type 1 := (α : Type) → Int → Int → Int → (Bool → Option α) → Option α
def J15_0_0g (vf40_0 : Tf40_0) (α : Type) (x4 x5 x6 : Int) (k1 : Bool → Option α) : Option α :=
 vf40_0 α x4
 (fun x10 => cK (!x10)
 (k1 true)
 (vf40_0 α x5
 (fun x11 => cK (!x11)
 (k1 true)
 (vf40_0 α x6
 (fun x12 => k1 (!x12))))))
noncomputable def J15_0_0 (α : Type) (x4 x5 x6 : Int) (k1 : Bool → Option α) : Option α := J15_0_0g f40_0 α x4 x5 x6 k1
def F15_0_0 (v : TJ15_0_0) (α : Type) (K : Exit → St → Option α) : Int → Int → Int → Int → Int → Option α := fun x4 x5 x6 x7 x8 => v α x4 x5 x6 (fun (y1 : Bool) => u15_0_1 (K .normal) x4 x5 x6 y1 x7 x8) 
theorem m15_0_0g (vf40_0 : Tf40_0) (vf16_0 : Tf16_0) (vf43_0 : Tf43_0) (vf44_0 : Tf44_0)  (α : Type) (K : Exit → St → Option α) : F15_0_0 (J15_0_0g vf40_0) α K = p15_0_0.unc fun σ => runM Try.prog (E15_0g vf40_0 vf16_0 vf43_0 vf44_0) sh15 (c15_0_4g ) K σ := by kernel_rfl
theorem m15_0_0 : ∀ (α : Type) (K : Exit → St → Option α), F15_0_0 J15_0_0 α K = p15_0_0.unc fun σ => runM Try.prog E15_0 sh15 c15_0_4 K σ := m15_0_0g f40_0 f16_0 f43_0 f44_0
abbrev Tf15_0 : Type 1 := (α : Type) → Int → Int → Int → (Int → Int → Int → Option α) → Option α
def f15_0g (vJ15_0_0 : TJ15_0_0) (vJ15_0_1 : TJ15_0_1) (vf16_0 : Tf16_0) (vf43_0 : Tf43_0) (vf44_0 : Tf44_0) (α : Type) (x1 x2 x3 : Int) (k1 : Int → Int → Int → Option α) : Option α :=
 vJ15_0_0 α x1 x2 x3
 (fun x13 => cK x13
 (k1 0 0 2)
 (cK (x1 == x2)
 (k1 0 0 9)
 (vf16_0 α x3 (if x2 < x1 then x2 else x1) (if x2 > x1 then x2 else x1)
 (fun x15 => cK (!x15)
 (k1 0 0 24)
 (vJ15_0_1 α (w64 (10000 * (w64 ((w64 (x3 * x3)) - (w64 (x2 * x2)))))) (w64 ((w64 (x1 * x1)) - (w64 (x2 * x2))))
 (fun x21 x22 => vf43_0 α x21 x22
 (fun x25 => vf44_0 α x21 x22
 (fun x26 => k1 x25 x26 0)))
 (fun x23 => vf43_0 α (w64 (10000 * (w64 ((w64 (x3 * x3)) - (w64 (x2 * x2)))))) (w64 ((w64 (x1 * x1)) - (w64 (x2 * x2))))
 (fun x27 => vf44_0 α (w64 (10000 * (w64 ((w64 (x3 * x3)) - (w64 (x2 * x2)))))) (w64 ((w64 (x1 * x1)) - (w64 (x2 * x2))))
 (fun x28 => k1 x27 x28 0))))))))
noncomputable def f15_0 (α : Type) (x1 x2 x3 : Int) (k1 : Int → Int → Int → Option α) : Option α := f15_0g J15_0_0 J15_0_1 f16_0 f43_0 f44_0 α x1 x2 x3 k1
def pa15_0 : PT (List DV) := pA [pV false [(dI .i64)], pV false [(dI .i64)], pV false [(dI .i64)]]
def Fn15_0 (v : Tf15_0) (α : Type) (k : List RV → Option α) : Int → Int → Int → Option α := fun x1 x2 x3 => v α x1 x2 x3 (fun (y1 : Int) (y2 : Int) (y3 : Int) => ur15_0_0 k y1 y2 y3)
noncomputable def cm15_0g (vJ15_0_0 : TJ15_0_0) (vJ15_0_1 : TJ15_0_1) : MCode := (.seq (.region r15_2 [] (tO [0, 1, 2, 6])) (.seq (.seq (.mark [⟨p15_0_0, F15_0_0 vJ15_0_0⟩] c15_0_4) (.cond (.tmp 22) (.seq (.region r15_8 [] (tO [6, 7])) .ret) .skip)) (.seq (.seq (.region r15_11 [] (tO [0, 1, 2, 6, 26])) (.cond (.tmp 26) (.seq (.region r15_14 [] (tO [6, 7])) .ret) .skip)) (.seq (.seq (.region r15_17 [] (tO [0, 1, 2, 6, 36])) (.cond (.tmp 36) (.seq (.region r15_20 [] (tO [6, 7])) .ret) .skip)) (.seq (.region r15_22 [] (tO [6, 8, 9])) (.seq (.mark [⟨p15_0_2, F15_0_1 vJ15_0_1⟩] c15_0_23) (.seq (.region r15_29 [] (tO [6, 7])) .ret)))))))
noncomputable def cm15_0 : MCode := cm15_0g J15_0_0 J15_0_1
theorem gm15_0 : cm15_0.Good Try.prog E15_0 sh15 := ⟨trivial, ⟨⟨⟨g15_0_4, m15_0_0, trivial⟩, ⟨⟨trivial, trivial⟩, trivial⟩⟩, ⟨⟨trivial, ⟨⟨trivial, trivial⟩, trivial⟩⟩, ⟨⟨trivial, ⟨⟨trivial, trivial⟩, trivial⟩⟩, ⟨trivial, ⟨⟨g15_0_23, m15_0_1, trivial⟩, ⟨trivial, trivial⟩⟩⟩⟩⟩⟩⟩
theorem fm15_0g (vf40_0 : Tf40_0) (vf16_0 : Tf16_0) (vf43_0 : Tf43_0) (vf44_0 : Tf44_0) (vJ15_0_0 : TJ15_0_0) (vJ15_0_1 : TJ15_0_1) (α : Type) (k : List RV → Option α) : Fn15_0 (f15_0g vJ15_0_0 vJ15_0_1 vf16_0 vf43_0 vf44_0) α k = pa15_0.unc fun ds => fnM Try.prog (E15_0g vf40_0 vf16_0 vf43_0 vf44_0) sh15 (cm15_0g vJ15_0_0 vJ15_0_1) rs15 k ds := by kernel_rfl
theorem fm15_0 : ∀ (α : Type) (k : List RV → Option α), Fn15_0 f15_0 α k = pa15_0.unc fun ds => fnM Try.prog E15_0 sh15 cm15_0 rs15 k ds := fm15_0g f40_0 f16_0 f43_0 f44_0 J15_0_0 J15_0_1
theorem is15 : FnIs Try.prog 15 nt15 tr15 tl15 cm15_0.erase rs15 := ⟨Try.f15, Try.func15, rfl, by kernel_rfl, by kernel_rfl, by kernel_rfl⟩
theorem io15_0 : InstOk Try.prog 15 nt15 ⟨pa15_0, Fn15_0 f15_0⟩ := inst_ok eo15_0 followsTry is15 ⟨⟨sh15, cm15_0, by kernel_rfl, gm15_0, fm15_0⟩⟩
abbrev nt14 : Nat := 89
def sh14 : List (Nat × List Sh) := []
def r14_2 : List AOper := [oO 6 (.alloc [(cI 0), (cI 0)]), oO 7 (.mv (kI 0))]
def r14_5 : List AOper := [oM 14 0, oO 15 (.call 40 [(.tmp 14)]), oO 16 (.pure (oB (.unOp .not 4 (.tmp 15)) 4)), oM 17 16, oG 18 (.mv (.tmp 1)) 17 false, oG 19 (.call 40 [(.tmp 18)]) 17 false, oG 20 (.pure (oB (.unOp .not 4 (.tmp 19)) 4)) 17 false, oO 21 (.pick (.tmp 17) (.const (.bool true)) (.tmp 20)), oM 22 21, oG 23 (.mv (.tmp 2)) 22 false, oG 24 (.call 16 [(.tmp 23), (kI 0), (kI 10000)]) 22 false, oG 25 (.pure (oB (.unOp .not 4 (.tmp 24)) 4)) 22 false, oO 26 (.pick (.tmp 22) (.const (.bool true)) (.tmp 25))]
def r14_8 : List AOper := [oO 27 (.build [(cI 0), (cI 0)] []), oD (.store 2 (.tmp 6) (.tmp 27)), oO 7 (.mv (kI 2))]
def r14_10 : List AOper := [oM 28 2, oM 29 0, oO 30 (.bin .mul 3 (.tmp 28) (.tmp 29)), oM 31 0, oO 32 (.bin .mul 3 (.tmp 30) (.tmp 31)), oM 33 2, oO 34 (.bin .sub 3 (kI 10000) (.tmp 33)), oM 35 1, oO 36 (.bin .mul 3 (.tmp 34) (.tmp 35)), oM 37 1, oO 38 (.bin .mul 3 (.tmp 36) (.tmp 37)), oO 39 (.bin .add 3 (.tmp 32) (.tmp 38)), oM 8 39]
def r14_12 : List AOper := [oM 40 2, oM 41 1, oO 42 (.bin .mul 3 (.tmp 40) (.tmp 41)), oM 43 1, oO 44 (.bin .mul 3 (.tmp 42) (.tmp 43)), oM 45 2, oO 46 (.bin .sub 3 (kI 10000) (.tmp 45)), oM 47 0, oO 48 (.bin .mul 3 (.tmp 46) (.tmp 47)), oM 49 0, oO 50 (.bin .mul 3 (.tmp 48) (.tmp 49)), oO 51 (.bin .add 3 (.tmp 44) (.tmp 50)), oM 9 51]
def r14_14 : List AOper := [oO 10 (.mv (kI 0)), oO 11 (.mv (kI 80001))]
def td14_17 : Option Tidy := (tO [0, 1, 6, 8, 9, 10, 11])
def r14_20 : List AOper := [oM 52 11, oM 53 10, oO 54 (.bin .sub 3 (.tmp 52) (.tmp 53)), oO 55 (.bin .gtr 3 (.tmp 54) (kI 1))]
def r14_24 : List AOper := [oM 56 10, oM 57 11, oO 58 (.bin .add 3 (.tmp 56) (.tmp 57)), oO 59 (.bin .quo 3 (.tmp 58) (kI 2)), oM 12 59]
def r14_26 : List AOper := [oM 60 12, oM 61 12, oO 62 (.bin .mul 3 (.tmp 60) (.tmp 61)), oM 63 1, oM 64 1, oO 65 (.bin .mul 3 (.tmp 63) (.tmp 64)), oM 66 0, oO 67 (.bin .mul 3 (kI 10000) (.tmp 66)), oM 68 0, oO 69 (.bin .mul 3 (.tmp 67) (.tmp 68)), oM 70 9, oO 71 (.call 41 [(.tmp 62), (.tmp 65), (.tmp 69), (.tmp 70)]), oO 72 (.bin .leq 3 (.tmp 71) (kI 0))]
def r14_28 : List AOper := [oM 73 12, oM 10 73]
def r14_29 : List AOper := [oM 74 12, oM 11 74]
def r14_31 : List AOper := [oM 75 8, oO 76 (.call 43 [(.tmp 75), (kI 10000)]), oO 77 (.call 42 [(.tmp 76)]), oM 13 77]
def r14_34 : List AOper := [oM 78 13, oM 79 13, oO 80 (.bin .mul 3 (.tmp 78) (.tmp 79)), oO 81 (.bin .mul 3 (.tmp 80) (kI 10000)), oM 82 8, oO 83 (.bin .lss 3 (.tmp 81) (.tmp 82))]
def r14_36 : List AOper := [oM 84 13, oO 85 (.bin .add 3 (.tmp 84) (kI 1)), oM 13 85]
def r14_38 : List AOper := [oM 86 10, oM 87 13, oO 88 (.build [(cI 0), (cI 0)] [(0, 1, (.tmp 86)), (1, 1, (.tmp 87))]), oD (.store 2 (.tmp 6) (.tmp 88)), oO 7 (.mv (kI 0))]
def tr14 : List (Nat × Tidy) := [tT 0 [0, 1, 2, 6], tT 1 [0, 1, 2, 6, 26], tT 2 [6, 7], tT 3 [0, 1, 2, 6, 8], tT 4 [0, 1, 6, 8, 9], tT 5 [0, 1, 6, 8, 9, 10, 11], tT 6 [0, 1, 6, 8, 9, 10, 11, 55], tT 7 [0, 1, 6, 8, 9, 10, 11, 12], tT 8 [0, 1, 6, 8, 9, 10, 11, 12, 72], tT 9 [0, 1, 6, 8, 9, 10, 11], tT 10 [0, 1, 6, 8, 9, 10, 11], tT 11 [6, 8, 10, 13], tT 12 [6, 10, 13, 83], tT 13 [6, 10, 13], tT 14 [6, 7]]
def tl14 : List (Nat × Tidy) := [tT 6 [0, 1, 6, 8, 9, 10, 11]]
def rs14 : List AResV := [.cell 6 true 2, .tmp 7]
def p14_0_0 : PT St := pS [sl 0 (aV false [(cD (dI .i64))]), sl 1 (aV false [(cD (dI .i64))]), sl 2 (aV false [(cD (dI .i64))]), sl 6 (aV false [(cPtr 6 0)])] [eBox 6 [(cD (dI .i64)), (cD (dI .i64))]]
def u14_0_0 {β : Type} (g : St → β) : Int → Int → Int → Int → Int → β := p14_0_0.unc g
def p14_0_1 : PT St := pS [sl 0 (aV false [(cD (dI .i64))]), sl 1 (aV false [(cD (dI .i64))]), sl 2 (aV false [(cD (dI .i64))]), sl 6 (aV false [(cPtr 6 0)]), sl 26 (aV false [(cD dB)])] [eBox 6 [(cD (dI .i64)), (cD (dI .i64))]]
def u14_0_1 {β : Type} (g : St → β) : Int → Int → Int → Bool → Int → Int → β := p14_0_1.unc g
def p14_0_2 : PT St := pS [sl 0 (aV false [(cD (dI .i64))]), sl 1 (aV false [(cD (dI .i64))]), sl 6 (aV false [(cPtr 6 0)]), sl 8 (aV false [(cD (dI .i64))]), sl 9 (aV false [(cD (dI .i64))]), sl 10 (aV false [(cD (dI .i64))]), sl 11 (aV false [(cD (dI .i64))])] [eBox 6 [(cD (dI .i64)), (cD (dI .i64))]]
def u14_0_2 {β : Type} (g : St → β) : Int → Int → Int → Int → Int → Int → Int → Int → β := p14_0_2.unc g
def p14_0_3 : PT St := pS [sl 0 (aV false [(cD (dI .i64))]), sl 1 (aV false [(cD (dI .i64))]), sl 6 (aV false [(cPtr 6 0)]), sl 8 (aV false [(cD (dI .i64))]), sl 9 (aV false [(cD (dI .i64))]), sl 10 (aV false [(cD (dI .i64))]), sl 11 (aV false [(cD (dI .i64))]), sl 55 (aV false [(cD dB)])] [eBox 6 [(cD (dI .i64)), (cD (dI .i64))]]
def u14_0_3 {β : Type} (g : St → β) : Int → Int → Int → Int → Int → Int → Bool → Int → Int → β := p14_0_3.unc g
def pr14_0_0 : PT (List RV) := pRs [pR true [rD (dI .i64), rD (dI .i64)], pR false [rD (dI .i64)]]
def ur14_0_0 {β : Type} (g : List RV → β) : Int → Int → Int → β := pr14_0_0.unc g
def E14_0g (vf40_0 : Tf40_0) (vf16_0 : Tf16_0) (vf41_0 : Tf41_0) (vf43_0 : Tf43_0) (vf42_0 : Tf42_0) : EnvK := EnvK.of [⟨40, nt40, [⟨pa40_0, Fn40_0 vf40_0⟩]⟩, ⟨16, nt16, [⟨pa16_0, Fn16_0 vf16_0⟩]⟩, ⟨41, nt41, [⟨pa41_0, Fn41_0 vf41_0⟩]⟩, ⟨43, nt43, [⟨pa43_0, Fn43_0 vf43_0⟩]⟩, ⟨42, nt42, [⟨pa42_0, Fn42_0 vf42_0⟩]⟩] noSeq
noncomputable def E14_0 : EnvK := E14_0g f40_0 f16_0 f41_0 f43_0 f42_0
theorem eo14_0 : E14_0.Ok Try.prog := EnvK.of_ok noSeq_ok ⟨⟨io40_0, trivial⟩, ⟨io16_0, trivial⟩, ⟨io41_0, trivial⟩, ⟨io43_0, trivial⟩, ⟨io42_0, trivial⟩, trivial⟩
noncomputable def c14_0_17g  : MCode := (.seq (.seq (.region r14_20 [] (tO [0, 1, 6, 8, 9, 10, 11, 55])) (.cond (.tmp 55) .skip (.exit 0))) (.block 1 (.seq (.region r14_24 [] (tO [0, 1, 6, 8, 9, 10, 11, 12])) (.seq (.region r14_26 [] (tO [0, 1, 6, 8, 9, 10, 11, 12, 72])) (.cond (.tmp 72) (.region r14_28 [] (tO [0, 1, 6, 8, 9, 10, 11])) (.region r14_29 [] (tO [0, 1, 6, 8, 9, 10, 11])))))))
noncomputable def c14_0_17 : MCode := c14_0_17g 
theorem g14_0_17 : c14_0_17.Good Try.prog E14_0 sh14 := ⟨⟨trivial, ⟨trivial, trivial⟩⟩, ⟨trivial, ⟨trivial, ⟨trivial, trivial⟩⟩⟩⟩
--CODE 17 0
def S14_0_1g (vf41_0 : Tf41_0) (α : Type) (x15 x16 x18 x19 x20 : Int) (kn : Int → Int → Option α) (k1 : Int → Int → Bool → Option α) : Option α :=
 cK (decide (1 < (w64 (x20 - x19))))
 (vf41_0 α (w64 ((w64 (Int.tdiv (w64 (x19 + x20)) 2)) * (w64 (Int.tdiv (w64 (x19 + x20)) 2)))) (w64 (x16 * x16)) (w64 ((w64 (10000 * x15)) * x15)) x18
 (fun x24 => cK (decide (x24 ≤ 0))
 (kn (w64 (Int.tdiv (w64 (x19 + x20)) 2)) x20)
 (kn x19 (w64 (Int.tdiv (w64 (x19 + x20)) 2)))))
 (k1 x19 x20 (decide (1 < (w64 (x20 - x19)))))
noncomputable def S14_0_1 (α : Type) (x15 x16 x18 x19 x20 : Int) (kn : Int → Int → Option α) (k1 : Int → Int → Bool → Option α) : Option α := S14_0_1g f41_0 α x15 x16 x18 x19 x20 kn k1
noncomputable def R14_0_1 (α : Type) (x15 x16 x18 : Int) (k1 : Int → Int → Bool → Option α) : Nat → Int → Int → Option α
 | 0, _, _ => none
 | n + 1, x19, x20 => S14_0_1 α x15 x16 x18 x19 x20 (R14_0_1 α x15 x16 x18 k1 n) k1
noncomputable def L14_0_1 (α : Type) (x15 x16 x18 : Int) (k1 : Int → Int → Bool → Option α) (x19 x20 : Int) : Option α := R14_0_1 α x15 x16 x18 k1 fuel x19 x20
abbrev TL14_0_1 : Type 1 := (α : Type) → Int → Int → Int → (Int → Int → Bool → Option α) → Int → Int → Option α
def F14_0_1 (v : TL14_0_1) (α : Type) (K : Exit → St → Option α) : Int → Int → Int → Int → Int → Int → Int → Int → Option α := fun x15 x16 x17 x18 x19 x20 x21 x22 => v α x15 x16 x18 (fun (y1 : Int) (y2 : Int) (y3 : Bool) => u14_0_3 (K (.exit 0)) x15 x16 x17 x18 y1 y2 y3 x21 x22) x19 x20
theorem r14_0_1g (vf40_0 : Tf40_0) (vf16_0 : Tf16_0) (vf41_0 : Tf41_0) (vf43_0 : Tf43_0) (vf42_0 : Tf42_0)  (α : Type) (K : Exit → St → Option α) (Kn : St → Option α) (x15 x16 x17 x18 x19 x20 x21 x22 : Int) : u14_0_2 (fun σ => runM Try.prog (E14_0g vf40_0 vf16_0 vf41_0 vf43_0 vf42_0) sh14 (c14_0_17g ) (thenK (fun σ => tidyK td14_17 σ Kn) K) σ) x15 x16 x17 x18 x19 x20 x21 x22 = S14_0_1g vf41_0 α x15 x16 x18 x19 x20 (fun x19 x20 => u14_0_2 Kn x15 x16 x17 x18 x19 x20 x21 x22) (fun (y1 : Int) (y2 : Int) (y3 : Bool) => u14_0_3 (K (.exit 0)) x15 x16 x17 x18 y1 y2 y3 x21 x22) := by kernel_rfl
theorem r14_0_1 (α : Type) (K : Exit → St → Option α) (Kn : St → Option α) (x15 x16 x17 x18 x19 x20 x21 x22 : Int) : u14_0_2 (fun σ => runM Try.prog E14_0 sh14 c14_0_17 (thenK (fun σ => tidyK td14_17 σ Kn) K) σ) x15 x16 x17 x18 x19 x20 x21 x22 = S14_0_1 α x15 x16 x18 x19 x20 (fun x19 x20 => u14_0_2 Kn x15 x16 x17 x18 x19 x20 x21 x22) (fun (y1 : Int) (y2 : Int) (y3 : Bool) => u14_0_3 (K (.exit 0)) x15 x16 x17 x18 y1 y2 y3 x21 x22) := r14_0_1g f40_0 f16_0 f41_0 f43_0 f42_0 α K Kn x15 x16 x17 x18 x19 x20 x21 x22
theorem t14_0_1 (α : Type) (K : Exit → St → Option α) : ∀ (n : Nat) (x15 x16 x17 x18 x19 x20 x21 x22 : Int), R14_0_1 α x15 x16 x18 (fun (y1 : Int) (y2 : Int) (y3 : Bool) => u14_0_3 (K (.exit 0)) x15 x16 x17 x18 y1 y2 y3 x21 x22) n x19 x20 = u14_0_2 (loopT (runM Try.prog E14_0 sh14 c14_0_17) td14_17 K n) x15 x16 x17 x18 x19 x20 x21 x22 := by
 intro n
 induction n with
 | zero => intros; rfl
 | succ n ih => intro x15 x16 x17 x18 x19 x20 x21 x22; exact (congrArg (fun kn => S14_0_1 α x15 x16 x18 x19 x20 kn (fun (y1 : Int) (y2 : Int) (y3 : Bool) => u14_0_3 (K (.exit 0)) x15 x16 x17 x18 y1 y2 y3 x21 x22)) (funext fun x19 => funext fun x20 => ih x15 x16 x17 x18 x19 x20 x21 x22)).trans (r14_0_1 α K (loopT (runM Try.prog E14_0 sh14 c14_0_17) td14_17 K n) x15 x16 x17 x18 x19 x20 x21 x22).symm
theorem m14_0_1 : ∀ (α : Type) (K : Exit → St → Option α), F14_0_1 L14_0_1 α K = p14_0_2.unc fun σ => loopT (runM Try.prog E14_0 sh14 c14_0_17) td14_17 K fuel σ := fun α K => funext fun x15 => funext fun x16 => funext fun x17 => funext fun x18 => funext fun x19 => funext fun x20 => funext fun x21 => funext fun x22 => t14_0_1 α K fuel x15 x16 x17 x18 x19 x20 x21 x22
noncomputable def c14_0_4g  : MCode := (.region r14_5 [] (tO [0, 1, 2, 6, 26]))
noncomputable def c14_0_4 : MCode := c14_0_4g 
theorem g14_0_4 : c14_0_4.Good Try.prog E14_0 sh14 := trivial
--CODE 4 0
abbrev TJ14_0_0 : Type 1 := (α : Type) → Int → Int → Int → (Bool → Option α) → Option α
def J14_0_0g (vf16_0 : Tf16_0) (vf40_0 : Tf40_0) (α : Type) (x4 x5 x6 : Int) (k1 : Bool → Option α) : Option α :=
 vf40_0 α x4
 (fun x10 => cK (!x10)
 (k1 true)
 (vf40_0 α x5
 (fun x11 => cK (!x11)
 (k1 true)
 (vf16_0 α x6 0 10000
 (fun x12 => k1 (!x12))))))
noncomputable def J14_0_0 (α : Type) (x4 x5 x6 : Int) (k1 : Bool → Option α) : Option α := J14_0_0g f16_0 f40_0 α x4 x5 x6 k1
def F14_0_0 (v : TJ14_0_0) (α : Type) (K : Exit → St → Option α) : Int → Int → Int → Int → Int → Option α := fun x4 x5 x6 x7 x8 => v α x4 x5 x6 (fun (y1 : Bool) => u14_0_1 (K .normal) x4 x5 x6 y1 x7 x8) 
theorem m14_0_0g (vf40_0 : Tf40_0) (vf16_0 : Tf16_0) (vf41_0 : Tf41_0) (vf43_0 : Tf43_0) (vf42_0 : Tf42_0)  (α : Type) (K : Exit → St → Option α) : F14_0_0 (J14_0_0g vf16_0 vf40_0) α K = p14_0_0.unc fun σ => runM Try.prog (E14_0g vf40_0 vf16_0 vf41_0 vf43_0 vf42_0) sh14 (c14_0_4g ) K σ := by kernel_rfl
theorem m14_0_0 : ∀ (α : Type) (K : Exit → St → Option α), F14_0_0 J14_0_0 α K = p14_0_0.unc fun σ => runM Try.prog E14_0 sh14 c14_0_4 K σ := m14_0_0g f40_0 f16_0 f41_0 f43_0 f42_0
abbrev Tf14_0 : Type 1 := (α : Type) → Int → Int → Int → (Int → Int → Int → Option α) → Option α
def f14_0g (vJ14_0_0 : TJ14_0_0) (vL14_0_1 : TL14_0_1) (vf42_0 : Tf42_0) (vf43_0 : Tf43_0) (α : Type) (x1 x2 x3 : Int) (k1 : Int → Int → Int → Option α) : Option α :=
 vJ14_0_0 α x1 x2 x3
 (fun x13 => cK x13
 (k1 0 0 2)
 (vL14_0_1 α x1 x2 (w64 ((w64 ((w64 (x3 * x2)) * x2)) + (w64 ((w64 ((w64 (10000 - x3)) * x1)) * x1))))
 (fun x25 x26 x27 => vf43_0 α (w64 ((w64 ((w64 (x3 * x1)) * x1)) + (w64 ((w64 ((w64 (10000 - x3)) * x2)) * x2)))) 10000
 (fun x29 => vf42_0 α x29
 (fun x30 => cK (decide ((w64 ((w64 (x30 * x30)) * 10000)) < (w64 ((w64 ((w64 (x3 * x1)) * x1)) + (w64 ((w64 ((w64 (10000 - x3)) * x2)) * x2))))))
 (k1 x25 (w64 (x30 + 1)) 0)
 (k1 x25 x30 0)))) 0 80001))
noncomputable def f14_0 (α : Type) (x1 x2 x3 : Int) (k1 : Int → Int → Int → Option α) : Option α := f14_0g J14_0_0 L14_0_1 f42_0 f43_0 α x1 x2 x3 k1
def pa14_0 : PT (List DV) := pA [pV false [(dI .i64)], pV false [(dI .i64)], pV false [(dI .i64)]]
def Fn14_0 (v : Tf14_0) (α : Type) (k : List RV → Option α) : Int → Int → Int → Option α := fun x1 x2 x3 => v α x1 x2 x3 (fun (y1 : Int) (y2 : Int) (y3 : Int) => ur14_0_0 k y1 y2 y3)
noncomputable def cm14_0g (vJ14_0_0 : TJ14_0_0) (vL14_0_1 : TL14_0_1) : MCode := (.seq (.region r14_2 [] (tO [0, 1, 2, 6])) (.seq (.seq (.mark [⟨p14_0_0, F14_0_0 vJ14_0_0⟩] c14_0_4) (.cond (.tmp 26) (.seq (.region r14_8 [] (tO [6, 7])) .ret) .skip)) (.seq (.region r14_10 [] (tO [0, 1, 2, 6, 8])) (.seq (.region r14_12 [] (tO [0, 1, 6, 8, 9])) (.seq (.region r14_14 [] (tO [0, 1, 6, 8, 9, 10, 11])) (.seq (.block 0 (.loop td14_17 [⟨p14_0_2, F14_0_1 vL14_0_1⟩] c14_0_17)) (.seq (.region r14_31 [] (tO [6, 8, 10, 13])) (.seq (.seq (.region r14_34 [] (tO [6, 10, 13, 83])) (.cond (.tmp 83) (.region r14_36 [] (tO [6, 10, 13])) .skip)) (.seq (.region r14_38 [] (tO [6, 7])) .ret)))))))))
noncomputable def cm14_0 : MCode := cm14_0g J14_0_0 L14_0_1
theorem gm14_0 : cm14_0.Good Try.prog E14_0 sh14 := ⟨trivial, ⟨⟨⟨g14_0_4, m14_0_0, trivial⟩, ⟨⟨trivial, trivial⟩, trivial⟩⟩, ⟨trivial, ⟨trivial, ⟨trivial, ⟨⟨g14_0_17, m14_0_1, trivial⟩, ⟨trivial, ⟨⟨trivial, ⟨trivial, trivial⟩⟩, ⟨trivial, trivial⟩⟩⟩⟩⟩⟩⟩⟩⟩
theorem fm14_0g (vf40_0 : Tf40_0) (vf16_0 : Tf16_0) (vf41_0 : Tf41_0) (vf43_0 : Tf43_0) (vf42_0 : Tf42_0) (vJ14_0_0 : TJ14_0_0) (vL14_0_1 : TL14_0_1) (α : Type) (k : List RV → Option α) : Fn14_0 (f14_0g vJ14_0_0 vL14_0_1 vf42_0 vf43_0) α k = pa14_0.unc fun ds => fnM Try.prog (E14_0g vf40_0 vf16_0 vf41_0 vf43_0 vf42_0) sh14 (cm14_0g vJ14_0_0 vL14_0_1) rs14 k ds := by kernel_rfl
theorem fm14_0 : ∀ (α : Type) (k : List RV → Option α), Fn14_0 f14_0 α k = pa14_0.unc fun ds => fnM Try.prog E14_0 sh14 cm14_0 rs14 k ds := fm14_0g f40_0 f16_0 f41_0 f43_0 f42_0 J14_0_0 L14_0_1
theorem is14 : FnIs Try.prog 14 nt14 tr14 tl14 cm14_0.erase rs14 := ⟨Try.f14, Try.func14, rfl, by kernel_rfl, by kernel_rfl, by kernel_rfl⟩
theorem io14_0 : InstOk Try.prog 14 nt14 ⟨pa14_0, Fn14_0 f14_0⟩ := inst_ok eo14_0 followsTry is14 ⟨⟨sh14, cm14_0, by kernel_rfl, gm14_0, fm14_0⟩⟩
abbrev nt39 : Nat := 8
def sh39 : List (Nat × List Sh) := [(3, [.int .i64, .int .i64]), (5, [.int .i64, .int .i64])]
def r39_2 : List AOper := [oO 1 (.box (.tmp 0)), oO 2 (.alloc [(cI 0), (cI 0)])]
def r39_4 : List AOper := [oO 3 (.load true 2 (.tmp 1)), oO 4 (.call 61 [(.tmp 3)]), oO 5 (.load true 2 (.tmp 1)), oO 6 (.call 62 [(.tmp 5)]), oO 7 (.build [(cI 0), (cI 0)] [(0, 1, (.tmp 4)), (1, 1, (.tmp 6))]), oD (.store 2 (.tmp 2) (.tmp 7))]
def tr39 : List (Nat × Tidy) := [tT 0 [1, 2], tT 1 [2]]
def tl39 : List (Nat × Tidy) := []
def rs39 : List AResV := [.cell 2 true 2]
def pr39_0_0 : PT (List RV) := pRs [pR true [rD (dI .i64), rD (dI .i64)]]
def ur39_0_0 {β : Type} (g : List RV → β) : Int → Int → β := pr39_0_0.unc g
def E39_0g (vf61_0 : Tf61_0) (vf62_0 : Tf62_0) : EnvK := EnvK.of [⟨61, nt61, [⟨pa61_0, Fn61_0 vf61_0⟩]⟩, ⟨62, nt62, [⟨pa62_0, Fn62_0 vf62_0⟩]⟩] noSeq
noncomputable def E39_0 : EnvK := E39_0g f61_0 f62_0
theorem eo39_0 : E39_0.Ok Try.prog := EnvK.of_ok noSeq_ok ⟨⟨io61_0, trivial⟩, ⟨io62_0, trivial⟩, trivial⟩
abbrev Tf39_0 : Type 1 := (α : Type) → Int → Int → (Int → Int → Option α) → Option α
def f39_0g (vf61_0 : Tf61_0) (vf62_0 : Tf62_0) (α : Type) (x1 x2 : Int) (k1 : Int → Int → Option α) : Option α :=
 vf61_0 α x1 x2
 (fun x3 => vf62_0 α x1 x2
 (fun x4 => k1 x3 x4))
noncomputable def f39_0 (α : Type) (x1 x2 : Int) (k1 : Int → Int → Option α) : Option α := f39_0g f61_0 f62_0 α x1 x2 k1
def pa39_0 : PT (List DV) := pA [pV true [(dI .i64), (dI .i64)]]
def Fn39_0 (v : Tf39_0) (α : Type) (k : List RV → Option α) : Int → Int → Option α := fun x1 x2 => v α x1 x2 (fun (y1 : Int) (y2 : Int) => ur39_0_0 k y1 y2)
noncomputable def cm39_0g  : MCode := (.seq (.region r39_2 [] (tO [1, 2])) (.seq (.region r39_4 [(1, 2)] (tO [2])) .ret))
noncomputable def cm39_0 : MCode := cm39_0g 
theorem gm39_0 : cm39_0.Good Try.prog E39_0 sh39 := ⟨trivial, ⟨trivial, trivial⟩⟩
theorem fm39_0g (vf61_0 : Tf61_0) (vf62_0 : Tf62_0)  (α : Type) (k : List RV → Option α) : Fn39_0 (f39_0g vf61_0 vf62_0) α k = pa39_0.unc fun ds => fnM Try.prog (E39_0g vf61_0 vf62_0) sh39 (cm39_0g ) rs39 k ds := by kernel_rfl
theorem fm39_0 : ∀ (α : Type) (k : List RV → Option α), Fn39_0 f39_0 α k = pa39_0.unc fun ds => fnM Try.prog E39_0 sh39 cm39_0 rs39 k ds := fm39_0g f61_0 f62_0
theorem is39 : FnIs Try.prog 39 nt39 tr39 tl39 cm39_0.erase rs39 := ⟨Try.f39, Try.func39, rfl, by kernel_rfl, by kernel_rfl, by kernel_rfl⟩
theorem io39_0 : InstOk Try.prog 39 nt39 ⟨pa39_0, Fn39_0 f39_0⟩ := inst_ok eo39_0 followsTry is39 ⟨⟨sh39, cm39_0, by kernel_rfl, gm39_0, fm39_0⟩⟩
abbrev nt37 : Nat := 37
def sh37 : List (Nat × List Sh) := []
def r37_2 : List AOper := [oO 8 (.mv (kI 0))]
def r37_4 : List AOper := [oM 14 0, oO 15 (.pure (oB (.convert 3 96 (.tmp 14)) 96)), oM 16 1, oO 17 (.pure (oB (.convert 3 96 (.tmp 16)) 96)), oO 18 (.call 58 [(.tmp 15), (.tmp 17)]), oM 13 18, oO 19 (.extract 0 (.tmp 13)), oO 20 (.extract 1 (.tmp 13)), oM 9 19, oM 10 20]
def r37_6 : List AOper := [oM 22 2, oO 23 (.pure (oB (.convert 3 96 (.tmp 22)) 96)), oM 24 3, oO 25 (.pure (oB (.convert 3 96 (.tmp 24)) 96)), oO 26 (.call 58 [(.tmp 23), (.tmp 25)]), oM 21 26, oO 27 (.extract 0 (.tmp 21)), oO 28 (.extract 1 (.tmp 21)), oM 11 27, oM 12 28]
def r37_8 : List AOper := [oM 29 9, oM 30 11, oO 31 (.call 60 [(.tmp 29), (.tmp 30)]), oM 32 10, oM 33 12, oO 34 (.call 60 [(.tmp 32), (.tmp 33)]), oO 35 (.bslice 1 2 [(.v (.int .i64 0))] [(0, (.tmp 31)), (1, (.tmp 34))]), oO 36 (.call 59 [(.tmp 35)]), oM 8 36]
def tr37 : List (Nat × Tidy) := [tT 0 [0, 1, 2, 3], tT 1 [2, 3, 9, 10], tT 2 [9, 10, 11, 12], tT 3 [8]]
def tl37 : List (Nat × Tidy) := []
def rs37 : List AResV := [.tmp 8]
def pr37_0_0 : PT (List RV) := pRs [pR false [rD (dI .i64)]]
def ur37_0_0 {β : Type} (g : List RV → β) : Int → β := pr37_0_0.unc g
def E37_0g (vf58_0 : Tf58_0) (vf60_0 : Tf60_0) (vf59_0 : Tf59_0) : EnvK := EnvK.of [⟨58, nt58, [⟨pa58_0, Fn58_0 vf58_0⟩]⟩, ⟨60, nt60, [⟨pa60_0, Fn60_0 vf60_0⟩]⟩, ⟨59, nt59, [⟨pa59_0, Fn59_0 vf59_0⟩]⟩] noSeq
noncomputable def E37_0 : EnvK := E37_0g f58_0 f60_0 f59_0
theorem eo37_0 : E37_0.Ok Try.prog := EnvK.of_ok noSeq_ok ⟨⟨io58_0, trivial⟩, ⟨io60_0, trivial⟩, ⟨io59_0, trivial⟩, trivial⟩
abbrev Tf37_0 : Type 1 := (α : Type) → Int → Int → Int → Int → (Int → Option α) → Option α
def f37_0g (vf58_0 : Tf58_0) (vf59_0 : Tf59_0) (vf60_0 : Tf60_0) (α : Type) (x1 x2 x3 x4 : Int) (k1 : Int → Option α) : Option α :=
 vf58_0 α (IntKind.wrap .u64 (x1)) (IntKind.wrap .u64 (x2))
 (fun x5 x6 => vf58_0 α (IntKind.wrap .u64 (x3)) (IntKind.wrap .u64 (x4))
 (fun x7 x8 => vf60_0 α x5 x7
 (fun x9 => vf60_0 α x6 x8
 (fun x10 => vf59_0 α [[DC.v (.int .i64 x9)], [DC.v (.int .i64 x10)]]
 (fun x11 => k1 x11)))))
noncomputable def f37_0 (α : Type) (x1 x2 x3 x4 : Int) (k1 : Int → Option α) : Option α := f37_0g f58_0 f59_0 f60_0 α x1 x2 x3 x4 k1
def pa37_0 : PT (List DV) := pA [pV false [(dI .i64)], pV false [(dI .i64)], pV false [(dI .i64)], pV false [(dI .i64)]]
def Fn37_0 (v : Tf37_0) (α : Type) (k : List RV → Option α) : Int → Int → Int → Int → Option α := fun x1 x2 x3 x4 => v α x1 x2 x3 x4 (fun (y1 : Int) => ur37_0_0 k y1)
noncomputable def cm37_0g  : MCode := (.seq (.region r37_2 [] (tO [0, 1, 2, 3])) (.seq (.region r37_4 [] (tO [2, 3, 9, 10])) (.seq (.region r37_6 [] (tO [9, 10, 11, 12])) (.seq (.region r37_8 [] (tO [8])) .ret))))
noncomputable def cm37_0 : MCode := cm37_0g 
theorem gm37_0 : cm37_0.Good Try.prog E37_0 sh37 := ⟨trivial, ⟨trivial, ⟨trivial, ⟨trivial, trivial⟩⟩⟩⟩
theorem fm37_0g (vf58_0 : Tf58_0) (vf60_0 : Tf60_0) (vf59_0 : Tf59_0)  (α : Type) (k : List RV → Option α) : Fn37_0 (f37_0g vf58_0 vf59_0 vf60_0) α k = pa37_0.unc fun ds => fnM Try.prog (E37_0g vf58_0 vf60_0 vf59_0) sh37 (cm37_0g ) rs37 k ds := by kernel_rfl
theorem fm37_0 : ∀ (α : Type) (k : List RV → Option α), Fn37_0 f37_0 α k = pa37_0.unc fun ds => fnM Try.prog E37_0 sh37 cm37_0 rs37 k ds := fm37_0g f58_0 f60_0 f59_0
theorem is37 : FnIs Try.prog 37 nt37 tr37 tl37 cm37_0.erase rs37 := ⟨Try.f37, Try.func37, rfl, by kernel_rfl, by kernel_rfl, by kernel_rfl⟩
theorem io37_0 : InstOk Try.prog 37 nt37 ⟨pa37_0, Fn37_0 f37_0⟩ := inst_ok eo37_0 followsTry is37 ⟨⟨sh37, cm37_0, by kernel_rfl, gm37_0, fm37_0⟩⟩
abbrev nt33 : Nat := 15
def sh33 : List (Nat × List Sh) := [(9, [.int .i64]), (10, [.int .i64])]
def r33_2 : List AOper := [oO 2 (.mv (kI 0))]
def r33_5 : List AOper := [oM 5 0, oO 6 (.len (.tmp 5)), oO 7 (.mv (kI 0))]
def td33_7 : Option Tidy := (some ⟨[5, 6, 7], true, [⟨false, 5, 0, 20005, 1⟩], []⟩)
def r33_9 : List AOper := [oO 8 (.bin .lss 3 (.tmp 7) (.tmp 6))]
def r33_15 : List AOper := [oO 9 (.iaddr 1 none (.tmp 5) (.tmp 7)), oO 10 (.load false 1 (.tmp 9)), oM 4 10]
def r33_17 : List AOper := [oM 11 4, oO 12 (.call 57 [(.tmp 11)]), oO 13 (.pure (oB (.unOp .not 4 (.tmp 12)) 4))]
def r33_20 : List AOper := [oO 2 (.mv (kI 2))]
def r33_21 : List AOper := [oO 14 (.bin .add 3 (.tmp 7) (kI 1)), oM 7 14]
def r33_23 : List AOper := [oO 2 (.mv (kI 0))]
def tr33 : List (Nat × Tidy) := [tT 0 [0], tT 1 [5, 6, 7], tT 2 [5, 6, 7, 8], tT 3 [4, 5, 6, 7], tT 4 [5, 6, 7, 13], tT 5 [2], tT 6 [5, 6, 7], tT 7 [2]]
def tl33 : List (Nat × Tidy) := [(2, ⟨[5, 6, 7], true, [⟨false, 5, 0, 20005, 1⟩], []⟩)]
def rs33 : List AResV := [.tmp 2]
def p33_0_0 : PT St := pS [sl 5 (aV false [(cD dL)]), sl 6 (aV false [(cD (dI .i64))]), sl 7 (aV false [(cD (dI .i64))])] []
def u33_0_0 {β : Type} (g : St → β) : Rows → Int → Int → β := p33_0_0.unc g
def p33_0_1 : PT St := pS [sl 2 (aV false [(cD (dI .i64))])] []
def u33_0_1 {β : Type} (g : St → β) : Int → β := p33_0_1.unc g
def p33_0_2 : PT St := pS [sl 5 (aV false [(cD dL)]), sl 6 (aV false [(cD (dI .i64))]), sl 7 (aV false [(cD (dI .i64))]), sl 8 (aV false [(cD dB)])] []
def u33_0_2 {β : Type} (g : St → β) : Rows → Int → Int → Bool → β := p33_0_2.unc g
def pr33_0_0 : PT (List RV) := pRs [pR false [rD (dI .i64)]]
def ur33_0_0 {β : Type} (g : List RV → β) : Int → β := pr33_0_0.unc g
def E33_0g (vf57_0 : Tf57_0) : EnvK := EnvK.of [⟨57, nt57, [⟨pa57_0, Fn57_0 vf57_0⟩]⟩] noSeq
noncomputable def E33_0 : EnvK := E33_0g f57_0
theorem eo33_0 : E33_0.Ok Try.prog := EnvK.of_ok noSeq_ok ⟨⟨io57_0, trivial⟩, trivial⟩
noncomputable def c33_0_7g  : MCode := (.seq (.region r33_9 [] (tO [5, 6, 7, 8])) (.seq (.cond (.tmp 8) .skip (.exit 0)) (.seq (.block 1 (.seq (.region r33_15 [] (tO [4, 5, 6, 7])) (.seq (.region r33_17 [] (tO [5, 6, 7, 13])) (.cond (.tmp 13) (.seq (.region r33_20 [] (tO [2])) .ret) .skip)))) (.region r33_21 [] (tO [5, 6, 7])))))
noncomputable def c33_0_7 : MCode := c33_0_7g 
theorem g33_0_7 : c33_0_7.Good Try.prog E33_0 sh33 := ⟨trivial, ⟨⟨trivial, trivial⟩, ⟨⟨trivial, ⟨trivial, ⟨⟨trivial, trivial⟩, trivial⟩⟩⟩, trivial⟩⟩⟩
--CODE 7 0
def S33_0_0g (vf57_0 : Tf57_0) (α : Type) (x2 : Rows) (x3 x4 : Int) (kn : Int → Option α) (k1 : Option α) (k2 : Int → Bool → Option α) : Option α :=
 cK (decide (x4 < x3))
 (rowK x2 x4 [.int .i64]
 (fun x6 => vf57_0 α x6
 (fun x7 => cK (!x7)
 (k1)
 (kn (w64 (x4 + 1))))))
 (k2 x4 (decide (x4 < x3)))
noncomputable def S33_0_0 (α : Type) (x2 : Rows) (x3 x4 : Int) (kn : Int → Option α) (k1 : Option α) (k2 : Int → Bool → Option α) : Option α := S33_0_0g f57_0 α x2 x3 x4 kn k1 k2
noncomputable def R33_0_0 (α : Type) (x2 : Rows) (x3 : Int) (k1 : Option α) (k2 : Int → Bool → Option α) : Nat → Int → Option α
 | 0, _ => none
 | n + 1, x4 => S33_0_0 α x2 x3 x4 (R33_0_0 α x2 x3 k1 k2 n) k1 k2
noncomputable def L33_0_0 (α : Type) (x2 : Rows) (x3 : Int) (k1 : Option α) (k2 : Int → Bool → Option α) (x4 : Int) : Option α := R33_0_0 α x2 x3 k1 k2 fuel x4
abbrev TL33_0_0 : Type 1 := (α : Type) → Rows → Int → (Option α) → (Int → Bool → Option α) → Int → Option α
def F33_0_0 (v : TL33_0_0) (α : Type) (K : Exit → St → Option α) : Rows → Int → Int → Option α := fun x2 x3 x4 => v α x2 x3 (u33_0_1 (K .ret) 2) (fun (y1 : Int) (y2 : Bool) => u33_0_2 (K (.exit 0)) x2 x3 y1 y2) x4
theorem r33_0_0g (vf57_0 : Tf57_0)  (α : Type) (K : Exit → St → Option α) (Kn : St → Option α) (x2 : Rows) (x3 x4 : Int) : u33_0_0 (fun σ => runM Try.prog (E33_0g vf57_0) sh33 (c33_0_7g ) (thenK (fun σ => tidyK td33_7 σ Kn) K) σ) x2 x3 x4 = S33_0_0g vf57_0 α x2 x3 x4 (fun x4 => u33_0_0 Kn x2 x3 x4) (u33_0_1 (K .ret) 2) (fun (y1 : Int) (y2 : Bool) => u33_0_2 (K (.exit 0)) x2 x3 y1 y2) := by kernel_rfl
theorem r33_0_0 (α : Type) (K : Exit → St → Option α) (Kn : St → Option α) (x2 : Rows) (x3 x4 : Int) : u33_0_0 (fun σ => runM Try.prog E33_0 sh33 c33_0_7 (thenK (fun σ => tidyK td33_7 σ Kn) K) σ) x2 x3 x4 = S33_0_0 α x2 x3 x4 (fun x4 => u33_0_0 Kn x2 x3 x4) (u33_0_1 (K .ret) 2) (fun (y1 : Int) (y2 : Bool) => u33_0_2 (K (.exit 0)) x2 x3 y1 y2) := r33_0_0g f57_0 α K Kn x2 x3 x4
theorem t33_0_0 (α : Type) (K : Exit → St → Option α) : ∀ (n : Nat) (x2 : Rows) (x3 x4 : Int), R33_0_0 α x2 x3 (u33_0_1 (K .ret) 2) (fun (y1 : Int) (y2 : Bool) => u33_0_2 (K (.exit 0)) x2 x3 y1 y2) n x4 = u33_0_0 (loopT (runM Try.prog E33_0 sh33 c33_0_7) td33_7 K n) x2 x3 x4 := by
 intro n
 induction n with
 | zero => intros; rfl
 | succ n ih => intro x2 x3 x4; exact (congrArg (fun kn => S33_0_0 α x2 x3 x4 kn (u33_0_1 (K .ret) 2) (fun (y1 : Int) (y2 : Bool) => u33_0_2 (K (.exit 0)) x2 x3 y1 y2)) (funext fun x4 => ih x2 x3 x4)).trans (r33_0_0 α K (loopT (runM Try.prog E33_0 sh33 c33_0_7) td33_7 K n) x2 x3 x4).symm
theorem m33_0_0 : ∀ (α : Type) (K : Exit → St → Option α), F33_0_0 L33_0_0 α K = p33_0_0.unc fun σ => loopT (runM Try.prog E33_0 sh33 c33_0_7) td33_7 K fuel σ := fun α K => funext fun x2 => funext fun x3 => funext fun x4 => t33_0_0 α K fuel x2 x3 x4
abbrev Tf33_0 : Type 1 := (α : Type) → Rows → (Int → Option α) → Option α
def f33_0g (vL33_0_0 : TL33_0_0) (α : Type) (x1 : Rows) (k1 : Int → Option α) : Option α :=
 vL33_0_0 α x1 ((List.length x1 : Nat) : Int)
 (k1 2)
 (fun x8 x9 => k1 0) 0
noncomputable def f33_0 (α : Type) (x1 : Rows) (k1 : Int → Option α) : Option α := f33_0g L33_0_0 α x1 k1
def pa33_0 : PT (List DV) := pA [pV false [dL]]
def Fn33_0 (v : Tf33_0) (α : Type) (k : List RV → Option α) : Rows → Option α := fun x1 => v α x1 (fun (y1 : Int) => ur33_0_0 k y1)
noncomputable def cm33_0g (vL33_0_0 : TL33_0_0) : MCode := (.seq (.region r33_2 [] (tO [0])) (.seq (.seq (.region r33_5 [] (tO [5, 6, 7])) (.block 0 (.loop td33_7 [⟨p33_0_0, F33_0_0 vL33_0_0⟩] c33_0_7))) (.seq (.region r33_23 [] (tO [2])) .ret)))
noncomputable def cm33_0 : MCode := cm33_0g L33_0_0
theorem gm33_0 : cm33_0.Good Try.prog E33_0 sh33 := ⟨trivial, ⟨⟨trivial, ⟨g33_0_7, m33_0_0, trivial⟩⟩, ⟨trivial, trivial⟩⟩⟩
theorem fm33_0g (vf57_0 : Tf57_0) (vL33_0_0 : TL33_0_0) (α : Type) (k : List RV → Option α) : Fn33_0 (f33_0g vL33_0_0) α k = pa33_0.unc fun ds => fnM Try.prog (E33_0g vf57_0) sh33 (cm33_0g vL33_0_0) rs33 k ds := by kernel_rfl
theorem fm33_0 : ∀ (α : Type) (k : List RV → Option α), Fn33_0 f33_0 α k = pa33_0.unc fun ds => fnM Try.prog E33_0 sh33 cm33_0 rs33 k ds := fm33_0g f57_0 L33_0_0
theorem is33 : FnIs Try.prog 33 nt33 tr33 tl33 cm33_0.erase rs33 := ⟨Try.f33, Try.func33, rfl, by kernel_rfl, by kernel_rfl, by kernel_rfl⟩
theorem io33_0 : InstOk Try.prog 33 nt33 ⟨pa33_0, Fn33_0 f33_0⟩ := inst_ok eo33_0 followsTry is33 ⟨⟨sh33, cm33_0, by kernel_rfl, gm33_0, fm33_0⟩⟩
abbrev nt11 : Nat := 148
def sh11 : List (Nat × List Sh) := [(7, [.str]), (11, [.int .i64]), (15, [.int .i64]), (19, [.sl]), (22, [.int .i64]), (28, [.sl]), (34, [.sl]), (40, [.int .i64]), (43, [.int .i64]), (47, [.int .i64, .int .i64]), (54, [.sl]), (61, [.sl]), (74, [.sl]), (76, [.int .i64]), (77, [.int .i64]), (82, [.sl]), (84, [.flt .f32]), (85, [.flt .f32]), (91, [.sl]), (93, [.flt .f32]), (94, [.flt .f32]), (101, [.sl]), (103, [.flt .f32]), (104, [.flt .f32]), (108, [.sl]), (110, [.flt .f32]), (111, [.flt .f32]), (116, [.sl]), (118, [.flt .f32]), (119, [.flt .f32]), (124, [.sl]), (126, [.flt .f32]), (127, [.flt .f32]), (135, [.sl]), (137, [.int .i64]), (138, [.int .i64]), (140, [.sl]), (143, [.int .i64]), (144, [.int .i64])]
def r11_2 : List AOper := [oO 1 (.box (.tmp 0)), oO 2 (.mv (kI 0)), oO 3 (.mv (kI 0))]
def r11_5 : List AOper := [oO 6 (.faddr 0 (.tmp 1)), oO 7 (.load false 1 (.tmp 6)), oO 8 (.call 29 [(.tmp 7)]), oO 9 (.pure (oB (.unOp .not 4 (.tmp 8)) 4))]
def r11_8 : List AOper := [oO 2 (.mv (kI 0)), oO 3 (.mv (kI 3))]
def r11_11 : List AOper := [oO 10 (.faddr 1 (.tmp 1)), oO 11 (.load false 1 (.tmp 10)), oO 12 (.bin .neq 3 (.tmp 11) (kI 1)), oM 13 12, oG 14 (.faddr 1 (.tmp 1)) 13 true, oG 15 (.load false 1 (.tmp 14)) 13 true, oG 16 (.bin .neq 3 (.tmp 15) (kI 2)) 13 true, oO 17 (.pick (.tmp 13) (.tmp 16) (.const (.bool false)))]
def r11_14 : List AOper := [oO 2 (.mv (kI 0)), oO 3 (.mv (kI 11))]
def r11_16 : List AOper := [oO 18 (.faddr 2 (.tmp 1)), oO 19 (.load false 1 (.tmp 18)), oO 20 (.len (.tmp 19)), oM 4 20]
def r11_19 : List AOper := [oO 21 (.faddr 1 (.tmp 1)), oO 22 (.load false 1 (.tmp 21)), oO 23 (.bin .eql 3 (.tmp 22) (kI 2))]
def r11_23 : List AOper := [oM 24 4, oO 25 (.bin .gtr 3 (.tmp 24) (kI 0)), oM 26 25, oG 27 (.faddr 3 (.tmp 1)) 26 false, oG 28 (.load false 1 (.tmp 27)) 26 false, oG 29 (.len (.tmp 28)) 26 false, oG 30 (.bin .gtr 3 (.tmp 29) (kI 0)) 26 false, oO 31 (.pick (.tmp 26) (.const (.bool true)) (.tmp 30)), oM 32 31, oG 33 (.faddr 4 (.tmp 1)) 32 false, oG 34 (.load false 1 (.tmp 33)) 32 false, oG 35 (.len (.tmp 34)) 32 false, oG 36 (.bin .gtr 3 (.tmp 35) (kI 0)) 32 false, oO 37 (.pick (.tmp 32) (.const (.bool true)) (.tmp 36))]
def r11_26 : List AOper := [oO 2 (.mv (kI 0)), oO 3 (.mv (kI 13))]
def r11_29 : List AOper := [oO 38 (.faddr 5 (.tmp 1)), oO 39 (.iaddr 1 (some 2) (.tmp 38) (kI 0)), oO 40 (.load false 1 (.tmp 39)), oO 41 (.faddr 5 (.tmp 1)), oO 42 (.iaddr 1 (some 2) (.tmp 41) (kI 1)), oO 43 (.load false 1 (.tmp 42)), oO 44 (.call 30 [(.tmp 40), (.tmp 43)]), oO 45 (.pure (oB (.unOp .not 4 (.tmp 44)) 4))]
def r11_32 : List AOper := [oO 2 (.mv (kI 0)), oO 3 (.mv (kI 2))]
def r11_34 : List AOper := [oO 2 (.mv (kI 0)), oO 3 (.mv (kI 0))]
def r11_37 : List AOper := [oO 46 (.faddr 5 (.tmp 1)), oO 47 (.load true 2 (.tmp 46)), oO 48 (.build [(cI 0), (cI 0)] []), oO 49 (.bin .neq 24 (.tmp 47) (.tmp 48))]
def r11_40 : List AOper := [oO 2 (.mv (kI 0)), oO 3 (.mv (kI 13))]
def r11_43 : List AOper := [oM 50 4, oO 51 (.bin .eql 3 (.tmp 50) (kI 0)), oM 52 51, oG 53 (.faddr 3 (.tmp 1)) 52 false, oG 54 (.load false 1 (.tmp 53)) 52 false, oG 55 (.len (.tmp 54)) 52 false, oG 56 (.mv (.tmp 4)) 52 false, oG 57 (.bin .neq 3 (.tmp 55) (.tmp 56)) 52 false, oO 58 (.pick (.tmp 52) (.const (.bool true)) (.tmp 57)), oM 59 58, oG 60 (.faddr 4 (.tmp 1)) 59 false, oG 61 (.load false 1 (.tmp 60)) 59 false, oG 62 (.len (.tmp 61)) 59 false, oG 63 (.mv (.tmp 4)) 59 false, oG 64 (.bin .neq 3 (.tmp 62) (.tmp 63)) 59 false, oO 65 (.pick (.tmp 59) (.const (.bool true)) (.tmp 64))]
def r11_46 : List AOper := [oO 2 (.mv (kI 0)), oO 3 (.mv (kI 12))]
def r11_49 : List AOper := [oM 66 4, oO 67 (.bin .gtr 3 (.tmp 66) (kI 64))]
def r11_52 : List AOper := [oO 2 (.mv (kI 0)), oO 3 (.mv (kI 8))]
def r11_55 : List AOper := [oO 5 (.mv (kI 0))]
def td11_57 : Option Tidy := (some ⟨[1, 4, 5], true, [⟨true, 1, 2, 30102, 1⟩, ⟨true, 1, 3, 30103, 1⟩, ⟨true, 1, 4, 30104, 1⟩], []⟩)
def r11_60 : List AOper := [oM 68 5, oM 69 4, oO 70 (.bin .lss 3 (.tmp 68) (.tmp 69))]
def r11_66 : List AOper := [oO 73 (.faddr 2 (.tmp 1)), oO 74 (.load false 1 (.tmp 73)), oM 75 5, oO 76 (.iaddr 1 none (.tmp 74) (.tmp 75)), oO 77 (.load false 1 (.tmp 76)), oO 78 (.call 31 [(.tmp 77)]), oO 79 (.pure (oB (.unOp .not 4 (.tmp 78)) 4))]
def r11_69 : List AOper := [oM 80 5, oM 2 80, oO 3 (.mv (kI 2))]
def r11_72 : List AOper := [oO 81 (.faddr 3 (.tmp 1)), oO 82 (.load false 1 (.tmp 81)), oM 83 5, oO 84 (.iaddr 1 none (.tmp 82) (.tmp 83)), oO 85 (.load false 1 (.tmp 84)), oO 86 (.pure (oB (.convert 66 65 (.tmp 85)) 65)), oO 87 (.call 32 [(.tmp 86)]), oO 88 (.pure (oB (.unOp .not 4 (.tmp 87)) 4)), oM 89 88, oG 90 (.faddr 4 (.tmp 1)) 89 false, oG 91 (.load false 1 (.tmp 90)) 89 false, oG 92 (.mv (.tmp 5)) 89 false, oG 93 (.iaddr 1 none (.tmp 91) (.tmp 92)) 89 false, oG 94 (.load false 1 (.tmp 93)) 89 false, oG 95 (.pure (oB (.convert 66 65 (.tmp 94)) 65)) 89 false, oG 96 (.call 32 [(.tmp 95)]) 89 false, oG 97 (.pure (oB (.unOp .not 4 (.tmp 96)) 4)) 89 false, oO 98 (.pick (.tmp 89) (.const (.bool true)) (.tmp 97))]
def r11_75 : List AOper := [oM 99 5, oM 2 99, oO 3 (.mv (kI 27))]
def r11_78 : List AOper := [oO 100 (.faddr 3 (.tmp 1)), oO 101 (.load false 1 (.tmp 100)), oM 102 5, oO 103 (.iaddr 1 none (.tmp 101) (.tmp 102)), oO 104 (.load false 1 (.tmp 103)), oO 105 (.bin .lss 66 (.tmp 104) (.const (.float Go.FloatKind.f32 1167867904))), oM 106 105, oG 107 (.faddr 3 (.tmp 1)) 106 false, oG 108 (.load false 1 (.tmp 107)) 106 false, oG 109 (.mv (.tmp 5)) 106 false, oG 110 (.iaddr 1 none (.tmp 108) (.tmp 109)) 106 false, oG 111 (.load false 1 (.tmp 110)) 106 false, oG 112 (.bin .gtr 66 (.tmp 111) (.const (.float Go.FloatKind.f32 1201422336))) 106 false, oO 113 (.pick (.tmp 106) (.const (.bool true)) (.tmp 112)), oM 114 113, oG 115 (.faddr 4 (.tmp 1)) 114 false, oG 116 (.load false 1 (.tmp 115)) 114 false, oG 117 (.mv (.tmp 5)) 114 false, oG 118 (.iaddr 1 none (.tmp 116) (.tmp 117)) 114 false, oG 119 (.load false 1 (.tmp 118)) 114 false, oG 120 (.bin .lss 66 (.tmp 119) (.const (.float Go.FloatKind.f32 0))) 114 false, oO 121 (.pick (.tmp 114) (.const (.bool true)) (.tmp 120)), oM 122 121, oG 123 (.faddr 4 (.tmp 1)) 122 false, oG 124 (.load false 1 (.tmp 123)) 122 false, oG 125 (.mv (.tmp 5)) 122 false, oG 126 (.iaddr 1 none (.tmp 124) (.tmp 125)) 122 false, oG 127 (.load false 1 (.tmp 126)) 122 false, oG 128 (.bin .gtr 66 (.tmp 127) (.const (.float Go.FloatKind.f32 1201422336))) 122 false, oO 129 (.pick (.tmp 122) (.const (.bool true)) (.tmp 128))]
def r11_81 : List AOper := [oM 130 5, oM 2 130, oO 3 (.mv (kI 2))]
def r11_83 : List AOper := [oM 131 5, oO 132 (.bin .gtr 3 (.tmp 131) (kI 0)), oM 133 132, oG 134 (.faddr 2 (.tmp 1)) 133 true, oG 135 (.load false 1 (.tmp 134)) 133 true, oG 136 (.mv (.tmp 5)) 133 true, oG 137 (.iaddr 1 none (.tmp 135) (.tmp 136)) 133 true, oG 138 (.load false 1 (.tmp 137)) 133 true, oG 139 (.faddr 2 (.tmp 1)) 133 true, oG 140 (.load false 1 (.tmp 139)) 133 true, oG 141 (.mv (.tmp 5)) 133 true, oG 142 (.bin .sub 3 (.tmp 141) (kI 1)) 133 true, oG 143 (.iaddr 1 none (.tmp 140) (.tmp 142)) 133 true, oG 144 (.load false 1 (.tmp 143)) 133 true, oG 145 (.bin .leq 3 (.tmp 138) (.tmp 144)) 133 true, oO 146 (.pick (.tmp 133) (.tmp 145) (.const (.bool false)))]
def r11_86 : List AOper := [oM 147 5, oM 2 147, oO 3 (.mv (kI 10))]
def r11_87 : List AOper := [oM 71 5, oO 72 (.bin .add 3 (.tmp 71) (kI 1)), oM 5 72]
def r11_89 : List AOper := [oO 2 (.mv (kI 0)), oO 3 (.mv (kI 0))]
def tr11 : List (Nat × Tidy) := [tT 0 [1], tT 1 [1, 9], tT 2 [2, 3], tT 3 [1, 17], tT 4 [2, 3], tT 5 [1, 4], tT 6 [1, 4, 23], tT 7 [1, 37], tT 8 [2, 3], tT 9 [45], tT 10 [2, 3], tT 11 [2, 3], tT 12 [1, 4, 49], tT 13 [2, 3], tT 14 [1, 4, 65], tT 15 [2, 3], tT 16 [1, 4, 67], tT 17 [2, 3], tT 18 [1, 4, 5], tT 19 [1, 4, 5, 70], tT 21 [1, 4, 5, 79], tT 22 [2, 3], tT 23 [1, 4, 5, 98], tT 24 [2, 3], tT 25 [1, 4, 5, 129], tT 26 [2, 3], tT 27 [1, 4, 5, 146], tT 28 [2, 3], tT 20 [1, 4, 5], tT 29 [2, 3]]
def tl11 : List (Nat × Tidy) := [(19, ⟨[1, 4, 5], true, [⟨true, 1, 2, 30102, 1⟩, ⟨true, 1, 3, 30103, 1⟩, ⟨true, 1, 4, 30104, 1⟩], []⟩)]
def rs11 : List AResV := [.tmp 2, .tmp 3]
def p11_0_0 : PT St := pS [sl 1 (aV false [(cPtr 1 0)]), sl 9 (aV false [(cD dB)])] [eBox 1 [(cD dS), (cD (dI .i64)), (cD dL), (cD dL), (cD dL), (cD (dI .i64)), (cD (dI .i64))]]
def u11_0_0 {β : Type} (g : St → β) : Bool → ByteArray → Int → Rows → Rows → Rows → Int → Int → β := p11_0_0.unc g
def p11_0_1 : PT St := pS [sl 2 (aV false [(cD (dI .i64))]), sl 3 (aV false [(cD (dI .i64))])] []
def u11_0_1 {β : Type} (g : St → β) : Int → Int → β := p11_0_1.unc g
def p11_0_2 : PT St := pS [sl 1 (aV false [(cPtr 1 0)]), sl 17 (aV false [(cD dB)])] [eBox 1 [(cD dS), (cD (dI .i64)), (cD dL), (cD dL), (cD dL), (cD (dI .i64)), (cD (dI .i64))]]
def u11_0_2 {β : Type} (g : St → β) : Bool → ByteArray → Int → Rows → Rows → Rows → Int → Int → β := p11_0_2.unc g
def p11_0_3 : PT St := pS [sl 1 (aV false [(cPtr 1 0)]), sl 4 (aV false [(cD (dI .i64))]), sl 5 (aV false [(cD (dI .i64))])] [eBox 1 [(cD dS), (cD (dI .i64)), (cD dL), (cD dL), (cD dL), (cD (dI .i64)), (cD (dI .i64))]]
def u11_0_3 {β : Type} (g : St → β) : Int → Int → ByteArray → Int → Rows → Rows → Rows → Int → Int → β := p11_0_3.unc g
def p11_0_4 : PT St := pS [sl 1 (aV false [(cPtr 1 0)]), sl 4 (aV false [(cD (dI .i64))]), sl 5 (aV false [(cD (dI .i64))]), sl 70 (aV false [(cD dB)])] [eBox 1 [(cD dS), (cD (dI .i64)), (cD dL), (cD dL), (cD dL), (cD (dI .i64)), (cD (dI .i64))]]
def u11_0_4 {β : Type} (g : St → β) : Int → Int → Bool → ByteArray → Int → Rows → Rows → Rows → Int → Int → β := p11_0_4.unc g
def pr11_0_0 : PT (List RV) := pRs [pR false [rD (dI .i64)], pR false [rD (dI .i64)]]
def ur11_0_0 {β : Type} (g : List RV → β) : Int → Int → β := pr11_0_0.unc g
def E11_0g (vf29_0 : Tf29_0) (vf30_0 : Tf30_0) (vf31_0 : Tf31_0) (vf32_0 : Tf32_0) (vf32_1 : Tf32_1) : EnvK := EnvK.of [⟨29, nt29, [⟨pa29_0, Fn29_0 vf29_0⟩]⟩, ⟨30, nt30, [⟨pa30_0, Fn30_0 vf30_0⟩]⟩, ⟨31, nt31, [⟨pa31_0, Fn31_0 vf31_0⟩]⟩, ⟨32, nt32, [⟨pa32_0, Fn32_0 vf32_0⟩, ⟨pa32_1, Fn32_1 vf32_1⟩]⟩] noSeq
noncomputable def E11_0 : EnvK := E11_0g f29_0 f30_0 f31_0 f32_0 f32_1
theorem eo11_0 : E11_0.Ok Try.prog := EnvK.of_ok noSeq_ok ⟨⟨io29_0, trivial⟩, ⟨io30_0, trivial⟩, ⟨io31_0, trivial⟩, ⟨io32_0, io32_1, trivial⟩, trivial⟩
noncomputable def c11_0_57g  : MCode := (.seq (.seq (.region r11_60 [] (tO [1, 4, 5, 70])) (.cond (.tmp 70) .skip (.exit 0))) (.seq (.block 1 (.seq (.seq (.region r11_66 [] (tO [1, 4, 5, 79])) (.cond (.tmp 79) (.seq (.region r11_69 [] (tO [2, 3])) .ret) .skip)) (.seq (.seq (.region r11_72 [] (tO [1, 4, 5, 98])) (.cond (.tmp 98) (.seq (.region r11_75 [] (tO [2, 3])) .ret) .skip)) (.seq (.seq (.region r11_78 [] (tO [1, 4, 5, 129])) (.cond (.tmp 129) (.seq (.region r11_81 [] (tO [2, 3])) .ret) .skip)) (.seq (.region r11_83 [] (tO [1, 4, 5, 146])) (.cond (.tmp 146) (.seq (.region r11_86 [] (tO [2, 3])) .ret) .skip)))))) (.region r11_87 [] (tO [1, 4, 5]))))
noncomputable def c11_0_57 : MCode := c11_0_57g 
theorem g11_0_57 : c11_0_57.Good Try.prog E11_0 sh11 := ⟨⟨trivial, ⟨trivial, trivial⟩⟩, ⟨⟨⟨trivial, ⟨⟨trivial, trivial⟩, trivial⟩⟩, ⟨⟨trivial, ⟨⟨trivial, trivial⟩, trivial⟩⟩, ⟨⟨trivial, ⟨⟨trivial, trivial⟩, trivial⟩⟩, ⟨trivial, ⟨⟨trivial, trivial⟩, trivial⟩⟩⟩⟩⟩, trivial⟩⟩
--CODE 57 0
def S11_0_1g (vf31_0 : Tf31_0) (vf32_0 : Tf32_0) (vf32_1 : Tf32_1) (α : Type) (x21 : Int) (x25 x26 x27 : Rows) (x22 : Int) (kn : Int → Option α) (k1 : Int → Int → Option α) (k2 : Int → Bool → Option α) : Option α :=
 cK (decide (x22 < x21))
 (rowK x25 x22 [.int .i64]
 (fun x31 => vf31_0 α x31
 (fun x32 => cK (!x32)
 (k1 x22 2)
 (rowK x26 x22 [.flt .f32]
 (fun x33 => cK (isNaNb .f32 x33)
 (vf32_0 α 
 (k1 x22 27))
 (flK (f2f .f32 x33 .f64)
 (fun x34 => vf32_1 α x34
 (fun x35 => cK (!x35)
 (k1 x22 27)
 (rowK x27 x22 [.flt .f32]
 (fun x36 => cK (isNaNb .f32 x36)
 (vf32_0 α 
 (k1 x22 27))
 (flK (f2f .f32 x36 .f64)
 (fun x37 => vf32_1 α x37
 (fun x38 => cK (!x38)
 (k1 x22 27)
 (rowK x26 x22 [.flt .f32]
 (fun x39 => cK ((FloatKind.format .f32).order x39 1167867904 == some Ordering.lt)
 (k1 x22 2)
 (rowK x26 x22 [.flt .f32]
 (fun x40 => cK ((FloatKind.format .f32).order x40 1201422336 == some Ordering.gt)
 (k1 x22 2)
 (rowK x27 x22 [.flt .f32]
 (fun x41 => cK ((FloatKind.format .f32).order x41 0 == some Ordering.lt)
 (k1 x22 2)
 (rowK x27 x22 [.flt .f32]
 (fun x42 => cK ((FloatKind.format .f32).order x42 1201422336 == some Ordering.gt)
 (k1 x22 2)
 (cK (decide (0 < x22))
 (rowK x25 x22 [.int .i64]
 (fun x43 => rowK x25 (w64 (x22 - 1)) [.int .i64]
 (fun x44 => cK (decide (x43 ≤ x44))
 (k1 x22 10)
 (kn (w64 (x22 + 1))))))
 (kn (w64 (x22 + 1)))))))))))))))))))))))))
 (k2 x22 (decide (x22 < x21)))
noncomputable def S11_0_1 (α : Type) (x21 : Int) (x25 x26 x27 : Rows) (x22 : Int) (kn : Int → Option α) (k1 : Int → Int → Option α) (k2 : Int → Bool → Option α) : Option α := S11_0_1g f31_0 f32_0 f32_1 α x21 x25 x26 x27 x22 kn k1 k2
noncomputable def R11_0_1 (α : Type) (x21 : Int) (x25 x26 x27 : Rows) (k1 : Int → Int → Option α) (k2 : Int → Bool → Option α) : Nat → Int → Option α
 | 0, _ => none
 | n + 1, x22 => S11_0_1 α x21 x25 x26 x27 x22 (R11_0_1 α x21 x25 x26 x27 k1 k2 n) k1 k2
noncomputable def L11_0_1 (α : Type) (x21 : Int) (x25 x26 x27 : Rows) (k1 : Int → Int → Option α) (k2 : Int → Bool → Option α) (x22 : Int) : Option α := R11_0_1 α x21 x25 x26 x27 k1 k2 fuel x22
abbrev TL11_0_1 : Type 1 := (α : Type) → Int → Rows → Rows → Rows → (Int → Int → Option α) → (Int → Bool → Option α) → Int → Option α
def F11_0_1 (v : TL11_0_1) (α : Type) (K : Exit → St → Option α) : Int → Int → ByteArray → Int → Rows → Rows → Rows → Int → Int → Option α := fun x21 x22 x23 x24 x25 x26 x27 x28 x29 => v α x21 x25 x26 x27 (fun (y1 : Int) (y2 : Int) => u11_0_1 (K .ret) y1 y2) (fun (y1 : Int) (y2 : Bool) => u11_0_4 (K (.exit 0)) x21 y1 y2 x23 x24 x25 x26 x27 x28 x29) x22
theorem r11_0_1g (vf29_0 : Tf29_0) (vf30_0 : Tf30_0) (vf31_0 : Tf31_0) (vf32_0 : Tf32_0) (vf32_1 : Tf32_1)  (α : Type) (K : Exit → St → Option α) (Kn : St → Option α) (x21 x22 : Int) (x23 : ByteArray) (x24 : Int) (x25 x26 x27 : Rows) (x28 x29 : Int) : u11_0_3 (fun σ => runM Try.prog (E11_0g vf29_0 vf30_0 vf31_0 vf32_0 vf32_1) sh11 (c11_0_57g ) (thenK (fun σ => tidyK td11_57 σ Kn) K) σ) x21 x22 x23 x24 x25 x26 x27 x28 x29 = S11_0_1g vf31_0 vf32_0 vf32_1 α x21 x25 x26 x27 x22 (fun x22 => u11_0_3 Kn x21 x22 x23 x24 x25 x26 x27 x28 x29) (fun (y1 : Int) (y2 : Int) => u11_0_1 (K .ret) y1 y2) (fun (y1 : Int) (y2 : Bool) => u11_0_4 (K (.exit 0)) x21 y1 y2 x23 x24 x25 x26 x27 x28 x29) := by kernel_rfl
theorem r11_0_1 (α : Type) (K : Exit → St → Option α) (Kn : St → Option α) (x21 x22 : Int) (x23 : ByteArray) (x24 : Int) (x25 x26 x27 : Rows) (x28 x29 : Int) : u11_0_3 (fun σ => runM Try.prog E11_0 sh11 c11_0_57 (thenK (fun σ => tidyK td11_57 σ Kn) K) σ) x21 x22 x23 x24 x25 x26 x27 x28 x29 = S11_0_1 α x21 x25 x26 x27 x22 (fun x22 => u11_0_3 Kn x21 x22 x23 x24 x25 x26 x27 x28 x29) (fun (y1 : Int) (y2 : Int) => u11_0_1 (K .ret) y1 y2) (fun (y1 : Int) (y2 : Bool) => u11_0_4 (K (.exit 0)) x21 y1 y2 x23 x24 x25 x26 x27 x28 x29) := r11_0_1g f29_0 f30_0 f31_0 f32_0 f32_1 α K Kn x21 x22 x23 x24 x25 x26 x27 x28 x29
theorem t11_0_1 (α : Type) (K : Exit → St → Option α) : ∀ (n : Nat) (x21 x22 : Int) (x23 : ByteArray) (x24 : Int) (x25 x26 x27 : Rows) (x28 x29 : Int), R11_0_1 α x21 x25 x26 x27 (fun (y1 : Int) (y2 : Int) => u11_0_1 (K .ret) y1 y2) (fun (y1 : Int) (y2 : Bool) => u11_0_4 (K (.exit 0)) x21 y1 y2 x23 x24 x25 x26 x27 x28 x29) n x22 = u11_0_3 (loopT (runM Try.prog E11_0 sh11 c11_0_57) td11_57 K n) x21 x22 x23 x24 x25 x26 x27 x28 x29 := by
 intro n
 induction n with
 | zero => intros; rfl
 | succ n ih => intro x21 x22 x23 x24 x25 x26 x27 x28 x29; exact (congrArg (fun kn => S11_0_1 α x21 x25 x26 x27 x22 kn (fun (y1 : Int) (y2 : Int) => u11_0_1 (K .ret) y1 y2) (fun (y1 : Int) (y2 : Bool) => u11_0_4 (K (.exit 0)) x21 y1 y2 x23 x24 x25 x26 x27 x28 x29)) (funext fun x22 => ih x21 x22 x23 x24 x25 x26 x27 x28 x29)).trans (r11_0_1 α K (loopT (runM Try.prog E11_0 sh11 c11_0_57) td11_57 K n) x21 x22 x23 x24 x25 x26 x27 x28 x29).symm
theorem m11_0_1 : ∀ (α : Type) (K : Exit → St → Option α), F11_0_1 L11_0_1 α K = p11_0_3.unc fun σ => loopT (runM Try.prog E11_0 sh11 c11_0_57) td11_57 K fuel σ := fun α K => funext fun x21 => funext fun x22 => funext fun x23 => funext fun x24 => funext fun x25 => funext fun x26 => funext fun x27 => funext fun x28 => funext fun x29 => t11_0_1 α K fuel x21 x22 x23 x24 x25 x26 x27 x28 x29
noncomputable def c11_0_9g  : MCode := (.seq (.region r11_11 [] (tO [1, 17])) (.cond (.tmp 17) (.seq (.region r11_14 [] (tO [2, 3])) .ret) .skip))
noncomputable def c11_0_9 : MCode := c11_0_9g 
theorem g11_0_9 : c11_0_9.Good Try.prog E11_0 sh11 := ⟨trivial, ⟨⟨trivial, trivial⟩, trivial⟩⟩
--CODE 9 0
abbrev TJ11_0_0 : Type 1 := (α : Type) → Int → (Option α) → (Bool → Option α) → Option α
def J11_0_0g  (α : Type) (x11 : Int) (k1 : Option α) (k2 : Bool → Option α) : Option α :=
 cK (x11 != 1)
 (cK (x11 != 2)
 (k1)
 (k2 (x11 != 2)))
 (k2 false)
noncomputable def J11_0_0 (α : Type) (x11 : Int) (k1 : Option α) (k2 : Bool → Option α) : Option α := J11_0_0g  α x11 k1 k2
def F11_0_0 (v : TJ11_0_0) (α : Type) (K : Exit → St → Option α) : Bool → ByteArray → Int → Rows → Rows → Rows → Int → Int → Option α := fun x9 x10 x11 x12 x13 x14 x15 x16 => v α x11 (u11_0_1 (K .ret) 0 11) (fun (y1 : Bool) => u11_0_2 (K .normal) y1 x10 x11 x12 x13 x14 x15 x16) 
theorem m11_0_0g (vf29_0 : Tf29_0) (vf30_0 : Tf30_0) (vf31_0 : Tf31_0) (vf32_0 : Tf32_0) (vf32_1 : Tf32_1)  (α : Type) (K : Exit → St → Option α) : F11_0_0 (J11_0_0g ) α K = p11_0_0.unc fun σ => runM Try.prog (E11_0g vf29_0 vf30_0 vf31_0 vf32_0 vf32_1) sh11 (c11_0_9g ) K σ := by kernel_rfl
theorem m11_0_0 : ∀ (α : Type) (K : Exit → St → Option α), F11_0_0 J11_0_0 α K = p11_0_0.unc fun σ => runM Try.prog E11_0 sh11 c11_0_9 K σ := m11_0_0g f29_0 f30_0 f31_0 f32_0 f32_1
abbrev Tf11_0 : Type 1 := (α : Type) → ByteArray → Int → Rows → Rows → Rows → Int → Int → (Int → Int → Option α) → Option α
def f11_0g (vJ11_0_0 : TJ11_0_0) (vL11_0_1 : TL11_0_1) (vf29_0 : Tf29_0) (vf30_0 : Tf30_0) (α : Type) (x1 : ByteArray) (x2 : Int) (x3 x4 x5 : Rows) (x6 x7 : Int) (k1 : Int → Int → Option α) : Option α :=
 vf29_0 α x1
 (fun x8 => cK (!x8)
 (k1 0 3)
 (vJ11_0_0 α x2
 (k1 0 11)
 (fun x18 => cK (x2 == 2)
 (cK (decide (0 < ((List.length x3 : Nat) : Int)))
 (k1 0 13)
 (cK (decide (0 < ((List.length x4 : Nat) : Int)))
 (k1 0 13)
 (cK (decide (0 < ((List.length x5 : Nat) : Int)))
 (k1 0 13)
 (vf30_0 α x6 x7
 (fun x20 => cK (!x20)
 (k1 0 2)
 (k1 0 0))))))
 (cK (!((x6 == 0) && ((x7 == 0) && true)))
 (k1 0 13)
 (cK (((List.length x3 : Nat) : Int) == 0)
 (k1 0 12)
 (cK (((List.length x4 : Nat) : Int) != ((List.length x3 : Nat) : Int))
 (k1 0 12)
 (cK (((List.length x5 : Nat) : Int) != ((List.length x3 : Nat) : Int))
 (k1 0 12)
 (cK (decide (64 < ((List.length x3 : Nat) : Int)))
 (k1 0 8)
 (vL11_0_1 α ((List.length x3 : Nat) : Int) x3 x4 x5
 (fun x45 x46 => k1 x45 x46)
 (fun x47 x48 => k1 0 0) 0)))))))))
noncomputable def f11_0 (α : Type) (x1 : ByteArray) (x2 : Int) (x3 x4 x5 : Rows) (x6 x7 : Int) (k1 : Int → Int → Option α) : Option α := f11_0g J11_0_0 L11_0_1 f29_0 f30_0 α x1 x2 x3 x4 x5 x6 x7 k1
def pa11_0 : PT (List DV) := pA [pV true [dS, (dI .i64), dL, dL, dL, (dI .i64), (dI .i64)]]
def Fn11_0 (v : Tf11_0) (α : Type) (k : List RV → Option α) : ByteArray → Int → Rows → Rows → Rows → Int → Int → Option α := fun x1 x2 x3 x4 x5 x6 x7 => v α x1 x2 x3 x4 x5 x6 x7 (fun (y1 : Int) (y2 : Int) => ur11_0_0 k y1 y2)
noncomputable def cm11_0g (vJ11_0_0 : TJ11_0_0) (vL11_0_1 : TL11_0_1) : MCode := (.seq (.region r11_2 [] (tO [1])) (.seq (.seq (.region r11_5 [] (tO [1, 9])) (.cond (.tmp 9) (.seq (.region r11_8 [] (tO [2, 3])) .ret) .skip)) (.seq (.mark [⟨p11_0_0, F11_0_0 vJ11_0_0⟩] c11_0_9) (.seq (.region r11_16 [] (tO [1, 4])) (.seq (.seq (.region r11_19 [] (tO [1, 4, 23])) (.cond (.tmp 23) (.seq (.seq (.region r11_23 [] (tO [1, 37])) (.cond (.tmp 37) (.seq (.region r11_26 [] (tO [2, 3])) .ret) .skip)) (.seq (.seq (.region r11_29 [] (tO [45])) (.cond (.tmp 45) (.seq (.region r11_32 [] (tO [2, 3])) .ret) .skip)) (.seq (.region r11_34 [] (tO [2, 3])) .ret))) .skip)) (.seq (.seq (.region r11_37 [] (tO [1, 4, 49])) (.cond (.tmp 49) (.seq (.region r11_40 [] (tO [2, 3])) .ret) .skip)) (.seq (.seq (.region r11_43 [] (tO [1, 4, 65])) (.cond (.tmp 65) (.seq (.region r11_46 [] (tO [2, 3])) .ret) .skip)) (.seq (.seq (.region r11_49 [] (tO [1, 4, 67])) (.cond (.tmp 67) (.seq (.region r11_52 [] (tO [2, 3])) .ret) .skip)) (.seq (.seq (.region r11_55 [] (tO [1, 4, 5])) (.block 0 (.loop td11_57 [⟨p11_0_3, F11_0_1 vL11_0_1⟩] c11_0_57))) (.seq (.region r11_89 [] (tO [2, 3])) .ret))))))))))
noncomputable def cm11_0 : MCode := cm11_0g J11_0_0 L11_0_1
theorem gm11_0 : cm11_0.Good Try.prog E11_0 sh11 := ⟨trivial, ⟨⟨trivial, ⟨⟨trivial, trivial⟩, trivial⟩⟩, ⟨⟨g11_0_9, m11_0_0, trivial⟩, ⟨trivial, ⟨⟨trivial, ⟨⟨⟨trivial, ⟨⟨trivial, trivial⟩, trivial⟩⟩, ⟨⟨trivial, ⟨⟨trivial, trivial⟩, trivial⟩⟩, ⟨trivial, trivial⟩⟩⟩, trivial⟩⟩, ⟨⟨trivial, ⟨⟨trivial, trivial⟩, trivial⟩⟩, ⟨⟨trivial, ⟨⟨trivial, trivial⟩, trivial⟩⟩, ⟨⟨trivial, ⟨⟨trivial, trivial⟩, trivial⟩⟩, ⟨⟨trivial, ⟨g11_0_57, m11_0_1, trivial⟩⟩, ⟨trivial, trivial⟩⟩⟩⟩⟩⟩⟩⟩⟩⟩
theorem fm11_0g (vf29_0 : Tf29_0) (vf30_0 : Tf30_0) (vf31_0 : Tf31_0) (vf32_0 : Tf32_0) (vf32_1 : Tf32_1) (vJ11_0_0 : TJ11_0_0) (vL11_0_1 : TL11_0_1) (α : Type) (k : List RV → Option α) : Fn11_0 (f11_0g vJ11_0_0 vL11_0_1 vf29_0 vf30_0) α k = pa11_0.unc fun ds => fnM Try.prog (E11_0g vf29_0 vf30_0 vf31_0 vf32_0 vf32_1) sh11 (cm11_0g vJ11_0_0 vL11_0_1) rs11 k ds := by kernel_rfl
theorem fm11_0 : ∀ (α : Type) (k : List RV → Option α), Fn11_0 f11_0 α k = pa11_0.unc fun ds => fnM Try.prog E11_0 sh11 cm11_0 rs11 k ds := fm11_0g f29_0 f30_0 f31_0 f32_0 f32_1 J11_0_0 L11_0_1
theorem is11 : FnIs Try.prog 11 nt11 tr11 tl11 cm11_0.erase rs11 := ⟨Try.f11, Try.func11, rfl, by kernel_rfl, by kernel_rfl, by kernel_rfl⟩
theorem io11_0 : InstOk Try.prog 11 nt11 ⟨pa11_0, Fn11_0 f11_0⟩ := inst_ok eo11_0 followsTry is11 ⟨⟨sh11, cm11_0, by kernel_rfl, gm11_0, fm11_0⟩⟩
abbrev nt66 : Nat := 23
def sh66 : List (Nat × List Sh) := []
def r66_2 : List AOper := [oO 2 (.mv (kI 0)), oO 3 (.mv (.const (.bool false)))]
def r66_4 : List AOper := [oM 5 0, oO 6 (.pure (oB (.convert 66 65 (.tmp 5)) 65)), oM 4 6]
def r66_7 : List AOper := [oM 7 4, oO 8 (.call 76 [(.tmp 7)]), oM 9 8, oG 10 (.mv (.tmp 4)) 9 false, oG 11 (.call 77 [(.tmp 10), (kI 0)]) 9 false, oO 12 (.pick (.tmp 9) (.const (.bool true)) (.tmp 11)), oM 13 12, oG 14 (.mv (.tmp 4)) 13 false, oG 15 (.call 78 [(.tmp 14)]) 13 false, oG 16 (.mv (.tmp 4)) 13 false, oG 17 (.bin .neq 65 (.tmp 15) (.tmp 16)) 13 false, oO 18 (.pick (.tmp 13) (.const (.bool true)) (.tmp 17))]
def r66_10 : List AOper := [oO 2 (.mv (kI 0)), oO 3 (.mv (.const (.bool false)))]
def r66_12 : List AOper := [oM 19 4, oO 20 (.pure (oB (.call { callee := .builtin .min, args := #[(.const (.float Go.FloatKind.f64 4741671816366391296)), (.tmp 19)], argTypes := #[65, 65] }) 65)), oO 21 (.pure (oB (.call { callee := .builtin .max, args := #[(.const (.float Go.FloatKind.f64 13965043853221167104)), (.tmp 20)], argTypes := #[65, 65] }) 65)), oO 22 (.pure (oB (.convert 65 3 (.tmp 21)) 3)), oM 2 22, oO 3 (.mv (.const (.bool true)))]
def tr66 : List (Nat × Tidy) := [tT 0 [0], tT 1 [4], tT 2 [4, 18], tT 3 [2, 3], tT 4 [2, 3]]
def tl66 : List (Nat × Tidy) := []
def rs66 : List AResV := [.tmp 2, .tmp 3]
def p66_0_0 : PT St := pS [sl 0 (aV false [(cD (dF .f32))])] []
def u66_0_0 {β : Type} (g : St → β) : Nat → β := p66_0_0.unc g
def p66_0_1 : PT St := pS [sl 4 (aV false [(cD (dNan .f64))])] []
def u66_0_1 {β : Type} (g : St → β) : β := p66_0_1.unc g
def p66_0_2 : PT St := pS [sl 4 (aV false [(cD (dF .f64))])] []
def u66_0_2 {β : Type} (g : St → β) : Nat → β := p66_0_2.unc g
def pr66_0_0 : PT (List RV) := pRs [pR false [rD (dI .i64)], pR false [rD dB]]
def ur66_0_0 {β : Type} (g : List RV → β) : Int → Bool → β := pr66_0_0.unc g
def E66_0g (vf76_0 : Tf76_0) (vf76_1 : Tf76_1) (vf77_0 : Tf77_0) (vf78_0 : Tf78_0) : EnvK := EnvK.of [⟨76, nt76, [⟨pa76_0, Fn76_0 vf76_0⟩, ⟨pa76_1, Fn76_1 vf76_1⟩]⟩, ⟨77, nt77, [⟨pa77_0, Fn77_0 vf77_0⟩]⟩, ⟨78, nt78, [⟨pa78_0, Fn78_0 vf78_0⟩]⟩] noSeq
noncomputable def E66_0 : EnvK := E66_0g f76_0 f76_1 f77_0 f78_0
theorem eo66_0 : E66_0.Ok Try.prog := EnvK.of_ok noSeq_ok ⟨⟨io76_0, io76_1, trivial⟩, ⟨io77_0, trivial⟩, ⟨io78_0, trivial⟩, trivial⟩
noncomputable def c66_0_3g  : MCode := (.region r66_4 [] (tO [4]))
noncomputable def c66_0_3 : MCode := c66_0_3g 
theorem g66_0_3 : c66_0_3.Good Try.prog E66_0 sh66 := trivial
--CODE 3 0
abbrev TJ66_0_0 : Type 1 := (α : Type) → Nat → (Option α) → (Nat → Option α) → Option α
def J66_0_0g  (α : Type) (x2 : Nat) (k1 : Option α) (k2 : Nat → Option α) : Option α :=
 cK (isNaNb .f32 x2)
 (k1)
 (flK (f2f .f32 x2 .f64)
 (fun x4 => k2 x4))
noncomputable def J66_0_0 (α : Type) (x2 : Nat) (k1 : Option α) (k2 : Nat → Option α) : Option α := J66_0_0g  α x2 k1 k2
def F66_0_0 (v : TJ66_0_0) (α : Type) (K : Exit → St → Option α) : Nat → Option α := fun x2 => v α x2 (u66_0_1 (K .normal) ) (fun (y1 : Nat) => u66_0_2 (K .normal) y1) 
theorem m66_0_0g (vf76_0 : Tf76_0) (vf76_1 : Tf76_1) (vf77_0 : Tf77_0) (vf78_0 : Tf78_0)  (α : Type) (K : Exit → St → Option α) : F66_0_0 (J66_0_0g ) α K = p66_0_0.unc fun σ => runM Try.prog (E66_0g vf76_0 vf76_1 vf77_0 vf78_0) sh66 (c66_0_3g ) K σ := by kernel_rfl
theorem m66_0_0 : ∀ (α : Type) (K : Exit → St → Option α), F66_0_0 J66_0_0 α K = p66_0_0.unc fun σ => runM Try.prog E66_0 sh66 c66_0_3 K σ := m66_0_0g f76_0 f76_1 f77_0 f78_0
abbrev Tf66_0 : Type 1 := (α : Type) → Nat → (Int → Bool → Option α) → Option α
def f66_0g (vJ66_0_0 : TJ66_0_0) (vf76_0 : Tf76_0) (vf76_1 : Tf76_1) (vf77_0 : Tf77_0) (vf78_0 : Tf78_0) (α : Type) (x1 : Nat) (k1 : Int → Bool → Option α) : Option α :=
 vJ66_0_0 α x1
 (vf76_0 α 
 (k1 0 false))
 (fun x5 => vf76_1 α x5
 (fun x7 => cK x7
 (k1 0 false)
 (vf77_0 α x5 0
 (fun x8 => cK x8
 (k1 0 false)
 (vf78_0 α x5
 (k1 0 false)
 (fun x9 => cK ((FloatKind.format .f64).order x9 x5 != some Ordering.eq)
 (k1 0 false)
 (flK (mxNat false .f64 4741671816366391296 x5)
 (fun x10 => flK (mxNat true .f64 13965043853221167104 x10)
 (fun x11 => ivK (f2i .f64 x11 .i64)
 (fun x12 => k1 x12 true))))))))))
noncomputable def f66_0 (α : Type) (x1 : Nat) (k1 : Int → Bool → Option α) : Option α := f66_0g J66_0_0 f76_0 f76_1 f77_0 f78_0 α x1 k1
def pa66_0 : PT (List DV) := pA [pV false [(dF .f32)]]
def Fn66_0 (v : Tf66_0) (α : Type) (k : List RV → Option α) : Nat → Option α := fun x1 => v α x1 (fun (y1 : Int) (y2 : Bool) => ur66_0_0 k y1 y2)
noncomputable def cm66_0g (vJ66_0_0 : TJ66_0_0) : MCode := (.seq (.region r66_2 [] (tO [0])) (.seq (.mark [⟨p66_0_0, F66_0_0 vJ66_0_0⟩] c66_0_3) (.seq (.seq (.region r66_7 [] (tO [4, 18])) (.cond (.tmp 18) (.seq (.region r66_10 [] (tO [2, 3])) .ret) .skip)) (.seq (.region r66_12 [] (tO [2, 3])) .ret))))
noncomputable def cm66_0 : MCode := cm66_0g J66_0_0
theorem gm66_0 : cm66_0.Good Try.prog E66_0 sh66 := ⟨trivial, ⟨⟨g66_0_3, m66_0_0, trivial⟩, ⟨⟨trivial, ⟨⟨trivial, trivial⟩, trivial⟩⟩, ⟨trivial, trivial⟩⟩⟩⟩
theorem fm66_0g (vf76_0 : Tf76_0) (vf76_1 : Tf76_1) (vf77_0 : Tf77_0) (vf78_0 : Tf78_0) (vJ66_0_0 : TJ66_0_0) (α : Type) (k : List RV → Option α) : Fn66_0 (f66_0g vJ66_0_0 vf76_0 vf76_1 vf77_0 vf78_0) α k = pa66_0.unc fun ds => fnM Try.prog (E66_0g vf76_0 vf76_1 vf77_0 vf78_0) sh66 (cm66_0g vJ66_0_0) rs66 k ds := by kernel_rfl
theorem fm66_0 : ∀ (α : Type) (k : List RV → Option α), Fn66_0 f66_0 α k = pa66_0.unc fun ds => fnM Try.prog E66_0 sh66 cm66_0 rs66 k ds := fm66_0g f76_0 f76_1 f77_0 f78_0 J66_0_0
theorem is66 : FnIs Try.prog 66 nt66 tr66 tl66 cm66_0.erase rs66 := ⟨Try.f66, Try.func66, rfl, by kernel_rfl, by kernel_rfl, by kernel_rfl⟩
theorem io66_0 : InstOk Try.prog 66 nt66 ⟨pa66_0, Fn66_0 f66_0⟩ := inst_ok eo66_0 followsTry is66 ⟨⟨sh66, cm66_0, by kernel_rfl, gm66_0, fm66_0⟩⟩
abbrev nt13 : Nat := 64
def sh13 : List (Nat × List Sh) := [(53, [.int .i64]), (56, [.int .i64]), (59, [.int .i64]), (62, [.int .i64, .int .i64])]
def r13_2 : List AOper := [oO 6 (.alloc [(cI 0), (cI 0)]), oO 7 (.mv (kI 0))]
def r13_5 : List AOper := [oM 10 0, oM 11 1, oM 12 2, oO 13 (.bslice 1 3 [(.v (.int .i64 0))] [(0, (.tmp 10)), (1, (.tmp 11)), (2, (.tmp 12))]), oO 14 (.call 33 [(.tmp 13)]), oM 8 14]
def r13_8 : List AOper := [oM 16 8, oO 17 (.bin .neq 29 (.tmp 16) (kI 0)), oM 15 17]
def r13_11 : List AOper := [oO 18 (.build [(cI 0), (cI 0)] []), oM 19 8, oD (.store 2 (.tmp 6) (.tmp 18)), oM 7 19]
def r13_13 : List AOper := [oM 21 0, oM 22 1, oO 23 (.bin .eql 3 (.tmp 21) (.tmp 22)), oM 20 23]
def r13_16 : List AOper := [oO 24 (.build [(cI 0), (cI 0)] []), oD (.store 2 (.tmp 6) (.tmp 24)), oO 7 (.mv (kI 9))]
def r13_18 : List AOper := [oM 26 2, oM 27 0, oM 28 1, oO 29 (.pure (oB (.call { callee := .builtin .min, args := #[(.tmp 27), (.tmp 28)], argTypes := #[3, 3] }) 3)), oM 30 0, oM 31 1, oO 32 (.pure (oB (.call { callee := .builtin .max, args := #[(.tmp 30), (.tmp 31)], argTypes := #[3, 3] }) 3)), oO 33 (.call 34 [(.tmp 26), (.tmp 29), (.tmp 32)]), oO 34 (.pure (oB (.unOp .not 4 (.tmp 33)) 4)), oM 25 34]
def r13_21 : List AOper := [oO 35 (.build [(cI 0), (cI 0)] []), oD (.store 2 (.tmp 6) (.tmp 35)), oO 7 (.mv (kI 24))]
def r13_23 : List AOper := [oM 36 2, oM 37 2, oO 38 (.bin .mul 3 (.tmp 36) (.tmp 37)), oM 39 1, oM 40 1, oO 41 (.bin .mul 3 (.tmp 39) (.tmp 40)), oO 42 (.bin .sub 3 (.tmp 38) (.tmp 41)), oO 43 (.bin .mul 3 (kI 10000) (.tmp 42)), oM 44 0, oM 45 0, oO 46 (.bin .mul 3 (.tmp 44) (.tmp 45)), oM 47 1, oM 48 1, oO 49 (.bin .mul 3 (.tmp 47) (.tmp 48)), oO 50 (.bin .sub 3 (.tmp 46) (.tmp 49)), oO 51 (.build [(cI 0), (cI 0)] [(0, 1, (.tmp 43)), (1, 1, (.tmp 50))]), oO 9 (.alloc [(cI 0), (cI 0)]), oD (.store 2 (.tmp 9) (.tmp 51))]
def r13_26 : List AOper := [oO 52 (.faddr 1 (.tmp 9)), oO 53 (.load false 1 (.tmp 52)), oO 54 (.bin .lss 3 (.tmp 53) (kI 0))]
def r13_28 : List AOper := [oO 55 (.faddr 0 (.tmp 9)), oO 56 (.load false 1 (.tmp 55)), oO 57 (.pure (oB (.unOp .neg 3 (.tmp 56)) 3)), oO 58 (.faddr 1 (.tmp 9)), oO 59 (.load false 1 (.tmp 58)), oO 60 (.pure (oB (.unOp .neg 3 (.tmp 59)) 3)), oO 61 (.build [(cI 0), (cI 0)] [(0, 1, (.tmp 57)), (1, 1, (.tmp 60))]), oD (.store 2 (.tmp 9) (.tmp 61))]
def r13_30 : List AOper := [oO 62 (.load true 2 (.tmp 9)), oO 63 (.call 39 [(.tmp 62)]), oD (.store 2 (.tmp 6) (.tmp 63)), oO 7 (.mv (kI 0))]
def tr13 : List (Nat × Tidy) := [tT 0 [0, 1, 2, 6], tT 1 [0, 1, 2, 6, 8], tT 2 [0, 1, 2, 6, 8, 15], tT 3 [6, 7], tT 4 [0, 1, 2, 6, 20], tT 5 [6, 7], tT 6 [0, 1, 2, 6, 25], tT 7 [6, 7], tT 8 [6, 9], tT 9 [6, 9, 54], tT 10 [6, 9], tT 11 [6, 7]]
def tl13 : List (Nat × Tidy) := []
def rs13 : List AResV := [.cell 6 true 2, .tmp 7]
def p13_0_0 : PT St := pS [sl 6 (aV false [(cPtr 6 0)]), sl 9 (aV false [(cPtr 9 0)])] [eBox 6 [(cD (dI .i64)), (cD (dI .i64))], eBox 9 [(cD (dI .i64)), (cD (dI .i64))]]
def u13_0_0 {β : Type} (g : St → β) : Int → Int → Int → Int → β := p13_0_0.unc g
def p13_0_1 : PT St := pS [sl 6 (aV false [(cPtr 6 0)]), sl 9 (aV false [(cPtr 9 0)]), sl 54 (aV false [(cD dB)])] [eBox 6 [(cD (dI .i64)), (cD (dI .i64))], eBox 9 [(cD (dI .i64)), (cD (dI .i64))]]
def u13_0_1 {β : Type} (g : St → β) : Bool → Int → Int → Int → Int → β := p13_0_1.unc g
def pr13_0_0 : PT (List RV) := pRs [pR true [rD (dI .i64), rD (dI .i64)], pR false [rD (dI .i64)]]
def ur13_0_0 {β : Type} (g : List RV → β) : Int → Int → Int → β := pr13_0_0.unc g
def E13_0g (vf33_0 : Tf33_0) (vf34_0 : Tf34_0) (vf39_0 : Tf39_0) : EnvK := EnvK.of [⟨33, nt33, [⟨pa33_0, Fn33_0 vf33_0⟩]⟩, ⟨34, nt34, [⟨pa34_0, Fn34_0 vf34_0⟩]⟩, ⟨39, nt39, [⟨pa39_0, Fn39_0 vf39_0⟩]⟩] noSeq
noncomputable def E13_0 : EnvK := E13_0g f33_0 f34_0 f39_0
theorem eo13_0 : E13_0.Ok Try.prog := EnvK.of_ok noSeq_ok ⟨⟨io33_0, trivial⟩, ⟨io34_0, trivial⟩, ⟨io39_0, trivial⟩, trivial⟩
noncomputable def c13_0_24g  : MCode := (.seq (.region r13_26 [] (tO [6, 9, 54])) (.cond (.tmp 54) (.region r13_28 [] (tO [6, 9])) .skip))
noncomputable def c13_0_24 : MCode := c13_0_24g 
theorem g13_0_24 : c13_0_24.Good Try.prog E13_0 sh13 := ⟨trivial, ⟨trivial, trivial⟩⟩
--CODE 24 0
abbrev TJ13_0_0 : Type 1 := (α : Type) → Int → Int → (Int → Int → Option α) → (Bool → Option α) → Option α
def J13_0_0g  (α : Type) (x8 x9 : Int) (k1 : Int → Int → Option α) (k2 : Bool → Option α) : Option α :=
 cK (decide (x9 < 0))
 (k1 (w64 (0 - x8)) (w64 (0 - x9)))
 (k2 (decide (x9 < 0)))
noncomputable def J13_0_0 (α : Type) (x8 x9 : Int) (k1 : Int → Int → Option α) (k2 : Bool → Option α) : Option α := J13_0_0g  α x8 x9 k1 k2
def F13_0_0 (v : TJ13_0_0) (α : Type) (K : Exit → St → Option α) : Int → Int → Int → Int → Option α := fun x6 x7 x8 x9 => v α x8 x9 (fun (y1 : Int) (y2 : Int) => u13_0_0 (K .normal) x6 x7 y1 y2) (fun (y1 : Bool) => u13_0_1 (K .normal) y1 x6 x7 x8 x9) 
theorem m13_0_0g (vf33_0 : Tf33_0) (vf34_0 : Tf34_0) (vf39_0 : Tf39_0)  (α : Type) (K : Exit → St → Option α) : F13_0_0 (J13_0_0g ) α K = p13_0_0.unc fun σ => runM Try.prog (E13_0g vf33_0 vf34_0 vf39_0) sh13 (c13_0_24g ) K σ := by kernel_rfl
theorem m13_0_0 : ∀ (α : Type) (K : Exit → St → Option α), F13_0_0 J13_0_0 α K = p13_0_0.unc fun σ => runM Try.prog E13_0 sh13 c13_0_24 K σ := m13_0_0g f33_0 f34_0 f39_0
abbrev Tf13_0 : Type 1 := (α : Type) → Int → Int → Int → (Int → Int → Int → Option α) → Option α
def f13_0g (vJ13_0_0 : TJ13_0_0) (vf33_0 : Tf33_0) (vf34_0 : Tf34_0) (vf39_0 : Tf39_0) (α : Type) (x1 x2 x3 : Int) (k1 : Int → Int → Int → Option α) : Option α :=
 vf33_0 α [[DC.v (.int .i64 x1)], [DC.v (.int .i64 x2)], [DC.v (.int .i64 x3)]]
 (fun x4 => cK (x4 != 0)
 (k1 0 0 x4)
 (cK (x1 == x2)
 (k1 0 0 9)
 (vf34_0 α x3 (if x2 < x1 then x2 else x1) (if x2 > x1 then x2 else x1)
 (fun x5 => cK (!x5)
 (k1 0 0 24)
 (vJ13_0_0 α (w64 (10000 * (w64 ((w64 (x3 * x3)) - (w64 (x2 * x2)))))) (w64 ((w64 (x1 * x1)) - (w64 (x2 * x2))))
 (fun x11 x12 => vf39_0 α x11 x12
 (fun x15 x16 => k1 x15 x16 0))
 (fun x13 => vf39_0 α (w64 (10000 * (w64 ((w64 (x3 * x3)) - (w64 (x2 * x2)))))) (w64 ((w64 (x1 * x1)) - (w64 (x2 * x2))))
 (fun x17 x18 => k1 x17 x18 0)))))))
noncomputable def f13_0 (α : Type) (x1 x2 x3 : Int) (k1 : Int → Int → Int → Option α) : Option α := f13_0g J13_0_0 f33_0 f34_0 f39_0 α x1 x2 x3 k1
def pa13_0 : PT (List DV) := pA [pV false [(dI .i64)], pV false [(dI .i64)], pV false [(dI .i64)]]
def Fn13_0 (v : Tf13_0) (α : Type) (k : List RV → Option α) : Int → Int → Int → Option α := fun x1 x2 x3 => v α x1 x2 x3 (fun (y1 : Int) (y2 : Int) (y3 : Int) => ur13_0_0 k y1 y2 y3)
noncomputable def cm13_0g (vJ13_0_0 : TJ13_0_0) : MCode := (.seq (.region r13_2 [] (tO [0, 1, 2, 6])) (.seq (.seq (.region r13_5 [] (tO [0, 1, 2, 6, 8])) (.block 0 (.seq (.region r13_8 [] (tO [0, 1, 2, 6, 8, 15])) (.cond (.tmp 15) (.seq (.region r13_11 [] (tO [6, 7])) .ret) (.seq (.region r13_13 [] (tO [0, 1, 2, 6, 20])) (.cond (.tmp 20) (.seq (.region r13_16 [] (tO [6, 7])) .ret) (.seq (.region r13_18 [] (tO [0, 1, 2, 6, 25])) (.cond (.tmp 25) (.seq (.region r13_21 [] (tO [6, 7])) .ret) .skip)))))))) (.seq (.region r13_23 [] (tO [6, 9])) (.seq (.mark [⟨p13_0_0, F13_0_0 vJ13_0_0⟩] c13_0_24) (.seq (.region r13_30 [] (tO [6, 7])) .ret)))))
noncomputable def cm13_0 : MCode := cm13_0g J13_0_0
theorem gm13_0 : cm13_0.Good Try.prog E13_0 sh13 := ⟨trivial, ⟨⟨trivial, ⟨trivial, ⟨⟨trivial, trivial⟩, ⟨trivial, ⟨⟨trivial, trivial⟩, ⟨trivial, ⟨⟨trivial, trivial⟩, trivial⟩⟩⟩⟩⟩⟩⟩, ⟨trivial, ⟨⟨g13_0_24, m13_0_0, trivial⟩, ⟨trivial, trivial⟩⟩⟩⟩⟩
theorem fm13_0g (vf33_0 : Tf33_0) (vf34_0 : Tf34_0) (vf39_0 : Tf39_0) (vJ13_0_0 : TJ13_0_0) (α : Type) (k : List RV → Option α) : Fn13_0 (f13_0g vJ13_0_0 vf33_0 vf34_0 vf39_0) α k = pa13_0.unc fun ds => fnM Try.prog (E13_0g vf33_0 vf34_0 vf39_0) sh13 (cm13_0g vJ13_0_0) rs13 k ds := by kernel_rfl
theorem fm13_0 : ∀ (α : Type) (k : List RV → Option α), Fn13_0 f13_0 α k = pa13_0.unc fun ds => fnM Try.prog E13_0 sh13 cm13_0 rs13 k ds := fm13_0g f33_0 f34_0 f39_0 J13_0_0
theorem is13 : FnIs Try.prog 13 nt13 tr13 tl13 cm13_0.erase rs13 := ⟨Try.f13, Try.func13, rfl, by kernel_rfl, by kernel_rfl, by kernel_rfl⟩
theorem io13_0 : InstOk Try.prog 13 nt13 ⟨pa13_0, Fn13_0 f13_0⟩ := inst_ok eo13_0 followsTry is13 ⟨⟨sh13, cm13_0, by kernel_rfl, gm13_0, fm13_0⟩⟩
abbrev nt36 : Nat := 19
def sh36 : List (Nat × List Sh) := [(9, [.int .i64]), (10, [.int .i64]), (11, [.int .i64]), (13, [.int .i64]), (15, [.int .i64])]
def r36_2 : List AOper := [oO 5 (.mv (.const (.bool false)))]
def r36_4 : List AOper := [oM 6 0, oM 7 0, oO 8 (.bin .mul 3 (.tmp 6) (.tmp 7)), oO 9 (.load false 1 (.tmp 1)), oO 10 (.load false 1 (.tmp 2)), oO 11 (.load false 1 (.tmp 2)), oO 12 (.bin .mul 3 (.tmp 10) (.tmp 11)), oO 13 (.load false 1 (.tmp 3)), oO 14 (.bin .mul 3 (kI 10000) (.tmp 13)), oO 15 (.load false 1 (.tmp 3)), oO 16 (.bin .mul 3 (.tmp 14) (.tmp 15)), oO 17 (.call 37 [(.tmp 8), (.tmp 9), (.tmp 12), (.tmp 16)]), oO 18 (.bin .leq 3 (.tmp 17) (kI 0)), oM 5 18]
def tr36 : List (Nat × Tidy) := [tT 0 [0, 1, 2, 3], tT 1 [5]]
def tl36 : List (Nat × Tidy) := []
def rs36 : List AResV := [.tmp 5]
def pr36_0_0 : PT (List RV) := pRs [pR false [rD dB]]
def ur36_0_0 {β : Type} (g : List RV → β) : Bool → β := pr36_0_0.unc g
def E36_0g (vf37_0 : Tf37_0) : EnvK := EnvK.of [⟨37, nt37, [⟨pa37_0, Fn37_0 vf37_0⟩]⟩] noSeq
noncomputable def E36_0 : EnvK := E36_0g f37_0
theorem eo36_0 : E36_0.Ok Try.prog := EnvK.of_ok noSeq_ok ⟨⟨io37_0, trivial⟩, trivial⟩
abbrev Tf36_0 : Type 1 := (α : Type) → Int → Int → Int → Int → (Bool → Option α) → Option α
def f36_0g (vf37_0 : Tf37_0) (α : Type) (x1 x2 x3 x4 : Int) (k1 : Bool → Option α) : Option α :=
 vf37_0 α (w64 (x1 * x1)) x2 (w64 (x3 * x3)) (w64 ((w64 (10000 * x4)) * x4))
 (fun x5 => k1 (decide (x5 ≤ 0)))
noncomputable def f36_0 (α : Type) (x1 x2 x3 x4 : Int) (k1 : Bool → Option α) : Option α := f36_0g f37_0 α x1 x2 x3 x4 k1
def pa36_0 : PT (List DV) := pA [pV false [(dI .i64)], pV false [(dP [(dI .i64)] 0)], pV false [(dP [(dI .i64)] 0)], pV false [(dP [(dI .i64)] 0)]]
def Fn36_0 (v : Tf36_0) (α : Type) (k : List RV → Option α) : Int → Int → Int → Int → Option α := fun x1 x2 x3 x4 => v α x1 x2 x3 x4 (fun (y1 : Bool) => ur36_0_0 k y1)
noncomputable def cm36_0g  : MCode := (.seq (.region r36_2 [] (tO [0, 1, 2, 3])) (.seq (.region r36_4 [] (tO [5])) .ret))
noncomputable def cm36_0 : MCode := cm36_0g 
theorem gm36_0 : cm36_0.Good Try.prog E36_0 sh36 := ⟨trivial, ⟨trivial, trivial⟩⟩
theorem fm36_0g (vf37_0 : Tf37_0)  (α : Type) (k : List RV → Option α) : Fn36_0 (f36_0g vf37_0) α k = pa36_0.unc fun ds => fnM Try.prog (E36_0g vf37_0) sh36 (cm36_0g ) rs36 k ds := by kernel_rfl
theorem fm36_0 : ∀ (α : Type) (k : List RV → Option α), Fn36_0 f36_0 α k = pa36_0.unc fun ds => fnM Try.prog E36_0 sh36 cm36_0 rs36 k ds := fm36_0g f37_0
theorem is36 : FnIs Try.prog 36 nt36 tr36 tl36 cm36_0.erase rs36 := ⟨Try.f36, Try.func36, rfl, by kernel_rfl, by kernel_rfl, by kernel_rfl⟩
theorem io36_0 : InstOk Try.prog 36 nt36 ⟨pa36_0, Fn36_0 f36_0⟩ := inst_ok eo36_0 followsTry is36 ⟨⟨sh36, cm36_0, by kernel_rfl, gm36_0, fm36_0⟩⟩
abbrev nt56 : Nat := 40
def sh56 : List (Nat × List Sh) := []
def r56_2 : List AOper := [oO 6 (.mv (kI 0))]
def r56_5 : List AOper := [oM 11 0, oO 12 (.call 46 [(.tmp 11)]), oO 13 (.pure (oB (.unOp .not 4 (.tmp 12)) 4))]
def r56_8 : List AOper := [oO 6 (.mv (kI 2))]
def r56_10 : List AOper := [oM 15 1, oO 16 (.call 66 [(.tmp 15)]), oM 14 16, oO 17 (.extract 0 (.tmp 14)), oO 18 (.extract 1 (.tmp 14)), oM 7 17, oM 8 18]
def r56_12 : List AOper := [oM 20 2, oO 21 (.call 66 [(.tmp 20)]), oM 19 21, oO 22 (.extract 0 (.tmp 19)), oO 23 (.extract 1 (.tmp 19)), oM 9 22, oM 10 23]
def r56_16 : List AOper := [oM 25 8, oO 26 (.pure (oB (.unOp .not 4 (.tmp 25)) 4)), oM 27 26, oG 28 (.mv (.tmp 10)) 27 false, oG 29 (.pure (oB (.unOp .not 4 (.tmp 28)) 4)) 27 false, oO 30 (.pick (.tmp 27) (.const (.bool true)) (.tmp 29)), oM 24 30]
def r56_19 : List AOper := [oO 6 (.mv (kI 27))]
def r56_21 : List AOper := [oM 32 7, oO 33 (.call 57 [(.tmp 32)]), oO 34 (.pure (oB (.unOp .not 4 (.tmp 33)) 4)), oM 35 34, oG 36 (.mv (.tmp 9)) 35 false, oG 37 (.call 67 [(.tmp 36)]) 35 false, oG 38 (.pure (oB (.unOp .not 4 (.tmp 37)) 4)) 35 false, oO 39 (.pick (.tmp 35) (.const (.bool true)) (.tmp 38)), oM 31 39]
def r56_24 : List AOper := [oO 6 (.mv (kI 2))]
def r56_26 : List AOper := [oO 6 (.mv (kI 0))]
def tr56 : List (Nat × Tidy) := [tT 0 [0, 1, 2], tT 1 [1, 2, 13], tT 2 [6], tT 3 [2, 7, 8], tT 4 [7, 8, 9, 10], tT 5 [7, 9, 24], tT 6 [6], tT 7 [31], tT 8 [6], tT 9 [6]]
def tl56 : List (Nat × Tidy) := []
def rs56 : List AResV := [.tmp 6]
def p56_0_0 : PT St := pS [sl 7 (aV false [(cD (dI .i64))]), sl 8 (aV false [(cD dB)]), sl 9 (aV false [(cD (dI .i64))]), sl 10 (aV false [(cD dB)])] []
def u56_0_0 {β : Type} (g : St → β) : Int → Bool → Int → Bool → β := p56_0_0.unc g
def p56_0_1 : PT St := pS [sl 7 (aV false [(cD (dI .i64))]), sl 9 (aV false [(cD (dI .i64))]), sl 24 (aV false [(cD dB)])] []
def u56_0_1 {β : Type} (g : St → β) : Int → Int → Bool → β := p56_0_1.unc g
def pr56_0_0 : PT (List RV) := pRs [pR false [rD (dI .i64)]]
def ur56_0_0 {β : Type} (g : List RV → β) : Int → β := pr56_0_0.unc g
def E56_0g (vf46_0 : Tf46_0) (vf66_0 : Tf66_0) (vf57_0 : Tf57_0) (vf67_0 : Tf67_0) : EnvK := EnvK.of [⟨46, nt46, [⟨pa46_0, Fn46_0 vf46_0⟩]⟩, ⟨66, nt66, [⟨pa66_0, Fn66_0 vf66_0⟩]⟩, ⟨57, nt57, [⟨pa57_0, Fn57_0 vf57_0⟩]⟩, ⟨67, nt67, [⟨pa67_0, Fn67_0 vf67_0⟩]⟩] noSeq
noncomputable def E56_0 : EnvK := E56_0g f46_0 f66_0 f57_0 f67_0
theorem eo56_0 : E56_0.Ok Try.prog := EnvK.of_ok noSeq_ok ⟨⟨io46_0, trivial⟩, ⟨io66_0, trivial⟩, ⟨io57_0, trivial⟩, ⟨io67_0, trivial⟩, trivial⟩
noncomputable def c56_0_15g  : MCode := (.region r56_16 [] (tO [7, 9, 24]))
noncomputable def c56_0_15 : MCode := c56_0_15g 
theorem g56_0_15 : c56_0_15.Good Try.prog E56_0 sh56 := trivial
--CODE 15 0
abbrev TJ56_0_0 : Type 1 := (α : Type) → Bool → Bool → (Bool → Option α) → Option α
def J56_0_0g  (α : Type) (x10 x12 : Bool) (k1 : Bool → Option α) : Option α :=
 cK (!x10)
 (k1 true)
 (k1 (!x12))
noncomputable def J56_0_0 (α : Type) (x10 x12 : Bool) (k1 : Bool → Option α) : Option α := J56_0_0g  α x10 x12 k1
def F56_0_0 (v : TJ56_0_0) (α : Type) (K : Exit → St → Option α) : Int → Bool → Int → Bool → Option α := fun x9 x10 x11 x12 => v α x10 x12 (fun (y1 : Bool) => u56_0_1 (K .normal) x9 x11 y1) 
theorem m56_0_0g (vf46_0 : Tf46_0) (vf66_0 : Tf66_0) (vf57_0 : Tf57_0) (vf67_0 : Tf67_0)  (α : Type) (K : Exit → St → Option α) : F56_0_0 (J56_0_0g ) α K = p56_0_0.unc fun σ => runM Try.prog (E56_0g vf46_0 vf66_0 vf57_0 vf67_0) sh56 (c56_0_15g ) K σ := by kernel_rfl
theorem m56_0_0 : ∀ (α : Type) (K : Exit → St → Option α), F56_0_0 J56_0_0 α K = p56_0_0.unc fun σ => runM Try.prog E56_0 sh56 c56_0_15 K σ := m56_0_0g f46_0 f66_0 f57_0 f67_0
abbrev Tf56_0 : Type 1 := (α : Type) → Int → Nat → Nat → (Int → Option α) → Option α
def f56_0g (vJ56_0_0 : TJ56_0_0) (vf46_0 : Tf46_0) (vf57_0 : Tf57_0) (vf66_0 : Tf66_0) (vf67_0 : Tf67_0) (α : Type) (x1 : Int) (x2 x3 : Nat) (k1 : Int → Option α) : Option α :=
 vf46_0 α x1
 (fun x4 => cK (!x4)
 (k1 2)
 (vf66_0 α x2
 (fun x5 x6 => vf66_0 α x3
 (fun x7 x8 => vJ56_0_0 α x6 x8
 (fun x14 => cK x14
 (k1 27)
 (vf57_0 α x5
 (fun x16 => cK (!x16)
 (k1 2)
 (vf67_0 α x7
 (fun x17 => cK (!x17)
 (k1 2)
 (k1 0))))))))))
noncomputable def f56_0 (α : Type) (x1 : Int) (x2 x3 : Nat) (k1 : Int → Option α) : Option α := f56_0g J56_0_0 f46_0 f57_0 f66_0 f67_0 α x1 x2 x3 k1
def pa56_0 : PT (List DV) := pA [pV false [(dI .i64)], pV false [(dF .f32)], pV false [(dF .f32)]]
def Fn56_0 (v : Tf56_0) (α : Type) (k : List RV → Option α) : Int → Nat → Nat → Option α := fun x1 x2 x3 => v α x1 x2 x3 (fun (y1 : Int) => ur56_0_0 k y1)
noncomputable def cm56_0g (vJ56_0_0 : TJ56_0_0) : MCode := (.seq (.region r56_2 [] (tO [0, 1, 2])) (.seq (.seq (.region r56_5 [] (tO [1, 2, 13])) (.cond (.tmp 13) (.seq (.region r56_8 [] (tO [6])) .ret) .skip)) (.seq (.region r56_10 [] (tO [2, 7, 8])) (.seq (.region r56_12 [] (tO [7, 8, 9, 10])) (.seq (.block 0 (.seq (.mark [⟨p56_0_0, F56_0_0 vJ56_0_0⟩] c56_0_15) (.cond (.tmp 24) (.seq (.region r56_19 [] (tO [6])) .ret) (.seq (.region r56_21 [] (tO [31])) (.cond (.tmp 31) (.seq (.region r56_24 [] (tO [6])) .ret) .skip))))) (.seq (.region r56_26 [] (tO [6])) .ret))))))
noncomputable def cm56_0 : MCode := cm56_0g J56_0_0
theorem gm56_0 : cm56_0.Good Try.prog E56_0 sh56 := ⟨trivial, ⟨⟨trivial, ⟨⟨trivial, trivial⟩, trivial⟩⟩, ⟨trivial, ⟨trivial, ⟨⟨⟨g56_0_15, m56_0_0, trivial⟩, ⟨⟨trivial, trivial⟩, ⟨trivial, ⟨⟨trivial, trivial⟩, trivial⟩⟩⟩⟩, ⟨trivial, trivial⟩⟩⟩⟩⟩⟩
theorem fm56_0g (vf46_0 : Tf46_0) (vf66_0 : Tf66_0) (vf57_0 : Tf57_0) (vf67_0 : Tf67_0) (vJ56_0_0 : TJ56_0_0) (α : Type) (k : List RV → Option α) : Fn56_0 (f56_0g vJ56_0_0 vf46_0 vf57_0 vf66_0 vf67_0) α k = pa56_0.unc fun ds => fnM Try.prog (E56_0g vf46_0 vf66_0 vf57_0 vf67_0) sh56 (cm56_0g vJ56_0_0) rs56 k ds := by kernel_rfl
theorem fm56_0 : ∀ (α : Type) (k : List RV → Option α), Fn56_0 f56_0 α k = pa56_0.unc fun ds => fnM Try.prog E56_0 sh56 cm56_0 rs56 k ds := fm56_0g f46_0 f66_0 f57_0 f67_0 J56_0_0
theorem is56 : FnIs Try.prog 56 nt56 tr56 tl56 cm56_0.erase rs56 := ⟨Try.f56, Try.func56, rfl, by kernel_rfl, by kernel_rfl, by kernel_rfl⟩
theorem io56_0 : InstOk Try.prog 56 nt56 ⟨pa56_0, Fn56_0 f56_0⟩ := inst_ok eo56_0 followsTry is56 ⟨⟨sh56, cm56_0, by kernel_rfl, gm56_0, fm56_0⟩⟩
abbrev nt35 : Nat := 24
def sh35 : List (Nat × List Sh) := []
def r35_2 : List AOper := [oO 4 (.mv (kI 0))]
def r35_4 : List AOper := [oM 8 0, oO 5 (.mv (kI 0)), oM 6 8]
def td35_7 : Option Tidy := (tO [1, 5, 6])
def r35_10 : List AOper := [oM 9 5, oM 10 6, oO 11 (.bin .lss 3 (.tmp 9) (.tmp 10))]
def r35_14 : List AOper := [oM 12 5, oM 13 6, oO 14 (.bin .add 3 (.tmp 12) (.tmp 13)), oO 15 (.bin .add 3 (.tmp 14) (kI 1)), oO 16 (.bin .quo 3 (.tmp 15) (kI 2)), oM 7 16]
def r35_16 : List AOper := [oM 17 1, oM 18 7, oO 19 (.calld (.tmp 17) [(.tmp 18)])]
def r35_18 : List AOper := [oM 20 7, oM 5 20]
def r35_19 : List AOper := [oM 21 7, oO 22 (.bin .sub 3 (.tmp 21) (kI 1)), oM 6 22]
def r35_21 : List AOper := [oM 23 5, oM 4 23]
def tr35 : List (Nat × Tidy) := [tT 0 [0, 1], tT 1 [1, 5, 6], tT 2 [1, 5, 6, 11], tT 3 [1, 5, 6, 7], tT 4 [1, 5, 6, 7, 19], tT 5 [1, 5, 6], tT 6 [1, 5, 6], tT 7 [4]]
def tl35 : List (Nat × Tidy) := [tT 2 [1, 5, 6]]
def rs35 : List AResV := [.tmp 4]
def p35_0_0 : PT St := pS [sl 1 (aV false [(cD (dFn 36 [(dP [(dI .i64)] 0), (dP [(dI .i64)] 0), (dP [(dI .i64)] 0)]))]), sl 5 (aV false [(cD (dI .i64))]), sl 6 (aV false [(cD (dI .i64))])] []
def u35_0_0 {β : Type} (g : St → β) : Int → Int → Int → Int → Int → β := p35_0_0.unc g
def p35_0_1 : PT St := pS [sl 1 (aV false [(cD (dFn 36 [(dP [(dI .i64)] 0), (dP [(dI .i64)] 0), (dP [(dI .i64)] 0)]))]), sl 5 (aV false [(cD (dI .i64))]), sl 6 (aV false [(cD (dI .i64))]), sl 11 (aV false [(cD dB)])] []
def u35_0_1 {β : Type} (g : St → β) : Int → Int → Int → Int → Int → Bool → β := p35_0_1.unc g
def pr35_0_0 : PT (List RV) := pRs [pR false [rD (dI .i64)]]
def ur35_0_0 {β : Type} (g : List RV → β) : Int → β := pr35_0_0.unc g
def E35_0g (vf36_0 : Tf36_0) : EnvK := EnvK.of [⟨36, nt36, [⟨pa36_0, Fn36_0 vf36_0⟩]⟩] noSeq
noncomputable def E35_0 : EnvK := E35_0g f36_0
theorem eo35_0 : E35_0.Ok Try.prog := EnvK.of_ok noSeq_ok ⟨⟨io36_0, trivial⟩, trivial⟩
noncomputable def c35_0_7g  : MCode := (.seq (.seq (.region r35_10 [] (tO [1, 5, 6, 11])) (.cond (.tmp 11) .skip (.exit 0))) (.block 1 (.seq (.region r35_14 [] (tO [1, 5, 6, 7])) (.seq (.region r35_16 [] (tO [1, 5, 6, 7, 19])) (.cond (.tmp 19) (.region r35_18 [] (tO [1, 5, 6])) (.region r35_19 [] (tO [1, 5, 6])))))))
noncomputable def c35_0_7 : MCode := c35_0_7g 
theorem g35_0_7 : c35_0_7.Good Try.prog E35_0 sh35 := ⟨⟨trivial, ⟨trivial, trivial⟩⟩, ⟨trivial, ⟨trivial, ⟨trivial, trivial⟩⟩⟩⟩
--CODE 7 0
def S35_0_0g (vf36_0 : Tf36_0) (α : Type) (x5 x6 x7 x8 x9 : Int) (kn : Int → Int → Option α) (k1 : Int → Int → Bool → Option α) : Option α :=
 cK (decide (x8 < x9))
 (vf36_0 α (w64 (Int.tdiv (w64 ((w64 (x8 + x9)) + 1)) 2)) x5 x6 x7
 (fun x11 => cK x11
 (kn (w64 (Int.tdiv (w64 ((w64 (x8 + x9)) + 1)) 2)) x9)
 (kn x8 (w64 ((w64 (Int.tdiv (w64 ((w64 (x8 + x9)) + 1)) 2)) - 1)))))
 (k1 x8 x9 (decide (x8 < x9)))
noncomputable def S35_0_0 (α : Type) (x5 x6 x7 x8 x9 : Int) (kn : Int → Int → Option α) (k1 : Int → Int → Bool → Option α) : Option α := S35_0_0g f36_0 α x5 x6 x7 x8 x9 kn k1
noncomputable def R35_0_0 (α : Type) (x5 x6 x7 : Int) (k1 : Int → Int → Bool → Option α) : Nat → Int → Int → Option α
 | 0, _, _ => none
 | n + 1, x8, x9 => S35_0_0 α x5 x6 x7 x8 x9 (R35_0_0 α x5 x6 x7 k1 n) k1
noncomputable def L35_0_0 (α : Type) (x5 x6 x7 : Int) (k1 : Int → Int → Bool → Option α) (x8 x9 : Int) : Option α := R35_0_0 α x5 x6 x7 k1 fuel x8 x9
abbrev TL35_0_0 : Type 1 := (α : Type) → Int → Int → Int → (Int → Int → Bool → Option α) → Int → Int → Option α
def F35_0_0 (v : TL35_0_0) (α : Type) (K : Exit → St → Option α) : Int → Int → Int → Int → Int → Option α := fun x5 x6 x7 x8 x9 => v α x5 x6 x7 (fun (y1 : Int) (y2 : Int) (y3 : Bool) => u35_0_1 (K (.exit 0)) x5 x6 x7 y1 y2 y3) x8 x9
theorem r35_0_0g (vf36_0 : Tf36_0)  (α : Type) (K : Exit → St → Option α) (Kn : St → Option α) (x5 x6 x7 x8 x9 : Int) : u35_0_0 (fun σ => runM Try.prog (E35_0g vf36_0) sh35 (c35_0_7g ) (thenK (fun σ => tidyK td35_7 σ Kn) K) σ) x5 x6 x7 x8 x9 = S35_0_0g vf36_0 α x5 x6 x7 x8 x9 (fun x8 x9 => u35_0_0 Kn x5 x6 x7 x8 x9) (fun (y1 : Int) (y2 : Int) (y3 : Bool) => u35_0_1 (K (.exit 0)) x5 x6 x7 y1 y2 y3) := by kernel_rfl
theorem r35_0_0 (α : Type) (K : Exit → St → Option α) (Kn : St → Option α) (x5 x6 x7 x8 x9 : Int) : u35_0_0 (fun σ => runM Try.prog E35_0 sh35 c35_0_7 (thenK (fun σ => tidyK td35_7 σ Kn) K) σ) x5 x6 x7 x8 x9 = S35_0_0 α x5 x6 x7 x8 x9 (fun x8 x9 => u35_0_0 Kn x5 x6 x7 x8 x9) (fun (y1 : Int) (y2 : Int) (y3 : Bool) => u35_0_1 (K (.exit 0)) x5 x6 x7 y1 y2 y3) := r35_0_0g f36_0 α K Kn x5 x6 x7 x8 x9
theorem t35_0_0 (α : Type) (K : Exit → St → Option α) : ∀ (n : Nat) (x5 x6 x7 x8 x9 : Int), R35_0_0 α x5 x6 x7 (fun (y1 : Int) (y2 : Int) (y3 : Bool) => u35_0_1 (K (.exit 0)) x5 x6 x7 y1 y2 y3) n x8 x9 = u35_0_0 (loopT (runM Try.prog E35_0 sh35 c35_0_7) td35_7 K n) x5 x6 x7 x8 x9 := by
 intro n
 induction n with
 | zero => intros; rfl
 | succ n ih => intro x5 x6 x7 x8 x9; exact (congrArg (fun kn => S35_0_0 α x5 x6 x7 x8 x9 kn (fun (y1 : Int) (y2 : Int) (y3 : Bool) => u35_0_1 (K (.exit 0)) x5 x6 x7 y1 y2 y3)) (funext fun x8 => funext fun x9 => ih x5 x6 x7 x8 x9)).trans (r35_0_0 α K (loopT (runM Try.prog E35_0 sh35 c35_0_7) td35_7 K n) x5 x6 x7 x8 x9).symm
theorem m35_0_0 : ∀ (α : Type) (K : Exit → St → Option α), F35_0_0 L35_0_0 α K = p35_0_0.unc fun σ => loopT (runM Try.prog E35_0 sh35 c35_0_7) td35_7 K fuel σ := fun α K => funext fun x5 => funext fun x6 => funext fun x7 => funext fun x8 => funext fun x9 => t35_0_0 α K fuel x5 x6 x7 x8 x9
abbrev Tf35_0 : Type 1 := (α : Type) → Int → Int → Int → Int → (Int → Option α) → Option α
def f35_0g (vL35_0_0 : TL35_0_0) (α : Type) (x1 x2 x3 x4 : Int) (k1 : Int → Option α) : Option α :=
 vL35_0_0 α x2 x3 x4
 (fun x12 x13 x14 => k1 x12) 0 x1
noncomputable def f35_0 (α : Type) (x1 x2 x3 x4 : Int) (k1 : Int → Option α) : Option α := f35_0g L35_0_0 α x1 x2 x3 x4 k1
def pa35_0 : PT (List DV) := pA [pV false [(dI .i64)], pV false [(dFn 36 [(dP [(dI .i64)] 0), (dP [(dI .i64)] 0), (dP [(dI .i64)] 0)])]]
def Fn35_0 (v : Tf35_0) (α : Type) (k : List RV → Option α) : Int → Int → Int → Int → Option α := fun x1 x2 x3 x4 => v α x1 x2 x3 x4 (fun (y1 : Int) => ur35_0_0 k y1)
noncomputable def cm35_0g (vL35_0_0 : TL35_0_0) : MCode := (.seq (.region r35_2 [] (tO [0, 1])) (.seq (.region r35_4 [] (tO [1, 5, 6])) (.seq (.block 0 (.loop td35_7 [⟨p35_0_0, F35_0_0 vL35_0_0⟩] c35_0_7)) (.seq (.region r35_21 [] (tO [4])) .ret))))
noncomputable def cm35_0 : MCode := cm35_0g L35_0_0
theorem gm35_0 : cm35_0.Good Try.prog E35_0 sh35 := ⟨trivial, ⟨trivial, ⟨⟨g35_0_7, m35_0_0, trivial⟩, ⟨trivial, trivial⟩⟩⟩⟩
theorem fm35_0g (vf36_0 : Tf36_0) (vL35_0_0 : TL35_0_0) (α : Type) (k : List RV → Option α) : Fn35_0 (f35_0g vL35_0_0) α k = pa35_0.unc fun ds => fnM Try.prog (E35_0g vf36_0) sh35 (cm35_0g vL35_0_0) rs35 k ds := by kernel_rfl
theorem fm35_0 : ∀ (α : Type) (k : List RV → Option α), Fn35_0 f35_0 α k = pa35_0.unc fun ds => fnM Try.prog E35_0 sh35 cm35_0 rs35 k ds := fm35_0g f36_0 L35_0_0
theorem is35 : FnIs Try.prog 35 nt35 tr35 tl35 cm35_0.erase rs35 := ⟨Try.f35, Try.func35, rfl, by kernel_rfl, by kernel_rfl, by kernel_rfl⟩
theorem io35_0 : InstOk Try.prog 35 nt35 ⟨pa35_0, Fn35_0 f35_0⟩ := inst_ok eo35_0 followsTry is35 ⟨⟨sh35, cm35_0, by kernel_rfl, gm35_0, fm35_0⟩⟩
def p35_1_0 : PT St := pS [sl 1 (aV false [(cD (dFn 38 [(dP [(dI .i64)] 0)]))]), sl 5 (aV false [(cD (dI .i64))]), sl 6 (aV false [(cD (dI .i64))])] []
def u35_1_0 {β : Type} (g : St → β) : Int → Int → Int → β := p35_1_0.unc g
def p35_1_1 : PT St := pS [sl 1 (aV false [(cD (dFn 38 [(dP [(dI .i64)] 0)]))]), sl 5 (aV false [(cD (dI .i64))]), sl 6 (aV false [(cD (dI .i64))]), sl 11 (aV false [(cD dB)])] []
def u35_1_1 {β : Type} (g : St → β) : Int → Int → Int → Bool → β := p35_1_1.unc g
def pr35_1_0 : PT (List RV) := pRs [pR false [rD (dI .i64)]]
def ur35_1_0 {β : Type} (g : List RV → β) : Int → β := pr35_1_0.unc g
def E35_1g (vf38_0 : Tf38_0) : EnvK := EnvK.of [⟨38, nt38, [⟨pa38_0, Fn38_0 vf38_0⟩]⟩] noSeq
noncomputable def E35_1 : EnvK := E35_1g f38_0
theorem eo35_1 : E35_1.Ok Try.prog := EnvK.of_ok noSeq_ok ⟨⟨io38_0, trivial⟩, trivial⟩
noncomputable def c35_1_7g  : MCode := (.seq (.seq (.region r35_10 [] (tO [1, 5, 6, 11])) (.cond (.tmp 11) .skip (.exit 0))) (.block 1 (.seq (.region r35_14 [] (tO [1, 5, 6, 7])) (.seq (.region r35_16 [] (tO [1, 5, 6, 7, 19])) (.cond (.tmp 19) (.region r35_18 [] (tO [1, 5, 6])) (.region r35_19 [] (tO [1, 5, 6])))))))
noncomputable def c35_1_7 : MCode := c35_1_7g 
theorem g35_1_7 : c35_1_7.Good Try.prog E35_1 sh35 := ⟨⟨trivial, ⟨trivial, trivial⟩⟩, ⟨trivial, ⟨trivial, ⟨trivial, trivial⟩⟩⟩⟩
--CODE 7 0
def S35_1_0g (vf38_0 : Tf38_0) (α : Type) (x3 x4 x5 : Int) (kn : Int → Int → Option α) (k1 : Int → Int → Bool → Option α) : Option α :=
 cK (decide (x4 < x5))
 (vf38_0 α (w64 (Int.tdiv (w64 ((w64 (x4 + x5)) + 1)) 2)) x3
 (fun x7 => cK x7
 (kn (w64 (Int.tdiv (w64 ((w64 (x4 + x5)) + 1)) 2)) x5)
 (kn x4 (w64 ((w64 (Int.tdiv (w64 ((w64 (x4 + x5)) + 1)) 2)) - 1)))))
 (k1 x4 x5 (decide (x4 < x5)))
noncomputable def S35_1_0 (α : Type) (x3 x4 x5 : Int) (kn : Int → Int → Option α) (k1 : Int → Int → Bool → Option α) : Option α := S35_1_0g f38_0 α x3 x4 x5 kn k1
noncomputable def R35_1_0 (α : Type) (x3 : Int) (k1 : Int → Int → Bool → Option α) : Nat → Int → Int → Option α
 | 0, _, _ => none
 | n + 1, x4, x5 => S35_1_0 α x3 x4 x5 (R35_1_0 α x3 k1 n) k1
noncomputable def L35_1_0 (α : Type) (x3 : Int) (k1 : Int → Int → Bool → Option α) (x4 x5 : Int) : Option α := R35_1_0 α x3 k1 fuel x4 x5
abbrev TL35_1_0 : Type 1 := (α : Type) → Int → (Int → Int → Bool → Option α) → Int → Int → Option α
def F35_1_0 (v : TL35_1_0) (α : Type) (K : Exit → St → Option α) : Int → Int → Int → Option α := fun x3 x4 x5 => v α x3 (fun (y1 : Int) (y2 : Int) (y3 : Bool) => u35_1_1 (K (.exit 0)) x3 y1 y2 y3) x4 x5
theorem r35_1_0g (vf38_0 : Tf38_0)  (α : Type) (K : Exit → St → Option α) (Kn : St → Option α) (x3 x4 x5 : Int) : u35_1_0 (fun σ => runM Try.prog (E35_1g vf38_0) sh35 (c35_1_7g ) (thenK (fun σ => tidyK td35_7 σ Kn) K) σ) x3 x4 x5 = S35_1_0g vf38_0 α x3 x4 x5 (fun x4 x5 => u35_1_0 Kn x3 x4 x5) (fun (y1 : Int) (y2 : Int) (y3 : Bool) => u35_1_1 (K (.exit 0)) x3 y1 y2 y3) := by kernel_rfl
theorem r35_1_0 (α : Type) (K : Exit → St → Option α) (Kn : St → Option α) (x3 x4 x5 : Int) : u35_1_0 (fun σ => runM Try.prog E35_1 sh35 c35_1_7 (thenK (fun σ => tidyK td35_7 σ Kn) K) σ) x3 x4 x5 = S35_1_0 α x3 x4 x5 (fun x4 x5 => u35_1_0 Kn x3 x4 x5) (fun (y1 : Int) (y2 : Int) (y3 : Bool) => u35_1_1 (K (.exit 0)) x3 y1 y2 y3) := r35_1_0g f38_0 α K Kn x3 x4 x5
theorem t35_1_0 (α : Type) (K : Exit → St → Option α) : ∀ (n : Nat) (x3 x4 x5 : Int), R35_1_0 α x3 (fun (y1 : Int) (y2 : Int) (y3 : Bool) => u35_1_1 (K (.exit 0)) x3 y1 y2 y3) n x4 x5 = u35_1_0 (loopT (runM Try.prog E35_1 sh35 c35_1_7) td35_7 K n) x3 x4 x5 := by
 intro n
 induction n with
 | zero => intros; rfl
 | succ n ih => intro x3 x4 x5; exact (congrArg (fun kn => S35_1_0 α x3 x4 x5 kn (fun (y1 : Int) (y2 : Int) (y3 : Bool) => u35_1_1 (K (.exit 0)) x3 y1 y2 y3)) (funext fun x4 => funext fun x5 => ih x3 x4 x5)).trans (r35_1_0 α K (loopT (runM Try.prog E35_1 sh35 c35_1_7) td35_7 K n) x3 x4 x5).symm
theorem m35_1_0 : ∀ (α : Type) (K : Exit → St → Option α), F35_1_0 L35_1_0 α K = p35_1_0.unc fun σ => loopT (runM Try.prog E35_1 sh35 c35_1_7) td35_7 K fuel σ := fun α K => funext fun x3 => funext fun x4 => funext fun x5 => t35_1_0 α K fuel x3 x4 x5
abbrev Tf35_1 : Type 1 := (α : Type) → Int → Int → (Int → Option α) → Option α
def f35_1g (vL35_1_0 : TL35_1_0) (α : Type) (x1 x2 : Int) (k1 : Int → Option α) : Option α :=
 vL35_1_0 α x2
 (fun x8 x9 x10 => k1 x8) 0 x1
noncomputable def f35_1 (α : Type) (x1 x2 : Int) (k1 : Int → Option α) : Option α := f35_1g L35_1_0 α x1 x2 k1
def pa35_1 : PT (List DV) := pA [pV false [(dI .i64)], pV false [(dFn 38 [(dP [(dI .i64)] 0)])]]
def Fn35_1 (v : Tf35_1) (α : Type) (k : List RV → Option α) : Int → Int → Option α := fun x1 x2 => v α x1 x2 (fun (y1 : Int) => ur35_1_0 k y1)
noncomputable def cm35_1g (vL35_1_0 : TL35_1_0) : MCode := (.seq (.region r35_2 [] (tO [0, 1])) (.seq (.region r35_4 [] (tO [1, 5, 6])) (.seq (.block 0 (.loop td35_7 [⟨p35_1_0, F35_1_0 vL35_1_0⟩] c35_1_7)) (.seq (.region r35_21 [] (tO [4])) .ret))))
noncomputable def cm35_1 : MCode := cm35_1g L35_1_0
theorem gm35_1 : cm35_1.Good Try.prog E35_1 sh35 := ⟨trivial, ⟨trivial, ⟨⟨g35_1_7, m35_1_0, trivial⟩, ⟨trivial, trivial⟩⟩⟩⟩
theorem fm35_1g (vf38_0 : Tf38_0) (vL35_1_0 : TL35_1_0) (α : Type) (k : List RV → Option α) : Fn35_1 (f35_1g vL35_1_0) α k = pa35_1.unc fun ds => fnM Try.prog (E35_1g vf38_0) sh35 (cm35_1g vL35_1_0) rs35 k ds := by kernel_rfl
theorem fm35_1 : ∀ (α : Type) (k : List RV → Option α), Fn35_1 f35_1 α k = pa35_1.unc fun ds => fnM Try.prog E35_1 sh35 cm35_1 rs35 k ds := fm35_1g f38_0 L35_1_0
theorem io35_1 : InstOk Try.prog 35 nt35 ⟨pa35_1, Fn35_1 f35_1⟩ := inst_ok eo35_1 followsTry is35 ⟨⟨sh35, cm35_1, by kernel_rfl, gm35_1, fm35_1⟩⟩
abbrev nt26 : Nat := 78
def sh26 : List (Nat × List Sh) := [(9, [.int .i64, .int .i64]), (14, [.sl]), (19, [.sl]), (22, [.sl]), (28, [.sl]), (31, [.sl]), (37, [.sl]), (41, [.sl]), (46, [.int .i64]), (47, [.int .i64]), (50, [.sl]), (52, [.flt .f32]), (53, [.flt .f32]), (55, [.sl]), (57, [.flt .f32]), (58, [.flt .f32]), (69, [.sl]), (72, [.int .i64]), (73, [.int .i64])]
def r26_2 : List AOper := [oO 1 (.box (.tmp 0)), oO 2 (.mv (kI 0)), oO 3 (.mv (kI 0))]
def r26_6 : List AOper := [oO 8 (.faddr 5 (.tmp 1)), oO 9 (.load true 2 (.tmp 8)), oO 10 (.build [(cI 0), (cI 0)] []), oO 11 (.bin .neq 24 (.tmp 9) (.tmp 10)), oM 7 11]
def r26_9 : List AOper := [oO 2 (.mv (kI 0)), oO 3 (.mv (kI 13))]
def r26_11 : List AOper := [oO 13 (.faddr 2 (.tmp 1)), oO 14 (.load false 1 (.tmp 13)), oO 15 (.len (.tmp 14)), oO 16 (.bin .eql 3 (.tmp 15) (kI 0)), oM 17 16, oG 18 (.faddr 3 (.tmp 1)) 17 false, oG 19 (.load false 1 (.tmp 18)) 17 false, oG 20 (.len (.tmp 19)) 17 false, oG 21 (.faddr 2 (.tmp 1)) 17 false, oG 22 (.load false 1 (.tmp 21)) 17 false, oG 23 (.len (.tmp 22)) 17 false, oG 24 (.bin .neq 3 (.tmp 20) (.tmp 23)) 17 false, oO 25 (.pick (.tmp 17) (.const (.bool true)) (.tmp 24)), oM 26 25, oG 27 (.faddr 4 (.tmp 1)) 26 false, oG 28 (.load false 1 (.tmp 27)) 26 false, oG 29 (.len (.tmp 28)) 26 false, oG 30 (.faddr 2 (.tmp 1)) 26 false, oG 31 (.load false 1 (.tmp 30)) 26 false, oG 32 (.len (.tmp 31)) 26 false, oG 33 (.bin .neq 3 (.tmp 29) (.tmp 32)) 26 false, oO 34 (.pick (.tmp 26) (.const (.bool true)) (.tmp 33)), oM 12 34]
def r26_14 : List AOper := [oO 2 (.mv (kI 0)), oO 3 (.mv (kI 12))]
def r26_16 : List AOper := [oO 36 (.faddr 2 (.tmp 1)), oO 37 (.load false 1 (.tmp 36)), oO 38 (.len (.tmp 37)), oO 39 (.bin .gtr 3 (.tmp 38) (kI 64)), oM 35 39]
def r26_19 : List AOper := [oO 2 (.mv (kI 0)), oO 3 (.mv (kI 8))]
def r26_22 : List AOper := [oO 40 (.faddr 2 (.tmp 1)), oO 41 (.load false 1 (.tmp 40)), oO 42 (.len (.tmp 41)), oO 43 (.mv (kI 0))]
def td26_24 : Option Tidy := (some ⟨[1, 41, 42, 43], true, [⟨false, 41, 0, 20041, 1⟩, ⟨true, 1, 2, 30102, 1⟩, ⟨true, 1, 3, 30103, 1⟩, ⟨true, 1, 4, 30104, 1⟩], []⟩)
def r26_26 : List AOper := [oO 44 (.bin .lss 3 (.tmp 43) (.tmp 42))]
def r26_32 : List AOper := [oM 45 43, oO 46 (.iaddr 1 none (.tmp 41) (.tmp 43)), oO 47 (.load false 1 (.tmp 46)), oM 4 45, oM 5 47]
def r26_35 : List AOper := [oM 48 5, oO 49 (.faddr 3 (.tmp 1)), oO 50 (.load false 1 (.tmp 49)), oM 51 4, oO 52 (.iaddr 1 none (.tmp 50) (.tmp 51)), oO 53 (.load false 1 (.tmp 52)), oO 54 (.faddr 4 (.tmp 1)), oO 55 (.load false 1 (.tmp 54)), oM 56 4, oO 57 (.iaddr 1 none (.tmp 55) (.tmp 56)), oO 58 (.load false 1 (.tmp 57)), oO 59 (.call 56 [(.tmp 48), (.tmp 53), (.tmp 58)]), oM 6 59]
def r26_37 : List AOper := [oM 60 6, oO 61 (.bin .neq 29 (.tmp 60) (kI 0))]
def r26_40 : List AOper := [oM 62 4, oM 63 6, oM 2 62, oM 3 63]
def r26_42 : List AOper := [oM 64 4, oO 65 (.bin .gtr 3 (.tmp 64) (kI 0)), oM 66 65, oG 67 (.mv (.tmp 5)) 66 true, oG 68 (.faddr 2 (.tmp 1)) 66 true, oG 69 (.load false 1 (.tmp 68)) 66 true, oG 70 (.mv (.tmp 4)) 66 true, oG 71 (.bin .sub 3 (.tmp 70) (kI 1)) 66 true, oG 72 (.iaddr 1 none (.tmp 69) (.tmp 71)) 66 true, oG 73 (.load false 1 (.tmp 72)) 66 true, oG 74 (.bin .leq 3 (.tmp 67) (.tmp 73)) 66 true, oO 75 (.pick (.tmp 66) (.tmp 74) (.const (.bool false)))]
def r26_45 : List AOper := [oM 76 4, oM 2 76, oO 3 (.mv (kI 10))]
def r26_46 : List AOper := [oO 77 (.bin .add 3 (.tmp 43) (kI 1)), oM 43 77]
def r26_48 : List AOper := [oO 2 (.mv (kI 0)), oO 3 (.mv (kI 0))]
def tr26 : List (Nat × Tidy) := [tT 0 [1], tT 1 [1, 7], tT 2 [2, 3], tT 3 [1, 12], tT 4 [2, 3], tT 5 [1, 35], tT 6 [2, 3], tT 7 [1, 41, 42, 43], tT 8 [1, 41, 42, 43, 44], tT 9 [1, 4, 5, 41, 42, 43], tT 10 [1, 4, 5, 6, 41, 42, 43], tT 11 [1, 4, 5, 6, 41, 42, 43, 61], tT 12 [2, 3], tT 13 [1, 4, 41, 42, 43, 75], tT 14 [2, 3], tT 15 [1, 41, 42, 43], tT 16 [2, 3]]
def tl26 : List (Nat × Tidy) := [(8, ⟨[1, 41, 42, 43], true, [⟨false, 41, 0, 20041, 1⟩, ⟨true, 1, 2, 30102, 1⟩, ⟨true, 1, 3, 30103, 1⟩, ⟨true, 1, 4, 30104, 1⟩], []⟩)]
def rs26 : List AResV := [.tmp 2, .tmp 3]
def p26_0_0 : PT St := pS [sl 1 (aV false [(cPtr 1 0)]), sl 7 (aV false [(cD dB)])] [eBox 1 [(cD dS), (cD (dI .i64)), (cD dL), (cD dL), (cD dL), (cD (dI .i64)), (cD (dI .i64))]]
def u26_0_0 {β : Type} (g : St → β) : Bool → ByteArray → Int → Rows → Rows → Rows → Int → Int → β := p26_0_0.unc g
def p26_0_1 : PT St := pS [sl 1 (aV false [(cPtr 1 0)]), sl 12 (aV false [(cD dB)])] [eBox 1 [(cD dS), (cD (dI .i64)), (cD dL), (cD dL), (cD dL), (cD (dI .i64)), (cD (dI .i64))]]
def u26_0_1 {β : Type} (g : St → β) : Bool → ByteArray → Int → Rows → Rows → Rows → Int → Int → β := p26_0_1.unc g
def p26_0_2 : PT St := pS [sl 1 (aV false [(cPtr 1 0)]), sl 41 (aV false [(cD dL)]), sl 42 (aV false [(cD (dI .i64))]), sl 43 (aV false [(cD (dI .i64))])] [eBox 1 [(cD dS), (cD (dI .i64)), (cD dL), (cD dL), (cD dL), (cD (dI .i64)), (cD (dI .i64))]]
def u26_0_2 {β : Type} (g : St → β) : Rows → Int → Int → ByteArray → Int → Rows → Rows → Rows → Int → Int → β := p26_0_2.unc g
def p26_0_3 : PT St := pS [sl 2 (aV false [(cD (dI .i64))]), sl 3 (aV false [(cD (dI .i64))])] []
def u26_0_3 {β : Type} (g : St → β) : Int → Int → β := p26_0_3.unc g
def p26_0_4 : PT St := pS [sl 1 (aV false [(cPtr 1 0)]), sl 41 (aV false [(cD dL)]), sl 42 (aV false [(cD (dI .i64))]), sl 43 (aV false [(cD (dI .i64))]), sl 44 (aV false [(cD dB)])] [eBox 1 [(cD dS), (cD (dI .i64)), (cD dL), (cD dL), (cD dL), (cD (dI .i64)), (cD (dI .i64))]]
def u26_0_4 {β : Type} (g : St → β) : Rows → Int → Int → Bool → ByteArray → Int → Rows → Rows → Rows → Int → Int → β := p26_0_4.unc g
def pr26_0_0 : PT (List RV) := pRs [pR false [rD (dI .i64)], pR false [rD (dI .i64)]]
def ur26_0_0 {β : Type} (g : List RV → β) : Int → Int → β := pr26_0_0.unc g
def E26_0g (vf56_0 : Tf56_0) : EnvK := EnvK.of [⟨56, nt56, [⟨pa56_0, Fn56_0 vf56_0⟩]⟩] noSeq
noncomputable def E26_0 : EnvK := E26_0g f56_0
theorem eo26_0 : E26_0.Ok Try.prog := EnvK.of_ok noSeq_ok ⟨⟨io56_0, trivial⟩, trivial⟩
noncomputable def c26_0_24g  : MCode := (.seq (.region r26_26 [] (tO [1, 41, 42, 43, 44])) (.seq (.cond (.tmp 44) .skip (.exit 1)) (.seq (.block 2 (.seq (.region r26_32 [] (tO [1, 4, 5, 41, 42, 43])) (.seq (.seq (.region r26_35 [] (tO [1, 4, 5, 6, 41, 42, 43])) (.seq (.region r26_37 [] (tO [1, 4, 5, 6, 41, 42, 43, 61])) (.cond (.tmp 61) (.seq (.region r26_40 [] (tO [2, 3])) .ret) .skip))) (.seq (.region r26_42 [] (tO [1, 4, 41, 42, 43, 75])) (.cond (.tmp 75) (.seq (.region r26_45 [] (tO [2, 3])) .ret) .skip))))) (.region r26_46 [] (tO [1, 41, 42, 43])))))
noncomputable def c26_0_24 : MCode := c26_0_24g 
theorem g26_0_24 : c26_0_24.Good Try.prog E26_0 sh26 := ⟨trivial, ⟨⟨trivial, trivial⟩, ⟨⟨trivial, ⟨⟨trivial, ⟨trivial, ⟨⟨trivial, trivial⟩, trivial⟩⟩⟩, ⟨trivial, ⟨⟨trivial, trivial⟩, trivial⟩⟩⟩⟩, trivial⟩⟩⟩
--CODE 24 0
def S26_0_1g (vf56_0 : Tf56_0) (α : Type) (x19 : Rows) (x20 : Int) (x24 x25 x26 : Rows) (x21 : Int) (kn : Int → Option α) (k1 : Int → Int → Option α) (k2 : Int → Bool → Option α) : Option α :=
 cK (decide (x21 < x20))
 (rowK x19 x21 [.int .i64]
 (fun x30 => rowK x25 x21 [.flt .f32]
 (fun x31 => rowK x26 x21 [.flt .f32]
 (fun x32 => vf56_0 α x30 x31 x32
 (fun x33 => cK (x33 != 0)
 (k1 x21 x33)
 (cK (decide (0 < x21))
 (rowK x24 (w64 (x21 - 1)) [.int .i64]
 (fun x34 => cK (decide (x30 ≤ x34))
 (k1 x21 10)
 (kn (w64 (x21 + 1)))))
 (kn (w64 (x21 + 1)))))))))
 (k2 x21 (decide (x21 < x20)))
noncomputable def S26_0_1 (α : Type) (x19 : Rows) (x20 : Int) (x24 x25 x26 : Rows) (x21 : Int) (kn : Int → Option α) (k1 : Int → Int → Option α) (k2 : Int → Bool → Option α) : Option α := S26_0_1g f56_0 α x19 x20 x24 x25 x26 x21 kn k1 k2
noncomputable def R26_0_1 (α : Type) (x19 : Rows) (x20 : Int) (x24 x25 x26 : Rows) (k1 : Int → Int → Option α) (k2 : Int → Bool → Option α) : Nat → Int → Option α
 | 0, _ => none
 | n + 1, x21 => S26_0_1 α x19 x20 x24 x25 x26 x21 (R26_0_1 α x19 x20 x24 x25 x26 k1 k2 n) k1 k2
noncomputable def L26_0_1 (α : Type) (x19 : Rows) (x20 : Int) (x24 x25 x26 : Rows) (k1 : Int → Int → Option α) (k2 : Int → Bool → Option α) (x21 : Int) : Option α := R26_0_1 α x19 x20 x24 x25 x26 k1 k2 fuel x21
abbrev TL26_0_1 : Type 1 := (α : Type) → Rows → Int → Rows → Rows → Rows → (Int → Int → Option α) → (Int → Bool → Option α) → Int → Option α
def F26_0_1 (v : TL26_0_1) (α : Type) (K : Exit → St → Option α) : Rows → Int → Int → ByteArray → Int → Rows → Rows → Rows → Int → Int → Option α := fun x19 x20 x21 x22 x23 x24 x25 x26 x27 x28 => v α x19 x20 x24 x25 x26 (fun (y1 : Int) (y2 : Int) => u26_0_3 (K .ret) y1 y2) (fun (y1 : Int) (y2 : Bool) => u26_0_4 (K (.exit 1)) x19 x20 y1 y2 x22 x23 x24 x25 x26 x27 x28) x21
theorem r26_0_1g (vf56_0 : Tf56_0)  (α : Type) (K : Exit → St → Option α) (Kn : St → Option α) (x19 : Rows) (x20 x21 : Int) (x22 : ByteArray) (x23 : Int) (x24 x25 x26 : Rows) (x27 x28 : Int) : u26_0_2 (fun σ => runM Try.prog (E26_0g vf56_0) sh26 (c26_0_24g ) (thenK (fun σ => tidyK td26_24 σ Kn) K) σ) x19 x20 x21 x22 x23 x24 x25 x26 x27 x28 = S26_0_1g vf56_0 α x19 x20 x24 x25 x26 x21 (fun x21 => u26_0_2 Kn x19 x20 x21 x22 x23 x24 x25 x26 x27 x28) (fun (y1 : Int) (y2 : Int) => u26_0_3 (K .ret) y1 y2) (fun (y1 : Int) (y2 : Bool) => u26_0_4 (K (.exit 1)) x19 x20 y1 y2 x22 x23 x24 x25 x26 x27 x28) := by kernel_rfl
theorem r26_0_1 (α : Type) (K : Exit → St → Option α) (Kn : St → Option α) (x19 : Rows) (x20 x21 : Int) (x22 : ByteArray) (x23 : Int) (x24 x25 x26 : Rows) (x27 x28 : Int) : u26_0_2 (fun σ => runM Try.prog E26_0 sh26 c26_0_24 (thenK (fun σ => tidyK td26_24 σ Kn) K) σ) x19 x20 x21 x22 x23 x24 x25 x26 x27 x28 = S26_0_1 α x19 x20 x24 x25 x26 x21 (fun x21 => u26_0_2 Kn x19 x20 x21 x22 x23 x24 x25 x26 x27 x28) (fun (y1 : Int) (y2 : Int) => u26_0_3 (K .ret) y1 y2) (fun (y1 : Int) (y2 : Bool) => u26_0_4 (K (.exit 1)) x19 x20 y1 y2 x22 x23 x24 x25 x26 x27 x28) := r26_0_1g f56_0 α K Kn x19 x20 x21 x22 x23 x24 x25 x26 x27 x28
theorem t26_0_1 (α : Type) (K : Exit → St → Option α) : ∀ (n : Nat) (x19 : Rows) (x20 x21 : Int) (x22 : ByteArray) (x23 : Int) (x24 x25 x26 : Rows) (x27 x28 : Int), R26_0_1 α x19 x20 x24 x25 x26 (fun (y1 : Int) (y2 : Int) => u26_0_3 (K .ret) y1 y2) (fun (y1 : Int) (y2 : Bool) => u26_0_4 (K (.exit 1)) x19 x20 y1 y2 x22 x23 x24 x25 x26 x27 x28) n x21 = u26_0_2 (loopT (runM Try.prog E26_0 sh26 c26_0_24) td26_24 K n) x19 x20 x21 x22 x23 x24 x25 x26 x27 x28 := by
 intro n
 induction n with
 | zero => intros; rfl
 | succ n ih => intro x19 x20 x21 x22 x23 x24 x25 x26 x27 x28; exact (congrArg (fun kn => S26_0_1 α x19 x20 x24 x25 x26 x21 kn (fun (y1 : Int) (y2 : Int) => u26_0_3 (K .ret) y1 y2) (fun (y1 : Int) (y2 : Bool) => u26_0_4 (K (.exit 1)) x19 x20 y1 y2 x22 x23 x24 x25 x26 x27 x28)) (funext fun x21 => ih x19 x20 x21 x22 x23 x24 x25 x26 x27 x28)).trans (r26_0_1 α K (loopT (runM Try.prog E26_0 sh26 c26_0_24) td26_24 K n) x19 x20 x21 x22 x23 x24 x25 x26 x27 x28).symm
theorem m26_0_1 : ∀ (α : Type) (K : Exit → St → Option α), F26_0_1 L26_0_1 α K = p26_0_2.unc fun σ => loopT (runM Try.prog E26_0 sh26 c26_0_24) td26_24 K fuel σ := fun α K => funext fun x19 => funext fun x20 => funext fun x21 => funext fun x22 => funext fun x23 => funext fun x24 => funext fun x25 => funext fun x26 => funext fun x27 => funext fun x28 => t26_0_1 α K fuel x19 x20 x21 x22 x23 x24 x25 x26 x27 x28
noncomputable def c26_0_10g  : MCode := (.region r26_11 [] (tO [1, 12]))
noncomputable def c26_0_10 : MCode := c26_0_10g 
theorem g26_0_10 : c26_0_10.Good Try.prog E26_0 sh26 := trivial
--CODE 10 0
abbrev TJ26_0_0 : Type 1 := (α : Type) → Rows → Rows → Rows → (Bool → Option α) → Option α
def J26_0_0g  (α : Type) (x11 x12 x13 : Rows) (k1 : Bool → Option α) : Option α :=
 cK (((List.length x11 : Nat) : Int) == 0)
 (k1 true)
 (cK (((List.length x12 : Nat) : Int) != ((List.length x11 : Nat) : Int))
 (k1 true)
 (k1 (((List.length x13 : Nat) : Int) != ((List.length x11 : Nat) : Int))))
noncomputable def J26_0_0 (α : Type) (x11 x12 x13 : Rows) (k1 : Bool → Option α) : Option α := J26_0_0g  α x11 x12 x13 k1
def F26_0_0 (v : TJ26_0_0) (α : Type) (K : Exit → St → Option α) : Bool → ByteArray → Int → Rows → Rows → Rows → Int → Int → Option α := fun x8 x9 x10 x11 x12 x13 x14 x15 => v α x11 x12 x13 (fun (y1 : Bool) => u26_0_1 (K .normal) y1 x9 x10 x11 x12 x13 x14 x15) 
theorem m26_0_0g (vf56_0 : Tf56_0)  (α : Type) (K : Exit → St → Option α) : F26_0_0 (J26_0_0g ) α K = p26_0_0.unc fun σ => runM Try.prog (E26_0g vf56_0) sh26 (c26_0_10g ) K σ := by kernel_rfl
theorem m26_0_0 : ∀ (α : Type) (K : Exit → St → Option α), F26_0_0 J26_0_0 α K = p26_0_0.unc fun σ => runM Try.prog E26_0 sh26 c26_0_10 K σ := m26_0_0g f56_0
abbrev Tf26_0 : Type 1 := (α : Type) → ByteArray → Int → Rows → Rows → Rows → Int → Int → (Int → Int → Option α) → Option α
def f26_0g (vJ26_0_0 : TJ26_0_0) (vL26_0_1 : TL26_0_1) (α : Type) (x1 : ByteArray) (x2 : Int) (x3 x4 x5 : Rows) (x6 x7 : Int) (k1 : Int → Int → Option α) : Option α :=
 cK (!((x6 == 0) && ((x7 == 0) && true)))
 (k1 0 13)
 (vJ26_0_0 α x3 x4 x5
 (fun x17 => cK x17
 (k1 0 12)
 (cK (decide (64 < ((List.length x3 : Nat) : Int)))
 (k1 0 8)
 (vL26_0_1 α x3 ((List.length x3 : Nat) : Int) x3 x4 x5
 (fun x35 x36 => k1 x35 x36)
 (fun x37 x38 => k1 0 0) 0))))
noncomputable def f26_0 (α : Type) (x1 : ByteArray) (x2 : Int) (x3 x4 x5 : Rows) (x6 x7 : Int) (k1 : Int → Int → Option α) : Option α := f26_0g J26_0_0 L26_0_1 α x1 x2 x3 x4 x5 x6 x7 k1
def pa26_0 : PT (List DV) := pA [pV true [dS, (dI .i64), dL, dL, dL, (dI .i64), (dI .i64)]]
def Fn26_0 (v : Tf26_0) (α : Type) (k : List RV → Option α) : ByteArray → Int → Rows → Rows → Rows → Int → Int → Option α := fun x1 x2 x3 x4 x5 x6 x7 => v α x1 x2 x3 x4 x5 x6 x7 (fun (y1 : Int) (y2 : Int) => ur26_0_0 k y1 y2)
noncomputable def cm26_0g (vJ26_0_0 : TJ26_0_0) (vL26_0_1 : TL26_0_1) : MCode := (.seq (.region r26_2 [] (tO [1])) (.seq (.block 0 (.seq (.region r26_6 [] (tO [1, 7])) (.cond (.tmp 7) (.seq (.region r26_9 [] (tO [2, 3])) .ret) (.seq (.mark [⟨p26_0_0, F26_0_0 vJ26_0_0⟩] c26_0_10) (.cond (.tmp 12) (.seq (.region r26_14 [] (tO [2, 3])) .ret) (.seq (.region r26_16 [] (tO [1, 35])) (.cond (.tmp 35) (.seq (.region r26_19 [] (tO [2, 3])) .ret) .skip))))))) (.seq (.seq (.region r26_22 [] (tO [1, 41, 42, 43])) (.block 1 (.loop td26_24 [⟨p26_0_2, F26_0_1 vL26_0_1⟩] c26_0_24))) (.seq (.region r26_48 [] (tO [2, 3])) .ret))))
noncomputable def cm26_0 : MCode := cm26_0g J26_0_0 L26_0_1
theorem gm26_0 : cm26_0.Good Try.prog E26_0 sh26 := ⟨trivial, ⟨⟨trivial, ⟨⟨trivial, trivial⟩, ⟨⟨g26_0_10, m26_0_0, trivial⟩, ⟨⟨trivial, trivial⟩, ⟨trivial, ⟨⟨trivial, trivial⟩, trivial⟩⟩⟩⟩⟩⟩, ⟨⟨trivial, ⟨g26_0_24, m26_0_1, trivial⟩⟩, ⟨trivial, trivial⟩⟩⟩⟩
theorem fm26_0g (vf56_0 : Tf56_0) (vJ26_0_0 : TJ26_0_0) (vL26_0_1 : TL26_0_1) (α : Type) (k : List RV → Option α) : Fn26_0 (f26_0g vJ26_0_0 vL26_0_1) α k = pa26_0.unc fun ds => fnM Try.prog (E26_0g vf56_0) sh26 (cm26_0g vJ26_0_0 vL26_0_1) rs26 k ds := by kernel_rfl
theorem fm26_0 : ∀ (α : Type) (k : List RV → Option α), Fn26_0 f26_0 α k = pa26_0.unc fun ds => fnM Try.prog E26_0 sh26 cm26_0 rs26 k ds := fm26_0g f56_0 J26_0_0 L26_0_1
theorem is26 : FnIs Try.prog 26 nt26 tr26 tl26 cm26_0.erase rs26 := ⟨Try.f26, Try.func26, rfl, by kernel_rfl, by kernel_rfl, by kernel_rfl⟩
theorem io26_0 : InstOk Try.prog 26 nt26 ⟨pa26_0, Fn26_0 f26_0⟩ := inst_ok eo26_0 followsTry is26 ⟨⟨sh26, cm26_0, by kernel_rfl, gm26_0, fm26_0⟩⟩
abbrev nt12 : Nat := 54
def sh12 : List (Nat × List Sh) := [(12, [.int .i64]), (13, [.int .i64]), (27, [.int .i64]), (29, [.int .i64]), (32, [.int .i64]), (34, [.int .i64]), (38, [.int .i64]), (40, [.int .i64]), (43, [.int .i64]), (45, [.int .i64])]
def r12_2 : List AOper := [oO 3 (.box (.tmp 0)), oO 4 (.box (.tmp 1)), oO 6 (.alloc [(cI 0), (cI 0)]), oO 7 (.mv (kI 0))]
def r12_5 : List AOper := [oO 12 (.load false 1 (.tmp 3)), oO 13 (.load false 1 (.tmp 4)), oO 14 (.bslice 1 2 [(.v (.int .i64 0))] [(0, (.tmp 12)), (1, (.tmp 13))]), oO 15 (.call 33 [(.tmp 14)]), oM 8 15]
def r12_7 : List AOper := [oM 16 8, oO 17 (.bin .neq 29 (.tmp 16) (kI 0))]
def r12_10 : List AOper := [oO 18 (.build [(cI 0), (cI 0)] []), oM 19 8, oD (.store 2 (.tmp 6) (.tmp 18)), oM 7 19]
def r12_13 : List AOper := [oM 20 2, oO 21 (.call 34 [(.tmp 20), (kI 0), (kI 10000)]), oO 22 (.pure (oB (.unOp .not 4 (.tmp 21)) 4))]
def r12_16 : List AOper := [oO 23 (.build [(cI 0), (cI 0)] []), oD (.store 2 (.tmp 6) (.tmp 23)), oO 7 (.mv (kI 2))]
def r12_18 : List AOper := [oM 24 2, oO 25 (.bin .sub 3 (kI 10000) (.tmp 24)), oM 9 25]
def r12_20 : List AOper := [oM 26 2, oO 27 (.load false 1 (.tmp 4)), oO 28 (.bin .mul 3 (.tmp 26) (.tmp 27)), oO 29 (.load false 1 (.tmp 4)), oO 30 (.bin .mul 3 (.tmp 28) (.tmp 29)), oM 31 9, oO 32 (.load false 1 (.tmp 3)), oO 33 (.bin .mul 3 (.tmp 31) (.tmp 32)), oO 34 (.load false 1 (.tmp 3)), oO 35 (.bin .mul 3 (.tmp 33) (.tmp 34)), oO 36 (.bin .add 3 (.tmp 30) (.tmp 35)), oM 37 2, oO 38 (.load false 1 (.tmp 3)), oO 39 (.bin .mul 3 (.tmp 37) (.tmp 38)), oO 40 (.load false 1 (.tmp 3)), oO 41 (.bin .mul 3 (.tmp 39) (.tmp 40)), oM 42 9, oO 43 (.load false 1 (.tmp 4)), oO 44 (.bin .mul 3 (.tmp 42) (.tmp 43)), oO 45 (.load false 1 (.tmp 4)), oO 46 (.bin .mul 3 (.tmp 44) (.tmp 45)), oO 47 (.bin .add 3 (.tmp 41) (.tmp 46)), oO 10 (.alloc [(cI 0)]), oO 11 (.alloc [(cI 0)]), oD (.store 1 (.tmp 10) (.tmp 36)), oD (.store 1 (.tmp 11) (.tmp 47))]
def r12_22 : List AOper := [oO 48 (.mkfn 36 [(.tmp 10), (.tmp 3), (.tmp 4)]), oO 49 (.call 35 [(kI 80000), (.tmp 48)]), oO 50 (.mkfn 38 [(.tmp 11)]), oO 51 (.call 35 [(kI 80000), (.tmp 50)]), oO 52 (.bin .add 3 (kI 1) (.tmp 51)), oO 53 (.build [(cI 0), (cI 0)] [(0, 1, (.tmp 49)), (1, 1, (.tmp 52))]), oD (.store 2 (.tmp 6) (.tmp 53)), oO 7 (.mv (kI 0))]
def tr12 : List (Nat × Tidy) := [tT 0 [2, 3, 4, 6], tT 1 [2, 3, 4, 6, 8], tT 2 [2, 3, 4, 6, 8, 17], tT 3 [6, 7], tT 4 [2, 3, 4, 6, 22], tT 5 [6, 7], tT 6 [2, 3, 4, 6, 9], tT 7 [3, 4, 6, 10, 11], tT 8 [6, 7]]
def tl12 : List (Nat × Tidy) := []
def rs12 : List AResV := [.cell 6 true 2, .tmp 7]
def pr12_0_0 : PT (List RV) := pRs [pR true [rD (dI .i64), rD (dI .i64)], pR false [rD (dI .i64)]]
def ur12_0_0 {β : Type} (g : List RV → β) : Int → Int → Int → β := pr12_0_0.unc g
def E12_0g (vf33_0 : Tf33_0) (vf34_0 : Tf34_0) (vf35_0 : Tf35_0) (vf35_1 : Tf35_1) : EnvK := EnvK.of [⟨33, nt33, [⟨pa33_0, Fn33_0 vf33_0⟩]⟩, ⟨34, nt34, [⟨pa34_0, Fn34_0 vf34_0⟩]⟩, ⟨35, nt35, [⟨pa35_0, Fn35_0 vf35_0⟩, ⟨pa35_1, Fn35_1 vf35_1⟩]⟩] noSeq
noncomputable def E12_0 : EnvK := E12_0g f33_0 f34_0 f35_0 f35_1
theorem eo12_0 : E12_0.Ok Try.prog := EnvK.of_ok noSeq_ok ⟨⟨io33_0, trivial⟩, ⟨io34_0, trivial⟩, ⟨io35_0, io35_1, trivial⟩, trivial⟩
abbrev Tf12_0 : Type 1 := (α : Type) → Int → Int → Int → (Int → Int → Int → Option α) → Option α
def f12_0g (vf33_0 : Tf33_0) (vf34_0 : Tf34_0) (vf35_0 : Tf35_0) (vf35_1 : Tf35_1) (α : Type) (x1 x2 x3 : Int) (k1 : Int → Int → Int → Option α) : Option α :=
 vf33_0 α [[DC.v (.int .i64 x1)], [DC.v (.int .i64 x2)]]
 (fun x4 => cK (x4 != 0)
 (k1 0 0 x4)
 (vf34_0 α x3 0 10000
 (fun x5 => cK (!x5)
 (k1 0 0 2)
 (vf35_0 α 80000 (w64 ((w64 ((w64 (x3 * x2)) * x2)) + (w64 ((w64 ((w64 (10000 - x3)) * x1)) * x1)))) x1 x2
 (fun x6 => vf35_1 α 80000 (w64 ((w64 ((w64 (x3 * x1)) * x1)) + (w64 ((w64 ((w64 (10000 - x3)) * x2)) * x2))))
 (fun x7 => k1 x6 (w64 (1 + x7)) 0))))))
noncomputable def f12_0 (α : Type) (x1 x2 x3 : Int) (k1 : Int → Int → Int → Option α) : Option α := f12_0g f33_0 f34_0 f35_0 f35_1 α x1 x2 x3 k1
def pa12_0 : PT (List DV) := pA [pV false [(dI .i64)], pV false [(dI .i64)], pV false [(dI .i64)]]
def Fn12_0 (v : Tf12_0) (α : Type) (k : List RV → Option α) : Int → Int → Int → Option α := fun x1 x2 x3 => v α x1 x2 x3 (fun (y1 : Int) (y2 : Int) (y3 : Int) => ur12_0_0 k y1 y2 y3)
noncomputable def cm12_0g  : MCode := (.seq (.region r12_2 [] (tO [2, 3, 4, 6])) (.seq (.seq (.region r12_5 [] (tO [2, 3, 4, 6, 8])) (.seq (.region r12_7 [] (tO [2, 3, 4, 6, 8, 17])) (.cond (.tmp 17) (.seq (.region r12_10 [] (tO [6, 7])) .ret) .skip))) (.seq (.seq (.region r12_13 [] (tO [2, 3, 4, 6, 22])) (.cond (.tmp 22) (.seq (.region r12_16 [] (tO [6, 7])) .ret) .skip)) (.seq (.region r12_18 [] (tO [2, 3, 4, 6, 9])) (.seq (.region r12_20 [(1, 22), (3, 22), (6, 22), (8, 22), (12, 22), (14, 22), (17, 22), (19, 22), (1, 23), (3, 23), (6, 23), (8, 23), (12, 23), (14, 23), (17, 23), (19, 23), (22, 23), (12, 24), (14, 24), (17, 24), (19, 24)] (tO [3, 4, 6, 10, 11])) (.seq (.region r12_22 [] (tO [6, 7])) .ret))))))
noncomputable def cm12_0 : MCode := cm12_0g 
theorem gm12_0 : cm12_0.Good Try.prog E12_0 sh12 := ⟨trivial, ⟨⟨trivial, ⟨trivial, ⟨⟨trivial, trivial⟩, trivial⟩⟩⟩, ⟨⟨trivial, ⟨⟨trivial, trivial⟩, trivial⟩⟩, ⟨trivial, ⟨trivial, ⟨trivial, trivial⟩⟩⟩⟩⟩⟩
theorem fm12_0g (vf33_0 : Tf33_0) (vf34_0 : Tf34_0) (vf35_0 : Tf35_0) (vf35_1 : Tf35_1)  (α : Type) (k : List RV → Option α) : Fn12_0 (f12_0g vf33_0 vf34_0 vf35_0 vf35_1) α k = pa12_0.unc fun ds => fnM Try.prog (E12_0g vf33_0 vf34_0 vf35_0 vf35_1) sh12 (cm12_0g ) rs12 k ds := by kernel_rfl
theorem fm12_0 : ∀ (α : Type) (k : List RV → Option α), Fn12_0 f12_0 α k = pa12_0.unc fun ds => fnM Try.prog E12_0 sh12 cm12_0 rs12 k ds := fm12_0g f33_0 f34_0 f35_0 f35_1
theorem is12 : FnIs Try.prog 12 nt12 tr12 tl12 cm12_0.erase rs12 := ⟨Try.f12, Try.func12, rfl, by kernel_rfl, by kernel_rfl, by kernel_rfl⟩
theorem io12_0 : InstOk Try.prog 12 nt12 ⟨pa12_0, Fn12_0 f12_0⟩ := inst_ok eo12_0 followsTry is12 ⟨⟨sh12, cm12_0, by kernel_rfl, gm12_0, fm12_0⟩⟩
abbrev nt9 : Nat := 39
def sh9 : List (Nat × List Sh) := [(6, [.str]), (11, [.int .i64]), (13, [.str, .int .i64, .sl, .sl, .sl, .int .i64, .int .i64]), (19, [.int .i64]), (23, [.sl]), (26, [.sl]), (30, [.sl]), (36, [.int .i64, .int .i64])]
def r9_2 : List AOper := [oO 1 (.box (.tmp 0)), oO 2 (.mv (kI 0)), oO 3 (.mv (kI 0))]
def r9_6 : List AOper := [oO 5 (.faddr 0 (.tmp 1)), oO 6 (.load false 1 (.tmp 5)), oO 7 (.call 25 [(.tmp 6)]), oO 8 (.pure (oB (.unOp .not 4 (.tmp 7)) 4)), oM 4 8]
def r9_9 : List AOper := [oO 2 (.mv (kI 0)), oO 3 (.mv (kI 3))]
def r9_11 : List AOper := [oO 10 (.faddr 1 (.tmp 1)), oO 11 (.load false 1 (.tmp 10)), oO 12 (.bin .eql 3 (.tmp 11) (kI 1)), oM 9 12]
def r9_14 : List AOper := [oO 13 (.load true 7 (.tmp 1)), oO 14 (.call 26 [(.tmp 13)]), oO 15 (.extract 0 (.tmp 14)), oO 16 (.extract 1 (.tmp 14)), oM 2 15, oM 3 16]
def r9_16 : List AOper := [oO 18 (.faddr 1 (.tmp 1)), oO 19 (.load false 1 (.tmp 18)), oO 20 (.bin .neq 3 (.tmp 19) (kI 2)), oM 17 20]
def r9_19 : List AOper := [oO 2 (.mv (kI 0)), oO 3 (.mv (kI 11))]
def r9_21 : List AOper := [oO 22 (.faddr 2 (.tmp 1)), oO 23 (.load false 1 (.tmp 22)), oO 24 (.len (.tmp 23)), oO 25 (.faddr 3 (.tmp 1)), oO 26 (.load false 1 (.tmp 25)), oO 27 (.len (.tmp 26)), oO 28 (.bin .add 3 (.tmp 24) (.tmp 27)), oO 29 (.faddr 4 (.tmp 1)), oO 30 (.load false 1 (.tmp 29)), oO 31 (.len (.tmp 30)), oO 32 (.bin .add 3 (.tmp 28) (.tmp 31)), oO 33 (.bin .gtr 3 (.tmp 32) (kI 0)), oM 21 33]
def r9_24 : List AOper := [oO 2 (.mv (kI 0)), oO 3 (.mv (kI 13))]
def r9_26 : List AOper := [oO 35 (.faddr 5 (.tmp 1)), oO 36 (.load true 2 (.tmp 35)), oO 37 (.call 27 [(.tmp 36)]), oO 38 (.pure (oB (.unOp .not 4 (.tmp 37)) 4)), oM 34 38]
def r9_29 : List AOper := [oO 2 (.mv (kI 0)), oO 3 (.mv (kI 2))]
def r9_31 : List AOper := [oO 2 (.mv (kI 0)), oO 3 (.mv (kI 0))]
def tr9 : List (Nat × Tidy) := [tT 0 [1], tT 1 [1, 4], tT 2 [2, 3], tT 3 [1, 9], tT 4 [2, 3], tT 5 [1, 17], tT 6 [2, 3], tT 7 [1, 21], tT 8 [2, 3], tT 9 [34], tT 10 [2, 3], tT 11 [2, 3]]
def tl9 : List (Nat × Tidy) := []
def rs9 : List AResV := [.tmp 2, .tmp 3]
def pr9_0_0 : PT (List RV) := pRs [pR false [rD (dI .i64)], pR false [rD (dI .i64)]]
def ur9_0_0 {β : Type} (g : List RV → β) : Int → Int → β := pr9_0_0.unc g
def E9_0g (vf25_0 : Tf25_0) (vf26_0 : Tf26_0) (vf27_0 : Tf27_0) : EnvK := EnvK.of [⟨25, nt25, [⟨pa25_0, Fn25_0 vf25_0⟩]⟩, ⟨26, nt26, [⟨pa26_0, Fn26_0 vf26_0⟩]⟩, ⟨27, nt27, [⟨pa27_0, Fn27_0 vf27_0⟩]⟩] noSeq
noncomputable def E9_0 : EnvK := E9_0g f25_0 f26_0 f27_0
theorem eo9_0 : E9_0.Ok Try.prog := EnvK.of_ok noSeq_ok ⟨⟨io25_0, trivial⟩, ⟨io26_0, trivial⟩, ⟨io27_0, trivial⟩, trivial⟩
abbrev Tf9_0 : Type 1 := (α : Type) → ByteArray → Int → Rows → Rows → Rows → Int → Int → (Int → Int → Option α) → Option α
def f9_0g (vf25_0 : Tf25_0) (vf26_0 : Tf26_0) (vf27_0 : Tf27_0) (α : Type) (x1 : ByteArray) (x2 : Int) (x3 x4 x5 : Rows) (x6 x7 : Int) (k1 : Int → Int → Option α) : Option α :=
 vf25_0 α x1
 (fun x8 => cK (!x8)
 (k1 0 3)
 (cK (x2 == 1)
 (vf26_0 α x1 x2 x3 x4 x5 x6 x7
 (fun x9 x10 => k1 x9 x10))
 (cK (x2 != 2)
 (k1 0 11)
 (cK (decide (0 < (w64 ((w64 (((List.length x3 : Nat) : Int) + ((List.length x4 : Nat) : Int))) + ((List.length x5 : Nat) : Int)))))
 (k1 0 13)
 (vf27_0 α x6 x7
 (fun x11 => cK (!x11)
 (k1 0 2)
 (k1 0 0)))))))
noncomputable def f9_0 (α : Type) (x1 : ByteArray) (x2 : Int) (x3 x4 x5 : Rows) (x6 x7 : Int) (k1 : Int → Int → Option α) : Option α := f9_0g f25_0 f26_0 f27_0 α x1 x2 x3 x4 x5 x6 x7 k1
def pa9_0 : PT (List DV) := pA [pV true [dS, (dI .i64), dL, dL, dL, (dI .i64), (dI .i64)]]
def Fn9_0 (v : Tf9_0) (α : Type) (k : List RV → Option α) : ByteArray → Int → Rows → Rows → Rows → Int → Int → Option α := fun x1 x2 x3 x4 x5 x6 x7 => v α x1 x2 x3 x4 x5 x6 x7 (fun (y1 : Int) (y2 : Int) => ur9_0_0 k y1 y2)
noncomputable def cm9_0g  : MCode := (.seq (.region r9_2 [] (tO [1])) (.seq (.block 0 (.seq (.region r9_6 [] (tO [1, 4])) (.cond (.tmp 4) (.seq (.region r9_9 [] (tO [2, 3])) .ret) (.seq (.region r9_11 [] (tO [1, 9])) (.cond (.tmp 9) (.seq (.region r9_14 [] (tO [2, 3])) .ret) (.seq (.region r9_16 [] (tO [1, 17])) (.cond (.tmp 17) (.seq (.region r9_19 [] (tO [2, 3])) .ret) (.seq (.region r9_21 [] (tO [1, 21])) (.cond (.tmp 21) (.seq (.region r9_24 [] (tO [2, 3])) .ret) (.seq (.region r9_26 [] (tO [34])) (.cond (.tmp 34) (.seq (.region r9_29 [] (tO [2, 3])) .ret) .skip))))))))))) (.seq (.region r9_31 [] (tO [2, 3])) .ret)))
noncomputable def cm9_0 : MCode := cm9_0g 
theorem gm9_0 : cm9_0.Good Try.prog E9_0 sh9 := ⟨trivial, ⟨⟨trivial, ⟨⟨trivial, trivial⟩, ⟨trivial, ⟨⟨trivial, trivial⟩, ⟨trivial, ⟨⟨trivial, trivial⟩, ⟨trivial, ⟨⟨trivial, trivial⟩, ⟨trivial, ⟨⟨trivial, trivial⟩, trivial⟩⟩⟩⟩⟩⟩⟩⟩⟩⟩, ⟨trivial, trivial⟩⟩⟩
theorem fm9_0g (vf25_0 : Tf25_0) (vf26_0 : Tf26_0) (vf27_0 : Tf27_0)  (α : Type) (k : List RV → Option α) : Fn9_0 (f9_0g vf25_0 vf26_0 vf27_0) α k = pa9_0.unc fun ds => fnM Try.prog (E9_0g vf25_0 vf26_0 vf27_0) sh9 (cm9_0g ) rs9 k ds := by kernel_rfl
theorem fm9_0 : ∀ (α : Type) (k : List RV → Option α), Fn9_0 f9_0 α k = pa9_0.unc fun ds => fnM Try.prog E9_0 sh9 cm9_0 rs9 k ds := fm9_0g f25_0 f26_0 f27_0
theorem is9 : FnIs Try.prog 9 nt9 tr9 tl9 cm9_0.erase rs9 := ⟨Try.f9, Try.func9, rfl, by kernel_rfl, by kernel_rfl, by kernel_rfl⟩
theorem io9_0 : InstOk Try.prog 9 nt9 ⟨pa9_0, Fn9_0 f9_0⟩ := inst_ok eo9_0 followsTry is9 ⟨⟨sh9, cm9_0, by kernel_rfl, gm9_0, fm9_0⟩⟩
abbrev nt3 : Nat := 31
def sh3 : List (Nat × List Sh) := [(9, [.str, .int .i64, .sl, .sl, .sl, .int .i64, .int .i64]), (13, [.str, .int .i64, .sl, .sl, .sl, .int .i64, .int .i64]), (19, [.str, .int .i64, .sl, .sl, .sl, .int .i64, .int .i64])]
def r3_2 : List AOper := [oO 1 (.box (.tmp 0)), oO 2 (.mv (.const (.bool false)))]
def r3_5 : List AOper := [oO 7 (.call 7 []), oO 8 (.pure (oB (.unOp .not 4 (.tmp 7)) 4))]
def r3_8 : List AOper := [oO 2 (.mv (.const (.bool false)))]
def r3_11 : List AOper := [oO 9 (.load true 7 (.tmp 1)), oO 10 (.call 8 [(.tmp 9)]), oO 11 (.pure (oB (.unOp .not 4 (.tmp 10)) 4))]
def r3_14 : List AOper := [oO 2 (.mv (.const (.bool true)))]
def r3_16 : List AOper := [oO 13 (.load true 7 (.tmp 1)), oO 14 (.call 10 [(.tmp 13)]), oO 15 (.call 9 [(.tmp 14)]), oM 12 15, oO 16 (.extract 0 (.tmp 12)), oO 17 (.extract 1 (.tmp 12)), oM 3 16, oM 4 17]
def r3_18 : List AOper := [oO 19 (.load true 7 (.tmp 1)), oO 20 (.call 11 [(.tmp 19)]), oM 18 20, oO 21 (.extract 0 (.tmp 18)), oO 22 (.extract 1 (.tmp 18)), oM 5 21, oM 6 22]
def r3_20 : List AOper := [oM 23 4, oM 24 6, oO 25 (.bin .eql 3 (.tmp 23) (.tmp 24)), oM 26 25, oG 27 (.mv (.tmp 3)) 26 true, oG 28 (.mv (.tmp 5)) 26 true, oG 29 (.bin .eql 3 (.tmp 27) (.tmp 28)) 26 true, oO 30 (.pick (.tmp 26) (.tmp 29) (.const (.bool false))), oM 2 30]
def tr3 : List (Nat × Tidy) := [tT 0 [1], tT 1 [1, 8], tT 2 [2], tT 3 [1, 11], tT 4 [2], tT 5 [1, 3, 4], tT 6 [3, 4, 5, 6], tT 7 [2]]
def tl3 : List (Nat × Tidy) := []
def rs3 : List AResV := [.tmp 2]
def pr3_0_0 : PT (List RV) := pRs [pR false [rD dB]]
def ur3_0_0 {β : Type} (g : List RV → β) : Bool → β := pr3_0_0.unc g
def E3_0g (vf7_0 : Tf7_0) (vf8_0 : Tf8_0) (vf10_0 : Tf10_0) (vf9_0 : Tf9_0) (vf11_0 : Tf11_0) : EnvK := EnvK.of [⟨7, nt7, [⟨pa7_0, Fn7_0 vf7_0⟩]⟩, ⟨8, nt8, [⟨pa8_0, Fn8_0 vf8_0⟩]⟩, ⟨10, nt10, [⟨pa10_0, Fn10_0 vf10_0⟩]⟩, ⟨9, nt9, [⟨pa9_0, Fn9_0 vf9_0⟩]⟩, ⟨11, nt11, [⟨pa11_0, Fn11_0 vf11_0⟩]⟩] noSeq
noncomputable def E3_0 : EnvK := E3_0g f7_0 f8_0 f10_0 f9_0 f11_0
theorem eo3_0 : E3_0.Ok Try.prog := EnvK.of_ok noSeq_ok ⟨⟨io7_0, trivial⟩, ⟨io8_0, trivial⟩, ⟨io10_0, trivial⟩, ⟨io9_0, trivial⟩, ⟨io11_0, trivial⟩, trivial⟩
abbrev Tf3_0 : Type 1 := (α : Type) → ByteArray → Int → Rows → Rows → Rows → Int → Int → (Bool → Option α) → Option α
def f3_0g (vf10_0 : Tf10_0) (vf11_0 : Tf11_0) (vf7_0 : Tf7_0) (vf8_0 : Tf8_0) (vf9_0 : Tf9_0) (α : Type) (x1 : ByteArray) (x2 : Int) (x3 x4 x5 : Rows) (x6 x7 : Int) (k1 : Bool → Option α) : Option α :=
 vf7_0 α 
 (vf8_0 α x1 x2 x3 x4 x5 x6 x7
 (fun x8 => cK (!x8)
 (k1 true)
 (vf10_0 α x1 x2 x3 x4 x5 x6 x7
 (fun x9 x10 x11 x12 x13 x14 x15 => vf9_0 α x9 x10 x11 x12 x13 x14 x15
 (fun x16 x17 => vf11_0 α x1 x2 x3 x4 x5 x6 x7
 (fun x18 x19 => cK (x17 == x19)
 (k1 (x16 == x18))
 (k1 false)))))))
noncomputable def f3_0 (α : Type) (x1 : ByteArray) (x2 : Int) (x3 x4 x5 : Rows) (x6 x7 : Int) (k1 : Bool → Option α) : Option α := f3_0g f10_0 f11_0 f7_0 f8_0 f9_0 α x1 x2 x3 x4 x5 x6 x7 k1
def pa3_0 : PT (List DV) := pA [pV true [dS, (dI .i64), dL, dL, dL, (dI .i64), (dI .i64)]]
def Fn3_0 (v : Tf3_0) (α : Type) (k : List RV → Option α) : ByteArray → Int → Rows → Rows → Rows → Int → Int → Option α := fun x1 x2 x3 x4 x5 x6 x7 => v α x1 x2 x3 x4 x5 x6 x7 (fun (y1 : Bool) => ur3_0_0 k y1)
noncomputable def cm3_0g  : MCode := (.seq (.region r3_2 [] (tO [1])) (.seq (.seq (.region r3_5 [] (tO [1, 8])) (.cond (.tmp 8) (.seq (.region r3_8 [] (tO [2])) .ret) .skip)) (.seq (.seq (.region r3_11 [] (tO [1, 11])) (.cond (.tmp 11) (.seq (.region r3_14 [] (tO [2])) .ret) .skip)) (.seq (.region r3_16 [] (tO [1, 3, 4])) (.seq (.region r3_18 [] (tO [3, 4, 5, 6])) (.seq (.region r3_20 [] (tO [2])) .ret))))))
noncomputable def cm3_0 : MCode := cm3_0g 
theorem gm3_0 : cm3_0.Good Try.prog E3_0 sh3 := ⟨trivial, ⟨⟨trivial, ⟨⟨trivial, trivial⟩, trivial⟩⟩, ⟨⟨trivial, ⟨⟨trivial, trivial⟩, trivial⟩⟩, ⟨trivial, ⟨trivial, ⟨trivial, trivial⟩⟩⟩⟩⟩⟩
theorem fm3_0g (vf7_0 : Tf7_0) (vf8_0 : Tf8_0) (vf10_0 : Tf10_0) (vf9_0 : Tf9_0) (vf11_0 : Tf11_0)  (α : Type) (k : List RV → Option α) : Fn3_0 (f3_0g vf10_0 vf11_0 vf7_0 vf8_0 vf9_0) α k = pa3_0.unc fun ds => fnM Try.prog (E3_0g vf7_0 vf8_0 vf10_0 vf9_0 vf11_0) sh3 (cm3_0g ) rs3 k ds := by kernel_rfl
theorem fm3_0 : ∀ (α : Type) (k : List RV → Option α), Fn3_0 f3_0 α k = pa3_0.unc fun ds => fnM Try.prog E3_0 sh3 cm3_0 rs3 k ds := fm3_0g f7_0 f8_0 f10_0 f9_0 f11_0
theorem is3 : FnIs Try.prog 3 nt3 tr3 tl3 cm3_0.erase rs3 := ⟨Try.f3, Try.func3, rfl, by kernel_rfl, by kernel_rfl, by kernel_rfl⟩
theorem io3_0 : InstOk Try.prog 3 nt3 ⟨pa3_0, Fn3_0 f3_0⟩ := inst_ok eo3_0 followsTry is3 ⟨⟨sh3, cm3_0, by kernel_rfl, gm3_0, fm3_0⟩⟩
end Go.AM.K
