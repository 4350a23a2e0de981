/- Printed by KGen. -/
import Derived.Test.YtjifpcjmnhnpkaaKTu
import Derived.Test.YtjifpcjmnhnpkaaMC1
namespace Go.AM.K
open Go.Proofs
set_option maxRecDepth 100000
set_option linter.unusedVariables false
abbrev nt31 : Nat := 14
def sh31 : List (Nat × List Sh) := []
def r31_2 : List AOper := [oO 4 (.mv (kI 0))]
def r31_4 : List AOper := [oM 5 0, oM 6 1, oO 7 (.bin .rem 3 (.tmp 5) (.tmp 6)), oM 0 7]
def r31_7 : List AOper := [oM 8 0, oO 9 (.bin .lss 3 (.tmp 8) (kI 0))]
def r31_9 : List AOper := [oM 10 0, oM 11 1, oO 12 (.bin .add 3 (.tmp 10) (.tmp 11)), oM 0 12]
def r31_11 : List AOper := [oM 13 0, oM 4 13]
def tr31 : List (Nat × Tidy) := [tT 0 [0, 1], tT 1 [0, 1], tT 2 [0, 1, 9], tT 3 [0], tT 4 [4]]
def tl31 : List (Nat × Tidy) := []
def rs31 : List AResV := [.tmp 4]
def pr31_0_0 : PT (List RV) := pRs [pR false [rD (dI .i64)]]
def ur31_0_0 {β : Type} (g : List RV → β) : Int → β := pr31_0_0.unc g
def E31_0g  : EnvK := EnvK.of [] noSeq
noncomputable def E31_0 : EnvK := E31_0g 
theorem eo31_0 : E31_0.Ok Try.prog := EnvK.of_ok noSeq_ok trivial
abbrev Tf31_0 : Type 1 := (α : Type) → Int → Int → (Int → Option α) → Option α
def f31_0g  (α : Type) (x1 x2 : Int) (k1 : Int → Option α) : Option α :=
 gK (x2 != 0) (cK (decide ((Int.tmod x1 x2) < 0))
 (k1 (w64 ((Int.tmod x1 x2) + x2)))
 (k1 (Int.tmod x1 x2)))
noncomputable def f31_0 (α : Type) (x1 x2 : Int) (k1 : Int → Option α) : Option α := f31_0g  α x1 x2 k1
def pa31_0 : PT (List DV) := pA [pV false [(dI .i64)], pV false [(dI .i64)]]
def Fn31_0 (v : Tf31_0) (α : Type) (k : List RV → Option α) : Int → Int → Option α := fun x1 x2 => v α x1 x2 (fun (y1 : Int) => ur31_0_0 k y1)
noncomputable def cm31_0g  : MCode := (.seq (.region r31_2 [] (tO [0, 1])) (.seq (.region r31_4 [] (tO [0, 1])) (.seq (.seq (.region r31_7 [] (tO [0, 1, 9])) (.cond (.tmp 9) (.region r31_9 [] (tO [0])) .skip)) (.seq (.region r31_11 [] (tO [4])) .ret))))
noncomputable def cm31_0 : MCode := cm31_0g 
theorem gm31_0 : cm31_0.Good Try.prog E31_0 sh31 := ⟨trivial, ⟨trivial, ⟨⟨trivial, ⟨trivial, trivial⟩⟩, ⟨trivial, trivial⟩⟩⟩⟩
theorem fm31_0g   (α : Type) (k : List RV → Option α) : Fn31_0 (f31_0g ) α k = pa31_0.unc fun ds => fnM Try.prog (E31_0g ) sh31 (cm31_0g ) rs31 k ds := by kernel_rfl
theorem fm31_0 : ∀ (α : Type) (k : List RV → Option α), Fn31_0 f31_0 α k = pa31_0.unc fun ds => fnM Try.prog E31_0 sh31 cm31_0 rs31 k ds := fm31_0g 
theorem is31 : FnIs Try.prog 31 nt31 tr31 tl31 cm31_0.erase rs31 := ⟨Try.f31, Try.func31, rfl, by kernel_rfl, by kernel_rfl, by kernel_rfl⟩
theorem io31_0 : InstOk Try.prog 31 nt31 ⟨pa31_0, Fn31_0 f31_0⟩ := inst_ok eo31_0 followsTry is31 ⟨⟨sh31, cm31_0, by kernel_rfl, gm31_0, fm31_0⟩⟩
abbrev nt90 : Nat := 25
def sh90 : List (Nat × List Sh) := [(10, [.int .i64]), (11, [.int .i64]), (21, [.int .i64]), (22, [.int .i64])]
def r90_2 : List AOper := [oO 2 (.mv (kI 0))]
def r90_5 : List AOper := [oM 5 0, oO 6 (.len (.tmp 5)), oO 7 (.bin .lss 3 (.tmp 6) (kI 1))]
def r90_7 : List AOper := [⟨(some 8), .bad, none⟩, ⟨none, .bad, none⟩]
def r90_9 : List AOper := [oM 9 0, oO 10 (.iaddr 1 none (.tmp 9) (kI 0)), oO 11 (.load false 1 (.tmp 10)), oM 3 11]
def r90_12 : List AOper := [oO 4 (.mv (kI 1))]
def td90_14 : Option Tidy := (tO [0, 3, 4])
def r90_17 : List AOper := [oM 12 4, oM 13 0, oO 14 (.len (.tmp 13)), oO 15 (.bin .lss 3 (.tmp 12) (.tmp 14))]
def r90_21 : List AOper := [oM 18 3, oM 19 0, oM 20 4, oO 21 (.iaddr 1 none (.tmp 19) (.tmp 20)), oO 22 (.load false 1 (.tmp 21)), oO 23 (.pure (oB (.call { callee := .builtin .max, args := #[(.tmp 18), (.tmp 22)], argTypes := #[3, 3] }) 3)), oM 3 23]
def r90_22 : List AOper := [oM 16 4, oO 17 (.bin .add 3 (.tmp 16) (kI 1)), oM 4 17]
def r90_24 : List AOper := [oM 24 3, oM 2 24]
def tr90 : List (Nat × Tidy) := [tT 0 [0], tT 1 [0, 7], tT 2 [0], tT 3 [0, 3], tT 4 [0, 3, 4], tT 5 [0, 3, 4, 15], tT 7 [0, 3, 4], tT 6 [0, 3, 4], tT 8 [2]]
def tl90 : List (Nat × Tidy) := [tT 5 [0, 3, 4]]
def rs90 : List AResV := [.tmp 2]
def p90_0_0 : PT St := pS [sl 0 (aV false [(cD dL)]), sl 3 (aV false [(cD (dI .i64))]), sl 4 (aV false [(cD (dI .i64))])] []
def u90_0_0 {β : Type} (g : St → β) : Rows → Int → Int → β := p90_0_0.unc g
def p90_0_1 : PT St := pS [sl 0 (aV false [(cD dL)]), sl 3 (aV false [(cD (dI .i64))]), sl 4 (aV false [(cD (dI .i64))]), sl 15 (aV false [(cD dB)])] []
def u90_0_1 {β : Type} (g : St → β) : Rows → Int → Int → Bool → β := p90_0_1.unc g
def pr90_0_0 : PT (List RV) := pRs [pR false [rD (dI .i64)]]
def ur90_0_0 {β : Type} (g : List RV → β) : Int → β := pr90_0_0.unc g
def E90_0g  : EnvK := EnvK.of [] noSeq
noncomputable def E90_0 : EnvK := E90_0g 
theorem eo90_0 : E90_0.Ok Try.prog := EnvK.of_ok noSeq_ok trivial
noncomputable def c90_0_14g  : MCode := (.seq (.seq (.region r90_17 [] (tO [0, 3, 4, 15])) (.cond (.tmp 15) .skip (.exit 0))) (.seq (.block 1 (.region r90_21 [] (tO [0, 3, 4]))) (.region r90_22 [] (tO [0, 3, 4]))))
noncomputable def c90_0_14 : MCode := c90_0_14g 
theorem g90_0_14 : c90_0_14.Good Try.prog E90_0 sh90 := ⟨⟨trivial, ⟨trivial, trivial⟩⟩, ⟨trivial, trivial⟩⟩
--CODE 14 0
def S90_0_0g  (α : Type) (x3 : Rows) (x4 x5 : Int) (kn : Int → Int → Option α) (k1 : Int → Int → Bool → Option α) : Option α :=
 cK (decide (x5 < ((List.length x3 : Nat) : Int)))
 (rowK x3 x5 [.int .i64]
 (fun x7 => kn (if x7 > x4 then x7 else x4) (w64 (x5 + 1))))
 (k1 x4 x5 (decide (x5 < ((List.length x3 : Nat) : Int))))
noncomputable def S90_0_0 (α : Type) (x3 : Rows) (x4 x5 : Int) (kn : Int → Int → Option α) (k1 : Int → Int → Bool → Option α) : Option α := S90_0_0g  α x3 x4 x5 kn k1
noncomputable def R90_0_0 (α : Type) (x3 : Rows) (k1 : Int → Int → Bool → Option α) : Nat → Int → Int → Option α
 | 0, _, _ => none
 | n + 1, x4, x5 => S90_0_0 α x3 x4 x5 (R90_0_0 α x3 k1 n) k1
noncomputable def L90_0_0 (α : Type) (x3 : Rows) (k1 : Int → Int → Bool → Option α) (x4 x5 : Int) : Option α := R90_0_0 α x3 k1 fuel x4 x5
abbrev TL90_0_0 : Type 1 := (α : Type) → Rows → (Int → Int → Bool → Option α) → Int → Int → Option α
def F90_0_0 (v : TL90_0_0) (α : Type) (K : Exit → St → Option α) : Rows → Int → Int → Option α := fun x3 x4 x5 => v α x3 (fun (y1 : Int) (y2 : Int) (y3 : Bool) => u90_0_1 (K (.exit 0)) x3 y1 y2 y3) x4 x5
theorem r90_0_0g   (α : Type) (K : Exit → St → Option α) (Kn : St → Option α) (x3 : Rows) (x4 x5 : Int) : u90_0_0 (fun σ => runM Try.prog (E90_0g ) sh90 (c90_0_14g ) (thenK (fun σ => tidyK td90_14 σ Kn) K) σ) x3 x4 x5 = S90_0_0g  α x3 x4 x5 (fun x4 x5 => u90_0_0 Kn x3 x4 x5) (fun (y1 : Int) (y2 : Int) (y3 : Bool) => u90_0_1 (K (.exit 0)) x3 y1 y2 y3) := by kernel_rfl
theorem r90_0_0 (α : Type) (K : Exit → St → Option α) (Kn : St → Option α) (x3 : Rows) (x4 x5 : Int) : u90_0_0 (fun σ => runM Try.prog E90_0 sh90 c90_0_14 (thenK (fun σ => tidyK td90_14 σ Kn) K) σ) x3 x4 x5 = S90_0_0 α x3 x4 x5 (fun x4 x5 => u90_0_0 Kn x3 x4 x5) (fun (y1 : Int) (y2 : Int) (y3 : Bool) => u90_0_1 (K (.exit 0)) x3 y1 y2 y3) := r90_0_0g  α K Kn x3 x4 x5
theorem t90_0_0 (α : Type) (K : Exit → St → Option α) : ∀ (n : Nat) (x3 : Rows) (x4 x5 : Int), R90_0_0 α x3 (fun (y1 : Int) (y2 : Int) (y3 : Bool) => u90_0_1 (K (.exit 0)) x3 y1 y2 y3) n x4 x5 = u90_0_0 (loopT (runM Try.prog E90_0 sh90 c90_0_14) td90_14 K n) x3 x4 x5 := by
 intro n
 induction n with
 | zero => intros; rfl
 | succ n ih => intro x3 x4 x5; exact (congrArg (fun kn => S90_0_0 α x3 x4 x5 kn (fun (y1 : Int) (y2 : Int) (y3 : Bool) => u90_0_1 (K (.exit 0)) x3 y1 y2 y3)) (funext fun x4 => funext fun x5 => ih x3 x4 x5)).trans (r90_0_0 α K (loopT (runM Try.prog E90_0 sh90 c90_0_14) td90_14 K n) x3 x4 x5).symm
theorem m90_0_0 : ∀ (α : Type) (K : Exit → St → Option α), F90_0_0 L90_0_0 α K = p90_0_0.unc fun σ => loopT (runM Try.prog E90_0 sh90 c90_0_14) td90_14 K fuel σ := fun α K => funext fun x3 => funext fun x4 => funext fun x5 => t90_0_0 α K fuel x3 x4 x5
abbrev Tf90_0 : Type 1 := (α : Type) → Rows → (Int → Option α) → Option α
def f90_0g (vL90_0_0 : TL90_0_0) (α : Type) (x1 : Rows) (k1 : Int → Option α) : Option α :=
 cK (decide (((List.length x1 : Nat) : Int) < 1))
 (none)
 (rowK x1 0 [.int .i64]
 (fun x2 => vL90_0_0 α x1
 (fun x8 x9 x10 => k1 x8) x2 1))
noncomputable def f90_0 (α : Type) (x1 : Rows) (k1 : Int → Option α) : Option α := f90_0g L90_0_0 α x1 k1
def pa90_0 : PT (List DV) := pA [pV false [dL]]
def Fn90_0 (v : Tf90_0) (α : Type) (k : List RV → Option α) : Rows → Option α := fun x1 => v α x1 (fun (y1 : Int) => ur90_0_0 k y1)
noncomputable def cm90_0g (vL90_0_0 : TL90_0_0) : MCode := (.seq (.region r90_2 [] (tO [0])) (.seq (.seq (.region r90_5 [] (tO [0, 7])) (.cond (.tmp 7) (.region r90_7 [] (tO [0])) .skip)) (.seq (.region r90_9 [] (tO [0, 3])) (.seq (.seq (.region r90_12 [] (tO [0, 3, 4])) (.block 0 (.loop td90_14 [⟨p90_0_0, F90_0_0 vL90_0_0⟩] c90_0_14))) (.seq (.region r90_24 [] (tO [2])) .ret)))))
noncomputable def cm90_0 : MCode := cm90_0g L90_0_0
theorem gm90_0 : cm90_0.Good Try.prog E90_0 sh90 := ⟨trivial, ⟨⟨trivial, ⟨trivial, trivial⟩⟩, ⟨trivial, ⟨⟨trivial, ⟨g90_0_14, m90_0_0, trivial⟩⟩, ⟨trivial, trivial⟩⟩⟩⟩⟩
theorem fm90_0g  (vL90_0_0 : TL90_0_0) (α : Type) (k : List RV → Option α) : Fn90_0 (f90_0g vL90_0_0) α k = pa90_0.unc fun ds => fnM Try.prog (E90_0g ) sh90 (cm90_0g vL90_0_0) rs90 k ds := by kernel_rfl
theorem fm90_0 : ∀ (α : Type) (k : List RV → Option α), Fn90_0 f90_0 α k = pa90_0.unc fun ds => fnM Try.prog E90_0 sh90 cm90_0 rs90 k ds := fm90_0g L90_0_0
theorem is90 : FnIs Try.prog 90 nt90 tr90 tl90 cm90_0.erase rs90 := ⟨Try.f90, Try.func90, rfl, by kernel_rfl, by kernel_rfl, by kernel_rfl⟩
theorem io90_0 : InstOk Try.prog 90 nt90 ⟨pa90_0, Fn90_0 f90_0⟩ := inst_ok eo90_0 followsTry is90 ⟨⟨sh90, cm90_0, by kernel_rfl, gm90_0, fm90_0⟩⟩
abbrev nt89 : Nat := 25
def sh89 : List (Nat × List Sh) := [(10, [.int .i64]), (11, [.int .i64]), (21, [.int .i64]), (22, [.int .i64])]
def r89_2 : List AOper := [oO 2 (.mv (kI 0))]
def r89_5 : List AOper := [oM 5 0, oO 6 (.len (.tmp 5)), oO 7 (.bin .lss 3 (.tmp 6) (kI 1))]
def r89_7 : List AOper := [⟨(some 8), .bad, none⟩, ⟨none, .bad, none⟩]
def r89_9 : List AOper := [oM 9 0, oO 10 (.iaddr 1 none (.tmp 9) (kI 0)), oO 11 (.load false 1 (.tmp 10)), oM 3 11]
def r89_12 : List AOper := [oO 4 (.mv (kI 1))]
def td89_14 : Option Tidy := (tO [0, 3, 4])
def r89_17 : List AOper := [oM 12 4, oM 13 0, oO 14 (.len (.tmp 13)), oO 15 (.bin .lss 3 (.tmp 12) (.tmp 14))]
def r89_21 : List AOper := [oM 18 3, oM 19 0, oM 20 4, oO 21 (.iaddr 1 none (.tmp 19) (.tmp 20)), oO 22 (.load false 1 (.tmp 21)), oO 23 (.pure (oB (.call { callee := .builtin .min, args := #[(.tmp 18), (.tmp 22)], argTypes := #[3, 3] }) 3)), oM 3 23]
def r89_22 : List AOper := [oM 16 4, oO 17 (.bin .add 3 (.tmp 16) (kI 1)), oM 4 17]
def r89_24 : List AOper := [oM 24 3, oM 2 24]
def tr89 : List (Nat × Tidy) := [tT 0 [0], tT 1 [0, 7], tT 2 [0], tT 3 [0, 3], tT 4 [0, 3, 4], tT 5 [0, 3, 4, 15], tT 7 [0, 3, 4], tT 6 [0, 3, 4], tT 8 [2]]
def tl89 : List (Nat × Tidy) := [tT 5 [0, 3, 4]]
def rs89 : List AResV := [.tmp 2]
def p89_0_0 : PT St := pS [sl 0 (aV false [(cD dL)]), sl 3 (aV false [(cD (dI .i64))]), sl 4 (aV false [(cD (dI .i64))])] []
def u89_0_0 {β : Type} (g : St → β) : Rows → Int → Int → β := p89_0_0.unc g
def p89_0_1 : PT St := pS [sl 0 (aV false [(cD dL)]), sl 3 (aV false [(cD (dI .i64))]), sl 4 (aV false [(cD (dI .i64))]), sl 15 (aV false [(cD dB)])] []
def u89_0_1 {β : Type} (g : St → β) : Rows → Int → Int → Bool → β := p89_0_1.unc g
def pr89_0_0 : PT (List RV) := pRs [pR false [rD (dI .i64)]]
def ur89_0_0 {β : Type} (g : List RV → β) : Int → β := pr89_0_0.unc g
def E89_0g  : EnvK := EnvK.of [] noSeq
noncomputable def E89_0 : EnvK := E89_0g 
theorem eo89_0 : E89_0.Ok Try.prog := EnvK.of_ok noSeq_ok trivial
noncomputable def c89_0_14g  : MCode := (.seq (.seq (.region r89_17 [] (tO [0, 3, 4, 15])) (.cond (.tmp 15) .skip (.exit 0))) (.seq (.block 1 (.region r89_21 [] (tO [0, 3, 4]))) (.region r89_22 [] (tO [0, 3, 4]))))
noncomputable def c89_0_14 : MCode := c89_0_14g 
theorem g89_0_14 : c89_0_14.Good Try.prog E89_0 sh89 := ⟨⟨trivial, ⟨trivial, trivial⟩⟩, ⟨trivial, trivial⟩⟩
--CODE 14 0
def S89_0_0g  (α : Type) (x3 : Rows) (x4 x5 : Int) (kn : Int → Int → Option α) (k1 : Int → Int → Bool → Option α) : Option α :=
 cK (decide (x5 < ((List.length x3 : Nat) : Int)))
 (rowK x3 x5 [.int .i64]
 (fun x7 => kn (if x7 < x4 then x7 else x4) (w64 (x5 + 1))))
 (k1 x4 x5 (decide (x5 < ((List.length x3 : Nat) : Int))))
noncomputable def S89_0_0 (α : Type) (x3 : Rows) (x4 x5 : Int) (kn : Int → Int → Option α) (k1 : Int → Int → Bool → Option α) : Option α := S89_0_0g  α x3 x4 x5 kn k1
noncomputable def R89_0_0 (α : Type) (x3 : Rows) (k1 : Int → Int → Bool → Option α) : Nat → Int → Int → Option α
 | 0, _, _ => none
 | n + 1, x4, x5 => S89_0_0 α x3 x4 x5 (R89_0_0 α x3 k1 n) k1
noncomputable def L89_0_0 (α : Type) (x3 : Rows) (k1 : Int → Int → Bool → Option α) (x4 x5 : Int) : Option α := R89_0_0 α x3 k1 fuel x4 x5
abbrev TL89_0_0 : Type 1 := (α : Type) → Rows → (Int → Int → Bool → Option α) → Int → Int → Option α
def F89_0_0 (v : TL89_0_0) (α : Type) (K : Exit → St → Option α) : Rows → Int → Int → Option α := fun x3 x4 x5 => v α x3 (fun (y1 : Int) (y2 : Int) (y3 : Bool) => u89_0_1 (K (.exit 0)) x3 y1 y2 y3) x4 x5
theorem r89_0_0g   (α : Type) (K : Exit → St → Option α) (Kn : St → Option α) (x3 : Rows) (x4 x5 : Int) : u89_0_0 (fun σ => runM Try.prog (E89_0g ) sh89 (c89_0_14g ) (thenK (fun σ => tidyK td89_14 σ Kn) K) σ) x3 x4 x5 = S89_0_0g  α x3 x4 x5 (fun x4 x5 => u89_0_0 Kn x3 x4 x5) (fun (y1 : Int) (y2 : Int) (y3 : Bool) => u89_0_1 (K (.exit 0)) x3 y1 y2 y3) := by kernel_rfl
theorem r89_0_0 (α : Type) (K : Exit → St → Option α) (Kn : St → Option α) (x3 : Rows) (x4 x5 : Int) : u89_0_0 (fun σ => runM Try.prog E89_0 sh89 c89_0_14 (thenK (fun σ => tidyK td89_14 σ Kn) K) σ) x3 x4 x5 = S89_0_0 α x3 x4 x5 (fun x4 x5 => u89_0_0 Kn x3 x4 x5) (fun (y1 : Int) (y2 : Int) (y3 : Bool) => u89_0_1 (K (.exit 0)) x3 y1 y2 y3) := r89_0_0g  α K Kn x3 x4 x5
theorem t89_0_0 (α : Type) (K : Exit → St → Option α) : ∀ (n : Nat) (x3 : Rows) (x4 x5 : Int), R89_0_0 α x3 (fun (y1 : Int) (y2 : Int) (y3 : Bool) => u89_0_1 (K (.exit 0)) x3 y1 y2 y3) n x4 x5 = u89_0_0 (loopT (runM Try.prog E89_0 sh89 c89_0_14) td89_14 K n) x3 x4 x5 := by
 intro n
 induction n with
 | zero => intros; rfl
 | succ n ih => intro x3 x4 x5; exact (congrArg (fun kn => S89_0_0 α x3 x4 x5 kn (fun (y1 : Int) (y2 : Int) (y3 : Bool) => u89_0_1 (K (.exit 0)) x3 y1 y2 y3)) (funext fun x4 => funext fun x5 => ih x3 x4 x5)).trans (r89_0_0 α K (loopT (runM Try.prog E89_0 sh89 c89_0_14) td89_14 K n) x3 x4 x5).symm
theorem m89_0_0 : ∀ (α : Type) (K : Exit → St → Option α), F89_0_0 L89_0_0 α K = p89_0_0.unc fun σ => loopT (runM Try.prog E89_0 sh89 c89_0_14) td89_14 K fuel σ := fun α K => funext fun x3 => funext fun x4 => funext fun x5 => t89_0_0 α K fuel x3 x4 x5
abbrev Tf89_0 : Type 1 := (α : Type) → Rows → (Int → Option α) → Option α
def f89_0g (vL89_0_0 : TL89_0_0) (α : Type) (x1 : Rows) (k1 : Int → Option α) : Option α :=
 cK (decide (((List.length x1 : Nat) : Int) < 1))
 (none)
 (rowK x1 0 [.int .i64]
 (fun x2 => vL89_0_0 α x1
 (fun x8 x9 x10 => k1 x8) x2 1))
noncomputable def f89_0 (α : Type) (x1 : Rows) (k1 : Int → Option α) : Option α := f89_0g L89_0_0 α x1 k1
def pa89_0 : PT (List DV) := pA [pV false [dL]]
def Fn89_0 (v : Tf89_0) (α : Type) (k : List RV → Option α) : Rows → Option α := fun x1 => v α x1 (fun (y1 : Int) => ur89_0_0 k y1)
noncomputable def cm89_0g (vL89_0_0 : TL89_0_0) : MCode := (.seq (.region r89_2 [] (tO [0])) (.seq (.seq (.region r89_5 [] (tO [0, 7])) (.cond (.tmp 7) (.region r89_7 [] (tO [0])) .skip)) (.seq (.region r89_9 [] (tO [0, 3])) (.seq (.seq (.region r89_12 [] (tO [0, 3, 4])) (.block 0 (.loop td89_14 [⟨p89_0_0, F89_0_0 vL89_0_0⟩] c89_0_14))) (.seq (.region r89_24 [] (tO [2])) .ret)))))
noncomputable def cm89_0 : MCode := cm89_0g L89_0_0
theorem gm89_0 : cm89_0.Good Try.prog E89_0 sh89 := ⟨trivial, ⟨⟨trivial, ⟨trivial, trivial⟩⟩, ⟨trivial, ⟨⟨trivial, ⟨g89_0_14, m89_0_0, trivial⟩⟩, ⟨trivial, trivial⟩⟩⟩⟩⟩
theorem fm89_0g  (vL89_0_0 : TL89_0_0) (α : Type) (k : List RV → Option α) : Fn89_0 (f89_0g vL89_0_0) α k = pa89_0.unc fun ds => fnM Try.prog (E89_0g ) sh89 (cm89_0g vL89_0_0) rs89 k ds := by kernel_rfl
theorem fm89_0 : ∀ (α : Type) (k : List RV → Option α), Fn89_0 f89_0 α k = pa89_0.unc fun ds => fnM Try.prog E89_0 sh89 cm89_0 rs89 k ds := fm89_0g L89_0_0
theorem is89 : FnIs Try.prog 89 nt89 tr89 tl89 cm89_0.erase rs89 := ⟨Try.f89, Try.func89, rfl, by kernel_rfl, by kernel_rfl, by kernel_rfl⟩
theorem io89_0 : InstOk Try.prog 89 nt89 ⟨pa89_0, Fn89_0 f89_0⟩ := inst_ok eo89_0 followsTry is89 ⟨⟨sh89, cm89_0, by kernel_rfl, gm89_0, fm89_0⟩⟩
abbrev nt88 : Nat := 24
def sh88 : List (Nat × List Sh) := [(8, [.int .i64]), (10, [.int .i64]), (13, [.int .i64]), (15, [.int .i64]), (18, [.int .i64, .int .i64]), (20, [.int .i64]), (22, [.int .i64])]
def r88_2 : List AOper := [oO 2 (.box (.tmp 0)), oO 3 (.box (.tmp 1)), oO 4 (.alloc [(cI 0), (cI 0)]), oO 5 (.mv (.const (.bool false)))]
def r88_4 : List AOper := [oO 7 (.faddr 0 (.tmp 2)), oO 8 (.load false 1 (.tmp 7)), oO 9 (.faddr 0 (.tmp 3)), oO 10 (.load false 1 (.tmp 9)), oO 11 (.pure (oB (.call { callee := .builtin .max, args := #[(.tmp 8), (.tmp 10)], argTypes := #[3, 3] }) 3)), oO 12 (.faddr 1 (.tmp 2)), oO 13 (.load false 1 (.tmp 12)), oO 14 (.faddr 1 (.tmp 3)), oO 15 (.load false 1 (.tmp 14)), oO 16 (.pure (oB (.call { callee := .builtin .min, args := #[(.tmp 13), (.tmp 15)], argTypes := #[3, 3] }) 3)), oO 17 (.build [(cI 0), (cI 0)] [(0, 1, (.tmp 11)), (1, 1, (.tmp 16))]), oO 6 (.alloc [(cI 0), (cI 0)]), oD (.store 2 (.tmp 6) (.tmp 17))]
def r88_6 : List AOper := [oO 18 (.load true 2 (.tmp 6)), oO 19 (.faddr 0 (.tmp 6)), oO 20 (.load false 1 (.tmp 19)), oO 21 (.faddr 1 (.tmp 6)), oO 22 (.load false 1 (.tmp 21)), oO 23 (.bin .leq 3 (.tmp 20) (.tmp 22)), oD (.store 2 (.tmp 4) (.tmp 18)), oM 5 23]
def tr88 : List (Nat × Tidy) := [tT 0 [2, 3, 4], tT 1 [4, 6], tT 2 [4, 5]]
def tl88 : List (Nat × Tidy) := []
def rs88 : List AResV := [.cell 4 true 2, .tmp 5]
def pr88_0_0 : PT (List RV) := pRs [pR true [rD (dI .i64), rD (dI .i64)], pR false [rD dB]]
def ur88_0_0 {β : Type} (g : List RV → β) : Int → Int → Bool → β := pr88_0_0.unc g
def E88_0g  : EnvK := EnvK.of [] noSeq
noncomputable def E88_0 : EnvK := E88_0g 
theorem eo88_0 : E88_0.Ok Try.prog := EnvK.of_ok noSeq_ok trivial
abbrev Tf88_0 : Type 1 := (α : Type) → Int → Int → Int → Int → (Int → Int → Bool → Option α) → Option α
def f88_0g  (α : Type) (x1 x2 x3 x4 : Int) (k1 : Int → Int → Bool → Option α) : Option α :=
 k1 (if x3 > x1 then x3 else x1) (if x4 < x2 then x4 else x2) (decide ((if x3 > x1 then x3 else x1) ≤ (if x4 < x2 then x4 else x2)))
noncomputable def f88_0 (α : Type) (x1 x2 x3 x4 : Int) (k1 : Int → Int → Bool → Option α) : Option α := f88_0g  α x1 x2 x3 x4 k1
def pa88_0 : PT (List DV) := pA [pV true [(dI .i64), (dI .i64)], pV true [(dI .i64), (dI .i64)]]
def Fn88_0 (v : Tf88_0) (α : Type) (k : List RV → Option α) : Int → Int → Int → Int → Option α := fun x1 x2 x3 x4 => v α x1 x2 x3 x4 (fun (y1 : Int) (y2 : Int) (y3 : Bool) => ur88_0_0 k y1 y2 y3)
noncomputable def cm88_0g  : MCode := (.seq (.region r88_2 [] (tO [2, 3, 4])) (.seq (.region r88_4 [] (tO [4, 6])) (.seq (.region r88_6 [(2, 6), (4, 6)] (tO [4, 5])) .ret)))
noncomputable def cm88_0 : MCode := cm88_0g 
theorem gm88_0 : cm88_0.Good Try.prog E88_0 sh88 := ⟨trivial, ⟨trivial, ⟨trivial, trivial⟩⟩⟩
theorem fm88_0g   (α : Type) (k : List RV → Option α) : Fn88_0 (f88_0g ) α k = pa88_0.unc fun ds => fnM Try.prog (E88_0g ) sh88 (cm88_0g ) rs88 k ds := by kernel_rfl
theorem fm88_0 : ∀ (α : Type) (k : List RV → Option α), Fn88_0 f88_0 α k = pa88_0.unc fun ds => fnM Try.prog E88_0 sh88 cm88_0 rs88 k ds := fm88_0g 
theorem is88 : FnIs Try.prog 88 nt88 tr88 tl88 cm88_0.erase rs88 := ⟨Try.f88, Try.func88, rfl, by kernel_rfl, by kernel_rfl, by kernel_rfl⟩
theorem io88_0 : InstOk Try.prog 88 nt88 ⟨pa88_0, Fn88_0 f88_0⟩ := inst_ok eo88_0 followsTry is88 ⟨⟨sh88, cm88_0, by kernel_rfl, gm88_0, fm88_0⟩⟩
abbrev nt87 : Nat := 12
def sh87 : List (Nat × List Sh) := [(5, [.int .i64]), (9, [.int .i64])]
def r87_2 : List AOper := [oO 3 (.mv (kI 0))]
def r87_4 : List AOper := [oO 4 (.faddr 2 (.tmp 1)), oO 5 (.load false 1 (.tmp 4)), oO 6 (.bin .mul 3 (.tmp 5) (kI 1048576)), oM 7 0, oO 8 (.faddr 0 (.tmp 1)), oO 9 (.load false 1 (.tmp 8)), oO 10 (.bin .mul 3 (.tmp 7) (.tmp 9)), oO 11 (.bin .sub 3 (.tmp 6) (.tmp 10)), oM 3 11]
def tr87 : List (Nat × Tidy) := [tT 0 [0, 1], tT 1 [3]]
def tl87 : List (Nat × Tidy) := []
def rs87 : List AResV := [.tmp 3]
def pr87_0_0 : PT (List RV) := pRs [pR false [rD (dI .i64)]]
def ur87_0_0 {β : Type} (g : List RV → β) : Int → β := pr87_0_0.unc g
def E87_0g  : EnvK := EnvK.of [] noSeq
noncomputable def E87_0 : EnvK := E87_0g 
theorem eo87_0 : E87_0.Ok Try.prog := EnvK.of_ok noSeq_ok trivial
abbrev Tf87_0 : Type 1 := (α : Type) → Int → Int → Int → Int → (Int → Option α) → Option α
def f87_0g  (α : Type) (x1 x2 x3 x4 : Int) (k1 : Int → Option α) : Option α :=
 k1 (w64 ((w64 (x4 * 1048576)) - (w64 (x1 * x2))))
noncomputable def f87_0 (α : Type) (x1 x2 x3 x4 : Int) (k1 : Int → Option α) : Option α := f87_0g  α x1 x2 x3 x4 k1
def pa87_0 : PT (List DV) := pA [pV false [(dI .i64)], pV false [(dP [(dI .i64), (dI .i64), (dI .i64)] 0)]]
def Fn87_0 (v : Tf87_0) (α : Type) (k : List RV → Option α) : Int → Int → Int → Int → Option α := fun x1 x2 x3 x4 => v α x1 x2 x3 x4 (fun (y1 : Int) => ur87_0_0 k y1)
noncomputable def cm87_0g  : MCode := (.seq (.region r87_2 [] (tO [0, 1])) (.seq (.region r87_4 [] (tO [3])) .ret))
noncomputable def cm87_0 : MCode := cm87_0g 
theorem gm87_0 : cm87_0.Good Try.prog E87_0 sh87 := ⟨trivial, ⟨trivial, trivial⟩⟩
theorem fm87_0g   (α : Type) (k : List RV → Option α) : Fn87_0 (f87_0g ) α k = pa87_0.unc fun ds => fnM Try.prog (E87_0g ) sh87 (cm87_0g ) rs87 k ds := by kernel_rfl
theorem fm87_0 : ∀ (α : Type) (k : List RV → Option α), Fn87_0 f87_0 α k = pa87_0.unc fun ds => fnM Try.prog E87_0 sh87 cm87_0 rs87 k ds := fm87_0g 
theorem is87 : FnIs Try.prog 87 nt87 tr87 tl87 cm87_0.erase rs87 := ⟨Try.f87, Try.func87, rfl, by kernel_rfl, by kernel_rfl, by kernel_rfl⟩
theorem io87_0 : InstOk Try.prog 87 nt87 ⟨pa87_0, Fn87_0 f87_0⟩ := inst_ok eo87_0 followsTry is87 ⟨⟨sh87, cm87_0, by kernel_rfl, gm87_0, fm87_0⟩⟩
abbrev nt86 : Nat := 13
def sh86 : List (Nat × List Sh) := [(5, [.int .i64]), (9, [.int .i64])]
def r86_2 : List AOper := [oO 3 (.mv (kI 0))]
def r86_4 : List AOper := [oO 4 (.faddr 0 (.tmp 1)), oO 5 (.load false 1 (.tmp 4)), oO 6 (.bin .mul 3 (.tmp 5) (kI 1048576)), oM 7 0, oO 8 (.faddr 2 (.tmp 1)), oO 9 (.load false 1 (.tmp 8)), oO 10 (.bin .mul 3 (.tmp 7) (.tmp 9)), oO 11 (.bin .sub 3 (.tmp 6) (.tmp 10)), oO 12 (.bin .mul 3 (.tmp 11) (kI 1048576)), oM 3 12]
def tr86 : List (Nat × Tidy) := [tT 0 [0, 1], tT 1 [3]]
def tl86 : List (Nat × Tidy) := []
def rs86 : List AResV := [.tmp 3]
def pr86_0_0 : PT (List RV) := pRs [pR false [rD (dI .i64)]]
def ur86_0_0 {β : Type} (g : List RV → β) : Int → β := pr86_0_0.unc g
def E86_0g  : EnvK := EnvK.of [] noSeq
noncomputable def E86_0 : EnvK := E86_0g 
theorem eo86_0 : E86_0.Ok Try.prog := EnvK.of_ok noSeq_ok trivial
abbrev Tf86_0 : Type 1 := (α : Type) → Int → Int → Int → Int → (Int → Option α) → Option α
def f86_0g  (α : Type) (x1 x2 x3 x4 : Int) (k1 : Int → Option α) : Option α :=
 k1 (w64 ((w64 ((w64 (x2 * 1048576)) - (w64 (x1 * x4)))) * 1048576))
noncomputable def f86_0 (α : Type) (x1 x2 x3 x4 : Int) (k1 : Int → Option α) : Option α := f86_0g  α x1 x2 x3 x4 k1
def pa86_0 : PT (List DV) := pA [pV false [(dI .i64)], pV false [(dP [(dI .i64), (dI .i64), (dI .i64)] 0)]]
def Fn86_0 (v : Tf86_0) (α : Type) (k : List RV → Option α) : Int → Int → Int → Int → Option α := fun x1 x2 x3 x4 => v α x1 x2 x3 x4 (fun (y1 : Int) => ur86_0_0 k y1)
noncomputable def cm86_0g  : MCode := (.seq (.region r86_2 [] (tO [0, 1])) (.seq (.region r86_4 [] (tO [3])) .ret))
noncomputable def cm86_0 : MCode := cm86_0g 
theorem gm86_0 : cm86_0.Good Try.prog E86_0 sh86 := ⟨trivial, ⟨trivial, trivial⟩⟩
theorem fm86_0g   (α : Type) (k : List RV → Option α) : Fn86_0 (f86_0g ) α k = pa86_0.unc fun ds => fnM Try.prog (E86_0g ) sh86 (cm86_0g ) rs86 k ds := by kernel_rfl
theorem fm86_0 : ∀ (α : Type) (k : List RV → Option α), Fn86_0 f86_0 α k = pa86_0.unc fun ds => fnM Try.prog E86_0 sh86 cm86_0 rs86 k ds := fm86_0g 
theorem is86 : FnIs Try.prog 86 nt86 tr86 tl86 cm86_0.erase rs86 := ⟨Try.f86, Try.func86, rfl, by kernel_rfl, by kernel_rfl, by kernel_rfl⟩
theorem io86_0 : InstOk Try.prog 86 nt86 ⟨pa86_0, Fn86_0 f86_0⟩ := inst_ok eo86_0 followsTry is86 ⟨⟨sh86, cm86_0, by kernel_rfl, gm86_0, fm86_0⟩⟩
abbrev nt122 : Nat := 14
def sh122 : List (Nat × List Sh) := []
def r122_2 : List AOper := [oO 4 (.mv (.const (.bool false)))]
def r122_4 : List AOper := [oM 5 1, oO 6 (.pure (oB (.unOp .neg 3 (.tmp 5)) 3)), oM 7 0, oO 8 (.bin .leq 3 (.tmp 6) (.tmp 7)), oM 9 8, oG 10 (.mv (.tmp 0)) 9 true, oG 11 (.mv (.tmp 1)) 9 true, oG 12 (.bin .leq 3 (.tmp 10) (.tmp 11)) 9 true, oO 13 (.pick (.tmp 9) (.tmp 12) (.const (.bool false))), oM 4 13]
def tr122 : List (Nat × Tidy) := [tT 0 [0, 1], tT 1 [4]]
def tl122 : List (Nat × Tidy) := []
def rs122 : List AResV := [.tmp 4]
def pr122_0_0 : PT (List RV) := pRs [pR false [rD dB]]
def ur122_0_0 {β : Type} (g : List RV → β) : Bool → β := pr122_0_0.unc g
def E122_0g  : EnvK := EnvK.of [] noSeq
noncomputable def E122_0 : EnvK := E122_0g 
theorem eo122_0 : E122_0.Ok Try.prog := EnvK.of_ok noSeq_ok trivial
abbrev Tf122_0 : Type 1 := (α : Type) → Int → Int → (Bool → Option α) → Option α
def f122_0g  (α : Type) (x1 x2 : Int) (k1 : Bool → Option α) : Option α :=
 cK (decide ((w64 (0 - x2)) ≤ x1))
 (k1 (decide (x1 ≤ x2)))
 (k1 false)
noncomputable def f122_0 (α : Type) (x1 x2 : Int) (k1 : Bool → Option α) : Option α := f122_0g  α x1 x2 k1
def pa122_0 : PT (List DV) := pA [pV false [(dI .i64)], pV false [(dI .i64)]]
def Fn122_0 (v : Tf122_0) (α : Type) (k : List RV → Option α) : Int → Int → Option α := fun x1 x2 => v α x1 x2 (fun (y1 : Bool) => ur122_0_0 k y1)
noncomputable def cm122_0g  : MCode := (.seq (.region r122_2 [] (tO [0, 1])) (.seq (.region r122_4 [] (tO [4])) .ret))
noncomputable def cm122_0 : MCode := cm122_0g 
theorem gm122_0 : cm122_0.Good Try.prog E122_0 sh122 := ⟨trivial, ⟨trivial, trivial⟩⟩
theorem fm122_0g   (α : Type) (k : List RV → Option α) : Fn122_0 (f122_0g ) α k = pa122_0.unc fun ds => fnM Try.prog (E122_0g ) sh122 (cm122_0g ) rs122 k ds := by kernel_rfl
theorem fm122_0 : ∀ (α : Type) (k : List RV → Option α), Fn122_0 f122_0 α k = pa122_0.unc fun ds => fnM Try.prog E122_0 sh122 cm122_0 rs122 k ds := fm122_0g 
theorem is122 : FnIs Try.prog 122 nt122 tr122 tl122 cm122_0.erase rs122 := ⟨Try.f122, Try.func122, rfl, by kernel_rfl, by kernel_rfl, by kernel_rfl⟩
theorem io122_0 : InstOk Try.prog 122 nt122 ⟨pa122_0, Fn122_0 f122_0⟩ := inst_ok eo122_0 followsTry is122 ⟨⟨sh122, cm122_0, by kernel_rfl, gm122_0, fm122_0⟩⟩
abbrev nt77 : Nat := 20
def sh77 : List (Nat × List Sh) := [(5, [.int .i64]), (9, [.int .i64]), (14, [.int .i64]), (17, [.int .i64])]
def r77_2 : List AOper := [oO 1 (.box (.tmp 0)), oO 2 (.alloc [(cI 0), (cI 0)]), oO 3 (.mv (kI 0))]
def r77_5 : List AOper := [oO 4 (.faddr 0 (.tmp 1)), oO 5 (.load false 1 (.tmp 4)), oO 6 (.bin .gtr 3 (.tmp 5) (kI 1048576)), oM 7 6, oG 8 (.faddr 1 (.tmp 1)) 7 false, oG 9 (.load false 1 (.tmp 8)) 7 false, oG 10 (.bin .lss 3 (.tmp 9) (kI (-1048576))) 7 false, oO 11 (.pick (.tmp 7) (.const (.bool true)) (.tmp 10))]
def r77_8 : List AOper := [oO 12 (.build [(cI 0), (cI 0)] []), oD (.store 2 (.tmp 2) (.tmp 12)), oO 3 (.mv (kI 24))]
def r77_10 : List AOper := [oO 13 (.faddr 0 (.tmp 1)), oO 14 (.load false 1 (.tmp 13)), oO 15 (.pure (oB (.call { callee := .builtin .max, args := #[(.tmp 14), (kI (-1048576))], argTypes := #[3, 3] }) 3)), oO 16 (.faddr 1 (.tmp 1)), oO 17 (.load false 1 (.tmp 16)), oO 18 (.pure (oB (.call { callee := .builtin .min, args := #[(.tmp 17), (kI 1048576)], argTypes := #[3, 3] }) 3)), oO 19 (.build [(cI 0), (cI 0)] [(0, 1, (.tmp 15)), (1, 1, (.tmp 18))]), oD (.store 2 (.tmp 2) (.tmp 19)), oO 3 (.mv (kI 0))]
def tr77 : List (Nat × Tidy) := [tT 0 [1, 2], tT 1 [1, 2, 11], tT 2 [2, 3], tT 3 [2, 3]]
def tl77 : List (Nat × Tidy) := []
def rs77 : List AResV := [.cell 2 true 2, .tmp 3]
def pr77_0_0 : PT (List RV) := pRs [pR true [rD (dI .i64), rD (dI .i64)], pR false [rD (dI .i64)]]
def ur77_0_0 {β : Type} (g : List RV → β) : Int → Int → Int → β := pr77_0_0.unc g
def E77_0g  : EnvK := EnvK.of [] noSeq
noncomputable def E77_0 : EnvK := E77_0g 
theorem eo77_0 : E77_0.Ok Try.prog := EnvK.of_ok noSeq_ok trivial
abbrev Tf77_0 : Type 1 := (α : Type) → Int → Int → (Int → Int → Int → Option α) → Option α
def f77_0g  (α : Type) (x1 x2 : Int) (k1 : Int → Int → Int → Option α) : Option α :=
 cK (decide (1048576 < x1))
 (k1 0 0 24)
 (cK (decide (x2 < (-1048576)))
 (k1 0 0 24)
 (k1 (if (-1048576) > x1 then (-1048576) else x1) (if 1048576 < x2 then 1048576 else x2) 0))
noncomputable def f77_0 (α : Type) (x1 x2 : Int) (k1 : Int → Int → Int → Option α) : Option α := f77_0g  α x1 x2 k1
def pa77_0 : PT (List DV) := pA [pV true [(dI .i64), (dI .i64)]]
def Fn77_0 (v : Tf77_0) (α : Type) (k : List RV → Option α) : Int → Int → Option α := fun x1 x2 => v α x1 x2 (fun (y1 : Int) (y2 : Int) (y3 : Int) => ur77_0_0 k y1 y2 y3)
noncomputable def cm77_0g  : MCode := (.seq (.region r77_2 [] (tO [1, 2])) (.seq (.seq (.region r77_5 [] (tO [1, 2, 11])) (.cond (.tmp 11) (.seq (.region r77_8 [] (tO [2, 3])) .ret) .skip)) (.seq (.region r77_10 [] (tO [2, 3])) .ret)))
noncomputable def cm77_0 : MCode := cm77_0g 
theorem gm77_0 : cm77_0.Good Try.prog E77_0 sh77 := ⟨trivial, ⟨⟨trivial, ⟨⟨trivial, trivial⟩, trivial⟩⟩, ⟨trivial, trivial⟩⟩⟩
theorem fm77_0g   (α : Type) (k : List RV → Option α) : Fn77_0 (f77_0g ) α k = pa77_0.unc fun ds => fnM Try.prog (E77_0g ) sh77 (cm77_0g ) rs77 k ds := by kernel_rfl
theorem fm77_0 : ∀ (α : Type) (k : List RV → Option α), Fn77_0 f77_0 α k = pa77_0.unc fun ds => fnM Try.prog E77_0 sh77 cm77_0 rs77 k ds := fm77_0g 
theorem is77 : FnIs Try.prog 77 nt77 tr77 tl77 cm77_0.erase rs77 := ⟨Try.f77, Try.func77, rfl, by kernel_rfl, by kernel_rfl, by kernel_rfl⟩
theorem io77_0 : InstOk Try.prog 77 nt77 ⟨pa77_0, Fn77_0 f77_0⟩ := inst_ok eo77_0 followsTry is77 ⟨⟨sh77, cm77_0, by kernel_rfl, gm77_0, fm77_0⟩⟩
abbrev nt78 : Nat := 23
def sh78 : List (Nat × List Sh) := []
def r78_2 : List AOper := [oO 4 (.mv (kI 0))]
def r78_4 : List AOper := [oM 6 0, oM 7 1, oO 8 (.bin .quo 3 (.tmp 6) (.tmp 7)), oM 5 8]
def r78_7 : List AOper := [oM 9 0, oM 10 1, oO 11 (.bin .rem 3 (.tmp 9) (.tmp 10)), oO 12 (.bin .neq 3 (.tmp 11) (kI 0)), oM 13 12, oG 14 (.mv (.tmp 0)) 13 true, oG 15 (.bin .lss 3 (.tmp 14) (kI 0)) 13 true, oG 16 (.mv (.tmp 1)) 13 true, oG 17 (.bin .lss 3 (.tmp 16) (kI 0)) 13 true, oG 18 (.bin .neq 4 (.tmp 15) (.tmp 17)) 13 true, oO 19 (.pick (.tmp 13) (.tmp 18) (.const (.bool false)))]
def r78_9 : List AOper := [oM 20 5, oO 21 (.bin .sub 3 (.tmp 20) (kI 1)), oM 5 21]
def r78_11 : List AOper := [oM 22 5, oM 4 22]
def tr78 : List (Nat × Tidy) := [tT 0 [0, 1], tT 1 [0, 1, 5], tT 2 [5, 19], tT 3 [5], tT 4 [4]]
def tl78 : List (Nat × Tidy) := []
def rs78 : List AResV := [.tmp 4]
def pr78_0_0 : PT (List RV) := pRs [pR false [rD (dI .i64)]]
def ur78_0_0 {β : Type} (g : List RV → β) : Int → β := pr78_0_0.unc g
def E78_0g  : EnvK := EnvK.of [] noSeq
noncomputable def E78_0 : EnvK := E78_0g 
theorem eo78_0 : E78_0.Ok Try.prog := EnvK.of_ok noSeq_ok trivial
abbrev Tf78_0 : Type 1 := (α : Type) → Int → Int → (Int → Option α) → Option α
def f78_0g  (α : Type) (x1 x2 : Int) (k1 : Int → Option α) : Option α :=
 gK (x2 != 0) (gK (x2 != 0) (cK ((Int.tmod x1 x2) != 0)
 (cK (!((decide (x1 < 0)) == (decide (x2 < 0))))
 (k1 (w64 ((w64 (Int.tdiv x1 x2)) - 1)))
 (k1 (w64 (Int.tdiv x1 x2))))
 (k1 (w64 (Int.tdiv x1 x2)))))
noncomputable def f78_0 (α : Type) (x1 x2 : Int) (k1 : Int → Option α) : Option α := f78_0g  α x1 x2 k1
def pa78_0 : PT (List DV) := pA [pV false [(dI .i64)], pV false [(dI .i64)]]
def Fn78_0 (v : Tf78_0) (α : Type) (k : List RV → Option α) : Int → Int → Option α := fun x1 x2 => v α x1 x2 (fun (y1 : Int) => ur78_0_0 k y1)
noncomputable def cm78_0g  : MCode := (.seq (.region r78_2 [] (tO [0, 1])) (.seq (.region r78_4 [] (tO [0, 1, 5])) (.seq (.seq (.region r78_7 [] (tO [5, 19])) (.cond (.tmp 19) (.region r78_9 [] (tO [5])) .skip)) (.seq (.region r78_11 [] (tO [4])) .ret))))
noncomputable def cm78_0 : MCode := cm78_0g 
theorem gm78_0 : cm78_0.Good Try.prog E78_0 sh78 := ⟨trivial, ⟨trivial, ⟨⟨trivial, ⟨trivial, trivial⟩⟩, ⟨trivial, trivial⟩⟩⟩⟩
theorem fm78_0g   (α : Type) (k : List RV → Option α) : Fn78_0 (f78_0g ) α k = pa78_0.unc fun ds => fnM Try.prog (E78_0g ) sh78 (cm78_0g ) rs78 k ds := by kernel_rfl
theorem fm78_0 : ∀ (α : Type) (k : List RV → Option α), Fn78_0 f78_0 α k = pa78_0.unc fun ds => fnM Try.prog E78_0 sh78 cm78_0 rs78 k ds := fm78_0g 
theorem is78 : FnIs Try.prog 78 nt78 tr78 tl78 cm78_0.erase rs78 := ⟨Try.f78, Try.func78, rfl, by kernel_rfl, by kernel_rfl, by kernel_rfl⟩
theorem io78_0 : InstOk Try.prog 78 nt78 ⟨pa78_0, Fn78_0 f78_0⟩ := inst_ok eo78_0 followsTry is78 ⟨⟨sh78, cm78_0, by kernel_rfl, gm78_0, fm78_0⟩⟩
abbrev nt76 : Nat := 12
def sh76 : List (Nat × List Sh) := []
def r76_2 : List AOper := [oO 4 (.alloc [(cI 0), (cI 0)])]
def r76_4 : List AOper := [oM 5 0, oM 6 1, oO 7 (.bin .sub 3 (.tmp 5) (.tmp 6)), oM 8 0, oM 9 1, oO 10 (.bin .add 3 (.tmp 8) (.tmp 9)), oO 11 (.build [(cI 0), (cI 0)] [(0, 1, (.tmp 7)), (1, 1, (.tmp 10))]), oD (.store 2 (.tmp 4) (.tmp 11))]
def tr76 : List (Nat × Tidy) := [tT 0 [0, 1, 4], tT 1 [4]]
def tl76 : List (Nat × Tidy) := []
def rs76 : List AResV := [.cell 4 true 2]
def pr76_0_0 : PT (List RV) := pRs [pR true [rD (dI .i64), rD (dI .i64)]]
def ur76_0_0 {β : Type} (g : List RV → β) : Int → Int → β := pr76_0_0.unc g
def E76_0g  : EnvK := EnvK.of [] noSeq
noncomputable def E76_0 : EnvK := E76_0g 
theorem eo76_0 : E76_0.Ok Try.prog := EnvK.of_ok noSeq_ok trivial
abbrev Tf76_0 : Type 1 := (α : Type) → Int → Int → (Int → Int → Option α) → Option α
def f76_0g  (α : Type) (x1 x2 : Int) (k1 : Int → Int → Option α) : Option α :=
 k1 (w64 (x1 - x2)) (w64 (x1 + x2))
noncomputable def f76_0 (α : Type) (x1 x2 : Int) (k1 : Int → Int → Option α) : Option α := f76_0g  α x1 x2 k1
def pa76_0 : PT (List DV) := pA [pV false [(dI .i64)], pV false [(dI .i64)]]
def Fn76_0 (v : Tf76_0) (α : Type) (k : List RV → Option α) : Int → Int → Option α := fun x1 x2 => v α x1 x2 (fun (y1 : Int) (y2 : Int) => ur76_0_0 k y1 y2)
noncomputable def cm76_0g  : MCode := (.seq (.region r76_2 [] (tO [0, 1, 4])) (.seq (.region r76_4 [] (tO [4])) .ret))
noncomputable def cm76_0 : MCode := cm76_0g 
theorem gm76_0 : cm76_0.Good Try.prog E76_0 sh76 := ⟨trivial, ⟨trivial, trivial⟩⟩
theorem fm76_0g   (α : Type) (k : List RV → Option α) : Fn76_0 (f76_0g ) α k = pa76_0.unc fun ds => fnM Try.prog (E76_0g ) sh76 (cm76_0g ) rs76 k ds := by kernel_rfl
theorem fm76_0 : ∀ (α : Type) (k : List RV → Option α), Fn76_0 f76_0 α k = pa76_0.unc fun ds => fnM Try.prog E76_0 sh76 cm76_0 rs76 k ds := fm76_0g 
theorem is76 : FnIs Try.prog 76 nt76 tr76 tl76 cm76_0.erase rs76 := ⟨Try.f76, Try.func76, rfl, by kernel_rfl, by kernel_rfl, by kernel_rfl⟩
theorem io76_0 : InstOk Try.prog 76 nt76 ⟨pa76_0, Fn76_0 f76_0⟩ := inst_ok eo76_0 followsTry is76 ⟨⟨sh76, cm76_0, by kernel_rfl, gm76_0, fm76_0⟩⟩
abbrev nt75 : Nat := 24
def sh75 : List (Nat × List Sh) := [(7, [.sl]), (12, [.int .i64]), (13, [.int .i64]), (16, [.int .i64])]
def r75_2 : List AOper := [oO 1 (.box (.tmp 0)), oO 2 (.mv (.const (.slice none 0 0)))]
def r75_4 : List AOper := [oO 3 (.mv (.const (.slice none 0 0)))]
def r75_7 : List AOper := [oO 6 (.faddr 0 (.tmp 1)), oO 7 (.load false 1 (.tmp 6)), oO 8 (.len (.tmp 7)), oO 9 (.mv (kI 0))]
def td75_9 : Option Tidy := (some ⟨[1, 3, 7, 8, 9], true, [⟨false, 3, 0, 20003, 1⟩, ⟨false, 7, 0, 20007, 1⟩, ⟨true, 1, 0, 30100, 1⟩], []⟩)
def r75_11 : List AOper := [oO 10 (.bin .lss 3 (.tmp 9) (.tmp 8))]
def r75_17 : List AOper := [oM 11 9, oO 12 (.iaddr 1 none (.tmp 7) (.tmp 9)), oO 13 (.load false 1 (.tmp 12)), oM 4 11, oM 5 13]
def r75_19 : List AOper := [oM 14 5, oO 15 (.faddr 2 (.tmp 1)), oO 16 (.load false 1 (.tmp 15)), oO 17 (.bin .geq 3 (.tmp 14) (.tmp 16))]
def r75_21 : List AOper := [oM 18 3, oM 19 4, oO 20 (.bslice 1 1 [(.v (.int .i64 0))] [(0, (.tmp 19))]), oO 21 (.append 1 8 (.tmp 18) (.tmp 20)), oM 3 21]
def r75_22 : List AOper := [oO 22 (.bin .add 3 (.tmp 9) (kI 1)), oM 9 22]
def r75_24 : List AOper := [oM 23 3, oM 2 23]
def tr75 : List (Nat × Tidy) := [tT 0 [1], tT 1 [1, 3], tT 2 [1, 3, 7, 8, 9], tT 3 [1, 3, 7, 8, 9, 10], tT 4 [1, 3, 4, 5, 7, 8, 9], tT 5 [1, 3, 4, 7, 8, 9, 17], tT 6 [1, 3, 7, 8, 9], tT 7 [1, 3, 7, 8, 9], (8, ⟨[2], true, [⟨false, 2, 0, 20002, 1⟩], []⟩)]
def tl75 : List (Nat × Tidy) := [(3, ⟨[1, 3, 7, 8, 9], true, [⟨false, 3, 0, 20003, 1⟩, ⟨false, 7, 0, 20007, 1⟩, ⟨true, 1, 0, 30100, 1⟩], []⟩)]
def rs75 : List AResV := [.tmp 2]
def p75_0_0 : PT St := pS [sl 1 (aV false [(cPtr 1 0)]), sl 3 (aV false [(cRef 20003)]), sl 7 (aV false [(cD dL)]), sl 8 (aV false [(cD (dI .i64))]), sl 9 (aV false [(cD (dI .i64))])] [eBox 1 [(cD dL), (cD (dI .i64)), (cD (dI .i64))], eOwn 20003 1]
def u75_0_0 {β : Type} (g : St → β) : Rows → Int → Int → Rows → Int → Int → Rows → β := p75_0_0.unc g
def p75_0_1 : PT St := pS [sl 1 (aV false [(cPtr 1 0)]), sl 3 (aV false [(cRef 20003)]), sl 7 (aV false [(cD dL)]), sl 8 (aV false [(cD (dI .i64))]), sl 9 (aV false [(cD (dI .i64))]), sl 10 (aV false [(cD dB)])] [eBox 1 [(cD dL), (cD (dI .i64)), (cD (dI .i64))], eOwn 20003 1]
def u75_0_1 {β : Type} (g : St → β) : Rows → Int → Int → Bool → Rows → Int → Int → Rows → β := p75_0_1.unc g
def pr75_0_0 : PT (List RV) := pRs [pR false [rO 1]]
def ur75_0_0 {β : Type} (g : List RV → β) : Rows → β := pr75_0_0.unc g
def E75_0g  : EnvK := EnvK.of [] noSeq
noncomputable def E75_0 : EnvK := E75_0g 
theorem eo75_0 : E75_0.Ok Try.prog := EnvK.of_ok noSeq_ok trivial
noncomputable def c75_0_9g  : MCode := (.seq (.region r75_11 [] (tO [1, 3, 7, 8, 9, 10])) (.seq (.cond (.tmp 10) .skip (.exit 0)) (.seq (.block 1 (.seq (.region r75_17 [] (tO [1, 3, 4, 5, 7, 8, 9])) (.seq (.region r75_19 [] (tO [1, 3, 4, 7, 8, 9, 17])) (.cond (.tmp 17) (.region r75_21 [] (tO [1, 3, 7, 8, 9])) .skip)))) (.region r75_22 [] (tO [1, 3, 7, 8, 9])))))
noncomputable def c75_0_9 : MCode := c75_0_9g 
theorem g75_0_9 : c75_0_9.Good Try.prog E75_0 sh75 := ⟨trivial, ⟨⟨trivial, trivial⟩, ⟨⟨trivial, ⟨trivial, ⟨trivial, trivial⟩⟩⟩, trivial⟩⟩⟩
--CODE 9 0
def S75_0_0g  (α : Type) (x4 : Rows) (x5 x9 x6 : Int) (x10 : Rows) (kn : Int → Rows → Option α) (k1 : Int → Bool → Rows → Option α) : Option α :=
 cK (decide (x6 < x5))
 (rowK x4 x6 [.int .i64]
 (fun x12 => cK (decide (x9 ≤ x12))
 (gK (apOk 1 8 x10 [[DC.v (.int .i64 x6)]]) (kn (w64 (x6 + 1)) (x10 ++ [[DC.v (.int .i64 x6)]])))
 (kn (w64 (x6 + 1)) x10)))
 (k1 x6 (decide (x6 < x5)) x10)
noncomputable def S75_0_0 (α : Type) (x4 : Rows) (x5 x9 x6 : Int) (x10 : Rows) (kn : Int → Rows → Option α) (k1 : Int → Bool → Rows → Option α) : Option α := S75_0_0g  α x4 x5 x9 x6 x10 kn k1
noncomputable def R75_0_0 (α : Type) (x4 : Rows) (x5 x9 : Int) (k1 : Int → Bool → Rows → Option α) : Nat → Int → Rows → Option α
 | 0, _, _ => none
 | n + 1, x6, x10 => S75_0_0 α x4 x5 x9 x6 x10 (R75_0_0 α x4 x5 x9 k1 n) k1
noncomputable def L75_0_0 (α : Type) (x4 : Rows) (x5 x9 : Int) (k1 : Int → Bool → Rows → Option α) (x6 : Int) (x10 : Rows) : Option α := R75_0_0 α x4 x5 x9 k1 fuel x6 x10
abbrev TL75_0_0 : Type 1 := (α : Type) → Rows → Int → Int → (Int → Bool → Rows → Option α) → Int → Rows → Option α
def F75_0_0 (v : TL75_0_0) (α : Type) (K : Exit → St → Option α) : Rows → Int → Int → Rows → Int → Int → Rows → Option α := fun x4 x5 x6 x7 x8 x9 x10 => v α x4 x5 x9 (fun (y1 : Int) (y2 : Bool) (y3 : Rows) => u75_0_1 (K (.exit 0)) x4 x5 y1 y2 x7 x8 x9 y3) x6 x10
theorem r75_0_0g   (α : Type) (K : Exit → St → Option α) (Kn : St → Option α) (x4 : Rows) (x5 x6 : Int) (x7 : Rows) (x8 x9 : Int) (x10 : Rows) : u75_0_0 (fun σ => runM Try.prog (E75_0g ) sh75 (c75_0_9g ) (thenK (fun σ => tidyK td75_9 σ Kn) K) σ) x4 x5 x6 x7 x8 x9 x10 = S75_0_0g  α x4 x5 x9 x6 x10 (fun x6 x10 => u75_0_0 Kn x4 x5 x6 x7 x8 x9 x10) (fun (y1 : Int) (y2 : Bool) (y3 : Rows) => u75_0_1 (K (.exit 0)) x4 x5 y1 y2 x7 x8 x9 y3) := by kernel_rfl
theorem r75_0_0 (α : Type) (K : Exit → St → Option α) (Kn : St → Option α) (x4 : Rows) (x5 x6 : Int) (x7 : Rows) (x8 x9 : Int) (x10 : Rows) : u75_0_0 (fun σ => runM Try.prog E75_0 sh75 c75_0_9 (thenK (fun σ => tidyK td75_9 σ Kn) K) σ) x4 x5 x6 x7 x8 x9 x10 = S75_0_0 α x4 x5 x9 x6 x10 (fun x6 x10 => u75_0_0 Kn x4 x5 x6 x7 x8 x9 x10) (fun (y1 : Int) (y2 : Bool) (y3 : Rows) => u75_0_1 (K (.exit 0)) x4 x5 y1 y2 x7 x8 x9 y3) := r75_0_0g  α K Kn x4 x5 x6 x7 x8 x9 x10
theorem t75_0_0 (α : Type) (K : Exit → St → Option α) : ∀ (n : Nat) (x4 : Rows) (x5 x6 : Int) (x7 : Rows) (x8 x9 : Int) (x10 : Rows), R75_0_0 α x4 x5 x9 (fun (y1 : Int) (y2 : Bool) (y3 : Rows) => u75_0_1 (K (.exit 0)) x4 x5 y1 y2 x7 x8 x9 y3) n x6 x10 = u75_0_0 (loopT (runM Try.prog E75_0 sh75 c75_0_9) td75_9 K n) x4 x5 x6 x7 x8 x9 x10 := by
 intro n
 induction n with
 | zero => intros; rfl
 | succ n ih => intro x4 x5 x6 x7 x8 x9 x10; exact (congrArg (fun kn => S75_0_0 α x4 x5 x9 x6 x10 kn (fun (y1 : Int) (y2 : Bool) (y3 : Rows) => u75_0_1 (K (.exit 0)) x4 x5 y1 y2 x7 x8 x9 y3)) (funext fun x6 => funext fun x10 => ih x4 x5 x6 x7 x8 x9 x10)).trans (r75_0_0 α K (loopT (runM Try.prog E75_0 sh75 c75_0_9) td75_9 K n) x4 x5 x6 x7 x8 x9 x10).symm
theorem m75_0_0 : ∀ (α : Type) (K : Exit → St → Option α), F75_0_0 L75_0_0 α K = p75_0_0.unc fun σ => loopT (runM Try.prog E75_0 sh75 c75_0_9) td75_9 K fuel σ := fun α K => funext fun x4 => funext fun x5 => funext fun x6 => funext fun x7 => funext fun x8 => funext fun x9 => funext fun x10 => t75_0_0 α K fuel x4 x5 x6 x7 x8 x9 x10
abbrev Tf75_0 : Type 1 := (α : Type) → Rows → Int → Int → (Rows → Option α) → Option α
def f75_0g (vL75_0_0 : TL75_0_0) (α : Type) (x1 : Rows) (x2 x3 : Int) (k1 : Rows → Option α) : Option α :=
 vL75_0_0 α x1 ((List.length x1 : Nat) : Int) x3
 (fun x13 x14 x15 => k1 x15) 0 ([] : Rows)
noncomputable def f75_0 (α : Type) (x1 : Rows) (x2 x3 : Int) (k1 : Rows → Option α) : Option α := f75_0g L75_0_0 α x1 x2 x3 k1
def pa75_0 : PT (List DV) := pA [pV true [dL, (dI .i64), (dI .i64)]]
def Fn75_0 (v : Tf75_0) (α : Type) (k : List RV → Option α) : Rows → Int → Int → Option α := fun x1 x2 x3 => v α x1 x2 x3 (fun (y1 : Rows) => ur75_0_0 k y1)
noncomputable def cm75_0g (vL75_0_0 : TL75_0_0) : MCode := (.seq (.region r75_2 [] (tO [1])) (.seq (.region r75_4 [] (tO [1, 3])) (.seq (.seq (.region r75_7 [] (tO [1, 3, 7, 8, 9])) (.block 0 (.loop td75_9 [⟨p75_0_0, F75_0_0 vL75_0_0⟩] c75_0_9))) (.seq (.region r75_24 [] (some ⟨[2], true, [⟨false, 2, 0, 20002, 1⟩], []⟩)) .ret))))
noncomputable def cm75_0 : MCode := cm75_0g L75_0_0
theorem gm75_0 : cm75_0.Good Try.prog E75_0 sh75 := ⟨trivial, ⟨trivial, ⟨⟨trivial, ⟨g75_0_9, m75_0_0, trivial⟩⟩, ⟨trivial, trivial⟩⟩⟩⟩
theorem fm75_0g  (vL75_0_0 : TL75_0_0) (α : Type) (k : List RV → Option α) : Fn75_0 (f75_0g vL75_0_0) α k = pa75_0.unc fun ds => fnM Try.prog (E75_0g ) sh75 (cm75_0g vL75_0_0) rs75 k ds := by kernel_rfl
theorem fm75_0 : ∀ (α : Type) (k : List RV → Option α), Fn75_0 f75_0 α k = pa75_0.unc fun ds => fnM Try.prog E75_0 sh75 cm75_0 rs75 k ds := fm75_0g L75_0_0
theorem is75 : FnIs Try.prog 75 nt75 tr75 tl75 cm75_0.erase rs75 := ⟨Try.f75, Try.func75, rfl, by kernel_rfl, by kernel_rfl, by kernel_rfl⟩
theorem io75_0 : InstOk Try.prog 75 nt75 ⟨pa75_0, Fn75_0 f75_0⟩ := inst_ok eo75_0 followsTry is75 ⟨⟨sh75, cm75_0, by kernel_rfl, gm75_0, fm75_0⟩⟩
abbrev nt71 : Nat := 24
def sh71 : List (Nat × List Sh) := []
def r71_2 : List AOper := [oO 2 (.mv (.const (.bool false)))]
def r71_5 : List AOper := [oM 3 0, oM 4 0, oO 5 (.bin .neq 112 (.tmp 3) (.tmp 4)), oM 6 5, oG 7 (.mv (.tmp 0)) 6 false, oG 8 (.mv (.tmp 0)) 6 false, oG 9 (.bin .sub 112 (.tmp 7) (.tmp 8)) 6 false, oG 10 (.bin .neq 112 (.tmp 9) (.const (.float Go.FloatKind.f64 0))) 6 false, oO 11 (.pick (.tmp 6) (.const (.bool true)) (.tmp 10))]
def r71_8 : List AOper := [oO 2 (.mv (.const (.bool false)))]
def r71_11 : List AOper := [oM 12 0, oO 13 (.bin .geq 112 (.tmp 12) (.const (.float Go.FloatKind.f64 14069741636278059008))), oM 14 13, oG 15 (.mv (.tmp 0)) 14 true, oG 16 (.bin .leq 112 (.tmp 15) (.const (.float Go.FloatKind.f64 4846369599423283200))) 14 true, oO 17 (.pick (.tmp 14) (.tmp 16) (.const (.bool false))), oO 18 (.pure (oB (.unOp .not 4 (.tmp 17)) 4))]
def r71_14 : List AOper := [oO 2 (.mv (.const (.bool true)))]
def r71_16 : List AOper := [oM 19 0, oO 20 (.pure (oB (.convert 112 3 (.tmp 19)) 3)), oO 21 (.pure (oB (.convert 3 112 (.tmp 20)) 112)), oM 22 0, oO 23 (.bin .eql 112 (.tmp 21) (.tmp 22)), oM 2 23]
def tr71 : List (Nat × Tidy) := [tT 0 [0], tT 1 [0, 11], tT 2 [2], tT 3 [0, 18], tT 4 [2], tT 5 [2]]
def tl71 : List (Nat × Tidy) := []
def rs71 : List AResV := [.tmp 2]
def pr71_0_0 : PT (List RV) := pRs [pR false [rD dB]]
def ur71_0_0 {β : Type} (g : List RV → β) : Bool → β := pr71_0_0.unc g
def E71_0g  : EnvK := EnvK.of [] noSeq
noncomputable def E71_0 : EnvK := E71_0g 
theorem eo71_0 : E71_0.Ok Try.prog := EnvK.of_ok noSeq_ok trivial
abbrev Tf71_0 : Type 1 := (α : Type) → (Option α) → Option α
def f71_0g  (α : Type)  (k1 : Option α) : Option α :=
 k1
noncomputable def f71_0 (α : Type)  (k1 : Option α) : Option α := f71_0g  α  k1
def pa71_0 : PT (List DV) := pA [pV false [(dNan .f64)]]
def Fn71_0 (v : Tf71_0) (α : Type) (k : List RV → Option α) : Option α := v α  (ur71_0_0 k false)
noncomputable def cm71_0g  : MCode := (.seq (.region r71_2 [] (tO [0])) (.seq (.seq (.region r71_5 [] (tO [0, 11])) (.cond (.tmp 11) (.seq (.region r71_8 [] (tO [2])) .ret) .skip)) (.seq (.seq (.region r71_11 [] (tO [0, 18])) (.cond (.tmp 18) (.seq (.region r71_14 [] (tO [2])) .ret) .skip)) (.seq (.region r71_16 [] (tO [2])) .ret))))
noncomputable def cm71_0 : MCode := cm71_0g 
theorem gm71_0 : cm71_0.Good Try.prog E71_0 sh71 := ⟨trivial, ⟨⟨trivial, ⟨⟨trivial, trivial⟩, trivial⟩⟩, ⟨⟨trivial, ⟨⟨trivial, trivial⟩, trivial⟩⟩, ⟨trivial, trivial⟩⟩⟩⟩
theorem fm71_0g   (α : Type) (k : List RV → Option α) : Fn71_0 (f71_0g ) α k = pa71_0.unc fun ds => fnM Try.prog (E71_0g ) sh71 (cm71_0g ) rs71 k ds := by kernel_rfl
theorem fm71_0 : ∀ (α : Type) (k : List RV → Option α), Fn71_0 f71_0 α k = pa71_0.unc fun ds => fnM Try.prog E71_0 sh71 cm71_0 rs71 k ds := fm71_0g 
theorem is71 : FnIs Try.prog 71 nt71 tr71 tl71 cm71_0.erase rs71 := ⟨Try.f71, Try.func71, rfl, by kernel_rfl, by kernel_rfl, by kernel_rfl⟩
theorem io71_0 : InstOk Try.prog 71 nt71 ⟨pa71_0, Fn71_0 f71_0⟩ := inst_ok eo71_0 followsTry is71 ⟨⟨sh71, cm71_0, by kernel_rfl, gm71_0, fm71_0⟩⟩
def pr71_1_0 : PT (List RV) := pRs [pR false [rD dB]]
def ur71_1_0 {β : Type} (g : List RV → β) : Bool → β := pr71_1_0.unc g
def E71_1g  : EnvK := EnvK.of [] noSeq
noncomputable def E71_1 : EnvK := E71_1g 
theorem eo71_1 : E71_1.Ok Try.prog := EnvK.of_ok noSeq_ok trivial
abbrev Tf71_1 : Type 1 := (α : Type) → Nat → (Bool → Option α) → Option α
def f71_1g  (α : Type) (x1 : Nat) (k1 : Bool → Option α) : Option α :=
 cK ((FloatKind.format .f64).order x1 x1 != some Ordering.eq)
 (k1 false)
 (flN ((FloatKind.format .f64).sub x1 x1)
 (fun x2 => cK ((FloatKind.format .f64).order x2 0 != some Ordering.eq)
 (k1 false)
 (cK ((FloatKind.format .f64).order x1 14069741636278059008 == some Ordering.gt || (FloatKind.format .f64).order x1 14069741636278059008 == some Ordering.eq)
 (cK (!((FloatKind.format .f64).order x1 4846369599423283200 == some Ordering.lt || (FloatKind.format .f64).order x1 4846369599423283200 == some Ordering.eq))
 (k1 true)
 (ivK (f2i .f64 x1 .i64)
 (fun x3 => k1 ((FloatKind.format .f64).order (FloatKind.nearest .f64 x3) x1 == some Ordering.eq))))
 (k1 true)))
 (k1 false))
noncomputable def f71_1 (α : Type) (x1 : Nat) (k1 : Bool → Option α) : Option α := f71_1g  α x1 k1
def pa71_1 : PT (List DV) := pA [pV false [(dF .f64)]]
def Fn71_1 (v : Tf71_1) (α : Type) (k : List RV → Option α) : Nat → Option α := fun x1 => v α x1 (fun (y1 : Bool) => ur71_1_0 k y1)
noncomputable def cm71_1g  : MCode := (.seq (.region r71_2 [] (tO [0])) (.seq (.seq (.region r71_5 [] (tO [0, 11])) (.cond (.tmp 11) (.seq (.region r71_8 [] (tO [2])) .ret) .skip)) (.seq (.seq (.region r71_11 [] (tO [0, 18])) (.cond (.tmp 18) (.seq (.region r71_14 [] (tO [2])) .ret) .skip)) (.seq (.region r71_16 [] (tO [2])) .ret))))
noncomputable def cm71_1 : MCode := cm71_1g 
theorem gm71_1 : cm71_1.Good Try.prog E71_1 sh71 := ⟨trivial, ⟨⟨trivial, ⟨⟨trivial, trivial⟩, trivial⟩⟩, ⟨⟨trivial, ⟨⟨trivial, trivial⟩, trivial⟩⟩, ⟨trivial, trivial⟩⟩⟩⟩
theorem fm71_1g   (α : Type) (k : List RV → Option α) : Fn71_1 (f71_1g ) α k = pa71_1.unc fun ds => fnM Try.prog (E71_1g ) sh71 (cm71_1g ) rs71 k ds := by kernel_rfl
theorem fm71_1 : ∀ (α : Type) (k : List RV → Option α), Fn71_1 f71_1 α k = pa71_1.unc fun ds => fnM Try.prog E71_1 sh71 cm71_1 rs71 k ds := fm71_1g 
theorem io71_1 : InstOk Try.prog 71 nt71 ⟨pa71_1, Fn71_1 f71_1⟩ := inst_ok eo71_1 followsTry is71 ⟨⟨sh71, cm71_1, by kernel_rfl, gm71_1, fm71_1⟩⟩
abbrev nt29 : Nat := 15
def sh29 : List (Nat × List Sh) := []
def r29_2 : List AOper := [oO 6 (.mv (.const (.bool false)))]
def r29_4 : List AOper := [oM 7 1, oM 8 0, oO 9 (.bin .leq 3 (.tmp 7) (.tmp 8)), oM 10 9, oG 11 (.mv (.tmp 0)) 10 true, oG 12 (.mv (.tmp 2)) 10 true, oG 13 (.bin .leq 3 (.tmp 11) (.tmp 12)) 10 true, oO 14 (.pick (.tmp 10) (.tmp 13) (.const (.bool false))), oM 6 14]
def tr29 : List (Nat × Tidy) := [tT 0 [0, 1, 2], tT 1 [6]]
def tl29 : List (Nat × Tidy) := []
def rs29 : List AResV := [.tmp 6]
def pr29_0_0 : PT (List RV) := pRs [pR false [rD dB]]
def ur29_0_0 {β : Type} (g : List RV → β) : Bool → β := pr29_0_0.unc g
def E29_0g  : EnvK := EnvK.of [] noSeq
noncomputable def E29_0 : EnvK := E29_0g 
theorem eo29_0 : E29_0.Ok Try.prog := EnvK.of_ok noSeq_ok trivial
abbrev Tf29_0 : Type 1 := (α : Type) → Int → Int → Int → (Bool → Option α) → Option α
def f29_0g  (α : Type) (x1 x2 x3 : Int) (k1 : Bool → Option α) : Option α :=
 cK (decide (x2 ≤ x1))
 (k1 (decide (x1 ≤ x3)))
 (k1 false)
noncomputable def f29_0 (α : Type) (x1 x2 x3 : Int) (k1 : Bool → Option α) : Option α := f29_0g  α x1 x2 x3 k1
def pa29_0 : PT (List DV) := pA [pV false [(dI .i64)], pV false [(dI .i64)], pV false [(dI .i64)]]
def Fn29_0 (v : Tf29_0) (α : Type) (k : List RV → Option α) : Int → Int → Int → Option α := fun x1 x2 x3 => v α x1 x2 x3 (fun (y1 : Bool) => ur29_0_0 k y1)
noncomputable def cm29_0g  : MCode := (.seq (.region r29_2 [] (tO [0, 1, 2])) (.seq (.region r29_4 [] (tO [6])) .ret))
noncomputable def cm29_0 : MCode := cm29_0g 
theorem gm29_0 : cm29_0.Good Try.prog E29_0 sh29 := ⟨trivial, ⟨trivial, trivial⟩⟩
theorem fm29_0g   (α : Type) (k : List RV → Option α) : Fn29_0 (f29_0g ) α k = pa29_0.unc fun ds => fnM Try.prog (E29_0g ) sh29 (cm29_0g ) rs29 k ds := by kernel_rfl
theorem fm29_0 : ∀ (α : Type) (k : List RV → Option α), Fn29_0 f29_0 α k = pa29_0.unc fun ds => fnM Try.prog E29_0 sh29 cm29_0 rs29 k ds := fm29_0g 
theorem is29 : FnIs Try.prog 29 nt29 tr29 tl29 cm29_0.erase rs29 := ⟨Try.f29, Try.func29, rfl, by kernel_rfl, by kernel_rfl, by kernel_rfl⟩
theorem io29_0 : InstOk Try.prog 29 nt29 ⟨pa29_0, Fn29_0 f29_0⟩ := inst_ok eo29_0 followsTry is29 ⟨⟨sh29, cm29_0, by kernel_rfl, gm29_0, fm29_0⟩⟩
abbrev nt98 : Nat := 15
def sh98 : List (Nat × List Sh) := []
def r98_2 : List AOper := [oO 6 (.mv (.const (.bool false)))]
def r98_4 : List AOper := [oM 7 1, oM 8 0, oO 9 (.bin .leq 3 (.tmp 7) (.tmp 8)), oM 10 9, oG 11 (.mv (.tmp 0)) 10 true, oG 12 (.mv (.tmp 2)) 10 true, oG 13 (.bin .leq 3 (.tmp 11) (.tmp 12)) 10 true, oO 14 (.pick (.tmp 10) (.tmp 13) (.const (.bool false))), oM 6 14]
def tr98 : List (Nat × Tidy) := [tT 0 [0, 1, 2], tT 1 [6]]
def tl98 : List (Nat × Tidy) := []
def rs98 : List AResV := [.tmp 6]
def pr98_0_0 : PT (List RV) := pRs [pR false [rD dB]]
def ur98_0_0 {β : Type} (g : List RV → β) : Bool → β := pr98_0_0.unc g
def E98_0g  : EnvK := EnvK.of [] noSeq
noncomputable def E98_0 : EnvK := E98_0g 
theorem eo98_0 : E98_0.Ok Try.prog := EnvK.of_ok noSeq_ok trivial
abbrev Tf98_0 : Type 1 := (α : Type) → Int → Int → Int → (Bool → Option α) → Option α
def f98_0g  (α : Type) (x1 x2 x3 : Int) (k1 : Bool → Option α) : Option α :=
 cK (decide (x2 ≤ x1))
 (k1 (decide (x1 ≤ x3)))
 (k1 false)
noncomputable def f98_0 (α : Type) (x1 x2 x3 : Int) (k1 : Bool → Option α) : Option α := f98_0g  α x1 x2 x3 k1
def pa98_0 : PT (List DV) := pA [pV false [(dI .i64)], pV false [(dI .i64)], pV false [(dI .i64)]]
def Fn98_0 (v : Tf98_0) (α : Type) (k : List RV → Option α) : Int → Int → Int → Option α := fun x1 x2 x3 => v α x1 x2 x3 (fun (y1 : Bool) => ur98_0_0 k y1)
noncomputable def cm98_0g  : MCode := (.seq (.region r98_2 [] (tO [0, 1, 2])) (.seq (.region r98_4 [] (tO [6])) .ret))
noncomputable def cm98_0 : MCode := cm98_0g 
theorem gm98_0 : cm98_0.Good Try.prog E98_0 sh98 := ⟨trivial, ⟨trivial, trivial⟩⟩
theorem fm98_0g   (α : Type) (k : List RV → Option α) : Fn98_0 (f98_0g ) α k = pa98_0.unc fun ds => fnM Try.prog (E98_0g ) sh98 (cm98_0g ) rs98 k ds := by kernel_rfl
theorem fm98_0 : ∀ (α : Type) (k : List RV → Option α), Fn98_0 f98_0 α k = pa98_0.unc fun ds => fnM Try.prog E98_0 sh98 cm98_0 rs98 k ds := fm98_0g 
theorem is98 : FnIs Try.prog 98 nt98 tr98 tl98 cm98_0.erase rs98 := ⟨Try.f98, Try.func98, rfl, by kernel_rfl, by kernel_rfl, by kernel_rfl⟩
theorem io98_0 : InstOk Try.prog 98 nt98 ⟨pa98_0, Fn98_0 f98_0⟩ := inst_ok eo98_0 followsTry is98 ⟨⟨sh98, cm98_0, by kernel_rfl, gm98_0, fm98_0⟩⟩
abbrev nt121 : Nat := 54
def sh121 : List (Nat × List Sh) := [(12, [.int .u8]), (13, [.int .u8])]
def r121_2 : List AOper := [oO 2 (.mv (.const (.bool false)))]
def r121_5 : List AOper := [oM 6 0, oO 7 (.bytes (.tmp 6)), oO 8 (.len (.tmp 7)), oO 9 (.mv (kI 0))]
def td121_7 : Option Tidy := (some ⟨[0, 7, 8, 9], true, [⟨false, 7, 0, 20007, 1⟩], []⟩)
def r121_9 : List AOper := [oO 10 (.bin .lss 3 (.tmp 9) (.tmp 8))]
def r121_15 : List AOper := [oM 11 9, oO 12 (.iaddr 1 none (.tmp 7) (.tmp 9)), oO 13 (.load false 1 (.tmp 12)), oM 3 11, oM 4 13]
def r121_17 : List AOper := [oM 14 4, oO 15 (.bin .geq 5 (.tmp 14) (.const (.int .u8 97))), oM 16 15, oG 17 (.mv (.tmp 4)) 16 true, oG 18 (.bin .leq 5 (.tmp 17) (.const (.int .u8 122))) 16 true, oO 19 (.pick (.tmp 16) (.tmp 18) (.const (.bool false))), oM 20 19, oG 21 (.mv (.tmp 4)) 20 false, oG 22 (.bin .geq 5 (.tmp 21) (.const (.int .u8 65))) 20 false, oG 23 (.mv (.tmp 22)) 20 false, oG 24 (.mv (.tmp 4)) 23 true, oG 25 (.bin .leq 5 (.tmp 24) (.const (.int .u8 90))) 23 true, oG 26 (.pick (.tmp 23) (.tmp 25) (.const (.bool false))) 20 false, oO 27 (.pick (.tmp 20) (.const (.bool true)) (.tmp 26)), oM 5 27]
def r121_19 : List AOper := [oM 28 5, oO 29 (.pure (oB (.unOp .not 4 (.tmp 28)) 4)), oM 30 29, oG 31 (.mv (.tmp 3)) 30 true, oG 32 (.bin .eql 3 (.tmp 31) (kI 0)) 30 true, oG 33 (.mv (.tmp 32)) 30 true, oG 34 (.mv (.tmp 4)) 33 false, oG 35 (.bin .neq 5 (.tmp 34) (.const (.int .u8 45))) 33 false, oG 36 (.mv (.tmp 35)) 33 false, oG 37 (.mv (.tmp 4)) 36 true, oG 38 (.bin .lss 5 (.tmp 37) (.const (.int .u8 48))) 36 true, oG 39 (.mv (.tmp 38)) 36 true, oG 40 (.mv (.tmp 4)) 39 false, oG 41 (.bin .gtr 5 (.tmp 40) (.const (.int .u8 57))) 39 false, oG 42 (.pick (.tmp 39) (.const (.bool true)) (.tmp 41)) 36 true, oG 43 (.pick (.tmp 36) (.tmp 42) (.const (.bool false))) 33 false, oG 44 (.pick (.tmp 33) (.const (.bool true)) (.tmp 43)) 30 true, oO 45 (.pick (.tmp 30) (.tmp 44) (.const (.bool false)))]
def r121_22 : List AOper := [oO 2 (.mv (.const (.bool false)))]
def r121_23 : List AOper := [oO 46 (.bin .add 3 (.tmp 9) (kI 1)), oM 9 46]
def r121_25 : List AOper := [oM 47 0, ⟨(some 48), (.bin .neq 9 (.tmp 47) (.const (.string ⟨#[]⟩))), none⟩, oM 49 48, oG 50 (.mv (.tmp 0)) 49 true, oG 51 (.pure (oB (.call { callee := .builtin .len, args := #[(.tmp 50)], argTypes := #[9] }) 3)) 49 true, oG 52 (.bin .leq 3 (.tmp 51) (kI 12)) 49 true, oO 53 (.pick (.tmp 49) (.tmp 52) (.const (.bool false))), oM 2 53]
def tr121 : List (Nat × Tidy) := [tT 0 [0], tT 1 [0, 7, 8, 9], tT 2 [0, 7, 8, 9, 10], tT 3 [0, 3, 4, 7, 8, 9], tT 4 [0, 3, 4, 5, 7, 8, 9], tT 5 [0, 7, 8, 9, 45], tT 6 [2], tT 7 [0, 7, 8, 9], tT 8 [2]]
def tl121 : List (Nat × Tidy) := [(2, ⟨[0, 7, 8, 9], true, [⟨false, 7, 0, 20007, 1⟩], []⟩)]
def rs121 : List AResV := [.tmp 2]
def p121_0_0 : PT St := pS [sl 0 (aV false [(cD dS)]), sl 3 (aV false [(cD (dI .i64))]), sl 4 (aV false [(cD (dI .u8))]), sl 7 (aV false [(cRef 20007)]), sl 8 (aV false [(cD (dI .i64))]), sl 9 (aV false [(cD (dI .i64))])] [eOwn 20007 1]
def u121_0_0 {β : Type} (g : St → β) : ByteArray → Int → Int → Int → Int → Rows → β := p121_0_0.unc g
def p121_0_1 : PT St := pS [sl 0 (aV false [(cD dS)]), sl 3 (aV false [(cD (dI .i64))]), sl 4 (aV false [(cD (dI .u8))]), sl 5 (aV false [(cD dB)]), sl 7 (aV false [(cRef 20007)]), sl 8 (aV false [(cD (dI .i64))]), sl 9 (aV false [(cD (dI .i64))])] [eOwn 20007 1]
def u121_0_1 {β : Type} (g : St → β) : ByteArray → Int → Int → Bool → Int → Int → Rows → β := p121_0_1.unc g
def p121_0_2 : PT St := pS [sl 0 (aV false [(cD dS)]), sl 7 (aV false [(cRef 20007)]), sl 8 (aV false [(cD (dI .i64))]), sl 9 (aV false [(cD (dI .i64))]), sl 45 (aV false [(cD dB)])] [eOwn 20007 1]
def u121_0_2 {β : Type} (g : St → β) : ByteArray → Int → Int → Bool → Rows → β := p121_0_2.unc g
def p121_0_3 : PT St := pS [sl 0 (aV false [(cD dS)]), sl 7 (aV false [(cRef 20007)]), sl 8 (aV false [(cD (dI .i64))]), sl 9 (aV false [(cD (dI .i64))])] [eOwn 20007 1]
def u121_0_3 {β : Type} (g : St → β) : ByteArray → Int → Int → Rows → β := p121_0_3.unc g
def p121_0_4 : PT St := pS [sl 2 (aV false [(cD dB)])] []
def u121_0_4 {β : Type} (g : St → β) : Bool → β := p121_0_4.unc g
def p121_0_5 : PT St := pS [sl 0 (aV false [(cD dS)]), sl 7 (aV false [(cRef 20007)]), sl 8 (aV false [(cD (dI .i64))]), sl 9 (aV false [(cD (dI .i64))]), sl 10 (aV false [(cD dB)])] [eOwn 20007 1]
def u121_0_5 {β : Type} (g : St → β) : ByteArray → Int → Int → Bool → Rows → β := p121_0_5.unc g
def pr121_0_0 : PT (List RV) := pRs [pR false [rD dB]]
def ur121_0_0 {β : Type} (g : List RV → β) : Bool → β := pr121_0_0.unc g
def E121_0g  : EnvK := EnvK.of [] noSeq
noncomputable def E121_0 : EnvK := E121_0g 
theorem eo121_0 : E121_0.Ok Try.prog := EnvK.of_ok noSeq_ok trivial
noncomputable def c121_0_18g  : MCode := (.region r121_19 [] (tO [0, 7, 8, 9, 45]))
noncomputable def c121_0_18 : MCode := c121_0_18g 
theorem g121_0_18 : c121_0_18.Good Try.prog E121_0 sh121 := trivial
--CODE 18 0
abbrev TJ121_0_1 : Type 1 := (α : Type) → Int → Int → Bool → (Bool → Option α) → Option α
def J121_0_1g  (α : Type) (x18 x19 : Int) (x20 : Bool) (k1 : Bool → Option α) : Option α :=
 cK (!x20)
 (cK (x18 == 0)
 (k1 true)
 (cK (x19 != 45)
 (cK (decide (x19 < 48))
 (k1 true)
 (k1 (decide (57 < x19))))
 (k1 false)))
 (k1 false)
noncomputable def J121_0_1 (α : Type) (x18 x19 : Int) (x20 : Bool) (k1 : Bool → Option α) : Option α := J121_0_1g  α x18 x19 x20 k1
def F121_0_1 (v : TJ121_0_1) (α : Type) (K : Exit → St → Option α) : ByteArray → Int → Int → Bool → Int → Int → Rows → Option α := fun x17 x18 x19 x20 x21 x22 x23 => v α x18 x19 x20 (fun (y1 : Bool) => u121_0_2 (K .normal) x17 x21 x22 y1 x23) 
theorem m121_0_1g   (α : Type) (K : Exit → St → Option α) : F121_0_1 (J121_0_1g ) α K = p121_0_1.unc fun σ => runM Try.prog (E121_0g ) sh121 (c121_0_18g ) K σ := by kernel_rfl
theorem m121_0_1 : ∀ (α : Type) (K : Exit → St → Option α), F121_0_1 J121_0_1 α K = p121_0_1.unc fun σ => runM Try.prog E121_0 sh121 c121_0_18 K σ := m121_0_1g 
noncomputable def c121_0_16g  : MCode := (.region r121_17 [] (tO [0, 3, 4, 5, 7, 8, 9]))
noncomputable def c121_0_16 : MCode := c121_0_16g 
theorem g121_0_16 : c121_0_16.Good Try.prog E121_0 sh121 := trivial
--CODE 16 0
abbrev TJ121_0_0 : Type 1 := (α : Type) → Int → (Bool → Option α) → Option α
def J121_0_0g  (α : Type) (x10 : Int) (k1 : Bool → Option α) : Option α :=
 cK (decide (97 ≤ x10))
 (cK (decide (x10 ≤ 122))
 (k1 true)
 (cK (decide (65 ≤ x10))
 (k1 (decide (x10 ≤ 90)))
 (k1 false)))
 (cK (decide (65 ≤ x10))
 (k1 (decide (x10 ≤ 90)))
 (k1 false))
noncomputable def J121_0_0 (α : Type) (x10 : Int) (k1 : Bool → Option α) : Option α := J121_0_0g  α x10 k1
def F121_0_0 (v : TJ121_0_0) (α : Type) (K : Exit → St → Option α) : ByteArray → Int → Int → Int → Int → Rows → Option α := fun x8 x9 x10 x11 x12 x13 => v α x10 (fun (y1 : Bool) => u121_0_1 (K .normal) x8 x9 x10 y1 x11 x12 x13) 
theorem m121_0_0g   (α : Type) (K : Exit → St → Option α) : F121_0_0 (J121_0_0g ) α K = p121_0_0.unc fun σ => runM Try.prog (E121_0g ) sh121 (c121_0_16g ) K σ := by kernel_rfl
theorem m121_0_0 : ∀ (α : Type) (K : Exit → St → Option α), F121_0_0 J121_0_0 α K = p121_0_0.unc fun σ => runM Try.prog E121_0 sh121 c121_0_16 K σ := m121_0_0g 
noncomputable def c121_0_7g (vJ121_0_0 : TJ121_0_0) (vJ121_0_1 : TJ121_0_1) : MCode := (.seq (.region r121_9 [] (tO [0, 7, 8, 9, 10])) (.seq (.cond (.tmp 10) .skip (.exit 0)) (.seq (.block 1 (.seq (.region r121_15 [] (tO [0, 3, 4, 7, 8, 9])) (.seq (.mark [⟨p121_0_0, F121_0_0 vJ121_0_0⟩] c121_0_16) (.seq (.mark [⟨p121_0_1, F121_0_1 vJ121_0_1⟩] c121_0_18) (.cond (.tmp 45) (.seq (.region r121_22 [] (tO [2])) .ret) .skip))))) (.region r121_23 [] (tO [0, 7, 8, 9])))))
noncomputable def c121_0_7 : MCode := c121_0_7g J121_0_0 J121_0_1
theorem g121_0_7 : c121_0_7.Good Try.prog E121_0 sh121 := ⟨trivial, ⟨⟨trivial, trivial⟩, ⟨⟨trivial, ⟨⟨g121_0_16, m121_0_0, trivial⟩, ⟨⟨g121_0_18, m121_0_1, trivial⟩, ⟨⟨trivial, trivial⟩, trivial⟩⟩⟩⟩, trivial⟩⟩⟩
--CODE 7 0
def S121_0_2g (vJ121_0_0 : TJ121_0_0) (vJ121_0_1 : TJ121_0_1) (α : Type) (x3 : Int) (x5 : Rows) (x4 : Int) (kn : Int → Option α) (k1 : Option α) (k2 : Int → Bool → Option α) : Option α :=
 cK (decide (x4 < x3))
 (ixK x5 x4 1
 (ldK x5 (Int.toNat x4) 0 [.int .u8]
 (fun x7 => vJ121_0_0 α x7
 (fun x15 => vJ121_0_1 α x4 x7 x15
 (fun x25 => cK x25
 (k1)
 (kn (w64 (x4 + 1))))))))
 (k2 x4 (decide (x4 < x3)))
noncomputable def S121_0_2 (α : Type) (x3 : Int) (x5 : Rows) (x4 : Int) (kn : Int → Option α) (k1 : Option α) (k2 : Int → Bool → Option α) : Option α := S121_0_2g J121_0_0 J121_0_1 α x3 x5 x4 kn k1 k2
noncomputable def R121_0_2 (α : Type) (x3 : Int) (x5 : Rows) (k1 : Option α) (k2 : Int → Bool → Option α) : Nat → Int → Option α
 | 0, _ => none
 | n + 1, x4 => S121_0_2 α x3 x5 x4 (R121_0_2 α x3 x5 k1 k2 n) k1 k2
noncomputable def L121_0_2 (α : Type) (x3 : Int) (x5 : Rows) (k1 : Option α) (k2 : Int → Bool → Option α) (x4 : Int) : Option α := R121_0_2 α x3 x5 k1 k2 fuel x4
abbrev TL121_0_2 : Type 1 := (α : Type) → Int → Rows → (Option α) → (Int → Bool → Option α) → Int → Option α
def F121_0_2 (v : TL121_0_2) (α : Type) (K : Exit → St → Option α) : ByteArray → Int → Int → Rows → Option α := fun x2 x3 x4 x5 => v α x3 x5 (u121_0_4 (K .ret) false) (fun (y1 : Int) (y2 : Bool) => u121_0_5 (K (.exit 0)) x2 x3 y1 y2 x5) x4
theorem r121_0_2g  (vJ121_0_0 : TJ121_0_0) (vJ121_0_1 : TJ121_0_1) (α : Type) (K : Exit → St → Option α) (Kn : St → Option α) (x2 : ByteArray) (x3 x4 : Int) (x5 : Rows) : u121_0_3 (fun σ => runM Try.prog (E121_0g ) sh121 (c121_0_7g vJ121_0_0 vJ121_0_1) (thenK (fun σ => tidyK td121_7 σ Kn) K) σ) x2 x3 x4 x5 = S121_0_2g vJ121_0_0 vJ121_0_1 α x3 x5 x4 (fun x4 => u121_0_3 Kn x2 x3 x4 x5) (u121_0_4 (K .ret) false) (fun (y1 : Int) (y2 : Bool) => u121_0_5 (K (.exit 0)) x2 x3 y1 y2 x5) := by kernel_rfl
theorem r121_0_2 (α : Type) (K : Exit → St → Option α) (Kn : St → Option α) (x2 : ByteArray) (x3 x4 : Int) (x5 : Rows) : u121_0_3 (fun σ => runM Try.prog E121_0 sh121 c121_0_7 (thenK (fun σ => tidyK td121_7 σ Kn) K) σ) x2 x3 x4 x5 = S121_0_2 α x3 x5 x4 (fun x4 => u121_0_3 Kn x2 x3 x4 x5) (u121_0_4 (K .ret) false) (fun (y1 : Int) (y2 : Bool) => u121_0_5 (K (.exit 0)) x2 x3 y1 y2 x5) := r121_0_2g J121_0_0 J121_0_1 α K Kn x2 x3 x4 x5
theorem t121_0_2 (α : Type) (K : Exit → St → Option α) : ∀ (n : Nat) (x2 : ByteArray) (x3 x4 : Int) (x5 : Rows), R121_0_2 α x3 x5 (u121_0_4 (K .ret) false) (fun (y1 : Int) (y2 : Bool) => u121_0_5 (K (.exit 0)) x2 x3 y1 y2 x5) n x4 = u121_0_3 (loopT (runM Try.prog E121_0 sh121 c121_0_7) td121_7 K n) x2 x3 x4 x5 := by
 intro n
 induction n with
 | zero => intros; rfl
 | succ n ih => intro x2 x3 x4 x5; exact (congrArg (fun kn => S121_0_2 α x3 x5 x4 kn (u121_0_4 (K .ret) false) (fun (y1 : Int) (y2 : Bool) => u121_0_5 (K (.exit 0)) x2 x3 y1 y2 x5)) (funext fun x4 => ih x2 x3 x4 x5)).trans (r121_0_2 α K (loopT (runM Try.prog E121_0 sh121 c121_0_7) td121_7 K n) x2 x3 x4 x5).symm
theorem m121_0_2 : ∀ (α : Type) (K : Exit → St → Option α), F121_0_2 L121_0_2 α K = p121_0_3.unc fun σ => loopT (runM Try.prog E121_0 sh121 c121_0_7) td121_7 K fuel σ := fun α K => funext fun x2 => funext fun x3 => funext fun x4 => funext fun x5 => t121_0_2 α K fuel x2 x3 x4 x5
abbrev Tf121_0 : Type 1 := (α : Type) → ByteArray → (Bool → Option α) → Option α
def f121_0g (vL121_0_2 : TL121_0_2) (α : Type) (x1 : ByteArray) (k1 : Bool → Option α) : Option α :=
 gK (decide (ByteArray.size x1 ≤ 9223372036854775807)) (vL121_0_2 α ((List.length (bytesR x1) : Nat) : Int) (bytesR x1)
 (k1 false)
 (fun x27 x28 => cK (!(x1.toList == (⟨#[]⟩ : ByteArray).toList))
 (k1 (decide (((ByteArray.size x1 : Nat) : Int) ≤ 12)))
 (k1 false)) 0)
noncomputable def f121_0 (α : Type) (x1 : ByteArray) (k1 : Bool → Option α) : Option α := f121_0g L121_0_2 α x1 k1
def pa121_0 : PT (List DV) := pA [pV false [dS]]
def Fn121_0 (v : Tf121_0) (α : Type) (k : List RV → Option α) : ByteArray → Option α := fun x1 => v α x1 (fun (y1 : Bool) => ur121_0_0 k y1)
noncomputable def cm121_0g (vL121_0_2 : TL121_0_2) : MCode := (.seq (.region r121_2 [] (tO [0])) (.seq (.seq (.region r121_5 [] (tO [0, 7, 8, 9])) (.block 0 (.loop td121_7 [⟨p121_0_3, F121_0_2 vL121_0_2⟩] c121_0_7))) (.seq (.region r121_25 [] (tO [2])) .ret)))
noncomputable def cm121_0 : MCode := cm121_0g L121_0_2
theorem gm121_0 : cm121_0.Good Try.prog E121_0 sh121 := ⟨trivial, ⟨⟨trivial, ⟨g121_0_7, m121_0_2, trivial⟩⟩, ⟨trivial, trivial⟩⟩⟩
theorem fm121_0g  (vL121_0_2 : TL121_0_2) (α : Type) (k : List RV → Option α) : Fn121_0 (f121_0g vL121_0_2) α k = pa121_0.unc fun ds => fnM Try.prog (E121_0g ) sh121 (cm121_0g vL121_0_2) rs121 k ds := by kernel_rfl
theorem fm121_0 : ∀ (α : Type) (k : List RV → Option α), Fn121_0 f121_0 α k = pa121_0.unc fun ds => fnM Try.prog E121_0 sh121 cm121_0 rs121 k ds := fm121_0g L121_0_2
theorem is121 : FnIs Try.prog 121 nt121 tr121 tl121 cm121_0.erase rs121 := ⟨Try.f121, Try.func121, rfl, by kernel_rfl, by kernel_rfl, by kernel_rfl⟩
theorem io121_0 : InstOk Try.prog 121 nt121 ⟨pa121_0, Fn121_0 f121_0⟩ := inst_ok eo121_0 followsTry is121 ⟨⟨sh121, cm121_0, by kernel_rfl, gm121_0, fm121_0⟩⟩
abbrev nt32 : Nat := 33
def sh32 : List (Nat × List Sh) := [(8, [.int .i64]), (12, [.int .i64]), (17, [.int .i64]), (28, [.int .i64])]
def r32_2 : List AOper := [oO 3 (.box (.tmp 0)), oO 6 (.mv (.const (.bool false)))]
def r32_4 : List AOper := [oO 7 (.faddr 0 (.tmp 3)), oO 8 (.load false 1 (.tmp 7)), oO 9 (.call 29 [(.tmp 8), (kI (-1048576)), (kI 1048576)]), oM 10 9, oG 11 (.faddr 1 (.tmp 3)) 10 true, oG 12 (.load false 1 (.tmp 11)) 10 true, oG 13 (.call 29 [(.tmp 12), (kI (-1048576)), (kI 1048576)]) 10 true, oO 14 (.pick (.tmp 10) (.tmp 13) (.const (.bool false))), oM 15 14, oG 16 (.faddr 0 (.tmp 3)) 15 true, oG 17 (.load false 1 (.tmp 16)) 15 true, oG 18 (.mv (.tmp 2)) 15 true, oG 19 (.bin .mul 3 (.tmp 17) (.tmp 18)) 15 true, oG 20 (.mv (.tmp 1)) 15 true, oG 21 (.bin .mul 3 (.tmp 20) (kI 1048576)) 15 true, oG 22 (.bin .leq 3 (.tmp 19) (.tmp 21)) 15 true, oO 23 (.pick (.tmp 15) (.tmp 22) (.const (.bool false))), oM 24 23, oG 25 (.mv (.tmp 1)) 24 true, oG 26 (.bin .mul 3 (.tmp 25) (kI 1048576)) 24 true, oG 27 (.faddr 1 (.tmp 3)) 24 true, oG 28 (.load false 1 (.tmp 27)) 24 true, oG 29 (.mv (.tmp 2)) 24 true, oG 30 (.bin .mul 3 (.tmp 28) (.tmp 29)) 24 true, oG 31 (.bin .leq 3 (.tmp 26) (.tmp 30)) 24 true, oO 32 (.pick (.tmp 24) (.tmp 31) (.const (.bool false))), oM 6 32]
def tr32 : List (Nat × Tidy) := [tT 0 [1, 2, 3], tT 1 [6]]
def tl32 : List (Nat × Tidy) := []
def rs32 : List AResV := [.tmp 6]
def pr32_0_0 : PT (List RV) := pRs [pR false [rD dB]]
def ur32_0_0 {β : Type} (g : List RV → β) : Bool → β := pr32_0_0.unc g
def E32_0g (vf29_0 : Tf29_0) : EnvK := EnvK.of [⟨29, nt29, [⟨pa29_0, Fn29_0 vf29_0⟩]⟩] noSeq
noncomputable def E32_0 : EnvK := E32_0g f29_0
theorem eo32_0 : E32_0.Ok Try.prog := EnvK.of_ok noSeq_ok ⟨⟨io29_0, trivial⟩, trivial⟩
abbrev Tf32_0 : Type 1 := (α : Type) → Int → Int → Int → Int → (Bool → Option α) → Option α
def f32_0g (vf29_0 : Tf29_0) (α : Type) (x1 x2 x3 x4 : Int) (k1 : Bool → Option α) : Option α :=
 vf29_0 α x1 (-1048576) 1048576
 (fun x5 => cK x5
 (vf29_0 α x2 (-1048576) 1048576
 (fun x6 => cK x6
 (cK (decide ((w64 (x1 * x4)) ≤ (w64 (x3 * 1048576))))
 (k1 (decide ((w64 (x3 * 1048576)) ≤ (w64 (x2 * x4)))))
 (k1 false))
 (k1 false)))
 (k1 false))
noncomputable def f32_0 (α : Type) (x1 x2 x3 x4 : Int) (k1 : Bool → Option α) : Option α := f32_0g f29_0 α x1 x2 x3 x4 k1
def pa32_0 : PT (List DV) := pA [pV true [(dI .i64), (dI .i64)], pV false [(dI .i64)], pV false [(dI .i64)]]
def Fn32_0 (v : Tf32_0) (α : Type) (k : List RV → Option α) : Int → Int → Int → Int → Option α := fun x1 x2 x3 x4 => v α x1 x2 x3 x4 (fun (y1 : Bool) => ur32_0_0 k y1)
noncomputable def cm32_0g  : MCode := (.seq (.region r32_2 [] (tO [1, 2, 3])) (.seq (.region r32_4 [] (tO [6])) .ret))
noncomputable def cm32_0 : MCode := cm32_0g 
theorem gm32_0 : cm32_0.Good Try.prog E32_0 sh32 := ⟨trivial, ⟨trivial, trivial⟩⟩
theorem fm32_0g (vf29_0 : Tf29_0)  (α : Type) (k : List RV → Option α) : Fn32_0 (f32_0g vf29_0) α k = pa32_0.unc fun ds => fnM Try.prog (E32_0g vf29_0) sh32 (cm32_0g ) rs32 k ds := by kernel_rfl
theorem fm32_0 : ∀ (α : Type) (k : List RV → Option α), Fn32_0 f32_0 α k = pa32_0.unc fun ds => fnM Try.prog E32_0 sh32 cm32_0 rs32 k ds := fm32_0g f29_0
theorem is32 : FnIs Try.prog 32 nt32 tr32 tl32 cm32_0.erase rs32 := ⟨Try.f32, Try.func32, rfl, by kernel_rfl, by kernel_rfl, by kernel_rfl⟩
theorem io32_0 : InstOk Try.prog 32 nt32 ⟨pa32_0, Fn32_0 f32_0⟩ := inst_ok eo32_0 followsTry is32 ⟨⟨sh32, cm32_0, by kernel_rfl, gm32_0, fm32_0⟩⟩
abbrev nt92 : Nat := 46
def sh92 : List (Nat × List Sh) := [(4, [.int .i64]), (8, [.int .i64]), (10, [.int .i64]), (13, [.int .i64]), (18, [.int .i64]), (20, [.int .i64]), (23, [.int .i64]), (29, [.int .i64]), (31, [.int .i64]), (34, [.int .i64]), (36, [.int .i64]), (40, [.int .i64]), (42, [.int .i64])]
def r92_2 : List AOper := [oO 1 (.box (.tmp 0)), oO 2 (.mv (kI 0))]
def r92_5 : List AOper := [oO 3 (.faddr 2 (.tmp 1)), oO 4 (.load false 1 (.tmp 3)), oO 5 (.call 29 [(.tmp 4), (kI 1), (kI 1000)]), oO 6 (.pure (oB (.unOp .not 4 (.tmp 5)) 4))]
def r92_8 : List AOper := [oO 2 (.mv (kI 2))]
def r92_11 : List AOper := [oO 7 (.faddr 0 (.tmp 1)), oO 8 (.load false 1 (.tmp 7)), oO 9 (.faddr 2 (.tmp 1)), oO 10 (.load false 1 (.tmp 9)), oO 11 (.pure (oB (.unOp .neg 3 (.tmp 10)) 3)), oO 12 (.faddr 2 (.tmp 1)), oO 13 (.load false 1 (.tmp 12)), oO 14 (.call 29 [(.tmp 8), (.tmp 11), (.tmp 13)]), oO 15 (.pure (oB (.unOp .not 4 (.tmp 14)) 4)), oM 16 15, oG 17 (.faddr 1 (.tmp 1)) 16 false, oG 18 (.load false 1 (.tmp 17)) 16 false, oG 19 (.faddr 2 (.tmp 1)) 16 false, oG 20 (.load false 1 (.tmp 19)) 16 false, oG 21 (.pure (oB (.unOp .neg 3 (.tmp 20)) 3)) 16 false, oG 22 (.faddr 2 (.tmp 1)) 16 false, oG 23 (.load false 1 (.tmp 22)) 16 false, oG 24 (.call 29 [(.tmp 18), (.tmp 21), (.tmp 23)]) 16 false, oG 25 (.pure (oB (.unOp .not 4 (.tmp 24)) 4)) 16 false, oO 26 (.pick (.tmp 16) (.const (.bool true)) (.tmp 25)), oM 27 26, oG 28 (.faddr 0 (.tmp 1)) 27 false, oG 29 (.load false 1 (.tmp 28)) 27 false, oG 30 (.faddr 0 (.tmp 1)) 27 false, oG 31 (.load false 1 (.tmp 30)) 27 false, oG 32 (.bin .mul 3 (.tmp 29) (.tmp 31)) 27 false, oG 33 (.faddr 1 (.tmp 1)) 27 false, oG 34 (.load false 1 (.tmp 33)) 27 false, oG 35 (.faddr 1 (.tmp 1)) 27 false, oG 36 (.load false 1 (.tmp 35)) 27 false, oG 37 (.bin .mul 3 (.tmp 34) (.tmp 36)) 27 false, oG 38 (.bin .add 3 (.tmp 32) (.tmp 37)) 27 false, oG 39 (.faddr 2 (.tmp 1)) 27 false, oG 40 (.load false 1 (.tmp 39)) 27 false, oG 41 (.faddr 2 (.tmp 1)) 27 false, oG 42 (.load false 1 (.tmp 41)) 27 false, oG 43 (.bin .mul 3 (.tmp 40) (.tmp 42)) 27 false, oG 44 (.bin .neq 3 (.tmp 38) (.tmp 43)) 27 false, oO 45 (.pick (.tmp 27) (.const (.bool true)) (.tmp 44))]
def r92_14 : List AOper := [oO 2 (.mv (kI 12))]
def r92_16 : List AOper := [oO 2 (.mv (kI 0))]
def tr92 : List (Nat × Tidy) := [tT 0 [1], tT 1 [1, 6], tT 2 [2], tT 3 [45], tT 4 [2], tT 5 [2]]
def tl92 : List (Nat × Tidy) := []
def rs92 : List AResV := [.tmp 2]
def pr92_0_0 : PT (List RV) := pRs [pR false [rD (dI .i64)]]
def ur92_0_0 {β : Type} (g : List RV → β) : Int → β := pr92_0_0.unc g
def E92_0g (vf29_0 : Tf29_0) : EnvK := EnvK.of [⟨29, nt29, [⟨pa29_0, Fn29_0 vf29_0⟩]⟩] noSeq
noncomputable def E92_0 : EnvK := E92_0g f29_0
theorem eo92_0 : E92_0.Ok Try.prog := EnvK.of_ok noSeq_ok ⟨⟨io29_0, trivial⟩, trivial⟩
abbrev Tf92_0 : Type 1 := (α : Type) → Int → Int → Int → (Int → Option α) → Option α
def f92_0g (vf29_0 : Tf29_0) (α : Type) (x1 x2 x3 : Int) (k1 : Int → Option α) : Option α :=
 vf29_0 α x3 1 1000
 (fun x4 => cK (!x4)
 (k1 2)
 (vf29_0 α x1 (w64 (0 - x3)) x3
 (fun x5 => cK (!x5)
 (k1 12)
 (vf29_0 α x2 (w64 (0 - x3)) x3
 (fun x6 => cK (!x6)
 (k1 12)
 (cK ((w64 ((w64 (x1 * x1)) + (w64 (x2 * x2)))) != (w64 (x3 * x3)))
 (k1 12)
 (k1 0)))))))
noncomputable def f92_0 (α : Type) (x1 x2 x3 : Int) (k1 : Int → Option α) : Option α := f92_0g f29_0 α x1 x2 x3 k1
def pa92_0 : PT (List DV) := pA [pV true [(dI .i64), (dI .i64), (dI .i64)]]
def Fn92_0 (v : Tf92_0) (α : Type) (k : List RV → Option α) : Int → Int → Int → Option α := fun x1 x2 x3 => v α x1 x2 x3 (fun (y1 : Int) => ur92_0_0 k y1)
noncomputable def cm92_0g  : MCode := (.seq (.region r92_2 [] (tO [1])) (.seq (.seq (.region r92_5 [] (tO [1, 6])) (.cond (.tmp 6) (.seq (.region r92_8 [] (tO [2])) .ret) .skip)) (.seq (.seq (.region r92_11 [] (tO [45])) (.cond (.tmp 45) (.seq (.region r92_14 [] (tO [2])) .ret) .skip)) (.seq (.region r92_16 [] (tO [2])) .ret))))
noncomputable def cm92_0 : MCode := cm92_0g 
theorem gm92_0 : cm92_0.Good Try.prog E92_0 sh92 := ⟨trivial, ⟨⟨trivial, ⟨⟨trivial, trivial⟩, trivial⟩⟩, ⟨⟨trivial, ⟨⟨trivial, trivial⟩, trivial⟩⟩, ⟨trivial, trivial⟩⟩⟩⟩
theorem fm92_0g (vf29_0 : Tf29_0)  (α : Type) (k : List RV → Option α) : Fn92_0 (f92_0g vf29_0) α k = pa92_0.unc fun ds => fnM Try.prog (E92_0g vf29_0) sh92 (cm92_0g ) rs92 k ds := by kernel_rfl
theorem fm92_0 : ∀ (α : Type) (k : List RV → Option α), Fn92_0 f92_0 α k = pa92_0.unc fun ds => fnM Try.prog E92_0 sh92 cm92_0 rs92 k ds := fm92_0g f29_0
theorem is92 : FnIs Try.prog 92 nt92 tr92 tl92 cm92_0.erase rs92 := ⟨Try.f92, Try.func92, rfl, by kernel_rfl, by kernel_rfl, by kernel_rfl⟩
theorem io92_0 : InstOk Try.prog 92 nt92 ⟨pa92_0, Fn92_0 f92_0⟩ := inst_ok eo92_0 followsTry is92 ⟨⟨sh92, cm92_0, by kernel_rfl, gm92_0, fm92_0⟩⟩
abbrev nt84 : Nat := 46
def sh84 : List (Nat × List Sh) := [(5, [.int .i64]), (9, [.int .i64]), (14, [.int .i64]), (16, [.int .i64]), (21, [.int .i64]), (23, [.int .i64]), (29, [.int .i64]), (31, [.int .i64]), (34, [.int .i64]), (36, [.int .i64]), (40, [.int .i64]), (42, [.int .i64])]
def r84_2 : List AOper := [oO 1 (.box (.tmp 0)), oO 2 (.mv (kI 0))]
def r84_6 : List AOper := [oO 4 (.faddr 2 (.tmp 1)), oO 5 (.load false 1 (.tmp 4)), oO 6 (.bin .lss 3 (.tmp 5) (kI 1)), oM 7 6, oG 8 (.faddr 2 (.tmp 1)) 7 false, oG 9 (.load false 1 (.tmp 8)) 7 false, oG 10 (.bin .gtr 3 (.tmp 9) (kI 1000)) 7 false, oO 11 (.pick (.tmp 7) (.const (.bool true)) (.tmp 10)), oM 3 11]
def r84_9 : List AOper := [oO 2 (.mv (kI 2))]
def r84_11 : List AOper := [oO 13 (.faddr 0 (.tmp 1)), oO 14 (.load false 1 (.tmp 13)), oO 15 (.faddr 2 (.tmp 1)), oO 16 (.load false 1 (.tmp 15)), oO 17 (.call 122 [(.tmp 14), (.tmp 16)]), oO 18 (.pure (oB (.unOp .not 4 (.tmp 17)) 4)), oM 19 18, oG 20 (.faddr 1 (.tmp 1)) 19 false, oG 21 (.load false 1 (.tmp 20)) 19 false, oG 22 (.faddr 2 (.tmp 1)) 19 false, oG 23 (.load false 1 (.tmp 22)) 19 false, oG 24 (.call 122 [(.tmp 21), (.tmp 23)]) 19 false, oG 25 (.pure (oB (.unOp .not 4 (.tmp 24)) 4)) 19 false, oO 26 (.pick (.tmp 19) (.const (.bool true)) (.tmp 25)), oM 27 26, oG 28 (.faddr 0 (.tmp 1)) 27 false, oG 29 (.load false 1 (.tmp 28)) 27 false, oG 30 (.faddr 0 (.tmp 1)) 27 false, oG 31 (.load false 1 (.tmp 30)) 27 false, oG 32 (.bin .mul 3 (.tmp 29) (.tmp 31)) 27 false, oG 33 (.faddr 1 (.tmp 1)) 27 false, oG 34 (.load false 1 (.tmp 33)) 27 false, oG 35 (.faddr 1 (.tmp 1)) 27 false, oG 36 (.load false 1 (.tmp 35)) 27 false, oG 37 (.bin .mul 3 (.tmp 34) (.tmp 36)) 27 false, oG 38 (.bin .add 3 (.tmp 32) (.tmp 37)) 27 false, oG 39 (.faddr 2 (.tmp 1)) 27 false, oG 40 (.load false 1 (.tmp 39)) 27 false, oG 41 (.faddr 2 (.tmp 1)) 27 false, oG 42 (.load false 1 (.tmp 41)) 27 false, oG 43 (.bin .mul 3 (.tmp 40) (.tmp 42)) 27 false, oG 44 (.bin .neq 3 (.tmp 38) (.tmp 43)) 27 false, oO 45 (.pick (.tmp 27) (.const (.bool true)) (.tmp 44)), oM 12 45]
def r84_14 : List AOper := [oO 2 (.mv (kI 12))]
def r84_16 : List AOper := [oO 2 (.mv (kI 0))]
def tr84 : List (Nat × Tidy) := [tT 0 [1], tT 1 [1, 3], tT 2 [2], tT 3 [12], tT 4 [2], tT 5 [2]]
def tl84 : List (Nat × Tidy) := []
def rs84 : List AResV := [.tmp 2]
def p84_0_0 : PT St := pS [sl 1 (aV false [(cPtr 1 0)])] [eBox 1 [(cD (dI .i64)), (cD (dI .i64)), (cD (dI .i64))]]
def u84_0_0 {β : Type} (g : St → β) : Int → Int → Int → β := p84_0_0.unc g
def p84_0_1 : PT St := pS [sl 1 (aV false [(cPtr 1 0)]), sl 3 (aV false [(cD dB)])] [eBox 1 [(cD (dI .i64)), (cD (dI .i64)), (cD (dI .i64))]]
def u84_0_1 {β : Type} (g : St → β) : Bool → Int → Int → Int → β := p84_0_1.unc g
def pr84_0_0 : PT (List RV) := pRs [pR false [rD (dI .i64)]]
def ur84_0_0 {β : Type} (g : List RV → β) : Int → β := pr84_0_0.unc g
def E84_0g (vf122_0 : Tf122_0) : EnvK := EnvK.of [⟨122, nt122, [⟨pa122_0, Fn122_0 vf122_0⟩]⟩] noSeq
noncomputable def E84_0 : EnvK := E84_0g f122_0
theorem eo84_0 : E84_0.Ok Try.prog := EnvK.of_ok noSeq_ok ⟨⟨io122_0, trivial⟩, trivial⟩
noncomputable def c84_0_5g  : MCode := (.region r84_6 [] (tO [1, 3]))
noncomputable def c84_0_5 : MCode := c84_0_5g 
theorem g84_0_5 : c84_0_5.Good Try.prog E84_0 sh84 := trivial
--CODE 5 0
abbrev TJ84_0_0 : Type 1 := (α : Type) → Int → (Bool → Option α) → Option α
def J84_0_0g  (α : Type) (x6 : Int) (k1 : Bool → Option α) : Option α :=
 cK (decide (x6 < 1))
 (k1 true)
 (k1 (decide (1000 < x6)))
noncomputable def J84_0_0 (α : Type) (x6 : Int) (k1 : Bool → Option α) : Option α := J84_0_0g  α x6 k1
def F84_0_0 (v : TJ84_0_0) (α : Type) (K : Exit → St → Option α) : Int → Int → Int → Option α := fun x4 x5 x6 => v α x6 (fun (y1 : Bool) => u84_0_1 (K .normal) y1 x4 x5 x6) 
theorem m84_0_0g (vf122_0 : Tf122_0)  (α : Type) (K : Exit → St → Option α) : F84_0_0 (J84_0_0g ) α K = p84_0_0.unc fun σ => runM Try.prog (E84_0g vf122_0) sh84 (c84_0_5g ) K σ := by kernel_rfl
theorem m84_0_0 : ∀ (α : Type) (K : Exit → St → Option α), F84_0_0 J84_0_0 α K = p84_0_0.unc fun σ => runM Try.prog E84_0 sh84 c84_0_5 K σ := m84_0_0g f122_0
abbrev Tf84_0 : Type 1 := (α : Type) → Int → Int → Int → (Int → Option α) → Option α
def f84_0g (vJ84_0_0 : TJ84_0_0) (vf122_0 : Tf122_0) (α : Type) (x1 x2 x3 : Int) (k1 : Int → Option α) : Option α :=
 vJ84_0_0 α x3
 (fun x8 => cK x8
 (k1 2)
 (vf122_0 α x1 x3
 (fun x10 => cK (!x10)
 (k1 12)
 (vf122_0 α x2 x3
 (fun x11 => cK (!x11)
 (k1 12)
 (cK ((w64 ((w64 (x1 * x1)) + (w64 (x2 * x2)))) != (w64 (x3 * x3)))
 (k1 12)
 (k1 0)))))))
noncomputable def f84_0 (α : Type) (x1 x2 x3 : Int) (k1 : Int → Option α) : Option α := f84_0g J84_0_0 f122_0 α x1 x2 x3 k1
def pa84_0 : PT (List DV) := pA [pV true [(dI .i64), (dI .i64), (dI .i64)]]
def Fn84_0 (v : Tf84_0) (α : Type) (k : List RV → Option α) : Int → Int → Int → Option α := fun x1 x2 x3 => v α x1 x2 x3 (fun (y1 : Int) => ur84_0_0 k y1)
noncomputable def cm84_0g (vJ84_0_0 : TJ84_0_0) : MCode := (.seq (.region r84_2 [] (tO [1])) (.seq (.block 0 (.seq (.mark [⟨p84_0_0, F84_0_0 vJ84_0_0⟩] c84_0_5) (.cond (.tmp 3) (.seq (.region r84_9 [] (tO [2])) .ret) (.seq (.region r84_11 [] (tO [12])) (.cond (.tmp 12) (.seq (.region r84_14 [] (tO [2])) .ret) .skip))))) (.seq (.region r84_16 [] (tO [2])) .ret)))
noncomputable def cm84_0 : MCode := cm84_0g J84_0_0
theorem gm84_0 : cm84_0.Good Try.prog E84_0 sh84 := ⟨trivial, ⟨⟨⟨g84_0_5, m84_0_0, trivial⟩, ⟨⟨trivial, trivial⟩, ⟨trivial, ⟨⟨trivial, trivial⟩, trivial⟩⟩⟩⟩, ⟨trivial, trivial⟩⟩⟩
theorem fm84_0g (vf122_0 : Tf122_0) (vJ84_0_0 : TJ84_0_0) (α : Type) (k : List RV → Option α) : Fn84_0 (f84_0g vJ84_0_0 vf122_0) α k = pa84_0.unc fun ds => fnM Try.prog (E84_0g vf122_0) sh84 (cm84_0g vJ84_0_0) rs84 k ds := by kernel_rfl
theorem fm84_0 : ∀ (α : Type) (k : List RV → Option α), Fn84_0 f84_0 α k = pa84_0.unc fun ds => fnM Try.prog E84_0 sh84 cm84_0 rs84 k ds := fm84_0g f122_0 J84_0_0
theorem is84 : FnIs Try.prog 84 nt84 tr84 tl84 cm84_0.erase rs84 := ⟨Try.f84, Try.func84, rfl, by kernel_rfl, by kernel_rfl, by kernel_rfl⟩
theorem io84_0 : InstOk Try.prog 84 nt84 ⟨pa84_0, Fn84_0 f84_0⟩ := inst_ok eo84_0 followsTry is84 ⟨⟨sh84, cm84_0, by kernel_rfl, gm84_0, fm84_0⟩⟩
abbrev nt79 : Nat := 10
def sh79 : List (Nat × List Sh) := []
def r79_2 : List AOper := [oO 4 (.mv (kI 0))]
def r79_4 : List AOper := [oM 5 0, oO 6 (.pure (oB (.unOp .neg 3 (.tmp 5)) 3)), oM 7 1, oO 8 (.call 78 [(.tmp 6), (.tmp 7)]), oO 9 (.pure (oB (.unOp .neg 3 (.tmp 8)) 3)), oM 4 9]
def tr79 : List (Nat × Tidy) := [tT 0 [0, 1], tT 1 [4]]
def tl79 : List (Nat × Tidy) := []
def rs79 : List AResV := [.tmp 4]
def pr79_0_0 : PT (List RV) := pRs [pR false [rD (dI .i64)]]
def ur79_0_0 {β : Type} (g : List RV → β) : Int → β := pr79_0_0.unc g
def E79_0g (vf78_0 : Tf78_0) : EnvK := EnvK.of [⟨78, nt78, [⟨pa78_0, Fn78_0 vf78_0⟩]⟩] noSeq
noncomputable def E79_0 : EnvK := E79_0g f78_0
theorem eo79_0 : E79_0.Ok Try.prog := EnvK.of_ok noSeq_ok ⟨⟨io78_0, trivial⟩, trivial⟩
abbrev Tf79_0 : Type 1 := (α : Type) → Int → Int → (Int → Option α) → Option α
def f79_0g (vf78_0 : Tf78_0) (α : Type) (x1 x2 : Int) (k1 : Int → Option α) : Option α :=
 vf78_0 α (w64 (0 - x1)) x2
 (fun x3 => k1 (w64 (0 - x3)))
noncomputable def f79_0 (α : Type) (x1 x2 : Int) (k1 : Int → Option α) : Option α := f79_0g f78_0 α x1 x2 k1
def pa79_0 : PT (List DV) := pA [pV false [(dI .i64)], pV false [(dI .i64)]]
def Fn79_0 (v : Tf79_0) (α : Type) (k : List RV → Option α) : Int → Int → Option α := fun x1 x2 => v α x1 x2 (fun (y1 : Int) => ur79_0_0 k y1)
noncomputable def cm79_0g  : MCode := (.seq (.region r79_2 [] (tO [0, 1])) (.seq (.region r79_4 [] (tO [4])) .ret))
noncomputable def cm79_0 : MCode := cm79_0g 
theorem gm79_0 : cm79_0.Good Try.prog E79_0 sh79 := ⟨trivial, ⟨trivial, trivial⟩⟩
theorem fm79_0g (vf78_0 : Tf78_0)  (α : Type) (k : List RV → Option α) : Fn79_0 (f79_0g vf78_0) α k = pa79_0.unc fun ds => fnM Try.prog (E79_0g vf78_0) sh79 (cm79_0g ) rs79 k ds := by kernel_rfl
theorem fm79_0 : ∀ (α : Type) (k : List RV → Option α), Fn79_0 f79_0 α k = pa79_0.unc fun ds => fnM Try.prog E79_0 sh79 cm79_0 rs79 k ds := fm79_0g f78_0
theorem is79 : FnIs Try.prog 79 nt79 tr79 tl79 cm79_0.erase rs79 := ⟨Try.f79, Try.func79, rfl, by kernel_rfl, by kernel_rfl, by kernel_rfl⟩
theorem io79_0 : InstOk Try.prog 79 nt79 ⟨pa79_0, Fn79_0 f79_0⟩ := inst_ok eo79_0 followsTry is79 ⟨⟨sh79, cm79_0, by kernel_rfl, gm79_0, fm79_0⟩⟩
abbrev nt118 : Nat := 40
def sh118 : List (Nat × List Sh) := []
def r118_2 : List AOper := [oO 6 (.mv (kI 0)), oO 7 (.mv (kI 0))]
def r118_6 : List AOper := [oM 9 0, oM 10 0, oO 11 (.bin .neq 74 (.tmp 9) (.tmp 10)), oM 12 11, oG 13 (.mv (.tmp 0)) 12 false, oG 14 (.mv (.tmp 0)) 12 false, oG 15 (.bin .sub 74 (.tmp 13) (.tmp 14)) 12 false, oG 16 (.bin .neq 74 (.tmp 15) (.const (.float Go.FloatKind.f32 0))) 12 false, oO 17 (.pick (.tmp 12) (.const (.bool true)) (.tmp 16)), oM 8 17]
def r118_9 : List AOper := [oO 6 (.mv (kI 0)), oO 7 (.mv (kI 27))]
def r118_11 : List AOper := [oM 19 0, oO 20 (.bin .gtr 74 (.tmp 19) (.const (.float Go.FloatKind.f32 1317011456))), oM 21 20, oG 22 (.mv (.tmp 0)) 21 false, oG 23 (.bin .lss 74 (.tmp 22) (.const (.float Go.FloatKind.f32 3464495104))) 21 false, oO 24 (.pick (.tmp 21) (.const (.bool true)) (.tmp 23)), oM 18 24]
def r118_14 : List AOper := [oO 6 (.mv (kI 0)), oO 7 (.mv (kI 2))]
def r118_16 : List AOper := [oM 26 0, oO 27 (.pure (oB (.convert 74 3 (.tmp 26)) 3)), oO 28 (.pure (oB (.convert 3 74 (.tmp 27)) 74)), oM 29 0, oO 30 (.bin .neq 74 (.tmp 28) (.tmp 29)), oM 25 30]
def r118_19 : List AOper := [oO 6 (.mv (kI 0)), oO 7 (.mv (kI 27))]
def r118_21 : List AOper := [oM 32 0, oO 33 (.pure (oB (.convert 74 3 (.tmp 32)) 3)), oM 34 1, oM 35 2, oO 36 (.call 98 [(.tmp 33), (.tmp 34), (.tmp 35)]), oO 37 (.pure (oB (.unOp .not 4 (.tmp 36)) 4)), oM 31 37]
def r118_24 : List AOper := [oO 6 (.mv (kI 0)), oO 7 (.mv (kI 2))]
def r118_26 : List AOper := [oM 38 0, oO 39 (.pure (oB (.convert 74 3 (.tmp 38)) 3)), oM 6 39, oO 7 (.mv (kI 0))]
def tr118 : List (Nat × Tidy) := [tT 0 [0, 1, 2], tT 1 [0, 1, 2, 8], tT 2 [6, 7], tT 3 [0, 1, 2, 18], tT 4 [6, 7], tT 5 [0, 1, 2, 25], tT 6 [6, 7], tT 7 [0, 31], tT 8 [6, 7], tT 9 [6, 7]]
def tl118 : List (Nat × Tidy) := []
def rs118 : List AResV := [.tmp 6, .tmp 7]
def p118_0_0 : PT St := pS [sl 0 (aV false [(cD (dF .f32))]), sl 1 (aV false [(cD (dI .i64))]), sl 2 (aV false [(cD (dI .i64))])] []
def u118_0_0 {β : Type} (g : St → β) : Nat → Int → Int → β := p118_0_0.unc g
def p118_0_1 : PT St := pS [sl 0 (aV false [(cD (dF .f32))]), sl 1 (aV false [(cD (dI .i64))]), sl 2 (aV false [(cD (dI .i64))]), sl 8 (aV false [(cD dB)])] []
def u118_0_1 {β : Type} (g : St → β) : Nat → Int → Int → Bool → β := p118_0_1.unc g
def p118_0_2 : PT St := pS [sl 0 (aV false [(cD (dF .f32))]), sl 1 (aV false [(cD (dI .i64))]), sl 2 (aV false [(cD (dI .i64))]), sl 18 (aV false [(cD dB)])] []
def u118_0_2 {β : Type} (g : St → β) : Nat → Int → Int → Bool → β := p118_0_2.unc g
def pr118_0_0 : PT (List RV) := pRs [pR false [rD (dI .i64)], pR false [rD (dI .i64)]]
def ur118_0_0 {β : Type} (g : List RV → β) : Int → Int → β := pr118_0_0.unc g
def E118_0g (vf98_0 : Tf98_0) : EnvK := EnvK.of [⟨98, nt98, [⟨pa98_0, Fn98_0 vf98_0⟩]⟩] noSeq
noncomputable def E118_0 : EnvK := E118_0g f98_0
theorem eo118_0 : E118_0.Ok Try.prog := EnvK.of_ok noSeq_ok ⟨⟨io98_0, trivial⟩, trivial⟩
noncomputable def c118_0_10g  : MCode := (.region r118_11 [] (tO [0, 1, 2, 18]))
noncomputable def c118_0_10 : MCode := c118_0_10g 
theorem g118_0_10 : c118_0_10.Good Try.prog E118_0 sh118 := trivial
--CODE 10 0
abbrev TJ118_0_1 : Type 1 := (α : Type) → Nat → (Bool → Option α) → Option α
def J118_0_1g  (α : Type) (x11 : Nat) (k1 : Bool → Option α) : Option α :=
 cK ((FloatKind.format .f32).order x11 1317011456 == some Ordering.gt)
 (k1 true)
 (k1 ((FloatKind.format .f32).order x11 3464495104 == some Ordering.lt))
noncomputable def J118_0_1 (α : Type) (x11 : Nat) (k1 : Bool → Option α) : Option α := J118_0_1g  α x11 k1
def F118_0_1 (v : TJ118_0_1) (α : Type) (K : Exit → St → Option α) : Nat → Int → Int → Bool → Option α := fun x11 x12 x13 x14 => v α x11 (fun (y1 : Bool) => u118_0_2 (K .normal) x11 x12 x13 y1) 
theorem m118_0_1g (vf98_0 : Tf98_0)  (α : Type) (K : Exit → St → Option α) : F118_0_1 (J118_0_1g ) α K = p118_0_1.unc fun σ => runM Try.prog (E118_0g vf98_0) sh118 (c118_0_10g ) K σ := by kernel_rfl
theorem m118_0_1 : ∀ (α : Type) (K : Exit → St → Option α), F118_0_1 J118_0_1 α K = p118_0_1.unc fun σ => runM Try.prog E118_0 sh118 c118_0_10 K σ := m118_0_1g f98_0
noncomputable def c118_0_5g  : MCode := (.region r118_6 [] (tO [0, 1, 2, 8]))
noncomputable def c118_0_5 : MCode := c118_0_5g 
theorem g118_0_5 : c118_0_5.Good Try.prog E118_0 sh118 := trivial
--CODE 5 0
abbrev TJ118_0_0 : Type 1 := (α : Type) → Nat → (Bool → Option α) → Option α
def J118_0_0g  (α : Type) (x4 : Nat) (k1 : Bool → Option α) : Option α :=
 cK ((FloatKind.format .f32).order x4 x4 != some Ordering.eq)
 (k1 true)
 (flN ((FloatKind.format .f32).sub x4 x4)
 (fun x8 => k1 ((FloatKind.format .f32).order x8 0 != some Ordering.eq))
 (k1 true))
noncomputable def J118_0_0 (α : Type) (x4 : Nat) (k1 : Bool → Option α) : Option α := J118_0_0g  α x4 k1
def F118_0_0 (v : TJ118_0_0) (α : Type) (K : Exit → St → Option α) : Nat → Int → Int → Option α := fun x4 x5 x6 => v α x4 (fun (y1 : Bool) => u118_0_1 (K .normal) x4 x5 x6 y1) 
theorem m118_0_0g (vf98_0 : Tf98_0)  (α : Type) (K : Exit → St → Option α) : F118_0_0 (J118_0_0g ) α K = p118_0_0.unc fun σ => runM Try.prog (E118_0g vf98_0) sh118 (c118_0_5g ) K σ := by kernel_rfl
theorem m118_0_0 : ∀ (α : Type) (K : Exit → St → Option α), F118_0_0 J118_0_0 α K = p118_0_0.unc fun σ => runM Try.prog E118_0 sh118 c118_0_5 K σ := m118_0_0g f98_0
abbrev Tf118_0 : Type 1 := (α : Type) → Nat → Int → Int → (Int → Int → Option α) → Option α
def f118_0g (vJ118_0_0 : TJ118_0_0) (vJ118_0_1 : TJ118_0_1) (vf98_0 : Tf98_0) (α : Type) (x1 : Nat) (x2 x3 : Int) (k1 : Int → Int → Option α) : Option α :=
 vJ118_0_0 α x1
 (fun x9 => cK x9
 (k1 0 27)
 (vJ118_0_1 α x1
 (fun x16 => cK x16
 (k1 0 2)
 (ivK (f2i .f32 x1 .i64)
 (fun x18 => cK ((FloatKind.format .f32).order (FloatKind.nearest .f32 x18) x1 != some Ordering.eq)
 (k1 0 27)
 (ivK (f2i .f32 x1 .i64)
 (fun x19 => vf98_0 α x19 x2 x3
 (fun x20 => cK (!x20)
 (k1 0 2)
 (ivK (f2i .f32 x1 .i64)
 (fun x21 => k1 x21 0))))))))))
noncomputable def f118_0 (α : Type) (x1 : Nat) (x2 x3 : Int) (k1 : Int → Int → Option α) : Option α := f118_0g J118_0_0 J118_0_1 f98_0 α x1 x2 x3 k1
def pa118_0 : PT (List DV) := pA [pV false [(dF .f32)], pV false [(dI .i64)], pV false [(dI .i64)]]
def Fn118_0 (v : Tf118_0) (α : Type) (k : List RV → Option α) : Nat → Int → Int → Option α := fun x1 x2 x3 => v α x1 x2 x3 (fun (y1 : Int) (y2 : Int) => ur118_0_0 k y1 y2)
noncomputable def cm118_0g (vJ118_0_0 : TJ118_0_0) (vJ118_0_1 : TJ118_0_1) : MCode := (.seq (.region r118_2 [] (tO [0, 1, 2])) (.seq (.block 0 (.seq (.mark [⟨p118_0_0, F118_0_0 vJ118_0_0⟩] c118_0_5) (.cond (.tmp 8) (.seq (.region r118_9 [] (tO [6, 7])) .ret) (.seq (.mark [⟨p118_0_1, F118_0_1 vJ118_0_1⟩] c118_0_10) (.cond (.tmp 18) (.seq (.region r118_14 [] (tO [6, 7])) .ret) (.seq (.region r118_16 [] (tO [0, 1, 2, 25])) (.cond (.tmp 25) (.seq (.region r118_19 [] (tO [6, 7])) .ret) (.seq (.region r118_21 [] (tO [0, 31])) (.cond (.tmp 31) (.seq (.region r118_24 [] (tO [6, 7])) .ret) .skip))))))))) (.seq (.region r118_26 [] (tO [6, 7])) .ret)))
noncomputable def cm118_0 : MCode := cm118_0g J118_0_0 J118_0_1
theorem gm118_0 : cm118_0.Good Try.prog E118_0 sh118 := ⟨trivial, ⟨⟨⟨g118_0_5, m118_0_0, trivial⟩, ⟨⟨trivial, trivial⟩, ⟨⟨g118_0_10, m118_0_1, trivial⟩, ⟨⟨trivial, trivial⟩, ⟨trivial, ⟨⟨trivial, trivial⟩, ⟨trivial, ⟨⟨trivial, trivial⟩, trivial⟩⟩⟩⟩⟩⟩⟩⟩, ⟨trivial, trivial⟩⟩⟩
theorem fm118_0g (vf98_0 : Tf98_0) (vJ118_0_0 : TJ118_0_0) (vJ118_0_1 : TJ118_0_1) (α : Type) (k : List RV → Option α) : Fn118_0 (f118_0g vJ118_0_0 vJ118_0_1 vf98_0) α k = pa118_0.unc fun ds => fnM Try.prog (E118_0g vf98_0) sh118 (cm118_0g vJ118_0_0 vJ118_0_1) rs118 k ds := by kernel_rfl
theorem fm118_0 : ∀ (α : Type) (k : List RV → Option α), Fn118_0 f118_0 α k = pa118_0.unc fun ds => fnM Try.prog E118_0 sh118 cm118_0 rs118 k ds := fm118_0g f98_0 J118_0_0 J118_0_1
theorem is118 : FnIs Try.prog 118 nt118 tr118 tl118 cm118_0.erase rs118 := ⟨Try.f118, Try.func118, rfl, by kernel_rfl, by kernel_rfl, by kernel_rfl⟩
theorem io118_0 : InstOk Try.prog 118 nt118 ⟨pa118_0, Fn118_0 f118_0⟩ := inst_ok eo118_0 followsTry is118 ⟨⟨sh118, cm118_0, by kernel_rfl, gm118_0, fm118_0⟩⟩
abbrev nt70 : Nat := 5
def sh70 : List (Nat × List Sh) := []
def r70_2 : List AOper := [oO 2 (.mv (.const (.bool false)))]
def r70_4 : List AOper := [oM 3 0, oO 4 (.call 29 [(.tmp 3), (kI 0), (kI 65535)]), oM 2 4]
def tr70 : List (Nat × Tidy) := [tT 0 [0], tT 1 [2]]
def tl70 : List (Nat × Tidy) := []
def rs70 : List AResV := [.tmp 2]
def pr70_0_0 : PT (List RV) := pRs [pR false [rD dB]]
def ur70_0_0 {β : Type} (g : List RV → β) : Bool → β := pr70_0_0.unc g
def E70_0g (vf29_0 : Tf29_0) : EnvK := EnvK.of [⟨29, nt29, [⟨pa29_0, Fn29_0 vf29_0⟩]⟩] noSeq
noncomputable def E70_0 : EnvK := E70_0g f29_0
theorem eo70_0 : E70_0.Ok Try.prog := EnvK.of_ok noSeq_ok ⟨⟨io29_0, trivial⟩, trivial⟩
abbrev Tf70_0 : Type 1 := (α : Type) → Int → (Bool → Option α) → Option α
def f70_0g (vf29_0 : Tf29_0) (α : Type) (x1 : Int) (k1 : Bool → Option α) : Option α :=
 vf29_0 α x1 0 65535
 (fun x2 => k1 x2)
noncomputable def f70_0 (α : Type) (x1 : Int) (k1 : Bool → Option α) : Option α := f70_0g f29_0 α x1 k1
def pa70_0 : PT (List DV) := pA [pV false [(dI .i64)]]
def Fn70_0 (v : Tf70_0) (α : Type) (k : List RV → Option α) : Int → Option α := fun x1 => v α x1 (fun (y1 : Bool) => ur70_0_0 k y1)
noncomputable def cm70_0g  : MCode := (.seq (.region r70_2 [] (tO [0])) (.seq (.region r70_4 [] (tO [2])) .ret))
noncomputable def cm70_0 : MCode := cm70_0g 
theorem gm70_0 : cm70_0.Good Try.prog E70_0 sh70 := ⟨trivial, ⟨trivial, trivial⟩⟩
theorem fm70_0g (vf29_0 : Tf29_0)  (α : Type) (k : List RV → Option α) : Fn70_0 (f70_0g vf29_0) α k = pa70_0.unc fun ds => fnM Try.prog (E70_0g vf29_0) sh70 (cm70_0g ) rs70 k ds := by kernel_rfl
theorem fm70_0 : ∀ (α : Type) (k : List RV → Option α), Fn70_0 f70_0 α k = pa70_0.unc fun ds => fnM Try.prog E70_0 sh70 cm70_0 rs70 k ds := fm70_0g f29_0
theorem is70 : FnIs Try.prog 70 nt70 tr70 tl70 cm70_0.erase rs70 := ⟨Try.f70, Try.func70, rfl, by kernel_rfl, by kernel_rfl, by kernel_rfl⟩
theorem io70_0 : InstOk Try.prog 70 nt70 ⟨pa70_0, Fn70_0 f70_0⟩ := inst_ok eo70_0 followsTry is70 ⟨⟨sh70, cm70_0, by kernel_rfl, gm70_0, fm70_0⟩⟩
abbrev nt109 : Nat := 10
def sh109 : List (Nat × List Sh) := []
def r109_2 : List AOper := [oO 4 (.mv (.const (.bool false)))]
def r109_4 : List AOper := [oM 5 0, oM 6 1, oO 7 (.pure (oB (.unOp .neg 3 (.tmp 6)) 3)), oM 8 1, oO 9 (.call 98 [(.tmp 5), (.tmp 7), (.tmp 8)]), oM 4 9]
def tr109 : List (Nat × Tidy) := [tT 0 [0, 1], tT 1 [4]]
def tl109 : List (Nat × Tidy) := []
def rs109 : List AResV := [.tmp 4]
def pr109_0_0 : PT (List RV) := pRs [pR false [rD dB]]
def ur109_0_0 {β : Type} (g : List RV → β) : Bool → β := pr109_0_0.unc g
def E109_0g (vf98_0 : Tf98_0) : EnvK := EnvK.of [⟨98, nt98, [⟨pa98_0, Fn98_0 vf98_0⟩]⟩] noSeq
noncomputable def E109_0 : EnvK := E109_0g f98_0
theorem eo109_0 : E109_0.Ok Try.prog := EnvK.of_ok noSeq_ok ⟨⟨io98_0, trivial⟩, trivial⟩
abbrev Tf109_0 : Type 1 := (α : Type) → Int → Int → (Bool → Option α) → Option α
def f109_0g (vf98_0 : Tf98_0) (α : Type) (x1 x2 : Int) (k1 : Bool → Option α) : Option α :=
 vf98_0 α x1 (w64 (0 - x2)) x2
 (fun x3 => k1 x3)
noncomputable def f109_0 (α : Type) (x1 x2 : Int) (k1 : Bool → Option α) : Option α := f109_0g f98_0 α x1 x2 k1
def pa109_0 : PT (List DV) := pA [pV false [(dI .i64)], pV false [(dI .i64)]]
def Fn109_0 (v : Tf109_0) (α : Type) (k : List RV → Option α) : Int → Int → Option α := fun x1 x2 => v α x1 x2 (fun (y1 : Bool) => ur109_0_0 k y1)
noncomputable def cm109_0g  : MCode := (.seq (.region r109_2 [] (tO [0, 1])) (.seq (.region r109_4 [] (tO [4])) .ret))
noncomputable def cm109_0 : MCode := cm109_0g 
theorem gm109_0 : cm109_0.Good Try.prog E109_0 sh109 := ⟨trivial, ⟨trivial, trivial⟩⟩
theorem fm109_0g (vf98_0 : Tf98_0)  (α : Type) (k : List RV → Option α) : Fn109_0 (f109_0g vf98_0) α k = pa109_0.unc fun ds => fnM Try.prog (E109_0g vf98_0) sh109 (cm109_0g ) rs109 k ds := by kernel_rfl
theorem fm109_0 : ∀ (α : Type) (k : List RV → Option α), Fn109_0 f109_0 α k = pa109_0.unc fun ds => fnM Try.prog E109_0 sh109 cm109_0 rs109 k ds := fm109_0g f98_0
theorem is109 : FnIs Try.prog 109 nt109 tr109 tl109 cm109_0.erase rs109 := ⟨Try.f109, Try.func109, rfl, by kernel_rfl, by kernel_rfl, by kernel_rfl⟩
theorem io109_0 : InstOk Try.prog 109 nt109 ⟨pa109_0, Fn109_0 f109_0⟩ := inst_ok eo109_0 followsTry is109 ⟨⟨sh109, cm109_0, by kernel_rfl, gm109_0, fm109_0⟩⟩
abbrev nt83 : Nat := 27
def sh83 : List (Nat × List Sh) := [(17, [.int .i64]), (23, [.int .i64])]
def r83_2 : List AOper := [oO 5 (.box (.tmp 2)), oO 6 (.mv (kI 0))]
def r83_6 : List AOper := [oM 8 0, oO 9 (.call 121 [(.tmp 8)]), oO 10 (.pure (oB (.unOp .not 4 (.tmp 9)) 4)), oM 7 10]
def r83_9 : List AOper := [oO 6 (.mv (kI 3))]
def r83_11 : List AOper := [oM 12 1, oO 13 (.call 98 [(.tmp 12), (kI 1000), (kI 200000)]), oO 14 (.pure (oB (.unOp .not 4 (.tmp 13)) 4)), oM 15 14, oG 16 (.faddr 0 (.tmp 5)) 15 false, oG 17 (.load false 1 (.tmp 16)) 15 false, oG 18 (.call 98 [(.tmp 17), (kI 5000), (kI 80000)]) 15 false, oG 19 (.pure (oB (.unOp .not 4 (.tmp 18)) 4)) 15 false, oO 20 (.pick (.tmp 15) (.const (.bool true)) (.tmp 19)), oM 21 20, oG 22 (.faddr 1 (.tmp 5)) 21 false, oG 23 (.load false 1 (.tmp 22)) 21 false, oG 24 (.call 98 [(.tmp 23), (kI 0), (kI 9999)]) 21 false, oG 25 (.pure (oB (.unOp .not 4 (.tmp 24)) 4)) 21 false, oO 26 (.pick (.tmp 21) (.const (.bool true)) (.tmp 25)), oM 11 26]
def r83_14 : List AOper := [oO 6 (.mv (kI 2))]
def r83_16 : List AOper := [oO 6 (.mv (kI 0))]
def tr83 : List (Nat × Tidy) := [tT 0 [0, 1, 5], tT 1 [1, 5, 7], tT 2 [6], tT 3 [11], tT 4 [6], tT 5 [6]]
def tl83 : List (Nat × Tidy) := []
def rs83 : List AResV := [.tmp 6]
def pr83_0_0 : PT (List RV) := pRs [pR false [rD (dI .i64)]]
def ur83_0_0 {β : Type} (g : List RV → β) : Int → β := pr83_0_0.unc g
def E83_0g (vf121_0 : Tf121_0) (vf98_0 : Tf98_0) : EnvK := EnvK.of [⟨121, nt121, [⟨pa121_0, Fn121_0 vf121_0⟩]⟩, ⟨98, nt98, [⟨pa98_0, Fn98_0 vf98_0⟩]⟩] noSeq
noncomputable def E83_0 : EnvK := E83_0g f121_0 f98_0
theorem eo83_0 : E83_0.Ok Try.prog := EnvK.of_ok noSeq_ok ⟨⟨io121_0, trivial⟩, ⟨io98_0, trivial⟩, trivial⟩
abbrev Tf83_0 : Type 1 := (α : Type) → ByteArray → Int → Int → Int → (Int → Option α) → Option α
def f83_0g (vf121_0 : Tf121_0) (vf98_0 : Tf98_0) (α : Type) (x1 : ByteArray) (x2 x3 x4 : Int) (k1 : Int → Option α) : Option α :=
 vf121_0 α x1
 (fun x5 => cK (!x5)
 (k1 3)
 (vf98_0 α x2 1000 200000
 (fun x6 => cK (!x6)
 (k1 2)
 (vf98_0 α x3 5000 80000
 (fun x7 => cK (!x7)
 (k1 2)
 (vf98_0 α x4 0 9999
 (fun x8 => cK (!x8)
 (k1 2)
 (k1 0))))))))
noncomputable def f83_0 (α : Type) (x1 : ByteArray) (x2 x3 x4 : Int) (k1 : Int → Option α) : Option α := f83_0g f121_0 f98_0 α x1 x2 x3 x4 k1
def pa83_0 : PT (List DV) := pA [pV false [dS], pV false [(dI .i64)], pV true [(dI .i64), (dI .i64)]]
def Fn83_0 (v : Tf83_0) (α : Type) (k : List RV → Option α) : ByteArray → Int → Int → Int → Option α := fun x1 x2 x3 x4 => v α x1 x2 x3 x4 (fun (y1 : Int) => ur83_0_0 k y1)
noncomputable def cm83_0g  : MCode := (.seq (.region r83_2 [] (tO [0, 1, 5])) (.seq (.block 0 (.seq (.region r83_6 [] (tO [1, 5, 7])) (.cond (.tmp 7) (.seq (.region r83_9 [] (tO [6])) .ret) (.seq (.region r83_11 [] (tO [11])) (.cond (.tmp 11) (.seq (.region r83_14 [] (tO [6])) .ret) .skip))))) (.seq (.region r83_16 [] (tO [6])) .ret)))
noncomputable def cm83_0 : MCode := cm83_0g 
theorem gm83_0 : cm83_0.Good Try.prog E83_0 sh83 := ⟨trivial, ⟨⟨trivial, ⟨⟨trivial, trivial⟩, ⟨trivial, ⟨⟨trivial, trivial⟩, trivial⟩⟩⟩⟩, ⟨trivial, trivial⟩⟩⟩
theorem fm83_0g (vf121_0 : Tf121_0) (vf98_0 : Tf98_0)  (α : Type) (k : List RV → Option α) : Fn83_0 (f83_0g vf121_0 vf98_0) α k = pa83_0.unc fun ds => fnM Try.prog (E83_0g vf121_0 vf98_0) sh83 (cm83_0g ) rs83 k ds := by kernel_rfl
theorem fm83_0 : ∀ (α : Type) (k : List RV → Option α), Fn83_0 f83_0 α k = pa83_0.unc fun ds => fnM Try.prog E83_0 sh83 cm83_0 rs83 k ds := fm83_0g f121_0 f98_0
theorem is83 : FnIs Try.prog 83 nt83 tr83 tl83 cm83_0.erase rs83 := ⟨Try.f83, Try.func83, rfl, by kernel_rfl, by kernel_rfl, by kernel_rfl⟩
theorem io83_0 : InstOk Try.prog 83 nt83 ⟨pa83_0, Fn83_0 f83_0⟩ := inst_ok eo83_0 followsTry is83 ⟨⟨sh83, cm83_0, by kernel_rfl, gm83_0, fm83_0⟩⟩
abbrev nt30 : Nat := 5
def sh30 : List (Nat × List Sh) := [(3, [.int .i64, .int .i64, .int .i64])]
def r30_2 : List AOper := [oO 1 (.box (.tmp 0)), oO 2 (.mv (kI 0))]
def r30_4 : List AOper := [oO 3 (.load true 3 (.tmp 1)), oO 4 (.call 92 [(.tmp 3)]), oM 2 4]
def tr30 : List (Nat × Tidy) := [tT 0 [1], tT 1 [2]]
def tl30 : List (Nat × Tidy) := []
def rs30 : List AResV := [.tmp 2]
def pr30_0_0 : PT (List RV) := pRs [pR false [rD (dI .i64)]]
def ur30_0_0 {β : Type} (g : List RV → β) : Int → β := pr30_0_0.unc g
def E30_0g (vf92_0 : Tf92_0) : EnvK := EnvK.of [⟨92, nt92, [⟨pa92_0, Fn92_0 vf92_0⟩]⟩] noSeq
noncomputable def E30_0 : EnvK := E30_0g f92_0
theorem eo30_0 : E30_0.Ok Try.prog := EnvK.of_ok noSeq_ok ⟨⟨io92_0, trivial⟩, trivial⟩
abbrev Tf30_0 : Type 1 := (α : Type) → Int → Int → Int → (Int → Option α) → Option α
def f30_0g (vf92_0 : Tf92_0) (α : Type) (x1 x2 x3 : Int) (k1 : Int → Option α) : Option α :=
 vf92_0 α x1 x2 x3
 (fun x4 => k1 x4)
noncomputable def f30_0 (α : Type) (x1 x2 x3 : Int) (k1 : Int → Option α) : Option α := f30_0g f92_0 α x1 x2 x3 k1
def pa30_0 : PT (List DV) := pA [pV true [(dI .i64), (dI .i64), (dI .i64)]]
def Fn30_0 (v : Tf30_0) (α : Type) (k : List RV → Option α) : Int → Int → Int → Option α := fun x1 x2 x3 => v α x1 x2 x3 (fun (y1 : Int) => ur30_0_0 k y1)
noncomputable def cm30_0g  : MCode := (.seq (.region r30_2 [] (tO [1])) (.seq (.region r30_4 [] (tO [2])) .ret))
noncomputable def cm30_0 : MCode := cm30_0g 
theorem gm30_0 : cm30_0.Good Try.prog E30_0 sh30 := ⟨trivial, ⟨trivial, trivial⟩⟩
theorem fm30_0g (vf92_0 : Tf92_0)  (α : Type) (k : List RV → Option α) : Fn30_0 (f30_0g vf92_0) α k = pa30_0.unc fun ds => fnM Try.prog (E30_0g vf92_0) sh30 (cm30_0g ) rs30 k ds := by kernel_rfl
theorem fm30_0 : ∀ (α : Type) (k : List RV → Option α), Fn30_0 f30_0 α k = pa30_0.unc fun ds => fnM Try.prog E30_0 sh30 cm30_0 rs30 k ds := fm30_0g f92_0
theorem is30 : FnIs Try.prog 30 nt30 tr30 tl30 cm30_0.erase rs30 := ⟨Try.f30, Try.func30, rfl, by kernel_rfl, by kernel_rfl, by kernel_rfl⟩
theorem io30_0 : InstOk Try.prog 30 nt30 ⟨pa30_0, Fn30_0 f30_0⟩ := inst_ok eo30_0 followsTry is30 ⟨⟨sh30, cm30_0, by kernel_rfl, gm30_0, fm30_0⟩⟩
abbrev nt85 : Nat := 27
def sh85 : List (Nat × List Sh) := [(10, [.int .i64]), (14, [.int .i64]), (19, [.int .i64]), (23, [.int .i64])]
def r85_2 : List AOper := [oO 2 (.box (.tmp 0)), oO 3 (.alloc [(cI 0), (cI 0)])]
def r85_4 : List AOper := [oO 6 (.mkfn 86 [(.tmp 1)]), oM 4 6]
def r85_6 : List AOper := [oO 7 (.mkfn 87 [(.tmp 1)]), oM 5 7]
def r85_8 : List AOper := [oM 8 4, oO 9 (.faddr 1 (.tmp 2)), oO 10 (.load false 1 (.tmp 9)), oO 11 (.calld (.tmp 8) [(.tmp 10)]), oM 12 5, oO 13 (.faddr 1 (.tmp 2)), oO 14 (.load false 1 (.tmp 13)), oO 15 (.calld (.tmp 12) [(.tmp 14)]), oO 16 (.call 78 [(.tmp 11), (.tmp 15)]), oM 17 4, oO 18 (.faddr 0 (.tmp 2)), oO 19 (.load false 1 (.tmp 18)), oO 20 (.calld (.tmp 17) [(.tmp 19)]), oM 21 5, oO 22 (.faddr 0 (.tmp 2)), oO 23 (.load false 1 (.tmp 22)), oO 24 (.calld (.tmp 21) [(.tmp 23)]), oO 25 (.call 79 [(.tmp 20), (.tmp 24)]), oO 26 (.build [(cI 0), (cI 0)] [(0, 1, (.tmp 16)), (1, 1, (.tmp 25))]), oD (.store 2 (.tmp 3) (.tmp 26))]
def tr85 : List (Nat × Tidy) := [tT 0 [1, 2, 3], tT 1 [1, 2, 3, 4], tT 2 [2, 3, 4, 5], tT 3 [3]]
def tl85 : List (Nat × Tidy) := []
def rs85 : List AResV := [.cell 3 true 2]
def pr85_0_0 : PT (List RV) := pRs [pR true [rD (dI .i64), rD (dI .i64)]]
def ur85_0_0 {β : Type} (g : List RV → β) : Int → Int → β := pr85_0_0.unc g
def E85_0g (vf86_0 : Tf86_0) (vf87_0 : Tf87_0) (vf78_0 : Tf78_0) (vf79_0 : Tf79_0) : EnvK := EnvK.of [⟨86, nt86, [⟨pa86_0, Fn86_0 vf86_0⟩]⟩, ⟨87, nt87, [⟨pa87_0, Fn87_0 vf87_0⟩]⟩, ⟨78, nt78, [⟨pa78_0, Fn78_0 vf78_0⟩]⟩, ⟨79, nt79, [⟨pa79_0, Fn79_0 vf79_0⟩]⟩] noSeq
noncomputable def E85_0 : EnvK := E85_0g f86_0 f87_0 f78_0 f79_0
theorem eo85_0 : E85_0.Ok Try.prog := EnvK.of_ok noSeq_ok ⟨⟨io86_0, trivial⟩, ⟨io87_0, trivial⟩, ⟨io78_0, trivial⟩, ⟨io79_0, trivial⟩, trivial⟩
abbrev Tf85_0 : Type 1 := (α : Type) → Int → Int → Int → Int → Int → (Int → Int → Option α) → Option α
def f85_0g (vf78_0 : Tf78_0) (vf79_0 : Tf79_0) (vf86_0 : Tf86_0) (vf87_0 : Tf87_0) (α : Type) (x1 x2 x3 x4 x5 : Int) (k1 : Int → Int → Option α) : Option α :=
 vf86_0 α x2 x3 x4 x5
 (fun x6 => vf87_0 α x2 x3 x4 x5
 (fun x7 => vf78_0 α x6 x7
 (fun x8 => vf86_0 α x1 x3 x4 x5
 (fun x9 => vf87_0 α x1 x3 x4 x5
 (fun x10 => vf79_0 α x9 x10
 (fun x11 => k1 x8 x11))))))
noncomputable def f85_0 (α : Type) (x1 x2 x3 x4 x5 : Int) (k1 : Int → Int → Option α) : Option α := f85_0g f78_0 f79_0 f86_0 f87_0 α x1 x2 x3 x4 x5 k1
def pa85_0 : PT (List DV) := pA [pV true [(dI .i64), (dI .i64)], pV false [(dP [(dI .i64), (dI .i64), (dI .i64)] 0)]]
def Fn85_0 (v : Tf85_0) (α : Type) (k : List RV → Option α) : Int → Int → Int → Int → Int → Option α := fun x1 x2 x3 x4 x5 => v α x1 x2 x3 x4 x5 (fun (y1 : Int) (y2 : Int) => ur85_0_0 k y1 y2)
noncomputable def cm85_0g  : MCode := (.seq (.region r85_2 [] (tO [1, 2, 3])) (.seq (.region r85_4 [] (tO [1, 2, 3, 4])) (.seq (.region r85_6 [] (tO [2, 3, 4, 5])) (.seq (.region r85_8 [(3, 6), (3, 11), (7, 11), (8, 11), (3, 15), (7, 15), (8, 15), (12, 15)] (tO [3])) .ret))))
noncomputable def cm85_0 : MCode := cm85_0g 
theorem gm85_0 : cm85_0.Good Try.prog E85_0 sh85 := ⟨trivial, ⟨trivial, ⟨trivial, ⟨trivial, trivial⟩⟩⟩⟩
theorem fm85_0g (vf86_0 : Tf86_0) (vf87_0 : Tf87_0) (vf78_0 : Tf78_0) (vf79_0 : Tf79_0)  (α : Type) (k : List RV → Option α) : Fn85_0 (f85_0g vf78_0 vf79_0 vf86_0 vf87_0) α k = pa85_0.unc fun ds => fnM Try.prog (E85_0g vf86_0 vf87_0 vf78_0 vf79_0) sh85 (cm85_0g ) rs85 k ds := by kernel_rfl
theorem fm85_0 : ∀ (α : Type) (k : List RV → Option α), Fn85_0 f85_0 α k = pa85_0.unc fun ds => fnM Try.prog E85_0 sh85 cm85_0 rs85 k ds := fm85_0g f86_0 f87_0 f78_0 f79_0
theorem is85 : FnIs Try.prog 85 nt85 tr85 tl85 cm85_0.erase rs85 := ⟨Try.f85, Try.func85, rfl, by kernel_rfl, by kernel_rfl, by kernel_rfl⟩
theorem io85_0 : InstOk Try.prog 85 nt85 ⟨pa85_0, Fn85_0 f85_0⟩ := inst_ok eo85_0 followsTry is85 ⟨⟨sh85, cm85_0, by kernel_rfl, gm85_0, fm85_0⟩⟩
abbrev nt67 : Nat := 67
def sh67 : List (Nat × List Sh) := [(12, [.sl]), (26, [.int .i64]), (31, [.int .i64]), (37, [.int .i64]), (39, [.int .i64]), (42, [.sl]), (47, [.flt .f32]), (48, [.flt .f32]), (60, [.sl]), (66, [.sl, .int .i64, .int .i64])]
def r67_2 : List AOper := [oO 1 (.box (.tmp 0)), oO 2 (.alloc [.nils, (cI 0), (cI 0)]), oO 3 (.mv (kI 0)), oO 4 (.mv (kI 0))]
def r67_5 : List AOper := [oO 11 (.faddr 0 (.tmp 1)), oO 12 (.load false 1 (.tmp 11)), oO 13 (.len (.tmp 12)), oM 5 13]
def r67_8 : List AOper := [oM 15 5, oO 16 (.bin .rem 3 (.tmp 15) (kI 4)), oO 17 (.bin .neq 3 (.tmp 16) (kI 0)), oM 18 17, oG 19 (.mv (.tmp 5)) 18 false, oG 20 (.call 98 [(.tmp 19), (kI 4), (kI 64)]) 18 false, oG 21 (.pure (oB (.unOp .not 4 (.tmp 20)) 4)) 18 false, oO 22 (.pick (.tmp 18) (.const (.bool true)) (.tmp 21)), oM 14 22]
def r67_11 : List AOper := [oO 23 (.build [.nils, (cI 0), (cI 0)] []), oD (.store 3 (.tmp 2) (.tmp 23)), oO 3 (.mv (kI 0)), oO 4 (.mv (kI 12))]
def r67_13 : List AOper := [oO 25 (.faddr 1 (.tmp 1)), oO 26 (.load false 1 (.tmp 25)), oO 27 (.call 98 [(.tmp 26), (kI 0), (kI 65535)]), oO 28 (.pure (oB (.unOp .not 4 (.tmp 27)) 4)), oM 29 28, oG 30 (.faddr 2 (.tmp 1)) 29 false, oG 31 (.load false 1 (.tmp 30)) 29 false, oG 32 (.call 98 [(.tmp 31), (kI 1), (kI 65536)]) 29 false, oG 33 (.pure (oB (.unOp .not 4 (.tmp 32)) 4)) 29 false, oO 34 (.pick (.tmp 29) (.const (.bool true)) (.tmp 33)), oM 24 34]
def r67_16 : List AOper := [oO 35 (.build [.nils, (cI 0), (cI 0)] []), oD (.store 3 (.tmp 2) (.tmp 35)), oO 3 (.mv (kI 0)), oO 4 (.mv (kI 2))]
def r67_18 : List AOper := [oO 36 (.faddr 1 (.tmp 1)), oO 37 (.load false 1 (.tmp 36)), oO 38 (.faddr 2 (.tmp 1)), oO 39 (.load false 1 (.tmp 38)), oO 40 (.build [.nils, (cI 0), (cI 0)] [(1, 1, (.tmp 37)), (2, 1, (.tmp 39))]), oO 6 (.alloc [.nils, (cI 0), (cI 0)]), oD (.store 3 (.tmp 6) (.tmp 40))]
def r67_21 : List AOper := [oO 41 (.faddr 0 (.tmp 1)), oO 42 (.load false 1 (.tmp 41)), oO 43 (.len (.tmp 42)), oO 44 (.mv (kI 0))]
def td67_23 : Option Tidy := (some ⟨[2, 6, 42, 43, 44], true, [⟨false, 42, 0, 20042, 1⟩, ⟨true, 1, 0, 30100, 1⟩, ⟨true, 2, 0, 30200, 1⟩, ⟨true, 6, 0, 30600, 1⟩], []⟩)
def r67_25 : List AOper := [oO 45 (.bin .lss 3 (.tmp 44) (.tmp 43))]
def r67_31 : List AOper := [oM 46 44, oO 47 (.iaddr 1 none (.tmp 42) (.tmp 44)), oO 48 (.load false 1 (.tmp 47)), oM 7 46, oM 8 48]
def r67_33 : List AOper := [oM 50 8, oO 51 (.call 118 [(.tmp 50), (kI 0), (kI 65535)]), oM 49 51, oO 52 (.extract 0 (.tmp 49)), oO 53 (.extract 1 (.tmp 49)), oM 9 52, oM 10 53]
def r67_36 : List AOper := [oM 54 10, oO 55 (.bin .neq 28 (.tmp 54) (kI 0))]
def r67_39 : List AOper := [oO 56 (.build [.nils, (cI 0), (cI 0)] []), oM 57 7, oM 58 10, oD (.store 3 (.tmp 2) (.tmp 56)), oM 3 57, oM 4 58]
def r67_40 : List AOper := [oO 59 (.faddr 0 (.tmp 6)), oO 60 (.load false 1 (.tmp 59)), oM 61 9, oO 62 (.bslice 1 1 [(.v (.int .i64 0))] [(0, (.tmp 61))]), oO 63 (.append 1 8 (.tmp 60) (.tmp 62)), oO 64 (.faddr 0 (.tmp 6)), oD (.store 1 (.tmp 64) (.tmp 63))]
def r67_41 : List AOper := [oO 65 (.bin .add 3 (.tmp 44) (kI 1)), oM 44 65]
def r67_43 : List AOper := [oO 66 (.load true 3 (.tmp 6)), oD (.store 3 (.tmp 2) (.tmp 66)), oO 3 (.mv (kI 0)), oO 4 (.mv (kI 0))]
def tr67 : List (Nat × Tidy) := [(0, ⟨[1, 2], true, [⟨true, 2, 0, 30200, 1⟩], []⟩), (1, ⟨[1, 2, 5], true, [⟨true, 2, 0, 30200, 1⟩], []⟩), (2, ⟨[1, 2, 14], true, [⟨true, 2, 0, 30200, 1⟩], []⟩), (3, ⟨[2, 3, 4], true, [⟨true, 2, 0, 30200, 1⟩], []⟩), (4, ⟨[1, 2, 24], true, [⟨true, 2, 0, 30200, 1⟩], []⟩), (5, ⟨[2, 3, 4], true, [⟨true, 2, 0, 30200, 1⟩], []⟩), (6, ⟨[1, 2, 6], true, [⟨true, 2, 0, 30200, 1⟩], []⟩), (7, ⟨[2, 6, 42, 43, 44], true, [⟨true, 2, 0, 30200, 1⟩], []⟩), (8, ⟨[2, 6, 42, 43, 44, 45], true, [⟨true, 2, 0, 30200, 1⟩], []⟩), (9, ⟨[2, 6, 7, 8, 42, 43, 44], true, [⟨true, 2, 0, 30200, 1⟩], []⟩), (10, ⟨[2, 6, 7, 9, 10, 42, 43, 44], true, [⟨true, 2, 0, 30200, 1⟩], []⟩), (11, ⟨[2, 6, 7, 9, 10, 42, 43, 44, 55], true, [⟨true, 2, 0, 30200, 1⟩], []⟩), (12, ⟨[2, 3, 4], true, [⟨true, 2, 0, 30200, 1⟩], []⟩), (13, ⟨[2, 6, 42, 43, 44], true, [⟨true, 2, 0, 30200, 1⟩], []⟩), (14, ⟨[2, 6, 42, 43, 44], true, [⟨true, 2, 0, 30200, 1⟩], []⟩), (15, ⟨[2, 3, 4], true, [⟨true, 2, 0, 30200, 1⟩], []⟩)]
def tl67 : List (Nat × Tidy) := [(8, ⟨[2, 6, 42, 43, 44], true, [⟨false, 42, 0, 20042, 1⟩, ⟨true, 1, 0, 30100, 1⟩, ⟨true, 2, 0, 30200, 1⟩, ⟨true, 6, 0, 30600, 1⟩], []⟩)]
def rs67 : List AResV := [.cell 2 true 3, .tmp 3, .tmp 4]
def p67_0_0 : PT St := pS [sl 1 (aV false [(cPtr 1 0)]), sl 2 (aV false [(cPtr 2 0)]), sl 5 (aV false [(cD (dI .i64))])] [eBox 1 [(cD dL), (cD (dI .i64)), (cD (dI .i64))], eBox 2 [(cRef 30200), (cD (dI .i64)), (cD (dI .i64))], eOwn 30200 1]
def u67_0_0 {β : Type} (g : St → β) : Int → Rows → Int → Int → Int → Int → Rows → β := p67_0_0.unc g
def p67_0_1 : PT St := pS [sl 1 (aV false [(cPtr 1 0)]), sl 2 (aV false [(cPtr 2 0)]), sl 14 (aV false [(cD dB)])] [eBox 1 [(cD dL), (cD (dI .i64)), (cD (dI .i64))], eBox 2 [(cRef 30200), (cD (dI .i64)), (cD (dI .i64))], eOwn 30200 1]
def u67_0_1 {β : Type} (g : St → β) : Bool → Rows → Int → Int → Int → Int → Rows → β := p67_0_1.unc g
def p67_0_2 : PT St := pS [sl 2 (aV false [(cPtr 2 0)]), sl 6 (aV false [(cPtr 6 0)]), sl 42 (aV false [(cD dL)]), sl 43 (aV false [(cD (dI .i64))]), sl 44 (aV false [(cD (dI .i64))])] [eBox 2 [(cRef 30200), (cD (dI .i64)), (cD (dI .i64))], eOwn 30200 1, eBox 6 [(cRef 30600), (cD (dI .i64)), (cD (dI .i64))], eOwn 30600 1]
def u67_0_2 {β : Type} (g : St → β) : Rows → Int → Int → Int → Int → Rows → Int → Int → Rows → β := p67_0_2.unc g
def p67_0_3 : PT St := pS [sl 2 (aV false [(cPtr 2 0)]), sl 3 (aV false [(cD (dI .i64))]), sl 4 (aV false [(cD (dI .i64))])] [eBox 2 [(cRef 30200), (cD (dI .i64)), (cD (dI .i64))], eOwn 30200 1]
def u67_0_3 {β : Type} (g : St → β) : Int → Int → Int → Int → Rows → β := p67_0_3.unc g
def p67_0_4 : PT St := pS [sl 2 (aV false [(cPtr 2 0)]), sl 6 (aV false [(cPtr 6 0)]), sl 42 (aV false [(cD dL)]), sl 43 (aV false [(cD (dI .i64))]), sl 44 (aV false [(cD (dI .i64))]), sl 45 (aV false [(cD dB)])] [eBox 2 [(cRef 30200), (cD (dI .i64)), (cD (dI .i64))], eOwn 30200 1, eBox 6 [(cRef 30600), (cD (dI .i64)), (cD (dI .i64))], eOwn 30600 1]
def u67_0_4 {β : Type} (g : St → β) : Rows → Int → Int → Bool → Int → Int → Rows → Int → Int → Rows → β := p67_0_4.unc g
def pr67_0_0 : PT (List RV) := pRs [pR true [rO 1, rD (dI .i64), rD (dI .i64)], pR false [rD (dI .i64)], pR false [rD (dI .i64)]]
def ur67_0_0 {β : Type} (g : List RV → β) : Rows → Int → Int → Int → Int → β := pr67_0_0.unc g
def E67_0g (vf98_0 : Tf98_0) (vf118_0 : Tf118_0) : EnvK := EnvK.of [⟨98, nt98, [⟨pa98_0, Fn98_0 vf98_0⟩]⟩, ⟨118, nt118, [⟨pa118_0, Fn118_0 vf118_0⟩]⟩] noSeq
noncomputable def E67_0 : EnvK := E67_0g f98_0 f118_0
theorem eo67_0 : E67_0.Ok Try.prog := EnvK.of_ok noSeq_ok ⟨⟨io98_0, trivial⟩, ⟨io118_0, trivial⟩, trivial⟩
noncomputable def c67_0_23g  : MCode := (.seq (.region r67_25 [] (some ⟨[2, 6, 42, 43, 44, 45], true, [⟨true, 2, 0, 30200, 1⟩], []⟩)) (.seq (.cond (.tmp 45) .skip (.exit 1)) (.seq (.block 2 (.seq (.region r67_31 [] (some ⟨[2, 6, 7, 8, 42, 43, 44], true, [⟨true, 2, 0, 30200, 1⟩], []⟩)) (.seq (.region r67_33 [] (some ⟨[2, 6, 7, 9, 10, 42, 43, 44], true, [⟨true, 2, 0, 30200, 1⟩], []⟩)) (.seq (.seq (.region r67_36 [] (some ⟨[2, 6, 7, 9, 10, 42, 43, 44, 55], true, [⟨true, 2, 0, 30200, 1⟩], []⟩)) (.cond (.tmp 55) (.seq (.region r67_39 [] (some ⟨[2, 3, 4], true, [⟨true, 2, 0, 30200, 1⟩], []⟩)) .ret) .skip)) (.region r67_40 [] (some ⟨[2, 6, 42, 43, 44], true, [⟨true, 2, 0, 30200, 1⟩], []⟩)))))) (.region r67_41 [] (some ⟨[2, 6, 42, 43, 44], true, [⟨true, 2, 0, 30200, 1⟩], []⟩)))))
noncomputable def c67_0_23 : MCode := c67_0_23g 
theorem g67_0_23 : c67_0_23.Good Try.prog E67_0 sh67 := ⟨trivial, ⟨⟨trivial, trivial⟩, ⟨⟨trivial, ⟨trivial, ⟨⟨trivial, ⟨⟨trivial, trivial⟩, trivial⟩⟩, trivial⟩⟩⟩, trivial⟩⟩⟩
--CODE 23 0
def S67_0_1g (vf118_0 : Tf118_0) (α : Type) (x17 : Rows) (x18 x19 : Int) (x25 : Rows) (kn : Int → Rows → Option α) (k1 : Int → Int → Option α) (k2 : Int → Bool → Rows → Option α) : Option α :=
 cK (decide (x19 < x18))
 (rowK x17 x19 [.flt .f32]
 (fun x27 => vf118_0 α x27 0 65535
 (fun x28 x29 => cK (x29 != 0)
 (k1 x19 x29)
 (gK (apOk 1 8 x25 [[DC.v (.int .i64 x28)]]) (kn (w64 (x19 + 1)) (x25 ++ [[DC.v (.int .i64 x28)]]))))))
 (k2 x19 (decide (x19 < x18)) x25)
noncomputable def S67_0_1 (α : Type) (x17 : Rows) (x18 x19 : Int) (x25 : Rows) (kn : Int → Rows → Option α) (k1 : Int → Int → Option α) (k2 : Int → Bool → Rows → Option α) : Option α := S67_0_1g f118_0 α x17 x18 x19 x25 kn k1 k2
noncomputable def R67_0_1 (α : Type) (x17 : Rows) (x18 : Int) (k1 : Int → Int → Option α) (k2 : Int → Bool → Rows → Option α) : Nat → Int → Rows → Option α
 | 0, _, _ => none
 | n + 1, x19, x25 => S67_0_1 α x17 x18 x19 x25 (R67_0_1 α x17 x18 k1 k2 n) k1 k2
noncomputable def L67_0_1 (α : Type) (x17 : Rows) (x18 : Int) (k1 : Int → Int → Option α) (k2 : Int → Bool → Rows → Option α) (x19 : Int) (x25 : Rows) : Option α := R67_0_1 α x17 x18 k1 k2 fuel x19 x25
abbrev TL67_0_1 : Type 1 := (α : Type) → Rows → Int → (Int → Int → Option α) → (Int → Bool → Rows → Option α) → Int → Rows → Option α
def F67_0_1 (v : TL67_0_1) (α : Type) (K : Exit → St → Option α) : Rows → Int → Int → Int → Int → Rows → Int → Int → Rows → Option α := fun x17 x18 x19 x20 x21 x22 x23 x24 x25 => v α x17 x18 (fun (y1 : Int) (y2 : Int) => u67_0_3 (K .ret) y1 y2 0 0 ([] : Rows)) (fun (y1 : Int) (y2 : Bool) (y3 : Rows) => u67_0_4 (K (.exit 1)) x17 x18 y1 y2 x20 x21 x22 x23 x24 y3) x19 x25
theorem r67_0_1g (vf98_0 : Tf98_0) (vf118_0 : Tf118_0)  (α : Type) (K : Exit → St → Option α) (Kn : St → Option α) (x17 : Rows) (x18 x19 x20 x21 : Int) (x22 : Rows) (x23 x24 : Int) (x25 : Rows) : u67_0_2 (fun σ => runM Try.prog (E67_0g vf98_0 vf118_0) sh67 (c67_0_23g ) (thenK (fun σ => tidyK td67_23 σ Kn) K) σ) x17 x18 x19 x20 x21 x22 x23 x24 x25 = S67_0_1g vf118_0 α x17 x18 x19 x25 (fun x19 x25 => u67_0_2 Kn x17 x18 x19 x20 x21 x22 x23 x24 x25) (fun (y1 : Int) (y2 : Int) => u67_0_3 (K .ret) y1 y2 0 0 ([] : Rows)) (fun (y1 : Int) (y2 : Bool) (y3 : Rows) => u67_0_4 (K (.exit 1)) x17 x18 y1 y2 x20 x21 x22 x23 x24 y3) := by kernel_rfl
theorem r67_0_1 (α : Type) (K : Exit → St → Option α) (Kn : St → Option α) (x17 : Rows) (x18 x19 x20 x21 : Int) (x22 : Rows) (x23 x24 : Int) (x25 : Rows) : u67_0_2 (fun σ => runM Try.prog E67_0 sh67 c67_0_23 (thenK (fun σ => tidyK td67_23 σ Kn) K) σ) x17 x18 x19 x20 x21 x22 x23 x24 x25 = S67_0_1 α x17 x18 x19 x25 (fun x19 x25 => u67_0_2 Kn x17 x18 x19 x20 x21 x22 x23 x24 x25) (fun (y1 : Int) (y2 : Int) => u67_0_3 (K .ret) y1 y2 0 0 ([] : Rows)) (fun (y1 : Int) (y2 : Bool) (y3 : Rows) => u67_0_4 (K (.exit 1)) x17 x18 y1 y2 x20 x21 x22 x23 x24 y3) := r67_0_1g f98_0 f118_0 α K Kn x17 x18 x19 x20 x21 x22 x23 x24 x25
theorem t67_0_1 (α : Type) (K : Exit → St → Option α) : ∀ (n : Nat) (x17 : Rows) (x18 x19 x20 x21 : Int) (x22 : Rows) (x23 x24 : Int) (x25 : Rows), R67_0_1 α x17 x18 (fun (y1 : Int) (y2 : Int) => u67_0_3 (K .ret) y1 y2 0 0 ([] : Rows)) (fun (y1 : Int) (y2 : Bool) (y3 : Rows) => u67_0_4 (K (.exit 1)) x17 x18 y1 y2 x20 x21 x22 x23 x24 y3) n x19 x25 = u67_0_2 (loopT (runM Try.prog E67_0 sh67 c67_0_23) td67_23 K n) x17 x18 x19 x20 x21 x22 x23 x24 x25 := by
 intro n
 induction n with
 | zero => intros; rfl
 | succ n ih => intro x17 x18 x19 x20 x21 x22 x23 x24 x25; exact (congrArg (fun kn => S67_0_1 α x17 x18 x19 x25 kn (fun (y1 : Int) (y2 : Int) => u67_0_3 (K .ret) y1 y2 0 0 ([] : Rows)) (fun (y1 : Int) (y2 : Bool) (y3 : Rows) => u67_0_4 (K (.exit 1)) x17 x18 y1 y2 x20 x21 x22 x23 x24 y3)) (funext fun x19 => funext fun x25 => ih x17 x18 x19 x20 x21 x22 x23 x24 x25)).trans (r67_0_1 α K (loopT (runM Try.prog E67_0 sh67 c67_0_23) td67_23 K n) x17 x18 x19 x20 x21 x22 x23 x24 x25).symm
theorem m67_0_1 : ∀ (α : Type) (K : Exit → St → Option α), F67_0_1 L67_0_1 α K = p67_0_2.unc fun σ => loopT (runM Try.prog E67_0 sh67 c67_0_23) td67_23 K fuel σ := fun α K => funext fun x17 => funext fun x18 => funext fun x19 => funext fun x20 => funext fun x21 => funext fun x22 => funext fun x23 => funext fun x24 => funext fun x25 => t67_0_1 α K fuel x17 x18 x19 x20 x21 x22 x23 x24 x25
noncomputable def c67_0_7g  : MCode := (.region r67_8 [] (some ⟨[1, 2, 14], true, [⟨true, 2, 0, 30200, 1⟩], []⟩))
noncomputable def c67_0_7 : MCode := c67_0_7g 
theorem g67_0_7 : c67_0_7.Good Try.prog E67_0 sh67 := trivial
--CODE 7 0
abbrev TJ67_0_0 : Type 1 := (α : Type) → Int → (Bool → Option α) → Option α
def J67_0_0g (vf98_0 : Tf98_0) (α : Type) (x4 : Int) (k1 : Bool → Option α) : Option α :=
 cK ((Int.tmod x4 4) != 0)
 (k1 true)
 (vf98_0 α x4 4 64
 (fun x12 => k1 (!x12)))
noncomputable def J67_0_0 (α : Type) (x4 : Int) (k1 : Bool → Option α) : Option α := J67_0_0g f98_0 α x4 k1
def F67_0_0 (v : TJ67_0_0) (α : Type) (K : Exit → St → Option α) : Int → Rows → Int → Int → Int → Int → Rows → Option α := fun x4 x5 x6 x7 x8 x9 x10 => v α x4 (fun (y1 : Bool) => u67_0_1 (K .normal) y1 x5 x6 x7 x8 x9 x10) 
theorem m67_0_0g (vf98_0 : Tf98_0) (vf118_0 : Tf118_0)  (α : Type) (K : Exit → St → Option α) : F67_0_0 (J67_0_0g vf98_0) α K = p67_0_0.unc fun σ => runM Try.prog (E67_0g vf98_0 vf118_0) sh67 (c67_0_7g ) K σ := by kernel_rfl
theorem m67_0_0 : ∀ (α : Type) (K : Exit → St → Option α), F67_0_0 J67_0_0 α K = p67_0_0.unc fun σ => runM Try.prog E67_0 sh67 c67_0_7 K σ := m67_0_0g f98_0 f118_0
abbrev Tf67_0 : Type 1 := (α : Type) → Rows → Int → Int → (Rows → Int → Int → Int → Int → Option α) → Option α
def f67_0g (vJ67_0_0 : TJ67_0_0) (vL67_0_1 : TL67_0_1) (vf98_0 : Tf98_0) (α : Type) (x1 : Rows) (x2 x3 : Int) (k1 : Rows → Int → Int → Int → Int → Option α) : Option α :=
 vJ67_0_0 α ((List.length x1 : Nat) : Int)
 (fun x13 => cK x13
 (k1 ([] : Rows) 0 0 0 12)
 (vf98_0 α x2 0 65535
 (fun x15 => cK (!x15)
 (k1 ([] : Rows) 0 0 0 2)
 (vf98_0 α x3 1 65536
 (fun x16 => cK (!x16)
 (k1 ([] : Rows) 0 0 0 2)
 (vL67_0_1 α x1 ((List.length x1 : Nat) : Int)
 (fun x30 x31 => k1 ([] : Rows) 0 0 x30 x31)
 (fun x32 x33 x34 => k1 x34 x2 x3 0 0) 0 ([] : Rows)))))))
noncomputable def f67_0 (α : Type) (x1 : Rows) (x2 x3 : Int) (k1 : Rows → Int → Int → Int → Int → Option α) : Option α := f67_0g J67_0_0 L67_0_1 f98_0 α x1 x2 x3 k1
def pa67_0 : PT (List DV) := pA [pV true [dL, (dI .i64), (dI .i64)]]
def Fn67_0 (v : Tf67_0) (α : Type) (k : List RV → Option α) : Rows → Int → Int → Option α := fun x1 x2 x3 => v α x1 x2 x3 (fun (y1 : Rows) (y2 : Int) (y3 : Int) (y4 : Int) (y5 : Int) => ur67_0_0 k y1 y2 y3 y4 y5)
noncomputable def cm67_0g (vJ67_0_0 : TJ67_0_0) (vL67_0_1 : TL67_0_1) : MCode := (.seq (.region r67_2 [] (some ⟨[1, 2], true, [⟨true, 2, 0, 30200, 1⟩], []⟩)) (.seq (.seq (.region r67_5 [] (some ⟨[1, 2, 5], true, [⟨true, 2, 0, 30200, 1⟩], []⟩)) (.block 0 (.seq (.mark [⟨p67_0_0, F67_0_0 vJ67_0_0⟩] c67_0_7) (.cond (.tmp 14) (.seq (.region r67_11 [] (some ⟨[2, 3, 4], true, [⟨true, 2, 0, 30200, 1⟩], []⟩)) .ret) (.seq (.region r67_13 [] (some ⟨[1, 2, 24], true, [⟨true, 2, 0, 30200, 1⟩], []⟩)) (.cond (.tmp 24) (.seq (.region r67_16 [] (some ⟨[2, 3, 4], true, [⟨true, 2, 0, 30200, 1⟩], []⟩)) .ret) .skip)))))) (.seq (.region r67_18 [] (some ⟨[1, 2, 6], true, [⟨true, 2, 0, 30200, 1⟩], []⟩)) (.seq (.seq (.region r67_21 [] (some ⟨[2, 6, 42, 43, 44], true, [⟨true, 2, 0, 30200, 1⟩], []⟩)) (.block 1 (.loop td67_23 [⟨p67_0_2, F67_0_1 vL67_0_1⟩] c67_0_23))) (.seq (.region r67_43 [] (some ⟨[2, 3, 4], true, [⟨true, 2, 0, 30200, 1⟩], []⟩)) .ret)))))
noncomputable def cm67_0 : MCode := cm67_0g J67_0_0 L67_0_1
theorem gm67_0 : cm67_0.Good Try.prog E67_0 sh67 := ⟨trivial, ⟨⟨trivial, ⟨⟨g67_0_7, m67_0_0, trivial⟩, ⟨⟨trivial, trivial⟩, ⟨trivial, ⟨⟨trivial, trivial⟩, trivial⟩⟩⟩⟩⟩, ⟨trivial, ⟨⟨trivial, ⟨g67_0_23, m67_0_1, trivial⟩⟩, ⟨trivial, trivial⟩⟩⟩⟩⟩
theorem fm67_0g (vf98_0 : Tf98_0) (vf118_0 : Tf118_0) (vJ67_0_0 : TJ67_0_0) (vL67_0_1 : TL67_0_1) (α : Type) (k : List RV → Option α) : Fn67_0 (f67_0g vJ67_0_0 vL67_0_1 vf98_0) α k = pa67_0.unc fun ds => fnM Try.prog (E67_0g vf98_0 vf118_0) sh67 (cm67_0g vJ67_0_0 vL67_0_1) rs67 k ds := by kernel_rfl
theorem fm67_0 : ∀ (α : Type) (k : List RV → Option α), Fn67_0 f67_0 α k = pa67_0.unc fun ds => fnM Try.prog E67_0 sh67 cm67_0 rs67 k ds := fm67_0g f98_0 f118_0 J67_0_0 L67_0_1
theorem is67 : FnIs Try.prog 67 nt67 tr67 tl67 cm67_0.erase rs67 := ⟨Try.f67, Try.func67, rfl, by kernel_rfl, by kernel_rfl, by kernel_rfl⟩
theorem io67_0 : InstOk Try.prog 67 nt67 ⟨pa67_0, Fn67_0 f67_0⟩ := inst_ok eo67_0 followsTry is67 ⟨⟨sh67, cm67_0, by kernel_rfl, gm67_0, fm67_0⟩⟩
abbrev nt18 : Nat := 56
def sh18 : List (Nat × List Sh) := [(7, [.sl]), (18, [.int .i64]), (23, [.int .i64]), (33, [.sl]), (35, [.flt .f32]), (36, [.flt .f32]), (42, [.sl]), (44, [.flt .f32]), (45, [.flt .f32]), (49, [.sl]), (51, [.flt .f32]), (52, [.flt .f32])]
def r18_2 : List AOper := [oO 1 (.box (.tmp 0)), oO 2 (.mv (kI 0)), oO 3 (.mv (kI 0))]
def r18_4 : List AOper := [oO 6 (.faddr 0 (.tmp 1)), oO 7 (.load false 1 (.tmp 6)), oO 8 (.len (.tmp 7)), oM 4 8]
def r18_7 : List AOper := [oM 9 4, oO 10 (.call 29 [(.tmp 9), (kI 4), (kI 64)]), oO 11 (.pure (oB (.unOp .not 4 (.tmp 10)) 4)), oM 12 11, oG 13 (.mv (.tmp 4)) 12 false, oG 14 (.bin .rem 3 (.tmp 13) (kI 4)) 12 false, oG 15 (.bin .neq 3 (.tmp 14) (kI 0)) 12 false, oO 16 (.pick (.tmp 12) (.const (.bool true)) (.tmp 15))]
def r18_10 : List AOper := [oO 2 (.mv (kI 0)), oO 3 (.mv (kI 12))]
def r18_13 : List AOper := [oO 17 (.faddr 1 (.tmp 1)), oO 18 (.load false 1 (.tmp 17)), oO 19 (.call 70 [(.tmp 18)]), oO 20 (.pure (oB (.unOp .not 4 (.tmp 19)) 4)), oM 21 20, oG 22 (.faddr 2 (.tmp 1)) 21 false, oG 23 (.load false 1 (.tmp 22)) 21 false, oG 24 (.call 29 [(.tmp 23), (kI 1), (kI 65536)]) 21 false, oG 25 (.pure (oB (.unOp .not 4 (.tmp 24)) 4)) 21 false, oO 26 (.pick (.tmp 21) (.const (.bool true)) (.tmp 25))]
def r18_16 : List AOper := [oO 2 (.mv (kI 0)), oO 3 (.mv (kI 2))]
def r18_19 : List AOper := [oO 5 (.mv (kI 0))]
def td18_21 : Option Tidy := (some ⟨[1, 4, 5], true, [⟨true, 1, 0, 30100, 1⟩], []⟩)
def r18_24 : List AOper := [oM 27 5, oM 28 4, oO 29 (.bin .lss 3 (.tmp 27) (.tmp 28))]
def r18_30 : List AOper := [oO 32 (.faddr 0 (.tmp 1)), oO 33 (.load false 1 (.tmp 32)), oM 34 5, oO 35 (.iaddr 1 none (.tmp 33) (.tmp 34)), oO 36 (.load false 1 (.tmp 35)), oO 37 (.pure (oB (.convert 74 112 (.tmp 36)) 112)), oO 38 (.call 71 [(.tmp 37)]), oO 39 (.pure (oB (.unOp .not 4 (.tmp 38)) 4))]
def r18_33 : List AOper := [oM 40 5, oM 2 40, oO 3 (.mv (kI 27))]
def r18_35 : List AOper := [oO 41 (.faddr 0 (.tmp 1)), oO 42 (.load false 1 (.tmp 41)), oM 43 5, oO 44 (.iaddr 1 none (.tmp 42) (.tmp 43)), oO 45 (.load false 1 (.tmp 44)), oO 46 (.bin .lss 74 (.tmp 45) (.const (.float Go.FloatKind.f32 0))), oM 47 46, oG 48 (.faddr 0 (.tmp 1)) 47 false, oG 49 (.load false 1 (.tmp 48)) 47 false, oG 50 (.mv (.tmp 5)) 47 false, oG 51 (.iaddr 1 none (.tmp 49) (.tmp 50)) 47 false, oG 52 (.load false 1 (.tmp 51)) 47 false, oG 53 (.bin .gtr 74 (.tmp 52) (.const (.float Go.FloatKind.f32 1199570688))) 47 false, oO 54 (.pick (.tmp 47) (.const (.bool true)) (.tmp 53))]
def r18_38 : List AOper := [oM 55 5, oM 2 55, oO 3 (.mv (kI 2))]
def r18_39 : List AOper := [oM 30 5, oO 31 (.bin .add 3 (.tmp 30) (kI 1)), oM 5 31]
def r18_41 : List AOper := [oO 2 (.mv (kI 0)), oO 3 (.mv (kI 0))]
def tr18 : List (Nat × Tidy) := [tT 0 [1], tT 1 [1, 4], tT 2 [1, 4, 16], tT 3 [2, 3], tT 4 [1, 4, 26], tT 5 [2, 3], tT 6 [1, 4, 5], tT 7 [1, 4, 5, 29], tT 9 [1, 4, 5, 39], tT 10 [2, 3], tT 11 [1, 4, 5, 54], tT 12 [2, 3], tT 8 [1, 4, 5], tT 13 [2, 3]]
def tl18 : List (Nat × Tidy) := [(7, ⟨[1, 4, 5], true, [⟨true, 1, 0, 30100, 1⟩], []⟩)]
def rs18 : List AResV := [.tmp 2, .tmp 3]
def p18_0_0 : PT St := pS [sl 1 (aV false [(cPtr 1 0)]), sl 4 (aV false [(cD (dI .i64))]), sl 5 (aV false [(cD (dI .i64))])] [eBox 1 [(cD dL), (cD (dI .i64)), (cD (dI .i64))]]
def u18_0_0 {β : Type} (g : St → β) : Int → Int → Rows → Int → Int → β := p18_0_0.unc g
def p18_0_1 : PT St := pS [sl 2 (aV false [(cD (dI .i64))]), sl 3 (aV false [(cD (dI .i64))])] []
def u18_0_1 {β : Type} (g : St → β) : Int → Int → β := p18_0_1.unc g
def p18_0_2 : PT St := pS [sl 1 (aV false [(cPtr 1 0)]), sl 4 (aV false [(cD (dI .i64))]), sl 5 (aV false [(cD (dI .i64))]), sl 29 (aV false [(cD dB)])] [eBox 1 [(cD dL), (cD (dI .i64)), (cD (dI .i64))]]
def u18_0_2 {β : Type} (g : St → β) : Int → Int → Bool → Rows → Int → Int → β := p18_0_2.unc g
def pr18_0_0 : PT (List RV) := pRs [pR false [rD (dI .i64)], pR false [rD (dI .i64)]]
def ur18_0_0 {β : Type} (g : List RV → β) : Int → Int → β := pr18_0_0.unc g
def E18_0g (vf29_0 : Tf29_0) (vf70_0 : Tf70_0) (vf71_0 : Tf71_0) (vf71_1 : Tf71_1) : EnvK := EnvK.of [⟨29, nt29, [⟨pa29_0, Fn29_0 vf29_0⟩]⟩, ⟨70, nt70, [⟨pa70_0, Fn70_0 vf70_0⟩]⟩, ⟨71, nt71, [⟨pa71_0, Fn71_0 vf71_0⟩, ⟨pa71_1, Fn71_1 vf71_1⟩]⟩] noSeq
noncomputable def E18_0 : EnvK := E18_0g f29_0 f70_0 f71_0 f71_1
theorem eo18_0 : E18_0.Ok Try.prog := EnvK.of_ok noSeq_ok ⟨⟨io29_0, trivial⟩, ⟨io70_0, trivial⟩, ⟨io71_0, io71_1, trivial⟩, trivial⟩
noncomputable def c18_0_21g  : MCode := (.seq (.seq (.region r18_24 [] (tO [1, 4, 5, 29])) (.cond (.tmp 29) .skip (.exit 0))) (.seq (.block 1 (.seq (.seq (.region r18_30 [] (tO [1, 4, 5, 39])) (.cond (.tmp 39) (.seq (.region r18_33 [] (tO [2, 3])) .ret) .skip)) (.seq (.region r18_35 [] (tO [1, 4, 5, 54])) (.cond (.tmp 54) (.seq (.region r18_38 [] (tO [2, 3])) .ret) .skip)))) (.region r18_39 [] (tO [1, 4, 5]))))
noncomputable def c18_0_21 : MCode := c18_0_21g 
theorem g18_0_21 : c18_0_21.Good Try.prog E18_0 sh18 := ⟨⟨trivial, ⟨trivial, trivial⟩⟩, ⟨⟨⟨trivial, ⟨⟨trivial, trivial⟩, trivial⟩⟩, ⟨trivial, ⟨⟨trivial, trivial⟩, trivial⟩⟩⟩, trivial⟩⟩
--CODE 21 0
def S18_0_0g (vf71_0 : Tf71_0) (vf71_1 : Tf71_1) (α : Type) (x7 : Int) (x9 : Rows) (x8 : Int) (kn : Int → Option α) (k1 : Int → Int → Option α) (k2 : Int → Bool → Option α) : Option α :=
 cK (decide (x8 < x7))
 (rowK x9 x8 [.flt .f32]
 (fun x13 => cK (isNaNb .f32 x13)
 (vf71_0 α 
 (k1 x8 27))
 (flK (f2f .f32 x13 .f64)
 (fun x14 => vf71_1 α x14
 (fun x15 => cK (!x15)
 (k1 x8 27)
 (rowK x9 x8 [.flt .f32]
 (fun x16 => cK ((FloatKind.format .f32).order x16 0 == some Ordering.lt)
 (k1 x8 2)
 (rowK x9 x8 [.flt .f32]
 (fun x17 => cK ((FloatKind.format .f32).order x17 1199570688 == some Ordering.gt)
 (k1 x8 2)
 (kn (w64 (x8 + 1))))))))))))
 (k2 x8 (decide (x8 < x7)))
noncomputable def S18_0_0 (α : Type) (x7 : Int) (x9 : Rows) (x8 : Int) (kn : Int → Option α) (k1 : Int → Int → Option α) (k2 : Int → Bool → Option α) : Option α := S18_0_0g f71_0 f71_1 α x7 x9 x8 kn k1 k2
noncomputable def R18_0_0 (α : Type) (x7 : Int) (x9 : Rows) (k1 : Int → Int → Option α) (k2 : Int → Bool → Option α) : Nat → Int → Option α
 | 0, _ => none
 | n + 1, x8 => S18_0_0 α x7 x9 x8 (R18_0_0 α x7 x9 k1 k2 n) k1 k2
noncomputable def L18_0_0 (α : Type) (x7 : Int) (x9 : Rows) (k1 : Int → Int → Option α) (k2 : Int → Bool → Option α) (x8 : Int) : Option α := R18_0_0 α x7 x9 k1 k2 fuel x8
abbrev TL18_0_0 : Type 1 := (α : Type) → Int → Rows → (Int → Int → Option α) → (Int → Bool → Option α) → Int → Option α
def F18_0_0 (v : TL18_0_0) (α : Type) (K : Exit → St → Option α) : Int → Int → Rows → Int → Int → Option α := fun x7 x8 x9 x10 x11 => v α x7 x9 (fun (y1 : Int) (y2 : Int) => u18_0_1 (K .ret) y1 y2) (fun (y1 : Int) (y2 : Bool) => u18_0_2 (K (.exit 0)) x7 y1 y2 x9 x10 x11) x8
theorem r18_0_0g (vf29_0 : Tf29_0) (vf70_0 : Tf70_0) (vf71_0 : Tf71_0) (vf71_1 : Tf71_1)  (α : Type) (K : Exit → St → Option α) (Kn : St → Option α) (x7 x8 : Int) (x9 : Rows) (x10 x11 : Int) : u18_0_0 (fun σ => runM Try.prog (E18_0g vf29_0 vf70_0 vf71_0 vf71_1) sh18 (c18_0_21g ) (thenK (fun σ => tidyK td18_21 σ Kn) K) σ) x7 x8 x9 x10 x11 = S18_0_0g vf71_0 vf71_1 α x7 x9 x8 (fun x8 => u18_0_0 Kn x7 x8 x9 x10 x11) (fun (y1 : Int) (y2 : Int) => u18_0_1 (K .ret) y1 y2) (fun (y1 : Int) (y2 : Bool) => u18_0_2 (K (.exit 0)) x7 y1 y2 x9 x10 x11) := by kernel_rfl
theorem r18_0_0 (α : Type) (K : Exit → St → Option α) (Kn : St → Option α) (x7 x8 : Int) (x9 : Rows) (x10 x11 : Int) : u18_0_0 (fun σ => runM Try.prog E18_0 sh18 c18_0_21 (thenK (fun σ => tidyK td18_21 σ Kn) K) σ) x7 x8 x9 x10 x11 = S18_0_0 α x7 x9 x8 (fun x8 => u18_0_0 Kn x7 x8 x9 x10 x11) (fun (y1 : Int) (y2 : Int) => u18_0_1 (K .ret) y1 y2) (fun (y1 : Int) (y2 : Bool) => u18_0_2 (K (.exit 0)) x7 y1 y2 x9 x10 x11) := r18_0_0g f29_0 f70_0 f71_0 f71_1 α K Kn x7 x8 x9 x10 x11
theorem t18_0_0 (α : Type) (K : Exit → St → Option α) : ∀ (n : Nat) (x7 x8 : Int) (x9 : Rows) (x10 x11 : Int), R18_0_0 α x7 x9 (fun (y1 : Int) (y2 : Int) => u18_0_1 (K .ret) y1 y2) (fun (y1 : Int) (y2 : Bool) => u18_0_2 (K (.exit 0)) x7 y1 y2 x9 x10 x11) n x8 = u18_0_0 (loopT (runM Try.prog E18_0 sh18 c18_0_21) td18_21 K n) x7 x8 x9 x10 x11 := by
 intro n
 induction n with
 | zero => intros; rfl
 | succ n ih => intro x7 x8 x9 x10 x11; exact (congrArg (fun kn => S18_0_0 α x7 x9 x8 kn (fun (y1 : Int) (y2 : Int) => u18_0_1 (K .ret) y1 y2) (fun (y1 : Int) (y2 : Bool) => u18_0_2 (K (.exit 0)) x7 y1 y2 x9 x10 x11)) (funext fun x8 => ih x7 x8 x9 x10 x11)).trans (r18_0_0 α K (loopT (runM Try.prog E18_0 sh18 c18_0_21) td18_21 K n) x7 x8 x9 x10 x11).symm
theorem m18_0_0 : ∀ (α : Type) (K : Exit → St → Option α), F18_0_0 L18_0_0 α K = p18_0_0.unc fun σ => loopT (runM Try.prog E18_0 sh18 c18_0_21) td18_21 K fuel σ := fun α K => funext fun x7 => funext fun x8 => funext fun x9 => funext fun x10 => funext fun x11 => t18_0_0 α K fuel x7 x8 x9 x10 x11
abbrev Tf18_0 : Type 1 := (α : Type) → Rows → Int → Int → (Int → Int → Option α) → Option α
def f18_0g (vL18_0_0 : TL18_0_0) (vf29_0 : Tf29_0) (vf70_0 : Tf70_0) (α : Type) (x1 : Rows) (x2 x3 : Int) (k1 : Int → Int → Option α) : Option α :=
 vf29_0 α ((List.length x1 : Nat) : Int) 4 64
 (fun x4 => cK (!x4)
 (k1 0 12)
 (cK ((Int.tmod ((List.length x1 : Nat) : Int) 4) != 0)
 (k1 0 12)
 (vf70_0 α x2
 (fun x5 => cK (!x5)
 (k1 0 2)
 (vf29_0 α x3 1 65536
 (fun x6 => cK (!x6)
 (k1 0 2)
 (vL18_0_0 α ((List.length x1 : Nat) : Int) x1
 (fun x18 x19 => k1 x18 x19)
 (fun x20 x21 => k1 0 0) 0)))))))
noncomputable def f18_0 (α : Type) (x1 : Rows) (x2 x3 : Int) (k1 : Int → Int → Option α) : Option α := f18_0g L18_0_0 f29_0 f70_0 α x1 x2 x3 k1
def pa18_0 : PT (List DV) := pA [pV true [dL, (dI .i64), (dI .i64)]]
def Fn18_0 (v : Tf18_0) (α : Type) (k : List RV → Option α) : Rows → Int → Int → Option α := fun x1 x2 x3 => v α x1 x2 x3 (fun (y1 : Int) (y2 : Int) => ur18_0_0 k y1 y2)
noncomputable def cm18_0g (vL18_0_0 : TL18_0_0) : MCode := (.seq (.region r18_2 [] (tO [1])) (.seq (.region r18_4 [] (tO [1, 4])) (.seq (.seq (.region r18_7 [] (tO [1, 4, 16])) (.cond (.tmp 16) (.seq (.region r18_10 [] (tO [2, 3])) .ret) .skip)) (.seq (.seq (.region r18_13 [] (tO [1, 4, 26])) (.cond (.tmp 26) (.seq (.region r18_16 [] (tO [2, 3])) .ret) .skip)) (.seq (.seq (.region r18_19 [] (tO [1, 4, 5])) (.block 0 (.loop td18_21 [⟨p18_0_0, F18_0_0 vL18_0_0⟩] c18_0_21))) (.seq (.region r18_41 [] (tO [2, 3])) .ret))))))
noncomputable def cm18_0 : MCode := cm18_0g L18_0_0
theorem gm18_0 : cm18_0.Good Try.prog E18_0 sh18 := ⟨trivial, ⟨trivial, ⟨⟨trivial, ⟨⟨trivial, trivial⟩, trivial⟩⟩, ⟨⟨trivial, ⟨⟨trivial, trivial⟩, trivial⟩⟩, ⟨⟨trivial, ⟨g18_0_21, m18_0_0, trivial⟩⟩, ⟨trivial, trivial⟩⟩⟩⟩⟩⟩
theorem fm18_0g (vf29_0 : Tf29_0) (vf70_0 : Tf70_0) (vf71_0 : Tf71_0) (vf71_1 : Tf71_1) (vL18_0_0 : TL18_0_0) (α : Type) (k : List RV → Option α) : Fn18_0 (f18_0g vL18_0_0 vf29_0 vf70_0) α k = pa18_0.unc fun ds => fnM Try.prog (E18_0g vf29_0 vf70_0 vf71_0 vf71_1) sh18 (cm18_0g vL18_0_0) rs18 k ds := by kernel_rfl
theorem fm18_0 : ∀ (α : Type) (k : List RV → Option α), Fn18_0 f18_0 α k = pa18_0.unc fun ds => fnM Try.prog E18_0 sh18 cm18_0 rs18 k ds := fm18_0g f29_0 f70_0 f71_0 f71_1 L18_0_0
theorem is18 : FnIs Try.prog 18 nt18 tr18 tl18 cm18_0.erase rs18 := ⟨Try.f18, Try.func18, rfl, by kernel_rfl, by kernel_rfl, by kernel_rfl⟩
theorem io18_0 : InstOk Try.prog 18 nt18 ⟨pa18_0, Fn18_0 f18_0⟩ := inst_ok eo18_0 followsTry is18 ⟨⟨sh18, cm18_0, by kernel_rfl, gm18_0, fm18_0⟩⟩
abbrev nt125 : Nat := 24
def sh125 : List (Nat × List Sh) := [(7, [.int .i64]), (13, [.int .i64]), (20, [.int .i64]), (22, [.int .i64])]
def r125_2 : List AOper := [oO 2 (.box (.tmp 0)), oO 4 (.mv (kI 0))]
def r125_6 : List AOper := [oO 6 (.faddr 0 (.tmp 2)), oO 7 (.load false 1 (.tmp 6)), oM 8 1, oO 9 (.call 109 [(.tmp 7), (.tmp 8)]), oO 10 (.pure (oB (.unOp .not 4 (.tmp 9)) 4)), oM 11 10, oG 12 (.faddr 1 (.tmp 2)) 11 false, oG 13 (.load false 1 (.tmp 12)) 11 false, oG 14 (.mv (.tmp 1)) 11 false, oG 15 (.call 109 [(.tmp 13), (.tmp 14)]) 11 false, oG 16 (.pure (oB (.unOp .not 4 (.tmp 15)) 4)) 11 false, oO 17 (.pick (.tmp 11) (.const (.bool true)) (.tmp 16)), oM 5 17]
def r125_9 : List AOper := [oO 4 (.mv (kI 2))]
def r125_11 : List AOper := [oO 19 (.faddr 0 (.tmp 2)), oO 20 (.load false 1 (.tmp 19)), oO 21 (.faddr 1 (.tmp 2)), oO 22 (.load false 1 (.tmp 21)), oO 23 (.bin .gtr 3 (.tmp 20) (.tmp 22)), oM 18 23]
def r125_14 : List AOper := [oO 4 (.mv (kI 10))]
def r125_16 : List AOper := [oO 4 (.mv (kI 0))]
def tr125 : List (Nat × Tidy) := [tT 0 [1, 2], tT 1 [2, 5], tT 2 [4], tT 3 [18], tT 4 [4], tT 5 [4]]
def tl125 : List (Nat × Tidy) := []
def rs125 : List AResV := [.tmp 4]
def p125_0_0 : PT St := pS [sl 1 (aV false [(cD (dI .i64))]), sl 2 (aV false [(cPtr 2 0)])] [eBox 2 [(cD (dI .i64)), (cD (dI .i64))]]
def u125_0_0 {β : Type} (g : St → β) : Int → Int → Int → β := p125_0_0.unc g
def p125_0_1 : PT St := pS [sl 2 (aV false [(cPtr 2 0)]), sl 5 (aV false [(cD dB)])] [eBox 2 [(cD (dI .i64)), (cD (dI .i64))]]
def u125_0_1 {β : Type} (g : St → β) : Bool → Int → Int → β := p125_0_1.unc g
def pr125_0_0 : PT (List RV) := pRs [pR false [rD (dI .i64)]]
def ur125_0_0 {β : Type} (g : List RV → β) : Int → β := pr125_0_0.unc g
def E125_0g (vf109_0 : Tf109_0) : EnvK := EnvK.of [⟨109, nt109, [⟨pa109_0, Fn109_0 vf109_0⟩]⟩] noSeq
noncomputable def E125_0 : EnvK := E125_0g f109_0
theorem eo125_0 : E125_0.Ok Try.prog := EnvK.of_ok noSeq_ok ⟨⟨io109_0, trivial⟩, trivial⟩
noncomputable def c125_0_5g  : MCode := (.region r125_6 [] (tO [2, 5]))
noncomputable def c125_0_5 : MCode := c125_0_5g 
theorem g125_0_5 : c125_0_5.Good Try.prog E125_0 sh125 := trivial
--CODE 5 0
abbrev TJ125_0_0 : Type 1 := (α : Type) → Int → Int → Int → (Bool → Option α) → Option α
def J125_0_0g (vf109_0 : Tf109_0) (α : Type) (x4 x5 x6 : Int) (k1 : Bool → Option α) : Option α :=
 vf109_0 α x5 x4
 (fun x8 => cK (!x8)
 (k1 true)
 (vf109_0 α x6 x4
 (fun x9 => k1 (!x9))))
noncomputable def J125_0_0 (α : Type) (x4 x5 x6 : Int) (k1 : Bool → Option α) : Option α := J125_0_0g f109_0 α x4 x5 x6 k1
def F125_0_0 (v : TJ125_0_0) (α : Type) (K : Exit → St → Option α) : Int → Int → Int → Option α := fun x4 x5 x6 => v α x4 x5 x6 (fun (y1 : Bool) => u125_0_1 (K .normal) y1 x5 x6) 
theorem m125_0_0g (vf109_0 : Tf109_0)  (α : Type) (K : Exit → St → Option α) : F125_0_0 (J125_0_0g vf109_0) α K = p125_0_0.unc fun σ => runM Try.prog (E125_0g vf109_0) sh125 (c125_0_5g ) K σ := by kernel_rfl
theorem m125_0_0 : ∀ (α : Type) (K : Exit → St → Option α), F125_0_0 J125_0_0 α K = p125_0_0.unc fun σ => runM Try.prog E125_0 sh125 c125_0_5 K σ := m125_0_0g f109_0
abbrev Tf125_0 : Type 1 := (α : Type) → Int → Int → Int → (Int → Option α) → Option α
def f125_0g (vJ125_0_0 : TJ125_0_0) (α : Type) (x1 x2 x3 : Int) (k1 : Int → Option α) : Option α :=
 vJ125_0_0 α x3 x1 x2
 (fun x10 => cK x10
 (k1 2)
 (cK (decide (x2 < x1))
 (k1 10)
 (k1 0)))
noncomputable def f125_0 (α : Type) (x1 x2 x3 : Int) (k1 : Int → Option α) : Option α := f125_0g J125_0_0 α x1 x2 x3 k1
def pa125_0 : PT (List DV) := pA [pV true [(dI .i64), (dI .i64)], pV false [(dI .i64)]]
def Fn125_0 (v : Tf125_0) (α : Type) (k : List RV → Option α) : Int → Int → Int → Option α := fun x1 x2 x3 => v α x1 x2 x3 (fun (y1 : Int) => ur125_0_0 k y1)
noncomputable def cm125_0g (vJ125_0_0 : TJ125_0_0) : MCode := (.seq (.region r125_2 [] (tO [1, 2])) (.seq (.block 0 (.seq (.mark [⟨p125_0_0, F125_0_0 vJ125_0_0⟩] c125_0_5) (.cond (.tmp 5) (.seq (.region r125_9 [] (tO [4])) .ret) (.seq (.region r125_11 [] (tO [18])) (.cond (.tmp 18) (.seq (.region r125_14 [] (tO [4])) .ret) .skip))))) (.seq (.region r125_16 [] (tO [4])) .ret)))
noncomputable def cm125_0 : MCode := cm125_0g J125_0_0
theorem gm125_0 : cm125_0.Good Try.prog E125_0 sh125 := ⟨trivial, ⟨⟨⟨g125_0_5, m125_0_0, trivial⟩, ⟨⟨trivial, trivial⟩, ⟨trivial, ⟨⟨trivial, trivial⟩, trivial⟩⟩⟩⟩, ⟨trivial, trivial⟩⟩⟩
theorem fm125_0g (vf109_0 : Tf109_0) (vJ125_0_0 : TJ125_0_0) (α : Type) (k : List RV → Option α) : Fn125_0 (f125_0g vJ125_0_0) α k = pa125_0.unc fun ds => fnM Try.prog (E125_0g vf109_0) sh125 (cm125_0g vJ125_0_0) rs125 k ds := by kernel_rfl
theorem fm125_0 : ∀ (α : Type) (k : List RV → Option α), Fn125_0 f125_0 α k = pa125_0.unc fun ds => fnM Try.prog E125_0 sh125 cm125_0 rs125 k ds := fm125_0g f109_0 J125_0_0
theorem is125 : FnIs Try.prog 125 nt125 tr125 tl125 cm125_0.erase rs125 := ⟨Try.f125, Try.func125, rfl, by kernel_rfl, by kernel_rfl, by kernel_rfl⟩
theorem io125_0 : InstOk Try.prog 125 nt125 ⟨pa125_0, Fn125_0 f125_0⟩ := inst_ok eo125_0 followsTry is125 ⟨⟨sh125, cm125_0, by kernel_rfl, gm125_0, fm125_0⟩⟩
abbrev nt21 : Nat := 84
def sh21 : List (Nat × List Sh) := [(12, [.sl, .int .i64, .int .i64]), (21, [.sl, .int .i64, .int .i64]), (27, [.sl]), (32, [.int .i64]), (33, [.int .i64]), (37, [.int .i64]), (43, [.sl]), (46, [.int .i64]), (48, [.int .i64]), (51, [.int .i64]), (54, [.int .i64]), (58, [.int .i64]), (62, [.int .i64]), (64, [.int .i64]), (69, [.int .i64]), (73, [.int .i64]), (75, [.int .i64]), (80, [.int .i64])]
def r21_2 : List AOper := [oO 1 (.box (.tmp 0)), oO 2 (.alloc [(cI 0), (cI 0), (cI 0), (cI 0), (cI 0), (cI 0)]), oO 3 (.mv (kI 0))]
def r21_4 : List AOper := [oO 12 (.load true 3 (.tmp 1)), oO 13 (.call 67 [(.tmp 12)]), oM 11 13, oO 14 (.extract 0 (.tmp 11)), oO 15 (.extract 1 (.tmp 11)), oO 16 (.extract 2 (.tmp 11)), oO 4 (.alloc [.nils, (cI 0), (cI 0)]), oD (.store 3 (.tmp 4) (.tmp 14)), oM 5 15, oM 6 16]
def r21_7 : List AOper := [oM 17 6, oO 18 (.bin .neq 28 (.tmp 17) (kI 0))]
def r21_10 : List AOper := [oO 19 (.build [(cI 0), (cI 0), (cI 0), (cI 0), (cI 0), (cI 0)] []), oM 20 6, oD (.store 6 (.tmp 2) (.tmp 19)), oM 3 20]
def r21_13 : List AOper := [oO 21 (.load true 3 (.tmp 4)), oO 22 (.call 75 [(.tmp 21)]), oO 23 (.len (.tmp 22)), oO 24 (.bin .gtr 3 (.tmp 23) (kI 0))]
def r21_16 : List AOper := [oO 25 (.build [(cI 0), (cI 0), (cI 0), (cI 0), (cI 0), (cI 0)] []), oD (.store 6 (.tmp 2) (.tmp 25)), oO 3 (.mv (kI 16))]
def r21_18 : List AOper := [oO 7 (.alloc [(cI 0), (cI 0), (cI 0), (cI 0)])]
def r21_21 : List AOper := [oO 26 (.faddr 0 (.tmp 4)), oO 27 (.load false 1 (.tmp 26)), oO 28 (.len (.tmp 27)), oO 29 (.mv (kI 0))]
def td21_23 : Option Tidy := (some ⟨[2, 4, 7, 27, 28, 29], true, [⟨false, 27, 0, 20027, 1⟩, ⟨true, 1, 0, 30100, 1⟩, ⟨true, 4, 0, 30400, 1⟩], []⟩)
def r21_25 : List AOper := [oO 30 (.bin .lss 3 (.tmp 29) (.tmp 28))]
def r21_31 : List AOper := [oM 31 29, oO 32 (.iaddr 1 none (.tmp 27) (.tmp 29)), oO 33 (.load false 1 (.tmp 32)), oM 8 31, oM 9 33]
def r21_32 : List AOper := [oM 34 8, oO 35 (.bin .rem 3 (.tmp 34) (kI 4)), oO 36 (.iaddr 1 (some 4) (.tmp 7) (.tmp 35)), oO 37 (.load false 1 (.tmp 36)), oM 38 9, oO 39 (.bin .add 3 (.tmp 37) (.tmp 38)), oO 40 (.iaddr 1 (some 4) (.tmp 7) (.tmp 35)), oD (.store 1 (.tmp 40) (.tmp 39))]
def r21_33 : List AOper := [oO 41 (.bin .add 3 (.tmp 29) (kI 1)), oM 29 41]
def r21_35 : List AOper := [oO 42 (.faddr 0 (.tmp 4)), oO 43 (.load false 1 (.tmp 42)), oO 44 (.len (.tmp 43)), oM 10 44]
def r21_37 : List AOper := [oO 45 (.iaddr 1 (some 4) (.tmp 7) (kI 0)), oO 46 (.load false 1 (.tmp 45)), oO 47 (.iaddr 1 (some 4) (.tmp 7) (kI 1)), oO 48 (.load false 1 (.tmp 47)), oO 49 (.bin .add 3 (.tmp 46) (.tmp 48)), oO 50 (.iaddr 1 (some 4) (.tmp 7) (kI 2)), oO 51 (.load false 1 (.tmp 50)), oO 52 (.bin .add 3 (.tmp 49) (.tmp 51)), oO 53 (.iaddr 1 (some 4) (.tmp 7) (kI 3)), oO 54 (.load false 1 (.tmp 53)), oO 55 (.bin .add 3 (.tmp 52) (.tmp 54)), oM 56 10, oO 57 (.faddr 1 (.tmp 4)), oO 58 (.load false 1 (.tmp 57)), oO 59 (.bin .mul 3 (.tmp 56) (.tmp 58)), oO 60 (.call 76 [(.tmp 55), (.tmp 59)]), oO 61 (.iaddr 1 (some 4) (.tmp 7) (kI 0)), oO 62 (.load false 1 (.tmp 61)), oO 63 (.iaddr 1 (some 4) (.tmp 7) (kI 2)), oO 64 (.load false 1 (.tmp 63)), oO 65 (.bin .sub 3 (.tmp 62) (.tmp 64)), oM 66 10, oO 67 (.bin .quo 3 (.tmp 66) (kI 2)), oO 68 (.faddr 1 (.tmp 4)), oO 69 (.load false 1 (.tmp 68)), oO 70 (.bin .mul 3 (.tmp 67) (.tmp 69)), oO 71 (.call 76 [(.tmp 65), (.tmp 70)]), oO 72 (.iaddr 1 (some 4) (.tmp 7) (kI 1)), oO 73 (.load false 1 (.tmp 72)), oO 74 (.iaddr 1 (some 4) (.tmp 7) (kI 3)), oO 75 (.load false 1 (.tmp 74)), oO 76 (.bin .sub 3 (.tmp 73) (.tmp 75)), oM 77 10, oO 78 (.bin .quo 3 (.tmp 77) (kI 2)), oO 79 (.faddr 1 (.tmp 4)), oO 80 (.load false 1 (.tmp 79)), oO 81 (.bin .mul 3 (.tmp 78) (.tmp 80)), oO 82 (.call 76 [(.tmp 76), (.tmp 81)]), oO 83 (.build [(cI 0), (cI 0), (cI 0), (cI 0), (cI 0), (cI 0)] [(0, 2, (.tmp 60)), (2, 2, (.tmp 71)), (4, 2, (.tmp 82))]), oD (.store 6 (.tmp 2) (.tmp 83)), oO 3 (.mv (kI 0))]
def tr21 : List (Nat × Tidy) := [tT 0 [1, 2], tT 1 [2, 4, 6], tT 2 [2, 4, 6, 18], tT 3 [2, 3], tT 4 [2, 4, 24], tT 5 [2, 3], tT 6 [2, 4, 7], tT 7 [2, 4, 7, 27, 28, 29], tT 8 [2, 4, 7, 27, 28, 29, 30], tT 9 [2, 4, 7, 8, 9, 27, 28, 29], tT 10 [2, 4, 7, 27, 28, 29], tT 11 [2, 4, 7, 27, 28, 29], tT 12 [2, 4, 7, 10], tT 13 [2, 3]]
def tl21 : List (Nat × Tidy) := [(8, ⟨[2, 4, 7, 27, 28, 29], true, [⟨false, 27, 0, 20027, 1⟩, ⟨true, 1, 0, 30100, 1⟩, ⟨true, 4, 0, 30400, 1⟩], []⟩)]
def rs21 : List AResV := [.cell 2 true 6, .tmp 3]
def p21_0_0 : PT St := pS [sl 2 (aV false [(cPtr 2 0)]), sl 4 (aV false [(cPtr 4 0)]), sl 7 (aV false [(cPtr 7 0)]), sl 27 (aV false [(cRef 30400)]), sl 28 (aV false [(cD (dI .i64))]), sl 29 (aV false [(cD (dI .i64))]), sl 30 (aV false [(cD dB)])] [eBox 2 [(cD (dI .i64)), (cD (dI .i64)), (cD (dI .i64)), (cD (dI .i64)), (cD (dI .i64)), (cD (dI .i64))], eBox 4 [(cRef 30400), (cD (dI .i64)), (cD (dI .i64))], eOwn 30400 1, eBox 7 [(cD (dI .i64)), (cD (dI .i64)), (cD (dI .i64)), (cD (dI .i64))]]
def u21_0_0 {β : Type} (g : St → β) : Int → Int → Bool → Int → Int → Int → Int → Int → Int → Int → Int → Rows → Int → Int → Int → Int → β := p21_0_0.unc g
def p21_0_1 : PT St := pS [sl 2 (aV false [(cPtr 2 0)]), sl 4 (aV false [(cPtr 4 0)]), sl 7 (aV false [(cPtr 7 0)]), sl 27 (aV false [(cRef 30400)]), sl 28 (aV false [(cD (dI .i64))]), sl 29 (aV false [(cD (dI .i64))])] [eBox 2 [(cD (dI .i64)), (cD (dI .i64)), (cD (dI .i64)), (cD (dI .i64)), (cD (dI .i64)), (cD (dI .i64))], eBox 4 [(cRef 30400), (cD (dI .i64)), (cD (dI .i64))], eOwn 30400 1, eBox 7 [(cD (dI .i64)), (cD (dI .i64)), (cD (dI .i64)), (cD (dI .i64))]]
def u21_0_1 {β : Type} (g : St → β) : Int → Int → Int → Int → Int → Int → Int → Int → Int → Int → Rows → Int → Int → Int → Int → β := p21_0_1.unc g
def pr21_0_0 : PT (List RV) := pRs [pR true [rD (dI .i64), rD (dI .i64), rD (dI .i64), rD (dI .i64), rD (dI .i64), rD (dI .i64)], pR false [rD (dI .i64)]]
def ur21_0_0 {β : Type} (g : List RV → β) : Int → Int → Int → Int → Int → Int → Int → β := pr21_0_0.unc g
def E21_0g (vf67_0 : Tf67_0) (vf75_0 : Tf75_0) (vf76_0 : Tf76_0) : EnvK := EnvK.of [⟨67, nt67, [⟨pa67_0, Fn67_0 vf67_0⟩]⟩, ⟨75, nt75, [⟨pa75_0, Fn75_0 vf75_0⟩]⟩, ⟨76, nt76, [⟨pa76_0, Fn76_0 vf76_0⟩]⟩] noSeq
noncomputable def E21_0 : EnvK := E21_0g f67_0 f75_0 f76_0
theorem eo21_0 : E21_0.Ok Try.prog := EnvK.of_ok noSeq_ok ⟨⟨io67_0, trivial⟩, ⟨io75_0, trivial⟩, ⟨io76_0, trivial⟩, trivial⟩
noncomputable def c21_0_28g  : MCode := (.block 1 (.seq (.region r21_31 [] (tO [2, 4, 7, 8, 9, 27, 28, 29])) (.region r21_32 [] (tO [2, 4, 7, 27, 28, 29]))))
noncomputable def c21_0_28 : MCode := c21_0_28g 
theorem g21_0_28 : c21_0_28.Good Try.prog E21_0 sh21 := ⟨trivial, trivial⟩
--CODE 28 0
abbrev TJ21_0_0 : Type 1 := (α : Type) → Int → Rows → Int → Int → Int → Int → (Int → Int → Int → Int → Option α) → Option α
def J21_0_0g  (α : Type) (x27 : Int) (x37 : Rows) (x38 x39 x40 x41 : Int) (k1 : Int → Int → Int → Int → Option α) : Option α :=
 ixK x37 x27 1
 (ldK x37 (Int.toNat x27) 0 [.int .i64]
 (fun x43 => cK ((Int.tmod x27 4) == 3)
 (cK ((Int.tmod x27 4) == 3)
 (k1 x38 x39 x40 (w64 (x41 + x43)))
 (cK ((Int.tmod x27 4) == 2)
 (k1 x38 x39 (w64 (x41 + x43)) x41)
 (cK ((Int.tmod x27 4) == 1)
 (k1 x38 (w64 (x41 + x43)) x40 x41)
 (cK ((Int.tmod x27 4) == 0)
 (k1 (w64 (x41 + x43)) x39 x40 x41)
 (none)))))
 (cK ((Int.tmod x27 4) == 2)
 (cK ((Int.tmod x27 4) == 3)
 (k1 x38 x39 x40 (w64 (x40 + x43)))
 (cK ((Int.tmod x27 4) == 2)
 (k1 x38 x39 (w64 (x40 + x43)) x41)
 (cK ((Int.tmod x27 4) == 1)
 (k1 x38 (w64 (x40 + x43)) x40 x41)
 (cK ((Int.tmod x27 4) == 0)
 (k1 (w64 (x40 + x43)) x39 x40 x41)
 (none)))))
 (cK ((Int.tmod x27 4) == 1)
 (cK ((Int.tmod x27 4) == 3)
 (k1 x38 x39 x40 (w64 (x39 + x43)))
 (cK ((Int.tmod x27 4) == 2)
 (k1 x38 x39 (w64 (x39 + x43)) x41)
 (cK ((Int.tmod x27 4) == 1)
 (k1 x38 (w64 (x39 + x43)) x40 x41)
 (cK ((Int.tmod x27 4) == 0)
 (k1 (w64 (x39 + x43)) x39 x40 x41)
 (none)))))
 (cK ((Int.tmod x27 4) == 0)
 (cK ((Int.tmod x27 4) == 3)
 (k1 x38 x39 x40 (w64 (x38 + x43)))
 (cK ((Int.tmod x27 4) == 2)
 (k1 x38 x39 (w64 (x38 + x43)) x41)
 (cK ((Int.tmod x27 4) == 1)
 (k1 x38 (w64 (x38 + x43)) x40 x41)
 (cK ((Int.tmod x27 4) == 0)
 (k1 (w64 (x38 + x43)) x39 x40 x41)
 (none)))))
 (none))))))
noncomputable def J21_0_0 (α : Type) (x27 : Int) (x37 : Rows) (x38 x39 x40 x41 : Int) (k1 : Int → Int → Int → Int → Option α) : Option α := J21_0_0g  α x27 x37 x38 x39 x40 x41 k1
def F21_0_0 (v : TJ21_0_0) (α : Type) (K : Exit → St → Option α) : Int → Int → Bool → Int → Int → Int → Int → Int → Int → Int → Int → Rows → Int → Int → Int → Int → Option α := fun x26 x27 x28 x29 x30 x31 x32 x33 x34 x35 x36 x37 x38 x39 x40 x41 => v α x27 x37 x38 x39 x40 x41 (fun (y1 : Int) (y2 : Int) (y3 : Int) (y4 : Int) => u21_0_1 (K .normal) x26 x27 x29 x30 x31 x32 x33 x34 x35 x36 x37 y1 y2 y3 y4) 
theorem m21_0_0g (vf67_0 : Tf67_0) (vf75_0 : Tf75_0) (vf76_0 : Tf76_0)  (α : Type) (K : Exit → St → Option α) : F21_0_0 (J21_0_0g ) α K = p21_0_0.unc fun σ => runM Try.prog (E21_0g vf67_0 vf75_0 vf76_0) sh21 (c21_0_28g ) K σ := by kernel_rfl
theorem m21_0_0 : ∀ (α : Type) (K : Exit → St → Option α), F21_0_0 J21_0_0 α K = p21_0_0.unc fun σ => runM Try.prog E21_0 sh21 c21_0_28 K σ := m21_0_0g f67_0 f75_0 f76_0
noncomputable def c21_0_23g (vJ21_0_0 : TJ21_0_0) : MCode := (.seq (.region r21_25 [] (tO [2, 4, 7, 27, 28, 29, 30])) (.seq (.cond (.tmp 30) .skip (.exit 0)) (.seq (.mark [⟨p21_0_0, F21_0_0 vJ21_0_0⟩] c21_0_28) (.region r21_33 [] (tO [2, 4, 7, 27, 28, 29])))))
noncomputable def c21_0_23 : MCode := c21_0_23g J21_0_0
theorem g21_0_23 : c21_0_23.Good Try.prog E21_0 sh21 := ⟨trivial, ⟨⟨trivial, trivial⟩, ⟨⟨g21_0_28, m21_0_0, trivial⟩, trivial⟩⟩⟩
--CODE 23 0
def S21_0_1g (vJ21_0_0 : TJ21_0_0) (α : Type) (x10 : Int) (x20 : Rows) (x11 x21 x22 x23 x24 : Int) (kn : Int → Int → Int → Int → Int → Option α) (k1 : Int → Bool → Int → Int → Int → Int → Option α) : Option α :=
 cK (decide (x11 < x10))
 (vJ21_0_0 α x11 x20 x21 x22 x23 x24
 (fun x44 x45 x46 x47 => kn (w64 (x11 + 1)) x44 x45 x46 x47))
 (k1 x11 (decide (x11 < x10)) x21 x22 x23 x24)
noncomputable def S21_0_1 (α : Type) (x10 : Int) (x20 : Rows) (x11 x21 x22 x23 x24 : Int) (kn : Int → Int → Int → Int → Int → Option α) (k1 : Int → Bool → Int → Int → Int → Int → Option α) : Option α := S21_0_1g J21_0_0 α x10 x20 x11 x21 x22 x23 x24 kn k1
noncomputable def R21_0_1 (α : Type) (x10 : Int) (x20 : Rows) (k1 : Int → Bool → Int → Int → Int → Int → Option α) : Nat → Int → Int → Int → Int → Int → Option α
 | 0, _, _, _, _, _ => none
 | n + 1, x11, x21, x22, x23, x24 => S21_0_1 α x10 x20 x11 x21 x22 x23 x24 (R21_0_1 α x10 x20 k1 n) k1
noncomputable def L21_0_1 (α : Type) (x10 : Int) (x20 : Rows) (k1 : Int → Bool → Int → Int → Int → Int → Option α) (x11 x21 x22 x23 x24 : Int) : Option α := R21_0_1 α x10 x20 k1 fuel x11 x21 x22 x23 x24
abbrev TL21_0_1 : Type 1 := (α : Type) → Int → Rows → (Int → Bool → Int → Int → Int → Int → Option α) → Int → Int → Int → Int → Int → Option α
def F21_0_1 (v : TL21_0_1) (α : Type) (K : Exit → St → Option α) : Int → Int → Int → Int → Int → Int → Int → Int → Int → Int → Rows → Int → Int → Int → Int → Option α := fun x10 x11 x12 x13 x14 x15 x16 x17 x18 x19 x20 x21 x22 x23 x24 => v α x10 x20 (fun (y1 : Int) (y2 : Bool) (y3 : Int) (y4 : Int) (y5 : Int) (y6 : Int) => u21_0_0 (K (.exit 0)) x10 y1 y2 x12 x13 x14 x15 x16 x17 x18 x19 x20 y3 y4 y5 y6) x11 x21 x22 x23 x24
theorem r21_0_1g (vf67_0 : Tf67_0) (vf75_0 : Tf75_0) (vf76_0 : Tf76_0) (vJ21_0_0 : TJ21_0_0) (α : Type) (K : Exit → St → Option α) (Kn : St → Option α) (x10 x11 x12 x13 x14 x15 x16 x17 x18 x19 : Int) (x20 : Rows) (x21 x22 x23 x24 : Int) : u21_0_1 (fun σ => runM Try.prog (E21_0g vf67_0 vf75_0 vf76_0) sh21 (c21_0_23g vJ21_0_0) (thenK (fun σ => tidyK td21_23 σ Kn) K) σ) x10 x11 x12 x13 x14 x15 x16 x17 x18 x19 x20 x21 x22 x23 x24 = S21_0_1g vJ21_0_0 α x10 x20 x11 x21 x22 x23 x24 (fun x11 x21 x22 x23 x24 => u21_0_1 Kn x10 x11 x12 x13 x14 x15 x16 x17 x18 x19 x20 x21 x22 x23 x24) (fun (y1 : Int) (y2 : Bool) (y3 : Int) (y4 : Int) (y5 : Int) (y6 : Int) => u21_0_0 (K (.exit 0)) x10 y1 y2 x12 x13 x14 x15 x16 x17 x18 x19 x20 y3 y4 y5 y6) := by kernel_rfl
theorem r21_0_1 (α : Type) (K : Exit → St → Option α) (Kn : St → Option α) (x10 x11 x12 x13 x14 x15 x16 x17 x18 x19 : Int) (x20 : Rows) (x21 x22 x23 x24 : Int) : u21_0_1 (fun σ => runM Try.prog E21_0 sh21 c21_0_23 (thenK (fun σ => tidyK td21_23 σ Kn) K) σ) x10 x11 x12 x13 x14 x15 x16 x17 x18 x19 x20 x21 x22 x23 x24 = S21_0_1 α x10 x20 x11 x21 x22 x23 x24 (fun x11 x21 x22 x23 x24 => u21_0_1 Kn x10 x11 x12 x13 x14 x15 x16 x17 x18 x19 x20 x21 x22 x23 x24) (fun (y1 : Int) (y2 : Bool) (y3 : Int) (y4 : Int) (y5 : Int) (y6 : Int) => u21_0_0 (K (.exit 0)) x10 y1 y2 x12 x13 x14 x15 x16 x17 x18 x19 x20 y3 y4 y5 y6) := r21_0_1g f67_0 f75_0 f76_0 J21_0_0 α K Kn x10 x11 x12 x13 x14 x15 x16 x17 x18 x19 x20 x21 x22 x23 x24
theorem t21_0_1 (α : Type) (K : Exit → St → Option α) : ∀ (n : Nat) (x10 x11 x12 x13 x14 x15 x16 x17 x18 x19 : Int) (x20 : Rows) (x21 x22 x23 x24 : Int), R21_0_1 α x10 x20 (fun (y1 : Int) (y2 : Bool) (y3 : Int) (y4 : Int) (y5 : Int) (y6 : Int) => u21_0_0 (K (.exit 0)) x10 y1 y2 x12 x13 x14 x15 x16 x17 x18 x19 x20 y3 y4 y5 y6) n x11 x21 x22 x23 x24 = u21_0_1 (loopT (runM Try.prog E21_0 sh21 c21_0_23) td21_23 K n) x10 x11 x12 x13 x14 x15 x16 x17 x18 x19 x20 x21 x22 x23 x24 := by
 intro n
 induction n with
 | zero => intros; rfl
 | succ n ih => intro x10 x11 x12 x13 x14 x15 x16 x17 x18 x19 x20 x21 x22 x23 x24; exact (congrArg (fun kn => S21_0_1 α x10 x20 x11 x21 x22 x23 x24 kn (fun (y1 : Int) (y2 : Bool) (y3 : Int) (y4 : Int) (y5 : Int) (y6 : Int) => u21_0_0 (K (.exit 0)) x10 y1 y2 x12 x13 x14 x15 x16 x17 x18 x19 x20 y3 y4 y5 y6)) (funext fun x11 => funext fun x21 => funext fun x22 => funext fun x23 => funext fun x24 => ih x10 x11 x12 x13 x14 x15 x16 x17 x18 x19 x20 x21 x22 x23 x24)).trans (r21_0_1 α K (loopT (runM Try.prog E21_0 sh21 c21_0_23) td21_23 K n) x10 x11 x12 x13 x14 x15 x16 x17 x18 x19 x20 x21 x22 x23 x24).symm
theorem m21_0_1 : ∀ (α : Type) (K : Exit → St → Option α), F21_0_1 L21_0_1 α K = p21_0_1.unc fun σ => loopT (runM Try.prog E21_0 sh21 c21_0_23) td21_23 K fuel σ := fun α K => funext fun x10 => funext fun x11 => funext fun x12 => funext fun x13 => funext fun x14 => funext fun x15 => funext fun x16 => funext fun x17 => funext fun x18 => funext fun x19 => funext fun x20 => funext fun x21 => funext fun x22 => funext fun x23 => funext fun x24 => t21_0_1 α K fuel x10 x11 x12 x13 x14 x15 x16 x17 x18 x19 x20 x21 x22 x23 x24
abbrev Tf21_0 : Type 1 := (α : Type) → Rows → Int → Int → (Int → Int → Int → Int → Int → Int → Int → Option α) → Option α
def f21_0g (vL21_0_1 : TL21_0_1) (vf67_0 : Tf67_0) (vf75_0 : Tf75_0) (vf76_0 : Tf76_0) (α : Type) (x1 : Rows) (x2 x3 : Int) (k1 : Int → Int → Int → Int → Int → Int → Int → Option α) : Option α :=
 vf67_0 α x1 x2 x3
 (fun x4 x5 x6 x7 x8 => cK (x8 != 0)
 (k1 0 0 0 0 0 0 x8)
 (vf75_0 α x4 x5 x6
 (fun x9 => flatK [x9]
 (cK (decide (0 < ((List.length x9 : Nat) : Int)))
 (k1 0 0 0 0 0 0 16)
 (vL21_0_1 α ((List.length x4 : Nat) : Int) x4
 (fun x49 x50 x51 x52 x53 x54 => vf76_0 α (w64 ((w64 ((w64 (x51 + x52)) + x53)) + x54)) (w64 (((List.length x4 : Nat) : Int) * x5))
 (fun x56 x57 => vf76_0 α (w64 (x51 - x53)) (w64 ((w64 (Int.tdiv ((List.length x4 : Nat) : Int) 2)) * x5))
 (fun x58 x59 => vf76_0 α (w64 (x52 - x54)) (w64 ((w64 (Int.tdiv ((List.length x4 : Nat) : Int) 2)) * x5))
 (fun x60 x61 => k1 x56 x57 x58 x59 x60 x61 0)))) 0 0 0 0 0)))))
noncomputable def f21_0 (α : Type) (x1 : Rows) (x2 x3 : Int) (k1 : Int → Int → Int → Int → Int → Int → Int → Option α) : Option α := f21_0g L21_0_1 f67_0 f75_0 f76_0 α x1 x2 x3 k1
def pa21_0 : PT (List DV) := pA [pV true [dL, (dI .i64), (dI .i64)]]
def Fn21_0 (v : Tf21_0) (α : Type) (k : List RV → Option α) : Rows → Int → Int → Option α := fun x1 x2 x3 => v α x1 x2 x3 (fun (y1 : Int) (y2 : Int) (y3 : Int) (y4 : Int) (y5 : Int) (y6 : Int) (y7 : Int) => ur21_0_0 k y1 y2 y3 y4 y5 y6 y7)
noncomputable def cm21_0g (vL21_0_1 : TL21_0_1) : MCode := (.seq (.region r21_2 [] (tO [1, 2])) (.seq (.region r21_4 [] (tO [2, 4, 6])) (.seq (.seq (.region r21_7 [] (tO [2, 4, 6, 18])) (.cond (.tmp 18) (.seq (.region r21_10 [] (tO [2, 3])) .ret) .skip)) (.seq (.seq (.region r21_13 [] (tO [2, 4, 24])) (.cond (.tmp 24) (.seq (.region r21_16 [] (tO [2, 3])) .ret) .skip)) (.seq (.region r21_18 [] (tO [2, 4, 7])) (.seq (.seq (.region r21_21 [] (tO [2, 4, 7, 27, 28, 29])) (.block 0 (.loop td21_23 [⟨p21_0_1, F21_0_1 vL21_0_1⟩] c21_0_23))) (.seq (.region r21_35 [] (tO [2, 4, 7, 10])) (.seq (.region r21_37 [(15, 17), (15, 19), (15, 24), (15, 28), (26, 28), (15, 30), (26, 30), (15, 35), (26, 35)] (tO [2, 3])) .ret))))))))
noncomputable def cm21_0 : MCode := cm21_0g L21_0_1
theorem gm21_0 : cm21_0.Good Try.prog E21_0 sh21 := ⟨trivial, ⟨trivial, ⟨⟨trivial, ⟨⟨trivial, trivial⟩, trivial⟩⟩, ⟨⟨trivial, ⟨⟨trivial, trivial⟩, trivial⟩⟩, ⟨trivial, ⟨⟨trivial, ⟨g21_0_23, m21_0_1, trivial⟩⟩, ⟨trivial, ⟨trivial, trivial⟩⟩⟩⟩⟩⟩⟩⟩
theorem fm21_0g (vf67_0 : Tf67_0) (vf75_0 : Tf75_0) (vf76_0 : Tf76_0) (vL21_0_1 : TL21_0_1) (α : Type) (k : List RV → Option α) : Fn21_0 (f21_0g vL21_0_1 vf67_0 vf75_0 vf76_0) α k = pa21_0.unc fun ds => fnM Try.prog (E21_0g vf67_0 vf75_0 vf76_0) sh21 (cm21_0g vL21_0_1) rs21 k ds := by kernel_rfl
theorem fm21_0 : ∀ (α : Type) (k : List RV → Option α), Fn21_0 f21_0 α k = pa21_0.unc fun ds => fnM Try.prog E21_0 sh21 cm21_0 rs21 k ds := fm21_0g f67_0 f75_0 f76_0 L21_0_1
theorem is21 : FnIs Try.prog 21 nt21 tr21 tl21 cm21_0.erase rs21 := ⟨Try.f21, Try.func21, rfl, by kernel_rfl, by kernel_rfl, by kernel_rfl⟩
theorem io21_0 : InstOk Try.prog 21 nt21 ⟨pa21_0, Fn21_0 f21_0⟩ := inst_ok eo21_0 followsTry is21 ⟨⟨sh21, cm21_0, by kernel_rfl, gm21_0, fm21_0⟩⟩
end Go.AM.K
