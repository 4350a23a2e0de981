/- Printed by KGen. -/
import Derived.Test.YtjifpcjmnhnpkaaKTu
import Derived.Test.YtjifpcjmnhnpkaaMC1
namespace Go.AM.K
open Go.Proofs
set_option maxRecDepth 100000
set_option linter.unusedVariables false
abbrev nt64 : Nat := 18
def sh64 : List (Nat × List Sh) := [(4, [.int .i64]), (6, [.int .i64]), (8, [.int .i64]), (11, [.int .i64]), (13, [.int .i64]), (16, [.int .i64])]
def r64_2 : List AOper := [oO 1 (.box (.tmp 0)), oO 2 (.alloc [(cI 0), (cI 0), (cI 0), (cI 0), (cI 0), (cI 0), (cI 0), (cI 0), (cI 0), (cI 0)])]
def r64_4 : List AOper := [oO 3 (.faddr 2 (.tmp 1)), oO 4 (.load false 1 (.tmp 3)), oO 5 (.faddr 0 (.tmp 1)), oO 6 (.load false 1 (.tmp 5)), oO 7 (.faddr 1 (.tmp 1)), oO 8 (.load false 1 (.tmp 7)), oO 9 (.pure (oB (.unOp .neg 3 (.tmp 8)) 3)), oO 10 (.faddr 1 (.tmp 1)), oO 11 (.load false 1 (.tmp 10)), oO 12 (.faddr 0 (.tmp 1)), oO 13 (.load false 1 (.tmp 12)), oO 14 (.build [(cI 0), (cI 0), (cI 0), (cI 0), (cI 0), (cI 0), (cI 0), (cI 0), (cI 0)] [(0, 1, (.tmp 4)), (1, 1, (kI 0)), (2, 1, (kI 0)), (3, 1, (kI 0)), (4, 1, (.tmp 6)), (5, 1, (.tmp 9)), (6, 1, (kI 0)), (7, 1, (.tmp 11)), (8, 1, (.tmp 13))]), oO 15 (.faddr 2 (.tmp 1)), oO 16 (.load false 1 (.tmp 15)), oO 17 (.build [(cI 0), (cI 0), (cI 0), (cI 0), (cI 0), (cI 0), (cI 0), (cI 0), (cI 0), (cI 0)] [(0, 9, (.tmp 14)), (9, 1, (.tmp 16))]), oD (.store 10 (.tmp 2) (.tmp 17))]
def tr64 : List (Nat × Tidy) := [tT 0 [1, 2], tT 1 [2]]
def tl64 : List (Nat × Tidy) := []
def rs64 : List AResV := [.cell 2 true 10]
def pr64_0_0 : PT (List RV) := pRs [pR true [rD (dI .i64), rD (dI .i64), rD (dI .i64), rD (dI .i64), rD (dI .i64), rD (dI .i64), rD (dI .i64), rD (dI .i64), rD (dI .i64), rD (dI .i64)]]
def ur64_0_0 {β : Type} (g : List RV → β) : Int → Int → Int → Int → Int → Int → Int → Int → Int → Int → β := pr64_0_0.unc g
def E64_0g  : EnvK := EnvK.of [] noSeq
noncomputable def E64_0 : EnvK := E64_0g 
theorem eo64_0 : E64_0.Ok Try.prog := EnvK.of_ok noSeq_ok trivial
abbrev Tf64_0 : Type 1 := (α : Type) → Int → Int → Int → (Int → Int → Int → Int → Int → Int → Option α) → Option α
def f64_0g  (α : Type) (x1 x2 x3 : Int) (k1 : Int → Int → Int → Int → Int → Int → Option α) : Option α :=
 k1 x3 x1 (w64 (0 - x2)) x2 x1 x3
noncomputable def f64_0 (α : Type) (x1 x2 x3 : Int) (k1 : Int → Int → Int → Int → Int → Int → Option α) : Option α := f64_0g  α x1 x2 x3 k1
def pa64_0 : PT (List DV) := pA [pV true [(dI .i64), (dI .i64), (dI .i64)]]
def Fn64_0 (v : Tf64_0) (α : Type) (k : List RV → Option α) : Int → Int → Int → Option α := fun x1 x2 x3 => v α x1 x2 x3 (fun (y1 : Int) (y2 : Int) (y3 : Int) (y4 : Int) (y5 : Int) (y6 : Int) => ur64_0_0 k y1 0 0 0 y2 y3 0 y4 y5 y6)
noncomputable def cm64_0g  : MCode := (.seq (.region r64_2 [] (tO [1, 2])) (.seq (.region r64_4 [] (tO [2])) .ret))
noncomputable def cm64_0 : MCode := cm64_0g 
theorem gm64_0 : cm64_0.Good Try.prog E64_0 sh64 := ⟨trivial, ⟨trivial, trivial⟩⟩
theorem fm64_0g   (α : Type) (k : List RV → Option α) : Fn64_0 (f64_0g ) α k = pa64_0.unc fun ds => fnM Try.prog (E64_0g ) sh64 (cm64_0g ) rs64 k ds := by kernel_rfl
theorem fm64_0 : ∀ (α : Type) (k : List RV → Option α), Fn64_0 f64_0 α k = pa64_0.unc fun ds => fnM Try.prog E64_0 sh64 cm64_0 rs64 k ds := fm64_0g 
theorem is64 : FnIs Try.prog 64 nt64 tr64 tl64 cm64_0.erase rs64 := ⟨Try.f64, Try.func64, rfl, by kernel_rfl, by kernel_rfl, by kernel_rfl⟩
theorem io64_0 : InstOk Try.prog 64 nt64 ⟨pa64_0, Fn64_0 f64_0⟩ := inst_ok eo64_0 followsTry is64 ⟨⟨sh64, cm64_0, by kernel_rfl, gm64_0, fm64_0⟩⟩
abbrev nt124 : Nat := 7
def sh124 : List (Nat × List Sh) := []
def r124_2 : List AOper := [oO 2 (.mv (kI 0))]
def r124_4 : List AOper := [oM 3 0, oM 4 0, oO 5 (.pure (oB (.unOp .neg 3 (.tmp 4)) 3)), oO 6 (.pure (oB (.call { callee := .builtin .max, args := #[(.tmp 3), (.tmp 5)], argTypes := #[3, 3] }) 3)), oM 2 6]
def tr124 : List (Nat × Tidy) := [tT 0 [0], tT 1 [2]]
def tl124 : List (Nat × Tidy) := []
def rs124 : List AResV := [.tmp 2]
def pr124_0_0 : PT (List RV) := pRs [pR false [rD (dI .i64)]]
def ur124_0_0 {β : Type} (g : List RV → β) : Int → β := pr124_0_0.unc g
def E124_0g  : EnvK := EnvK.of [] noSeq
noncomputable def E124_0 : EnvK := E124_0g 
theorem eo124_0 : E124_0.Ok Try.prog := EnvK.of_ok noSeq_ok trivial
abbrev Tf124_0 : Type 1 := (α : Type) → Int → (Int → Option α) → Option α
def f124_0g  (α : Type) (x1 : Int) (k1 : Int → Option α) : Option α :=
 k1 (if (w64 (0 - x1)) > x1 then (w64 (0 - x1)) else x1)
noncomputable def f124_0 (α : Type) (x1 : Int) (k1 : Int → Option α) : Option α := f124_0g  α x1 k1
def pa124_0 : PT (List DV) := pA [pV false [(dI .i64)]]
def Fn124_0 (v : Tf124_0) (α : Type) (k : List RV → Option α) : Int → Option α := fun x1 => v α x1 (fun (y1 : Int) => ur124_0_0 k y1)
noncomputable def cm124_0g  : MCode := (.seq (.region r124_2 [] (tO [0])) (.seq (.region r124_4 [] (tO [2])) .ret))
noncomputable def cm124_0 : MCode := cm124_0g 
theorem gm124_0 : cm124_0.Good Try.prog E124_0 sh124 := ⟨trivial, ⟨trivial, trivial⟩⟩
theorem fm124_0g   (α : Type) (k : List RV → Option α) : Fn124_0 (f124_0g ) α k = pa124_0.unc fun ds => fnM Try.prog (E124_0g ) sh124 (cm124_0g ) rs124 k ds := by kernel_rfl
theorem fm124_0 : ∀ (α : Type) (k : List RV → Option α), Fn124_0 f124_0 α k = pa124_0.unc fun ds => fnM Try.prog E124_0 sh124 cm124_0 rs124 k ds := fm124_0g 
theorem is124 : FnIs Try.prog 124 nt124 tr124 tl124 cm124_0.erase rs124 := ⟨Try.f124, Try.func124, rfl, by kernel_rfl, by kernel_rfl, by kernel_rfl⟩
theorem io124_0 : InstOk Try.prog 124 nt124 ⟨pa124_0, Fn124_0 f124_0⟩ := inst_ok eo124_0 followsTry is124 ⟨⟨sh124, cm124_0, by kernel_rfl, gm124_0, fm124_0⟩⟩
abbrev nt122 : Nat := 14
def sh122 : List (Nat × List Sh) := []
def r122_2 : List AOper := [oO 4 (.mv (.const (.bool false)))]
def r122_4 : List AOper := [oM 5 1, oO 6 (.pure (oB (.unOp .neg 3 (.tmp 5)) 3)), oM 7 0, oO 8 (.bin .leq 3 (.tmp 6) (.tmp 7)), oM 9 8, oG 10 (.mv (.tmp 0)) 9 true, oG 11 (.mv (.tmp 1)) 9 true, oG 12 (.bin .leq 3 (.tmp 10) (.tmp 11)) 9 true, oO 13 (.pick (.tmp 9) (.tmp 12) (.const (.bool false))), oM 4 13]
def tr122 : List (Nat × Tidy) := [tT 0 [0, 1], tT 1 [4]]
def tl122 : List (Nat × Tidy) := []
def rs122 : List AResV := [.tmp 4]
def pr122_0_0 : PT (List RV) := pRs [pR false [rD dB]]
def ur122_0_0 {β : Type} (g : List RV → β) : Bool → β := pr122_0_0.unc g
def E122_0g  : EnvK := EnvK.of [] noSeq
noncomputable def E122_0 : EnvK := E122_0g 
theorem eo122_0 : E122_0.Ok Try.prog := EnvK.of_ok noSeq_ok trivial
abbrev Tf122_0 : Type 1 := (α : Type) → Int → Int → (Bool → Option α) → Option α
def f122_0g  (α : Type) (x1 x2 : Int) (k1 : Bool → Option α) : Option α :=
 cK (decide ((w64 (0 - x2)) ≤ x1))
 (k1 (decide (x1 ≤ x2)))
 (k1 false)
noncomputable def f122_0 (α : Type) (x1 x2 : Int) (k1 : Bool → Option α) : Option α := f122_0g  α x1 x2 k1
def pa122_0 : PT (List DV) := pA [pV false [(dI .i64)], pV false [(dI .i64)]]
def Fn122_0 (v : Tf122_0) (α : Type) (k : List RV → Option α) : Int → Int → Option α := fun x1 x2 => v α x1 x2 (fun (y1 : Bool) => ur122_0_0 k y1)
noncomputable def cm122_0g  : MCode := (.seq (.region r122_2 [] (tO [0, 1])) (.seq (.region r122_4 [] (tO [4])) .ret))
noncomputable def cm122_0 : MCode := cm122_0g 
theorem gm122_0 : cm122_0.Good Try.prog E122_0 sh122 := ⟨trivial, ⟨trivial, trivial⟩⟩
theorem fm122_0g   (α : Type) (k : List RV → Option α) : Fn122_0 (f122_0g ) α k = pa122_0.unc fun ds => fnM Try.prog (E122_0g ) sh122 (cm122_0g ) rs122 k ds := by kernel_rfl
theorem fm122_0 : ∀ (α : Type) (k : List RV → Option α), Fn122_0 f122_0 α k = pa122_0.unc fun ds => fnM Try.prog E122_0 sh122 cm122_0 rs122 k ds := fm122_0g 
theorem is122 : FnIs Try.prog 122 nt122 tr122 tl122 cm122_0.erase rs122 := ⟨Try.f122, Try.func122, rfl, by kernel_rfl, by kernel_rfl, by kernel_rfl⟩
theorem io122_0 : InstOk Try.prog 122 nt122 ⟨pa122_0, Fn122_0 f122_0⟩ := inst_ok eo122_0 followsTry is122 ⟨⟨sh122, cm122_0, by kernel_rfl, gm122_0, fm122_0⟩⟩
abbrev nt115 : Nat := 15
def sh115 : List (Nat × List Sh) := []
def r115_2 : List AOper := [oO 4 (.mv (kI 0))]
def td115_5 : Option Tidy := (tO [0, 1])
def r115_8 : List AOper := [oM 5 1, oO 6 (.bin .neq 3 (.tmp 5) (kI 0))]
def r115_11 : List AOper := [oM 7 1, oM 8 0, oM 9 1, oO 10 (.bin .rem 3 (.tmp 8) (.tmp 9)), oM 0 7, oM 1 10]
def r115_13 : List AOper := [oM 11 0, oM 12 0, oO 13 (.pure (oB (.unOp .neg 3 (.tmp 12)) 3)), oO 14 (.pure (oB (.call { callee := .builtin .max, args := #[(.tmp 11), (.tmp 13)], argTypes := #[3, 3] }) 3)), oM 4 14]
def tr115 : List (Nat × Tidy) := [tT 0 [0, 1], tT 1 [0, 1, 6], tT 2 [0, 1], tT 3 [4]]
def tl115 : List (Nat × Tidy) := [tT 1 [0, 1]]
def rs115 : List AResV := [.tmp 4]
def p115_0_0 : PT St := pS [sl 0 (aV false [(cD (dI .i64))]), sl 1 (aV false [(cD (dI .i64))])] []
def u115_0_0 {β : Type} (g : St → β) : Int → Int → β := p115_0_0.unc g
def p115_0_1 : PT St := pS [sl 0 (aV false [(cD (dI .i64))]), sl 1 (aV false [(cD (dI .i64))]), sl 6 (aV false [(cD dB)])] []
def u115_0_1 {β : Type} (g : St → β) : Int → Int → Bool → β := p115_0_1.unc g
def pr115_0_0 : PT (List RV) := pRs [pR false [rD (dI .i64)]]
def ur115_0_0 {β : Type} (g : List RV → β) : Int → β := pr115_0_0.unc g
def E115_0g  : EnvK := EnvK.of [] noSeq
noncomputable def E115_0 : EnvK := E115_0g 
theorem eo115_0 : E115_0.Ok Try.prog := EnvK.of_ok noSeq_ok trivial
noncomputable def c115_0_5g  : MCode := (.seq (.seq (.region r115_8 [] (tO [0, 1, 6])) (.cond (.tmp 6) .skip (.exit 0))) (.block 1 (.region r115_11 [] (tO [0, 1]))))
noncomputable def c115_0_5 : MCode := c115_0_5g 
theorem g115_0_5 : c115_0_5.Good Try.prog E115_0 sh115 := ⟨⟨trivial, ⟨trivial, trivial⟩⟩, trivial⟩
--CODE 5 0
def S115_0_0g  (α : Type)  (x3 x4 : Int) (kn : Int → Int → Option α) (k1 : Int → Int → Bool → Option α) : Option α :=
 cK (x4 != 0)
 (gK (x4 != 0) (kn x4 (Int.tmod x3 x4)))
 (k1 x3 x4 (x4 != 0))
noncomputable def S115_0_0 (α : Type)  (x3 x4 : Int) (kn : Int → Int → Option α) (k1 : Int → Int → Bool → Option α) : Option α := S115_0_0g  α  x3 x4 kn k1
noncomputable def R115_0_0 (α : Type)  (k1 : Int → Int → Bool → Option α) : Nat → Int → Int → Option α
 | 0, _, _ => none
 | n + 1, x3, x4 => S115_0_0 α  x3 x4 (R115_0_0 α  k1 n) k1
noncomputable def L115_0_0 (α : Type)  (k1 : Int → Int → Bool → Option α) (x3 x4 : Int) : Option α := R115_0_0 α  k1 fuel x3 x4
abbrev TL115_0_0 : Type 1 := (α : Type) → (Int → Int → Bool → Option α) → Int → Int → Option α
def F115_0_0 (v : TL115_0_0) (α : Type) (K : Exit → St → Option α) : Int → Int → Option α := fun x3 x4 => v α  (fun (y1 : Int) (y2 : Int) (y3 : Bool) => u115_0_1 (K (.exit 0)) y1 y2 y3) x3 x4
theorem r115_0_0g   (α : Type) (K : Exit → St → Option α) (Kn : St → Option α) (x3 x4 : Int) : u115_0_0 (fun σ => runM Try.prog (E115_0g ) sh115 (c115_0_5g ) (thenK (fun σ => tidyK td115_5 σ Kn) K) σ) x3 x4 = S115_0_0g  α  x3 x4 (fun x3 x4 => u115_0_0 Kn x3 x4) (fun (y1 : Int) (y2 : Int) (y3 : Bool) => u115_0_1 (K (.exit 0)) y1 y2 y3) := by kernel_rfl
theorem r115_0_0 (α : Type) (K : Exit → St → Option α) (Kn : St → Option α) (x3 x4 : Int) : u115_0_0 (fun σ => runM Try.prog E115_0 sh115 c115_0_5 (thenK (fun σ => tidyK td115_5 σ Kn) K) σ) x3 x4 = S115_0_0 α  x3 x4 (fun x3 x4 => u115_0_0 Kn x3 x4) (fun (y1 : Int) (y2 : Int) (y3 : Bool) => u115_0_1 (K (.exit 0)) y1 y2 y3) := r115_0_0g  α K Kn x3 x4
theorem t115_0_0 (α : Type) (K : Exit → St → Option α) : ∀ (n : Nat) (x3 x4 : Int), R115_0_0 α  (fun (y1 : Int) (y2 : Int) (y3 : Bool) => u115_0_1 (K (.exit 0)) y1 y2 y3) n x3 x4 = u115_0_0 (loopT (runM Try.prog E115_0 sh115 c115_0_5) td115_5 K n) x3 x4 := by
 intro n
 induction n with
 | zero => intros; rfl
 | succ n ih => intro x3 x4; exact (congrArg (fun kn => S115_0_0 α  x3 x4 kn (fun (y1 : Int) (y2 : Int) (y3 : Bool) => u115_0_1 (K (.exit 0)) y1 y2 y3)) (funext fun x3 => funext fun x4 => ih x3 x4)).trans (r115_0_0 α K (loopT (runM Try.prog E115_0 sh115 c115_0_5) td115_5 K n) x3 x4).symm
theorem m115_0_0 : ∀ (α : Type) (K : Exit → St → Option α), F115_0_0 L115_0_0 α K = p115_0_0.unc fun σ => loopT (runM Try.prog E115_0 sh115 c115_0_5) td115_5 K fuel σ := fun α K => funext fun x3 => funext fun x4 => t115_0_0 α K fuel x3 x4
abbrev Tf115_0 : Type 1 := (α : Type) → Int → Int → (Int → Option α) → Option α
def f115_0g (vL115_0_0 : TL115_0_0) (α : Type) (x1 x2 : Int) (k1 : Int → Option α) : Option α :=
 vL115_0_0 α
 (fun x6 x7 x8 => k1 (if (w64 (0 - x6)) > x6 then (w64 (0 - x6)) else x6)) x1 x2
noncomputable def f115_0 (α : Type) (x1 x2 : Int) (k1 : Int → Option α) : Option α := f115_0g L115_0_0 α x1 x2 k1
def pa115_0 : PT (List DV) := pA [pV false [(dI .i64)], pV false [(dI .i64)]]
def Fn115_0 (v : Tf115_0) (α : Type) (k : List RV → Option α) : Int → Int → Option α := fun x1 x2 => v α x1 x2 (fun (y1 : Int) => ur115_0_0 k y1)
noncomputable def cm115_0g (vL115_0_0 : TL115_0_0) : MCode := (.seq (.region r115_2 [] (tO [0, 1])) (.seq (.block 0 (.loop td115_5 [⟨p115_0_0, F115_0_0 vL115_0_0⟩] c115_0_5)) (.seq (.region r115_13 [] (tO [4])) .ret)))
noncomputable def cm115_0 : MCode := cm115_0g L115_0_0
theorem gm115_0 : cm115_0.Good Try.prog E115_0 sh115 := ⟨trivial, ⟨⟨g115_0_5, m115_0_0, trivial⟩, ⟨trivial, trivial⟩⟩⟩
theorem fm115_0g  (vL115_0_0 : TL115_0_0) (α : Type) (k : List RV → Option α) : Fn115_0 (f115_0g vL115_0_0) α k = pa115_0.unc fun ds => fnM Try.prog (E115_0g ) sh115 (cm115_0g vL115_0_0) rs115 k ds := by kernel_rfl
theorem fm115_0 : ∀ (α : Type) (k : List RV → Option α), Fn115_0 f115_0 α k = pa115_0.unc fun ds => fnM Try.prog E115_0 sh115 cm115_0 rs115 k ds := fm115_0g L115_0_0
theorem is115 : FnIs Try.prog 115 nt115 tr115 tl115 cm115_0.erase rs115 := ⟨Try.f115, Try.func115, rfl, by kernel_rfl, by kernel_rfl, by kernel_rfl⟩
theorem io115_0 : InstOk Try.prog 115 nt115 ⟨pa115_0, Fn115_0 f115_0⟩ := inst_ok eo115_0 followsTry is115 ⟨⟨sh115, cm115_0, by kernel_rfl, gm115_0, fm115_0⟩⟩
abbrev nt103 : Nat := 10
def sh103 : List (Nat × List Sh) := [(4, [.int .i64, .int .i64]), (6, [.int .i64, .int .i64]), (8, [.int .i64, .int .i64])]
def r103_2 : List AOper := [oO 1 (.box (.tmp 0)), oO 2 (.alloc [(cI 0), (cI 0), (cI 0), (cI 0), (cI 0), (cI 0)])]
def r103_4 : List AOper := [oO 3 (.faddr 4 (.tmp 1)), oO 4 (.load true 2 (.tmp 3)), oO 5 (.faddr 6 (.tmp 1)), oO 6 (.load true 2 (.tmp 5)), oO 7 (.faddr 8 (.tmp 1)), oO 8 (.load true 2 (.tmp 7)), oO 9 (.build [(cI 0), (cI 0), (cI 0), (cI 0), (cI 0), (cI 0)] [(0, 2, (.tmp 4)), (2, 2, (.tmp 6)), (4, 2, (.tmp 8))]), oD (.store 6 (.tmp 2) (.tmp 9))]
def tr103 : List (Nat × Tidy) := [tT 0 [1, 2], tT 1 [2]]
def tl103 : List (Nat × Tidy) := []
def rs103 : List AResV := [.cell 2 true 6]
def pr103_0_0 : PT (List RV) := pRs [pR true [rD (dI .i64), rD (dI .i64), rD (dI .i64), rD (dI .i64), rD (dI .i64), rD (dI .i64)]]
def ur103_0_0 {β : Type} (g : List RV → β) : Int → Int → Int → Int → Int → Int → β := pr103_0_0.unc g
def E103_0g  : EnvK := EnvK.of [] noSeq
noncomputable def E103_0 : EnvK := E103_0g 
theorem eo103_0 : E103_0.Ok Try.prog := EnvK.of_ok noSeq_ok trivial
abbrev Tf103_0 : Type 1 := (α : Type) → ByteArray → Int → Int → Int → Int → Int → Int → Int → Int → Int → (Int → Int → Int → Int → Int → Int → Option α) → Option α
def f103_0g  (α : Type) (x1 : ByteArray) (x2 x3 x4 x5 x6 x7 x8 x9 x10 : Int) (k1 : Int → Int → Int → Int → Int → Int → Option α) : Option α :=
 k1 x5 x6 x7 x8 x9 x10
noncomputable def f103_0 (α : Type) (x1 : ByteArray) (x2 x3 x4 x5 x6 x7 x8 x9 x10 : Int) (k1 : Int → Int → Int → Int → Int → Int → Option α) : Option α := f103_0g  α x1 x2 x3 x4 x5 x6 x7 x8 x9 x10 k1
def pa103_0 : PT (List DV) := pA [pV true [dS, (dI .i64), (dI .i64), (dI .i64), (dI .i64), (dI .i64), (dI .i64), (dI .i64), (dI .i64), (dI .i64)]]
def Fn103_0 (v : Tf103_0) (α : Type) (k : List RV → Option α) : ByteArray → Int → Int → Int → Int → Int → Int → Int → Int → Int → Option α := fun x1 x2 x3 x4 x5 x6 x7 x8 x9 x10 => v α x1 x2 x3 x4 x5 x6 x7 x8 x9 x10 (fun (y1 : Int) (y2 : Int) (y3 : Int) (y4 : Int) (y5 : Int) (y6 : Int) => ur103_0_0 k y1 y2 y3 y4 y5 y6)
noncomputable def cm103_0g  : MCode := (.seq (.region r103_2 [] (tO [1, 2])) (.seq (.region r103_4 [] (tO [2])) .ret))
noncomputable def cm103_0 : MCode := cm103_0g 
theorem gm103_0 : cm103_0.Good Try.prog E103_0 sh103 := ⟨trivial, ⟨trivial, trivial⟩⟩
theorem fm103_0g   (α : Type) (k : List RV → Option α) : Fn103_0 (f103_0g ) α k = pa103_0.unc fun ds => fnM Try.prog (E103_0g ) sh103 (cm103_0g ) rs103 k ds := by kernel_rfl
theorem fm103_0 : ∀ (α : Type) (k : List RV → Option α), Fn103_0 f103_0 α k = pa103_0.unc fun ds => fnM Try.prog E103_0 sh103 cm103_0 rs103 k ds := fm103_0g 
theorem is103 : FnIs Try.prog 103 nt103 tr103 tl103 cm103_0.erase rs103 := ⟨Try.f103, Try.func103, rfl, by kernel_rfl, by kernel_rfl, by kernel_rfl⟩
theorem io103_0 : InstOk Try.prog 103 nt103 ⟨pa103_0, Fn103_0 f103_0⟩ := inst_ok eo103_0 followsTry is103 ⟨⟨sh103, cm103_0, by kernel_rfl, gm103_0, fm103_0⟩⟩
abbrev nt123 : Nat := 55
def sh123 : List (Nat × List Sh) := []
def r123_2 : List AOper := [oO 2 (.mv (.const (.bool false)))]
def r123_5 : List AOper := [oM 6 0, oO 7 (.pure (oB (.call { callee := .builtin .len, args := #[(.tmp 6)], argTypes := #[9] }) 3)), oO 8 (.bin .lss 3 (.tmp 7) (kI 1)), oM 9 8, oG 10 (.mv (.tmp 0)) 9 false, oG 11 (.pure (oB (.call { callee := .builtin .len, args := #[(.tmp 10)], argTypes := #[9] }) 3)) 9 false, oG 12 (.bin .gtr 3 (.tmp 11) (kI 12)) 9 false, oO 13 (.pick (.tmp 9) (.const (.bool true)) (.tmp 12))]
def r123_8 : List AOper := [oO 2 (.mv (.const (.bool false)))]
def r123_11 : List AOper := [oO 3 (.mv (kI 0))]
def td123_13 : Option Tidy := (tO [0, 3])
def r123_16 : List AOper := [oM 14 3, oM 15 0, oO 16 (.pure (oB (.call { callee := .builtin .len, args := #[(.tmp 15)], argTypes := #[9] }) 3)), oO 17 (.bin .lss 3 (.tmp 14) (.tmp 16))]
def r123_21 : List AOper := [oM 20 0, oM 21 3, oO 22 (.pure (oB (.index 9 (.tmp 20) (.tmp 21)) 5)), oM 4 22]
def r123_23 : List AOper := [oM 23 4, oO 24 (.bin .geq 5 (.tmp 23) (.const (.int .u8 97))), oM 25 24, oG 26 (.mv (.tmp 4)) 25 true, oG 27 (.bin .leq 5 (.tmp 26) (.const (.int .u8 122))) 25 true, oO 28 (.pick (.tmp 25) (.tmp 27) (.const (.bool false))), oM 29 28, oG 30 (.mv (.tmp 4)) 29 false, oG 31 (.bin .geq 5 (.tmp 30) (.const (.int .u8 65))) 29 false, oG 32 (.mv (.tmp 31)) 29 false, oG 33 (.mv (.tmp 4)) 32 true, oG 34 (.bin .leq 5 (.tmp 33) (.const (.int .u8 90))) 32 true, oG 35 (.pick (.tmp 32) (.tmp 34) (.const (.bool false))) 29 false, oO 36 (.pick (.tmp 29) (.const (.bool true)) (.tmp 35)), oM 5 36]
def r123_25 : List AOper := [oM 37 5, oO 38 (.pure (oB (.unOp .not 4 (.tmp 37)) 4)), oM 39 38, oG 40 (.mv (.tmp 3)) 39 true, oG 41 (.bin .eql 3 (.tmp 40) (kI 0)) 39 true, oG 42 (.mv (.tmp 41)) 39 true, oG 43 (.mv (.tmp 4)) 42 false, oG 44 (.bin .neq 5 (.tmp 43) (.const (.int .u8 45))) 42 false, oG 45 (.mv (.tmp 44)) 42 false, oG 46 (.mv (.tmp 4)) 45 true, oG 47 (.bin .lss 5 (.tmp 46) (.const (.int .u8 48))) 45 true, oG 48 (.mv (.tmp 47)) 45 true, oG 49 (.mv (.tmp 4)) 48 false, oG 50 (.bin .gtr 5 (.tmp 49) (.const (.int .u8 57))) 48 false, oG 51 (.pick (.tmp 48) (.const (.bool true)) (.tmp 50)) 45 true, oG 52 (.pick (.tmp 45) (.tmp 51) (.const (.bool false))) 42 false, oG 53 (.pick (.tmp 42) (.const (.bool true)) (.tmp 52)) 39 true, oO 54 (.pick (.tmp 39) (.tmp 53) (.const (.bool false)))]
def r123_28 : List AOper := [oO 2 (.mv (.const (.bool false)))]
def r123_29 : List AOper := [oM 18 3, oO 19 (.bin .add 3 (.tmp 18) (kI 1)), oM 3 19]
def r123_31 : List AOper := [oO 2 (.mv (.const (.bool true)))]
def tr123 : List (Nat × Tidy) := [tT 0 [0], tT 1 [0, 13], tT 2 [2], tT 3 [0, 3], tT 4 [0, 3, 17], tT 6 [0, 3, 4], tT 7 [0, 3, 4, 5], tT 8 [0, 3, 54], tT 9 [2], tT 5 [0, 3], tT 10 [2]]
def tl123 : List (Nat × Tidy) := [tT 4 [0, 3]]
def rs123 : List AResV := [.tmp 2]
def p123_0_0 : PT St := pS [sl 0 (aV false [(cD dS)]), sl 3 (aV false [(cD (dI .i64))]), sl 4 (aV false [(cD (dI .u8))])] []
def u123_0_0 {β : Type} (g : St → β) : ByteArray → Int → Int → β := p123_0_0.unc g
def p123_0_1 : PT St := pS [sl 0 (aV false [(cD dS)]), sl 3 (aV false [(cD (dI .i64))]), sl 4 (aV false [(cD (dI .u8))]), sl 5 (aV false [(cD dB)])] []
def u123_0_1 {β : Type} (g : St → β) : ByteArray → Int → Int → Bool → β := p123_0_1.unc g
def p123_0_2 : PT St := pS [sl 0 (aV false [(cD dS)]), sl 3 (aV false [(cD (dI .i64))]), sl 54 (aV false [(cD dB)])] []
def u123_0_2 {β : Type} (g : St → β) : ByteArray → Int → Bool → β := p123_0_2.unc g
def p123_0_3 : PT St := pS [sl 0 (aV false [(cD dS)]), sl 3 (aV false [(cD (dI .i64))])] []
def u123_0_3 {β : Type} (g : St → β) : ByteArray → Int → β := p123_0_3.unc g
def p123_0_4 : PT St := pS [sl 2 (aV false [(cD dB)])] []
def u123_0_4 {β : Type} (g : St → β) : Bool → β := p123_0_4.unc g
def p123_0_5 : PT St := pS [sl 0 (aV false [(cD dS)]), sl 3 (aV false [(cD (dI .i64))]), sl 17 (aV false [(cD dB)])] []
def u123_0_5 {β : Type} (g : St → β) : ByteArray → Int → Bool → β := p123_0_5.unc g
def pr123_0_0 : PT (List RV) := pRs [pR false [rD dB]]
def ur123_0_0 {β : Type} (g : List RV → β) : Bool → β := pr123_0_0.unc g
def E123_0g  : EnvK := EnvK.of [] noSeq
noncomputable def E123_0 : EnvK := E123_0g 
theorem eo123_0 : E123_0.Ok Try.prog := EnvK.of_ok noSeq_ok trivial
noncomputable def c123_0_24g  : MCode := (.region r123_25 [] (tO [0, 3, 54]))
noncomputable def c123_0_24 : MCode := c123_0_24g 
theorem g123_0_24 : c123_0_24.Good Try.prog E123_0 sh123 := trivial
--CODE 24 0
abbrev TJ123_0_1 : Type 1 := (α : Type) → Int → Int → Bool → (Bool → Option α) → Option α
def J123_0_1g  (α : Type) (x13 x14 : Int) (x15 : Bool) (k1 : Bool → Option α) : Option α :=
 cK (!x15)
 (cK (x13 == 0)
 (k1 true)
 (cK (x14 != 45)
 (cK (decide (x14 < 48))
 (k1 true)
 (k1 (decide (57 < x14))))
 (k1 false)))
 (k1 false)
noncomputable def J123_0_1 (α : Type) (x13 x14 : Int) (x15 : Bool) (k1 : Bool → Option α) : Option α := J123_0_1g  α x13 x14 x15 k1
def F123_0_1 (v : TJ123_0_1) (α : Type) (K : Exit → St → Option α) : ByteArray → Int → Int → Bool → Option α := fun x12 x13 x14 x15 => v α x13 x14 x15 (fun (y1 : Bool) => u123_0_2 (K .normal) x12 x13 y1) 
theorem m123_0_1g   (α : Type) (K : Exit → St → Option α) : F123_0_1 (J123_0_1g ) α K = p123_0_1.unc fun σ => runM Try.prog (E123_0g ) sh123 (c123_0_24g ) K σ := by kernel_rfl
theorem m123_0_1 : ∀ (α : Type) (K : Exit → St → Option α), F123_0_1 J123_0_1 α K = p123_0_1.unc fun σ => runM Try.prog E123_0 sh123 c123_0_24 K σ := m123_0_1g 
noncomputable def c123_0_22g  : MCode := (.region r123_23 [] (tO [0, 3, 4, 5]))
noncomputable def c123_0_22 : MCode := c123_0_22g 
theorem g123_0_22 : c123_0_22.Good Try.prog E123_0 sh123 := trivial
--CODE 22 0
abbrev TJ123_0_0 : Type 1 := (α : Type) → Int → (Bool → Option α) → Option α
def J123_0_0g  (α : Type) (x8 : Int) (k1 : Bool → Option α) : Option α :=
 cK (decide (97 ≤ x8))
 (cK (decide (x8 ≤ 122))
 (k1 true)
 (cK (decide (65 ≤ x8))
 (k1 (decide (x8 ≤ 90)))
 (k1 false)))
 (cK (decide (65 ≤ x8))
 (k1 (decide (x8 ≤ 90)))
 (k1 false))
noncomputable def J123_0_0 (α : Type) (x8 : Int) (k1 : Bool → Option α) : Option α := J123_0_0g  α x8 k1
def F123_0_0 (v : TJ123_0_0) (α : Type) (K : Exit → St → Option α) : ByteArray → Int → Int → Option α := fun x6 x7 x8 => v α x8 (fun (y1 : Bool) => u123_0_1 (K .normal) x6 x7 x8 y1) 
theorem m123_0_0g   (α : Type) (K : Exit → St → Option α) : F123_0_0 (J123_0_0g ) α K = p123_0_0.unc fun σ => runM Try.prog (E123_0g ) sh123 (c123_0_22g ) K σ := by kernel_rfl
theorem m123_0_0 : ∀ (α : Type) (K : Exit → St → Option α), F123_0_0 J123_0_0 α K = p123_0_0.unc fun σ => runM Try.prog E123_0 sh123 c123_0_22 K σ := m123_0_0g 
noncomputable def c123_0_13g (vJ123_0_0 : TJ123_0_0) (vJ123_0_1 : TJ123_0_1) : MCode := (.seq (.seq (.region r123_16 [] (tO [0, 3, 17])) (.cond (.tmp 17) .skip (.exit 0))) (.seq (.block 1 (.seq (.region r123_21 [] (tO [0, 3, 4])) (.seq (.mark [⟨p123_0_0, F123_0_0 vJ123_0_0⟩] c123_0_22) (.seq (.mark [⟨p123_0_1, F123_0_1 vJ123_0_1⟩] c123_0_24) (.cond (.tmp 54) (.seq (.region r123_28 [] (tO [2])) .ret) .skip))))) (.region r123_29 [] (tO [0, 3]))))
noncomputable def c123_0_13 : MCode := c123_0_13g J123_0_0 J123_0_1
theorem g123_0_13 : c123_0_13.Good Try.prog E123_0 sh123 := ⟨⟨trivial, ⟨trivial, trivial⟩⟩, ⟨⟨trivial, ⟨⟨g123_0_22, m123_0_0, trivial⟩, ⟨⟨g123_0_24, m123_0_1, trivial⟩, ⟨⟨trivial, trivial⟩, trivial⟩⟩⟩⟩, trivial⟩⟩
--CODE 13 0
def S123_0_2g (vJ123_0_0 : TJ123_0_0) (vJ123_0_1 : TJ123_0_1) (α : Type) (x2 : ByteArray) (x3 : Int) (kn : Int → Option α) (k1 : Option α) (k2 : Int → Bool → Option α) : Option α :=
 cK (decide (x3 < ((ByteArray.size x2 : Nat) : Int)))
 (sixK x2 x3
 (fun x5 => vJ123_0_0 α ((UInt8.toNat x5 : Nat) : Int)
 (fun x10 => vJ123_0_1 α x3 ((UInt8.toNat x5 : Nat) : Int) x10
 (fun x17 => cK x17
 (k1)
 (kn (w64 (x3 + 1)))))))
 (k2 x3 (decide (x3 < ((ByteArray.size x2 : Nat) : Int))))
noncomputable def S123_0_2 (α : Type) (x2 : ByteArray) (x3 : Int) (kn : Int → Option α) (k1 : Option α) (k2 : Int → Bool → Option α) : Option α := S123_0_2g J123_0_0 J123_0_1 α x2 x3 kn k1 k2
noncomputable def R123_0_2 (α : Type) (x2 : ByteArray) (k1 : Option α) (k2 : Int → Bool → Option α) : Nat → Int → Option α
 | 0, _ => none
 | n + 1, x3 => S123_0_2 α x2 x3 (R123_0_2 α x2 k1 k2 n) k1 k2
noncomputable def L123_0_2 (α : Type) (x2 : ByteArray) (k1 : Option α) (k2 : Int → Bool → Option α) (x3 : Int) : Option α := R123_0_2 α x2 k1 k2 fuel x3
abbrev TL123_0_2 : Type 1 := (α : Type) → ByteArray → (Option α) → (Int → Bool → Option α) → Int → Option α
def F123_0_2 (v : TL123_0_2) (α : Type) (K : Exit → St → Option α) : ByteArray → Int → Option α := fun x2 x3 => v α x2 (u123_0_4 (K .ret) false) (fun (y1 : Int) (y2 : Bool) => u123_0_5 (K (.exit 0)) x2 y1 y2) x3
theorem r123_0_2g  (vJ123_0_0 : TJ123_0_0) (vJ123_0_1 : TJ123_0_1) (α : Type) (K : Exit → St → Option α) (Kn : St → Option α) (x2 : ByteArray) (x3 : Int) : u123_0_3 (fun σ => runM Try.prog (E123_0g ) sh123 (c123_0_13g vJ123_0_0 vJ123_0_1) (thenK (fun σ => tidyK td123_13 σ Kn) K) σ) x2 x3 = S123_0_2g vJ123_0_0 vJ123_0_1 α x2 x3 (fun x3 => u123_0_3 Kn x2 x3) (u123_0_4 (K .ret) false) (fun (y1 : Int) (y2 : Bool) => u123_0_5 (K (.exit 0)) x2 y1 y2) := by kernel_rfl
theorem r123_0_2 (α : Type) (K : Exit → St → Option α) (Kn : St → Option α) (x2 : ByteArray) (x3 : Int) : u123_0_3 (fun σ => runM Try.prog E123_0 sh123 c123_0_13 (thenK (fun σ => tidyK td123_13 σ Kn) K) σ) x2 x3 = S123_0_2 α x2 x3 (fun x3 => u123_0_3 Kn x2 x3) (u123_0_4 (K .ret) false) (fun (y1 : Int) (y2 : Bool) => u123_0_5 (K (.exit 0)) x2 y1 y2) := r123_0_2g J123_0_0 J123_0_1 α K Kn x2 x3
theorem t123_0_2 (α : Type) (K : Exit → St → Option α) : ∀ (n : Nat) (x2 : ByteArray) (x3 : Int), R123_0_2 α x2 (u123_0_4 (K .ret) false) (fun (y1 : Int) (y2 : Bool) => u123_0_5 (K (.exit 0)) x2 y1 y2) n x3 = u123_0_3 (loopT (runM Try.prog E123_0 sh123 c123_0_13) td123_13 K n) x2 x3 := by
 intro n
 induction n with
 | zero => intros; rfl
 | succ n ih => intro x2 x3; exact (congrArg (fun kn => S123_0_2 α x2 x3 kn (u123_0_4 (K .ret) false) (fun (y1 : Int) (y2 : Bool) => u123_0_5 (K (.exit 0)) x2 y1 y2)) (funext fun x3 => ih x2 x3)).trans (r123_0_2 α K (loopT (runM Try.prog E123_0 sh123 c123_0_13) td123_13 K n) x2 x3).symm
theorem m123_0_2 : ∀ (α : Type) (K : Exit → St → Option α), F123_0_2 L123_0_2 α K = p123_0_3.unc fun σ => loopT (runM Try.prog E123_0 sh123 c123_0_13) td123_13 K fuel σ := fun α K => funext fun x2 => funext fun x3 => t123_0_2 α K fuel x2 x3
abbrev Tf123_0 : Type 1 := (α : Type) → ByteArray → (Bool → Option α) → Option α
def f123_0g (vL123_0_2 : TL123_0_2) (α : Type) (x1 : ByteArray) (k1 : Bool → Option α) : Option α :=
 cK (decide (((ByteArray.size x1 : Nat) : Int) < 1))
 (k1 false)
 (cK (decide (12 < ((ByteArray.size x1 : Nat) : Int)))
 (k1 false)
 (vL123_0_2 α x1
 (k1 false)
 (fun x19 x20 => k1 true) 0))
noncomputable def f123_0 (α : Type) (x1 : ByteArray) (k1 : Bool → Option α) : Option α := f123_0g L123_0_2 α x1 k1
def pa123_0 : PT (List DV) := pA [pV false [dS]]
def Fn123_0 (v : Tf123_0) (α : Type) (k : List RV → Option α) : ByteArray → Option α := fun x1 => v α x1 (fun (y1 : Bool) => ur123_0_0 k y1)
noncomputable def cm123_0g (vL123_0_2 : TL123_0_2) : MCode := (.seq (.region r123_2 [] (tO [0])) (.seq (.seq (.region r123_5 [] (tO [0, 13])) (.cond (.tmp 13) (.seq (.region r123_8 [] (tO [2])) .ret) .skip)) (.seq (.seq (.region r123_11 [] (tO [0, 3])) (.block 0 (.loop td123_13 [⟨p123_0_3, F123_0_2 vL123_0_2⟩] c123_0_13))) (.seq (.region r123_31 [] (tO [2])) .ret))))
noncomputable def cm123_0 : MCode := cm123_0g L123_0_2
theorem gm123_0 : cm123_0.Good Try.prog E123_0 sh123 := ⟨trivial, ⟨⟨trivial, ⟨⟨trivial, trivial⟩, trivial⟩⟩, ⟨⟨trivial, ⟨g123_0_13, m123_0_2, trivial⟩⟩, ⟨trivial, trivial⟩⟩⟩⟩
theorem fm123_0g  (vL123_0_2 : TL123_0_2) (α : Type) (k : List RV → Option α) : Fn123_0 (f123_0g vL123_0_2) α k = pa123_0.unc fun ds => fnM Try.prog (E123_0g ) sh123 (cm123_0g vL123_0_2) rs123 k ds := by kernel_rfl
theorem fm123_0 : ∀ (α : Type) (k : List RV → Option α), Fn123_0 f123_0 α k = pa123_0.unc fun ds => fnM Try.prog E123_0 sh123 cm123_0 rs123 k ds := fm123_0g L123_0_2
theorem is123 : FnIs Try.prog 123 nt123 tr123 tl123 cm123_0.erase rs123 := ⟨Try.f123, Try.func123, rfl, by kernel_rfl, by kernel_rfl, by kernel_rfl⟩
theorem io123_0 : InstOk Try.prog 123 nt123 ⟨pa123_0, Fn123_0 f123_0⟩ := inst_ok eo123_0 followsTry is123 ⟨⟨sh123, cm123_0, by kernel_rfl, gm123_0, fm123_0⟩⟩
abbrev nt120 : Nat := 20
def sh120 : List (Nat × List Sh) := [(5, [.int .i64]), (9, [.int .i64]), (14, [.int .i64]), (17, [.int .i64])]
def r120_2 : List AOper := [oO 1 (.box (.tmp 0)), oO 2 (.alloc [(cI 0), (cI 0)]), oO 3 (.mv (kI 0))]
def r120_5 : List AOper := [oO 4 (.faddr 0 (.tmp 1)), oO 5 (.load false 1 (.tmp 4)), oO 6 (.bin .gtr 3 (.tmp 5) (kI 1048576)), oM 7 6, oG 8 (.faddr 1 (.tmp 1)) 7 false, oG 9 (.load false 1 (.tmp 8)) 7 false, oG 10 (.bin .lss 3 (.tmp 9) (kI (-1048576))) 7 false, oO 11 (.pick (.tmp 7) (.const (.bool true)) (.tmp 10))]
def r120_8 : List AOper := [oO 12 (.build [(cI 0), (cI 0)] []), oD (.store 2 (.tmp 2) (.tmp 12)), oO 3 (.mv (kI 24))]
def r120_10 : List AOper := [oO 13 (.faddr 0 (.tmp 1)), oO 14 (.load false 1 (.tmp 13)), oO 15 (.pure (oB (.call { callee := .builtin .max, args := #[(.tmp 14), (kI (-1048576))], argTypes := #[3, 3] }) 3)), oO 16 (.faddr 1 (.tmp 1)), oO 17 (.load false 1 (.tmp 16)), oO 18 (.pure (oB (.call { callee := .builtin .min, args := #[(.tmp 17), (kI 1048576)], argTypes := #[3, 3] }) 3)), oO 19 (.build [(cI 0), (cI 0)] [(0, 1, (.tmp 15)), (1, 1, (.tmp 18))]), oD (.store 2 (.tmp 2) (.tmp 19)), oO 3 (.mv (kI 0))]
def tr120 : List (Nat × Tidy) := [tT 0 [1, 2], tT 1 [1, 2, 11], tT 2 [2, 3], tT 3 [2, 3]]
def tl120 : List (Nat × Tidy) := []
def rs120 : List AResV := [.cell 2 true 2, .tmp 3]
def pr120_0_0 : PT (List RV) := pRs [pR true [rD (dI .i64), rD (dI .i64)], pR false [rD (dI .i64)]]
def ur120_0_0 {β : Type} (g : List RV → β) : Int → Int → Int → β := pr120_0_0.unc g
def E120_0g  : EnvK := EnvK.of [] noSeq
noncomputable def E120_0 : EnvK := E120_0g 
theorem eo120_0 : E120_0.Ok Try.prog := EnvK.of_ok noSeq_ok trivial
abbrev Tf120_0 : Type 1 := (α : Type) → Int → Int → (Int → Int → Int → Option α) → Option α
def f120_0g  (α : Type) (x1 x2 : Int) (k1 : Int → Int → Int → Option α) : Option α :=
 cK (decide (1048576 < x1))
 (k1 0 0 24)
 (cK (decide (x2 < (-1048576)))
 (k1 0 0 24)
 (k1 (if (-1048576) > x1 then (-1048576) else x1) (if 1048576 < x2 then 1048576 else x2) 0))
noncomputable def f120_0 (α : Type) (x1 x2 : Int) (k1 : Int → Int → Int → Option α) : Option α := f120_0g  α x1 x2 k1
def pa120_0 : PT (List DV) := pA [pV true [(dI .i64), (dI .i64)]]
def Fn120_0 (v : Tf120_0) (α : Type) (k : List RV → Option α) : Int → Int → Option α := fun x1 x2 => v α x1 x2 (fun (y1 : Int) (y2 : Int) (y3 : Int) => ur120_0_0 k y1 y2 y3)
noncomputable def cm120_0g  : MCode := (.seq (.region r120_2 [] (tO [1, 2])) (.seq (.seq (.region r120_5 [] (tO [1, 2, 11])) (.cond (.tmp 11) (.seq (.region r120_8 [] (tO [2, 3])) .ret) .skip)) (.seq (.region r120_10 [] (tO [2, 3])) .ret)))
noncomputable def cm120_0 : MCode := cm120_0g 
theorem gm120_0 : cm120_0.Good Try.prog E120_0 sh120 := ⟨trivial, ⟨⟨trivial, ⟨⟨trivial, trivial⟩, trivial⟩⟩, ⟨trivial, trivial⟩⟩⟩
theorem fm120_0g   (α : Type) (k : List RV → Option α) : Fn120_0 (f120_0g ) α k = pa120_0.unc fun ds => fnM Try.prog (E120_0g ) sh120 (cm120_0g ) rs120 k ds := by kernel_rfl
theorem fm120_0 : ∀ (α : Type) (k : List RV → Option α), Fn120_0 f120_0 α k = pa120_0.unc fun ds => fnM Try.prog E120_0 sh120 cm120_0 rs120 k ds := fm120_0g 
theorem is120 : FnIs Try.prog 120 nt120 tr120 tl120 cm120_0.erase rs120 := ⟨Try.f120, Try.func120, rfl, by kernel_rfl, by kernel_rfl, by kernel_rfl⟩
theorem io120_0 : InstOk Try.prog 120 nt120 ⟨pa120_0, Fn120_0 f120_0⟩ := inst_ok eo120_0 followsTry is120 ⟨⟨sh120, cm120_0, by kernel_rfl, gm120_0, fm120_0⟩⟩
abbrev nt99 : Nat := 16
def sh99 : List (Nat × List Sh) := []
def r99_2 : List AOper := [oO 4 (.mv (kI 0))]
def r99_4 : List AOper := [oM 6 0, oM 7 1, oO 8 (.bin .quo 3 (.tmp 6) (.tmp 7)), oM 5 8]
def r99_7 : List AOper := [oM 9 0, oM 10 1, oO 11 (.bin .rem 3 (.tmp 9) (.tmp 10)), oO 12 (.bin .lss 3 (.tmp 11) (kI 0))]
def r99_9 : List AOper := [oM 13 5, oO 14 (.bin .sub 3 (.tmp 13) (kI 1)), oM 5 14]
def r99_11 : List AOper := [oM 15 5, oM 4 15]
def tr99 : List (Nat × Tidy) := [tT 0 [0, 1], tT 1 [0, 1, 5], tT 2 [5, 12], tT 3 [5], tT 4 [4]]
def tl99 : List (Nat × Tidy) := []
def rs99 : List AResV := [.tmp 4]
def pr99_0_0 : PT (List RV) := pRs [pR false [rD (dI .i64)]]
def ur99_0_0 {β : Type} (g : List RV → β) : Int → β := pr99_0_0.unc g
def E99_0g  : EnvK := EnvK.of [] noSeq
noncomputable def E99_0 : EnvK := E99_0g 
theorem eo99_0 : E99_0.Ok Try.prog := EnvK.of_ok noSeq_ok trivial
abbrev Tf99_0 : Type 1 := (α : Type) → Int → Int → (Int → Option α) → Option α
def f99_0g  (α : Type) (x1 x2 : Int) (k1 : Int → Option α) : Option α :=
 gK (x2 != 0) (gK (x2 != 0) (cK (decide ((Int.tmod x1 x2) < 0))
 (k1 (w64 ((w64 (Int.tdiv x1 x2)) - 1)))
 (k1 (w64 (Int.tdiv x1 x2)))))
noncomputable def f99_0 (α : Type) (x1 x2 : Int) (k1 : Int → Option α) : Option α := f99_0g  α x1 x2 k1
def pa99_0 : PT (List DV) := pA [pV false [(dI .i64)], pV false [(dI .i64)]]
def Fn99_0 (v : Tf99_0) (α : Type) (k : List RV → Option α) : Int → Int → Option α := fun x1 x2 => v α x1 x2 (fun (y1 : Int) => ur99_0_0 k y1)
noncomputable def cm99_0g  : MCode := (.seq (.region r99_2 [] (tO [0, 1])) (.seq (.region r99_4 [] (tO [0, 1, 5])) (.seq (.seq (.region r99_7 [] (tO [5, 12])) (.cond (.tmp 12) (.region r99_9 [] (tO [5])) .skip)) (.seq (.region r99_11 [] (tO [4])) .ret))))
noncomputable def cm99_0 : MCode := cm99_0g 
theorem gm99_0 : cm99_0.Good Try.prog E99_0 sh99 := ⟨trivial, ⟨trivial, ⟨⟨trivial, ⟨trivial, trivial⟩⟩, ⟨trivial, trivial⟩⟩⟩⟩
theorem fm99_0g   (α : Type) (k : List RV → Option α) : Fn99_0 (f99_0g ) α k = pa99_0.unc fun ds => fnM Try.prog (E99_0g ) sh99 (cm99_0g ) rs99 k ds := by kernel_rfl
theorem fm99_0 : ∀ (α : Type) (k : List RV → Option α), Fn99_0 f99_0 α k = pa99_0.unc fun ds => fnM Try.prog E99_0 sh99 cm99_0 rs99 k ds := fm99_0g 
theorem is99 : FnIs Try.prog 99 nt99 tr99 tl99 cm99_0.erase rs99 := ⟨Try.f99, Try.func99, rfl, by kernel_rfl, by kernel_rfl, by kernel_rfl⟩
theorem io99_0 : InstOk Try.prog 99 nt99 ⟨pa99_0, Fn99_0 f99_0⟩ := inst_ok eo99_0 followsTry is99 ⟨⟨sh99, cm99_0, by kernel_rfl, gm99_0, fm99_0⟩⟩
abbrev nt80 : Nat := 10
def sh80 : List (Nat × List Sh) := [(4, [.int .i64, .int .i64]), (6, [.int .i64, .int .i64]), (8, [.int .i64, .int .i64])]
def r80_2 : List AOper := [oO 1 (.box (.tmp 0)), oO 2 (.alloc [(cI 0), (cI 0), (cI 0), (cI 0), (cI 0), (cI 0)])]
def r80_4 : List AOper := [oO 3 (.faddr 0 (.tmp 1)), oO 4 (.load true 2 (.tmp 3)), oO 5 (.faddr 2 (.tmp 1)), oO 6 (.load true 2 (.tmp 5)), oO 7 (.faddr 4 (.tmp 1)), oO 8 (.load true 2 (.tmp 7)), oO 9 (.build [(cI 0), (cI 0), (cI 0), (cI 0), (cI 0), (cI 0)] [(0, 2, (.tmp 4)), (2, 2, (.tmp 6)), (4, 2, (.tmp 8))]), oD (.store 6 (.tmp 2) (.tmp 9))]
def tr80 : List (Nat × Tidy) := [tT 0 [1, 2], tT 1 [2]]
def tl80 : List (Nat × Tidy) := []
def rs80 : List AResV := [.cell 2 true 6]
def pr80_0_0 : PT (List RV) := pRs [pR true [rD (dI .i64), rD (dI .i64), rD (dI .i64), rD (dI .i64), rD (dI .i64), rD (dI .i64)]]
def ur80_0_0 {β : Type} (g : List RV → β) : Int → Int → Int → Int → Int → Int → β := pr80_0_0.unc g
def E80_0g  : EnvK := EnvK.of [] noSeq
noncomputable def E80_0 : EnvK := E80_0g 
theorem eo80_0 : E80_0.Ok Try.prog := EnvK.of_ok noSeq_ok trivial
abbrev Tf80_0 : Type 1 := (α : Type) → Int → Int → Int → Int → Int → Int → (Int → Int → Int → Int → Int → Int → Option α) → Option α
def f80_0g  (α : Type) (x1 x2 x3 x4 x5 x6 : Int) (k1 : Int → Int → Int → Int → Int → Int → Option α) : Option α :=
 k1 x1 x2 x3 x4 x5 x6
noncomputable def f80_0 (α : Type) (x1 x2 x3 x4 x5 x6 : Int) (k1 : Int → Int → Int → Int → Int → Int → Option α) : Option α := f80_0g  α x1 x2 x3 x4 x5 x6 k1
def pa80_0 : PT (List DV) := pA [pV true [(dI .i64), (dI .i64), (dI .i64), (dI .i64), (dI .i64), (dI .i64)]]
def Fn80_0 (v : Tf80_0) (α : Type) (k : List RV → Option α) : Int → Int → Int → Int → Int → Int → Option α := fun x1 x2 x3 x4 x5 x6 => v α x1 x2 x3 x4 x5 x6 (fun (y1 : Int) (y2 : Int) (y3 : Int) (y4 : Int) (y5 : Int) (y6 : Int) => ur80_0_0 k y1 y2 y3 y4 y5 y6)
noncomputable def cm80_0g  : MCode := (.seq (.region r80_2 [] (tO [1, 2])) (.seq (.region r80_4 [] (tO [2])) .ret))
noncomputable def cm80_0 : MCode := cm80_0g 
theorem gm80_0 : cm80_0.Good Try.prog E80_0 sh80 := ⟨trivial, ⟨trivial, trivial⟩⟩
theorem fm80_0g   (α : Type) (k : List RV → Option α) : Fn80_0 (f80_0g ) α k = pa80_0.unc fun ds => fnM Try.prog (E80_0g ) sh80 (cm80_0g ) rs80 k ds := by kernel_rfl
theorem fm80_0 : ∀ (α : Type) (k : List RV → Option α), Fn80_0 f80_0 α k = pa80_0.unc fun ds => fnM Try.prog E80_0 sh80 cm80_0 rs80 k ds := fm80_0g 
theorem is80 : FnIs Try.prog 80 nt80 tr80 tl80 cm80_0.erase rs80 := ⟨Try.f80, Try.func80, rfl, by kernel_rfl, by kernel_rfl, by kernel_rfl⟩
theorem io80_0 : InstOk Try.prog 80 nt80 ⟨pa80_0, Fn80_0 f80_0⟩ := inst_ok eo80_0 followsTry is80 ⟨⟨sh80, cm80_0, by kernel_rfl, gm80_0, fm80_0⟩⟩
abbrev nt77 : Nat := 20
def sh77 : List (Nat × List Sh) := [(5, [.int .i64]), (9, [.int .i64]), (14, [.int .i64]), (17, [.int .i64])]
def r77_2 : List AOper := [oO 1 (.box (.tmp 0)), oO 2 (.alloc [(cI 0), (cI 0)]), oO 3 (.mv (kI 0))]
def r77_5 : List AOper := [oO 4 (.faddr 0 (.tmp 1)), oO 5 (.load false 1 (.tmp 4)), oO 6 (.bin .gtr 3 (.tmp 5) (kI 1048576)), oM 7 6, oG 8 (.faddr 1 (.tmp 1)) 7 false, oG 9 (.load false 1 (.tmp 8)) 7 false, oG 10 (.bin .lss 3 (.tmp 9) (kI (-1048576))) 7 false, oO 11 (.pick (.tmp 7) (.const (.bool true)) (.tmp 10))]
def r77_8 : List AOper := [oO 12 (.build [(cI 0), (cI 0)] []), oD (.store 2 (.tmp 2) (.tmp 12)), oO 3 (.mv (kI 24))]
def r77_10 : List AOper := [oO 13 (.faddr 0 (.tmp 1)), oO 14 (.load false 1 (.tmp 13)), oO 15 (.pure (oB (.call { callee := .builtin .max, args := #[(.tmp 14), (kI (-1048576))], argTypes := #[3, 3] }) 3)), oO 16 (.faddr 1 (.tmp 1)), oO 17 (.load false 1 (.tmp 16)), oO 18 (.pure (oB (.call { callee := .builtin .min, args := #[(.tmp 17), (kI 1048576)], argTypes := #[3, 3] }) 3)), oO 19 (.build [(cI 0), (cI 0)] [(0, 1, (.tmp 15)), (1, 1, (.tmp 18))]), oD (.store 2 (.tmp 2) (.tmp 19)), oO 3 (.mv (kI 0))]
def tr77 : List (Nat × Tidy) := [tT 0 [1, 2], tT 1 [1, 2, 11], tT 2 [2, 3], tT 3 [2, 3]]
def tl77 : List (Nat × Tidy) := []
def rs77 : List AResV := [.cell 2 true 2, .tmp 3]
def pr77_0_0 : PT (List RV) := pRs [pR true [rD (dI .i64), rD (dI .i64)], pR false [rD (dI .i64)]]
def ur77_0_0 {β : Type} (g : List RV → β) : Int → Int → Int → β := pr77_0_0.unc g
def E77_0g  : EnvK := EnvK.of [] noSeq
noncomputable def E77_0 : EnvK := E77_0g 
theorem eo77_0 : E77_0.Ok Try.prog := EnvK.of_ok noSeq_ok trivial
abbrev Tf77_0 : Type 1 := (α : Type) → Int → Int → (Int → Int → Int → Option α) → Option α
def f77_0g  (α : Type) (x1 x2 : Int) (k1 : Int → Int → Int → Option α) : Option α :=
 cK (decide (1048576 < x1))
 (k1 0 0 24)
 (cK (decide (x2 < (-1048576)))
 (k1 0 0 24)
 (k1 (if (-1048576) > x1 then (-1048576) else x1) (if 1048576 < x2 then 1048576 else x2) 0))
noncomputable def f77_0 (α : Type) (x1 x2 : Int) (k1 : Int → Int → Int → Option α) : Option α := f77_0g  α x1 x2 k1
def pa77_0 : PT (List DV) := pA [pV true [(dI .i64), (dI .i64)]]
def Fn77_0 (v : Tf77_0) (α : Type) (k : List RV → Option α) : Int → Int → Option α := fun x1 x2 => v α x1 x2 (fun (y1 : Int) (y2 : Int) (y3 : Int) => ur77_0_0 k y1 y2 y3)
noncomputable def cm77_0g  : MCode := (.seq (.region r77_2 [] (tO [1, 2])) (.seq (.seq (.region r77_5 [] (tO [1, 2, 11])) (.cond (.tmp 11) (.seq (.region r77_8 [] (tO [2, 3])) .ret) .skip)) (.seq (.region r77_10 [] (tO [2, 3])) .ret)))
noncomputable def cm77_0 : MCode := cm77_0g 
theorem gm77_0 : cm77_0.Good Try.prog E77_0 sh77 := ⟨trivial, ⟨⟨trivial, ⟨⟨trivial, trivial⟩, trivial⟩⟩, ⟨trivial, trivial⟩⟩⟩
theorem fm77_0g   (α : Type) (k : List RV → Option α) : Fn77_0 (f77_0g ) α k = pa77_0.unc fun ds => fnM Try.prog (E77_0g ) sh77 (cm77_0g ) rs77 k ds := by kernel_rfl
theorem fm77_0 : ∀ (α : Type) (k : List RV → Option α), Fn77_0 f77_0 α k = pa77_0.unc fun ds => fnM Try.prog E77_0 sh77 cm77_0 rs77 k ds := fm77_0g 
theorem is77 : FnIs Try.prog 77 nt77 tr77 tl77 cm77_0.erase rs77 := ⟨Try.f77, Try.func77, rfl, by kernel_rfl, by kernel_rfl, by kernel_rfl⟩
theorem io77_0 : InstOk Try.prog 77 nt77 ⟨pa77_0, Fn77_0 f77_0⟩ := inst_ok eo77_0 followsTry is77 ⟨⟨sh77, cm77_0, by kernel_rfl, gm77_0, fm77_0⟩⟩
abbrev nt78 : Nat := 23
def sh78 : List (Nat × List Sh) := []
def r78_2 : List AOper := [oO 4 (.mv (kI 0))]
def r78_4 : List AOper := [oM 6 0, oM 7 1, oO 8 (.bin .quo 3 (.tmp 6) (.tmp 7)), oM 5 8]
def r78_7 : List AOper := [oM 9 0, oM 10 1, oO 11 (.bin .rem 3 (.tmp 9) (.tmp 10)), oO 12 (.bin .neq 3 (.tmp 11) (kI 0)), oM 13 12, oG 14 (.mv (.tmp 0)) 13 true, oG 15 (.bin .lss 3 (.tmp 14) (kI 0)) 13 true, oG 16 (.mv (.tmp 1)) 13 true, oG 17 (.bin .lss 3 (.tmp 16) (kI 0)) 13 true, oG 18 (.bin .neq 4 (.tmp 15) (.tmp 17)) 13 true, oO 19 (.pick (.tmp 13) (.tmp 18) (.const (.bool false)))]
def r78_9 : List AOper := [oM 20 5, oO 21 (.bin .sub 3 (.tmp 20) (kI 1)), oM 5 21]
def r78_11 : List AOper := [oM 22 5, oM 4 22]
def tr78 : List (Nat × Tidy) := [tT 0 [0, 1], tT 1 [0, 1, 5], tT 2 [5, 19], tT 3 [5], tT 4 [4]]
def tl78 : List (Nat × Tidy) := []
def rs78 : List AResV := [.tmp 4]
def pr78_0_0 : PT (List RV) := pRs [pR false [rD (dI .i64)]]
def ur78_0_0 {β : Type} (g : List RV → β) : Int → β := pr78_0_0.unc g
def E78_0g  : EnvK := EnvK.of [] noSeq
noncomputable def E78_0 : EnvK := E78_0g 
theorem eo78_0 : E78_0.Ok Try.prog := EnvK.of_ok noSeq_ok trivial
abbrev Tf78_0 : Type 1 := (α : Type) → Int → Int → (Int → Option α) → Option α
def f78_0g  (α : Type) (x1 x2 : Int) (k1 : Int → Option α) : Option α :=
 gK (x2 != 0) (gK (x2 != 0) (cK ((Int.tmod x1 x2) != 0)
 (cK (!((decide (x1 < 0)) == (decide (x2 < 0))))
 (k1 (w64 ((w64 (Int.tdiv x1 x2)) - 1)))
 (k1 (w64 (Int.tdiv x1 x2))))
 (k1 (w64 (Int.tdiv x1 x2)))))
noncomputable def f78_0 (α : Type) (x1 x2 : Int) (k1 : Int → Option α) : Option α := f78_0g  α x1 x2 k1
def pa78_0 : PT (List DV) := pA [pV false [(dI .i64)], pV false [(dI .i64)]]
def Fn78_0 (v : Tf78_0) (α : Type) (k : List RV → Option α) : Int → Int → Option α := fun x1 x2 => v α x1 x2 (fun (y1 : Int) => ur78_0_0 k y1)
noncomputable def cm78_0g  : MCode := (.seq (.region r78_2 [] (tO [0, 1])) (.seq (.region r78_4 [] (tO [0, 1, 5])) (.seq (.seq (.region r78_7 [] (tO [5, 19])) (.cond (.tmp 19) (.region r78_9 [] (tO [5])) .skip)) (.seq (.region r78_11 [] (tO [4])) .ret))))
noncomputable def cm78_0 : MCode := cm78_0g 
theorem gm78_0 : cm78_0.Good Try.prog E78_0 sh78 := ⟨trivial, ⟨trivial, ⟨⟨trivial, ⟨trivial, trivial⟩⟩, ⟨trivial, trivial⟩⟩⟩⟩
theorem fm78_0g   (α : Type) (k : List RV → Option α) : Fn78_0 (f78_0g ) α k = pa78_0.unc fun ds => fnM Try.prog (E78_0g ) sh78 (cm78_0g ) rs78 k ds := by kernel_rfl
theorem fm78_0 : ∀ (α : Type) (k : List RV → Option α), Fn78_0 f78_0 α k = pa78_0.unc fun ds => fnM Try.prog E78_0 sh78 cm78_0 rs78 k ds := fm78_0g 
theorem is78 : FnIs Try.prog 78 nt78 tr78 tl78 cm78_0.erase rs78 := ⟨Try.f78, Try.func78, rfl, by kernel_rfl, by kernel_rfl, by kernel_rfl⟩
theorem io78_0 : InstOk Try.prog 78 nt78 ⟨pa78_0, Fn78_0 f78_0⟩ := inst_ok eo78_0 followsTry is78 ⟨⟨sh78, cm78_0, by kernel_rfl, gm78_0, fm78_0⟩⟩
abbrev nt71 : Nat := 24
def sh71 : List (Nat × List Sh) := []
def r71_2 : List AOper := [oO 2 (.mv (.const (.bool false)))]
def r71_5 : List AOper := [oM 3 0, oM 4 0, oO 5 (.bin .neq 112 (.tmp 3) (.tmp 4)), oM 6 5, oG 7 (.mv (.tmp 0)) 6 false, oG 8 (.mv (.tmp 0)) 6 false, oG 9 (.bin .sub 112 (.tmp 7) (.tmp 8)) 6 false, oG 10 (.bin .neq 112 (.tmp 9) (.const (.float Go.FloatKind.f64 0))) 6 false, oO 11 (.pick (.tmp 6) (.const (.bool true)) (.tmp 10))]
def r71_8 : List AOper := [oO 2 (.mv (.const (.bool false)))]
def r71_11 : List AOper := [oM 12 0, oO 13 (.bin .geq 112 (.tmp 12) (.const (.float Go.FloatKind.f64 14069741636278059008))), oM 14 13, oG 15 (.mv (.tmp 0)) 14 true, oG 16 (.bin .leq 112 (.tmp 15) (.const (.float Go.FloatKind.f64 4846369599423283200))) 14 true, oO 17 (.pick (.tmp 14) (.tmp 16) (.const (.bool false))), oO 18 (.pure (oB (.unOp .not 4 (.tmp 17)) 4))]
def r71_14 : List AOper := [oO 2 (.mv (.const (.bool true)))]
def r71_16 : List AOper := [oM 19 0, oO 20 (.pure (oB (.convert 112 3 (.tmp 19)) 3)), oO 21 (.pure (oB (.convert 3 112 (.tmp 20)) 112)), oM 22 0, oO 23 (.bin .eql 112 (.tmp 21) (.tmp 22)), oM 2 23]
def tr71 : List (Nat × Tidy) := [tT 0 [0], tT 1 [0, 11], tT 2 [2], tT 3 [0, 18], tT 4 [2], tT 5 [2]]
def tl71 : List (Nat × Tidy) := []
def rs71 : List AResV := [.tmp 2]
def pr71_0_0 : PT (List RV) := pRs [pR false [rD dB]]
def ur71_0_0 {β : Type} (g : List RV → β) : Bool → β := pr71_0_0.unc g
def E71_0g  : EnvK := EnvK.of [] noSeq
noncomputable def E71_0 : EnvK := E71_0g 
theorem eo71_0 : E71_0.Ok Try.prog := EnvK.of_ok noSeq_ok trivial
abbrev Tf71_0 : Type 1 := (α : Type) → (Option α) → Option α
def f71_0g  (α : Type)  (k1 : Option α) : Option α :=
 k1
noncomputable def f71_0 (α : Type)  (k1 : Option α) : Option α := f71_0g  α  k1
def pa71_0 : PT (List DV) := pA [pV false [(dNan .f64)]]
def Fn71_0 (v : Tf71_0) (α : Type) (k : List RV → Option α) : Option α := v α  (ur71_0_0 k false)
noncomputable def cm71_0g  : MCode := (.seq (.region r71_2 [] (tO [0])) (.seq (.seq (.region r71_5 [] (tO [0, 11])) (.cond (.tmp 11) (.seq (.region r71_8 [] (tO [2])) .ret) .skip)) (.seq (.seq (.region r71_11 [] (tO [0, 18])) (.cond (.tmp 18) (.seq (.region r71_14 [] (tO [2])) .ret) .skip)) (.seq (.region r71_16 [] (tO [2])) .ret))))
noncomputable def cm71_0 : MCode := cm71_0g 
theorem gm71_0 : cm71_0.Good Try.prog E71_0 sh71 := ⟨trivial, ⟨⟨trivial, ⟨⟨trivial, trivial⟩, trivial⟩⟩, ⟨⟨trivial, ⟨⟨trivial, trivial⟩, trivial⟩⟩, ⟨trivial, trivial⟩⟩⟩⟩
theorem fm71_0g   (α : Type) (k : List RV → Option α) : Fn71_0 (f71_0g ) α k = pa71_0.unc fun ds => fnM Try.prog (E71_0g ) sh71 (cm71_0g ) rs71 k ds := by kernel_rfl
theorem fm71_0 : ∀ (α : Type) (k : List RV → Option α), Fn71_0 f71_0 α k = pa71_0.unc fun ds => fnM Try.prog E71_0 sh71 cm71_0 rs71 k ds := fm71_0g 
theorem is71 : FnIs Try.prog 71 nt71 tr71 tl71 cm71_0.erase rs71 := ⟨Try.f71, Try.func71, rfl, by kernel_rfl, by kernel_rfl, by kernel_rfl⟩
theorem io71_0 : InstOk Try.prog 71 nt71 ⟨pa71_0, Fn71_0 f71_0⟩ := inst_ok eo71_0 followsTry is71 ⟨⟨sh71, cm71_0, by kernel_rfl, gm71_0, fm71_0⟩⟩
def pr71_1_0 : PT (List RV) := pRs [pR false [rD dB]]
def ur71_1_0 {β : Type} (g : List RV → β) : Bool → β := pr71_1_0.unc g
def E71_1g  : EnvK := EnvK.of [] noSeq
noncomputable def E71_1 : EnvK := E71_1g 
theorem eo71_1 : E71_1.Ok Try.prog := EnvK.of_ok noSeq_ok trivial
abbrev Tf71_1 : Type 1 := (α : Type) → Nat → (Bool → Option α) → Option α
def f71_1g  (α : Type) (x1 : Nat) (k1 : Bool → Option α) : Option α :=
 cK ((FloatKind.format .f64).order x1 x1 != some Ordering.eq)
 (k1 false)
 (flN ((FloatKind.format .f64).sub x1 x1)
 (fun x2 => cK ((FloatKind.format .f64).order x2 0 != some Ordering.eq)
 (k1 false)
 (cK ((FloatKind.format .f64).order x1 14069741636278059008 == some Ordering.gt || (FloatKind.format .f64).order x1 14069741636278059008 == some Ordering.eq)
 (cK (!((FloatKind.format .f64).order x1 4846369599423283200 == some Ordering.lt || (FloatKind.format .f64).order x1 4846369599423283200 == some Ordering.eq))
 (k1 true)
 (ivK (f2i .f64 x1 .i64)
 (fun x3 => k1 ((FloatKind.format .f64).order (FloatKind.nearest .f64 x3) x1 == some Ordering.eq))))
 (k1 true)))
 (k1 false))
noncomputable def f71_1 (α : Type) (x1 : Nat) (k1 : Bool → Option α) : Option α := f71_1g  α x1 k1
def pa71_1 : PT (List DV) := pA [pV false [(dF .f64)]]
def Fn71_1 (v : Tf71_1) (α : Type) (k : List RV → Option α) : Nat → Option α := fun x1 => v α x1 (fun (y1 : Bool) => ur71_1_0 k y1)
noncomputable def cm71_1g  : MCode := (.seq (.region r71_2 [] (tO [0])) (.seq (.seq (.region r71_5 [] (tO [0, 11])) (.cond (.tmp 11) (.seq (.region r71_8 [] (tO [2])) .ret) .skip)) (.seq (.seq (.region r71_11 [] (tO [0, 18])) (.cond (.tmp 18) (.seq (.region r71_14 [] (tO [2])) .ret) .skip)) (.seq (.region r71_16 [] (tO [2])) .ret))))
noncomputable def cm71_1 : MCode := cm71_1g 
theorem gm71_1 : cm71_1.Good Try.prog E71_1 sh71 := ⟨trivial, ⟨⟨trivial, ⟨⟨trivial, trivial⟩, trivial⟩⟩, ⟨⟨trivial, ⟨⟨trivial, trivial⟩, trivial⟩⟩, ⟨trivial, trivial⟩⟩⟩⟩
theorem fm71_1g   (α : Type) (k : List RV → Option α) : Fn71_1 (f71_1g ) α k = pa71_1.unc fun ds => fnM Try.prog (E71_1g ) sh71 (cm71_1g ) rs71 k ds := by kernel_rfl
theorem fm71_1 : ∀ (α : Type) (k : List RV → Option α), Fn71_1 f71_1 α k = pa71_1.unc fun ds => fnM Try.prog E71_1 sh71 cm71_1 rs71 k ds := fm71_1g 
theorem io71_1 : InstOk Try.prog 71 nt71 ⟨pa71_1, Fn71_1 f71_1⟩ := inst_ok eo71_1 followsTry is71 ⟨⟨sh71, cm71_1, by kernel_rfl, gm71_1, fm71_1⟩⟩
abbrev nt29 : Nat := 15
def sh29 : List (Nat × List Sh) := []
def r29_2 : List AOper := [oO 6 (.mv (.const (.bool false)))]
def r29_4 : List AOper := [oM 7 1, oM 8 0, oO 9 (.bin .leq 3 (.tmp 7) (.tmp 8)), oM 10 9, oG 11 (.mv (.tmp 0)) 10 true, oG 12 (.mv (.tmp 2)) 10 true, oG 13 (.bin .leq 3 (.tmp 11) (.tmp 12)) 10 true, oO 14 (.pick (.tmp 10) (.tmp 13) (.const (.bool false))), oM 6 14]
def tr29 : List (Nat × Tidy) := [tT 0 [0, 1, 2], tT 1 [6]]
def tl29 : List (Nat × Tidy) := []
def rs29 : List AResV := [.tmp 6]
def pr29_0_0 : PT (List RV) := pRs [pR false [rD dB]]
def ur29_0_0 {β : Type} (g : List RV → β) : Bool → β := pr29_0_0.unc g
def E29_0g  : EnvK := EnvK.of [] noSeq
noncomputable def E29_0 : EnvK := E29_0g 
theorem eo29_0 : E29_0.Ok Try.prog := EnvK.of_ok noSeq_ok trivial
abbrev Tf29_0 : Type 1 := (α : Type) → Int → Int → Int → (Bool → Option α) → Option α
def f29_0g  (α : Type) (x1 x2 x3 : Int) (k1 : Bool → Option α) : Option α :=
 cK (decide (x2 ≤ x1))
 (k1 (decide (x1 ≤ x3)))
 (k1 false)
noncomputable def f29_0 (α : Type) (x1 x2 x3 : Int) (k1 : Bool → Option α) : Option α := f29_0g  α x1 x2 x3 k1
def pa29_0 : PT (List DV) := pA [pV false [(dI .i64)], pV false [(dI .i64)], pV false [(dI .i64)]]
def Fn29_0 (v : Tf29_0) (α : Type) (k : List RV → Option α) : Int → Int → Int → Option α := fun x1 x2 x3 => v α x1 x2 x3 (fun (y1 : Bool) => ur29_0_0 k y1)
noncomputable def cm29_0g  : MCode := (.seq (.region r29_2 [] (tO [0, 1, 2])) (.seq (.region r29_4 [] (tO [6])) .ret))
noncomputable def cm29_0 : MCode := cm29_0g 
theorem gm29_0 : cm29_0.Good Try.prog E29_0 sh29 := ⟨trivial, ⟨trivial, trivial⟩⟩
theorem fm29_0g   (α : Type) (k : List RV → Option α) : Fn29_0 (f29_0g ) α k = pa29_0.unc fun ds => fnM Try.prog (E29_0g ) sh29 (cm29_0g ) rs29 k ds := by kernel_rfl
theorem fm29_0 : ∀ (α : Type) (k : List RV → Option α), Fn29_0 f29_0 α k = pa29_0.unc fun ds => fnM Try.prog E29_0 sh29 cm29_0 rs29 k ds := fm29_0g 
theorem is29 : FnIs Try.prog 29 nt29 tr29 tl29 cm29_0.erase rs29 := ⟨Try.f29, Try.func29, rfl, by kernel_rfl, by kernel_rfl, by kernel_rfl⟩
theorem io29_0 : InstOk Try.prog 29 nt29 ⟨pa29_0, Fn29_0 f29_0⟩ := inst_ok eo29_0 followsTry is29 ⟨⟨sh29, cm29_0, by kernel_rfl, gm29_0, fm29_0⟩⟩
abbrev nt98 : Nat := 15
def sh98 : List (Nat × List Sh) := []
def r98_2 : List AOper := [oO 6 (.mv (.const (.bool false)))]
def r98_4 : List AOper := [oM 7 1, oM 8 0, oO 9 (.bin .leq 3 (.tmp 7) (.tmp 8)), oM 10 9, oG 11 (.mv (.tmp 0)) 10 true, oG 12 (.mv (.tmp 2)) 10 true, oG 13 (.bin .leq 3 (.tmp 11) (.tmp 12)) 10 true, oO 14 (.pick (.tmp 10) (.tmp 13) (.const (.bool false))), oM 6 14]
def tr98 : List (Nat × Tidy) := [tT 0 [0, 1, 2], tT 1 [6]]
def tl98 : List (Nat × Tidy) := []
def rs98 : List AResV := [.tmp 6]
def pr98_0_0 : PT (List RV) := pRs [pR false [rD dB]]
def ur98_0_0 {β : Type} (g : List RV → β) : Bool → β := pr98_0_0.unc g
def E98_0g  : EnvK := EnvK.of [] noSeq
noncomputable def E98_0 : EnvK := E98_0g 
theorem eo98_0 : E98_0.Ok Try.prog := EnvK.of_ok noSeq_ok trivial
abbrev Tf98_0 : Type 1 := (α : Type) → Int → Int → Int → (Bool → Option α) → Option α
def f98_0g  (α : Type) (x1 x2 x3 : Int) (k1 : Bool → Option α) : Option α :=
 cK (decide (x2 ≤ x1))
 (k1 (decide (x1 ≤ x3)))
 (k1 false)
noncomputable def f98_0 (α : Type) (x1 x2 x3 : Int) (k1 : Bool → Option α) : Option α := f98_0g  α x1 x2 x3 k1
def pa98_0 : PT (List DV) := pA [pV false [(dI .i64)], pV false [(dI .i64)], pV false [(dI .i64)]]
def Fn98_0 (v : Tf98_0) (α : Type) (k : List RV → Option α) : Int → Int → Int → Option α := fun x1 x2 x3 => v α x1 x2 x3 (fun (y1 : Bool) => ur98_0_0 k y1)
noncomputable def cm98_0g  : MCode := (.seq (.region r98_2 [] (tO [0, 1, 2])) (.seq (.region r98_4 [] (tO [6])) .ret))
noncomputable def cm98_0 : MCode := cm98_0g 
theorem gm98_0 : cm98_0.Good Try.prog E98_0 sh98 := ⟨trivial, ⟨trivial, trivial⟩⟩
theorem fm98_0g   (α : Type) (k : List RV → Option α) : Fn98_0 (f98_0g ) α k = pa98_0.unc fun ds => fnM Try.prog (E98_0g ) sh98 (cm98_0g ) rs98 k ds := by kernel_rfl
theorem fm98_0 : ∀ (α : Type) (k : List RV → Option α), Fn98_0 f98_0 α k = pa98_0.unc fun ds => fnM Try.prog E98_0 sh98 cm98_0 rs98 k ds := fm98_0g 
theorem is98 : FnIs Try.prog 98 nt98 tr98 tl98 cm98_0.erase rs98 := ⟨Try.f98, Try.func98, rfl, by kernel_rfl, by kernel_rfl, by kernel_rfl⟩
theorem io98_0 : InstOk Try.prog 98 nt98 ⟨pa98_0, Fn98_0 f98_0⟩ := inst_ok eo98_0 followsTry is98 ⟨⟨sh98, cm98_0, by kernel_rfl, gm98_0, fm98_0⟩⟩
abbrev nt121 : Nat := 54
def sh121 : List (Nat × List Sh) := [(12, [.int .u8]), (13, [.int .u8])]
def r121_2 : List AOper := [oO 2 (.mv (.const (.bool false)))]
def r121_5 : List AOper := [oM 6 0, oO 7 (.bytes (.tmp 6)), oO 8 (.len (.tmp 7)), oO 9 (.mv (kI 0))]
def td121_7 : Option Tidy := (some ⟨[0, 7, 8, 9], true, [⟨false, 7, 0, 20007, 1⟩], []⟩)
def r121_9 : List AOper := [oO 10 (.bin .lss 3 (.tmp 9) (.tmp 8))]
def r121_15 : List AOper := [oM 11 9, oO 12 (.iaddr 1 none (.tmp 7) (.tmp 9)), oO 13 (.load false 1 (.tmp 12)), oM 3 11, oM 4 13]
def r121_17 : List AOper := [oM 14 4, oO 15 (.bin .geq 5 (.tmp 14) (.const (.int .u8 97))), oM 16 15, oG 17 (.mv (.tmp 4)) 16 true, oG 18 (.bin .leq 5 (.tmp 17) (.const (.int .u8 122))) 16 true, oO 19 (.pick (.tmp 16) (.tmp 18) (.const (.bool false))), oM 20 19, oG 21 (.mv (.tmp 4)) 20 false, oG 22 (.bin .geq 5 (.tmp 21) (.const (.int .u8 65))) 20 false, oG 23 (.mv (.tmp 22)) 20 false, oG 24 (.mv (.tmp 4)) 23 true, oG 25 (.bin .leq 5 (.tmp 24) (.const (.int .u8 90))) 23 true, oG 26 (.pick (.tmp 23) (.tmp 25) (.const (.bool false))) 20 false, oO 27 (.pick (.tmp 20) (.const (.bool true)) (.tmp 26)), oM 5 27]
def r121_19 : List AOper := [oM 28 5, oO 29 (.pure (oB (.unOp .not 4 (.tmp 28)) 4)), oM 30 29, oG 31 (.mv (.tmp 3)) 30 true, oG 32 (.bin .eql 3 (.tmp 31) (kI 0)) 30 true, oG 33 (.mv (.tmp 32)) 30 true, oG 34 (.mv (.tmp 4)) 33 false, oG 35 (.bin .neq 5 (.tmp 34) (.const (.int .u8 45))) 33 false, oG 36 (.mv (.tmp 35)) 33 false, oG 37 (.mv (.tmp 4)) 36 true, oG 38 (.bin .lss 5 (.tmp 37) (.const (.int .u8 48))) 36 true, oG 39 (.mv (.tmp 38)) 36 true, oG 40 (.mv (.tmp 4)) 39 false, oG 41 (.bin .gtr 5 (.tmp 40) (.const (.int .u8 57))) 39 false, oG 42 (.pick (.tmp 39) (.const (.bool true)) (.tmp 41)) 36 true, oG 43 (.pick (.tmp 36) (.tmp 42) (.const (.bool false))) 33 false, oG 44 (.pick (.tmp 33) (.const (.bool true)) (.tmp 43)) 30 true, oO 45 (.pick (.tmp 30) (.tmp 44) (.const (.bool false)))]
def r121_22 : List AOper := [oO 2 (.mv (.const (.bool false)))]
def r121_23 : List AOper := [oO 46 (.bin .add 3 (.tmp 9) (kI 1)), oM 9 46]
def r121_25 : List AOper := [oM 47 0, ⟨(some 48), (.bin .neq 9 (.tmp 47) (.const (.string ⟨#[]⟩))), none⟩, oM 49 48, oG 50 (.mv (.tmp 0)) 49 true, oG 51 (.pure (oB (.call { callee := .builtin .len, args := #[(.tmp 50)], argTypes := #[9] }) 3)) 49 true, oG 52 (.bin .leq 3 (.tmp 51) (kI 12)) 49 true, oO 53 (.pick (.tmp 49) (.tmp 52) (.const (.bool false))), oM 2 53]
def tr121 : List (Nat × Tidy) := [tT 0 [0], tT 1 [0, 7, 8, 9], tT 2 [0, 7, 8, 9, 10], tT 3 [0, 3, 4, 7, 8, 9], tT 4 [0, 3, 4, 5, 7, 8, 9], tT 5 [0, 7, 8, 9, 45], tT 6 [2], tT 7 [0, 7, 8, 9], tT 8 [2]]
def tl121 : List (Nat × Tidy) := [(2, ⟨[0, 7, 8, 9], true, [⟨false, 7, 0, 20007, 1⟩], []⟩)]
def rs121 : List AResV := [.tmp 2]
def p121_0_0 : PT St := pS [sl 0 (aV false [(cD dS)]), sl 3 (aV false [(cD (dI .i64))]), sl 4 (aV false [(cD (dI .u8))]), sl 7 (aV false [(cRef 20007)]), sl 8 (aV false [(cD (dI .i64))]), sl 9 (aV false [(cD (dI .i64))])] [eOwn 20007 1]
def u121_0_0 {β : Type} (g : St → β) : ByteArray → Int → Int → Int → Int → Rows → β := p121_0_0.unc g
def p121_0_1 : PT St := pS [sl 0 (aV false [(cD dS)]), sl 3 (aV false [(cD (dI .i64))]), sl 4 (aV false [(cD (dI .u8))]), sl 5 (aV false [(cD dB)]), sl 7 (aV false [(cRef 20007)]), sl 8 (aV false [(cD (dI .i64))]), sl 9 (aV false [(cD (dI .i64))])] [eOwn 20007 1]
def u121_0_1 {β : Type} (g : St → β) : ByteArray → Int → Int → Bool → Int → Int → Rows → β := p121_0_1.unc g
def p121_0_2 : PT St := pS [sl 0 (aV false [(cD dS)]), sl 7 (aV false [(cRef 20007)]), sl 8 (aV false [(cD (dI .i64))]), sl 9 (aV false [(cD (dI .i64))]), sl 45 (aV false [(cD dB)])] [eOwn 20007 1]
def u121_0_2 {β : Type} (g : St → β) : ByteArray → Int → Int → Bool → Rows → β := p121_0_2.unc g
def p121_0_3 : PT St := pS [sl 0 (aV false [(cD dS)]), sl 7 (aV false [(cRef 20007)]), sl 8 (aV false [(cD (dI .i64))]), sl 9 (aV false [(cD (dI .i64))])] [eOwn 20007 1]
def u121_0_3 {β : Type} (g : St → β) : ByteArray → Int → Int → Rows → β := p121_0_3.unc g
def p121_0_4 : PT St := pS [sl 2 (aV false [(cD dB)])] []
def u121_0_4 {β : Type} (g : St → β) : Bool → β := p121_0_4.unc g
def p121_0_5 : PT St := pS [sl 0 (aV false [(cD dS)]), sl 7 (aV false [(cRef 20007)]), sl 8 (aV false [(cD (dI .i64))]), sl 9 (aV false [(cD (dI .i64))]), sl 10 (aV false [(cD dB)])] [eOwn 20007 1]
def u121_0_5 {β : Type} (g : St → β) : ByteArray → Int → Int → Bool → Rows → β := p121_0_5.unc g
def pr121_0_0 : PT (List RV) := pRs [pR false [rD dB]]
def ur121_0_0 {β : Type} (g : List RV → β) : Bool → β := pr121_0_0.unc g
def E121_0g  : EnvK := EnvK.of [] noSeq
noncomputable def E121_0 : EnvK := E121_0g 
theorem eo121_0 : E121_0.Ok Try.prog := EnvK.of_ok noSeq_ok trivial
noncomputable def c121_0_18g  : MCode := (.region r121_19 [] (tO [0, 7, 8, 9, 45]))
noncomputable def c121_0_18 : MCode := c121_0_18g 
theorem g121_0_18 : c121_0_18.Good Try.prog E121_0 sh121 := trivial
--CODE 18 0
abbrev TJ121_0_1 : Type 1 := (α : Type) → Int → Int → Bool → (Bool → Option α) → Option α
def J121_0_1g  (α : Type) (x18 x19 : Int) (x20 : Bool) (k1 : Bool → Option α) : Option α :=
 cK (!x20)
 (cK (x18 == 0)
 (k1 true)
 (cK (x19 != 45)
 (cK (decide (x19 < 48))
 (k1 true)
 (k1 (decide (57 < x19))))
 (k1 false)))
 (k1 false)
noncomputable def J121_0_1 (α : Type) (x18 x19 : Int) (x20 : Bool) (k1 : Bool → Option α) : Option α := J121_0_1g  α x18 x19 x20 k1
def F121_0_1 (v : TJ121_0_1) (α : Type) (K : Exit → St → Option α) : ByteArray → Int → Int → Bool → Int → Int → Rows → Option α := fun x17 x18 x19 x20 x21 x22 x23 => v α x18 x19 x20 (fun (y1 : Bool) => u121_0_2 (K .normal) x17 x21 x22 y1 x23) 
theorem m121_0_1g   (α : Type) (K : Exit → St → Option α) : F121_0_1 (J121_0_1g ) α K = p121_0_1.unc fun σ => runM Try.prog (E121_0g ) sh121 (c121_0_18g ) K σ := by kernel_rfl
theorem m121_0_1 : ∀ (α : Type) (K : Exit → St → Option α), F121_0_1 J121_0_1 α K = p121_0_1.unc fun σ => runM Try.prog E121_0 sh121 c121_0_18 K σ := m121_0_1g 
noncomputable def c121_0_16g  : MCode := (.region r121_17 [] (tO [0, 3, 4, 5, 7, 8, 9]))
noncomputable def c121_0_16 : MCode := c121_0_16g 
theorem g121_0_16 : c121_0_16.Good Try.prog E121_0 sh121 := trivial
--CODE 16 0
abbrev TJ121_0_0 : Type 1 := (α : Type) → Int → (Bool → Option α) → Option α
def J121_0_0g  (α : Type) (x10 : Int) (k1 : Bool → Option α) : Option α :=
 cK (decide (97 ≤ x10))
 (cK (decide (x10 ≤ 122))
 (k1 true)
 (cK (decide (65 ≤ x10))
 (k1 (decide (x10 ≤ 90)))
 (k1 false)))
 (cK (decide (65 ≤ x10))
 (k1 (decide (x10 ≤ 90)))
 (k1 false))
noncomputable def J121_0_0 (α : Type) (x10 : Int) (k1 : Bool → Option α) : Option α := J121_0_0g  α x10 k1
def F121_0_0 (v : TJ121_0_0) (α : Type) (K : Exit → St → Option α) : ByteArray → Int → Int → Int → Int → Rows → Option α := fun x8 x9 x10 x11 x12 x13 => v α x10 (fun (y1 : Bool) => u121_0_1 (K .normal) x8 x9 x10 y1 x11 x12 x13) 
theorem m121_0_0g   (α : Type) (K : Exit → St → Option α) : F121_0_0 (J121_0_0g ) α K = p121_0_0.unc fun σ => runM Try.prog (E121_0g ) sh121 (c121_0_16g ) K σ := by kernel_rfl
theorem m121_0_0 : ∀ (α : Type) (K : Exit → St → Option α), F121_0_0 J121_0_0 α K = p121_0_0.unc fun σ => runM Try.prog E121_0 sh121 c121_0_16 K σ := m121_0_0g 
noncomputable def c121_0_7g (vJ121_0_0 : TJ121_0_0) (vJ121_0_1 : TJ121_0_1) : MCode := (.seq (.region r121_9 [] (tO [0, 7, 8, 9, 10])) (.seq (.cond (.tmp 10) .skip (.exit 0)) (.seq (.block 1 (.seq (.region r121_15 [] (tO [0, 3, 4, 7, 8, 9])) (.seq (.mark [⟨p121_0_0, F121_0_0 vJ121_0_0⟩] c121_0_16) (.seq (.mark [⟨p121_0_1, F121_0_1 vJ121_0_1⟩] c121_0_18) (.cond (.tmp 45) (.seq (.region r121_22 [] (tO [2])) .ret) .skip))))) (.region r121_23 [] (tO [0, 7, 8, 9])))))
noncomputable def c121_0_7 : MCode := c121_0_7g J121_0_0 J121_0_1
theorem g121_0_7 : c121_0_7.Good Try.prog E121_0 sh121 := ⟨trivial, ⟨⟨trivial, trivial⟩, ⟨⟨trivial, ⟨⟨g121_0_16, m121_0_0, trivial⟩, ⟨⟨g121_0_18, m121_0_1, trivial⟩, ⟨⟨trivial, trivial⟩, trivial⟩⟩⟩⟩, trivial⟩⟩⟩
--CODE 7 0
def S121_0_2g (vJ121_0_0 : TJ121_0_0) (vJ121_0_1 : TJ121_0_1) (α : Type) (x3 : Int) (x5 : Rows) (x4 : Int) (kn : Int → Option α) (k1 : Option α) (k2 : Int → Bool → Option α) : Option α :=
 cK (decide (x4 < x3))
 (ixK x5 x4 1
 (ldK x5 (Int.toNat x4) 0 [.int .u8]
 (fun x7 => vJ121_0_0 α x7
 (fun x15 => vJ121_0_1 α x4 x7 x15
 (fun x25 => cK x25
 (k1)
 (kn (w64 (x4 + 1))))))))
 (k2 x4 (decide (x4 < x3)))
noncomputable def S121_0_2 (α : Type) (x3 : Int) (x5 : Rows) (x4 : Int) (kn : Int → Option α) (k1 : Option α) (k2 : Int → Bool → Option α) : Option α := S121_0_2g J121_0_0 J121_0_1 α x3 x5 x4 kn k1 k2
noncomputable def R121_0_2 (α : Type) (x3 : Int) (x5 : Rows) (k1 : Option α) (k2 : Int → Bool → Option α) : Nat → Int → Option α
 | 0, _ => none
 | n + 1, x4 => S121_0_2 α x3 x5 x4 (R121_0_2 α x3 x5 k1 k2 n) k1 k2
noncomputable def L121_0_2 (α : Type) (x3 : Int) (x5 : Rows) (k1 : Option α) (k2 : Int → Bool → Option α) (x4 : Int) : Option α := R121_0_2 α x3 x5 k1 k2 fuel x4
abbrev TL121_0_2 : Type 1 := (α : Type) → Int → Rows → (Option α) → (Int → Bool → Option α) → Int → Option α
def F121_0_2 (v : TL121_0_2) (α : Type) (K : Exit → St → Option α) : ByteArray → Int → Int → Rows → Option α := fun x2 x3 x4 x5 => v α x3 x5 (u121_0_4 (K .ret) false) (fun (y1 : Int) (y2 : Bool) => u121_0_5 (K (.exit 0)) x2 x3 y1 y2 x5) x4
theorem r121_0_2g  (vJ121_0_0 : TJ121_0_0) (vJ121_0_1 : TJ121_0_1) (α : Type) (K : Exit → St → Option α) (Kn : St → Option α) (x2 : ByteArray) (x3 x4 : Int) (x5 : Rows) : u121_0_3 (fun σ => runM Try.prog (E121_0g ) sh121 (c121_0_7g vJ121_0_0 vJ121_0_1) (thenK (fun σ => tidyK td121_7 σ Kn) K) σ) x2 x3 x4 x5 = S121_0_2g vJ121_0_0 vJ121_0_1 α x3 x5 x4 (fun x4 => u121_0_3 Kn x2 x3 x4 x5) (u121_0_4 (K .ret) false) (fun (y1 : Int) (y2 : Bool) => u121_0_5 (K (.exit 0)) x2 x3 y1 y2 x5) := by kernel_rfl
theorem r121_0_2 (α : Type) (K : Exit → St → Option α) (Kn : St → Option α) (x2 : ByteArray) (x3 x4 : Int) (x5 : Rows) : u121_0_3 (fun σ => runM Try.prog E121_0 sh121 c121_0_7 (thenK (fun σ => tidyK td121_7 σ Kn) K) σ) x2 x3 x4 x5 = S121_0_2 α x3 x5 x4 (fun x4 => u121_0_3 Kn x2 x3 x4 x5) (u121_0_4 (K .ret) false) (fun (y1 : Int) (y2 : Bool) => u121_0_5 (K (.exit 0)) x2 x3 y1 y2 x5) := r121_0_2g J121_0_0 J121_0_1 α K Kn x2 x3 x4 x5
theorem t121_0_2 (α : Type) (K : Exit → St → Option α) : ∀ (n : Nat) (x2 : ByteArray) (x3 x4 : Int) (x5 : Rows), R121_0_2 α x3 x5 (u121_0_4 (K .ret) false) (fun (y1 : Int) (y2 : Bool) => u121_0_5 (K (.exit 0)) x2 x3 y1 y2 x5) n x4 = u121_0_3 (loopT (runM Try.prog E121_0 sh121 c121_0_7) td121_7 K n) x2 x3 x4 x5 := by
 intro n
 induction n with
 | zero => intros; rfl
 | succ n ih => intro x2 x3 x4 x5; exact (congrArg (fun kn => S121_0_2 α x3 x5 x4 kn (u121_0_4 (K .ret) false) (fun (y1 : Int) (y2 : Bool) => u121_0_5 (K (.exit 0)) x2 x3 y1 y2 x5)) (funext fun x4 => ih x2 x3 x4 x5)).trans (r121_0_2 α K (loopT (runM Try.prog E121_0 sh121 c121_0_7) td121_7 K n) x2 x3 x4 x5).symm
theorem m121_0_2 : ∀ (α : Type) (K : Exit → St → Option α), F121_0_2 L121_0_2 α K = p121_0_3.unc fun σ => loopT (runM Try.prog E121_0 sh121 c121_0_7) td121_7 K fuel σ := fun α K => funext fun x2 => funext fun x3 => funext fun x4 => funext fun x5 => t121_0_2 α K fuel x2 x3 x4 x5
abbrev Tf121_0 : Type 1 := (α : Type) → ByteArray → (Bool → Option α) → Option α
def f121_0g (vL121_0_2 : TL121_0_2) (α : Type) (x1 : ByteArray) (k1 : Bool → Option α) : Option α :=
 gK (decide (ByteArray.size x1 ≤ 9223372036854775807)) (vL121_0_2 α ((List.length (bytesR x1) : Nat) : Int) (bytesR x1)
 (k1 false)
 (fun x27 x28 => cK (!(x1.toList == (⟨#[]⟩ : ByteArray).toList))
 (k1 (decide (((ByteArray.size x1 : Nat) : Int) ≤ 12)))
 (k1 false)) 0)
noncomputable def f121_0 (α : Type) (x1 : ByteArray) (k1 : Bool → Option α) : Option α := f121_0g L121_0_2 α x1 k1
def pa121_0 : PT (List DV) := pA [pV false [dS]]
def Fn121_0 (v : Tf121_0) (α : Type) (k : List RV → Option α) : ByteArray → Option α := fun x1 => v α x1 (fun (y1 : Bool) => ur121_0_0 k y1)
noncomputable def cm121_0g (vL121_0_2 : TL121_0_2) : MCode := (.seq (.region r121_2 [] (tO [0])) (.seq (.seq (.region r121_5 [] (tO [0, 7, 8, 9])) (.block 0 (.loop td121_7 [⟨p121_0_3, F121_0_2 vL121_0_2⟩] c121_0_7))) (.seq (.region r121_25 [] (tO [2])) .ret)))
noncomputable def cm121_0 : MCode := cm121_0g L121_0_2
theorem gm121_0 : cm121_0.Good Try.prog E121_0 sh121 := ⟨trivial, ⟨⟨trivial, ⟨g121_0_7, m121_0_2, trivial⟩⟩, ⟨trivial, trivial⟩⟩⟩
theorem fm121_0g  (vL121_0_2 : TL121_0_2) (α : Type) (k : List RV → Option α) : Fn121_0 (f121_0g vL121_0_2) α k = pa121_0.unc fun ds => fnM Try.prog (E121_0g ) sh121 (cm121_0g vL121_0_2) rs121 k ds := by kernel_rfl
theorem fm121_0 : ∀ (α : Type) (k : List RV → Option α), Fn121_0 f121_0 α k = pa121_0.unc fun ds => fnM Try.prog E121_0 sh121 cm121_0 rs121 k ds := fm121_0g L121_0_2
theorem is121 : FnIs Try.prog 121 nt121 tr121 tl121 cm121_0.erase rs121 := ⟨Try.f121, Try.func121, rfl, by kernel_rfl, by kernel_rfl, by kernel_rfl⟩
theorem io121_0 : InstOk Try.prog 121 nt121 ⟨pa121_0, Fn121_0 f121_0⟩ := inst_ok eo121_0 followsTry is121 ⟨⟨sh121, cm121_0, by kernel_rfl, gm121_0, fm121_0⟩⟩
abbrev nt117 : Nat := 13
def sh117 : List (Nat × List Sh) := []
def r117_2 : List AOper := [oO 4 (.mv (kI 0))]
def td117_5 : Option Tidy := (tO [0, 1])
def r117_8 : List AOper := [oM 5 1, oO 6 (.bin .neq 3 (.tmp 5) (kI 0))]
def r117_11 : List AOper := [oM 7 1, oM 8 0, oM 9 1, oO 10 (.bin .rem 3 (.tmp 8) (.tmp 9)), oM 0 7, oM 1 10]
def r117_13 : List AOper := [oM 11 0, oO 12 (.call 124 [(.tmp 11)]), oM 4 12]
def tr117 : List (Nat × Tidy) := [tT 0 [0, 1], tT 1 [0, 1, 6], tT 2 [0, 1], tT 3 [4]]
def tl117 : List (Nat × Tidy) := [tT 1 [0, 1]]
def rs117 : List AResV := [.tmp 4]
def p117_0_0 : PT St := pS [sl 0 (aV false [(cD (dI .i64))]), sl 1 (aV false [(cD (dI .i64))])] []
def u117_0_0 {β : Type} (g : St → β) : Int → Int → β := p117_0_0.unc g
def p117_0_1 : PT St := pS [sl 0 (aV false [(cD (dI .i64))]), sl 1 (aV false [(cD (dI .i64))]), sl 6 (aV false [(cD dB)])] []
def u117_0_1 {β : Type} (g : St → β) : Int → Int → Bool → β := p117_0_1.unc g
def pr117_0_0 : PT (List RV) := pRs [pR false [rD (dI .i64)]]
def ur117_0_0 {β : Type} (g : List RV → β) : Int → β := pr117_0_0.unc g
def E117_0g (vf124_0 : Tf124_0) : EnvK := EnvK.of [⟨124, nt124, [⟨pa124_0, Fn124_0 vf124_0⟩]⟩] noSeq
noncomputable def E117_0 : EnvK := E117_0g f124_0
theorem eo117_0 : E117_0.Ok Try.prog := EnvK.of_ok noSeq_ok ⟨⟨io124_0, trivial⟩, trivial⟩
noncomputable def c117_0_5g  : MCode := (.seq (.seq (.region r117_8 [] (tO [0, 1, 6])) (.cond (.tmp 6) .skip (.exit 0))) (.block 1 (.region r117_11 [] (tO [0, 1]))))
noncomputable def c117_0_5 : MCode := c117_0_5g 
theorem g117_0_5 : c117_0_5.Good Try.prog E117_0 sh117 := ⟨⟨trivial, ⟨trivial, trivial⟩⟩, trivial⟩
--CODE 5 0
def S117_0_0g  (α : Type)  (x3 x4 : Int) (kn : Int → Int → Option α) (k1 : Int → Int → Bool → Option α) : Option α :=
 cK (x4 != 0)
 (gK (x4 != 0) (kn x4 (Int.tmod x3 x4)))
 (k1 x3 x4 (x4 != 0))
noncomputable def S117_0_0 (α : Type)  (x3 x4 : Int) (kn : Int → Int → Option α) (k1 : Int → Int → Bool → Option α) : Option α := S117_0_0g  α  x3 x4 kn k1
noncomputable def R117_0_0 (α : Type)  (k1 : Int → Int → Bool → Option α) : Nat → Int → Int → Option α
 | 0, _, _ => none
 | n + 1, x3, x4 => S117_0_0 α  x3 x4 (R117_0_0 α  k1 n) k1
noncomputable def L117_0_0 (α : Type)  (k1 : Int → Int → Bool → Option α) (x3 x4 : Int) : Option α := R117_0_0 α  k1 fuel x3 x4
abbrev TL117_0_0 : Type 1 := (α : Type) → (Int → Int → Bool → Option α) → Int → Int → Option α
def F117_0_0 (v : TL117_0_0) (α : Type) (K : Exit → St → Option α) : Int → Int → Option α := fun x3 x4 => v α  (fun (y1 : Int) (y2 : Int) (y3 : Bool) => u117_0_1 (K (.exit 0)) y1 y2 y3) x3 x4
theorem r117_0_0g (vf124_0 : Tf124_0)  (α : Type) (K : Exit → St → Option α) (Kn : St → Option α) (x3 x4 : Int) : u117_0_0 (fun σ => runM Try.prog (E117_0g vf124_0) sh117 (c117_0_5g ) (thenK (fun σ => tidyK td117_5 σ Kn) K) σ) x3 x4 = S117_0_0g  α  x3 x4 (fun x3 x4 => u117_0_0 Kn x3 x4) (fun (y1 : Int) (y2 : Int) (y3 : Bool) => u117_0_1 (K (.exit 0)) y1 y2 y3) := by kernel_rfl
theorem r117_0_0 (α : Type) (K : Exit → St → Option α) (Kn : St → Option α) (x3 x4 : Int) : u117_0_0 (fun σ => runM Try.prog E117_0 sh117 c117_0_5 (thenK (fun σ => tidyK td117_5 σ Kn) K) σ) x3 x4 = S117_0_0 α  x3 x4 (fun x3 x4 => u117_0_0 Kn x3 x4) (fun (y1 : Int) (y2 : Int) (y3 : Bool) => u117_0_1 (K (.exit 0)) y1 y2 y3) := r117_0_0g f124_0 α K Kn x3 x4
theorem t117_0_0 (α : Type) (K : Exit → St → Option α) : ∀ (n : Nat) (x3 x4 : Int), R117_0_0 α  (fun (y1 : Int) (y2 : Int) (y3 : Bool) => u117_0_1 (K (.exit 0)) y1 y2 y3) n x3 x4 = u117_0_0 (loopT (runM Try.prog E117_0 sh117 c117_0_5) td117_5 K n) x3 x4 := by
 intro n
 induction n with
 | zero => intros; rfl
 | succ n ih => intro x3 x4; exact (congrArg (fun kn => S117_0_0 α  x3 x4 kn (fun (y1 : Int) (y2 : Int) (y3 : Bool) => u117_0_1 (K (.exit 0)) y1 y2 y3)) (funext fun x3 => funext fun x4 => ih x3 x4)).trans (r117_0_0 α K (loopT (runM Try.prog E117_0 sh117 c117_0_5) td117_5 K n) x3 x4).symm
theorem m117_0_0 : ∀ (α : Type) (K : Exit → St → Option α), F117_0_0 L117_0_0 α K = p117_0_0.unc fun σ => loopT (runM Try.prog E117_0 sh117 c117_0_5) td117_5 K fuel σ := fun α K => funext fun x3 => funext fun x4 => t117_0_0 α K fuel x3 x4
abbrev Tf117_0 : Type 1 := (α : Type) → Int → Int → (Int → Option α) → Option α
def f117_0g (vL117_0_0 : TL117_0_0) (vf124_0 : Tf124_0) (α : Type) (x1 x2 : Int) (k1 : Int → Option α) : Option α :=
 vL117_0_0 α
 (fun x6 x7 x8 => vf124_0 α x6
 (fun x10 => k1 x10)) x1 x2
noncomputable def f117_0 (α : Type) (x1 x2 : Int) (k1 : Int → Option α) : Option α := f117_0g L117_0_0 f124_0 α x1 x2 k1
def pa117_0 : PT (List DV) := pA [pV false [(dI .i64)], pV false [(dI .i64)]]
def Fn117_0 (v : Tf117_0) (α : Type) (k : List RV → Option α) : Int → Int → Option α := fun x1 x2 => v α x1 x2 (fun (y1 : Int) => ur117_0_0 k y1)
noncomputable def cm117_0g (vL117_0_0 : TL117_0_0) : MCode := (.seq (.region r117_2 [] (tO [0, 1])) (.seq (.block 0 (.loop td117_5 [⟨p117_0_0, F117_0_0 vL117_0_0⟩] c117_0_5)) (.seq (.region r117_13 [] (tO [4])) .ret)))
noncomputable def cm117_0 : MCode := cm117_0g L117_0_0
theorem gm117_0 : cm117_0.Good Try.prog E117_0 sh117 := ⟨trivial, ⟨⟨g117_0_5, m117_0_0, trivial⟩, ⟨trivial, trivial⟩⟩⟩
theorem fm117_0g (vf124_0 : Tf124_0) (vL117_0_0 : TL117_0_0) (α : Type) (k : List RV → Option α) : Fn117_0 (f117_0g vL117_0_0 vf124_0) α k = pa117_0.unc fun ds => fnM Try.prog (E117_0g vf124_0) sh117 (cm117_0g vL117_0_0) rs117 k ds := by kernel_rfl
theorem fm117_0 : ∀ (α : Type) (k : List RV → Option α), Fn117_0 f117_0 α k = pa117_0.unc fun ds => fnM Try.prog E117_0 sh117 cm117_0 rs117 k ds := fm117_0g f124_0 L117_0_0
theorem is117 : FnIs Try.prog 117 nt117 tr117 tl117 cm117_0.erase rs117 := ⟨Try.f117, Try.func117, rfl, by kernel_rfl, by kernel_rfl, by kernel_rfl⟩
theorem io117_0 : InstOk Try.prog 117 nt117 ⟨pa117_0, Fn117_0 f117_0⟩ := inst_ok eo117_0 followsTry is117 ⟨⟨sh117, cm117_0, by kernel_rfl, gm117_0, fm117_0⟩⟩
abbrev nt84 : Nat := 46
def sh84 : List (Nat × List Sh) := [(5, [.int .i64]), (9, [.int .i64]), (14, [.int .i64]), (16, [.int .i64]), (21, [.int .i64]), (23, [.int .i64]), (29, [.int .i64]), (31, [.int .i64]), (34, [.int .i64]), (36, [.int .i64]), (40, [.int .i64]), (42, [.int .i64])]
def r84_2 : List AOper := [oO 1 (.box (.tmp 0)), oO 2 (.mv (kI 0))]
def r84_6 : List AOper := [oO 4 (.faddr 2 (.tmp 1)), oO 5 (.load false 1 (.tmp 4)), oO 6 (.bin .lss 3 (.tmp 5) (kI 1)), oM 7 6, oG 8 (.faddr 2 (.tmp 1)) 7 false, oG 9 (.load false 1 (.tmp 8)) 7 false, oG 10 (.bin .gtr 3 (.tmp 9) (kI 1000)) 7 false, oO 11 (.pick (.tmp 7) (.const (.bool true)) (.tmp 10)), oM 3 11]
def r84_9 : List AOper := [oO 2 (.mv (kI 2))]
def r84_11 : List AOper := [oO 13 (.faddr 0 (.tmp 1)), oO 14 (.load false 1 (.tmp 13)), oO 15 (.faddr 2 (.tmp 1)), oO 16 (.load false 1 (.tmp 15)), oO 17 (.call 122 [(.tmp 14), (.tmp 16)]), oO 18 (.pure (oB (.unOp .not 4 (.tmp 17)) 4)), oM 19 18, oG 20 (.faddr 1 (.tmp 1)) 19 false, oG 21 (.load false 1 (.tmp 20)) 19 false, oG 22 (.faddr 2 (.tmp 1)) 19 false, oG 23 (.load false 1 (.tmp 22)) 19 false, oG 24 (.call 122 [(.tmp 21), (.tmp 23)]) 19 false, oG 25 (.pure (oB (.unOp .not 4 (.tmp 24)) 4)) 19 false, oO 26 (.pick (.tmp 19) (.const (.bool true)) (.tmp 25)), oM 27 26, oG 28 (.faddr 0 (.tmp 1)) 27 false, oG 29 (.load false 1 (.tmp 28)) 27 false, oG 30 (.faddr 0 (.tmp 1)) 27 false, oG 31 (.load false 1 (.tmp 30)) 27 false, oG 32 (.bin .mul 3 (.tmp 29) (.tmp 31)) 27 false, oG 33 (.faddr 1 (.tmp 1)) 27 false, oG 34 (.load false 1 (.tmp 33)) 27 false, oG 35 (.faddr 1 (.tmp 1)) 27 false, oG 36 (.load false 1 (.tmp 35)) 27 false, oG 37 (.bin .mul 3 (.tmp 34) (.tmp 36)) 27 false, oG 38 (.bin .add 3 (.tmp 32) (.tmp 37)) 27 false, oG 39 (.faddr 2 (.tmp 1)) 27 false, oG 40 (.load false 1 (.tmp 39)) 27 false, oG 41 (.faddr 2 (.tmp 1)) 27 false, oG 42 (.load false 1 (.tmp 41)) 27 false, oG 43 (.bin .mul 3 (.tmp 40) (.tmp 42)) 27 false, oG 44 (.bin .neq 3 (.tmp 38) (.tmp 43)) 27 false, oO 45 (.pick (.tmp 27) (.const (.bool true)) (.tmp 44)), oM 12 45]
def r84_14 : List AOper := [oO 2 (.mv (kI 12))]
def r84_16 : List AOper := [oO 2 (.mv (kI 0))]
def tr84 : List (Nat × Tidy) := [tT 0 [1], tT 1 [1, 3], tT 2 [2], tT 3 [12], tT 4 [2], tT 5 [2]]
def tl84 : List (Nat × Tidy) := []
def rs84 : List AResV := [.tmp 2]
def p84_0_0 : PT St := pS [sl 1 (aV false [(cPtr 1 0)])] [eBox 1 [(cD (dI .i64)), (cD (dI .i64)), (cD (dI .i64))]]
def u84_0_0 {β : Type} (g : St → β) : Int → Int → Int → β := p84_0_0.unc g
def p84_0_1 : PT St := pS [sl 1 (aV false [(cPtr 1 0)]), sl 3 (aV false [(cD dB)])] [eBox 1 [(cD (dI .i64)), (cD (dI .i64)), (cD (dI .i64))]]
def u84_0_1 {β : Type} (g : St → β) : Bool → Int → Int → Int → β := p84_0_1.unc g
def pr84_0_0 : PT (List RV) := pRs [pR false [rD (dI .i64)]]
def ur84_0_0 {β : Type} (g : List RV → β) : Int → β := pr84_0_0.unc g
def E84_0g (vf122_0 : Tf122_0) : EnvK := EnvK.of [⟨122, nt122, [⟨pa122_0, Fn122_0 vf122_0⟩]⟩] noSeq
noncomputable def E84_0 : EnvK := E84_0g f122_0
theorem eo84_0 : E84_0.Ok Try.prog := EnvK.of_ok noSeq_ok ⟨⟨io122_0, trivial⟩, trivial⟩
noncomputable def c84_0_5g  : MCode := (.region r84_6 [] (tO [1, 3]))
noncomputable def c84_0_5 : MCode := c84_0_5g 
theorem g84_0_5 : c84_0_5.Good Try.prog E84_0 sh84 := trivial
--CODE 5 0
abbrev TJ84_0_0 : Type 1 := (α : Type) → Int → (Bool → Option α) → Option α
def J84_0_0g  (α : Type) (x6 : Int) (k1 : Bool → Option α) : Option α :=
 cK (decide (x6 < 1))
 (k1 true)
 (k1 (decide (1000 < x6)))
noncomputable def J84_0_0 (α : Type) (x6 : Int) (k1 : Bool → Option α) : Option α := J84_0_0g  α x6 k1
def F84_0_0 (v : TJ84_0_0) (α : Type) (K : Exit → St → Option α) : Int → Int → Int → Option α := fun x4 x5 x6 => v α x6 (fun (y1 : Bool) => u84_0_1 (K .normal) y1 x4 x5 x6) 
theorem m84_0_0g (vf122_0 : Tf122_0)  (α : Type) (K : Exit → St → Option α) : F84_0_0 (J84_0_0g ) α K = p84_0_0.unc fun σ => runM Try.prog (E84_0g vf122_0) sh84 (c84_0_5g ) K σ := by kernel_rfl
theorem m84_0_0 : ∀ (α : Type) (K : Exit → St → Option α), F84_0_0 J84_0_0 α K = p84_0_0.unc fun σ => runM Try.prog E84_0 sh84 c84_0_5 K σ := m84_0_0g f122_0
abbrev Tf84_0 : Type 1 := (α : Type) → Int → Int → Int → (Int → Option α) → Option α
def f84_0g (vJ84_0_0 : TJ84_0_0) (vf122_0 : Tf122_0) (α : Type) (x1 x2 x3 : Int) (k1 : Int → Option α) : Option α :=
 vJ84_0_0 α x3
 (fun x8 => cK x8
 (k1 2)
 (vf122_0 α x1 x3
 (fun x10 => cK (!x10)
 (k1 12)
 (vf122_0 α x2 x3
 (fun x11 => cK (!x11)
 (k1 12)
 (cK ((w64 ((w64 (x1 * x1)) + (w64 (x2 * x2)))) != (w64 (x3 * x3)))
 (k1 12)
 (k1 0)))))))
noncomputable def f84_0 (α : Type) (x1 x2 x3 : Int) (k1 : Int → Option α) : Option α := f84_0g J84_0_0 f122_0 α x1 x2 x3 k1
def pa84_0 : PT (List DV) := pA [pV true [(dI .i64), (dI .i64), (dI .i64)]]
def Fn84_0 (v : Tf84_0) (α : Type) (k : List RV → Option α) : Int → Int → Int → Option α := fun x1 x2 x3 => v α x1 x2 x3 (fun (y1 : Int) => ur84_0_0 k y1)
noncomputable def cm84_0g (vJ84_0_0 : TJ84_0_0) : MCode := (.seq (.region r84_2 [] (tO [1])) (.seq (.block 0 (.seq (.mark [⟨p84_0_0, F84_0_0 vJ84_0_0⟩] c84_0_5) (.cond (.tmp 3) (.seq (.region r84_9 [] (tO [2])) .ret) (.seq (.region r84_11 [] (tO [12])) (.cond (.tmp 12) (.seq (.region r84_14 [] (tO [2])) .ret) .skip))))) (.seq (.region r84_16 [] (tO [2])) .ret)))
noncomputable def cm84_0 : MCode := cm84_0g J84_0_0
theorem gm84_0 : cm84_0.Good Try.prog E84_0 sh84 := ⟨trivial, ⟨⟨⟨g84_0_5, m84_0_0, trivial⟩, ⟨⟨trivial, trivial⟩, ⟨trivial, ⟨⟨trivial, trivial⟩, trivial⟩⟩⟩⟩, ⟨trivial, trivial⟩⟩⟩
theorem fm84_0g (vf122_0 : Tf122_0) (vJ84_0_0 : TJ84_0_0) (α : Type) (k : List RV → Option α) : Fn84_0 (f84_0g vJ84_0_0 vf122_0) α k = pa84_0.unc fun ds => fnM Try.prog (E84_0g vf122_0) sh84 (cm84_0g vJ84_0_0) rs84 k ds := by kernel_rfl
theorem fm84_0 : ∀ (α : Type) (k : List RV → Option α), Fn84_0 f84_0 α k = pa84_0.unc fun ds => fnM Try.prog E84_0 sh84 cm84_0 rs84 k ds := fm84_0g f122_0 J84_0_0
theorem is84 : FnIs Try.prog 84 nt84 tr84 tl84 cm84_0.erase rs84 := ⟨Try.f84, Try.func84, rfl, by kernel_rfl, by kernel_rfl, by kernel_rfl⟩
theorem io84_0 : InstOk Try.prog 84 nt84 ⟨pa84_0, Fn84_0 f84_0⟩ := inst_ok eo84_0 followsTry is84 ⟨⟨sh84, cm84_0, by kernel_rfl, gm84_0, fm84_0⟩⟩
abbrev nt114 : Nat := 5
def sh114 : List (Nat × List Sh) := []
def r114_2 : List AOper := [oO 2 (.mv (.const (.bool false)))]
def r114_4 : List AOper := [oM 3 0, oO 4 (.call 29 [(.tmp 3), (kI (-1000)), (kI 1000)]), oM 2 4]
def tr114 : List (Nat × Tidy) := [tT 0 [0], tT 1 [2]]
def tl114 : List (Nat × Tidy) := []
def rs114 : List AResV := [.tmp 2]
def pr114_0_0 : PT (List RV) := pRs [pR false [rD dB]]
def ur114_0_0 {β : Type} (g : List RV → β) : Bool → β := pr114_0_0.unc g
def E114_0g (vf29_0 : Tf29_0) : EnvK := EnvK.of [⟨29, nt29, [⟨pa29_0, Fn29_0 vf29_0⟩]⟩] noSeq
noncomputable def E114_0 : EnvK := E114_0g f29_0
theorem eo114_0 : E114_0.Ok Try.prog := EnvK.of_ok noSeq_ok ⟨⟨io29_0, trivial⟩, trivial⟩
abbrev Tf114_0 : Type 1 := (α : Type) → Int → (Bool → Option α) → Option α
def f114_0g (vf29_0 : Tf29_0) (α : Type) (x1 : Int) (k1 : Bool → Option α) : Option α :=
 vf29_0 α x1 (-1000) 1000
 (fun x2 => k1 x2)
noncomputable def f114_0 (α : Type) (x1 : Int) (k1 : Bool → Option α) : Option α := f114_0g f29_0 α x1 k1
def pa114_0 : PT (List DV) := pA [pV false [(dI .i64)]]
def Fn114_0 (v : Tf114_0) (α : Type) (k : List RV → Option α) : Int → Option α := fun x1 => v α x1 (fun (y1 : Bool) => ur114_0_0 k y1)
noncomputable def cm114_0g  : MCode := (.seq (.region r114_2 [] (tO [0])) (.seq (.region r114_4 [] (tO [2])) .ret))
noncomputable def cm114_0 : MCode := cm114_0g 
theorem gm114_0 : cm114_0.Good Try.prog E114_0 sh114 := ⟨trivial, ⟨trivial, trivial⟩⟩
theorem fm114_0g (vf29_0 : Tf29_0)  (α : Type) (k : List RV → Option α) : Fn114_0 (f114_0g vf29_0) α k = pa114_0.unc fun ds => fnM Try.prog (E114_0g vf29_0) sh114 (cm114_0g ) rs114 k ds := by kernel_rfl
theorem fm114_0 : ∀ (α : Type) (k : List RV → Option α), Fn114_0 f114_0 α k = pa114_0.unc fun ds => fnM Try.prog E114_0 sh114 cm114_0 rs114 k ds := fm114_0g f29_0
theorem is114 : FnIs Try.prog 114 nt114 tr114 tl114 cm114_0.erase rs114 := ⟨Try.f114, Try.func114, rfl, by kernel_rfl, by kernel_rfl, by kernel_rfl⟩
theorem io114_0 : InstOk Try.prog 114 nt114 ⟨pa114_0, Fn114_0 f114_0⟩ := inst_ok eo114_0 followsTry is114 ⟨⟨sh114, cm114_0, by kernel_rfl, gm114_0, fm114_0⟩⟩
abbrev nt91 : Nat := 25
def sh91 : List (Nat × List Sh) := [(15, [.int .i64]), (21, [.int .i64])]
def r91_2 : List AOper := [oO 5 (.box (.tmp 2)), oO 6 (.mv (kI 0))]
def r91_5 : List AOper := [oM 7 0, oO 8 (.call 123 [(.tmp 7)]), oO 9 (.pure (oB (.unOp .not 4 (.tmp 8)) 4))]
def r91_8 : List AOper := [oO 6 (.mv (kI 3))]
def r91_11 : List AOper := [oM 10 1, oO 11 (.call 29 [(.tmp 10), (kI 1000), (kI 200000)]), oO 12 (.pure (oB (.unOp .not 4 (.tmp 11)) 4)), oM 13 12, oG 14 (.faddr 0 (.tmp 5)) 13 false, oG 15 (.load false 1 (.tmp 14)) 13 false, oG 16 (.call 29 [(.tmp 15), (kI 5000), (kI 80000)]) 13 false, oG 17 (.pure (oB (.unOp .not 4 (.tmp 16)) 4)) 13 false, oO 18 (.pick (.tmp 13) (.const (.bool true)) (.tmp 17)), oM 19 18, oG 20 (.faddr 1 (.tmp 5)) 19 false, oG 21 (.load false 1 (.tmp 20)) 19 false, oG 22 (.call 29 [(.tmp 21), (kI 0), (kI 9999)]) 19 false, oG 23 (.pure (oB (.unOp .not 4 (.tmp 22)) 4)) 19 false, oO 24 (.pick (.tmp 19) (.const (.bool true)) (.tmp 23))]
def r91_14 : List AOper := [oO 6 (.mv (kI 2))]
def r91_16 : List AOper := [oO 6 (.mv (kI 0))]
def tr91 : List (Nat × Tidy) := [tT 0 [0, 1, 5], tT 1 [1, 5, 9], tT 2 [6], tT 3 [24], tT 4 [6], tT 5 [6]]
def tl91 : List (Nat × Tidy) := []
def rs91 : List AResV := [.tmp 6]
def pr91_0_0 : PT (List RV) := pRs [pR false [rD (dI .i64)]]
def ur91_0_0 {β : Type} (g : List RV → β) : Int → β := pr91_0_0.unc g
def E91_0g (vf123_0 : Tf123_0) (vf29_0 : Tf29_0) : EnvK := EnvK.of [⟨123, nt123, [⟨pa123_0, Fn123_0 vf123_0⟩]⟩, ⟨29, nt29, [⟨pa29_0, Fn29_0 vf29_0⟩]⟩] noSeq
noncomputable def E91_0 : EnvK := E91_0g f123_0 f29_0
theorem eo91_0 : E91_0.Ok Try.prog := EnvK.of_ok noSeq_ok ⟨⟨io123_0, trivial⟩, ⟨io29_0, trivial⟩, trivial⟩
abbrev Tf91_0 : Type 1 := (α : Type) → ByteArray → Int → Int → Int → (Int → Option α) → Option α
def f91_0g (vf123_0 : Tf123_0) (vf29_0 : Tf29_0) (α : Type) (x1 : ByteArray) (x2 x3 x4 : Int) (k1 : Int → Option α) : Option α :=
 vf123_0 α x1
 (fun x5 => cK (!x5)
 (k1 3)
 (vf29_0 α x2 1000 200000
 (fun x6 => cK (!x6)
 (k1 2)
 (vf29_0 α x3 5000 80000
 (fun x7 => cK (!x7)
 (k1 2)
 (vf29_0 α x4 0 9999
 (fun x8 => cK (!x8)
 (k1 2)
 (k1 0))))))))
noncomputable def f91_0 (α : Type) (x1 : ByteArray) (x2 x3 x4 : Int) (k1 : Int → Option α) : Option α := f91_0g f123_0 f29_0 α x1 x2 x3 x4 k1
def pa91_0 : PT (List DV) := pA [pV false [dS], pV false [(dI .i64)], pV true [(dI .i64), (dI .i64)]]
def Fn91_0 (v : Tf91_0) (α : Type) (k : List RV → Option α) : ByteArray → Int → Int → Int → Option α := fun x1 x2 x3 x4 => v α x1 x2 x3 x4 (fun (y1 : Int) => ur91_0_0 k y1)
noncomputable def cm91_0g  : MCode := (.seq (.region r91_2 [] (tO [0, 1, 5])) (.seq (.seq (.region r91_5 [] (tO [1, 5, 9])) (.cond (.tmp 9) (.seq (.region r91_8 [] (tO [6])) .ret) .skip)) (.seq (.seq (.region r91_11 [] (tO [24])) (.cond (.tmp 24) (.seq (.region r91_14 [] (tO [6])) .ret) .skip)) (.seq (.region r91_16 [] (tO [6])) .ret))))
noncomputable def cm91_0 : MCode := cm91_0g 
theorem gm91_0 : cm91_0.Good Try.prog E91_0 sh91 := ⟨trivial, ⟨⟨trivial, ⟨⟨trivial, trivial⟩, trivial⟩⟩, ⟨⟨trivial, ⟨⟨trivial, trivial⟩, trivial⟩⟩, ⟨trivial, trivial⟩⟩⟩⟩
theorem fm91_0g (vf123_0 : Tf123_0) (vf29_0 : Tf29_0)  (α : Type) (k : List RV → Option α) : Fn91_0 (f91_0g vf123_0 vf29_0) α k = pa91_0.unc fun ds => fnM Try.prog (E91_0g vf123_0 vf29_0) sh91 (cm91_0g ) rs91 k ds := by kernel_rfl
theorem fm91_0 : ∀ (α : Type) (k : List RV → Option α), Fn91_0 f91_0 α k = pa91_0.unc fun ds => fnM Try.prog E91_0 sh91 cm91_0 rs91 k ds := fm91_0g f123_0 f29_0
theorem is91 : FnIs Try.prog 91 nt91 tr91 tl91 cm91_0.erase rs91 := ⟨Try.f91, Try.func91, rfl, by kernel_rfl, by kernel_rfl, by kernel_rfl⟩
theorem io91_0 : InstOk Try.prog 91 nt91 ⟨pa91_0, Fn91_0 f91_0⟩ := inst_ok eo91_0 followsTry is91 ⟨⟨sh91, cm91_0, by kernel_rfl, gm91_0, fm91_0⟩⟩
abbrev nt92 : Nat := 46
def sh92 : List (Nat × List Sh) := [(4, [.int .i64]), (8, [.int .i64]), (10, [.int .i64]), (13, [.int .i64]), (18, [.int .i64]), (20, [.int .i64]), (23, [.int .i64]), (29, [.int .i64]), (31, [.int .i64]), (34, [.int .i64]), (36, [.int .i64]), (40, [.int .i64]), (42, [.int .i64])]
def r92_2 : List AOper := [oO 1 (.box (.tmp 0)), oO 2 (.mv (kI 0))]
def r92_5 : List AOper := [oO 3 (.faddr 2 (.tmp 1)), oO 4 (.load false 1 (.tmp 3)), oO 5 (.call 29 [(.tmp 4), (kI 1), (kI 1000)]), oO 6 (.pure (oB (.unOp .not 4 (.tmp 5)) 4))]
def r92_8 : List AOper := [oO 2 (.mv (kI 2))]
def r92_11 : List AOper := [oO 7 (.faddr 0 (.tmp 1)), oO 8 (.load false 1 (.tmp 7)), oO 9 (.faddr 2 (.tmp 1)), oO 10 (.load false 1 (.tmp 9)), oO 11 (.pure (oB (.unOp .neg 3 (.tmp 10)) 3)), oO 12 (.faddr 2 (.tmp 1)), oO 13 (.load false 1 (.tmp 12)), oO 14 (.call 29 [(.tmp 8), (.tmp 11), (.tmp 13)]), oO 15 (.pure (oB (.unOp .not 4 (.tmp 14)) 4)), oM 16 15, oG 17 (.faddr 1 (.tmp 1)) 16 false, oG 18 (.load false 1 (.tmp 17)) 16 false, oG 19 (.faddr 2 (.tmp 1)) 16 false, oG 20 (.load false 1 (.tmp 19)) 16 false, oG 21 (.pure (oB (.unOp .neg 3 (.tmp 20)) 3)) 16 false, oG 22 (.faddr 2 (.tmp 1)) 16 false, oG 23 (.load false 1 (.tmp 22)) 16 false, oG 24 (.call 29 [(.tmp 18), (.tmp 21), (.tmp 23)]) 16 false, oG 25 (.pure (oB (.unOp .not 4 (.tmp 24)) 4)) 16 false, oO 26 (.pick (.tmp 16) (.const (.bool true)) (.tmp 25)), oM 27 26, oG 28 (.faddr 0 (.tmp 1)) 27 false, oG 29 (.load false 1 (.tmp 28)) 27 false, oG 30 (.faddr 0 (.tmp 1)) 27 false, oG 31 (.load false 1 (.tmp 30)) 27 false, oG 32 (.bin .mul 3 (.tmp 29) (.tmp 31)) 27 false, oG 33 (.faddr 1 (.tmp 1)) 27 false, oG 34 (.load false 1 (.tmp 33)) 27 false, oG 35 (.faddr 1 (.tmp 1)) 27 false, oG 36 (.load false 1 (.tmp 35)) 27 false, oG 37 (.bin .mul 3 (.tmp 34) (.tmp 36)) 27 false, oG 38 (.bin .add 3 (.tmp 32) (.tmp 37)) 27 false, oG 39 (.faddr 2 (.tmp 1)) 27 false, oG 40 (.load false 1 (.tmp 39)) 27 false, oG 41 (.faddr 2 (.tmp 1)) 27 false, oG 42 (.load false 1 (.tmp 41)) 27 false, oG 43 (.bin .mul 3 (.tmp 40) (.tmp 42)) 27 false, oG 44 (.bin .neq 3 (.tmp 38) (.tmp 43)) 27 false, oO 45 (.pick (.tmp 27) (.const (.bool true)) (.tmp 44))]
def r92_14 : List AOper := [oO 2 (.mv (kI 12))]
def r92_16 : List AOper := [oO 2 (.mv (kI 0))]
def tr92 : List (Nat × Tidy) := [tT 0 [1], tT 1 [1, 6], tT 2 [2], tT 3 [45], tT 4 [2], tT 5 [2]]
def tl92 : List (Nat × Tidy) := []
def rs92 : List AResV := [.tmp 2]
def pr92_0_0 : PT (List RV) := pRs [pR false [rD (dI .i64)]]
def ur92_0_0 {β : Type} (g : List RV → β) : Int → β := pr92_0_0.unc g
def E92_0g (vf29_0 : Tf29_0) : EnvK := EnvK.of [⟨29, nt29, [⟨pa29_0, Fn29_0 vf29_0⟩]⟩] noSeq
noncomputable def E92_0 : EnvK := E92_0g f29_0
theorem eo92_0 : E92_0.Ok Try.prog := EnvK.of_ok noSeq_ok ⟨⟨io29_0, trivial⟩, trivial⟩
abbrev Tf92_0 : Type 1 := (α : Type) → Int → Int → Int → (Int → Option α) → Option α
def f92_0g (vf29_0 : Tf29_0) (α : Type) (x1 x2 x3 : Int) (k1 : Int → Option α) : Option α :=
 vf29_0 α x3 1 1000
 (fun x4 => cK (!x4)
 (k1 2)
 (vf29_0 α x1 (w64 (0 - x3)) x3
 (fun x5 => cK (!x5)
 (k1 12)
 (vf29_0 α x2 (w64 (0 - x3)) x3
 (fun x6 => cK (!x6)
 (k1 12)
 (cK ((w64 ((w64 (x1 * x1)) + (w64 (x2 * x2)))) != (w64 (x3 * x3)))
 (k1 12)
 (k1 0)))))))
noncomputable def f92_0 (α : Type) (x1 x2 x3 : Int) (k1 : Int → Option α) : Option α := f92_0g f29_0 α x1 x2 x3 k1
def pa92_0 : PT (List DV) := pA [pV true [(dI .i64), (dI .i64), (dI .i64)]]
def Fn92_0 (v : Tf92_0) (α : Type) (k : List RV → Option α) : Int → Int → Int → Option α := fun x1 x2 x3 => v α x1 x2 x3 (fun (y1 : Int) => ur92_0_0 k y1)
noncomputable def cm92_0g  : MCode := (.seq (.region r92_2 [] (tO [1])) (.seq (.seq (.region r92_5 [] (tO [1, 6])) (.cond (.tmp 6) (.seq (.region r92_8 [] (tO [2])) .ret) .skip)) (.seq (.seq (.region r92_11 [] (tO [45])) (.cond (.tmp 45) (.seq (.region r92_14 [] (tO [2])) .ret) .skip)) (.seq (.region r92_16 [] (tO [2])) .ret))))
noncomputable def cm92_0 : MCode := cm92_0g 
theorem gm92_0 : cm92_0.Good Try.prog E92_0 sh92 := ⟨trivial, ⟨⟨trivial, ⟨⟨trivial, trivial⟩, trivial⟩⟩, ⟨⟨trivial, ⟨⟨trivial, trivial⟩, trivial⟩⟩, ⟨trivial, trivial⟩⟩⟩⟩
theorem fm92_0g (vf29_0 : Tf29_0)  (α : Type) (k : List RV → Option α) : Fn92_0 (f92_0g vf29_0) α k = pa92_0.unc fun ds => fnM Try.prog (E92_0g vf29_0) sh92 (cm92_0g ) rs92 k ds := by kernel_rfl
theorem fm92_0 : ∀ (α : Type) (k : List RV → Option α), Fn92_0 f92_0 α k = pa92_0.unc fun ds => fnM Try.prog E92_0 sh92 cm92_0 rs92 k ds := fm92_0g f29_0
theorem is92 : FnIs Try.prog 92 nt92 tr92 tl92 cm92_0.erase rs92 := ⟨Try.f92, Try.func92, rfl, by kernel_rfl, by kernel_rfl, by kernel_rfl⟩
theorem io92_0 : InstOk Try.prog 92 nt92 ⟨pa92_0, Fn92_0 f92_0⟩ := inst_ok eo92_0 followsTry is92 ⟨⟨sh92, cm92_0, by kernel_rfl, gm92_0, fm92_0⟩⟩
abbrev nt42 : Nat := 10
def sh42 : List (Nat × List Sh) := []
def r42_2 : List AOper := [oO 4 (.mv (kI 0))]
def r42_4 : List AOper := [oM 5 0, oO 6 (.pure (oB (.unOp .neg 3 (.tmp 5)) 3)), oM 7 1, oO 8 (.call 99 [(.tmp 6), (.tmp 7)]), oO 9 (.pure (oB (.unOp .neg 3 (.tmp 8)) 3)), oM 4 9]
def tr42 : List (Nat × Tidy) := [tT 0 [0, 1], tT 1 [4]]
def tl42 : List (Nat × Tidy) := []
def rs42 : List AResV := [.tmp 4]
def pr42_0_0 : PT (List RV) := pRs [pR false [rD (dI .i64)]]
def ur42_0_0 {β : Type} (g : List RV → β) : Int → β := pr42_0_0.unc g
def E42_0g (vf99_0 : Tf99_0) : EnvK := EnvK.of [⟨99, nt99, [⟨pa99_0, Fn99_0 vf99_0⟩]⟩] noSeq
noncomputable def E42_0 : EnvK := E42_0g f99_0
theorem eo42_0 : E42_0.Ok Try.prog := EnvK.of_ok noSeq_ok ⟨⟨io99_0, trivial⟩, trivial⟩
abbrev Tf42_0 : Type 1 := (α : Type) → Int → Int → (Int → Option α) → Option α
def f42_0g (vf99_0 : Tf99_0) (α : Type) (x1 x2 : Int) (k1 : Int → Option α) : Option α :=
 vf99_0 α (w64 (0 - x1)) x2
 (fun x3 => k1 (w64 (0 - x3)))
noncomputable def f42_0 (α : Type) (x1 x2 : Int) (k1 : Int → Option α) : Option α := f42_0g f99_0 α x1 x2 k1
def pa42_0 : PT (List DV) := pA [pV false [(dI .i64)], pV false [(dI .i64)]]
def Fn42_0 (v : Tf42_0) (α : Type) (k : List RV → Option α) : Int → Int → Option α := fun x1 x2 => v α x1 x2 (fun (y1 : Int) => ur42_0_0 k y1)
noncomputable def cm42_0g  : MCode := (.seq (.region r42_2 [] (tO [0, 1])) (.seq (.region r42_4 [] (tO [4])) .ret))
noncomputable def cm42_0 : MCode := cm42_0g 
theorem gm42_0 : cm42_0.Good Try.prog E42_0 sh42 := ⟨trivial, ⟨trivial, trivial⟩⟩
theorem fm42_0g (vf99_0 : Tf99_0)  (α : Type) (k : List RV → Option α) : Fn42_0 (f42_0g vf99_0) α k = pa42_0.unc fun ds => fnM Try.prog (E42_0g vf99_0) sh42 (cm42_0g ) rs42 k ds := by kernel_rfl
theorem fm42_0 : ∀ (α : Type) (k : List RV → Option α), Fn42_0 f42_0 α k = pa42_0.unc fun ds => fnM Try.prog E42_0 sh42 cm42_0 rs42 k ds := fm42_0g f99_0
theorem is42 : FnIs Try.prog 42 nt42 tr42 tl42 cm42_0.erase rs42 := ⟨Try.f42, Try.func42, rfl, by kernel_rfl, by kernel_rfl, by kernel_rfl⟩
theorem io42_0 : InstOk Try.prog 42 nt42 ⟨pa42_0, Fn42_0 f42_0⟩ := inst_ok eo42_0 followsTry is42 ⟨⟨sh42, cm42_0, by kernel_rfl, gm42_0, fm42_0⟩⟩
abbrev nt81 : Nat := 5
def sh81 : List (Nat × List Sh) := []
def r81_2 : List AOper := [oO 2 (.mv (.const (.bool false)))]
def r81_4 : List AOper := [oM 3 0, oO 4 (.call 29 [(.tmp 3), (kI (-10000000)), (kI 10000000)]), oM 2 4]
def tr81 : List (Nat × Tidy) := [tT 0 [0], tT 1 [2]]
def tl81 : List (Nat × Tidy) := []
def rs81 : List AResV := [.tmp 2]
def pr81_0_0 : PT (List RV) := pRs [pR false [rD dB]]
def ur81_0_0 {β : Type} (g : List RV → β) : Bool → β := pr81_0_0.unc g
def E81_0g (vf29_0 : Tf29_0) : EnvK := EnvK.of [⟨29, nt29, [⟨pa29_0, Fn29_0 vf29_0⟩]⟩] noSeq
noncomputable def E81_0 : EnvK := E81_0g f29_0
theorem eo81_0 : E81_0.Ok Try.prog := EnvK.of_ok noSeq_ok ⟨⟨io29_0, trivial⟩, trivial⟩
abbrev Tf81_0 : Type 1 := (α : Type) → Int → (Bool → Option α) → Option α
def f81_0g (vf29_0 : Tf29_0) (α : Type) (x1 : Int) (k1 : Bool → Option α) : Option α :=
 vf29_0 α x1 (-10000000) 10000000
 (fun x2 => k1 x2)
noncomputable def f81_0 (α : Type) (x1 : Int) (k1 : Bool → Option α) : Option α := f81_0g f29_0 α x1 k1
def pa81_0 : PT (List DV) := pA [pV false [(dI .i64)]]
def Fn81_0 (v : Tf81_0) (α : Type) (k : List RV → Option α) : Int → Option α := fun x1 => v α x1 (fun (y1 : Bool) => ur81_0_0 k y1)
noncomputable def cm81_0g  : MCode := (.seq (.region r81_2 [] (tO [0])) (.seq (.region r81_4 [] (tO [2])) .ret))
noncomputable def cm81_0 : MCode := cm81_0g 
theorem gm81_0 : cm81_0.Good Try.prog E81_0 sh81 := ⟨trivial, ⟨trivial, trivial⟩⟩
theorem fm81_0g (vf29_0 : Tf29_0)  (α : Type) (k : List RV → Option α) : Fn81_0 (f81_0g vf29_0) α k = pa81_0.unc fun ds => fnM Try.prog (E81_0g vf29_0) sh81 (cm81_0g ) rs81 k ds := by kernel_rfl
theorem fm81_0 : ∀ (α : Type) (k : List RV → Option α), Fn81_0 f81_0 α k = pa81_0.unc fun ds => fnM Try.prog E81_0 sh81 cm81_0 rs81 k ds := fm81_0g f29_0
theorem is81 : FnIs Try.prog 81 nt81 tr81 tl81 cm81_0.erase rs81 := ⟨Try.f81, Try.func81, rfl, by kernel_rfl, by kernel_rfl, by kernel_rfl⟩
theorem io81_0 : InstOk Try.prog 81 nt81 ⟨pa81_0, Fn81_0 f81_0⟩ := inst_ok eo81_0 followsTry is81 ⟨⟨sh81, cm81_0, by kernel_rfl, gm81_0, fm81_0⟩⟩
abbrev nt79 : Nat := 10
def sh79 : List (Nat × List Sh) := []
def r79_2 : List AOper := [oO 4 (.mv (kI 0))]
def r79_4 : List AOper := [oM 5 0, oO 6 (.pure (oB (.unOp .neg 3 (.tmp 5)) 3)), oM 7 1, oO 8 (.call 78 [(.tmp 6), (.tmp 7)]), oO 9 (.pure (oB (.unOp .neg 3 (.tmp 8)) 3)), oM 4 9]
def tr79 : List (Nat × Tidy) := [tT 0 [0, 1], tT 1 [4]]
def tl79 : List (Nat × Tidy) := []
def rs79 : List AResV := [.tmp 4]
def pr79_0_0 : PT (List RV) := pRs [pR false [rD (dI .i64)]]
def ur79_0_0 {β : Type} (g : List RV → β) : Int → β := pr79_0_0.unc g
def E79_0g (vf78_0 : Tf78_0) : EnvK := EnvK.of [⟨78, nt78, [⟨pa78_0, Fn78_0 vf78_0⟩]⟩] noSeq
noncomputable def E79_0 : EnvK := E79_0g f78_0
theorem eo79_0 : E79_0.Ok Try.prog := EnvK.of_ok noSeq_ok ⟨⟨io78_0, trivial⟩, trivial⟩
abbrev Tf79_0 : Type 1 := (α : Type) → Int → Int → (Int → Option α) → Option α
def f79_0g (vf78_0 : Tf78_0) (α : Type) (x1 x2 : Int) (k1 : Int → Option α) : Option α :=
 vf78_0 α (w64 (0 - x1)) x2
 (fun x3 => k1 (w64 (0 - x3)))
noncomputable def f79_0 (α : Type) (x1 x2 : Int) (k1 : Int → Option α) : Option α := f79_0g f78_0 α x1 x2 k1
def pa79_0 : PT (List DV) := pA [pV false [(dI .i64)], pV false [(dI .i64)]]
def Fn79_0 (v : Tf79_0) (α : Type) (k : List RV → Option α) : Int → Int → Option α := fun x1 x2 => v α x1 x2 (fun (y1 : Int) => ur79_0_0 k y1)
noncomputable def cm79_0g  : MCode := (.seq (.region r79_2 [] (tO [0, 1])) (.seq (.region r79_4 [] (tO [4])) .ret))
noncomputable def cm79_0 : MCode := cm79_0g 
theorem gm79_0 : cm79_0.Good Try.prog E79_0 sh79 := ⟨trivial, ⟨trivial, trivial⟩⟩
theorem fm79_0g (vf78_0 : Tf78_0)  (α : Type) (k : List RV → Option α) : Fn79_0 (f79_0g vf78_0) α k = pa79_0.unc fun ds => fnM Try.prog (E79_0g vf78_0) sh79 (cm79_0g ) rs79 k ds := by kernel_rfl
theorem fm79_0 : ∀ (α : Type) (k : List RV → Option α), Fn79_0 f79_0 α k = pa79_0.unc fun ds => fnM Try.prog E79_0 sh79 cm79_0 rs79 k ds := fm79_0g f78_0
theorem is79 : FnIs Try.prog 79 nt79 tr79 tl79 cm79_0.erase rs79 := ⟨Try.f79, Try.func79, rfl, by kernel_rfl, by kernel_rfl, by kernel_rfl⟩
theorem io79_0 : InstOk Try.prog 79 nt79 ⟨pa79_0, Fn79_0 f79_0⟩ := inst_ok eo79_0 followsTry is79 ⟨⟨sh79, cm79_0, by kernel_rfl, gm79_0, fm79_0⟩⟩
abbrev nt70 : Nat := 5
def sh70 : List (Nat × List Sh) := []
def r70_2 : List AOper := [oO 2 (.mv (.const (.bool false)))]
def r70_4 : List AOper := [oM 3 0, oO 4 (.call 29 [(.tmp 3), (kI 0), (kI 65535)]), oM 2 4]
def tr70 : List (Nat × Tidy) := [tT 0 [0], tT 1 [2]]
def tl70 : List (Nat × Tidy) := []
def rs70 : List AResV := [.tmp 2]
def pr70_0_0 : PT (List RV) := pRs [pR false [rD dB]]
def ur70_0_0 {β : Type} (g : List RV → β) : Bool → β := pr70_0_0.unc g
def E70_0g (vf29_0 : Tf29_0) : EnvK := EnvK.of [⟨29, nt29, [⟨pa29_0, Fn29_0 vf29_0⟩]⟩] noSeq
noncomputable def E70_0 : EnvK := E70_0g f29_0
theorem eo70_0 : E70_0.Ok Try.prog := EnvK.of_ok noSeq_ok ⟨⟨io29_0, trivial⟩, trivial⟩
abbrev Tf70_0 : Type 1 := (α : Type) → Int → (Bool → Option α) → Option α
def f70_0g (vf29_0 : Tf29_0) (α : Type) (x1 : Int) (k1 : Bool → Option α) : Option α :=
 vf29_0 α x1 0 65535
 (fun x2 => k1 x2)
noncomputable def f70_0 (α : Type) (x1 : Int) (k1 : Bool → Option α) : Option α := f70_0g f29_0 α x1 k1
def pa70_0 : PT (List DV) := pA [pV false [(dI .i64)]]
def Fn70_0 (v : Tf70_0) (α : Type) (k : List RV → Option α) : Int → Option α := fun x1 => v α x1 (fun (y1 : Bool) => ur70_0_0 k y1)
noncomputable def cm70_0g  : MCode := (.seq (.region r70_2 [] (tO [0])) (.seq (.region r70_4 [] (tO [2])) .ret))
noncomputable def cm70_0 : MCode := cm70_0g 
theorem gm70_0 : cm70_0.Good Try.prog E70_0 sh70 := ⟨trivial, ⟨trivial, trivial⟩⟩
theorem fm70_0g (vf29_0 : Tf29_0)  (α : Type) (k : List RV → Option α) : Fn70_0 (f70_0g vf29_0) α k = pa70_0.unc fun ds => fnM Try.prog (E70_0g vf29_0) sh70 (cm70_0g ) rs70 k ds := by kernel_rfl
theorem fm70_0 : ∀ (α : Type) (k : List RV → Option α), Fn70_0 f70_0 α k = pa70_0.unc fun ds => fnM Try.prog E70_0 sh70 cm70_0 rs70 k ds := fm70_0g f29_0
theorem is70 : FnIs Try.prog 70 nt70 tr70 tl70 cm70_0.erase rs70 := ⟨Try.f70, Try.func70, rfl, by kernel_rfl, by kernel_rfl, by kernel_rfl⟩
theorem io70_0 : InstOk Try.prog 70 nt70 ⟨pa70_0, Fn70_0 f70_0⟩ := inst_ok eo70_0 followsTry is70 ⟨⟨sh70, cm70_0, by kernel_rfl, gm70_0, fm70_0⟩⟩
abbrev nt109 : Nat := 10
def sh109 : List (Nat × List Sh) := []
def r109_2 : List AOper := [oO 4 (.mv (.const (.bool false)))]
def r109_4 : List AOper := [oM 5 0, oM 6 1, oO 7 (.pure (oB (.unOp .neg 3 (.tmp 6)) 3)), oM 8 1, oO 9 (.call 98 [(.tmp 5), (.tmp 7), (.tmp 8)]), oM 4 9]
def tr109 : List (Nat × Tidy) := [tT 0 [0, 1], tT 1 [4]]
def tl109 : List (Nat × Tidy) := []
def rs109 : List AResV := [.tmp 4]
def pr109_0_0 : PT (List RV) := pRs [pR false [rD dB]]
def ur109_0_0 {β : Type} (g : List RV → β) : Bool → β := pr109_0_0.unc g
def E109_0g (vf98_0 : Tf98_0) : EnvK := EnvK.of [⟨98, nt98, [⟨pa98_0, Fn98_0 vf98_0⟩]⟩] noSeq
noncomputable def E109_0 : EnvK := E109_0g f98_0
theorem eo109_0 : E109_0.Ok Try.prog := EnvK.of_ok noSeq_ok ⟨⟨io98_0, trivial⟩, trivial⟩
abbrev Tf109_0 : Type 1 := (α : Type) → Int → Int → (Bool → Option α) → Option α
def f109_0g (vf98_0 : Tf98_0) (α : Type) (x1 x2 : Int) (k1 : Bool → Option α) : Option α :=
 vf98_0 α x1 (w64 (0 - x2)) x2
 (fun x3 => k1 x3)
noncomputable def f109_0 (α : Type) (x1 x2 : Int) (k1 : Bool → Option α) : Option α := f109_0g f98_0 α x1 x2 k1
def pa109_0 : PT (List DV) := pA [pV false [(dI .i64)], pV false [(dI .i64)]]
def Fn109_0 (v : Tf109_0) (α : Type) (k : List RV → Option α) : Int → Int → Option α := fun x1 x2 => v α x1 x2 (fun (y1 : Bool) => ur109_0_0 k y1)
noncomputable def cm109_0g  : MCode := (.seq (.region r109_2 [] (tO [0, 1])) (.seq (.region r109_4 [] (tO [4])) .ret))
noncomputable def cm109_0 : MCode := cm109_0g 
theorem gm109_0 : cm109_0.Good Try.prog E109_0 sh109 := ⟨trivial, ⟨trivial, trivial⟩⟩
theorem fm109_0g (vf98_0 : Tf98_0)  (α : Type) (k : List RV → Option α) : Fn109_0 (f109_0g vf98_0) α k = pa109_0.unc fun ds => fnM Try.prog (E109_0g vf98_0) sh109 (cm109_0g ) rs109 k ds := by kernel_rfl
theorem fm109_0 : ∀ (α : Type) (k : List RV → Option α), Fn109_0 f109_0 α k = pa109_0.unc fun ds => fnM Try.prog E109_0 sh109 cm109_0 rs109 k ds := fm109_0g f98_0
theorem is109 : FnIs Try.prog 109 nt109 tr109 tl109 cm109_0.erase rs109 := ⟨Try.f109, Try.func109, rfl, by kernel_rfl, by kernel_rfl, by kernel_rfl⟩
theorem io109_0 : InstOk Try.prog 109 nt109 ⟨pa109_0, Fn109_0 f109_0⟩ := inst_ok eo109_0 followsTry is109 ⟨⟨sh109, cm109_0, by kernel_rfl, gm109_0, fm109_0⟩⟩
abbrev nt83 : Nat := 27
def sh83 : List (Nat × List Sh) := [(17, [.int .i64]), (23, [.int .i64])]
def r83_2 : List AOper := [oO 5 (.box (.tmp 2)), oO 6 (.mv (kI 0))]
def r83_6 : List AOper := [oM 8 0, oO 9 (.call 121 [(.tmp 8)]), oO 10 (.pure (oB (.unOp .not 4 (.tmp 9)) 4)), oM 7 10]
def r83_9 : List AOper := [oO 6 (.mv (kI 3))]
def r83_11 : List AOper := [oM 12 1, oO 13 (.call 98 [(.tmp 12), (kI 1000), (kI 200000)]), oO 14 (.pure (oB (.unOp .not 4 (.tmp 13)) 4)), oM 15 14, oG 16 (.faddr 0 (.tmp 5)) 15 false, oG 17 (.load false 1 (.tmp 16)) 15 false, oG 18 (.call 98 [(.tmp 17), (kI 5000), (kI 80000)]) 15 false, oG 19 (.pure (oB (.unOp .not 4 (.tmp 18)) 4)) 15 false, oO 20 (.pick (.tmp 15) (.const (.bool true)) (.tmp 19)), oM 21 20, oG 22 (.faddr 1 (.tmp 5)) 21 false, oG 23 (.load false 1 (.tmp 22)) 21 false, oG 24 (.call 98 [(.tmp 23), (kI 0), (kI 9999)]) 21 false, oG 25 (.pure (oB (.unOp .not 4 (.tmp 24)) 4)) 21 false, oO 26 (.pick (.tmp 21) (.const (.bool true)) (.tmp 25)), oM 11 26]
def r83_14 : List AOper := [oO 6 (.mv (kI 2))]
def r83_16 : List AOper := [oO 6 (.mv (kI 0))]
def tr83 : List (Nat × Tidy) := [tT 0 [0, 1, 5], tT 1 [1, 5, 7], tT 2 [6], tT 3 [11], tT 4 [6], tT 5 [6]]
def tl83 : List (Nat × Tidy) := []
def rs83 : List AResV := [.tmp 6]
def pr83_0_0 : PT (List RV) := pRs [pR false [rD (dI .i64)]]
def ur83_0_0 {β : Type} (g : List RV → β) : Int → β := pr83_0_0.unc g
def E83_0g (vf121_0 : Tf121_0) (vf98_0 : Tf98_0) : EnvK := EnvK.of [⟨121, nt121, [⟨pa121_0, Fn121_0 vf121_0⟩]⟩, ⟨98, nt98, [⟨pa98_0, Fn98_0 vf98_0⟩]⟩] noSeq
noncomputable def E83_0 : EnvK := E83_0g f121_0 f98_0
theorem eo83_0 : E83_0.Ok Try.prog := EnvK.of_ok noSeq_ok ⟨⟨io121_0, trivial⟩, ⟨io98_0, trivial⟩, trivial⟩
abbrev Tf83_0 : Type 1 := (α : Type) → ByteArray → Int → Int → Int → (Int → Option α) → Option α
def f83_0g (vf121_0 : Tf121_0) (vf98_0 : Tf98_0) (α : Type) (x1 : ByteArray) (x2 x3 x4 : Int) (k1 : Int → Option α) : Option α :=
 vf121_0 α x1
 (fun x5 => cK (!x5)
 (k1 3)
 (vf98_0 α x2 1000 200000
 (fun x6 => cK (!x6)
 (k1 2)
 (vf98_0 α x3 5000 80000
 (fun x7 => cK (!x7)
 (k1 2)
 (vf98_0 α x4 0 9999
 (fun x8 => cK (!x8)
 (k1 2)
 (k1 0))))))))
noncomputable def f83_0 (α : Type) (x1 : ByteArray) (x2 x3 x4 : Int) (k1 : Int → Option α) : Option α := f83_0g f121_0 f98_0 α x1 x2 x3 x4 k1
def pa83_0 : PT (List DV) := pA [pV false [dS], pV false [(dI .i64)], pV true [(dI .i64), (dI .i64)]]
def Fn83_0 (v : Tf83_0) (α : Type) (k : List RV → Option α) : ByteArray → Int → Int → Int → Option α := fun x1 x2 x3 x4 => v α x1 x2 x3 x4 (fun (y1 : Int) => ur83_0_0 k y1)
noncomputable def cm83_0g  : MCode := (.seq (.region r83_2 [] (tO [0, 1, 5])) (.seq (.block 0 (.seq (.region r83_6 [] (tO [1, 5, 7])) (.cond (.tmp 7) (.seq (.region r83_9 [] (tO [6])) .ret) (.seq (.region r83_11 [] (tO [11])) (.cond (.tmp 11) (.seq (.region r83_14 [] (tO [6])) .ret) .skip))))) (.seq (.region r83_16 [] (tO [6])) .ret)))
noncomputable def cm83_0 : MCode := cm83_0g 
theorem gm83_0 : cm83_0.Good Try.prog E83_0 sh83 := ⟨trivial, ⟨⟨trivial, ⟨⟨trivial, trivial⟩, ⟨trivial, ⟨⟨trivial, trivial⟩, trivial⟩⟩⟩⟩, ⟨trivial, trivial⟩⟩⟩
theorem fm83_0g (vf121_0 : Tf121_0) (vf98_0 : Tf98_0)  (α : Type) (k : List RV → Option α) : Fn83_0 (f83_0g vf121_0 vf98_0) α k = pa83_0.unc fun ds => fnM Try.prog (E83_0g vf121_0 vf98_0) sh83 (cm83_0g ) rs83 k ds := by kernel_rfl
theorem fm83_0 : ∀ (α : Type) (k : List RV → Option α), Fn83_0 f83_0 α k = pa83_0.unc fun ds => fnM Try.prog E83_0 sh83 cm83_0 rs83 k ds := fm83_0g f121_0 f98_0
theorem is83 : FnIs Try.prog 83 nt83 tr83 tl83 cm83_0.erase rs83 := ⟨Try.f83, Try.func83, rfl, by kernel_rfl, by kernel_rfl, by kernel_rfl⟩
theorem io83_0 : InstOk Try.prog 83 nt83 ⟨pa83_0, Fn83_0 f83_0⟩ := inst_ok eo83_0 followsTry is83 ⟨⟨sh83, cm83_0, by kernel_rfl, gm83_0, fm83_0⟩⟩
abbrev nt62 : Nat := 26
def sh62 : List (Nat × List Sh) := [(5, [.int .i64, .int .i64, .int .i64]), (12, [.int .i64]), (14, [.int .i64]), (16, [.int .i64]), (19, [.int .i64]), (21, [.int .i64]), (24, [.int .i64])]
def r62_2 : List AOper := [oO 1 (.box (.tmp 0)), oO 2 (.alloc [(cI 0), (cI 0), (cI 0), (cI 0), (cI 0), (cI 0), (cI 0), (cI 0), (cI 0), (cI 0)]), oO 3 (.mv (kI 0))]
def r62_5 : List AOper := [oO 5 (.load true 3 (.tmp 1)), oO 6 (.call 84 [(.tmp 5)]), oM 4 6]
def r62_7 : List AOper := [oM 7 4, oO 8 (.bin .neq 28 (.tmp 7) (kI 0))]
def r62_10 : List AOper := [oO 9 (.build [(cI 0), (cI 0), (cI 0), (cI 0), (cI 0), (cI 0), (cI 0), (cI 0), (cI 0), (cI 0)] []), oM 10 4, oD (.store 10 (.tmp 2) (.tmp 9)), oM 3 10]
def r62_12 : List AOper := [oO 11 (.faddr 2 (.tmp 1)), oO 12 (.load false 1 (.tmp 11)), oO 13 (.faddr 0 (.tmp 1)), oO 14 (.load false 1 (.tmp 13)), oO 15 (.faddr 1 (.tmp 1)), oO 16 (.load false 1 (.tmp 15)), oO 17 (.pure (oB (.unOp .neg 3 (.tmp 16)) 3)), oO 18 (.faddr 1 (.tmp 1)), oO 19 (.load false 1 (.tmp 18)), oO 20 (.faddr 0 (.tmp 1)), oO 21 (.load false 1 (.tmp 20)), oO 22 (.build [(cI 0), (cI 0), (cI 0), (cI 0), (cI 0), (cI 0), (cI 0), (cI 0), (cI 0)] [(0, 1, (.tmp 12)), (1, 1, (kI 0)), (2, 1, (kI 0)), (3, 1, (kI 0)), (4, 1, (.tmp 14)), (5, 1, (.tmp 17)), (6, 1, (kI 0)), (7, 1, (.tmp 19)), (8, 1, (.tmp 21))]), oO 23 (.faddr 2 (.tmp 1)), oO 24 (.load false 1 (.tmp 23)), oO 25 (.build [(cI 0), (cI 0), (cI 0), (cI 0), (cI 0), (cI 0), (cI 0), (cI 0), (cI 0), (cI 0)] [(0, 9, (.tmp 22)), (9, 1, (.tmp 24))]), oD (.store 10 (.tmp 2) (.tmp 25)), oO 3 (.mv (kI 0))]
def tr62 : List (Nat × Tidy) := [tT 0 [1, 2], tT 1 [1, 2, 4], tT 2 [1, 2, 4, 8], tT 3 [2, 3], tT 4 [2, 3]]
def tl62 : List (Nat × Tidy) := []
def rs62 : List AResV := [.cell 2 true 10, .tmp 3]
def pr62_0_0 : PT (List RV) := pRs [pR true [rD (dI .i64), rD (dI .i64), rD (dI .i64), rD (dI .i64), rD (dI .i64), rD (dI .i64), rD (dI .i64), rD (dI .i64), rD (dI .i64), rD (dI .i64)], pR false [rD (dI .i64)]]
def ur62_0_0 {β : Type} (g : List RV → β) : Int → Int → Int → Int → Int → Int → Int → Int → Int → Int → Int → β := pr62_0_0.unc g
def E62_0g (vf84_0 : Tf84_0) : EnvK := EnvK.of [⟨84, nt84, [⟨pa84_0, Fn84_0 vf84_0⟩]⟩] noSeq
noncomputable def E62_0 : EnvK := E62_0g f84_0
theorem eo62_0 : E62_0.Ok Try.prog := EnvK.of_ok noSeq_ok ⟨⟨io84_0, trivial⟩, trivial⟩
abbrev Tf62_0 : Type 1 := (α : Type) → Int → Int → Int → (Int → Int → Int → Int → Int → Int → Int → Option α) → Option α
def f62_0g (vf84_0 : Tf84_0) (α : Type) (x1 x2 x3 : Int) (k1 : Int → Int → Int → Int → Int → Int → Int → Option α) : Option α :=
 vf84_0 α x1 x2 x3
 (fun x4 => cK (x4 != 0)
 (k1 0 0 0 0 0 0 x4)
 (k1 x3 x1 (w64 (0 - x2)) x2 x1 x3 0))
noncomputable def f62_0 (α : Type) (x1 x2 x3 : Int) (k1 : Int → Int → Int → Int → Int → Int → Int → Option α) : Option α := f62_0g f84_0 α x1 x2 x3 k1
def pa62_0 : PT (List DV) := pA [pV true [(dI .i64), (dI .i64), (dI .i64)]]
def Fn62_0 (v : Tf62_0) (α : Type) (k : List RV → Option α) : Int → Int → Int → Option α := fun x1 x2 x3 => v α x1 x2 x3 (fun (y1 : Int) (y2 : Int) (y3 : Int) (y4 : Int) (y5 : Int) (y6 : Int) (y7 : Int) => ur62_0_0 k y1 0 0 0 y2 y3 0 y4 y5 y6 y7)
noncomputable def cm62_0g  : MCode := (.seq (.region r62_2 [] (tO [1, 2])) (.seq (.seq (.region r62_5 [] (tO [1, 2, 4])) (.seq (.region r62_7 [] (tO [1, 2, 4, 8])) (.cond (.tmp 8) (.seq (.region r62_10 [] (tO [2, 3])) .ret) .skip))) (.seq (.region r62_12 [] (tO [2, 3])) .ret)))
noncomputable def cm62_0 : MCode := cm62_0g 
theorem gm62_0 : cm62_0.Good Try.prog E62_0 sh62 := ⟨trivial, ⟨⟨trivial, ⟨trivial, ⟨⟨trivial, trivial⟩, trivial⟩⟩⟩, ⟨trivial, trivial⟩⟩⟩
theorem fm62_0g (vf84_0 : Tf84_0)  (α : Type) (k : List RV → Option α) : Fn62_0 (f62_0g vf84_0) α k = pa62_0.unc fun ds => fnM Try.prog (E62_0g vf84_0) sh62 (cm62_0g ) rs62 k ds := by kernel_rfl
theorem fm62_0 : ∀ (α : Type) (k : List RV → Option α), Fn62_0 f62_0 α k = pa62_0.unc fun ds => fnM Try.prog E62_0 sh62 cm62_0 rs62 k ds := fm62_0g f84_0
theorem is62 : FnIs Try.prog 62 nt62 tr62 tl62 cm62_0.erase rs62 := ⟨Try.f62, Try.func62, rfl, by kernel_rfl, by kernel_rfl, by kernel_rfl⟩
theorem io62_0 : InstOk Try.prog 62 nt62 ⟨pa62_0, Fn62_0 f62_0⟩ := inst_ok eo62_0 followsTry is62 ⟨⟨sh62, cm62_0, by kernel_rfl, gm62_0, fm62_0⟩⟩
abbrev nt59 : Nat := 18
def sh59 : List (Nat × List Sh) := [(5, [.int .i64]), (15, [.int .i64])]
def r59_2 : List AOper := [oO 1 (.box (.tmp 0)), oO 2 (.mv (kI 0))]
def r59_5 : List AOper := [oO 4 (.faddr 9 (.tmp 1)), oO 5 (.load false 1 (.tmp 4)), oO 6 (.call 29 [(.tmp 5), (kI 1), (kI 1000)]), oO 7 (.pure (oB (.unOp .not 4 (.tmp 6)) 4))]
def r59_8 : List AOper := [oO 2 (.mv (kI 2))]
def r59_11 : List AOper := [oO 3 (.mv (kI 0))]
def td59_13 : Option Tidy := (tO [1, 3])
def r59_16 : List AOper := [oM 8 3, oO 9 (.bin .lss 3 (.tmp 8) (kI 9))]
def r59_21 : List AOper := [oM 12 3, oO 13 (.faddr 0 (.tmp 1)), oO 14 (.iaddr 1 (some 9) (.tmp 13) (.tmp 12)), oO 15 (.load false 1 (.tmp 14)), oO 16 (.call 114 [(.tmp 15)]), oO 17 (.pure (oB (.unOp .not 4 (.tmp 16)) 4))]
def r59_24 : List AOper := [oO 2 (.mv (kI 2))]
def r59_25 : List AOper := [oM 10 3, oO 11 (.bin .add 3 (.tmp 10) (kI 1)), oM 3 11]
def r59_27 : List AOper := [oO 2 (.mv (kI 0))]
def tr59 : List (Nat × Tidy) := [tT 0 [1], tT 1 [1, 7], tT 2 [2], tT 3 [1, 3], tT 4 [1, 3, 9], tT 6 [1, 3, 17], tT 7 [2], tT 5 [1, 3], tT 8 [2]]
def tl59 : List (Nat × Tidy) := [tT 4 [1, 3]]
def rs59 : List AResV := [.tmp 2]
def p59_0_0 : PT St := pS [sl 1 (aV false [(cPtr 1 0)]), sl 3 (aV false [(cD (dI .i64))]), sl 9 (aV false [(cD dB)])] [eBox 1 [(cD (dI .i64)), (cD (dI .i64)), (cD (dI .i64)), (cD (dI .i64)), (cD (dI .i64)), (cD (dI .i64)), (cD (dI .i64)), (cD (dI .i64)), (cD (dI .i64)), (cD (dI .i64))]]
def u59_0_0 {β : Type} (g : St → β) : Int → Bool → Int → Int → Int → Int → Int → Int → Int → Int → Int → Int → β := p59_0_0.unc g
def p59_0_1 : PT St := pS [sl 1 (aV false [(cPtr 1 0)]), sl 3 (aV false [(cD (dI .i64))]), sl 17 (aV false [(cD dB)])] [eBox 1 [(cD (dI .i64)), (cD (dI .i64)), (cD (dI .i64)), (cD (dI .i64)), (cD (dI .i64)), (cD (dI .i64)), (cD (dI .i64)), (cD (dI .i64)), (cD (dI .i64)), (cD (dI .i64))]]
def u59_0_1 {β : Type} (g : St → β) : Int → Bool → Int → Int → Int → Int → Int → Int → Int → Int → Int → Int → β := p59_0_1.unc g
def p59_0_2 : PT St := pS [sl 1 (aV false [(cPtr 1 0)]), sl 3 (aV false [(cD (dI .i64))])] [eBox 1 [(cD (dI .i64)), (cD (dI .i64)), (cD (dI .i64)), (cD (dI .i64)), (cD (dI .i64)), (cD (dI .i64)), (cD (dI .i64)), (cD (dI .i64)), (cD (dI .i64)), (cD (dI .i64))]]
def u59_0_2 {β : Type} (g : St → β) : Int → Int → Int → Int → Int → Int → Int → Int → Int → Int → Int → β := p59_0_2.unc g
def p59_0_3 : PT St := pS [sl 2 (aV false [(cD (dI .i64))])] []
def u59_0_3 {β : Type} (g : St → β) : Int → β := p59_0_3.unc g
def pr59_0_0 : PT (List RV) := pRs [pR false [rD (dI .i64)]]
def ur59_0_0 {β : Type} (g : List RV → β) : Int → β := pr59_0_0.unc g
def E59_0g (vf29_0 : Tf29_0) (vf114_0 : Tf114_0) : EnvK := EnvK.of [⟨29, nt29, [⟨pa29_0, Fn29_0 vf29_0⟩]⟩, ⟨114, nt114, [⟨pa114_0, Fn114_0 vf114_0⟩]⟩] noSeq
noncomputable def E59_0 : EnvK := E59_0g f29_0 f114_0
theorem eo59_0 : E59_0.Ok Try.prog := EnvK.of_ok noSeq_ok ⟨⟨io29_0, trivial⟩, ⟨io114_0, trivial⟩, trivial⟩
noncomputable def c59_0_20g  : MCode := (.region r59_21 [] (tO [1, 3, 17]))
noncomputable def c59_0_20 : MCode := c59_0_20g 
theorem g59_0_20 : c59_0_20.Good Try.prog E59_0 sh59 := trivial
--CODE 20 0
abbrev TJ59_0_0 : Type 1 := (α : Type) → Int → Int → Int → Int → Int → Int → Int → Int → Int → Int → (Bool → Option α) → Option α
def J59_0_0g (vf114_0 : Tf114_0) (α : Type) (x24 x26 x27 x28 x29 x30 x31 x32 x33 x34 : Int) (k1 : Bool → Option α) : Option α :=
 cK (x24 == 8)
 (vf114_0 α x34
 (fun x37 => k1 (!x37)))
 (cK (x24 == 7)
 (vf114_0 α x33
 (fun x38 => k1 (!x38)))
 (cK (x24 == 6)
 (vf114_0 α x32
 (fun x39 => k1 (!x39)))
 (cK (x24 == 5)
 (vf114_0 α x31
 (fun x40 => k1 (!x40)))
 (cK (x24 == 4)
 (vf114_0 α x30
 (fun x41 => k1 (!x41)))
 (cK (x24 == 3)
 (vf114_0 α x29
 (fun x42 => k1 (!x42)))
 (cK (x24 == 2)
 (vf114_0 α x28
 (fun x43 => k1 (!x43)))
 (cK (x24 == 1)
 (vf114_0 α x27
 (fun x44 => k1 (!x44)))
 (cK (x24 == 0)
 (vf114_0 α x26
 (fun x45 => k1 (!x45)))
 (none)))))))))
noncomputable def J59_0_0 (α : Type) (x24 x26 x27 x28 x29 x30 x31 x32 x33 x34 : Int) (k1 : Bool → Option α) : Option α := J59_0_0g f114_0 α x24 x26 x27 x28 x29 x30 x31 x32 x33 x34 k1
def F59_0_0 (v : TJ59_0_0) (α : Type) (K : Exit → St → Option α) : Int → Bool → Int → Int → Int → Int → Int → Int → Int → Int → Int → Int → Option α := fun x24 x25 x26 x27 x28 x29 x30 x31 x32 x33 x34 x35 => v α x24 x26 x27 x28 x29 x30 x31 x32 x33 x34 (fun (y1 : Bool) => u59_0_1 (K .normal) x24 y1 x26 x27 x28 x29 x30 x31 x32 x33 x34 x35) 
theorem m59_0_0g (vf29_0 : Tf29_0) (vf114_0 : Tf114_0)  (α : Type) (K : Exit → St → Option α) : F59_0_0 (J59_0_0g vf114_0) α K = p59_0_0.unc fun σ => runM Try.prog (E59_0g vf29_0 vf114_0) sh59 (c59_0_20g ) K σ := by kernel_rfl
theorem m59_0_0 : ∀ (α : Type) (K : Exit → St → Option α), F59_0_0 J59_0_0 α K = p59_0_0.unc fun σ => runM Try.prog E59_0 sh59 c59_0_20 K σ := m59_0_0g f29_0 f114_0
noncomputable def c59_0_13g (vJ59_0_0 : TJ59_0_0) : MCode := (.seq (.seq (.region r59_16 [] (tO [1, 3, 9])) (.cond (.tmp 9) .skip (.exit 0))) (.seq (.block 1 (.seq (.mark [⟨p59_0_0, F59_0_0 vJ59_0_0⟩] c59_0_20) (.cond (.tmp 17) (.seq (.region r59_24 [] (tO [2])) .ret) .skip))) (.region r59_25 [] (tO [1, 3]))))
noncomputable def c59_0_13 : MCode := c59_0_13g J59_0_0
theorem g59_0_13 : c59_0_13.Good Try.prog E59_0 sh59 := ⟨⟨trivial, ⟨trivial, trivial⟩⟩, ⟨⟨⟨g59_0_20, m59_0_0, trivial⟩, ⟨⟨trivial, trivial⟩, trivial⟩⟩, trivial⟩⟩
--CODE 13 0
def S59_0_1g (vJ59_0_0 : TJ59_0_0) (α : Type) (x13 x14 x15 x16 x17 x18 x19 x20 x21 x12 : Int) (kn : Int → Option α) (k1 : Option α) (k2 : Int → Bool → Option α) : Option α :=
 cK (decide (x12 < 9))
 (vJ59_0_0 α x12 x13 x14 x15 x16 x17 x18 x19 x20 x21
 (fun x46 => cK x46
 (k1)
 (kn (w64 (x12 + 1)))))
 (k2 x12 (decide (x12 < 9)))
noncomputable def S59_0_1 (α : Type) (x13 x14 x15 x16 x17 x18 x19 x20 x21 x12 : Int) (kn : Int → Option α) (k1 : Option α) (k2 : Int → Bool → Option α) : Option α := S59_0_1g J59_0_0 α x13 x14 x15 x16 x17 x18 x19 x20 x21 x12 kn k1 k2
noncomputable def R59_0_1 (α : Type) (x13 x14 x15 x16 x17 x18 x19 x20 x21 : Int) (k1 : Option α) (k2 : Int → Bool → Option α) : Nat → Int → Option α
 | 0, _ => none
 | n + 1, x12 => S59_0_1 α x13 x14 x15 x16 x17 x18 x19 x20 x21 x12 (R59_0_1 α x13 x14 x15 x16 x17 x18 x19 x20 x21 k1 k2 n) k1 k2
noncomputable def L59_0_1 (α : Type) (x13 x14 x15 x16 x17 x18 x19 x20 x21 : Int) (k1 : Option α) (k2 : Int → Bool → Option α) (x12 : Int) : Option α := R59_0_1 α x13 x14 x15 x16 x17 x18 x19 x20 x21 k1 k2 fuel x12
abbrev TL59_0_1 : Type 1 := (α : Type) → Int → Int → Int → Int → Int → Int → Int → Int → Int → (Option α) → (Int → Bool → Option α) → Int → Option α
def F59_0_1 (v : TL59_0_1) (α : Type) (K : Exit → St → Option α) : Int → Int → Int → Int → Int → Int → Int → Int → Int → Int → Int → Option α := fun x12 x13 x14 x15 x16 x17 x18 x19 x20 x21 x22 => v α x13 x14 x15 x16 x17 x18 x19 x20 x21 (u59_0_3 (K .ret) 2) (fun (y1 : Int) (y2 : Bool) => u59_0_0 (K (.exit 0)) y1 y2 x13 x14 x15 x16 x17 x18 x19 x20 x21 x22) x12
theorem r59_0_1g (vf29_0 : Tf29_0) (vf114_0 : Tf114_0) (vJ59_0_0 : TJ59_0_0) (α : Type) (K : Exit → St → Option α) (Kn : St → Option α) (x12 x13 x14 x15 x16 x17 x18 x19 x20 x21 x22 : Int) : u59_0_2 (fun σ => runM Try.prog (E59_0g vf29_0 vf114_0) sh59 (c59_0_13g vJ59_0_0) (thenK (fun σ => tidyK td59_13 σ Kn) K) σ) x12 x13 x14 x15 x16 x17 x18 x19 x20 x21 x22 = S59_0_1g vJ59_0_0 α x13 x14 x15 x16 x17 x18 x19 x20 x21 x12 (fun x12 => u59_0_2 Kn x12 x13 x14 x15 x16 x17 x18 x19 x20 x21 x22) (u59_0_3 (K .ret) 2) (fun (y1 : Int) (y2 : Bool) => u59_0_0 (K (.exit 0)) y1 y2 x13 x14 x15 x16 x17 x18 x19 x20 x21 x22) := by kernel_rfl
theorem r59_0_1 (α : Type) (K : Exit → St → Option α) (Kn : St → Option α) (x12 x13 x14 x15 x16 x17 x18 x19 x20 x21 x22 : Int) : u59_0_2 (fun σ => runM Try.prog E59_0 sh59 c59_0_13 (thenK (fun σ => tidyK td59_13 σ Kn) K) σ) x12 x13 x14 x15 x16 x17 x18 x19 x20 x21 x22 = S59_0_1 α x13 x14 x15 x16 x17 x18 x19 x20 x21 x12 (fun x12 => u59_0_2 Kn x12 x13 x14 x15 x16 x17 x18 x19 x20 x21 x22) (u59_0_3 (K .ret) 2) (fun (y1 : Int) (y2 : Bool) => u59_0_0 (K (.exit 0)) y1 y2 x13 x14 x15 x16 x17 x18 x19 x20 x21 x22) := r59_0_1g f29_0 f114_0 J59_0_0 α K Kn x12 x13 x14 x15 x16 x17 x18 x19 x20 x21 x22
theorem t59_0_1 (α : Type) (K : Exit → St → Option α) : ∀ (n : Nat) (x12 x13 x14 x15 x16 x17 x18 x19 x20 x21 x22 : Int), R59_0_1 α x13 x14 x15 x16 x17 x18 x19 x20 x21 (u59_0_3 (K .ret) 2) (fun (y1 : Int) (y2 : Bool) => u59_0_0 (K (.exit 0)) y1 y2 x13 x14 x15 x16 x17 x18 x19 x20 x21 x22) n x12 = u59_0_2 (loopT (runM Try.prog E59_0 sh59 c59_0_13) td59_13 K n) x12 x13 x14 x15 x16 x17 x18 x19 x20 x21 x22 := by
 intro n
 induction n with
 | zero => intros; rfl
 | succ n ih => intro x12 x13 x14 x15 x16 x17 x18 x19 x20 x21 x22; exact (congrArg (fun kn => S59_0_1 α x13 x14 x15 x16 x17 x18 x19 x20 x21 x12 kn (u59_0_3 (K .ret) 2) (fun (y1 : Int) (y2 : Bool) => u59_0_0 (K (.exit 0)) y1 y2 x13 x14 x15 x16 x17 x18 x19 x20 x21 x22)) (funext fun x12 => ih x12 x13 x14 x15 x16 x17 x18 x19 x20 x21 x22)).trans (r59_0_1 α K (loopT (runM Try.prog E59_0 sh59 c59_0_13) td59_13 K n) x12 x13 x14 x15 x16 x17 x18 x19 x20 x21 x22).symm
theorem m59_0_1 : ∀ (α : Type) (K : Exit → St → Option α), F59_0_1 L59_0_1 α K = p59_0_2.unc fun σ => loopT (runM Try.prog E59_0 sh59 c59_0_13) td59_13 K fuel σ := fun α K => funext fun x12 => funext fun x13 => funext fun x14 => funext fun x15 => funext fun x16 => funext fun x17 => funext fun x18 => funext fun x19 => funext fun x20 => funext fun x21 => funext fun x22 => t59_0_1 α K fuel x12 x13 x14 x15 x16 x17 x18 x19 x20 x21 x22
abbrev Tf59_0 : Type 1 := (α : Type) → Int → Int → Int → Int → Int → Int → Int → Int → Int → Int → (Int → Option α) → Option α
def f59_0g (vL59_0_1 : TL59_0_1) (vf29_0 : Tf29_0) (α : Type) (x1 x2 x3 x4 x5 x6 x7 x8 x9 x10 : Int) (k1 : Int → Option α) : Option α :=
 vf29_0 α x10 1 1000
 (fun x11 => cK (!x11)
 (k1 2)
 (vL59_0_1 α x1 x2 x3 x4 x5 x6 x7 x8 x9
 (k1 2)
 (fun x48 x49 => k1 0) 0))
noncomputable def f59_0 (α : Type) (x1 x2 x3 x4 x5 x6 x7 x8 x9 x10 : Int) (k1 : Int → Option α) : Option α := f59_0g L59_0_1 f29_0 α x1 x2 x3 x4 x5 x6 x7 x8 x9 x10 k1
def pa59_0 : PT (List DV) := pA [pV true [(dI .i64), (dI .i64), (dI .i64), (dI .i64), (dI .i64), (dI .i64), (dI .i64), (dI .i64), (dI .i64), (dI .i64)]]
def Fn59_0 (v : Tf59_0) (α : Type) (k : List RV → Option α) : Int → Int → Int → Int → Int → Int → Int → Int → Int → Int → Option α := fun x1 x2 x3 x4 x5 x6 x7 x8 x9 x10 => v α x1 x2 x3 x4 x5 x6 x7 x8 x9 x10 (fun (y1 : Int) => ur59_0_0 k y1)
noncomputable def cm59_0g (vL59_0_1 : TL59_0_1) : MCode := (.seq (.region r59_2 [] (tO [1])) (.seq (.seq (.region r59_5 [] (tO [1, 7])) (.cond (.tmp 7) (.seq (.region r59_8 [] (tO [2])) .ret) .skip)) (.seq (.seq (.region r59_11 [] (tO [1, 3])) (.block 0 (.loop td59_13 [⟨p59_0_2, F59_0_1 vL59_0_1⟩] c59_0_13))) (.seq (.region r59_27 [] (tO [2])) .ret))))
noncomputable def cm59_0 : MCode := cm59_0g L59_0_1
theorem gm59_0 : cm59_0.Good Try.prog E59_0 sh59 := ⟨trivial, ⟨⟨trivial, ⟨⟨trivial, trivial⟩, trivial⟩⟩, ⟨⟨trivial, ⟨g59_0_13, m59_0_1, trivial⟩⟩, ⟨trivial, trivial⟩⟩⟩⟩
theorem fm59_0g (vf29_0 : Tf29_0) (vf114_0 : Tf114_0) (vL59_0_1 : TL59_0_1) (α : Type) (k : List RV → Option α) : Fn59_0 (f59_0g vL59_0_1 vf29_0) α k = pa59_0.unc fun ds => fnM Try.prog (E59_0g vf29_0 vf114_0) sh59 (cm59_0g vL59_0_1) rs59 k ds := by kernel_rfl
theorem fm59_0 : ∀ (α : Type) (k : List RV → Option α), Fn59_0 f59_0 α k = pa59_0.unc fun ds => fnM Try.prog E59_0 sh59 cm59_0 rs59 k ds := fm59_0g f29_0 f114_0 L59_0_1
theorem is59 : FnIs Try.prog 59 nt59 tr59 tl59 cm59_0.erase rs59 := ⟨Try.f59, Try.func59, rfl, by kernel_rfl, by kernel_rfl, by kernel_rfl⟩
theorem io59_0 : InstOk Try.prog 59 nt59 ⟨pa59_0, Fn59_0 f59_0⟩ := inst_ok eo59_0 followsTry is59 ⟨⟨sh59, cm59_0, by kernel_rfl, gm59_0, fm59_0⟩⟩
abbrev nt113 : Nat := 5
def sh113 : List (Nat × List Sh) := []
def r113_2 : List AOper := [oO 2 (.mv (.const (.bool false)))]
def r113_4 : List AOper := [oM 3 0, oO 4 (.call 109 [(.tmp 3), (kI 1000)]), oM 2 4]
def tr113 : List (Nat × Tidy) := [tT 0 [0], tT 1 [2]]
def tl113 : List (Nat × Tidy) := []
def rs113 : List AResV := [.tmp 2]
def pr113_0_0 : PT (List RV) := pRs [pR false [rD dB]]
def ur113_0_0 {β : Type} (g : List RV → β) : Bool → β := pr113_0_0.unc g
def E113_0g (vf109_0 : Tf109_0) : EnvK := EnvK.of [⟨109, nt109, [⟨pa109_0, Fn109_0 vf109_0⟩]⟩] noSeq
noncomputable def E113_0 : EnvK := E113_0g f109_0
theorem eo113_0 : E113_0.Ok Try.prog := EnvK.of_ok noSeq_ok ⟨⟨io109_0, trivial⟩, trivial⟩
abbrev Tf113_0 : Type 1 := (α : Type) → Int → (Bool → Option α) → Option α
def f113_0g (vf109_0 : Tf109_0) (α : Type) (x1 : Int) (k1 : Bool → Option α) : Option α :=
 vf109_0 α x1 1000
 (fun x2 => k1 x2)
noncomputable def f113_0 (α : Type) (x1 : Int) (k1 : Bool → Option α) : Option α := f113_0g f109_0 α x1 k1
def pa113_0 : PT (List DV) := pA [pV false [(dI .i64)]]
def Fn113_0 (v : Tf113_0) (α : Type) (k : List RV → Option α) : Int → Option α := fun x1 => v α x1 (fun (y1 : Bool) => ur113_0_0 k y1)
noncomputable def cm113_0g  : MCode := (.seq (.region r113_2 [] (tO [0])) (.seq (.region r113_4 [] (tO [2])) .ret))
noncomputable def cm113_0 : MCode := cm113_0g 
theorem gm113_0 : cm113_0.Good Try.prog E113_0 sh113 := ⟨trivial, ⟨trivial, trivial⟩⟩
theorem fm113_0g (vf109_0 : Tf109_0)  (α : Type) (k : List RV → Option α) : Fn113_0 (f113_0g vf109_0) α k = pa113_0.unc fun ds => fnM Try.prog (E113_0g vf109_0) sh113 (cm113_0g ) rs113 k ds := by kernel_rfl
theorem fm113_0 : ∀ (α : Type) (k : List RV → Option α), Fn113_0 f113_0 α k = pa113_0.unc fun ds => fnM Try.prog E113_0 sh113 cm113_0 rs113 k ds := fm113_0g f109_0
theorem is113 : FnIs Try.prog 113 nt113 tr113 tl113 cm113_0.erase rs113 := ⟨Try.f113, Try.func113, rfl, by kernel_rfl, by kernel_rfl, by kernel_rfl⟩
theorem io113_0 : InstOk Try.prog 113 nt113 ⟨pa113_0, Fn113_0 f113_0⟩ := inst_ok eo113_0 followsTry is113 ⟨⟨sh113, cm113_0, by kernel_rfl, gm113_0, fm113_0⟩⟩
abbrev nt49 : Nat := 45
def sh49 : List (Nat × List Sh) := [(7, [.str]), (9, [.int .i64]), (11, [.int .i64, .int .i64]), (16, [.str, .int .i64, .int .i64, .int .i64, .int .i64, .int .i64, .int .i64, .int .i64, .int .i64, .int .i64]), (25, [.int .i64]), (32, [.int .i64]), (39, [.int .i64]), (43, [.int .i64])]
def r49_2 : List AOper := [oO 1 (.box (.tmp 0)), oO 2 (.mv (kI 0))]
def r49_5 : List AOper := [oO 6 (.faddr 0 (.tmp 1)), oO 7 (.load false 1 (.tmp 6)), oO 8 (.faddr 1 (.tmp 1)), oO 9 (.load false 1 (.tmp 8)), oO 10 (.faddr 2 (.tmp 1)), oO 11 (.load true 2 (.tmp 10)), oO 12 (.call 91 [(.tmp 7), (.tmp 9), (.tmp 11)]), oM 3 12]
def r49_7 : List AOper := [oM 13 3, oO 14 (.bin .neq 3 (.tmp 13) (kI 0))]
def r49_10 : List AOper := [oM 15 3, oM 2 15]
def r49_12 : List AOper := [oO 16 (.load true 10 (.tmp 1)), oO 17 (.call 103 [(.tmp 16)]), oO 4 (.alloc [(cI 0), (cI 0), (cI 0), (cI 0), (cI 0), (cI 0)]), oD (.store 6 (.tmp 4) (.tmp 17))]
def r49_15 : List AOper := [oO 5 (.mv (kI 0))]
def td49_17 : Option Tidy := (tO [4, 5])
def r49_20 : List AOper := [oM 18 5, oO 19 (.bin .lss 3 (.tmp 18) (kI 3))]
def r49_26 : List AOper := [oM 22 5, oO 23 (.iaddr 2 (some 3) (.tmp 4) (.tmp 22)), oO 24 (.faddr 0 (.tmp 23)), oO 25 (.load false 1 (.tmp 24)), oO 26 (.call 29 [(.tmp 25), (kI (-1048576)), (kI 1048576)]), oO 27 (.pure (oB (.unOp .not 4 (.tmp 26)) 4)), oM 28 27, oG 29 (.mv (.tmp 5)) 28 false, oG 30 (.iaddr 2 (some 3) (.tmp 4) (.tmp 29)) 28 false, oG 31 (.faddr 1 (.tmp 30)) 28 false, oG 32 (.load false 1 (.tmp 31)) 28 false, oG 33 (.call 29 [(.tmp 32), (kI (-1048576)), (kI 1048576)]) 28 false, oG 34 (.pure (oB (.unOp .not 4 (.tmp 33)) 4)) 28 false, oO 35 (.pick (.tmp 28) (.const (.bool true)) (.tmp 34))]
def r49_29 : List AOper := [oO 2 (.mv (kI 2))]
def r49_31 : List AOper := [oM 36 5, oO 37 (.iaddr 2 (some 3) (.tmp 4) (.tmp 36)), oO 38 (.faddr 0 (.tmp 37)), oO 39 (.load false 1 (.tmp 38)), oM 40 5, oO 41 (.iaddr 2 (some 3) (.tmp 4) (.tmp 40)), oO 42 (.faddr 1 (.tmp 41)), oO 43 (.load false 1 (.tmp 42)), oO 44 (.bin .gtr 3 (.tmp 39) (.tmp 43))]
def r49_34 : List AOper := [oO 2 (.mv (kI 10))]
def r49_35 : List AOper := [oM 20 5, oO 21 (.bin .add 3 (.tmp 20) (kI 1)), oM 5 21]
def r49_37 : List AOper := [oO 2 (.mv (kI 0))]
def tr49 : List (Nat × Tidy) := [tT 0 [1], tT 1 [1, 3], tT 2 [1, 3, 14], tT 3 [2], tT 4 [4], tT 5 [4, 5], tT 6 [4, 5, 19], tT 8 [4, 5, 35], tT 9 [2], tT 10 [4, 5, 44], tT 11 [2], tT 7 [4, 5], tT 12 [2]]
def tl49 : List (Nat × Tidy) := [tT 6 [4, 5]]
def rs49 : List AResV := [.tmp 2]
def p49_0_0 : PT St := pS [sl 4 (aV false [(cPtr 4 0)]), sl 5 (aV false [(cD (dI .i64))]), sl 19 (aV false [(cD dB)])] [eBox 4 [(cD (dI .i64)), (cD (dI .i64)), (cD (dI .i64)), (cD (dI .i64)), (cD (dI .i64)), (cD (dI .i64))]]
def u49_0_0 {β : Type} (g : St → β) : Int → Bool → Int → Int → Int → Int → Int → Int → β := p49_0_0.unc g
def p49_0_1 : PT St := pS [sl 4 (aV false [(cPtr 4 0)]), sl 5 (aV false [(cD (dI .i64))]), sl 35 (aV false [(cD dB)])] [eBox 4 [(cD (dI .i64)), (cD (dI .i64)), (cD (dI .i64)), (cD (dI .i64)), (cD (dI .i64)), (cD (dI .i64))]]
def u49_0_1 {β : Type} (g : St → β) : Int → Bool → Int → Int → Int → Int → Int → Int → β := p49_0_1.unc g
def p49_0_2 : PT St := pS [sl 4 (aV false [(cPtr 4 0)]), sl 5 (aV false [(cD (dI .i64))]), sl 44 (aV false [(cD dB)])] [eBox 4 [(cD (dI .i64)), (cD (dI .i64)), (cD (dI .i64)), (cD (dI .i64)), (cD (dI .i64)), (cD (dI .i64))]]
def u49_0_2 {β : Type} (g : St → β) : Int → Bool → Int → Int → Int → Int → Int → Int → β := p49_0_2.unc g
def p49_0_3 : PT St := pS [sl 4 (aV false [(cPtr 4 0)]), sl 5 (aV false [(cD (dI .i64))])] [eBox 4 [(cD (dI .i64)), (cD (dI .i64)), (cD (dI .i64)), (cD (dI .i64)), (cD (dI .i64)), (cD (dI .i64))]]
def u49_0_3 {β : Type} (g : St → β) : Int → Int → Int → Int → Int → Int → Int → β := p49_0_3.unc g
def p49_0_4 : PT St := pS [sl 2 (aV false [(cD (dI .i64))])] []
def u49_0_4 {β : Type} (g : St → β) : Int → β := p49_0_4.unc g
def pr49_0_0 : PT (List RV) := pRs [pR false [rD (dI .i64)]]
def ur49_0_0 {β : Type} (g : List RV → β) : Int → β := pr49_0_0.unc g
def E49_0g (vf91_0 : Tf91_0) (vf103_0 : Tf103_0) (vf29_0 : Tf29_0) : EnvK := EnvK.of [⟨91, nt91, [⟨pa91_0, Fn91_0 vf91_0⟩]⟩, ⟨103, nt103, [⟨pa103_0, Fn103_0 vf103_0⟩]⟩, ⟨29, nt29, [⟨pa29_0, Fn29_0 vf29_0⟩]⟩] noSeq
noncomputable def E49_0 : EnvK := E49_0g f91_0 f103_0 f29_0
theorem eo49_0 : E49_0.Ok Try.prog := EnvK.of_ok noSeq_ok ⟨⟨io91_0, trivial⟩, ⟨io103_0, trivial⟩, ⟨io29_0, trivial⟩, trivial⟩
noncomputable def c49_0_30g  : MCode := (.region r49_31 [] (tO [4, 5, 44]))
noncomputable def c49_0_30 : MCode := c49_0_30g 
theorem g49_0_30 : c49_0_30.Good Try.prog E49_0 sh49 := trivial
--CODE 30 0
abbrev TJ49_0_1 : Type 1 := (α : Type) → Int → Int → Int → Int → Int → Int → Int → (Bool → Option α) → Option α
def J49_0_1g  (α : Type) (x49 x51 x52 x53 x54 x55 x56 : Int) (k1 : Bool → Option α) : Option α :=
 cK (x49 == 2)
 (cK (x49 == 2)
 (k1 (decide (x56 < x55)))
 (cK (x49 == 1)
 (k1 (decide (x54 < x55)))
 (cK (x49 == 0)
 (k1 (decide (x52 < x55)))
 (none))))
 (cK (x49 == 1)
 (cK (x49 == 2)
 (k1 (decide (x56 < x53)))
 (cK (x49 == 1)
 (k1 (decide (x54 < x53)))
 (cK (x49 == 0)
 (k1 (decide (x52 < x53)))
 (none))))
 (cK (x49 == 0)
 (cK (x49 == 2)
 (k1 (decide (x56 < x51)))
 (cK (x49 == 1)
 (k1 (decide (x54 < x51)))
 (cK (x49 == 0)
 (k1 (decide (x52 < x51)))
 (none))))
 (none)))
noncomputable def J49_0_1 (α : Type) (x49 x51 x52 x53 x54 x55 x56 : Int) (k1 : Bool → Option α) : Option α := J49_0_1g  α x49 x51 x52 x53 x54 x55 x56 k1
def F49_0_1 (v : TJ49_0_1) (α : Type) (K : Exit → St → Option α) : Int → Bool → Int → Int → Int → Int → Int → Int → Option α := fun x49 x50 x51 x52 x53 x54 x55 x56 => v α x49 x51 x52 x53 x54 x55 x56 (fun (y1 : Bool) => u49_0_2 (K .normal) x49 y1 x51 x52 x53 x54 x55 x56) 
theorem m49_0_1g (vf91_0 : Tf91_0) (vf103_0 : Tf103_0) (vf29_0 : Tf29_0)  (α : Type) (K : Exit → St → Option α) : F49_0_1 (J49_0_1g ) α K = p49_0_1.unc fun σ => runM Try.prog (E49_0g vf91_0 vf103_0 vf29_0) sh49 (c49_0_30g ) K σ := by kernel_rfl
theorem m49_0_1 : ∀ (α : Type) (K : Exit → St → Option α), F49_0_1 J49_0_1 α K = p49_0_1.unc fun σ => runM Try.prog E49_0 sh49 c49_0_30 K σ := m49_0_1g f91_0 f103_0 f29_0
noncomputable def c49_0_25g  : MCode := (.region r49_26 [] (tO [4, 5, 35]))
noncomputable def c49_0_25 : MCode := c49_0_25g 
theorem g49_0_25 : c49_0_25.Good Try.prog E49_0 sh49 := trivial
--CODE 25 0
abbrev TJ49_0_0 : Type 1 := (α : Type) → Int → Int → Int → Int → Int → Int → Int → (Bool → Option α) → Option α
def J49_0_0g (vf29_0 : Tf29_0) (α : Type) (x26 x28 x29 x30 x31 x32 x33 : Int) (k1 : Bool → Option α) : Option α :=
 cK (x26 == 2)
 (vf29_0 α x32 (-1048576) 1048576
 (fun x35 => cK (!x35)
 (k1 true)
 (cK (x26 == 2)
 (vf29_0 α x33 (-1048576) 1048576
 (fun x36 => k1 (!x36)))
 (cK (x26 == 1)
 (vf29_0 α x31 (-1048576) 1048576
 (fun x37 => k1 (!x37)))
 (cK (x26 == 0)
 (vf29_0 α x29 (-1048576) 1048576
 (fun x38 => k1 (!x38)))
 (none))))))
 (cK (x26 == 1)
 (vf29_0 α x30 (-1048576) 1048576
 (fun x39 => cK (!x39)
 (k1 true)
 (cK (x26 == 2)
 (vf29_0 α x33 (-1048576) 1048576
 (fun x40 => k1 (!x40)))
 (cK (x26 == 1)
 (vf29_0 α x31 (-1048576) 1048576
 (fun x41 => k1 (!x41)))
 (cK (x26 == 0)
 (vf29_0 α x29 (-1048576) 1048576
 (fun x42 => k1 (!x42)))
 (none))))))
 (cK (x26 == 0)
 (vf29_0 α x28 (-1048576) 1048576
 (fun x43 => cK (!x43)
 (k1 true)
 (cK (x26 == 2)
 (vf29_0 α x33 (-1048576) 1048576
 (fun x44 => k1 (!x44)))
 (cK (x26 == 1)
 (vf29_0 α x31 (-1048576) 1048576
 (fun x45 => k1 (!x45)))
 (cK (x26 == 0)
 (vf29_0 α x29 (-1048576) 1048576
 (fun x46 => k1 (!x46)))
 (none))))))
 (none)))
noncomputable def J49_0_0 (α : Type) (x26 x28 x29 x30 x31 x32 x33 : Int) (k1 : Bool → Option α) : Option α := J49_0_0g f29_0 α x26 x28 x29 x30 x31 x32 x33 k1
def F49_0_0 (v : TJ49_0_0) (α : Type) (K : Exit → St → Option α) : Int → Bool → Int → Int → Int → Int → Int → Int → Option α := fun x26 x27 x28 x29 x30 x31 x32 x33 => v α x26 x28 x29 x30 x31 x32 x33 (fun (y1 : Bool) => u49_0_1 (K .normal) x26 y1 x28 x29 x30 x31 x32 x33) 
theorem m49_0_0g (vf91_0 : Tf91_0) (vf103_0 : Tf103_0) (vf29_0 : Tf29_0)  (α : Type) (K : Exit → St → Option α) : F49_0_0 (J49_0_0g vf29_0) α K = p49_0_0.unc fun σ => runM Try.prog (E49_0g vf91_0 vf103_0 vf29_0) sh49 (c49_0_25g ) K σ := by kernel_rfl
theorem m49_0_0 : ∀ (α : Type) (K : Exit → St → Option α), F49_0_0 J49_0_0 α K = p49_0_0.unc fun σ => runM Try.prog E49_0 sh49 c49_0_25 K σ := m49_0_0g f91_0 f103_0 f29_0
noncomputable def c49_0_17g (vJ49_0_0 : TJ49_0_0) (vJ49_0_1 : TJ49_0_1) : MCode := (.seq (.seq (.region r49_20 [] (tO [4, 5, 19])) (.cond (.tmp 19) .skip (.exit 0))) (.seq (.block 1 (.seq (.seq (.mark [⟨p49_0_0, F49_0_0 vJ49_0_0⟩] c49_0_25) (.cond (.tmp 35) (.seq (.region r49_29 [] (tO [2])) .ret) .skip)) (.seq (.mark [⟨p49_0_1, F49_0_1 vJ49_0_1⟩] c49_0_30) (.cond (.tmp 44) (.seq (.region r49_34 [] (tO [2])) .ret) .skip)))) (.region r49_35 [] (tO [4, 5]))))
noncomputable def c49_0_17 : MCode := c49_0_17g J49_0_0 J49_0_1
theorem g49_0_17 : c49_0_17.Good Try.prog E49_0 sh49 := ⟨⟨trivial, ⟨trivial, trivial⟩⟩, ⟨⟨⟨⟨g49_0_25, m49_0_0, trivial⟩, ⟨⟨trivial, trivial⟩, trivial⟩⟩, ⟨⟨g49_0_30, m49_0_1, trivial⟩, ⟨⟨trivial, trivial⟩, trivial⟩⟩⟩, trivial⟩⟩
--CODE 17 0
def S49_0_2g (vJ49_0_0 : TJ49_0_0) (vJ49_0_1 : TJ49_0_1) (α : Type) (x19 x20 x21 x22 x23 x24 x18 : Int) (kn : Int → Option α) (k1 : Int → Option α) (k2 : Int → Bool → Option α) : Option α :=
 cK (decide (x18 < 3))
 (vJ49_0_0 α x18 x19 x20 x21 x22 x23 x24
 (fun x47 => cK x47
 (k1 2)
 (vJ49_0_1 α x18 x19 x20 x21 x22 x23 x24
 (fun x58 => cK x58
 (k1 10)
 (kn (w64 (x18 + 1)))))))
 (k2 x18 (decide (x18 < 3)))
noncomputable def S49_0_2 (α : Type) (x19 x20 x21 x22 x23 x24 x18 : Int) (kn : Int → Option α) (k1 : Int → Option α) (k2 : Int → Bool → Option α) : Option α := S49_0_2g J49_0_0 J49_0_1 α x19 x20 x21 x22 x23 x24 x18 kn k1 k2
noncomputable def R49_0_2 (α : Type) (x19 x20 x21 x22 x23 x24 : Int) (k1 : Int → Option α) (k2 : Int → Bool → Option α) : Nat → Int → Option α
 | 0, _ => none
 | n + 1, x18 => S49_0_2 α x19 x20 x21 x22 x23 x24 x18 (R49_0_2 α x19 x20 x21 x22 x23 x24 k1 k2 n) k1 k2
noncomputable def L49_0_2 (α : Type) (x19 x20 x21 x22 x23 x24 : Int) (k1 : Int → Option α) (k2 : Int → Bool → Option α) (x18 : Int) : Option α := R49_0_2 α x19 x20 x21 x22 x23 x24 k1 k2 fuel x18
abbrev TL49_0_2 : Type 1 := (α : Type) → Int → Int → Int → Int → Int → Int → (Int → Option α) → (Int → Bool → Option α) → Int → Option α
def F49_0_2 (v : TL49_0_2) (α : Type) (K : Exit → St → Option α) : Int → Int → Int → Int → Int → Int → Int → Option α := fun x18 x19 x20 x21 x22 x23 x24 => v α x19 x20 x21 x22 x23 x24 (fun (y1 : Int) => u49_0_4 (K .ret) y1) (fun (y1 : Int) (y2 : Bool) => u49_0_0 (K (.exit 0)) y1 y2 x19 x20 x21 x22 x23 x24) x18
theorem r49_0_2g (vf91_0 : Tf91_0) (vf103_0 : Tf103_0) (vf29_0 : Tf29_0) (vJ49_0_0 : TJ49_0_0) (vJ49_0_1 : TJ49_0_1) (α : Type) (K : Exit → St → Option α) (Kn : St → Option α) (x18 x19 x20 x21 x22 x23 x24 : Int) : u49_0_3 (fun σ => runM Try.prog (E49_0g vf91_0 vf103_0 vf29_0) sh49 (c49_0_17g vJ49_0_0 vJ49_0_1) (thenK (fun σ => tidyK td49_17 σ Kn) K) σ) x18 x19 x20 x21 x22 x23 x24 = S49_0_2g vJ49_0_0 vJ49_0_1 α x19 x20 x21 x22 x23 x24 x18 (fun x18 => u49_0_3 Kn x18 x19 x20 x21 x22 x23 x24) (fun (y1 : Int) => u49_0_4 (K .ret) y1) (fun (y1 : Int) (y2 : Bool) => u49_0_0 (K (.exit 0)) y1 y2 x19 x20 x21 x22 x23 x24) := by kernel_rfl
theorem r49_0_2 (α : Type) (K : Exit → St → Option α) (Kn : St → Option α) (x18 x19 x20 x21 x22 x23 x24 : Int) : u49_0_3 (fun σ => runM Try.prog E49_0 sh49 c49_0_17 (thenK (fun σ => tidyK td49_17 σ Kn) K) σ) x18 x19 x20 x21 x22 x23 x24 = S49_0_2 α x19 x20 x21 x22 x23 x24 x18 (fun x18 => u49_0_3 Kn x18 x19 x20 x21 x22 x23 x24) (fun (y1 : Int) => u49_0_4 (K .ret) y1) (fun (y1 : Int) (y2 : Bool) => u49_0_0 (K (.exit 0)) y1 y2 x19 x20 x21 x22 x23 x24) := r49_0_2g f91_0 f103_0 f29_0 J49_0_0 J49_0_1 α K Kn x18 x19 x20 x21 x22 x23 x24
theorem t49_0_2 (α : Type) (K : Exit → St → Option α) : ∀ (n : Nat) (x18 x19 x20 x21 x22 x23 x24 : Int), R49_0_2 α x19 x20 x21 x22 x23 x24 (fun (y1 : Int) => u49_0_4 (K .ret) y1) (fun (y1 : Int) (y2 : Bool) => u49_0_0 (K (.exit 0)) y1 y2 x19 x20 x21 x22 x23 x24) n x18 = u49_0_3 (loopT (runM Try.prog E49_0 sh49 c49_0_17) td49_17 K n) x18 x19 x20 x21 x22 x23 x24 := by
 intro n
 induction n with
 | zero => intros; rfl
 | succ n ih => intro x18 x19 x20 x21 x22 x23 x24; exact (congrArg (fun kn => S49_0_2 α x19 x20 x21 x22 x23 x24 x18 kn (fun (y1 : Int) => u49_0_4 (K .ret) y1) (fun (y1 : Int) (y2 : Bool) => u49_0_0 (K (.exit 0)) y1 y2 x19 x20 x21 x22 x23 x24)) (funext fun x18 => ih x18 x19 x20 x21 x22 x23 x24)).trans (r49_0_2 α K (loopT (runM Try.prog E49_0 sh49 c49_0_17) td49_17 K n) x18 x19 x20 x21 x22 x23 x24).symm
theorem m49_0_2 : ∀ (α : Type) (K : Exit → St → Option α), F49_0_2 L49_0_2 α K = p49_0_3.unc fun σ => loopT (runM Try.prog E49_0 sh49 c49_0_17) td49_17 K fuel σ := fun α K => funext fun x18 => funext fun x19 => funext fun x20 => funext fun x21 => funext fun x22 => funext fun x23 => funext fun x24 => t49_0_2 α K fuel x18 x19 x20 x21 x22 x23 x24
abbrev Tf49_0 : Type 1 := (α : Type) → ByteArray → Int → Int → Int → Int → Int → Int → Int → Int → Int → (Int → Option α) → Option α
def f49_0g (vL49_0_2 : TL49_0_2) (vf103_0 : Tf103_0) (vf91_0 : Tf91_0) (α : Type) (x1 : ByteArray) (x2 x3 x4 x5 x6 x7 x8 x9 x10 : Int) (k1 : Int → Option α) : Option α :=
 vf91_0 α x1 x2 x3 x4
 (fun x11 => cK (x11 != 0)
 (k1 x11)
 (vf103_0 α x1 x2 x3 x4 x5 x6 x7 x8 x9 x10
 (fun x12 x13 x14 x15 x16 x17 => vL49_0_2 α x12 x13 x14 x15 x16 x17
 (fun x60 => k1 x60)
 (fun x61 x62 => k1 0) 0)))
noncomputable def f49_0 (α : Type) (x1 : ByteArray) (x2 x3 x4 x5 x6 x7 x8 x9 x10 : Int) (k1 : Int → Option α) : Option α := f49_0g L49_0_2 f103_0 f91_0 α x1 x2 x3 x4 x5 x6 x7 x8 x9 x10 k1
def pa49_0 : PT (List DV) := pA [pV true [dS, (dI .i64), (dI .i64), (dI .i64), (dI .i64), (dI .i64), (dI .i64), (dI .i64), (dI .i64), (dI .i64)]]
def Fn49_0 (v : Tf49_0) (α : Type) (k : List RV → Option α) : ByteArray → Int → Int → Int → Int → Int → Int → Int → Int → Int → Option α := fun x1 x2 x3 x4 x5 x6 x7 x8 x9 x10 => v α x1 x2 x3 x4 x5 x6 x7 x8 x9 x10 (fun (y1 : Int) => ur49_0_0 k y1)
noncomputable def cm49_0g (vL49_0_2 : TL49_0_2) : MCode := (.seq (.region r49_2 [] (tO [1])) (.seq (.seq (.region r49_5 [] (tO [1, 3])) (.seq (.region r49_7 [] (tO [1, 3, 14])) (.cond (.tmp 14) (.seq (.region r49_10 [] (tO [2])) .ret) .skip))) (.seq (.region r49_12 [] (tO [4])) (.seq (.seq (.region r49_15 [] (tO [4, 5])) (.block 0 (.loop td49_17 [⟨p49_0_3, F49_0_2 vL49_0_2⟩] c49_0_17))) (.seq (.region r49_37 [] (tO [2])) .ret)))))
noncomputable def cm49_0 : MCode := cm49_0g L49_0_2
theorem gm49_0 : cm49_0.Good Try.prog E49_0 sh49 := ⟨trivial, ⟨⟨trivial, ⟨trivial, ⟨⟨trivial, trivial⟩, trivial⟩⟩⟩, ⟨trivial, ⟨⟨trivial, ⟨g49_0_17, m49_0_2, trivial⟩⟩, ⟨trivial, trivial⟩⟩⟩⟩⟩
theorem fm49_0g (vf91_0 : Tf91_0) (vf103_0 : Tf103_0) (vf29_0 : Tf29_0) (vL49_0_2 : TL49_0_2) (α : Type) (k : List RV → Option α) : Fn49_0 (f49_0g vL49_0_2 vf103_0 vf91_0) α k = pa49_0.unc fun ds => fnM Try.prog (E49_0g vf91_0 vf103_0 vf29_0) sh49 (cm49_0g vL49_0_2) rs49 k ds := by kernel_rfl
theorem fm49_0 : ∀ (α : Type) (k : List RV → Option α), Fn49_0 f49_0 α k = pa49_0.unc fun ds => fnM Try.prog E49_0 sh49 cm49_0 rs49 k ds := fm49_0g f91_0 f103_0 f29_0 L49_0_2
theorem is49 : FnIs Try.prog 49 nt49 tr49 tl49 cm49_0.erase rs49 := ⟨Try.f49, Try.func49, rfl, by kernel_rfl, by kernel_rfl, by kernel_rfl⟩
theorem io49_0 : InstOk Try.prog 49 nt49 ⟨pa49_0, Fn49_0 f49_0⟩ := inst_ok eo49_0 followsTry is49 ⟨⟨sh49, cm49_0, by kernel_rfl, gm49_0, fm49_0⟩⟩
abbrev nt30 : Nat := 5
def sh30 : List (Nat × List Sh) := [(3, [.int .i64, .int .i64, .int .i64])]
def r30_2 : List AOper := [oO 1 (.box (.tmp 0)), oO 2 (.mv (kI 0))]
def r30_4 : List AOper := [oO 3 (.load true 3 (.tmp 1)), oO 4 (.call 92 [(.tmp 3)]), oM 2 4]
def tr30 : List (Nat × Tidy) := [tT 0 [1], tT 1 [2]]
def tl30 : List (Nat × Tidy) := []
def rs30 : List AResV := [.tmp 2]
def pr30_0_0 : PT (List RV) := pRs [pR false [rD (dI .i64)]]
def ur30_0_0 {β : Type} (g : List RV → β) : Int → β := pr30_0_0.unc g
def E30_0g (vf92_0 : Tf92_0) : EnvK := EnvK.of [⟨92, nt92, [⟨pa92_0, Fn92_0 vf92_0⟩]⟩] noSeq
noncomputable def E30_0 : EnvK := E30_0g f92_0
theorem eo30_0 : E30_0.Ok Try.prog := EnvK.of_ok noSeq_ok ⟨⟨io92_0, trivial⟩, trivial⟩
abbrev Tf30_0 : Type 1 := (α : Type) → Int → Int → Int → (Int → Option α) → Option α
def f30_0g (vf92_0 : Tf92_0) (α : Type) (x1 x2 x3 : Int) (k1 : Int → Option α) : Option α :=
 vf92_0 α x1 x2 x3
 (fun x4 => k1 x4)
noncomputable def f30_0 (α : Type) (x1 x2 x3 : Int) (k1 : Int → Option α) : Option α := f30_0g f92_0 α x1 x2 x3 k1
def pa30_0 : PT (List DV) := pA [pV true [(dI .i64), (dI .i64), (dI .i64)]]
def Fn30_0 (v : Tf30_0) (α : Type) (k : List RV → Option α) : Int → Int → Int → Option α := fun x1 x2 x3 => v α x1 x2 x3 (fun (y1 : Int) => ur30_0_0 k y1)
noncomputable def cm30_0g  : MCode := (.seq (.region r30_2 [] (tO [1])) (.seq (.region r30_4 [] (tO [2])) .ret))
noncomputable def cm30_0 : MCode := cm30_0g 
theorem gm30_0 : cm30_0.Good Try.prog E30_0 sh30 := ⟨trivial, ⟨trivial, trivial⟩⟩
theorem fm30_0g (vf92_0 : Tf92_0)  (α : Type) (k : List RV → Option α) : Fn30_0 (f30_0g vf92_0) α k = pa30_0.unc fun ds => fnM Try.prog (E30_0g vf92_0) sh30 (cm30_0g ) rs30 k ds := by kernel_rfl
theorem fm30_0 : ∀ (α : Type) (k : List RV → Option α), Fn30_0 f30_0 α k = pa30_0.unc fun ds => fnM Try.prog E30_0 sh30 cm30_0 rs30 k ds := fm30_0g f92_0
theorem is30 : FnIs Try.prog 30 nt30 tr30 tl30 cm30_0.erase rs30 := ⟨Try.f30, Try.func30, rfl, by kernel_rfl, by kernel_rfl, by kernel_rfl⟩
theorem io30_0 : InstOk Try.prog 30 nt30 ⟨pa30_0, Fn30_0 f30_0⟩ := inst_ok eo30_0 followsTry is30 ⟨⟨sh30, cm30_0, by kernel_rfl, gm30_0, fm30_0⟩⟩
abbrev nt82 : Nat := 38
def sh82 : List (Nat × List Sh) := [(9, [.int .i64]), (11, [.int .i64]), (13, [.int .i64]), (16, [.int .i64]), (18, [.int .i64]), (21, [.int .i64]), (23, [.int .i64]), (29, [.int .i64])]
def r82_2 : List AOper := [oO 2 (.box (.tmp 0)), oO 3 (.box (.tmp 1)), oO 4 (.alloc [(cI 0), (cI 0)]), oO 5 (.mv (kI 0))]
def r82_4 : List AOper := [oO 8 (.faddr 0 (.tmp 3)), oO 9 (.load false 1 (.tmp 8)), oO 10 (.faddr 1 (.tmp 3)), oO 11 (.load false 1 (.tmp 10)), oM 6 9, oM 7 11]
def r82_7 : List AOper := [oO 12 (.faddr 0 (.tmp 2)), oO 13 (.load false 1 (.tmp 12)), oO 14 (.bin .geq 3 (.tmp 13) (kI 0))]
def r82_9 : List AOper := [oO 15 (.faddr 1 (.tmp 3)), oO 16 (.load false 1 (.tmp 15)), oM 6 16]
def r82_12 : List AOper := [oO 17 (.faddr 1 (.tmp 2)), oO 18 (.load false 1 (.tmp 17)), oO 19 (.bin .geq 3 (.tmp 18) (kI 0))]
def r82_14 : List AOper := [oO 20 (.faddr 0 (.tmp 3)), oO 21 (.load false 1 (.tmp 20)), oM 7 21]
def r82_16 : List AOper := [oO 22 (.faddr 0 (.tmp 2)), oO 23 (.load false 1 (.tmp 22)), oO 24 (.bin .mul 3 (kI 2) (.tmp 23)), oO 25 (.bin .mul 3 (.tmp 24) (kI 1048576)), oM 26 6, oO 27 (.call 99 [(.tmp 25), (.tmp 26)]), oO 28 (.faddr 1 (.tmp 2)), oO 29 (.load false 1 (.tmp 28)), oO 30 (.bin .mul 3 (kI 2) (.tmp 29)), oO 31 (.bin .mul 3 (.tmp 30) (kI 1048576)), oM 32 7, oO 33 (.call 42 [(.tmp 31), (.tmp 32)]), oO 34 (.build [(cI 0), (cI 0)] [(0, 1, (.tmp 27)), (1, 1, (.tmp 33))]), oO 35 (.call 120 [(.tmp 34)]), oO 36 (.extract 0 (.tmp 35)), oO 37 (.extract 1 (.tmp 35)), oD (.store 2 (.tmp 4) (.tmp 36)), oM 5 37]
def tr82 : List (Nat × Tidy) := [tT 0 [2, 3, 4], tT 1 [2, 3, 4, 6, 7], tT 2 [2, 3, 4, 6, 7, 14], tT 3 [2, 3, 4, 6, 7], tT 4 [2, 3, 4, 6, 7, 19], tT 5 [2, 4, 6, 7], tT 6 [4, 5]]
def tl82 : List (Nat × Tidy) := []
def rs82 : List AResV := [.cell 4 true 2, .tmp 5]
def p82_0_0 : PT St := pS [sl 2 (aV false [(cPtr 2 0)]), sl 3 (aV false [(cPtr 3 0)]), sl 4 (aV false [(cPtr 4 0)]), sl 6 (aV false [(cD (dI .i64))]), sl 7 (aV false [(cD (dI .i64))])] [eBox 2 [(cD (dI .i64)), (cD (dI .i64))], eBox 3 [(cD (dI .i64)), (cD (dI .i64))], eBox 4 [(cD (dI .i64)), (cD (dI .i64))]]
def u82_0_0 {β : Type} (g : St → β) : Int → Int → Int → Int → Int → Int → Int → Int → β := p82_0_0.unc g
def p82_0_1 : PT St := pS [sl 2 (aV false [(cPtr 2 0)]), sl 3 (aV false [(cPtr 3 0)]), sl 4 (aV false [(cPtr 4 0)]), sl 6 (aV false [(cD (dI .i64))]), sl 7 (aV false [(cD (dI .i64))]), sl 14 (aV false [(cD dB)])] [eBox 2 [(cD (dI .i64)), (cD (dI .i64))], eBox 3 [(cD (dI .i64)), (cD (dI .i64))], eBox 4 [(cD (dI .i64)), (cD (dI .i64))]]
def u82_0_1 {β : Type} (g : St → β) : Int → Int → Bool → Int → Int → Int → Int → Int → Int → β := p82_0_1.unc g
def p82_0_2 : PT St := pS [sl 2 (aV false [(cPtr 2 0)]), sl 4 (aV false [(cPtr 4 0)]), sl 6 (aV false [(cD (dI .i64))]), sl 7 (aV false [(cD (dI .i64))])] [eBox 2 [(cD (dI .i64)), (cD (dI .i64))], eBox 4 [(cD (dI .i64)), (cD (dI .i64))]]
def u82_0_2 {β : Type} (g : St → β) : Int → Int → Int → Int → Int → Int → β := p82_0_2.unc g
def p82_0_3 : PT St := pS [sl 2 (aV false [(cPtr 2 0)]), sl 3 (aV false [(cPtr 3 0)]), sl 4 (aV false [(cPtr 4 0)]), sl 6 (aV false [(cD (dI .i64))]), sl 7 (aV false [(cD (dI .i64))]), sl 19 (aV false [(cD dB)])] [eBox 2 [(cD (dI .i64)), (cD (dI .i64))], eBox 3 [(cD (dI .i64)), (cD (dI .i64))], eBox 4 [(cD (dI .i64)), (cD (dI .i64))]]
def u82_0_3 {β : Type} (g : St → β) : Int → Int → Bool → Int → Int → Int → Int → Int → Int → β := p82_0_3.unc g
def pr82_0_0 : PT (List RV) := pRs [pR true [rD (dI .i64), rD (dI .i64)], pR false [rD (dI .i64)]]
def ur82_0_0 {β : Type} (g : List RV → β) : Int → Int → Int → β := pr82_0_0.unc g
def E82_0g (vf99_0 : Tf99_0) (vf42_0 : Tf42_0) (vf120_0 : Tf120_0) : EnvK := EnvK.of [⟨99, nt99, [⟨pa99_0, Fn99_0 vf99_0⟩]⟩, ⟨42, nt42, [⟨pa42_0, Fn42_0 vf42_0⟩]⟩, ⟨120, nt120, [⟨pa120_0, Fn120_0 vf120_0⟩]⟩] noSeq
noncomputable def E82_0 : EnvK := E82_0g f99_0 f42_0 f120_0
theorem eo82_0 : E82_0.Ok Try.prog := EnvK.of_ok noSeq_ok ⟨⟨io99_0, trivial⟩, ⟨io42_0, trivial⟩, ⟨io120_0, trivial⟩, trivial⟩
noncomputable def c82_0_10g  : MCode := (.seq (.region r82_12 [] (tO [2, 3, 4, 6, 7, 19])) (.cond (.tmp 19) (.region r82_14 [] (tO [2, 4, 6, 7])) .skip))
noncomputable def c82_0_10 : MCode := c82_0_10g 
theorem g82_0_10 : c82_0_10.Good Try.prog E82_0 sh82 := ⟨trivial, ⟨trivial, trivial⟩⟩
--CODE 10 0
abbrev TJ82_0_1 : Type 1 := (α : Type) → Int → (Option α) → (Bool → Option α) → Option α
def J82_0_1g  (α : Type) (x19 : Int) (k1 : Option α) (k2 : Bool → Option α) : Option α :=
 cK (decide (0 ≤ x19))
 (k1)
 (k2 (decide (0 ≤ x19)))
noncomputable def J82_0_1 (α : Type) (x19 : Int) (k1 : Option α) (k2 : Bool → Option α) : Option α := J82_0_1g  α x19 k1 k2
def F82_0_1 (v : TJ82_0_1) (α : Type) (K : Exit → St → Option α) : Int → Int → Int → Int → Int → Int → Int → Int → Option α := fun x16 x17 x18 x19 x20 x21 x22 x23 => v α x19 (u82_0_2 (K .normal) x16 x20 x18 x19 x22 x23) (fun (y1 : Bool) => u82_0_3 (K .normal) x16 x17 y1 x18 x19 x20 x21 x22 x23) 
theorem m82_0_1g (vf99_0 : Tf99_0) (vf42_0 : Tf42_0) (vf120_0 : Tf120_0)  (α : Type) (K : Exit → St → Option α) : F82_0_1 (J82_0_1g ) α K = p82_0_0.unc fun σ => runM Try.prog (E82_0g vf99_0 vf42_0 vf120_0) sh82 (c82_0_10g ) K σ := by kernel_rfl
theorem m82_0_1 : ∀ (α : Type) (K : Exit → St → Option α), F82_0_1 J82_0_1 α K = p82_0_0.unc fun σ => runM Try.prog E82_0 sh82 c82_0_10 K σ := m82_0_1g f99_0 f42_0 f120_0
--CODE 10 0
abbrev TJ82_0_2 : Type 1 := (α : Type) → Int → (Option α) → (Bool → Option α) → Option α
def J82_0_2g  (α : Type) (x41 : Int) (k1 : Option α) (k2 : Bool → Option α) : Option α :=
 cK (decide (0 ≤ x41))
 (k1)
 (k2 (decide (0 ≤ x41)))
noncomputable def J82_0_2 (α : Type) (x41 : Int) (k1 : Option α) (k2 : Bool → Option α) : Option α := J82_0_2g  α x41 k1 k2
def F82_0_2 (v : TJ82_0_2) (α : Type) (K : Exit → St → Option α) : Int → Int → Bool → Int → Int → Int → Int → Int → Int → Option α := fun x37 x38 x39 x40 x41 x42 x43 x44 x45 => v α x41 (u82_0_2 (K .normal) x37 x42 x40 x41 x44 x45) (fun (y1 : Bool) => u82_0_3 (K .normal) x37 x38 y1 x40 x41 x42 x43 x44 x45) 
theorem m82_0_2g (vf99_0 : Tf99_0) (vf42_0 : Tf42_0) (vf120_0 : Tf120_0)  (α : Type) (K : Exit → St → Option α) : F82_0_2 (J82_0_2g ) α K = p82_0_1.unc fun σ => runM Try.prog (E82_0g vf99_0 vf42_0 vf120_0) sh82 (c82_0_10g ) K σ := by kernel_rfl
theorem m82_0_2 : ∀ (α : Type) (K : Exit → St → Option α), F82_0_2 J82_0_2 α K = p82_0_1.unc fun σ => runM Try.prog E82_0 sh82 c82_0_10 K σ := m82_0_2g f99_0 f42_0 f120_0
noncomputable def c82_0_5g  : MCode := (.seq (.region r82_7 [] (tO [2, 3, 4, 6, 7, 14])) (.cond (.tmp 14) (.region r82_9 [] (tO [2, 3, 4, 6, 7])) .skip))
noncomputable def c82_0_5 : MCode := c82_0_5g 
theorem g82_0_5 : c82_0_5.Good Try.prog E82_0 sh82 := ⟨trivial, ⟨trivial, trivial⟩⟩
--CODE 5 0
abbrev TJ82_0_0 : Type 1 := (α : Type) → Int → (Option α) → (Bool → Option α) → Option α
def J82_0_0g  (α : Type) (x7 : Int) (k1 : Option α) (k2 : Bool → Option α) : Option α :=
 cK (decide (0 ≤ x7))
 (k1)
 (k2 (decide (0 ≤ x7)))
noncomputable def J82_0_0 (α : Type) (x7 : Int) (k1 : Option α) (k2 : Bool → Option α) : Option α := J82_0_0g  α x7 k1 k2
def F82_0_0 (v : TJ82_0_0) (α : Type) (K : Exit → St → Option α) : Int → Int → Int → Int → Int → Int → Int → Int → Option α := fun x5 x6 x7 x8 x9 x10 x11 x12 => v α x7 (u82_0_0 (K .normal) x10 x6 x7 x8 x9 x10 x11 x12) (fun (y1 : Bool) => u82_0_1 (K .normal) x5 x6 y1 x7 x8 x9 x10 x11 x12) 
theorem m82_0_0g (vf99_0 : Tf99_0) (vf42_0 : Tf42_0) (vf120_0 : Tf120_0)  (α : Type) (K : Exit → St → Option α) : F82_0_0 (J82_0_0g ) α K = p82_0_0.unc fun σ => runM Try.prog (E82_0g vf99_0 vf42_0 vf120_0) sh82 (c82_0_5g ) K σ := by kernel_rfl
theorem m82_0_0 : ∀ (α : Type) (K : Exit → St → Option α), F82_0_0 J82_0_0 α K = p82_0_0.unc fun σ => runM Try.prog E82_0 sh82 c82_0_5 K σ := m82_0_0g f99_0 f42_0 f120_0
abbrev Tf82_0 : Type 1 := (α : Type) → Int → Int → Int → Int → (Int → Int → Int → Option α) → Option α
def f82_0g (vJ82_0_0 : TJ82_0_0) (vJ82_0_1 : TJ82_0_1) (vJ82_0_2 : TJ82_0_2) (vf120_0 : Tf120_0) (vf42_0 : Tf42_0) (vf99_0 : Tf99_0) (α : Type) (x1 x2 x3 x4 : Int) (k1 : Int → Int → Int → Option α) : Option α :=
 vJ82_0_0 α x1
 (vJ82_0_1 α x2
 (vf99_0 α (w64 ((w64 (2 * x1)) * 1048576)) x4
 (fun x27 => vf42_0 α (w64 ((w64 (2 * x2)) * 1048576)) x3
 (fun x28 => vf120_0 α x27 x28
 (fun x29 x30 x31 => k1 x29 x30 x31))))
 (fun x25 => vf99_0 α (w64 ((w64 (2 * x1)) * 1048576)) x4
 (fun x32 => vf42_0 α (w64 ((w64 (2 * x2)) * 1048576)) x4
 (fun x33 => vf120_0 α x32 x33
 (fun x34 x35 x36 => k1 x34 x35 x36)))))
 (fun x14 => vJ82_0_2 α x2
 (vf99_0 α (w64 ((w64 (2 * x1)) * 1048576)) x3
 (fun x49 => vf42_0 α (w64 ((w64 (2 * x2)) * 1048576)) x3
 (fun x50 => vf120_0 α x49 x50
 (fun x51 x52 x53 => k1 x51 x52 x53))))
 (fun x47 => vf99_0 α (w64 ((w64 (2 * x1)) * 1048576)) x3
 (fun x54 => vf42_0 α (w64 ((w64 (2 * x2)) * 1048576)) x4
 (fun x55 => vf120_0 α x54 x55
 (fun x56 x57 x58 => k1 x56 x57 x58)))))
noncomputable def f82_0 (α : Type) (x1 x2 x3 x4 : Int) (k1 : Int → Int → Int → Option α) : Option α := f82_0g J82_0_0 J82_0_1 J82_0_2 f120_0 f42_0 f99_0 α x1 x2 x3 x4 k1
def pa82_0 : PT (List DV) := pA [pV true [(dI .i64), (dI .i64)], pV true [(dI .i64), (dI .i64)]]
def Fn82_0 (v : Tf82_0) (α : Type) (k : List RV → Option α) : Int → Int → Int → Int → Option α := fun x1 x2 x3 x4 => v α x1 x2 x3 x4 (fun (y1 : Int) (y2 : Int) (y3 : Int) => ur82_0_0 k y1 y2 y3)
noncomputable def cm82_0g (vJ82_0_0 : TJ82_0_0) (vJ82_0_1 : TJ82_0_1) (vJ82_0_2 : TJ82_0_2) : MCode := (.seq (.region r82_2 [] (tO [2, 3, 4])) (.seq (.region r82_4 [] (tO [2, 3, 4, 6, 7])) (.seq (.mark [⟨p82_0_0, F82_0_0 vJ82_0_0⟩] c82_0_5) (.seq (.mark [⟨p82_0_0, F82_0_1 vJ82_0_1⟩, ⟨p82_0_1, F82_0_2 vJ82_0_2⟩] c82_0_10) (.seq (.region r82_16 [(5, 7)] (tO [4, 5])) .ret)))))
noncomputable def cm82_0 : MCode := cm82_0g J82_0_0 J82_0_1 J82_0_2
theorem gm82_0 : cm82_0.Good Try.prog E82_0 sh82 := ⟨trivial, ⟨trivial, ⟨⟨g82_0_5, m82_0_0, trivial⟩, ⟨⟨g82_0_10, m82_0_1, m82_0_2, trivial⟩, ⟨trivial, trivial⟩⟩⟩⟩⟩
theorem fm82_0g (vf99_0 : Tf99_0) (vf42_0 : Tf42_0) (vf120_0 : Tf120_0) (vJ82_0_0 : TJ82_0_0) (vJ82_0_1 : TJ82_0_1) (vJ82_0_2 : TJ82_0_2) (α : Type) (k : List RV → Option α) : Fn82_0 (f82_0g vJ82_0_0 vJ82_0_1 vJ82_0_2 vf120_0 vf42_0 vf99_0) α k = pa82_0.unc fun ds => fnM Try.prog (E82_0g vf99_0 vf42_0 vf120_0) sh82 (cm82_0g vJ82_0_0 vJ82_0_1 vJ82_0_2) rs82 k ds := by kernel_rfl
theorem fm82_0 : ∀ (α : Type) (k : List RV → Option α), Fn82_0 f82_0 α k = pa82_0.unc fun ds => fnM Try.prog E82_0 sh82 cm82_0 rs82 k ds := fm82_0g f99_0 f42_0 f120_0 J82_0_0 J82_0_1 J82_0_2
theorem is82 : FnIs Try.prog 82 nt82 tr82 tl82 cm82_0.erase rs82 := ⟨Try.f82, Try.func82, rfl, by kernel_rfl, by kernel_rfl, by kernel_rfl⟩
theorem io82_0 : InstOk Try.prog 82 nt82 ⟨pa82_0, Fn82_0 f82_0⟩ := inst_ok eo82_0 followsTry is82 ⟨⟨sh82, cm82_0, by kernel_rfl, gm82_0, fm82_0⟩⟩
end Go.AM.K
