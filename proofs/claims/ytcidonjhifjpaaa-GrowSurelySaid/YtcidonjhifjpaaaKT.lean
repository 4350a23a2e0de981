/- Printed by KGen. -/
import Derived.Test.YtcidonjhifjpaaaAcC
import Derived.Test.YtcidonjhifjpaaaKMa
namespace Go.AM.K
open Go.Proofs
set_option maxRecDepth 100000
set_option linter.unusedVariables false

theorem followsTry : Try.prog.follows .mixedOrders = true := by kernel_rfl

/-! ### F85 etalon/grow.Turns$2 -/
abbrev nt85 : Nat := 10
def sh85 : List (Nat × List Sh) := [(6, [.int .i64]), (7, [.int .i64])]
def r85_2 : List AOper := [oO 4 (.mv (.const (.bool false)))]
def r85_4 : List AOper := [oM 5 0, oO 6 (.load false 1 (.tmp 1)), oO 7 (.load false 1 (.tmp 2)), oO 8 (.bin .add 3 (.tmp 6) (.tmp 7)), oO 9 (.bin .leq 3 (.tmp 5) (.tmp 8)), oM 4 9]
def tr85 : List (Nat × Tidy) := [(0, ⟨[0, 1, 2], true, [], []⟩), (1, ⟨[4], true, [], []⟩)]
def tl85 : List (Nat × Tidy) := []
def rs85 : List AResV := [.tmp 4]
def pr85_0_0 : PT (List RV) := pRs [pR false [rD dB]]
def ur85_0_0 {β : Type} (g : List RV → β) : Bool → β := pr85_0_0.unc g

def E85_0g  : EnvK := EnvK.of [] noSeq
noncomputable def E85_0 : EnvK := E85_0g 
theorem eo85_0 : E85_0.Ok Try.prog := EnvK.of_ok noSeq_ok trivial

/-- etalon/grow.Turns$2 -/
abbrev Tf85_0 : Type 1 := (α : Type) → Int → Int → Int → (Bool → Option α) → Option α
def f85_0g  (α : Type) (x1 : Int) (x2 : Int) (x3 : Int) (k1 : Bool → Option α) : Option α :=
 k1 (decide (x1 ≤ (w64 (x2 + x3))))
noncomputable def f85_0 (α : Type) (x1 : Int) (x2 : Int) (x3 : Int) (k1 : Bool → Option α) : Option α := f85_0g  α x1 x2 x3 k1
def pa85_0 : PT (List DV) := pA [pV false [(dI .i64)], pV false [(dP [(dI .i64)] 0)], pV false [(dP [(dI .i64)] 0)]]
def Fn85_0 (v : Tf85_0) (α : Type) (k : List RV → Option α) : Int → Int → Int → Option α := fun x1 x2 x3 => v α x1 x2 x3 (fun (y1 : Bool) => ur85_0_0 k y1)
noncomputable def cm85_0g  : MCode := (.seq (.region r85_2 [] (some ⟨[0, 1, 2], true, [], []⟩)) (.seq (.region r85_4 [] (some ⟨[4], true, [], []⟩)) .ret))
noncomputable def cm85_0 : MCode := cm85_0g 
theorem gm85_0 : cm85_0.Good Try.prog E85_0 sh85 := ⟨trivial, ⟨trivial, trivial⟩⟩
theorem fm85_0g   (α : Type) (k : List RV → Option α) : Fn85_0 (f85_0g ) α k = pa85_0.unc fun ds => fnM Try.prog (E85_0g ) sh85 (cm85_0g ) rs85 k ds := by kernel_rfl
theorem fm85_0 : ∀ (α : Type) (k : List RV → Option α), Fn85_0 f85_0 α k = pa85_0.unc fun ds => fnM Try.prog E85_0 sh85 cm85_0 rs85 k ds := fm85_0g 

theorem is85 : FnIs Try.prog 85 nt85 tr85 tl85 cm85_0.erase rs85 := ⟨Try.f85, Try.func85, rfl, by kernel_rfl, by kernel_rfl, by kernel_rfl⟩
theorem io85_0 : InstOk Try.prog 85 nt85 ⟨pa85_0, Fn85_0 f85_0⟩ := inst_ok eo85_0 followsTry is85 ⟨⟨sh85, cm85_0, by kernel_rfl, gm85_0, fm85_0⟩⟩

/-! ### F84 etalon/grow.Turns$1 -/
abbrev nt84 : Nat := 10
def sh84 : List (Nat × List Sh) := [(6, [.int .i64]), (7, [.int .i64])]
def r84_2 : List AOper := [oO 4 (.mv (.const (.bool false)))]
def r84_4 : List AOper := [oM 5 0, oO 6 (.load false 1 (.tmp 1)), oO 7 (.load false 1 (.tmp 2)), oO 8 (.bin .sub 3 (.tmp 6) (.tmp 7)), oO 9 (.bin .geq 3 (.tmp 5) (.tmp 8)), oM 4 9]
def tr84 : List (Nat × Tidy) := [(0, ⟨[0, 1, 2], true, [], []⟩), (1, ⟨[4], true, [], []⟩)]
def tl84 : List (Nat × Tidy) := []
def rs84 : List AResV := [.tmp 4]
def pr84_0_0 : PT (List RV) := pRs [pR false [rD dB]]
def ur84_0_0 {β : Type} (g : List RV → β) : Bool → β := pr84_0_0.unc g

def E84_0g  : EnvK := EnvK.of [] noSeq
noncomputable def E84_0 : EnvK := E84_0g 
theorem eo84_0 : E84_0.Ok Try.prog := EnvK.of_ok noSeq_ok trivial

/-- etalon/grow.Turns$1 -/
abbrev Tf84_0 : Type 1 := (α : Type) → Int → Int → Int → (Bool → Option α) → Option α
def f84_0g  (α : Type) (x1 : Int) (x2 : Int) (x3 : Int) (k1 : Bool → Option α) : Option α :=
 k1 (decide ((w64 (x2 - x3)) ≤ x1))
noncomputable def f84_0 (α : Type) (x1 : Int) (x2 : Int) (x3 : Int) (k1 : Bool → Option α) : Option α := f84_0g  α x1 x2 x3 k1
def pa84_0 : PT (List DV) := pA [pV false [(dI .i64)], pV false [(dP [(dI .i64)] 0)], pV false [(dP [(dI .i64)] 0)]]
def Fn84_0 (v : Tf84_0) (α : Type) (k : List RV → Option α) : Int → Int → Int → Option α := fun x1 x2 x3 => v α x1 x2 x3 (fun (y1 : Bool) => ur84_0_0 k y1)
noncomputable def cm84_0g  : MCode := (.seq (.region r84_2 [] (some ⟨[0, 1, 2], true, [], []⟩)) (.seq (.region r84_4 [] (some ⟨[4], true, [], []⟩)) .ret))
noncomputable def cm84_0 : MCode := cm84_0g 
theorem gm84_0 : cm84_0.Good Try.prog E84_0 sh84 := ⟨trivial, ⟨trivial, trivial⟩⟩
theorem fm84_0g   (α : Type) (k : List RV → Option α) : Fn84_0 (f84_0g ) α k = pa84_0.unc fun ds => fnM Try.prog (E84_0g ) sh84 (cm84_0g ) rs84 k ds := by kernel_rfl
theorem fm84_0 : ∀ (α : Type) (k : List RV → Option α), Fn84_0 f84_0 α k = pa84_0.unc fun ds => fnM Try.prog E84_0 sh84 cm84_0 rs84 k ds := fm84_0g 

theorem is84 : FnIs Try.prog 84 nt84 tr84 tl84 cm84_0.erase rs84 := ⟨Try.f84, Try.func84, rfl, by kernel_rfl, by kernel_rfl, by kernel_rfl⟩
theorem io84_0 : InstOk Try.prog 84 nt84 ⟨pa84_0, Fn84_0 f84_0⟩ := inst_ok eo84_0 followsTry is84 ⟨⟨sh84, cm84_0, by kernel_rfl, gm84_0, fm84_0⟩⟩

/-! ### F82 slices.Min[[]int,int] -/
abbrev nt82 : Nat := 25
def sh82 : List (Nat × List Sh) := [(10, [.int .i64]), (11, [.int .i64]), (21, [.int .i64]), (22, [.int .i64])]
def r82_2 : List AOper := [oO 2 (.mv (.const (.int .i64 0)))]
def r82_5 : List AOper := [oM 5 0, oO 6 (.len (.tmp 5)), oO 7 (.bin .lss 3 (.tmp 6) (.const (.int .i64 1)))]
def r82_7 : List AOper := [⟨(some 8), .bad, none⟩, ⟨none, .bad, none⟩]
def r82_9 : List AOper := [oM 9 0, oO 10 (.iaddr 1 none (.tmp 9) (.const (.int .i64 0))), oO 11 (.load false 1 (.tmp 10)), oM 3 11]
def r82_12 : List AOper := [oO 4 (.mv (.const (.int .i64 1)))]
def td82_14 : Option Tidy := (some ⟨[0, 3, 4], true, [], []⟩)
def r82_17 : List AOper := [oM 12 4, oM 13 0, oO 14 (.len (.tmp 13)), oO 15 (.bin .lss 3 (.tmp 12) (.tmp 14))]
def r82_21 : List AOper := [oM 18 3, oM 19 0, oM 20 4, oO 21 (.iaddr 1 none (.tmp 19) (.tmp 20)), oO 22 (.load false 1 (.tmp 21)), oO 23 (.pure (oB (.call { callee := .builtin .min, args := #[(.tmp 18), (.tmp 22)], argTypes := #[3, 3] }) 3)), oM 3 23]
def r82_22 : List AOper := [oM 16 4, oO 17 (.bin .add 3 (.tmp 16) (.const (.int .i64 1))), oM 4 17]
def r82_24 : List AOper := [oM 24 3, oM 2 24]
def tr82 : List (Nat × Tidy) := [(0, ⟨[0], true, [], []⟩), (1, ⟨[0, 7], true, [], []⟩), (2, ⟨[0], true, [], []⟩), (3, ⟨[0, 3], true, [], []⟩), (4, ⟨[0, 3, 4], true, [], []⟩), (5, ⟨[0, 3, 4, 15], true, [], []⟩), (7, ⟨[0, 3, 4], true, [], []⟩), (6, ⟨[0, 3, 4], true, [], []⟩), (8, ⟨[2], true, [], []⟩)]
def tl82 : List (Nat × Tidy) := [(5, ⟨[0, 3, 4], true, [], []⟩)]
def rs82 : List AResV := [.tmp 2]
def p82_0_0 : PT St := pS [sl 0 (aV false [(cD dL)]), sl 3 (aV false [(cD (dI .i64))]), sl 4 (aV false [(cD (dI .i64))])] []
def u82_0_0 {β : Type} (g : St → β) : Rows → Int → Int → β := p82_0_0.unc g

def p82_0_1 : PT St := pS [sl 0 (aV false [(cD dL)]), sl 3 (aV false [(cD (dI .i64))]), sl 4 (aV false [(cD (dI .i64))]), sl 15 (aV false [(cD dB)])] []
def u82_0_1 {β : Type} (g : St → β) : Rows → Int → Int → Bool → β := p82_0_1.unc g

def pr82_0_0 : PT (List RV) := pRs [pR false [rD (dI .i64)]]
def ur82_0_0 {β : Type} (g : List RV → β) : Int → β := pr82_0_0.unc g

def E82_0g  : EnvK := EnvK.of [] noSeq
noncomputable def E82_0 : EnvK := E82_0g 
theorem eo82_0 : E82_0.Ok Try.prog := EnvK.of_ok noSeq_ok trivial

noncomputable def c82_0_14g  : MCode := (.seq (.seq (.region r82_17 [] (some ⟨[0, 3, 4, 15], true, [], []⟩)) (.cond (.tmp 15) .skip (.exit 0))) (.seq (.block 1 (.region r82_21 [] (some ⟨[0, 3, 4], true, [], []⟩))) (.region r82_22 [] (some ⟨[0, 3, 4], true, [], []⟩))))
noncomputable def c82_0_14 : MCode := c82_0_14g 
theorem g82_0_14 : c82_0_14.Good Try.prog E82_0 sh82 := ⟨⟨trivial, ⟨trivial, trivial⟩⟩, ⟨trivial, trivial⟩⟩
--CODE 14 0
def S82_0_0g  (α : Type) (x3 : Rows) (x4 : Int) (x5 : Int) (kn : Int → Int → Option α) (k1 : Int → Int → Bool → Option α) : Option α :=
 cK (decide (x5 < ((List.length x3 : Nat) : Int)))
 (rowK x3 x5 [.int .i64]
 (fun (x7 : Int) => kn (if x7 < x4 then x7 else x4) (w64 (x5 + 1))))
 (k1 x4 x5 (decide (x5 < ((List.length x3 : Nat) : Int))))
noncomputable def S82_0_0 (α : Type) (x3 : Rows) (x4 : Int) (x5 : Int) (kn : Int → Int → Option α) (k1 : Int → Int → Bool → Option α) : Option α := S82_0_0g  α x3 x4 x5 kn k1
noncomputable def R82_0_0 (α : Type) (x3 : Rows) (k1 : Int → Int → Bool → Option α) : Nat → Int → Int → Option α
 | 0, _, _ => none
 | n + 1, x4, x5 => S82_0_0 α x3 x4 x5 (R82_0_0 α x3 k1 n) k1
noncomputable def L82_0_0 (α : Type) (x3 : Rows) (k1 : Int → Int → Bool → Option α) (x4 : Int) (x5 : Int) : Option α := R82_0_0 α x3 k1 fuel x4 x5
abbrev TL82_0_0 : Type 1 := (α : Type) → Rows → (Int → Int → Bool → Option α) → Int → Int → Option α
def F82_0_0 (v : TL82_0_0) (α : Type) (K : Exit → St → Option α) : Rows → Int → Int → Option α := fun x3 x4 x5 => v α x3 (fun (y1 : Int) (y2 : Int) (y3 : Bool) => u82_0_1 (K (.exit 0)) x3 y1 y2 y3) x4 x5
theorem r82_0_0g   (α : Type) (K : Exit → St → Option α) (Kn : St → Option α) (x3 : Rows) (x4 : Int) (x5 : Int) : u82_0_0 (fun σ => runM Try.prog (E82_0g ) sh82 (c82_0_14g ) (thenK (fun σ => tidyK td82_14 σ Kn) K) σ) x3 x4 x5 = S82_0_0g  α x3 x4 x5 (fun x4 x5 => u82_0_0 Kn x3 x4 x5) (fun (y1 : Int) (y2 : Int) (y3 : Bool) => u82_0_1 (K (.exit 0)) x3 y1 y2 y3) := by kernel_rfl
theorem r82_0_0 (α : Type) (K : Exit → St → Option α) (Kn : St → Option α) (x3 : Rows) (x4 : Int) (x5 : Int) : u82_0_0 (fun σ => runM Try.prog E82_0 sh82 c82_0_14 (thenK (fun σ => tidyK td82_14 σ Kn) K) σ) x3 x4 x5 = S82_0_0 α x3 x4 x5 (fun x4 x5 => u82_0_0 Kn x3 x4 x5) (fun (y1 : Int) (y2 : Int) (y3 : Bool) => u82_0_1 (K (.exit 0)) x3 y1 y2 y3) := r82_0_0g  α K Kn x3 x4 x5
theorem t82_0_0 (α : Type) (K : Exit → St → Option α) : ∀ (n : Nat) (x3 : Rows) (x4 : Int) (x5 : Int), R82_0_0 α x3 (fun (y1 : Int) (y2 : Int) (y3 : Bool) => u82_0_1 (K (.exit 0)) x3 y1 y2 y3) n x4 x5 = u82_0_0 (loopT (runM Try.prog E82_0 sh82 c82_0_14) td82_14 K n) x3 x4 x5 := by
 intro n
 induction n with
 | zero => intros; rfl
 | succ n ih => intro x3 x4 x5; exact (congrArg (fun kn => S82_0_0 α x3 x4 x5 kn (fun (y1 : Int) (y2 : Int) (y3 : Bool) => u82_0_1 (K (.exit 0)) x3 y1 y2 y3)) (funext fun x4 => funext fun x5 => ih x3 x4 x5)).trans (r82_0_0 α K (loopT (runM Try.prog E82_0 sh82 c82_0_14) td82_14 K n) x3 x4 x5).symm
theorem m82_0_0 : ∀ (α : Type) (K : Exit → St → Option α), F82_0_0 L82_0_0 α K = p82_0_0.unc fun σ => loopT (runM Try.prog E82_0 sh82 c82_0_14) td82_14 K fuel σ := fun α K => funext fun x3 => funext fun x4 => funext fun x5 => t82_0_0 α K fuel x3 x4 x5

/-- slices.Min[[]int,int] -/
abbrev Tf82_0 : Type 1 := (α : Type) → Rows → (Int → Option α) → Option α
def f82_0g (vL82_0_0 : TL82_0_0) (α : Type) (x1 : Rows) (k1 : Int → Option α) : Option α :=
 cK (decide (((List.length x1 : Nat) : Int) < 1))
 (none)
 (rowK x1 0 [.int .i64]
 (fun (x2 : Int) => vL82_0_0 α x1
 (fun (x8 : Int) (x9 : Int) (x10 : Bool) => k1 x8) x2 1))
noncomputable def f82_0 (α : Type) (x1 : Rows) (k1 : Int → Option α) : Option α := f82_0g L82_0_0 α x1 k1
def pa82_0 : PT (List DV) := pA [pV false [dL]]
def Fn82_0 (v : Tf82_0) (α : Type) (k : List RV → Option α) : Rows → Option α := fun x1 => v α x1 (fun (y1 : Int) => ur82_0_0 k y1)
noncomputable def cm82_0g (vL82_0_0 : TL82_0_0) : MCode := (.seq (.region r82_2 [] (some ⟨[0], true, [], []⟩)) (.seq (.seq (.region r82_5 [] (some ⟨[0, 7], true, [], []⟩)) (.cond (.tmp 7) (.region r82_7 [] (some ⟨[0], true, [], []⟩)) .skip)) (.seq (.region r82_9 [] (some ⟨[0, 3], true, [], []⟩)) (.seq (.seq (.region r82_12 [] (some ⟨[0, 3, 4], true, [], []⟩)) (.block 0 (.loop td82_14 [⟨p82_0_0, F82_0_0 vL82_0_0⟩] c82_0_14))) (.seq (.region r82_24 [] (some ⟨[2], true, [], []⟩)) .ret)))))
noncomputable def cm82_0 : MCode := cm82_0g L82_0_0
theorem gm82_0 : cm82_0.Good Try.prog E82_0 sh82 := ⟨trivial, ⟨⟨trivial, ⟨trivial, trivial⟩⟩, ⟨trivial, ⟨⟨trivial, ⟨g82_0_14, m82_0_0, trivial⟩⟩, ⟨trivial, trivial⟩⟩⟩⟩⟩
theorem fm82_0g  (vL82_0_0 : TL82_0_0) (α : Type) (k : List RV → Option α) : Fn82_0 (f82_0g vL82_0_0) α k = pa82_0.unc fun ds => fnM Try.prog (E82_0g ) sh82 (cm82_0g vL82_0_0) rs82 k ds := by kernel_rfl
theorem fm82_0 : ∀ (α : Type) (k : List RV → Option α), Fn82_0 f82_0 α k = pa82_0.unc fun ds => fnM Try.prog E82_0 sh82 cm82_0 rs82 k ds := fm82_0g L82_0_0

theorem is82 : FnIs Try.prog 82 nt82 tr82 tl82 cm82_0.erase rs82 := ⟨Try.f82, Try.func82, rfl, by kernel_rfl, by kernel_rfl, by kernel_rfl⟩
theorem io82_0 : InstOk Try.prog 82 nt82 ⟨pa82_0, Fn82_0 f82_0⟩ := inst_ok eo82_0 followsTry is82 ⟨⟨sh82, cm82_0, by kernel_rfl, gm82_0, fm82_0⟩⟩

/-! ### F81 slices.Max[[]int,int] -/
abbrev nt81 : Nat := 25
def sh81 : List (Nat × List Sh) := [(10, [.int .i64]), (11, [.int .i64]), (21, [.int .i64]), (22, [.int .i64])]
def r81_2 : List AOper := [oO 2 (.mv (.const (.int .i64 0)))]
def r81_5 : List AOper := [oM 5 0, oO 6 (.len (.tmp 5)), oO 7 (.bin .lss 3 (.tmp 6) (.const (.int .i64 1)))]
def r81_7 : List AOper := [⟨(some 8), .bad, none⟩, ⟨none, .bad, none⟩]
def r81_9 : List AOper := [oM 9 0, oO 10 (.iaddr 1 none (.tmp 9) (.const (.int .i64 0))), oO 11 (.load false 1 (.tmp 10)), oM 3 11]
def r81_12 : List AOper := [oO 4 (.mv (.const (.int .i64 1)))]
def td81_14 : Option Tidy := (some ⟨[0, 3, 4], true, [], []⟩)
def r81_17 : List AOper := [oM 12 4, oM 13 0, oO 14 (.len (.tmp 13)), oO 15 (.bin .lss 3 (.tmp 12) (.tmp 14))]
def r81_21 : List AOper := [oM 18 3, oM 19 0, oM 20 4, oO 21 (.iaddr 1 none (.tmp 19) (.tmp 20)), oO 22 (.load false 1 (.tmp 21)), oO 23 (.pure (oB (.call { callee := .builtin .max, args := #[(.tmp 18), (.tmp 22)], argTypes := #[3, 3] }) 3)), oM 3 23]
def r81_22 : List AOper := [oM 16 4, oO 17 (.bin .add 3 (.tmp 16) (.const (.int .i64 1))), oM 4 17]
def r81_24 : List AOper := [oM 24 3, oM 2 24]
def tr81 : List (Nat × Tidy) := [(0, ⟨[0], true, [], []⟩), (1, ⟨[0, 7], true, [], []⟩), (2, ⟨[0], true, [], []⟩), (3, ⟨[0, 3], true, [], []⟩), (4, ⟨[0, 3, 4], true, [], []⟩), (5, ⟨[0, 3, 4, 15], true, [], []⟩), (7, ⟨[0, 3, 4], true, [], []⟩), (6, ⟨[0, 3, 4], true, [], []⟩), (8, ⟨[2], true, [], []⟩)]
def tl81 : List (Nat × Tidy) := [(5, ⟨[0, 3, 4], true, [], []⟩)]
def rs81 : List AResV := [.tmp 2]
def p81_0_0 : PT St := pS [sl 0 (aV false [(cD dL)]), sl 3 (aV false [(cD (dI .i64))]), sl 4 (aV false [(cD (dI .i64))])] []
def u81_0_0 {β : Type} (g : St → β) : Rows → Int → Int → β := p81_0_0.unc g

def p81_0_1 : PT St := pS [sl 0 (aV false [(cD dL)]), sl 3 (aV false [(cD (dI .i64))]), sl 4 (aV false [(cD (dI .i64))]), sl 15 (aV false [(cD dB)])] []
def u81_0_1 {β : Type} (g : St → β) : Rows → Int → Int → Bool → β := p81_0_1.unc g

def pr81_0_0 : PT (List RV) := pRs [pR false [rD (dI .i64)]]
def ur81_0_0 {β : Type} (g : List RV → β) : Int → β := pr81_0_0.unc g

def E81_0g  : EnvK := EnvK.of [] noSeq
noncomputable def E81_0 : EnvK := E81_0g 
theorem eo81_0 : E81_0.Ok Try.prog := EnvK.of_ok noSeq_ok trivial

noncomputable def c81_0_14g  : MCode := (.seq (.seq (.region r81_17 [] (some ⟨[0, 3, 4, 15], true, [], []⟩)) (.cond (.tmp 15) .skip (.exit 0))) (.seq (.block 1 (.region r81_21 [] (some ⟨[0, 3, 4], true, [], []⟩))) (.region r81_22 [] (some ⟨[0, 3, 4], true, [], []⟩))))
noncomputable def c81_0_14 : MCode := c81_0_14g 
theorem g81_0_14 : c81_0_14.Good Try.prog E81_0 sh81 := ⟨⟨trivial, ⟨trivial, trivial⟩⟩, ⟨trivial, trivial⟩⟩
--CODE 14 0
def S81_0_0g  (α : Type) (x3 : Rows) (x4 : Int) (x5 : Int) (kn : Int → Int → Option α) (k1 : Int → Int → Bool → Option α) : Option α :=
 cK (decide (x5 < ((List.length x3 : Nat) : Int)))
 (rowK x3 x5 [.int .i64]
 (fun (x7 : Int) => kn (if x7 > x4 then x7 else x4) (w64 (x5 + 1))))
 (k1 x4 x5 (decide (x5 < ((List.length x3 : Nat) : Int))))
noncomputable def S81_0_0 (α : Type) (x3 : Rows) (x4 : Int) (x5 : Int) (kn : Int → Int → Option α) (k1 : Int → Int → Bool → Option α) : Option α := S81_0_0g  α x3 x4 x5 kn k1
noncomputable def R81_0_0 (α : Type) (x3 : Rows) (k1 : Int → Int → Bool → Option α) : Nat → Int → Int → Option α
 | 0, _, _ => none
 | n + 1, x4, x5 => S81_0_0 α x3 x4 x5 (R81_0_0 α x3 k1 n) k1
noncomputable def L81_0_0 (α : Type) (x3 : Rows) (k1 : Int → Int → Bool → Option α) (x4 : Int) (x5 : Int) : Option α := R81_0_0 α x3 k1 fuel x4 x5
abbrev TL81_0_0 : Type 1 := (α : Type) → Rows → (Int → Int → Bool → Option α) → Int → Int → Option α
def F81_0_0 (v : TL81_0_0) (α : Type) (K : Exit → St → Option α) : Rows → Int → Int → Option α := fun x3 x4 x5 => v α x3 (fun (y1 : Int) (y2 : Int) (y3 : Bool) => u81_0_1 (K (.exit 0)) x3 y1 y2 y3) x4 x5
theorem r81_0_0g   (α : Type) (K : Exit → St → Option α) (Kn : St → Option α) (x3 : Rows) (x4 : Int) (x5 : Int) : u81_0_0 (fun σ => runM Try.prog (E81_0g ) sh81 (c81_0_14g ) (thenK (fun σ => tidyK td81_14 σ Kn) K) σ) x3 x4 x5 = S81_0_0g  α x3 x4 x5 (fun x4 x5 => u81_0_0 Kn x3 x4 x5) (fun (y1 : Int) (y2 : Int) (y3 : Bool) => u81_0_1 (K (.exit 0)) x3 y1 y2 y3) := by kernel_rfl
theorem r81_0_0 (α : Type) (K : Exit → St → Option α) (Kn : St → Option α) (x3 : Rows) (x4 : Int) (x5 : Int) : u81_0_0 (fun σ => runM Try.prog E81_0 sh81 c81_0_14 (thenK (fun σ => tidyK td81_14 σ Kn) K) σ) x3 x4 x5 = S81_0_0 α x3 x4 x5 (fun x4 x5 => u81_0_0 Kn x3 x4 x5) (fun (y1 : Int) (y2 : Int) (y3 : Bool) => u81_0_1 (K (.exit 0)) x3 y1 y2 y3) := r81_0_0g  α K Kn x3 x4 x5
theorem t81_0_0 (α : Type) (K : Exit → St → Option α) : ∀ (n : Nat) (x3 : Rows) (x4 : Int) (x5 : Int), R81_0_0 α x3 (fun (y1 : Int) (y2 : Int) (y3 : Bool) => u81_0_1 (K (.exit 0)) x3 y1 y2 y3) n x4 x5 = u81_0_0 (loopT (runM Try.prog E81_0 sh81 c81_0_14) td81_14 K n) x3 x4 x5 := by
 intro n
 induction n with
 | zero => intros; rfl
 | succ n ih => intro x3 x4 x5; exact (congrArg (fun kn => S81_0_0 α x3 x4 x5 kn (fun (y1 : Int) (y2 : Int) (y3 : Bool) => u81_0_1 (K (.exit 0)) x3 y1 y2 y3)) (funext fun x4 => funext fun x5 => ih x3 x4 x5)).trans (r81_0_0 α K (loopT (runM Try.prog E81_0 sh81 c81_0_14) td81_14 K n) x3 x4 x5).symm
theorem m81_0_0 : ∀ (α : Type) (K : Exit → St → Option α), F81_0_0 L81_0_0 α K = p81_0_0.unc fun σ => loopT (runM Try.prog E81_0 sh81 c81_0_14) td81_14 K fuel σ := fun α K => funext fun x3 => funext fun x4 => funext fun x5 => t81_0_0 α K fuel x3 x4 x5

/-- slices.Max[[]int,int] -/
abbrev Tf81_0 : Type 1 := (α : Type) → Rows → (Int → Option α) → Option α
def f81_0g (vL81_0_0 : TL81_0_0) (α : Type) (x1 : Rows) (k1 : Int → Option α) : Option α :=
 cK (decide (((List.length x1 : Nat) : Int) < 1))
 (none)
 (rowK x1 0 [.int .i64]
 (fun (x2 : Int) => vL81_0_0 α x1
 (fun (x8 : Int) (x9 : Int) (x10 : Bool) => k1 x8) x2 1))
noncomputable def f81_0 (α : Type) (x1 : Rows) (k1 : Int → Option α) : Option α := f81_0g L81_0_0 α x1 k1
def pa81_0 : PT (List DV) := pA [pV false [dL]]
def Fn81_0 (v : Tf81_0) (α : Type) (k : List RV → Option α) : Rows → Option α := fun x1 => v α x1 (fun (y1 : Int) => ur81_0_0 k y1)
noncomputable def cm81_0g (vL81_0_0 : TL81_0_0) : MCode := (.seq (.region r81_2 [] (some ⟨[0], true, [], []⟩)) (.seq (.seq (.region r81_5 [] (some ⟨[0, 7], true, [], []⟩)) (.cond (.tmp 7) (.region r81_7 [] (some ⟨[0], true, [], []⟩)) .skip)) (.seq (.region r81_9 [] (some ⟨[0, 3], true, [], []⟩)) (.seq (.seq (.region r81_12 [] (some ⟨[0, 3, 4], true, [], []⟩)) (.block 0 (.loop td81_14 [⟨p81_0_0, F81_0_0 vL81_0_0⟩] c81_0_14))) (.seq (.region r81_24 [] (some ⟨[2], true, [], []⟩)) .ret)))))
noncomputable def cm81_0 : MCode := cm81_0g L81_0_0
theorem gm81_0 : cm81_0.Good Try.prog E81_0 sh81 := ⟨trivial, ⟨⟨trivial, ⟨trivial, trivial⟩⟩, ⟨trivial, ⟨⟨trivial, ⟨g81_0_14, m81_0_0, trivial⟩⟩, ⟨trivial, trivial⟩⟩⟩⟩⟩
theorem fm81_0g  (vL81_0_0 : TL81_0_0) (α : Type) (k : List RV → Option α) : Fn81_0 (f81_0g vL81_0_0) α k = pa81_0.unc fun ds => fnM Try.prog (E81_0g ) sh81 (cm81_0g vL81_0_0) rs81 k ds := by kernel_rfl
theorem fm81_0 : ∀ (α : Type) (k : List RV → Option α), Fn81_0 f81_0 α k = pa81_0.unc fun ds => fnM Try.prog E81_0 sh81 cm81_0 rs81 k ds := fm81_0g L81_0_0

theorem is81 : FnIs Try.prog 81 nt81 tr81 tl81 cm81_0.erase rs81 := ⟨Try.f81, Try.func81, rfl, by kernel_rfl, by kernel_rfl, by kernel_rfl⟩
theorem io81_0 : InstOk Try.prog 81 nt81 ⟨pa81_0, Fn81_0 f81_0⟩ := inst_ok eo81_0 followsTry is81 ⟨⟨sh81, cm81_0, by kernel_rfl, gm81_0, fm81_0⟩⟩

/-! ### F123 math.Abs -/
abbrev nt123 : Nat := 7
def sh123 : List (Nat × List Sh) := []
def r123_2 : List AOper := [oO 2 (.mv (.const (.float Go.FloatKind.f64 0)))]
def r123_4 : List AOper := [oM 3 0, oO 4 (.pure (oB (.call { callee := .value (.func 139), args := #[(.tmp 3)], argTypes := #[141] }) 205)), oO 5 (.bin .andNot 205 (.tmp 4) (.const (.int .u64 9223372036854775808))), oO 6 (.pure (oB (.call { callee := .value (.func 140), args := #[(.tmp 5)], argTypes := #[205] }) 141)), oM 2 6]
def tr123 : List (Nat × Tidy) := [(0, ⟨[0], true, [], []⟩), (1, ⟨[2], true, [], []⟩)]
def tl123 : List (Nat × Tidy) := []
def rs123 : List AResV := [.tmp 2]
def pr123_0_0 : PT (List RV) := pRs [pR false [rD (dF .f64)]]
def ur123_0_0 {β : Type} (g : List RV → β) : Nat → β := pr123_0_0.unc g

def E123_0g  : EnvK := EnvK.of [] noSeq
noncomputable def E123_0 : EnvK := E123_0g 
theorem eo123_0 : E123_0.Ok Try.prog := EnvK.of_ok noSeq_ok trivial

/-- math.Abs -/
abbrev Tf123_0 : Type 1 := (α : Type) → Nat → (Nat → Option α) → Option α
def f123_0g  (α : Type) (x1 : Nat) (k1 : Nat → Option α) : Option α :=
 k1 (Int.toNat (iAndNot .u64 ((x1 : Nat) : Int) 9223372036854775808))
noncomputable def f123_0 (α : Type) (x1 : Nat) (k1 : Nat → Option α) : Option α := f123_0g  α x1 k1
def pa123_0 : PT (List DV) := pA [pV false [(dF .f64)]]
def Fn123_0 (v : Tf123_0) (α : Type) (k : List RV → Option α) : Nat → Option α := fun x1 => v α x1 (fun (y1 : Nat) => ur123_0_0 k y1)
noncomputable def cm123_0g  : MCode := (.seq (.region r123_2 [] (some ⟨[0], true, [], []⟩)) (.seq (.region r123_4 [] (some ⟨[2], true, [], []⟩)) .ret))
noncomputable def cm123_0 : MCode := cm123_0g 
theorem gm123_0 : cm123_0.Good Try.prog E123_0 sh123 := ⟨trivial, ⟨trivial, trivial⟩⟩
theorem fm123_0g   (α : Type) (k : List RV → Option α) : Fn123_0 (f123_0g ) α k = pa123_0.unc fun ds => fnM Try.prog (E123_0g ) sh123 (cm123_0g ) rs123 k ds := by kernel_rfl
theorem fm123_0 : ∀ (α : Type) (k : List RV → Option α), Fn123_0 f123_0 α k = pa123_0.unc fun ds => fnM Try.prog E123_0 sh123 cm123_0 rs123 k ds := fm123_0g 

theorem is123 : FnIs Try.prog 123 nt123 tr123 tl123 cm123_0.erase rs123 := ⟨Try.f123, Try.func123, rfl, by kernel_rfl, by kernel_rfl, by kernel_rfl⟩
theorem io123_0 : InstOk Try.prog 123 nt123 ⟨pa123_0, Fn123_0 f123_0⟩ := inst_ok eo123_0 followsTry is123 ⟨⟨sh123, cm123_0, by kernel_rfl, gm123_0, fm123_0⟩⟩

/-! ### F79 math.Trunc -/
abbrev nt79 : Nat := 7
def sh79 : List (Nat × List Sh) := []
def r79_2 : List AOper := [oO 2 (.mv (.const (.float Go.FloatKind.f64 0)))]
def r79_6 : List AOper := [oM 3 0, oO 4 (.pure (oB (.call { callee := .value (.func 121), args := #[(.tmp 3)], argTypes := #[141] }) 141)), oM 2 4]
def r79_8 : List AOper := [oM 5 0, oO 6 (.call 122 [(.tmp 5)]), oM 2 6]
def tr79 : List (Nat × Tidy) := [(0, ⟨[0], true, [], []⟩), (1, ⟨[2], true, [], []⟩), (2, ⟨[2], true, [], []⟩)]
def tl79 : List (Nat × Tidy) := []
def rs79 : List AResV := [.tmp 2]
def pr79_0_0 : PT (List RV) := pRs [pR false [rD (dNan .f64)]]
def ur79_0_0 {β : Type} (g : List RV → β) : β := pr79_0_0.unc g

def E79_0g  : EnvK := EnvK.of [] noSeq
noncomputable def E79_0 : EnvK := E79_0g 
theorem eo79_0 : E79_0.Ok Try.prog := EnvK.of_ok noSeq_ok trivial

/-- math.Trunc -/
abbrev Tf79_0 : Type 1 := (α : Type) → (Option α) → Option α
def f79_0g  (α : Type)  (k1 : Option α) : Option α :=
 k1
noncomputable def f79_0 (α : Type)  (k1 : Option α) : Option α := f79_0g  α  k1
def pa79_0 : PT (List DV) := pA [pV false [(dNan .f64)]]
def Fn79_0 (v : Tf79_0) (α : Type) (k : List RV → Option α) : Option α := v α  (ur79_0_0 k )
noncomputable def cm79_0g  : MCode := (.seq (.region r79_2 [] (some ⟨[0], true, [], []⟩)) (.seq (.cond (.const (.bool true)) (.seq (.region r79_6 [] (some ⟨[2], true, [], []⟩)) .ret) .skip) (.seq (.region r79_8 [] (some ⟨[2], true, [], []⟩)) .ret)))
noncomputable def cm79_0 : MCode := cm79_0g 
theorem gm79_0 : cm79_0.Good Try.prog E79_0 sh79 := ⟨trivial, ⟨⟨⟨trivial, trivial⟩, trivial⟩, ⟨trivial, trivial⟩⟩⟩
theorem fm79_0g   (α : Type) (k : List RV → Option α) : Fn79_0 (f79_0g ) α k = pa79_0.unc fun ds => fnM Try.prog (E79_0g ) sh79 (cm79_0g ) rs79 k ds := by kernel_rfl
theorem fm79_0 : ∀ (α : Type) (k : List RV → Option α), Fn79_0 f79_0 α k = pa79_0.unc fun ds => fnM Try.prog E79_0 sh79 cm79_0 rs79 k ds := fm79_0g 

def pr79_1_0 : PT (List RV) := pRs [pR false [rD (dNan .f64)]]
def ur79_1_0 {β : Type} (g : List RV → β) : β := pr79_1_0.unc g

def pr79_1_1 : PT (List RV) := pRs [pR false [rD (dF .f64)]]
def ur79_1_1 {β : Type} (g : List RV → β) : Nat → β := pr79_1_1.unc g

def E79_1g  : EnvK := EnvK.of [] noSeq
noncomputable def E79_1 : EnvK := E79_1g 
theorem eo79_1 : E79_1.Ok Try.prog := EnvK.of_ok noSeq_ok trivial

/-- math.Trunc -/
abbrev Tf79_1 : Type 1 := (α : Type) → Nat → (Option α) → (Nat → Option α) → Option α
def f79_1g  (α : Type) (x1 : Nat) (k1 : Option α) (k2 : Nat → Option α) : Option α :=
 cK (isNaNb .f64 x1)
 (k1)
 (k2 (truncF x1))
noncomputable def f79_1 (α : Type) (x1 : Nat) (k1 : Option α) (k2 : Nat → Option α) : Option α := f79_1g  α x1 k1 k2
def pa79_1 : PT (List DV) := pA [pV false [(dF .f64)]]
def Fn79_1 (v : Tf79_1) (α : Type) (k : List RV → Option α) : Nat → Option α := fun x1 => v α x1 (ur79_1_0 k ) (fun (y1 : Nat) => ur79_1_1 k y1)
noncomputable def cm79_1g  : MCode := (.seq (.region r79_2 [] (some ⟨[0], true, [], []⟩)) (.seq (.cond (.const (.bool true)) (.seq (.region r79_6 [] (some ⟨[2], true, [], []⟩)) .ret) .skip) (.seq (.region r79_8 [] (some ⟨[2], true, [], []⟩)) .ret)))
noncomputable def cm79_1 : MCode := cm79_1g 
theorem gm79_1 : cm79_1.Good Try.prog E79_1 sh79 := ⟨trivial, ⟨⟨⟨trivial, trivial⟩, trivial⟩, ⟨trivial, trivial⟩⟩⟩
theorem fm79_1g   (α : Type) (k : List RV → Option α) : Fn79_1 (f79_1g ) α k = pa79_1.unc fun ds => fnM Try.prog (E79_1g ) sh79 (cm79_1g ) rs79 k ds := by kernel_rfl
theorem fm79_1 : ∀ (α : Type) (k : List RV → Option α), Fn79_1 f79_1 α k = pa79_1.unc fun ds => fnM Try.prog E79_1 sh79 cm79_1 rs79 k ds := fm79_1g 

theorem is79 : FnIs Try.prog 79 nt79 tr79 tl79 cm79_0.erase rs79 := ⟨Try.f79, Try.func79, rfl, by kernel_rfl, by kernel_rfl, by kernel_rfl⟩
theorem io79_0 : InstOk Try.prog 79 nt79 ⟨pa79_0, Fn79_0 f79_0⟩ := inst_ok eo79_0 followsTry is79 ⟨⟨sh79, cm79_0, by kernel_rfl, gm79_0, fm79_0⟩⟩

theorem io79_1 : InstOk Try.prog 79 nt79 ⟨pa79_1, Fn79_1 f79_1⟩ := inst_ok eo79_1 followsTry is79 ⟨⟨sh79, cm79_1, by kernel_rfl, gm79_1, fm79_1⟩⟩

/-! ### F78 etalon/grow.within -/
abbrev nt78 : Nat := 15
def sh78 : List (Nat × List Sh) := []
def r78_2 : List AOper := [oO 6 (.mv (.const (.bool false)))]
def r78_4 : List AOper := [oM 7 1, oM 8 0, oO 9 (.bin .leq 3 (.tmp 7) (.tmp 8)), oM 10 9, ⟨(some 11), (.mv (.tmp 0)), (some (10, true))⟩, ⟨(some 12), (.mv (.tmp 2)), (some (10, true))⟩, ⟨(some 13), (.bin .leq 3 (.tmp 11) (.tmp 12)), (some (10, true))⟩, oO 14 (.pick (.tmp 10) (.tmp 13) (.const (.bool false))), oM 6 14]
def tr78 : List (Nat × Tidy) := [(0, ⟨[0, 1, 2], true, [], []⟩), (1, ⟨[6], true, [], []⟩)]
def tl78 : List (Nat × Tidy) := []
def rs78 : List AResV := [.tmp 6]
def pr78_0_0 : PT (List RV) := pRs [pR false [rD dB]]
def ur78_0_0 {β : Type} (g : List RV → β) : Bool → β := pr78_0_0.unc g

def E78_0g  : EnvK := EnvK.of [] noSeq
noncomputable def E78_0 : EnvK := E78_0g 
theorem eo78_0 : E78_0.Ok Try.prog := EnvK.of_ok noSeq_ok trivial

/-- etalon/grow.within -/
abbrev Tf78_0 : Type 1 := (α : Type) → Int → Int → Int → (Bool → Option α) → Option α
def f78_0g  (α : Type) (x1 : Int) (x2 : Int) (x3 : Int) (k1 : Bool → Option α) : Option α :=
 cK (decide (x2 ≤ x1))
 (k1 (decide (x1 ≤ x3)))
 (k1 false)
noncomputable def f78_0 (α : Type) (x1 : Int) (x2 : Int) (x3 : Int) (k1 : Bool → Option α) : Option α := f78_0g  α x1 x2 x3 k1
def pa78_0 : PT (List DV) := pA [pV false [(dI .i64)], pV false [(dI .i64)], pV false [(dI .i64)]]
def Fn78_0 (v : Tf78_0) (α : Type) (k : List RV → Option α) : Int → Int → Int → Option α := fun x1 x2 x3 => v α x1 x2 x3 (fun (y1 : Bool) => ur78_0_0 k y1)
noncomputable def cm78_0g  : MCode := (.seq (.region r78_2 [] (some ⟨[0, 1, 2], true, [], []⟩)) (.seq (.region r78_4 [] (some ⟨[6], true, [], []⟩)) .ret))
noncomputable def cm78_0 : MCode := cm78_0g 
theorem gm78_0 : cm78_0.Good Try.prog E78_0 sh78 := ⟨trivial, ⟨trivial, trivial⟩⟩
theorem fm78_0g   (α : Type) (k : List RV → Option α) : Fn78_0 (f78_0g ) α k = pa78_0.unc fun ds => fnM Try.prog (E78_0g ) sh78 (cm78_0g ) rs78 k ds := by kernel_rfl
theorem fm78_0 : ∀ (α : Type) (k : List RV → Option α), Fn78_0 f78_0 α k = pa78_0.unc fun ds => fnM Try.prog E78_0 sh78 cm78_0 rs78 k ds := fm78_0g 

theorem is78 : FnIs Try.prog 78 nt78 tr78 tl78 cm78_0.erase rs78 := ⟨Try.f78, Try.func78, rfl, by kernel_rfl, by kernel_rfl, by kernel_rfl⟩
theorem io78_0 : InstOk Try.prog 78 nt78 ⟨pa78_0, Fn78_0 f78_0⟩ := inst_ok eo78_0 followsTry is78 ⟨⟨sh78, cm78_0, by kernel_rfl, gm78_0, fm78_0⟩⟩

/-! ### F21 etalon/etalonref08.CopySignal -/
abbrev nt21 : Nat := 9
def sh21 : List (Nat × List Sh) := [(5, [.sl]), (8, [.int .i64, .sl])]
def r21_2 : List AOper := [oO 1 (.box (.tmp 0)), oO 2 (.alloc [(.d (.v (.int .i64 0))), .nils])]
def r21_4 : List AOper := [oO 3 (.bslice 1 0 [(.v (.float Go.FloatKind.f32 0))] []), oO 4 (.faddr 1 (.tmp 1)), oO 5 (.load false 1 (.tmp 4)), oO 6 (.append 1 4 (.tmp 3) (.tmp 5)), oO 7 (.faddr 1 (.tmp 1)), ⟨none, (.store 1 (.tmp 7) (.tmp 6)), none⟩]
def r21_6 : List AOper := [oO 8 (.load true 2 (.tmp 1)), ⟨none, (.store 2 (.tmp 2) (.tmp 8)), none⟩]
def tr21 : List (Nat × Tidy) := [(0, ⟨[1, 2], true, [⟨true, 2, 1, 30201, 1⟩], []⟩), (1, ⟨[1, 2], true, [⟨true, 2, 1, 30201, 1⟩], []⟩), (2, ⟨[2], true, [⟨true, 2, 1, 30201, 1⟩], []⟩)]
def tl21 : List (Nat × Tidy) := []
def rs21 : List AResV := [.cell 2 true 2]
def pr21_0_0 : PT (List RV) := pRs [pR true [rD (dI .i64), rO 1]]
def ur21_0_0 {β : Type} (g : List RV → β) : Int → Rows → β := pr21_0_0.unc g

def E21_0g  : EnvK := EnvK.of [] noSeq
noncomputable def E21_0 : EnvK := E21_0g 
theorem eo21_0 : E21_0.Ok Try.prog := EnvK.of_ok noSeq_ok trivial

/-- etalon/etalonref08.CopySignal -/
abbrev Tf21_0 : Type 1 := (α : Type) → Int → Rows → (Int → Rows → Option α) → Option α
def f21_0g  (α : Type) (x1 : Int) (x2 : Rows) (k1 : Int → Rows → Option α) : Option α :=
 gK (apOk 1 4 ([] : Rows) x2) (k1 x1 (([] : Rows) ++ x2))
noncomputable def f21_0 (α : Type) (x1 : Int) (x2 : Rows) (k1 : Int → Rows → Option α) : Option α := f21_0g  α x1 x2 k1
def pa21_0 : PT (List DV) := pA [pV true [(dI .i64), dL]]
def Fn21_0 (v : Tf21_0) (α : Type) (k : List RV → Option α) : Int → Rows → Option α := fun x1 x2 => v α x1 x2 (fun (y1 : Int) (y2 : Rows) => ur21_0_0 k y1 y2)
noncomputable def cm21_0g  : MCode := (.seq (.region r21_2 [] (some ⟨[1, 2], true, [⟨true, 2, 1, 30201, 1⟩], []⟩)) (.seq (.region r21_4 [] (some ⟨[1, 2], true, [⟨true, 2, 1, 30201, 1⟩], []⟩)) (.seq (.region r21_6 [] (some ⟨[2], true, [⟨true, 2, 1, 30201, 1⟩], []⟩)) .ret)))
noncomputable def cm21_0 : MCode := cm21_0g 
theorem gm21_0 : cm21_0.Good Try.prog E21_0 sh21 := ⟨trivial, ⟨trivial, ⟨trivial, trivial⟩⟩⟩
theorem fm21_0g   (α : Type) (k : List RV → Option α) : Fn21_0 (f21_0g ) α k = pa21_0.unc fun ds => fnM Try.prog (E21_0g ) sh21 (cm21_0g ) rs21 k ds := by kernel_rfl
theorem fm21_0 : ∀ (α : Type) (k : List RV → Option α), Fn21_0 f21_0 α k = pa21_0.unc fun ds => fnM Try.prog E21_0 sh21 cm21_0 rs21 k ds := fm21_0g 

theorem is21 : FnIs Try.prog 21 nt21 tr21 tl21 cm21_0.erase rs21 := ⟨Try.f21, Try.func21, rfl, by kernel_rfl, by kernel_rfl, by kernel_rfl⟩
theorem io21_0 : InstOk Try.prog 21 nt21 ⟨pa21_0, Fn21_0 f21_0⟩ := inst_ok eo21_0 followsTry is21 ⟨⟨sh21, cm21_0, by kernel_rfl, gm21_0, fm21_0⟩⟩

/-! ### F86 etalon/etalonbase.IsWhole -/
abbrev nt86 : Nat := 24
def sh86 : List (Nat × List Sh) := []
def r86_2 : List AOper := [oO 2 (.mv (.const (.bool false)))]
def r86_5 : List AOper := [oM 3 0, oM 4 0, oO 5 (.bin .neq 141 (.tmp 3) (.tmp 4)), oM 6 5, ⟨(some 7), (.mv (.tmp 0)), (some (6, false))⟩, ⟨(some 8), (.mv (.tmp 0)), (some (6, false))⟩, ⟨(some 9), (.bin .sub 141 (.tmp 7) (.tmp 8)), (some (6, false))⟩, ⟨(some 10), (.bin .neq 141 (.tmp 9) (.const (.float Go.FloatKind.f64 0))), (some (6, false))⟩, oO 11 (.pick (.tmp 6) (.const (.bool true)) (.tmp 10))]
def r86_8 : List AOper := [oO 2 (.mv (.const (.bool false)))]
def r86_11 : List AOper := [oM 12 0, oO 13 (.bin .geq 141 (.tmp 12) (.const (.float Go.FloatKind.f64 14069741636278059008))), oM 14 13, ⟨(some 15), (.mv (.tmp 0)), (some (14, true))⟩, ⟨(some 16), (.bin .leq 141 (.tmp 15) (.const (.float Go.FloatKind.f64 4846369599423283200))), (some (14, true))⟩, oO 17 (.pick (.tmp 14) (.tmp 16) (.const (.bool false))), oO 18 (.pure (oB (.unOp .not 4 (.tmp 17)) 4))]
def r86_14 : List AOper := [oO 2 (.mv (.const (.bool true)))]
def r86_16 : List AOper := [oM 19 0, oO 20 (.pure (oB (.convert 141 3 (.tmp 19)) 3)), oO 21 (.pure (oB (.convert 3 141 (.tmp 20)) 141)), oM 22 0, oO 23 (.bin .eql 141 (.tmp 21) (.tmp 22)), oM 2 23]
def tr86 : List (Nat × Tidy) := [(0, ⟨[0], true, [], []⟩), (1, ⟨[0, 11], true, [], []⟩), (2, ⟨[2], true, [], []⟩), (3, ⟨[0, 18], true, [], []⟩), (4, ⟨[2], true, [], []⟩), (5, ⟨[2], true, [], []⟩)]
def tl86 : List (Nat × Tidy) := []
def rs86 : List AResV := [.tmp 2]
def pr86_0_0 : PT (List RV) := pRs [pR false [rD dB]]
def ur86_0_0 {β : Type} (g : List RV → β) : Bool → β := pr86_0_0.unc g

def E86_0g  : EnvK := EnvK.of [] noSeq
noncomputable def E86_0 : EnvK := E86_0g 
theorem eo86_0 : E86_0.Ok Try.prog := EnvK.of_ok noSeq_ok trivial

/-- etalon/etalonbase.IsWhole -/
abbrev Tf86_0 : Type 1 := (α : Type) → (Option α) → Option α
def f86_0g  (α : Type)  (k1 : Option α) : Option α :=
 k1
noncomputable def f86_0 (α : Type)  (k1 : Option α) : Option α := f86_0g  α  k1
def pa86_0 : PT (List DV) := pA [pV false [(dNan .f64)]]
def Fn86_0 (v : Tf86_0) (α : Type) (k : List RV → Option α) : Option α := v α  (ur86_0_0 k false)
noncomputable def cm86_0g  : MCode := (.seq (.region r86_2 [] (some ⟨[0], true, [], []⟩)) (.seq (.seq (.region r86_5 [] (some ⟨[0, 11], true, [], []⟩)) (.cond (.tmp 11) (.seq (.region r86_8 [] (some ⟨[2], true, [], []⟩)) .ret) .skip)) (.seq (.seq (.region r86_11 [] (some ⟨[0, 18], true, [], []⟩)) (.cond (.tmp 18) (.seq (.region r86_14 [] (some ⟨[2], true, [], []⟩)) .ret) .skip)) (.seq (.region r86_16 [] (some ⟨[2], true, [], []⟩)) .ret))))
noncomputable def cm86_0 : MCode := cm86_0g 
theorem gm86_0 : cm86_0.Good Try.prog E86_0 sh86 := ⟨trivial, ⟨⟨trivial, ⟨⟨trivial, trivial⟩, trivial⟩⟩, ⟨⟨trivial, ⟨⟨trivial, trivial⟩, trivial⟩⟩, ⟨trivial, trivial⟩⟩⟩⟩
theorem fm86_0g   (α : Type) (k : List RV → Option α) : Fn86_0 (f86_0g ) α k = pa86_0.unc fun ds => fnM Try.prog (E86_0g ) sh86 (cm86_0g ) rs86 k ds := by kernel_rfl
theorem fm86_0 : ∀ (α : Type) (k : List RV → Option α), Fn86_0 f86_0 α k = pa86_0.unc fun ds => fnM Try.prog E86_0 sh86 cm86_0 rs86 k ds := fm86_0g 

def pr86_1_0 : PT (List RV) := pRs [pR false [rD dB]]
def ur86_1_0 {β : Type} (g : List RV → β) : Bool → β := pr86_1_0.unc g

def E86_1g  : EnvK := EnvK.of [] noSeq
noncomputable def E86_1 : EnvK := E86_1g 
theorem eo86_1 : E86_1.Ok Try.prog := EnvK.of_ok noSeq_ok trivial

/-- etalon/etalonbase.IsWhole -/
abbrev Tf86_1 : Type 1 := (α : Type) → Nat → (Bool → Option α) → Option α
def f86_1g  (α : Type) (x1 : Nat) (k1 : Bool → Option α) : Option α :=
 cK ((FloatKind.format .f64).order x1 x1 != some Ordering.eq)
 (k1 false)
 (flN ((FloatKind.format .f64).sub x1 x1)
 (fun (x2 : Nat) => cK ((FloatKind.format .f64).order x2 0 != some Ordering.eq)
 (k1 false)
 (cK ((FloatKind.format .f64).order x1 14069741636278059008 == some Ordering.gt || (FloatKind.format .f64).order x1 14069741636278059008 == some Ordering.eq)
 (cK (!((FloatKind.format .f64).order x1 4846369599423283200 == some Ordering.lt || (FloatKind.format .f64).order x1 4846369599423283200 == some Ordering.eq))
 (k1 true)
 (ivK (f2i .f64 x1 .i64)
 (fun (x3 : Int) => k1 ((FloatKind.format .f64).order (FloatKind.nearest .f64 x3) x1 == some Ordering.eq))))
 (k1 true)))
 (k1 false))
noncomputable def f86_1 (α : Type) (x1 : Nat) (k1 : Bool → Option α) : Option α := f86_1g  α x1 k1
def pa86_1 : PT (List DV) := pA [pV false [(dF .f64)]]
def Fn86_1 (v : Tf86_1) (α : Type) (k : List RV → Option α) : Nat → Option α := fun x1 => v α x1 (fun (y1 : Bool) => ur86_1_0 k y1)
noncomputable def cm86_1g  : MCode := (.seq (.region r86_2 [] (some ⟨[0], true, [], []⟩)) (.seq (.seq (.region r86_5 [] (some ⟨[0, 11], true, [], []⟩)) (.cond (.tmp 11) (.seq (.region r86_8 [] (some ⟨[2], true, [], []⟩)) .ret) .skip)) (.seq (.seq (.region r86_11 [] (some ⟨[0, 18], true, [], []⟩)) (.cond (.tmp 18) (.seq (.region r86_14 [] (some ⟨[2], true, [], []⟩)) .ret) .skip)) (.seq (.region r86_16 [] (some ⟨[2], true, [], []⟩)) .ret))))
noncomputable def cm86_1 : MCode := cm86_1g 
theorem gm86_1 : cm86_1.Good Try.prog E86_1 sh86 := ⟨trivial, ⟨⟨trivial, ⟨⟨trivial, trivial⟩, trivial⟩⟩, ⟨⟨trivial, ⟨⟨trivial, trivial⟩, trivial⟩⟩, ⟨trivial, trivial⟩⟩⟩⟩
theorem fm86_1g   (α : Type) (k : List RV → Option α) : Fn86_1 (f86_1g ) α k = pa86_1.unc fun ds => fnM Try.prog (E86_1g ) sh86 (cm86_1g ) rs86 k ds := by kernel_rfl
theorem fm86_1 : ∀ (α : Type) (k : List RV → Option α), Fn86_1 f86_1 α k = pa86_1.unc fun ds => fnM Try.prog E86_1 sh86 cm86_1 rs86 k ds := fm86_1g 

theorem is86 : FnIs Try.prog 86 nt86 tr86 tl86 cm86_0.erase rs86 := ⟨Try.f86, Try.func86, rfl, by kernel_rfl, by kernel_rfl, by kernel_rfl⟩
theorem io86_0 : InstOk Try.prog 86 nt86 ⟨pa86_0, Fn86_0 f86_0⟩ := inst_ok eo86_0 followsTry is86 ⟨⟨sh86, cm86_0, by kernel_rfl, gm86_0, fm86_0⟩⟩

theorem io86_1 : InstOk Try.prog 86 nt86 ⟨pa86_1, Fn86_1 f86_1⟩ := inst_ok eo86_1 followsTry is86 ⟨⟨sh86, cm86_1, by kernel_rfl, gm86_1, fm86_1⟩⟩

/-! ### F19 etalon/etalonbase.Within -/
abbrev nt19 : Nat := 15
def sh19 : List (Nat × List Sh) := []
def r19_2 : List AOper := [oO 6 (.mv (.const (.bool false)))]
def r19_4 : List AOper := [oM 7 1, oM 8 0, oO 9 (.bin .leq 3 (.tmp 7) (.tmp 8)), oM 10 9, ⟨(some 11), (.mv (.tmp 0)), (some (10, true))⟩, ⟨(some 12), (.mv (.tmp 2)), (some (10, true))⟩, ⟨(some 13), (.bin .leq 3 (.tmp 11) (.tmp 12)), (some (10, true))⟩, oO 14 (.pick (.tmp 10) (.tmp 13) (.const (.bool false))), oM 6 14]
def tr19 : List (Nat × Tidy) := [(0, ⟨[0, 1, 2], true, [], []⟩), (1, ⟨[6], true, [], []⟩)]
def tl19 : List (Nat × Tidy) := []
def rs19 : List AResV := [.tmp 6]
def pr19_0_0 : PT (List RV) := pRs [pR false [rD dB]]
def ur19_0_0 {β : Type} (g : List RV → β) : Bool → β := pr19_0_0.unc g

def E19_0g  : EnvK := EnvK.of [] noSeq
noncomputable def E19_0 : EnvK := E19_0g 
theorem eo19_0 : E19_0.Ok Try.prog := EnvK.of_ok noSeq_ok trivial

/-- etalon/etalonbase.Within -/
abbrev Tf19_0 : Type 1 := (α : Type) → Int → Int → Int → (Bool → Option α) → Option α
def f19_0g  (α : Type) (x1 : Int) (x2 : Int) (x3 : Int) (k1 : Bool → Option α) : Option α :=
 cK (decide (x2 ≤ x1))
 (k1 (decide (x1 ≤ x3)))
 (k1 false)
noncomputable def f19_0 (α : Type) (x1 : Int) (x2 : Int) (x3 : Int) (k1 : Bool → Option α) : Option α := f19_0g  α x1 x2 x3 k1
def pa19_0 : PT (List DV) := pA [pV false [(dI .i64)], pV false [(dI .i64)], pV false [(dI .i64)]]
def Fn19_0 (v : Tf19_0) (α : Type) (k : List RV → Option α) : Int → Int → Int → Option α := fun x1 x2 x3 => v α x1 x2 x3 (fun (y1 : Bool) => ur19_0_0 k y1)
noncomputable def cm19_0g  : MCode := (.seq (.region r19_2 [] (some ⟨[0, 1, 2], true, [], []⟩)) (.seq (.region r19_4 [] (some ⟨[6], true, [], []⟩)) .ret))
noncomputable def cm19_0 : MCode := cm19_0g 
theorem gm19_0 : cm19_0.Good Try.prog E19_0 sh19 := ⟨trivial, ⟨trivial, trivial⟩⟩
theorem fm19_0g   (α : Type) (k : List RV → Option α) : Fn19_0 (f19_0g ) α k = pa19_0.unc fun ds => fnM Try.prog (E19_0g ) sh19 (cm19_0g ) rs19 k ds := by kernel_rfl
theorem fm19_0 : ∀ (α : Type) (k : List RV → Option α), Fn19_0 f19_0 α k = pa19_0.unc fun ds => fnM Try.prog E19_0 sh19 cm19_0 rs19 k ds := fm19_0g 

theorem is19 : FnIs Try.prog 19 nt19 tr19 tl19 cm19_0.erase rs19 := ⟨Try.f19, Try.func19, rfl, by kernel_rfl, by kernel_rfl, by kernel_rfl⟩
theorem io19_0 : InstOk Try.prog 19 nt19 ⟨pa19_0, Fn19_0 f19_0⟩ := inst_ok eo19_0 followsTry is19 ⟨⟨sh19, cm19_0, by kernel_rfl, gm19_0, fm19_0⟩⟩

/-! ### F87 etalon/etalonref08.turn -/
abbrev nt87 : Nat := 40
def sh87 : List (Nat × List Sh) := [(13, [.int .i64]), (16, [.int .i64]), (19, [.int .i64]), (25, [.int .i64]), (26, [.int .i64]), (28, [.int .i64]), (30, [.int .i64]), (33, [.int .i64]), (39, [.bool, .int .i64, .int .i64, .int .i64])]
def r87_2 : List AOper := [oO 5 (.box (.tmp 1)), oO 6 (.box (.tmp 2)), oO 8 (.alloc [(.d (.v (.bool false))), (.d (.v (.int .i64 0))), (.d (.v (.int .i64 0))), (.d (.v (.int .i64 0)))])]
def r87_4 : List AOper := [oM 11 3, oO 12 (.iaddr 1 (some 2) (.tmp 5) (.const (.int .i64 1))), oO 13 (.load false 1 (.tmp 12)), oO 14 (.build [(.d (.v (.bool false))), (.d (.v (.int .i64 0))), (.d (.v (.int .i64 0))), (.d (.v (.int .i64 0)))] [(0, 1, (.tmp 11)), (1, 1, (.const (.int .i64 (-1)))), (3, 1, (.tmp 13))]), oO 9 (.alloc [(.d (.v (.bool false))), (.d (.v (.int .i64 0))), (.d (.v (.int .i64 0))), (.d (.v (.int .i64 0)))]), ⟨none, (.store 4 (.tmp 9) (.tmp 14)), none⟩]
def r87_7 : List AOper := [oO 15 (.iaddr 1 (some 2) (.tmp 5) (.const (.int .i64 0))), oO 16 (.load false 1 (.tmp 15)), oM 10 16]
def td87_9 : Option Tidy := (some ⟨[0, 5, 6, 8, 9, 10], true, [], []⟩)
def r87_12 : List AOper := [oM 17 10, oO 18 (.iaddr 1 (some 2) (.tmp 5) (.const (.int .i64 1))), oO 19 (.load false 1 (.tmp 18)), oO 20 (.bin .lss 3 (.tmp 17) (.tmp 19))]
def r87_17 : List AOper := [oM 23 0, oM 24 10, oO 25 (.iaddr 1 none (.tmp 23) (.tmp 24)), oO 26 (.load false 1 (.tmp 25)), oO 27 (.iaddr 1 (some 2) (.tmp 6) (.const (.int .i64 0))), oO 28 (.load false 1 (.tmp 27)), oO 29 (.iaddr 1 (some 2) (.tmp 6) (.const (.int .i64 1))), oO 30 (.load false 1 (.tmp 29)), oO 31 (.call 19 [(.tmp 26), (.tmp 28), (.tmp 30)])]
def r87_21 : List AOper := [oO 32 (.faddr 1 (.tmp 9)), oO 33 (.load false 1 (.tmp 32)), oO 34 (.bin .lss 3 (.tmp 33) (.const (.int .i64 0)))]
def r87_23 : List AOper := [oM 35 10, oO 36 (.faddr 1 (.tmp 9)), ⟨none, (.store 1 (.tmp 36) (.tmp 35)), none⟩]
def r87_24 : List AOper := [oM 37 10, oO 38 (.faddr 2 (.tmp 9)), ⟨none, (.store 1 (.tmp 38) (.tmp 37)), none⟩]
def r87_25 : List AOper := [oM 21 10, oO 22 (.bin .add 3 (.tmp 21) (.const (.int .i64 1))), oM 10 22]
def r87_27 : List AOper := [oO 39 (.load true 4 (.tmp 9)), ⟨none, (.store 4 (.tmp 8) (.tmp 39)), none⟩]
def tr87 : List (Nat × Tidy) := [(0, ⟨[0, 3, 5, 6, 8], true, [], []⟩), (1, ⟨[0, 5, 6, 8, 9], true, [], []⟩), (2, ⟨[0, 5, 6, 8, 9, 10], true, [], []⟩), (3, ⟨[0, 5, 6, 8, 9, 10, 20], true, [], []⟩), (5, ⟨[0, 5, 6, 8, 9, 10, 31], true, [], []⟩), (6, ⟨[0, 5, 6, 8, 9, 10, 34], true, [], []⟩), (7, ⟨[0, 5, 6, 8, 9, 10], true, [], []⟩), (8, ⟨[0, 5, 6, 8, 9, 10], true, [], []⟩), (4, ⟨[0, 5, 6, 8, 9, 10], true, [], []⟩), (9, ⟨[8], true, [], []⟩)]
def tl87 : List (Nat × Tidy) := [(3, ⟨[0, 5, 6, 8, 9, 10], true, [], []⟩)]
def rs87 : List AResV := [.cell 8 true 4]
def p87_0_0 : PT St := pS [sl 0 (aV false [(cD dL)]), sl 5 (aV false [(cPtr 5 0)]), sl 6 (aV false [(cPtr 6 0)]), sl 8 (aV false [(cPtr 8 0)]), sl 9 (aV false [(cPtr 9 0)]), sl 10 (aV false [(cD (dI .i64))])] [eBox 5 [(cD (dI .i64)), (cD (dI .i64))], eBox 6 [(cD (dI .i64)), (cD (dI .i64))], eBox 8 [(cD dB), (cD (dI .i64)), (cD (dI .i64)), (cD (dI .i64))], eBox 9 [(cD dB), (cD (dI .i64)), (cD (dI .i64)), (cD (dI .i64))]]
def u87_0_0 {β : Type} (g : St → β) : Rows → Int → Int → Int → Int → Int → Bool → Int → Int → Int → Bool → Int → Int → Int → β := p87_0_0.unc g

def p87_0_1 : PT St := pS [sl 0 (aV false [(cD dL)]), sl 5 (aV false [(cPtr 5 0)]), sl 6 (aV false [(cPtr 6 0)]), sl 8 (aV false [(cPtr 8 0)]), sl 9 (aV false [(cPtr 9 0)]), sl 10 (aV false [(cD (dI .i64))]), sl 20 (aV false [(cD dB)])] [eBox 5 [(cD (dI .i64)), (cD (dI .i64))], eBox 6 [(cD (dI .i64)), (cD (dI .i64))], eBox 8 [(cD dB), (cD (dI .i64)), (cD (dI .i64)), (cD (dI .i64))], eBox 9 [(cD dB), (cD (dI .i64)), (cD (dI .i64)), (cD (dI .i64))]]
def u87_0_1 {β : Type} (g : St → β) : Rows → Int → Bool → Int → Int → Int → Int → Bool → Int → Int → Int → Bool → Int → Int → Int → β := p87_0_1.unc g

def pr87_0_0 : PT (List RV) := pRs [pR true [rD dB, rD (dI .i64), rD (dI .i64), rD (dI .i64)]]
def ur87_0_0 {β : Type} (g : List RV → β) : Bool → Int → Int → Int → β := pr87_0_0.unc g

def E87_0g (vf19_0 : Tf19_0) : EnvK := EnvK.of [⟨19, nt19, [⟨pa19_0, Fn19_0 vf19_0⟩]⟩] noSeq
noncomputable def E87_0 : EnvK := E87_0g f19_0
theorem eo87_0 : E87_0.Ok Try.prog := EnvK.of_ok noSeq_ok ⟨⟨io19_0, trivial⟩, trivial⟩

noncomputable def c87_0_9g  : MCode := (.seq (.seq (.region r87_12 [] (some ⟨[0, 5, 6, 8, 9, 10, 20], true, [], []⟩)) (.cond (.tmp 20) .skip (.exit 0))) (.seq (.block 1 (.seq (.region r87_17 [] (some ⟨[0, 5, 6, 8, 9, 10, 31], true, [], []⟩)) (.cond (.tmp 31) (.seq (.seq (.region r87_21 [] (some ⟨[0, 5, 6, 8, 9, 10, 34], true, [], []⟩)) (.cond (.tmp 34) (.region r87_23 [] (some ⟨[0, 5, 6, 8, 9, 10], true, [], []⟩)) .skip)) (.region r87_24 [] (some ⟨[0, 5, 6, 8, 9, 10], true, [], []⟩))) .skip))) (.region r87_25 [] (some ⟨[0, 5, 6, 8, 9, 10], true, [], []⟩))))
noncomputable def c87_0_9 : MCode := c87_0_9g 
theorem g87_0_9 : c87_0_9.Good Try.prog E87_0 sh87 := ⟨⟨trivial, ⟨trivial, trivial⟩⟩, ⟨⟨trivial, ⟨⟨⟨trivial, ⟨trivial, trivial⟩⟩, trivial⟩, trivial⟩⟩, trivial⟩⟩
--CODE 9 0
def S87_0_0g (vf19_0 : Tf19_0) (α : Type) (x7 : Rows) (x10 : Int) (x11 : Int) (x12 : Int) (x8 : Int) (x18 : Int) (x19 : Int) (kn : Int → Int → Int → Option α) (k1 : Int → Bool → Int → Int → Option α) : Option α :=
 cK (decide (x8 < x10))
 (rowK x7 x8 [.int .i64]
 (fun (x22 : Int) => vf19_0 α x22 x11 x12
 (fun (x23 : Bool) => cK x23
 (cK (decide (x18 < 0))
 (kn (w64 (x8 + 1)) x8 x8)
 (kn (w64 (x8 + 1)) x18 x8))
 (kn (w64 (x8 + 1)) x18 x19))))
 (k1 x8 (decide (x8 < x10)) x18 x19)
noncomputable def S87_0_0 (α : Type) (x7 : Rows) (x10 : Int) (x11 : Int) (x12 : Int) (x8 : Int) (x18 : Int) (x19 : Int) (kn : Int → Int → Int → Option α) (k1 : Int → Bool → Int → Int → Option α) : Option α := S87_0_0g f19_0 α x7 x10 x11 x12 x8 x18 x19 kn k1
noncomputable def R87_0_0 (α : Type) (x7 : Rows) (x10 : Int) (x11 : Int) (x12 : Int) (k1 : Int → Bool → Int → Int → Option α) : Nat → Int → Int → Int → Option α
 | 0, _, _, _ => none
 | n + 1, x8, x18, x19 => S87_0_0 α x7 x10 x11 x12 x8 x18 x19 (R87_0_0 α x7 x10 x11 x12 k1 n) k1
noncomputable def L87_0_0 (α : Type) (x7 : Rows) (x10 : Int) (x11 : Int) (x12 : Int) (k1 : Int → Bool → Int → Int → Option α) (x8 : Int) (x18 : Int) (x19 : Int) : Option α := R87_0_0 α x7 x10 x11 x12 k1 fuel x8 x18 x19
abbrev TL87_0_0 : Type 1 := (α : Type) → Rows → Int → Int → Int → (Int → Bool → Int → Int → Option α) → Int → Int → Int → Option α
def F87_0_0 (v : TL87_0_0) (α : Type) (K : Exit → St → Option α) : Rows → Int → Int → Int → Int → Int → Bool → Int → Int → Int → Bool → Int → Int → Int → Option α := fun x7 x8 x9 x10 x11 x12 x13 x14 x15 x16 x17 x18 x19 x20 => v α x7 x10 x11 x12 (fun (y1 : Int) (y2 : Bool) (y3 : Int) (y4 : Int) => u87_0_1 (K (.exit 0)) x7 y1 y2 x9 x10 x11 x12 x13 x14 x15 x16 x17 y3 y4 x20) x8 x18 x19
theorem r87_0_0g (vf19_0 : Tf19_0)  (α : Type) (K : Exit → St → Option α) (Kn : St → Option α) (x7 : Rows) (x8 : Int) (x9 : Int) (x10 : Int) (x11 : Int) (x12 : Int) (x13 : Bool) (x14 : Int) (x15 : Int) (x16 : Int) (x17 : Bool) (x18 : Int) (x19 : Int) (x20 : Int) : u87_0_0 (fun σ => runM Try.prog (E87_0g vf19_0) sh87 (c87_0_9g ) (thenK (fun σ => tidyK td87_9 σ Kn) K) σ) x7 x8 x9 x10 x11 x12 x13 x14 x15 x16 x17 x18 x19 x20 = S87_0_0g vf19_0 α x7 x10 x11 x12 x8 x18 x19 (fun x8 x18 x19 => u87_0_0 Kn x7 x8 x9 x10 x11 x12 x13 x14 x15 x16 x17 x18 x19 x20) (fun (y1 : Int) (y2 : Bool) (y3 : Int) (y4 : Int) => u87_0_1 (K (.exit 0)) x7 y1 y2 x9 x10 x11 x12 x13 x14 x15 x16 x17 y3 y4 x20) := by kernel_rfl
theorem r87_0_0 (α : Type) (K : Exit → St → Option α) (Kn : St → Option α) (x7 : Rows) (x8 : Int) (x9 : Int) (x10 : Int) (x11 : Int) (x12 : Int) (x13 : Bool) (x14 : Int) (x15 : Int) (x16 : Int) (x17 : Bool) (x18 : Int) (x19 : Int) (x20 : Int) : u87_0_0 (fun σ => runM Try.prog E87_0 sh87 c87_0_9 (thenK (fun σ => tidyK td87_9 σ Kn) K) σ) x7 x8 x9 x10 x11 x12 x13 x14 x15 x16 x17 x18 x19 x20 = S87_0_0 α x7 x10 x11 x12 x8 x18 x19 (fun x8 x18 x19 => u87_0_0 Kn x7 x8 x9 x10 x11 x12 x13 x14 x15 x16 x17 x18 x19 x20) (fun (y1 : Int) (y2 : Bool) (y3 : Int) (y4 : Int) => u87_0_1 (K (.exit 0)) x7 y1 y2 x9 x10 x11 x12 x13 x14 x15 x16 x17 y3 y4 x20) := r87_0_0g f19_0 α K Kn x7 x8 x9 x10 x11 x12 x13 x14 x15 x16 x17 x18 x19 x20
theorem t87_0_0 (α : Type) (K : Exit → St → Option α) : ∀ (n : Nat) (x7 : Rows) (x8 : Int) (x9 : Int) (x10 : Int) (x11 : Int) (x12 : Int) (x13 : Bool) (x14 : Int) (x15 : Int) (x16 : Int) (x17 : Bool) (x18 : Int) (x19 : Int) (x20 : Int), R87_0_0 α x7 x10 x11 x12 (fun (y1 : Int) (y2 : Bool) (y3 : Int) (y4 : Int) => u87_0_1 (K (.exit 0)) x7 y1 y2 x9 x10 x11 x12 x13 x14 x15 x16 x17 y3 y4 x20) n x8 x18 x19 = u87_0_0 (loopT (runM Try.prog E87_0 sh87 c87_0_9) td87_9 K n) x7 x8 x9 x10 x11 x12 x13 x14 x15 x16 x17 x18 x19 x20 := by
 intro n
 induction n with
 | zero => intros; rfl
 | succ n ih => intro x7 x8 x9 x10 x11 x12 x13 x14 x15 x16 x17 x18 x19 x20; exact (congrArg (fun kn => S87_0_0 α x7 x10 x11 x12 x8 x18 x19 kn (fun (y1 : Int) (y2 : Bool) (y3 : Int) (y4 : Int) => u87_0_1 (K (.exit 0)) x7 y1 y2 x9 x10 x11 x12 x13 x14 x15 x16 x17 y3 y4 x20)) (funext fun x8 => funext fun x18 => funext fun x19 => ih x7 x8 x9 x10 x11 x12 x13 x14 x15 x16 x17 x18 x19 x20)).trans (r87_0_0 α K (loopT (runM Try.prog E87_0 sh87 c87_0_9) td87_9 K n) x7 x8 x9 x10 x11 x12 x13 x14 x15 x16 x17 x18 x19 x20).symm
theorem m87_0_0 : ∀ (α : Type) (K : Exit → St → Option α), F87_0_0 L87_0_0 α K = p87_0_0.unc fun σ => loopT (runM Try.prog E87_0 sh87 c87_0_9) td87_9 K fuel σ := fun α K => funext fun x7 => funext fun x8 => funext fun x9 => funext fun x10 => funext fun x11 => funext fun x12 => funext fun x13 => funext fun x14 => funext fun x15 => funext fun x16 => funext fun x17 => funext fun x18 => funext fun x19 => funext fun x20 => t87_0_0 α K fuel x7 x8 x9 x10 x11 x12 x13 x14 x15 x16 x17 x18 x19 x20

/-- etalon/etalonref08.turn -/
abbrev Tf87_0 : Type 1 := (α : Type) → Rows → Int → Int → Int → Int → Bool → (Bool → Int → Int → Int → Option α) → Option α
def f87_0g (vL87_0_0 : TL87_0_0) (α : Type) (x1 : Rows) (x2 : Int) (x3 : Int) (x4 : Int) (x5 : Int) (x6 : Bool) (k1 : Bool → Int → Int → Int → Option α) : Option α :=
 vL87_0_0 α x1 x3 x4 x5
 (fun (x24 : Int) (x25 : Bool) (x26 : Int) (x27 : Int) => k1 x6 x26 x27 x3) x2 (-1) 0
noncomputable def f87_0 (α : Type) (x1 : Rows) (x2 : Int) (x3 : Int) (x4 : Int) (x5 : Int) (x6 : Bool) (k1 : Bool → Int → Int → Int → Option α) : Option α := f87_0g L87_0_0 α x1 x2 x3 x4 x5 x6 k1
def pa87_0 : PT (List DV) := pA [pV false [dL], pV true [(dI .i64), (dI .i64)], pV true [(dI .i64), (dI .i64)], pV false [dB]]
def Fn87_0 (v : Tf87_0) (α : Type) (k : List RV → Option α) : Rows → Int → Int → Int → Int → Bool → Option α := fun x1 x2 x3 x4 x5 x6 => v α x1 x2 x3 x4 x5 x6 (fun (y1 : Bool) (y2 : Int) (y3 : Int) (y4 : Int) => ur87_0_0 k y1 y2 y3 y4)
noncomputable def cm87_0g (vL87_0_0 : TL87_0_0) : MCode := (.seq (.region r87_2 [] (some ⟨[0, 3, 5, 6, 8], true, [], []⟩)) (.seq (.region r87_4 [] (some ⟨[0, 5, 6, 8, 9], true, [], []⟩)) (.seq (.seq (.region r87_7 [] (some ⟨[0, 5, 6, 8, 9, 10], true, [], []⟩)) (.block 0 (.loop td87_9 [⟨p87_0_0, F87_0_0 vL87_0_0⟩] c87_0_9))) (.seq (.region r87_27 [] (some ⟨[8], true, [], []⟩)) .ret))))
noncomputable def cm87_0 : MCode := cm87_0g L87_0_0
theorem gm87_0 : cm87_0.Good Try.prog E87_0 sh87 := ⟨trivial, ⟨trivial, ⟨⟨trivial, ⟨g87_0_9, m87_0_0, trivial⟩⟩, ⟨trivial, trivial⟩⟩⟩⟩
theorem fm87_0g (vf19_0 : Tf19_0) (vL87_0_0 : TL87_0_0) (α : Type) (k : List RV → Option α) : Fn87_0 (f87_0g vL87_0_0) α k = pa87_0.unc fun ds => fnM Try.prog (E87_0g vf19_0) sh87 (cm87_0g vL87_0_0) rs87 k ds := by kernel_rfl
theorem fm87_0 : ∀ (α : Type) (k : List RV → Option α), Fn87_0 f87_0 α k = pa87_0.unc fun ds => fnM Try.prog E87_0 sh87 cm87_0 rs87 k ds := fm87_0g f19_0 L87_0_0

theorem is87 : FnIs Try.prog 87 nt87 tr87 tl87 cm87_0.erase rs87 := ⟨Try.f87, Try.func87, rfl, by kernel_rfl, by kernel_rfl, by kernel_rfl⟩
theorem io87_0 : InstOk Try.prog 87 nt87 ⟨pa87_0, Fn87_0 f87_0⟩ := inst_ok eo87_0 followsTry is87 ⟨⟨sh87, cm87_0, by kernel_rfl, gm87_0, fm87_0⟩⟩

/-! ### F124 slices.IndexFunc[[]int,int] -/
abbrev nt124 : Nat := 19
def sh124 : List (Nat × List Sh) := [(14, [.int .i64]), (15, [.int .i64])]
def r124_2 : List AOper := [oO 4 (.mv (.const (.int .i64 0)))]
def r124_5 : List AOper := [oM 6 0, oO 7 (.len (.tmp 6)), oO 8 (.mv (.const (.int .i64 0)))]
def td124_7 : Option Tidy := (some ⟨[0, 1, 7, 8], true, [], []⟩)
def r124_9 : List AOper := [oO 9 (.bin .lss 3 (.tmp 8) (.tmp 7))]
def r124_15 : List AOper := [oM 10 8, oM 5 10]
def r124_17 : List AOper := [oM 11 1, oM 12 0, oM 13 5, oO 14 (.iaddr 1 none (.tmp 12) (.tmp 13)), oO 15 (.load false 1 (.tmp 14)), oO 16 (.calld (.tmp 11) [(.tmp 15)])]
def r124_20 : List AOper := [oM 17 5, oM 4 17]
def r124_21 : List AOper := [oO 18 (.bin .add 3 (.tmp 8) (.const (.int .i64 1))), oM 8 18]
def r124_23 : List AOper := [oO 4 (.mv (.const (.int .i64 (-1))))]
def tr124 : List (Nat × Tidy) := [(0, ⟨[0, 1], true, [], []⟩), (1, ⟨[0, 1, 7, 8], true, [], []⟩), (2, ⟨[0, 1, 7, 8, 9], true, [], []⟩), (3, ⟨[0, 1, 5, 7, 8], true, [], []⟩), (4, ⟨[0, 1, 5, 7, 8, 16], true, [], []⟩), (5, ⟨[4], true, [], []⟩), (6, ⟨[0, 1, 7, 8], true, [], []⟩), (7, ⟨[4], true, [], []⟩)]
def tl124 : List (Nat × Tidy) := [(2, ⟨[0, 1, 7, 8], true, [], []⟩)]
def rs124 : List AResV := [.tmp 4]
def p124_0_0 : PT St := pS [sl 0 (aV false [(cD dL)]), sl 1 (aV false [(cD (dFn 84 [(dP [(dI .i64)] 0), (dP [(dI .i64)] 0)]))]), sl 7 (aV false [(cD (dI .i64))]), sl 8 (aV false [(cD (dI .i64))])] []
def u124_0_0 {β : Type} (g : St → β) : Rows → Int → Int → Int → Int → β := p124_0_0.unc g

def p124_0_1 : PT St := pS [sl 4 (aV false [(cD (dI .i64))])] []
def u124_0_1 {β : Type} (g : St → β) : Int → β := p124_0_1.unc g

def p124_0_2 : PT St := pS [sl 0 (aV false [(cD dL)]), sl 1 (aV false [(cD (dFn 84 [(dP [(dI .i64)] 0), (dP [(dI .i64)] 0)]))]), sl 7 (aV false [(cD (dI .i64))]), sl 8 (aV false [(cD (dI .i64))]), sl 9 (aV false [(cD dB)])] []
def u124_0_2 {β : Type} (g : St → β) : Rows → Int → Int → Int → Int → Bool → β := p124_0_2.unc g

def pr124_0_0 : PT (List RV) := pRs [pR false [rD (dI .i64)]]
def ur124_0_0 {β : Type} (g : List RV → β) : Int → β := pr124_0_0.unc g

def E124_0g (vf84_0 : Tf84_0) : EnvK := EnvK.of [⟨84, nt84, [⟨pa84_0, Fn84_0 vf84_0⟩]⟩] noSeq
noncomputable def E124_0 : EnvK := E124_0g f84_0
theorem eo124_0 : E124_0.Ok Try.prog := EnvK.of_ok noSeq_ok ⟨⟨io84_0, trivial⟩, trivial⟩

noncomputable def c124_0_7g  : MCode := (.seq (.region r124_9 [] (some ⟨[0, 1, 7, 8, 9], true, [], []⟩)) (.seq (.cond (.tmp 9) .skip (.exit 0)) (.seq (.block 1 (.seq (.region r124_15 [] (some ⟨[0, 1, 5, 7, 8], true, [], []⟩)) (.seq (.region r124_17 [] (some ⟨[0, 1, 5, 7, 8, 16], true, [], []⟩)) (.cond (.tmp 16) (.seq (.region r124_20 [] (some ⟨[4], true, [], []⟩)) .ret) .skip)))) (.region r124_21 [] (some ⟨[0, 1, 7, 8], true, [], []⟩)))))
noncomputable def c124_0_7 : MCode := c124_0_7g 
theorem g124_0_7 : c124_0_7.Good Try.prog E124_0 sh124 := ⟨trivial, ⟨⟨trivial, trivial⟩, ⟨⟨trivial, ⟨trivial, ⟨⟨trivial, trivial⟩, trivial⟩⟩⟩, trivial⟩⟩⟩
--CODE 7 0
def S124_0_0g (vf84_0 : Tf84_0) (α : Type) (x4 : Rows) (x5 : Int) (x6 : Int) (x7 : Int) (x8 : Int) (kn : Int → Option α) (k1 : Int → Option α) (k2 : Int → Bool → Option α) : Option α :=
 cK (decide (x8 < x7))
 (rowK x4 x8 [.int .i64]
 (fun (x10 : Int) => vf84_0 α x10 x5 x6
 (fun (x11 : Bool) => cK x11
 (k1 x8)
 (kn (w64 (x8 + 1))))))
 (k2 x8 (decide (x8 < x7)))
noncomputable def S124_0_0 (α : Type) (x4 : Rows) (x5 : Int) (x6 : Int) (x7 : Int) (x8 : Int) (kn : Int → Option α) (k1 : Int → Option α) (k2 : Int → Bool → Option α) : Option α := S124_0_0g f84_0 α x4 x5 x6 x7 x8 kn k1 k2
noncomputable def R124_0_0 (α : Type) (x4 : Rows) (x5 : Int) (x6 : Int) (x7 : Int) (k1 : Int → Option α) (k2 : Int → Bool → Option α) : Nat → Int → Option α
 | 0, _ => none
 | n + 1, x8 => S124_0_0 α x4 x5 x6 x7 x8 (R124_0_0 α x4 x5 x6 x7 k1 k2 n) k1 k2
noncomputable def L124_0_0 (α : Type) (x4 : Rows) (x5 : Int) (x6 : Int) (x7 : Int) (k1 : Int → Option α) (k2 : Int → Bool → Option α) (x8 : Int) : Option α := R124_0_0 α x4 x5 x6 x7 k1 k2 fuel x8
abbrev TL124_0_0 : Type 1 := (α : Type) → Rows → Int → Int → Int → (Int → Option α) → (Int → Bool → Option α) → Int → Option α
def F124_0_0 (v : TL124_0_0) (α : Type) (K : Exit → St → Option α) : Rows → Int → Int → Int → Int → Option α := fun x4 x5 x6 x7 x8 => v α x4 x5 x6 x7 (fun (y1 : Int) => u124_0_1 (K .ret) y1) (fun (y1 : Int) (y2 : Bool) => u124_0_2 (K (.exit 0)) x4 x5 x6 x7 y1 y2) x8
theorem r124_0_0g (vf84_0 : Tf84_0)  (α : Type) (K : Exit → St → Option α) (Kn : St → Option α) (x4 : Rows) (x5 : Int) (x6 : Int) (x7 : Int) (x8 : Int) : u124_0_0 (fun σ => runM Try.prog (E124_0g vf84_0) sh124 (c124_0_7g ) (thenK (fun σ => tidyK td124_7 σ Kn) K) σ) x4 x5 x6 x7 x8 = S124_0_0g vf84_0 α x4 x5 x6 x7 x8 (fun x8 => u124_0_0 Kn x4 x5 x6 x7 x8) (fun (y1 : Int) => u124_0_1 (K .ret) y1) (fun (y1 : Int) (y2 : Bool) => u124_0_2 (K (.exit 0)) x4 x5 x6 x7 y1 y2) := by kernel_rfl
theorem r124_0_0 (α : Type) (K : Exit → St → Option α) (Kn : St → Option α) (x4 : Rows) (x5 : Int) (x6 : Int) (x7 : Int) (x8 : Int) : u124_0_0 (fun σ => runM Try.prog E124_0 sh124 c124_0_7 (thenK (fun σ => tidyK td124_7 σ Kn) K) σ) x4 x5 x6 x7 x8 = S124_0_0 α x4 x5 x6 x7 x8 (fun x8 => u124_0_0 Kn x4 x5 x6 x7 x8) (fun (y1 : Int) => u124_0_1 (K .ret) y1) (fun (y1 : Int) (y2 : Bool) => u124_0_2 (K (.exit 0)) x4 x5 x6 x7 y1 y2) := r124_0_0g f84_0 α K Kn x4 x5 x6 x7 x8
theorem t124_0_0 (α : Type) (K : Exit → St → Option α) : ∀ (n : Nat) (x4 : Rows) (x5 : Int) (x6 : Int) (x7 : Int) (x8 : Int), R124_0_0 α x4 x5 x6 x7 (fun (y1 : Int) => u124_0_1 (K .ret) y1) (fun (y1 : Int) (y2 : Bool) => u124_0_2 (K (.exit 0)) x4 x5 x6 x7 y1 y2) n x8 = u124_0_0 (loopT (runM Try.prog E124_0 sh124 c124_0_7) td124_7 K n) x4 x5 x6 x7 x8 := by
 intro n
 induction n with
 | zero => intros; rfl
 | succ n ih => intro x4 x5 x6 x7 x8; exact (congrArg (fun kn => S124_0_0 α x4 x5 x6 x7 x8 kn (fun (y1 : Int) => u124_0_1 (K .ret) y1) (fun (y1 : Int) (y2 : Bool) => u124_0_2 (K (.exit 0)) x4 x5 x6 x7 y1 y2)) (funext fun x8 => ih x4 x5 x6 x7 x8)).trans (r124_0_0 α K (loopT (runM Try.prog E124_0 sh124 c124_0_7) td124_7 K n) x4 x5 x6 x7 x8).symm
theorem m124_0_0 : ∀ (α : Type) (K : Exit → St → Option α), F124_0_0 L124_0_0 α K = p124_0_0.unc fun σ => loopT (runM Try.prog E124_0 sh124 c124_0_7) td124_7 K fuel σ := fun α K => funext fun x4 => funext fun x5 => funext fun x6 => funext fun x7 => funext fun x8 => t124_0_0 α K fuel x4 x5 x6 x7 x8

/-- slices.IndexFunc[[]int,int] -/
abbrev Tf124_0 : Type 1 := (α : Type) → Rows → Int → Int → (Int → Option α) → Option α
def f124_0g (vL124_0_0 : TL124_0_0) (α : Type) (x1 : Rows) (x2 : Int) (x3 : Int) (k1 : Int → Option α) : Option α :=
 vL124_0_0 α x1 x2 x3 ((List.length x1 : Nat) : Int)
 (fun (x12 : Int) => k1 x12)
 (fun (x13 : Int) (x14 : Bool) => k1 (-1)) 0
noncomputable def f124_0 (α : Type) (x1 : Rows) (x2 : Int) (x3 : Int) (k1 : Int → Option α) : Option α := f124_0g L124_0_0 α x1 x2 x3 k1
def pa124_0 : PT (List DV) := pA [pV false [dL], pV false [(dFn 84 [(dP [(dI .i64)] 0), (dP [(dI .i64)] 0)])]]
def Fn124_0 (v : Tf124_0) (α : Type) (k : List RV → Option α) : Rows → Int → Int → Option α := fun x1 x2 x3 => v α x1 x2 x3 (fun (y1 : Int) => ur124_0_0 k y1)
noncomputable def cm124_0g (vL124_0_0 : TL124_0_0) : MCode := (.seq (.region r124_2 [] (some ⟨[0, 1], true, [], []⟩)) (.seq (.seq (.region r124_5 [] (some ⟨[0, 1, 7, 8], true, [], []⟩)) (.block 0 (.loop td124_7 [⟨p124_0_0, F124_0_0 vL124_0_0⟩] c124_0_7))) (.seq (.region r124_23 [] (some ⟨[4], true, [], []⟩)) .ret)))
noncomputable def cm124_0 : MCode := cm124_0g L124_0_0
theorem gm124_0 : cm124_0.Good Try.prog E124_0 sh124 := ⟨trivial, ⟨⟨trivial, ⟨g124_0_7, m124_0_0, trivial⟩⟩, ⟨trivial, trivial⟩⟩⟩
theorem fm124_0g (vf84_0 : Tf84_0) (vL124_0_0 : TL124_0_0) (α : Type) (k : List RV → Option α) : Fn124_0 (f124_0g vL124_0_0) α k = pa124_0.unc fun ds => fnM Try.prog (E124_0g vf84_0) sh124 (cm124_0g vL124_0_0) rs124 k ds := by kernel_rfl
theorem fm124_0 : ∀ (α : Type) (k : List RV → Option α), Fn124_0 f124_0 α k = pa124_0.unc fun ds => fnM Try.prog E124_0 sh124 cm124_0 rs124 k ds := fm124_0g f84_0 L124_0_0

def p124_1_0 : PT St := pS [sl 0 (aV false [(cD dL)]), sl 1 (aV false [(cD (dFn 85 [(dP [(dI .i64)] 0), (dP [(dI .i64)] 0)]))]), sl 7 (aV false [(cD (dI .i64))]), sl 8 (aV false [(cD (dI .i64))])] []
def u124_1_0 {β : Type} (g : St → β) : Rows → Int → Int → Int → Int → β := p124_1_0.unc g

def p124_1_1 : PT St := pS [sl 4 (aV false [(cD (dI .i64))])] []
def u124_1_1 {β : Type} (g : St → β) : Int → β := p124_1_1.unc g

def p124_1_2 : PT St := pS [sl 0 (aV false [(cD dL)]), sl 1 (aV false [(cD (dFn 85 [(dP [(dI .i64)] 0), (dP [(dI .i64)] 0)]))]), sl 7 (aV false [(cD (dI .i64))]), sl 8 (aV false [(cD (dI .i64))]), sl 9 (aV false [(cD dB)])] []
def u124_1_2 {β : Type} (g : St → β) : Rows → Int → Int → Int → Int → Bool → β := p124_1_2.unc g

def pr124_1_0 : PT (List RV) := pRs [pR false [rD (dI .i64)]]
def ur124_1_0 {β : Type} (g : List RV → β) : Int → β := pr124_1_0.unc g

def E124_1g (vf85_0 : Tf85_0) : EnvK := EnvK.of [⟨85, nt85, [⟨pa85_0, Fn85_0 vf85_0⟩]⟩] noSeq
noncomputable def E124_1 : EnvK := E124_1g f85_0
theorem eo124_1 : E124_1.Ok Try.prog := EnvK.of_ok noSeq_ok ⟨⟨io85_0, trivial⟩, trivial⟩

noncomputable def c124_1_7g  : MCode := (.seq (.region r124_9 [] (some ⟨[0, 1, 7, 8, 9], true, [], []⟩)) (.seq (.cond (.tmp 9) .skip (.exit 0)) (.seq (.block 1 (.seq (.region r124_15 [] (some ⟨[0, 1, 5, 7, 8], true, [], []⟩)) (.seq (.region r124_17 [] (some ⟨[0, 1, 5, 7, 8, 16], true, [], []⟩)) (.cond (.tmp 16) (.seq (.region r124_20 [] (some ⟨[4], true, [], []⟩)) .ret) .skip)))) (.region r124_21 [] (some ⟨[0, 1, 7, 8], true, [], []⟩)))))
noncomputable def c124_1_7 : MCode := c124_1_7g 
theorem g124_1_7 : c124_1_7.Good Try.prog E124_1 sh124 := ⟨trivial, ⟨⟨trivial, trivial⟩, ⟨⟨trivial, ⟨trivial, ⟨⟨trivial, trivial⟩, trivial⟩⟩⟩, trivial⟩⟩⟩
--CODE 7 0
def S124_1_0g (vf85_0 : Tf85_0) (α : Type) (x4 : Rows) (x5 : Int) (x6 : Int) (x7 : Int) (x8 : Int) (kn : Int → Option α) (k1 : Int → Option α) (k2 : Int → Bool → Option α) : Option α :=
 cK (decide (x8 < x7))
 (rowK x4 x8 [.int .i64]
 (fun (x10 : Int) => vf85_0 α x10 x5 x6
 (fun (x11 : Bool) => cK x11
 (k1 x8)
 (kn (w64 (x8 + 1))))))
 (k2 x8 (decide (x8 < x7)))
noncomputable def S124_1_0 (α : Type) (x4 : Rows) (x5 : Int) (x6 : Int) (x7 : Int) (x8 : Int) (kn : Int → Option α) (k1 : Int → Option α) (k2 : Int → Bool → Option α) : Option α := S124_1_0g f85_0 α x4 x5 x6 x7 x8 kn k1 k2
noncomputable def R124_1_0 (α : Type) (x4 : Rows) (x5 : Int) (x6 : Int) (x7 : Int) (k1 : Int → Option α) (k2 : Int → Bool → Option α) : Nat → Int → Option α
 | 0, _ => none
 | n + 1, x8 => S124_1_0 α x4 x5 x6 x7 x8 (R124_1_0 α x4 x5 x6 x7 k1 k2 n) k1 k2
noncomputable def L124_1_0 (α : Type) (x4 : Rows) (x5 : Int) (x6 : Int) (x7 : Int) (k1 : Int → Option α) (k2 : Int → Bool → Option α) (x8 : Int) : Option α := R124_1_0 α x4 x5 x6 x7 k1 k2 fuel x8
abbrev TL124_1_0 : Type 1 := (α : Type) → Rows → Int → Int → Int → (Int → Option α) → (Int → Bool → Option α) → Int → Option α
def F124_1_0 (v : TL124_1_0) (α : Type) (K : Exit → St → Option α) : Rows → Int → Int → Int → Int → Option α := fun x4 x5 x6 x7 x8 => v α x4 x5 x6 x7 (fun (y1 : Int) => u124_1_1 (K .ret) y1) (fun (y1 : Int) (y2 : Bool) => u124_1_2 (K (.exit 0)) x4 x5 x6 x7 y1 y2) x8
theorem r124_1_0g (vf85_0 : Tf85_0)  (α : Type) (K : Exit → St → Option α) (Kn : St → Option α) (x4 : Rows) (x5 : Int) (x6 : Int) (x7 : Int) (x8 : Int) : u124_1_0 (fun σ => runM Try.prog (E124_1g vf85_0) sh124 (c124_1_7g ) (thenK (fun σ => tidyK td124_7 σ Kn) K) σ) x4 x5 x6 x7 x8 = S124_1_0g vf85_0 α x4 x5 x6 x7 x8 (fun x8 => u124_1_0 Kn x4 x5 x6 x7 x8) (fun (y1 : Int) => u124_1_1 (K .ret) y1) (fun (y1 : Int) (y2 : Bool) => u124_1_2 (K (.exit 0)) x4 x5 x6 x7 y1 y2) := by kernel_rfl
theorem r124_1_0 (α : Type) (K : Exit → St → Option α) (Kn : St → Option α) (x4 : Rows) (x5 : Int) (x6 : Int) (x7 : Int) (x8 : Int) : u124_1_0 (fun σ => runM Try.prog E124_1 sh124 c124_1_7 (thenK (fun σ => tidyK td124_7 σ Kn) K) σ) x4 x5 x6 x7 x8 = S124_1_0 α x4 x5 x6 x7 x8 (fun x8 => u124_1_0 Kn x4 x5 x6 x7 x8) (fun (y1 : Int) => u124_1_1 (K .ret) y1) (fun (y1 : Int) (y2 : Bool) => u124_1_2 (K (.exit 0)) x4 x5 x6 x7 y1 y2) := r124_1_0g f85_0 α K Kn x4 x5 x6 x7 x8
theorem t124_1_0 (α : Type) (K : Exit → St → Option α) : ∀ (n : Nat) (x4 : Rows) (x5 : Int) (x6 : Int) (x7 : Int) (x8 : Int), R124_1_0 α x4 x5 x6 x7 (fun (y1 : Int) => u124_1_1 (K .ret) y1) (fun (y1 : Int) (y2 : Bool) => u124_1_2 (K (.exit 0)) x4 x5 x6 x7 y1 y2) n x8 = u124_1_0 (loopT (runM Try.prog E124_1 sh124 c124_1_7) td124_7 K n) x4 x5 x6 x7 x8 := by
 intro n
 induction n with
 | zero => intros; rfl
 | succ n ih => intro x4 x5 x6 x7 x8; exact (congrArg (fun kn => S124_1_0 α x4 x5 x6 x7 x8 kn (fun (y1 : Int) => u124_1_1 (K .ret) y1) (fun (y1 : Int) (y2 : Bool) => u124_1_2 (K (.exit 0)) x4 x5 x6 x7 y1 y2)) (funext fun x8 => ih x4 x5 x6 x7 x8)).trans (r124_1_0 α K (loopT (runM Try.prog E124_1 sh124 c124_1_7) td124_7 K n) x4 x5 x6 x7 x8).symm
theorem m124_1_0 : ∀ (α : Type) (K : Exit → St → Option α), F124_1_0 L124_1_0 α K = p124_1_0.unc fun σ => loopT (runM Try.prog E124_1 sh124 c124_1_7) td124_7 K fuel σ := fun α K => funext fun x4 => funext fun x5 => funext fun x6 => funext fun x7 => funext fun x8 => t124_1_0 α K fuel x4 x5 x6 x7 x8

/-- slices.IndexFunc[[]int,int] -/
abbrev Tf124_1 : Type 1 := (α : Type) → Rows → Int → Int → (Int → Option α) → Option α
def f124_1g (vL124_1_0 : TL124_1_0) (α : Type) (x1 : Rows) (x2 : Int) (x3 : Int) (k1 : Int → Option α) : Option α :=
 vL124_1_0 α x1 x2 x3 ((List.length x1 : Nat) : Int)
 (fun (x12 : Int) => k1 x12)
 (fun (x13 : Int) (x14 : Bool) => k1 (-1)) 0
noncomputable def f124_1 (α : Type) (x1 : Rows) (x2 : Int) (x3 : Int) (k1 : Int → Option α) : Option α := f124_1g L124_1_0 α x1 x2 x3 k1
def pa124_1 : PT (List DV) := pA [pV false [dL], pV false [(dFn 85 [(dP [(dI .i64)] 0), (dP [(dI .i64)] 0)])]]
def Fn124_1 (v : Tf124_1) (α : Type) (k : List RV → Option α) : Rows → Int → Int → Option α := fun x1 x2 x3 => v α x1 x2 x3 (fun (y1 : Int) => ur124_1_0 k y1)
noncomputable def cm124_1g (vL124_1_0 : TL124_1_0) : MCode := (.seq (.region r124_2 [] (some ⟨[0, 1], true, [], []⟩)) (.seq (.seq (.region r124_5 [] (some ⟨[0, 1, 7, 8], true, [], []⟩)) (.block 0 (.loop td124_7 [⟨p124_1_0, F124_1_0 vL124_1_0⟩] c124_1_7))) (.seq (.region r124_23 [] (some ⟨[4], true, [], []⟩)) .ret)))
noncomputable def cm124_1 : MCode := cm124_1g L124_1_0
theorem gm124_1 : cm124_1.Good Try.prog E124_1 sh124 := ⟨trivial, ⟨⟨trivial, ⟨g124_1_7, m124_1_0, trivial⟩⟩, ⟨trivial, trivial⟩⟩⟩
theorem fm124_1g (vf85_0 : Tf85_0) (vL124_1_0 : TL124_1_0) (α : Type) (k : List RV → Option α) : Fn124_1 (f124_1g vL124_1_0) α k = pa124_1.unc fun ds => fnM Try.prog (E124_1g vf85_0) sh124 (cm124_1g vL124_1_0) rs124 k ds := by kernel_rfl
theorem fm124_1 : ∀ (α : Type) (k : List RV → Option α), Fn124_1 f124_1 α k = pa124_1.unc fun ds => fnM Try.prog E124_1 sh124 cm124_1 rs124 k ds := fm124_1g f85_0 L124_1_0

theorem is124 : FnIs Try.prog 124 nt124 tr124 tl124 cm124_0.erase rs124 := ⟨Try.f124, Try.func124, rfl, by kernel_rfl, by kernel_rfl, by kernel_rfl⟩
theorem io124_0 : InstOk Try.prog 124 nt124 ⟨pa124_0, Fn124_0 f124_0⟩ := inst_ok eo124_0 followsTry is124 ⟨⟨sh124, cm124_0, by kernel_rfl, gm124_0, fm124_0⟩⟩

theorem io124_1 : InstOk Try.prog 124 nt124 ⟨pa124_1, Fn124_1 f124_1⟩ := inst_ok eo124_1 followsTry is124 ⟨⟨sh124, cm124_1, by kernel_rfl, gm124_1, fm124_1⟩⟩

/-! ### F80 math.IsInf -/
abbrev nt80 : Nat := 15
def sh80 : List (Nat × List Sh) := []
def r80_2 : List AOper := [oO 4 (.mv (.const (.bool false)))]
def r80_5 : List AOper := [oM 5 1, oO 6 (.bin .eql 3 (.tmp 5) (.const (.int .i64 0)))]
def r80_7 : List AOper := [oM 7 0, oO 8 (.call 123 [(.tmp 7)]), oM 0 8]
def r80_9 : List AOper := [oM 9 1, oO 10 (.bin .lss 3 (.tmp 9) (.const (.int .i64 0)))]
def r80_11 : List AOper := [oM 11 0, oO 12 (.pure (oB (.unOp .neg 141 (.tmp 11)) 141)), oM 0 12]
def r80_13 : List AOper := [oM 13 0, oO 14 (.bin .gtr 141 (.tmp 13) (.const (.float Go.FloatKind.f64 9218868437227405311))), oM 4 14]
def tr80 : List (Nat × Tidy) := [(0, ⟨[0, 1], true, [], []⟩), (1, ⟨[0, 1, 6], true, [], []⟩), (2, ⟨[0], true, [], []⟩), (3, ⟨[0, 10], true, [], []⟩), (4, ⟨[0], true, [], []⟩), (5, ⟨[4], true, [], []⟩)]
def tl80 : List (Nat × Tidy) := []
def rs80 : List AResV := [.tmp 4]
def pr80_0_0 : PT (List RV) := pRs [pR false [rD dB]]
def ur80_0_0 {β : Type} (g : List RV → β) : Bool → β := pr80_0_0.unc g

def E80_0g (vf123_0 : Tf123_0) : EnvK := EnvK.of [⟨123, nt123, [⟨pa123_0, Fn123_0 vf123_0⟩]⟩] noSeq
noncomputable def E80_0 : EnvK := E80_0g f123_0
theorem eo80_0 : E80_0.Ok Try.prog := EnvK.of_ok noSeq_ok ⟨⟨io123_0, trivial⟩, trivial⟩

/-- math.IsInf -/
abbrev Tf80_0 : Type 1 := (α : Type) → Nat → Int → (Bool → Option α) → Option α
def f80_0g (vf123_0 : Tf123_0) (α : Type) (x1 : Nat) (x2 : Int) (k1 : Bool → Option α) : Option α :=
 cK (x2 == 0)
 (vf123_0 α x1
 (fun (x3 : Nat) => k1 ((FloatKind.format .f64).order x3 9218868437227405311 == some Ordering.gt)))
 (cK (decide (x2 < 0))
 (k1 ((FloatKind.format .f64).order (Op.negFloat .f64 x1) 9218868437227405311 == some Ordering.gt))
 (k1 ((FloatKind.format .f64).order x1 9218868437227405311 == some Ordering.gt)))
noncomputable def f80_0 (α : Type) (x1 : Nat) (x2 : Int) (k1 : Bool → Option α) : Option α := f80_0g f123_0 α x1 x2 k1
def pa80_0 : PT (List DV) := pA [pV false [(dF .f64)], pV false [(dI .i64)]]
def Fn80_0 (v : Tf80_0) (α : Type) (k : List RV → Option α) : Nat → Int → Option α := fun x1 x2 => v α x1 x2 (fun (y1 : Bool) => ur80_0_0 k y1)
noncomputable def cm80_0g  : MCode := (.seq (.region r80_2 [] (some ⟨[0, 1], true, [], []⟩)) (.seq (.seq (.region r80_5 [] (some ⟨[0, 1, 6], true, [], []⟩)) (.cond (.tmp 6) (.region r80_7 [] (some ⟨[0], true, [], []⟩)) (.seq (.region r80_9 [] (some ⟨[0, 10], true, [], []⟩)) (.cond (.tmp 10) (.region r80_11 [] (some ⟨[0], true, [], []⟩)) .skip)))) (.seq (.region r80_13 [] (some ⟨[4], true, [], []⟩)) .ret)))
noncomputable def cm80_0 : MCode := cm80_0g 
theorem gm80_0 : cm80_0.Good Try.prog E80_0 sh80 := ⟨trivial, ⟨⟨trivial, ⟨trivial, ⟨trivial, ⟨trivial, trivial⟩⟩⟩⟩, ⟨trivial, trivial⟩⟩⟩
theorem fm80_0g (vf123_0 : Tf123_0)  (α : Type) (k : List RV → Option α) : Fn80_0 (f80_0g vf123_0) α k = pa80_0.unc fun ds => fnM Try.prog (E80_0g vf123_0) sh80 (cm80_0g ) rs80 k ds := by kernel_rfl
theorem fm80_0 : ∀ (α : Type) (k : List RV → Option α), Fn80_0 f80_0 α k = pa80_0.unc fun ds => fnM Try.prog E80_0 sh80 cm80_0 rs80 k ds := fm80_0g f123_0

theorem is80 : FnIs Try.prog 80 nt80 tr80 tl80 cm80_0.erase rs80 := ⟨Try.f80, Try.func80, rfl, by kernel_rfl, by kernel_rfl, by kernel_rfl⟩
theorem io80_0 : InstOk Try.prog 80 nt80 ⟨pa80_0, Fn80_0 f80_0⟩ := inst_ok eo80_0 followsTry is80 ⟨⟨sh80, cm80_0, by kernel_rfl, gm80_0, fm80_0⟩⟩

/-! ### F23 etalon/etalonref08.CheckSignal -/
abbrev nt23 : Nat := 38
def sh23 : List (Nat × List Sh) := [(7, [.int .i64]), (11, [.sl]), (16, [.sl]), (22, [.sl]), (24, [.flt .f32]), (25, [.flt .f32])]
def r23_2 : List AOper := [oO 1 (.box (.tmp 0)), oO 2 (.mv (.const (.int .i64 0))), oO 3 (.mv (.const (.int .i64 0)))]
def r23_5 : List AOper := [oO 6 (.faddr 0 (.tmp 1)), oO 7 (.load false 1 (.tmp 6)), oO 8 (.call 19 [(.tmp 7), (.const (.int .i64 0)), (.const (.int .i64 1000000))]), oO 9 (.pure (oB (.unOp .not 4 (.tmp 8)) 4))]
def r23_8 : List AOper := [oO 2 (.mv (.const (.int .i64 0))), oO 3 (.mv (.const (.int .i64 2)))]
def r23_11 : List AOper := [oO 10 (.faddr 1 (.tmp 1)), oO 11 (.load false 1 (.tmp 10)), oO 12 (.len (.tmp 11)), oO 13 (.bin .gtr 3 (.tmp 12) (.const (.int .i64 200)))]
def r23_14 : List AOper := [oO 2 (.mv (.const (.int .i64 0))), oO 3 (.mv (.const (.int .i64 8)))]
def r23_17 : List AOper := [oO 4 (.mv (.const (.int .i64 0)))]
def td23_19 : Option Tidy := (some ⟨[1, 4], true, [⟨true, 1, 1, 30101, 1⟩], []⟩)
def r23_22 : List AOper := [oM 14 4, oO 15 (.faddr 1 (.tmp 1)), oO 16 (.load false 1 (.tmp 15)), oO 17 (.len (.tmp 16)), oO 18 (.bin .lss 3 (.tmp 14) (.tmp 17))]
def r23_27 : List AOper := [oO 21 (.faddr 1 (.tmp 1)), oO 22 (.load false 1 (.tmp 21)), oM 23 4, oO 24 (.iaddr 1 none (.tmp 22) (.tmp 23)), oO 25 (.load false 1 (.tmp 24)), oO 26 (.pure (oB (.convert 52 141 (.tmp 25)) 141)), oM 5 26]
def r23_30 : List AOper := [oM 27 5, oO 28 (.call 86 [(.tmp 27)]), oO 29 (.pure (oB (.unOp .not 4 (.tmp 28)) 4))]
def r23_33 : List AOper := [oM 30 4, oM 2 30, oO 3 (.mv (.const (.int .i64 27)))]
def r23_35 : List AOper := [oM 31 5, oO 32 (.bin .lss 141 (.tmp 31) (.const (.float Go.FloatKind.f64 0))), oM 33 32, ⟨(some 34), (.mv (.tmp 5)), (some (33, false))⟩, ⟨(some 35), (.bin .gtr 141 (.tmp 34) (.const (.float Go.FloatKind.f64 4696837146684686336))), (some (33, false))⟩, oO 36 (.pick (.tmp 33) (.const (.bool true)) (.tmp 35))]
def r23_38 : List AOper := [oM 37 4, oM 2 37, oO 3 (.mv (.const (.int .i64 2)))]
def r23_39 : List AOper := [oM 19 4, oO 20 (.bin .add 3 (.tmp 19) (.const (.int .i64 1))), oM 4 20]
def r23_41 : List AOper := [oO 2 (.mv (.const (.int .i64 0))), oO 3 (.mv (.const (.int .i64 0)))]
def tr23 : List (Nat × Tidy) := [(0, ⟨[1], true, [], []⟩), (1, ⟨[1, 9], true, [], []⟩), (2, ⟨[2, 3], true, [], []⟩), (3, ⟨[1, 13], true, [], []⟩), (4, ⟨[2, 3], true, [], []⟩), (5, ⟨[1, 4], true, [], []⟩), (6, ⟨[1, 4, 18], true, [], []⟩), (8, ⟨[1, 4, 5], true, [], []⟩), (9, ⟨[1, 4, 5, 29], true, [], []⟩), (10, ⟨[2, 3], true, [], []⟩), (11, ⟨[1, 4, 36], true, [], []⟩), (12, ⟨[2, 3], true, [], []⟩), (7, ⟨[1, 4], true, [], []⟩), (13, ⟨[2, 3], true, [], []⟩)]
def tl23 : List (Nat × Tidy) := [(6, ⟨[1, 4], true, [⟨true, 1, 1, 30101, 1⟩], []⟩)]
def rs23 : List AResV := [.tmp 2, .tmp 3]
def p23_0_0 : PT St := pS [sl 1 (aV false [(cPtr 1 0)]), sl 4 (aV false [(cD (dI .i64))]), sl 18 (aV false [(cD dB)])] [eBox 1 [(cD (dI .i64)), (cD dL)]]
def u23_0_0 {β : Type} (g : St → β) : Int → Bool → Int → Rows → β := p23_0_0.unc g

def p23_0_1 : PT St := pS [sl 1 (aV false [(cPtr 1 0)]), sl 4 (aV false [(cD (dI .i64))]), sl 5 (aV false [(cD (dNan .f64))])] [eBox 1 [(cD (dI .i64)), (cD dL)]]
def u23_0_1 {β : Type} (g : St → β) : Int → Int → Rows → β := p23_0_1.unc g

def p23_0_2 : PT St := pS [sl 1 (aV false [(cPtr 1 0)]), sl 4 (aV false [(cD (dI .i64))]), sl 5 (aV false [(cD (dF .f64))])] [eBox 1 [(cD (dI .i64)), (cD dL)]]
def u23_0_2 {β : Type} (g : St → β) : Int → Nat → Int → Rows → β := p23_0_2.unc g

def p23_0_3 : PT St := pS [sl 1 (aV false [(cPtr 1 0)]), sl 4 (aV false [(cD (dI .i64))])] [eBox 1 [(cD (dI .i64)), (cD dL)]]
def u23_0_3 {β : Type} (g : St → β) : Int → Int → Rows → β := p23_0_3.unc g

def p23_0_4 : PT St := pS [sl 2 (aV false [(cD (dI .i64))]), sl 3 (aV false [(cD (dI .i64))])] []
def u23_0_4 {β : Type} (g : St → β) : Int → Int → β := p23_0_4.unc g

def pr23_0_0 : PT (List RV) := pRs [pR false [rD (dI .i64)], pR false [rD (dI .i64)]]
def ur23_0_0 {β : Type} (g : List RV → β) : Int → Int → β := pr23_0_0.unc g

def E23_0g (vf19_0 : Tf19_0) (vf86_0 : Tf86_0) (vf86_1 : Tf86_1) : EnvK := EnvK.of [⟨19, nt19, [⟨pa19_0, Fn19_0 vf19_0⟩]⟩, ⟨86, nt86, [⟨pa86_0, Fn86_0 vf86_0⟩, ⟨pa86_1, Fn86_1 vf86_1⟩]⟩] noSeq
noncomputable def E23_0 : EnvK := E23_0g f19_0 f86_0 f86_1
theorem eo23_0 : E23_0.Ok Try.prog := EnvK.of_ok noSeq_ok ⟨⟨io19_0, trivial⟩, ⟨io86_0, io86_1, trivial⟩, trivial⟩

noncomputable def c23_0_26g  : MCode := (.region r23_27 [] (some ⟨[1, 4, 5], true, [], []⟩))
noncomputable def c23_0_26 : MCode := c23_0_26g 
theorem g23_0_26 : c23_0_26.Good Try.prog E23_0 sh23 := trivial
--CODE 26 0
abbrev TJ23_0_0 : Type 1 := (α : Type) → Int → Rows → (Option α) → (Nat → Option α) → Option α
def J23_0_0g  (α : Type) (x8 : Int) (x11 : Rows) (k1 : Option α) (k2 : Nat → Option α) : Option α :=
 rowK x11 x8 [.flt .f32]
 (fun (x13 : Nat) => cK (isNaNb .f32 x13)
 (k1)
 (flK (f2f .f32 x13 .f64)
 (fun (x14 : Nat) => k2 x14)))
noncomputable def J23_0_0 (α : Type) (x8 : Int) (x11 : Rows) (k1 : Option α) (k2 : Nat → Option α) : Option α := J23_0_0g  α x8 x11 k1 k2
def F23_0_0 (v : TJ23_0_0) (α : Type) (K : Exit → St → Option α) : Int → Bool → Int → Rows → Option α := fun x8 x9 x10 x11 => v α x8 x11 (u23_0_1 (K .normal) x8 x10 x11) (fun (y1 : Nat) => u23_0_2 (K .normal) x8 y1 x10 x11) 
theorem m23_0_0g (vf19_0 : Tf19_0) (vf86_0 : Tf86_0) (vf86_1 : Tf86_1)  (α : Type) (K : Exit → St → Option α) : F23_0_0 (J23_0_0g ) α K = p23_0_0.unc fun σ => runM Try.prog (E23_0g vf19_0 vf86_0 vf86_1) sh23 (c23_0_26g ) K σ := by kernel_rfl
theorem m23_0_0 : ∀ (α : Type) (K : Exit → St → Option α), F23_0_0 J23_0_0 α K = p23_0_0.unc fun σ => runM Try.prog E23_0 sh23 c23_0_26 K σ := m23_0_0g f19_0 f86_0 f86_1

noncomputable def c23_0_19g (vJ23_0_0 : TJ23_0_0) : MCode := (.seq (.seq (.region r23_22 [] (some ⟨[1, 4, 18], true, [], []⟩)) (.cond (.tmp 18) .skip (.exit 0))) (.seq (.block 1 (.seq (.mark [⟨p23_0_0, F23_0_0 vJ23_0_0⟩] c23_0_26) (.seq (.seq (.region r23_30 [] (some ⟨[1, 4, 5, 29], true, [], []⟩)) (.cond (.tmp 29) (.seq (.region r23_33 [] (some ⟨[2, 3], true, [], []⟩)) .ret) .skip)) (.seq (.region r23_35 [] (some ⟨[1, 4, 36], true, [], []⟩)) (.cond (.tmp 36) (.seq (.region r23_38 [] (some ⟨[2, 3], true, [], []⟩)) .ret) .skip))))) (.region r23_39 [] (some ⟨[1, 4], true, [], []⟩))))
noncomputable def c23_0_19 : MCode := c23_0_19g J23_0_0
theorem g23_0_19 : c23_0_19.Good Try.prog E23_0 sh23 := ⟨⟨trivial, ⟨trivial, trivial⟩⟩, ⟨⟨⟨g23_0_26, m23_0_0, trivial⟩, ⟨⟨trivial, ⟨⟨trivial, trivial⟩, trivial⟩⟩, ⟨trivial, ⟨⟨trivial, trivial⟩, trivial⟩⟩⟩⟩, trivial⟩⟩
--CODE 19 0
def S23_0_1g (vJ23_0_0 : TJ23_0_0) (vf86_0 : Tf86_0) (vf86_1 : Tf86_1) (α : Type) (x6 : Rows) (x4 : Int) (kn : Int → Option α) (k1 : Int → Int → Option α) (k2 : Int → Bool → Option α) : Option α :=
 cK (decide (x4 < ((List.length x6 : Nat) : Int)))
 (vJ23_0_0 α x4 x6
 (vf86_0 α 
 (k1 x4 27))
 (fun (x15 : Nat) => vf86_1 α x15
 (fun (x17 : Bool) => cK (!x17)
 (k1 x4 27)
 (cK ((FloatKind.format .f64).order x15 0 == some Ordering.lt)
 (k1 x4 2)
 (cK ((FloatKind.format .f64).order x15 4696837146684686336 == some Ordering.gt)
 (k1 x4 2)
 (kn (w64 (x4 + 1))))))))
 (k2 x4 (decide (x4 < ((List.length x6 : Nat) : Int))))
noncomputable def S23_0_1 (α : Type) (x6 : Rows) (x4 : Int) (kn : Int → Option α) (k1 : Int → Int → Option α) (k2 : Int → Bool → Option α) : Option α := S23_0_1g J23_0_0 f86_0 f86_1 α x6 x4 kn k1 k2
noncomputable def R23_0_1 (α : Type) (x6 : Rows) (k1 : Int → Int → Option α) (k2 : Int → Bool → Option α) : Nat → Int → Option α
 | 0, _ => none
 | n + 1, x4 => S23_0_1 α x6 x4 (R23_0_1 α x6 k1 k2 n) k1 k2
noncomputable def L23_0_1 (α : Type) (x6 : Rows) (k1 : Int → Int → Option α) (k2 : Int → Bool → Option α) (x4 : Int) : Option α := R23_0_1 α x6 k1 k2 fuel x4
abbrev TL23_0_1 : Type 1 := (α : Type) → Rows → (Int → Int → Option α) → (Int → Bool → Option α) → Int → Option α
def F23_0_1 (v : TL23_0_1) (α : Type) (K : Exit → St → Option α) : Int → Int → Rows → Option α := fun x4 x5 x6 => v α x6 (fun (y1 : Int) (y2 : Int) => u23_0_4 (K .ret) y1 y2) (fun (y1 : Int) (y2 : Bool) => u23_0_0 (K (.exit 0)) y1 y2 x5 x6) x4
theorem r23_0_1g (vf19_0 : Tf19_0) (vf86_0 : Tf86_0) (vf86_1 : Tf86_1) (vJ23_0_0 : TJ23_0_0) (α : Type) (K : Exit → St → Option α) (Kn : St → Option α) (x4 : Int) (x5 : Int) (x6 : Rows) : u23_0_3 (fun σ => runM Try.prog (E23_0g vf19_0 vf86_0 vf86_1) sh23 (c23_0_19g vJ23_0_0) (thenK (fun σ => tidyK td23_19 σ Kn) K) σ) x4 x5 x6 = S23_0_1g vJ23_0_0 vf86_0 vf86_1 α x6 x4 (fun x4 => u23_0_3 Kn x4 x5 x6) (fun (y1 : Int) (y2 : Int) => u23_0_4 (K .ret) y1 y2) (fun (y1 : Int) (y2 : Bool) => u23_0_0 (K (.exit 0)) y1 y2 x5 x6) := by kernel_rfl
theorem r23_0_1 (α : Type) (K : Exit → St → Option α) (Kn : St → Option α) (x4 : Int) (x5 : Int) (x6 : Rows) : u23_0_3 (fun σ => runM Try.prog E23_0 sh23 c23_0_19 (thenK (fun σ => tidyK td23_19 σ Kn) K) σ) x4 x5 x6 = S23_0_1 α x6 x4 (fun x4 => u23_0_3 Kn x4 x5 x6) (fun (y1 : Int) (y2 : Int) => u23_0_4 (K .ret) y1 y2) (fun (y1 : Int) (y2 : Bool) => u23_0_0 (K (.exit 0)) y1 y2 x5 x6) := r23_0_1g f19_0 f86_0 f86_1 J23_0_0 α K Kn x4 x5 x6
theorem t23_0_1 (α : Type) (K : Exit → St → Option α) : ∀ (n : Nat) (x4 : Int) (x5 : Int) (x6 : Rows), R23_0_1 α x6 (fun (y1 : Int) (y2 : Int) => u23_0_4 (K .ret) y1 y2) (fun (y1 : Int) (y2 : Bool) => u23_0_0 (K (.exit 0)) y1 y2 x5 x6) n x4 = u23_0_3 (loopT (runM Try.prog E23_0 sh23 c23_0_19) td23_19 K n) x4 x5 x6 := by
 intro n
 induction n with
 | zero => intros; rfl
 | succ n ih => intro x4 x5 x6; exact (congrArg (fun kn => S23_0_1 α x6 x4 kn (fun (y1 : Int) (y2 : Int) => u23_0_4 (K .ret) y1 y2) (fun (y1 : Int) (y2 : Bool) => u23_0_0 (K (.exit 0)) y1 y2 x5 x6)) (funext fun x4 => ih x4 x5 x6)).trans (r23_0_1 α K (loopT (runM Try.prog E23_0 sh23 c23_0_19) td23_19 K n) x4 x5 x6).symm
theorem m23_0_1 : ∀ (α : Type) (K : Exit → St → Option α), F23_0_1 L23_0_1 α K = p23_0_3.unc fun σ => loopT (runM Try.prog E23_0 sh23 c23_0_19) td23_19 K fuel σ := fun α K => funext fun x4 => funext fun x5 => funext fun x6 => t23_0_1 α K fuel x4 x5 x6

/-- etalon/etalonref08.CheckSignal -/
abbrev Tf23_0 : Type 1 := (α : Type) → Int → Rows → (Int → Int → Option α) → Option α
def f23_0g (vL23_0_1 : TL23_0_1) (vf19_0 : Tf19_0) (α : Type) (x1 : Int) (x2 : Rows) (k1 : Int → Int → Option α) : Option α :=
 vf19_0 α x1 0 1000000
 (fun (x3 : Bool) => cK (!x3)
 (k1 0 2)
 (cK (decide (200 < ((List.length x2 : Nat) : Int)))
 (k1 0 8)
 (vL23_0_1 α x2
 (fun (x18 : Int) (x19 : Int) => k1 x18 x19)
 (fun (x20 : Int) (x21 : Bool) => k1 0 0) 0)))
noncomputable def f23_0 (α : Type) (x1 : Int) (x2 : Rows) (k1 : Int → Int → Option α) : Option α := f23_0g L23_0_1 f19_0 α x1 x2 k1
def pa23_0 : PT (List DV) := pA [pV true [(dI .i64), dL]]
def Fn23_0 (v : Tf23_0) (α : Type) (k : List RV → Option α) : Int → Rows → Option α := fun x1 x2 => v α x1 x2 (fun (y1 : Int) (y2 : Int) => ur23_0_0 k y1 y2)
noncomputable def cm23_0g (vL23_0_1 : TL23_0_1) : MCode := (.seq (.region r23_2 [] (some ⟨[1], true, [], []⟩)) (.seq (.seq (.region r23_5 [] (some ⟨[1, 9], true, [], []⟩)) (.cond (.tmp 9) (.seq (.region r23_8 [] (some ⟨[2, 3], true, [], []⟩)) .ret) .skip)) (.seq (.seq (.region r23_11 [] (some ⟨[1, 13], true, [], []⟩)) (.cond (.tmp 13) (.seq (.region r23_14 [] (some ⟨[2, 3], true, [], []⟩)) .ret) .skip)) (.seq (.seq (.region r23_17 [] (some ⟨[1, 4], true, [], []⟩)) (.block 0 (.loop td23_19 [⟨p23_0_3, F23_0_1 vL23_0_1⟩] c23_0_19))) (.seq (.region r23_41 [] (some ⟨[2, 3], true, [], []⟩)) .ret)))))
noncomputable def cm23_0 : MCode := cm23_0g L23_0_1
theorem gm23_0 : cm23_0.Good Try.prog E23_0 sh23 := ⟨trivial, ⟨⟨trivial, ⟨⟨trivial, trivial⟩, trivial⟩⟩, ⟨⟨trivial, ⟨⟨trivial, trivial⟩, trivial⟩⟩, ⟨⟨trivial, ⟨g23_0_19, m23_0_1, trivial⟩⟩, ⟨trivial, trivial⟩⟩⟩⟩⟩
theorem fm23_0g (vf19_0 : Tf19_0) (vf86_0 : Tf86_0) (vf86_1 : Tf86_1) (vL23_0_1 : TL23_0_1) (α : Type) (k : List RV → Option α) : Fn23_0 (f23_0g vL23_0_1 vf19_0) α k = pa23_0.unc fun ds => fnM Try.prog (E23_0g vf19_0 vf86_0 vf86_1) sh23 (cm23_0g vL23_0_1) rs23 k ds := by kernel_rfl
theorem fm23_0 : ∀ (α : Type) (k : List RV → Option α), Fn23_0 f23_0 α k = pa23_0.unc fun ds => fnM Try.prog E23_0 sh23 cm23_0 rs23 k ds := fm23_0g f19_0 f86_0 f86_1 L23_0_1

theorem is23 : FnIs Try.prog 23 nt23 tr23 tl23 cm23_0.erase rs23 := ⟨Try.f23, Try.func23, rfl, by kernel_rfl, by kernel_rfl, by kernel_rfl⟩
theorem io23_0 : InstOk Try.prog 23 nt23 ⟨pa23_0, Fn23_0 f23_0⟩ := inst_ok eo23_0 followsTry is23 ⟨⟨sh23, cm23_0, by kernel_rfl, gm23_0, fm23_0⟩⟩

/-! ### F24 etalon/etalonref08.Turns -/
abbrev nt24 : Nat := 125
def sh24 : List (Nat × List Sh) := [(14, [.sl]), (21, [.sl]), (23, [.flt .f32]), (24, [.flt .f32]), (36, [.int .i64]), (37, [.int .i64]), (40, [.int .i64]), (41, [.int .i64]), (51, [.int .i64]), (52, [.int .i64]), (57, [.int .i64]), (58, [.int .i64]), (66, [.int .i64]), (67, [.int .i64]), (70, [.int .i64]), (83, [.int .i64]), (97, [.int .i64]), (98, [.int .i64]), (102, [.int .i64]), (116, [.int .i64])]
def r24_2 : List AOper := [oO 1 (.box (.tmp 0)), oO 2 (.mv (.const (.slice none 0 0)))]
def r24_4 : List AOper := [oO 3 (.mv (.const (.slice none 0 0)))]
def r24_6 : List AOper := [oO 4 (.mv (.const (.slice none 0 0)))]
def r24_9 : List AOper := [oO 5 (.mv (.const (.int .i64 0)))]
def td24_11 : Option Tidy := (some ⟨[1, 3, 4, 5], true, [⟨false, 3, 0, 20003, 4⟩, ⟨false, 4, 0, 20004, 1⟩, ⟨true, 1, 1, 30101, 1⟩], []⟩)
def r24_14 : List AOper := [oM 12 5, oO 13 (.faddr 1 (.tmp 1)), oO 14 (.load false 1 (.tmp 13)), oO 15 (.len (.tmp 14)), oO 16 (.bin .lss 3 (.tmp 12) (.tmp 15))]
def r24_18 : List AOper := [oM 19 4, oO 20 (.faddr 1 (.tmp 1)), oO 21 (.load false 1 (.tmp 20)), oM 22 5, oO 23 (.iaddr 1 none (.tmp 21) (.tmp 22)), oO 24 (.load false 1 (.tmp 23)), oO 25 (.pure (oB (.convert 52 3 (.tmp 24)) 3)), oO 26 (.bslice 1 1 [(.v (.int .i64 0))] [(0, (.tmp 25))]), oO 27 (.append 1 8 (.tmp 19) (.tmp 26)), oM 4 27]
def r24_19 : List AOper := [oM 17 5, oO 18 (.bin .add 3 (.tmp 17) (.const (.int .i64 1))), oM 5 18]
def r24_21 : List AOper := [oO 6 (.mv (.const (.int .i64 0))), oO 7 (.mv (.const (.int .i64 0)))]
def r24_24 : List AOper := [oO 8 (.mv (.const (.int .i64 1)))]
def td24_26 : Option Tidy := (some ⟨[1, 3, 4, 6, 7, 8], true, [⟨false, 3, 0, 20003, 4⟩, ⟨false, 4, 0, 20004, 1⟩, ⟨true, 1, 1, 30101, 1⟩], []⟩)
def r24_29 : List AOper := [oM 28 8, oM 29 4, oO 30 (.len (.tmp 29)), oO 31 (.bin .lss 3 (.tmp 28) (.tmp 30))]
def r24_34 : List AOper := [oM 34 4, oM 35 8, oO 36 (.iaddr 1 none (.tmp 34) (.tmp 35)), oO 37 (.load false 1 (.tmp 36)), oM 38 4, oM 39 8, oO 40 (.iaddr 1 none (.tmp 38) (.tmp 39)), oO 41 (.load false 1 (.tmp 40)), oM 9 37, oM 10 41]
def r24_37 : List AOper := [oM 42 7, oM 11 42]
def td24_39 : Option Tidy := (some ⟨[1, 3, 4, 6, 7, 8, 9, 10, 11], true, [⟨false, 3, 0, 20003, 4⟩, ⟨false, 4, 0, 20004, 1⟩, ⟨true, 1, 1, 30101, 1⟩], []⟩)
def r24_42 : List AOper := [oM 43 11, oM 44 8, oO 45 (.bin .lss 3 (.tmp 43) (.tmp 44))]
def r24_46 : List AOper := [oM 48 9, oM 49 4, oM 50 11, oO 51 (.iaddr 1 none (.tmp 49) (.tmp 50)), oO 52 (.load false 1 (.tmp 51)), oO 53 (.pure (oB (.call { callee := .builtin .max, args := #[(.tmp 48), (.tmp 52)], argTypes := #[3, 3] }) 3)), oM 54 10, oM 55 4, oM 56 11, oO 57 (.iaddr 1 none (.tmp 55) (.tmp 56)), oO 58 (.load false 1 (.tmp 57)), oO 59 (.pure (oB (.call { callee := .builtin .min, args := #[(.tmp 54), (.tmp 58)], argTypes := #[3, 3] }) 3)), oM 9 53, oM 10 59]
def r24_47 : List AOper := [oM 46 11, oO 47 (.bin .add 3 (.tmp 46) (.const (.int .i64 1))), oM 11 47]
def r24_49 : List AOper := [oM 60 6, oO 61 (.bin .neq 3 (.tmp 60) (.const (.int .i64 2))), oM 62 61, ⟨(some 63), (.mv (.tmp 9)), (some (62, true))⟩, ⟨(some 64), (.mv (.tmp 4)), (some (62, true))⟩, ⟨(some 65), (.mv (.tmp 8)), (some (62, true))⟩, ⟨(some 66), (.iaddr 1 none (.tmp 64) (.tmp 65)), (some (62, true))⟩, ⟨(some 67), (.load false 1 (.tmp 66)), (some (62, true))⟩, ⟨(some 68), (.bin .sub 3 (.tmp 63) (.tmp 67)), (some (62, true))⟩, ⟨(some 69), (.faddr 0 (.tmp 1)), (some (62, true))⟩, ⟨(some 70), (.load false 1 (.tmp 69)), (some (62, true))⟩, ⟨(some 71), (.bin .mul 3 (.const (.int .i64 2)) (.tmp 70)), (some (62, true))⟩, ⟨(some 72), (.bin .gtr 3 (.tmp 68) (.tmp 71)), (some (62, true))⟩, oO 73 (.pick (.tmp 62) (.tmp 72) (.const (.bool false)))]
def r24_53 : List AOper := [oM 74 6, oO 75 (.bin .eql 3 (.tmp 74) (.const (.int .i64 1)))]
def r24_55 : List AOper := [oM 76 3, oM 77 4, oM 78 7, oM 79 8, oO 80 (.build [(.d (.v (.int .i64 0))), (.d (.v (.int .i64 0)))] [(0, 1, (.tmp 78)), (1, 1, (.tmp 79))]), oM 81 9, oO 82 (.faddr 0 (.tmp 1)), oO 83 (.load false 1 (.tmp 82)), oO 84 (.bin .mul 3 (.const (.int .i64 2)) (.tmp 83)), oO 85 (.bin .sub 3 (.tmp 81) (.tmp 84)), oM 86 9, oO 87 (.build [(.d (.v (.int .i64 0))), (.d (.v (.int .i64 0)))] [(0, 1, (.tmp 85)), (1, 1, (.tmp 86))]), oO 88 (.call 87 [(.tmp 77), (.tmp 80), (.tmp 87), (.const (.bool true))]), oO 89 (.bslice 4 1 [(.v (.bool false)), (.v (.int .i64 0)), (.v (.int .i64 0)), (.v (.int .i64 0))] [(0, (.tmp 88))]), oO 90 (.append 4 32 (.tmp 76) (.tmp 89)), oM 3 90]
def r24_56 : List AOper := [oM 91 8, oO 6 (.mv (.const (.int .i64 2))), oM 7 91]
def r24_58 : List AOper := [oM 92 6, oO 93 (.bin .neq 3 (.tmp 92) (.const (.int .i64 1))), oM 94 93, ⟨(some 95), (.mv (.tmp 4)), (some (94, true))⟩, ⟨(some 96), (.mv (.tmp 8)), (some (94, true))⟩, ⟨(some 97), (.iaddr 1 none (.tmp 95) (.tmp 96)), (some (94, true))⟩, ⟨(some 98), (.load false 1 (.tmp 97)), (some (94, true))⟩, ⟨(some 99), (.mv (.tmp 10)), (some (94, true))⟩, ⟨(some 100), (.bin .sub 3 (.tmp 98) (.tmp 99)), (some (94, true))⟩, ⟨(some 101), (.faddr 0 (.tmp 1)), (some (94, true))⟩, ⟨(some 102), (.load false 1 (.tmp 101)), (some (94, true))⟩, ⟨(some 103), (.bin .mul 3 (.const (.int .i64 2)) (.tmp 102)), (some (94, true))⟩, ⟨(some 104), (.bin .gtr 3 (.tmp 100) (.tmp 103)), (some (94, true))⟩, oO 105 (.pick (.tmp 94) (.tmp 104) (.const (.bool false)))]
def r24_62 : List AOper := [oM 106 6, oO 107 (.bin .eql 3 (.tmp 106) (.const (.int .i64 2)))]
def r24_64 : List AOper := [oM 108 3, oM 109 4, oM 110 7, oM 111 8, oO 112 (.build [(.d (.v (.int .i64 0))), (.d (.v (.int .i64 0)))] [(0, 1, (.tmp 110)), (1, 1, (.tmp 111))]), oM 113 10, oM 114 10, oO 115 (.faddr 0 (.tmp 1)), oO 116 (.load false 1 (.tmp 115)), oO 117 (.bin .mul 3 (.const (.int .i64 2)) (.tmp 116)), oO 118 (.bin .add 3 (.tmp 114) (.tmp 117)), oO 119 (.build [(.d (.v (.int .i64 0))), (.d (.v (.int .i64 0)))] [(0, 1, (.tmp 113)), (1, 1, (.tmp 118))]), oO 120 (.call 87 [(.tmp 109), (.tmp 112), (.tmp 119), (.const (.bool false))]), oO 121 (.bslice 4 1 [(.v (.bool false)), (.v (.int .i64 0)), (.v (.int .i64 0)), (.v (.int .i64 0))] [(0, (.tmp 120))]), oO 122 (.append 4 32 (.tmp 108) (.tmp 121)), oM 3 122]
def r24_65 : List AOper := [oM 123 8, oO 6 (.mv (.const (.int .i64 1))), oM 7 123]
def r24_66 : List AOper := [oM 32 8, oO 33 (.bin .add 3 (.tmp 32) (.const (.int .i64 1))), oM 8 33]
def r24_68 : List AOper := [oM 124 3, oM 2 124]
def tr24 : List (Nat × Tidy) := [(0, ⟨[1], true, [], []⟩), (1, ⟨[1, 3], true, [], []⟩), (2, ⟨[1, 3, 4], true, [], []⟩), (3, ⟨[1, 3, 4, 5], true, [], []⟩), (4, ⟨[1, 3, 4, 5, 16], true, [], []⟩), (6, ⟨[1, 3, 4, 5], true, [], []⟩), (5, ⟨[1, 3, 4, 5], true, [], []⟩), (7, ⟨[1, 3, 4, 6, 7], true, [], []⟩), (8, ⟨[1, 3, 4, 6, 7, 8], true, [], []⟩), (9, ⟨[1, 3, 4, 6, 7, 8, 31], true, [], []⟩), (11, ⟨[1, 3, 4, 6, 7, 8, 9, 10], true, [], []⟩), (12, ⟨[1, 3, 4, 6, 7, 8, 9, 10, 11], true, [], []⟩), (13, ⟨[1, 3, 4, 6, 7, 8, 9, 10, 11, 45], true, [], []⟩), (15, ⟨[1, 3, 4, 6, 7, 8, 9, 10, 11], true, [], []⟩), (14, ⟨[1, 3, 4, 6, 7, 8, 9, 10, 11], true, [], []⟩), (16, ⟨[1, 3, 4, 6, 7, 8, 9, 10, 73], true, [], []⟩), (17, ⟨[1, 3, 4, 7, 8, 9, 75], true, [], []⟩), (18, ⟨[1, 3, 4, 8], true, [], []⟩), (19, ⟨[1, 3, 4, 6, 7, 8], true, [], []⟩), (20, ⟨[1, 3, 4, 6, 7, 8, 10, 105], true, [], []⟩), (21, ⟨[1, 3, 4, 7, 8, 10, 107], true, [], []⟩), (22, ⟨[1, 3, 4, 8], true, [], []⟩), (23, ⟨[1, 3, 4, 6, 7, 8], true, [], []⟩), (10, ⟨[1, 3, 4, 6, 7, 8], true, [], []⟩), (24, ⟨[2], true, [⟨false, 2, 0, 20002, 4⟩], []⟩)]
def tl24 : List (Nat × Tidy) := [(4, ⟨[1, 3, 4, 5], true, [⟨false, 3, 0, 20003, 4⟩, ⟨false, 4, 0, 20004, 1⟩, ⟨true, 1, 1, 30101, 1⟩], []⟩), (9, ⟨[1, 3, 4, 6, 7, 8], true, [⟨false, 3, 0, 20003, 4⟩, ⟨false, 4, 0, 20004, 1⟩, ⟨true, 1, 1, 30101, 1⟩], []⟩), (13, ⟨[1, 3, 4, 6, 7, 8, 9, 10, 11], true, [⟨false, 3, 0, 20003, 4⟩, ⟨false, 4, 0, 20004, 1⟩, ⟨true, 1, 1, 30101, 1⟩], []⟩)]
def rs24 : List AResV := [.tmp 2]
def p24_0_0 : PT St := pS [sl 1 (aV false [(cPtr 1 0)]), sl 3 (aV false [(cRef 20003)]), sl 4 (aV false [(cRef 20004)]), sl 5 (aV false [(cD (dI .i64))])] [eBox 1 [(cD (dI .i64)), (cD dL)], eOwn 20003 4, eOwn 20004 1]
def u24_0_0 {β : Type} (g : St → β) : Int → Int → Rows → Rows → Rows → β := p24_0_0.unc g

def p24_0_1 : PT St := pS [sl 1 (aV false [(cPtr 1 0)]), sl 3 (aV false [(cRef 20003)]), sl 4 (aV false [(cRef 20004)]), sl 5 (aV false [(cD (dI .i64))]), sl 16 (aV false [(cD dB)])] [eBox 1 [(cD (dI .i64)), (cD dL)], eOwn 20003 4, eOwn 20004 1]
def u24_0_1 {β : Type} (g : St → β) : Int → Bool → Int → Rows → Rows → Rows → β := p24_0_1.unc g

def p24_0_2 : PT St := pS [sl 1 (aV false [(cPtr 1 0)]), sl 3 (aV false [(cRef 20003)]), sl 4 (aV false [(cRef 20004)]), sl 6 (aV false [(cD (dI .i64))]), sl 7 (aV false [(cD (dI .i64))]), sl 8 (aV false [(cD (dI .i64))]), sl 9 (aV false [(cD (dI .i64))]), sl 10 (aV false [(cD (dI .i64))]), sl 11 (aV false [(cD (dI .i64))])] [eBox 1 [(cD (dI .i64)), (cD dL)], eOwn 20003 4, eOwn 20004 1]
def u24_0_2 {β : Type} (g : St → β) : Int → Int → Int → Int → Int → Int → Int → Rows → Rows → Rows → β := p24_0_2.unc g

def p24_0_3 : PT St := pS [sl 1 (aV false [(cPtr 1 0)]), sl 3 (aV false [(cRef 20003)]), sl 4 (aV false [(cRef 20004)]), sl 6 (aV false [(cD (dI .i64))]), sl 7 (aV false [(cD (dI .i64))]), sl 8 (aV false [(cD (dI .i64))]), sl 9 (aV false [(cD (dI .i64))]), sl 10 (aV false [(cD (dI .i64))]), sl 11 (aV false [(cD (dI .i64))]), sl 45 (aV false [(cD dB)])] [eBox 1 [(cD (dI .i64)), (cD dL)], eOwn 20003 4, eOwn 20004 1]
def u24_0_3 {β : Type} (g : St → β) : Int → Int → Int → Int → Int → Int → Bool → Int → Rows → Rows → Rows → β := p24_0_3.unc g

def p24_0_4 : PT St := pS [sl 1 (aV false [(cPtr 1 0)]), sl 3 (aV false [(cRef 20003)]), sl 4 (aV false [(cRef 20004)]), sl 6 (aV false [(cD (dI .i64))]), sl 7 (aV false [(cD (dI .i64))]), sl 8 (aV false [(cD (dI .i64))]), sl 9 (aV false [(cD (dI .i64))]), sl 10 (aV false [(cD (dI .i64))]), sl 73 (aV false [(cD dB)])] [eBox 1 [(cD (dI .i64)), (cD dL)], eOwn 20003 4, eOwn 20004 1]
def u24_0_4 {β : Type} (g : St → β) : Int → Int → Int → Int → Int → Bool → Int → Rows → Rows → Rows → β := p24_0_4.unc g

def p24_0_5 : PT St := pS [sl 1 (aV false [(cPtr 1 0)]), sl 3 (aV false [(cRef 20003)]), sl 4 (aV false [(cRef 20004)]), sl 6 (aV false [(cD (dI .i64))]), sl 7 (aV false [(cD (dI .i64))]), sl 8 (aV false [(cD (dI .i64))]), sl 10 (aV false [(cD (dI .i64))]), sl 105 (aV false [(cD dB)])] [eBox 1 [(cD (dI .i64)), (cD dL)], eOwn 20003 4, eOwn 20004 1]
def u24_0_5 {β : Type} (g : St → β) : Int → Int → Int → Int → Bool → Int → Rows → Rows → Rows → β := p24_0_5.unc g

def p24_0_6 : PT St := pS [sl 1 (aV false [(cPtr 1 0)]), sl 3 (aV false [(cRef 20003)]), sl 4 (aV false [(cRef 20004)]), sl 6 (aV false [(cD (dI .i64))]), sl 7 (aV false [(cD (dI .i64))]), sl 8 (aV false [(cD (dI .i64))]), sl 31 (aV false [(cD dB)])] [eBox 1 [(cD (dI .i64)), (cD dL)], eOwn 20003 4, eOwn 20004 1]
def u24_0_6 {β : Type} (g : St → β) : Int → Int → Int → Bool → Int → Rows → Rows → Rows → β := p24_0_6.unc g

def p24_0_7 : PT St := pS [sl 1 (aV false [(cPtr 1 0)]), sl 3 (aV false [(cRef 90)]), sl 4 (aV false [(cRef 20004)]), sl 6 (aV false [(cD (dI .i64))]), sl 7 (aV false [(cD (dI .i64))]), sl 8 (aV false [(cD (dI .i64))])] [eBox 1 [(cD (dI .i64)), (cD dL)], eOwn 90 4, eOwn 20004 1]
def u24_0_7 {β : Type} (g : St → β) : Int → Int → Int → Int → Rows → Rows → Rows → β := p24_0_7.unc g

def p24_0_8 : PT St := pS [sl 1 (aV false [(cPtr 1 0)]), sl 3 (aV false [(cRef 20003)]), sl 4 (aV false [(cRef 20004)]), sl 6 (aV false [(cD (dI .i64))]), sl 7 (aV false [(cD (dI .i64))]), sl 8 (aV false [(cD (dI .i64))])] [eBox 1 [(cD (dI .i64)), (cD dL)], eOwn 20003 4, eOwn 20004 1]
def u24_0_8 {β : Type} (g : St → β) : Int → Int → Int → Int → Rows → Rows → Rows → β := p24_0_8.unc g

def p24_0_9 : PT St := pS [sl 1 (aV false [(cPtr 1 0)]), sl 3 (aV false [(cRef 122)]), sl 4 (aV false [(cRef 20004)]), sl 6 (aV false [(cD (dI .i64))]), sl 7 (aV false [(cD (dI .i64))]), sl 8 (aV false [(cD (dI .i64))])] [eBox 1 [(cD (dI .i64)), (cD dL)], eOwn 122 4, eOwn 20004 1]
def u24_0_9 {β : Type} (g : St → β) : Int → Int → Int → Int → Rows → Rows → Rows → β := p24_0_9.unc g

def pr24_0_0 : PT (List RV) := pRs [pR false [rO 4]]
def ur24_0_0 {β : Type} (g : List RV → β) : Rows → β := pr24_0_0.unc g

def E24_0g (vf87_0 : Tf87_0) : EnvK := EnvK.of [⟨87, nt87, [⟨pa87_0, Fn87_0 vf87_0⟩]⟩] noSeq
noncomputable def E24_0 : EnvK := E24_0g f87_0
theorem eo24_0 : E24_0.Ok Try.prog := EnvK.of_ok noSeq_ok ⟨⟨io87_0, trivial⟩, trivial⟩

noncomputable def c24_0_57g  : MCode := (.region r24_58 [] (some ⟨[1, 3, 4, 6, 7, 8, 10, 105], true, [], []⟩))
noncomputable def c24_0_57 : MCode := c24_0_57g 
theorem g24_0_57 : c24_0_57.Good Try.prog E24_0 sh24 := trivial
--CODE 57 0
abbrev TJ24_0_3 : Type 1 := (α : Type) → Int → Int → Int → Int → Rows → (Bool → Option α) → Option α
def J24_0_3g  (α : Type) (x71 : Int) (x73 : Int) (x75 : Int) (x77 : Int) (x80 : Rows) (k1 : Bool → Option α) : Option α :=
 cK (x71 != 1)
 (ixK x80 x73 1
 (ldK x80 (Int.toNat x73) 0 [.int .i64]
 (fun (x82 : Int) => k1 (decide ((w64 (2 * x77)) < (w64 (x82 - x75)))))))
 (k1 false)
noncomputable def J24_0_3 (α : Type) (x71 : Int) (x73 : Int) (x75 : Int) (x77 : Int) (x80 : Rows) (k1 : Bool → Option α) : Option α := J24_0_3g  α x71 x73 x75 x77 x80 k1
def F24_0_3 (v : TJ24_0_3) (α : Type) (K : Exit → St → Option α) : Int → Int → Int → Int → Int → Bool → Int → Rows → Rows → Rows → Option α := fun x71 x72 x73 x74 x75 x76 x77 x78 x79 x80 => v α x71 x73 x75 x77 x80 (fun (y1 : Bool) => u24_0_5 (K .normal) x71 x72 x73 x75 y1 x77 x78 x79 x80) 
theorem m24_0_3g (vf87_0 : Tf87_0)  (α : Type) (K : Exit → St → Option α) : F24_0_3 (J24_0_3g ) α K = p24_0_4.unc fun σ => runM Try.prog (E24_0g vf87_0) sh24 (c24_0_57g ) K σ := by kernel_rfl
theorem m24_0_3 : ∀ (α : Type) (K : Exit → St → Option α), F24_0_3 J24_0_3 α K = p24_0_4.unc fun σ => runM Try.prog E24_0 sh24 c24_0_57 K σ := m24_0_3g f87_0

noncomputable def c24_0_48g  : MCode := (.region r24_49 [] (some ⟨[1, 3, 4, 6, 7, 8, 9, 10, 73], true, [], []⟩))
noncomputable def c24_0_48 : MCode := c24_0_48g 
theorem g24_0_48 : c24_0_48.Good Try.prog E24_0 sh24 := trivial
--CODE 48 0
abbrev TJ24_0_2 : Type 1 := (α : Type) → Int → Int → Int → Int → Rows → (Bool → Option α) → Option α
def J24_0_2g  (α : Type) (x52 : Int) (x54 : Int) (x55 : Int) (x59 : Int) (x62 : Rows) (k1 : Bool → Option α) : Option α :=
 cK (x52 != 2)
 (ixK x62 x54 1
 (ldK x62 (Int.toNat x54) 0 [.int .i64]
 (fun (x64 : Int) => k1 (decide ((w64 (2 * x59)) < (w64 (x55 - x64)))))))
 (k1 false)
noncomputable def J24_0_2 (α : Type) (x52 : Int) (x54 : Int) (x55 : Int) (x59 : Int) (x62 : Rows) (k1 : Bool → Option α) : Option α := J24_0_2g  α x52 x54 x55 x59 x62 k1
def F24_0_2 (v : TJ24_0_2) (α : Type) (K : Exit → St → Option α) : Int → Int → Int → Int → Int → Int → Bool → Int → Rows → Rows → Rows → Option α := fun x52 x53 x54 x55 x56 x57 x58 x59 x60 x61 x62 => v α x52 x54 x55 x59 x62 (fun (y1 : Bool) => u24_0_4 (K .normal) x52 x53 x54 x55 x56 y1 x59 x60 x61 x62) 
theorem m24_0_2g (vf87_0 : Tf87_0)  (α : Type) (K : Exit → St → Option α) : F24_0_2 (J24_0_2g ) α K = p24_0_3.unc fun σ => runM Try.prog (E24_0g vf87_0) sh24 (c24_0_48g ) K σ := by kernel_rfl
theorem m24_0_2 : ∀ (α : Type) (K : Exit → St → Option α), F24_0_2 J24_0_2 α K = p24_0_3.unc fun σ => runM Try.prog E24_0 sh24 c24_0_48 K σ := m24_0_2g f87_0

noncomputable def c24_0_39g  : MCode := (.seq (.seq (.region r24_42 [] (some ⟨[1, 3, 4, 6, 7, 8, 9, 10, 11, 45], true, [], []⟩)) (.cond (.tmp 45) .skip (.exit 4))) (.seq (.block 5 (.region r24_46 [] (some ⟨[1, 3, 4, 6, 7, 8, 9, 10, 11], true, [], []⟩))) (.region r24_47 [] (some ⟨[1, 3, 4, 6, 7, 8, 9, 10, 11], true, [], []⟩))))
noncomputable def c24_0_39 : MCode := c24_0_39g 
theorem g24_0_39 : c24_0_39.Good Try.prog E24_0 sh24 := ⟨⟨trivial, ⟨trivial, trivial⟩⟩, ⟨trivial, trivial⟩⟩
--CODE 39 0
def S24_0_1g  (α : Type) (x36 : Int) (x43 : Rows) (x37 : Int) (x38 : Int) (x39 : Int) (kn : Int → Int → Int → Option α) (k1 : Int → Int → Int → Bool → Option α) : Option α :=
 cK (decide (x39 < x36))
 (ixK x43 x39 1
 (ldK x43 (Int.toNat x39) 0 [.int .i64]
 (fun (x45 : Int) => ixK x43 x39 1
 (ldK x43 (Int.toNat x39) 0 [.int .i64]
 (fun (x46 : Int) => kn (if x45 > x37 then x45 else x37) (if x46 < x38 then x46 else x38) (w64 (x39 + 1)))))))
 (k1 x37 x38 x39 (decide (x39 < x36)))
noncomputable def S24_0_1 (α : Type) (x36 : Int) (x43 : Rows) (x37 : Int) (x38 : Int) (x39 : Int) (kn : Int → Int → Int → Option α) (k1 : Int → Int → Int → Bool → Option α) : Option α := S24_0_1g  α x36 x43 x37 x38 x39 kn k1
noncomputable def R24_0_1 (α : Type) (x36 : Int) (x43 : Rows) (k1 : Int → Int → Int → Bool → Option α) : Nat → Int → Int → Int → Option α
 | 0, _, _, _ => none
 | n + 1, x37, x38, x39 => S24_0_1 α x36 x43 x37 x38 x39 (R24_0_1 α x36 x43 k1 n) k1
noncomputable def L24_0_1 (α : Type) (x36 : Int) (x43 : Rows) (k1 : Int → Int → Int → Bool → Option α) (x37 : Int) (x38 : Int) (x39 : Int) : Option α := R24_0_1 α x36 x43 k1 fuel x37 x38 x39
abbrev TL24_0_1 : Type 1 := (α : Type) → Int → Rows → (Int → Int → Int → Bool → Option α) → Int → Int → Int → Option α
def F24_0_1 (v : TL24_0_1) (α : Type) (K : Exit → St → Option α) : Int → Int → Int → Int → Int → Int → Int → Rows → Rows → Rows → Option α := fun x34 x35 x36 x37 x38 x39 x40 x41 x42 x43 => v α x36 x43 (fun (y1 : Int) (y2 : Int) (y3 : Int) (y4 : Bool) => u24_0_3 (K (.exit 4)) x34 x35 x36 y1 y2 y3 y4 x40 x41 x42 x43) x37 x38 x39
theorem r24_0_1g (vf87_0 : Tf87_0)  (α : Type) (K : Exit → St → Option α) (Kn : St → Option α) (x34 : Int) (x35 : Int) (x36 : Int) (x37 : Int) (x38 : Int) (x39 : Int) (x40 : Int) (x41 : Rows) (x42 : Rows) (x43 : Rows) : u24_0_2 (fun σ => runM Try.prog (E24_0g vf87_0) sh24 (c24_0_39g ) (thenK (fun σ => tidyK td24_39 σ Kn) K) σ) x34 x35 x36 x37 x38 x39 x40 x41 x42 x43 = S24_0_1g  α x36 x43 x37 x38 x39 (fun x37 x38 x39 => u24_0_2 Kn x34 x35 x36 x37 x38 x39 x40 x41 x42 x43) (fun (y1 : Int) (y2 : Int) (y3 : Int) (y4 : Bool) => u24_0_3 (K (.exit 4)) x34 x35 x36 y1 y2 y3 y4 x40 x41 x42 x43) := by kernel_rfl
theorem r24_0_1 (α : Type) (K : Exit → St → Option α) (Kn : St → Option α) (x34 : Int) (x35 : Int) (x36 : Int) (x37 : Int) (x38 : Int) (x39 : Int) (x40 : Int) (x41 : Rows) (x42 : Rows) (x43 : Rows) : u24_0_2 (fun σ => runM Try.prog E24_0 sh24 c24_0_39 (thenK (fun σ => tidyK td24_39 σ Kn) K) σ) x34 x35 x36 x37 x38 x39 x40 x41 x42 x43 = S24_0_1 α x36 x43 x37 x38 x39 (fun x37 x38 x39 => u24_0_2 Kn x34 x35 x36 x37 x38 x39 x40 x41 x42 x43) (fun (y1 : Int) (y2 : Int) (y3 : Int) (y4 : Bool) => u24_0_3 (K (.exit 4)) x34 x35 x36 y1 y2 y3 y4 x40 x41 x42 x43) := r24_0_1g f87_0 α K Kn x34 x35 x36 x37 x38 x39 x40 x41 x42 x43
theorem t24_0_1 (α : Type) (K : Exit → St → Option α) : ∀ (n : Nat) (x34 : Int) (x35 : Int) (x36 : Int) (x37 : Int) (x38 : Int) (x39 : Int) (x40 : Int) (x41 : Rows) (x42 : Rows) (x43 : Rows), R24_0_1 α x36 x43 (fun (y1 : Int) (y2 : Int) (y3 : Int) (y4 : Bool) => u24_0_3 (K (.exit 4)) x34 x35 x36 y1 y2 y3 y4 x40 x41 x42 x43) n x37 x38 x39 = u24_0_2 (loopT (runM Try.prog E24_0 sh24 c24_0_39) td24_39 K n) x34 x35 x36 x37 x38 x39 x40 x41 x42 x43 := by
 intro n
 induction n with
 | zero => intros; rfl
 | succ n ih => intro x34 x35 x36 x37 x38 x39 x40 x41 x42 x43; exact (congrArg (fun kn => S24_0_1 α x36 x43 x37 x38 x39 kn (fun (y1 : Int) (y2 : Int) (y3 : Int) (y4 : Bool) => u24_0_3 (K (.exit 4)) x34 x35 x36 y1 y2 y3 y4 x40 x41 x42 x43)) (funext fun x37 => funext fun x38 => funext fun x39 => ih x34 x35 x36 x37 x38 x39 x40 x41 x42 x43)).trans (r24_0_1 α K (loopT (runM Try.prog E24_0 sh24 c24_0_39) td24_39 K n) x34 x35 x36 x37 x38 x39 x40 x41 x42 x43).symm
theorem m24_0_1 : ∀ (α : Type) (K : Exit → St → Option α), F24_0_1 L24_0_1 α K = p24_0_2.unc fun σ => loopT (runM Try.prog E24_0 sh24 c24_0_39) td24_39 K fuel σ := fun α K => funext fun x34 => funext fun x35 => funext fun x36 => funext fun x37 => funext fun x38 => funext fun x39 => funext fun x40 => funext fun x41 => funext fun x42 => funext fun x43 => t24_0_1 α K fuel x34 x35 x36 x37 x38 x39 x40 x41 x42 x43

noncomputable def c24_0_31g (vL24_0_1 : TL24_0_1) (vJ24_0_2 : TJ24_0_2) (vJ24_0_3 : TJ24_0_3) : MCode := (.block 3 (.seq (.region r24_34 [] (some ⟨[1, 3, 4, 6, 7, 8, 9, 10], true, [], []⟩)) (.seq (.seq (.region r24_37 [] (some ⟨[1, 3, 4, 6, 7, 8, 9, 10, 11], true, [], []⟩)) (.block 4 (.loop td24_39 [⟨p24_0_2, F24_0_1 vL24_0_1⟩] c24_0_39))) (.seq (.mark [⟨p24_0_3, F24_0_2 vJ24_0_2⟩] c24_0_48) (.cond (.tmp 73) (.seq (.seq (.region r24_53 [] (some ⟨[1, 3, 4, 7, 8, 9, 75], true, [], []⟩)) (.cond (.tmp 75) (.region r24_55 [] (some ⟨[1, 3, 4, 8], true, [], []⟩)) .skip)) (.region r24_56 [] (some ⟨[1, 3, 4, 6, 7, 8], true, [], []⟩))) (.seq (.mark [⟨p24_0_4, F24_0_3 vJ24_0_3⟩] c24_0_57) (.cond (.tmp 105) (.seq (.seq (.region r24_62 [] (some ⟨[1, 3, 4, 7, 8, 10, 107], true, [], []⟩)) (.cond (.tmp 107) (.region r24_64 [] (some ⟨[1, 3, 4, 8], true, [], []⟩)) .skip)) (.region r24_65 [] (some ⟨[1, 3, 4, 6, 7, 8], true, [], []⟩))) .skip)))))))
noncomputable def c24_0_31 : MCode := c24_0_31g L24_0_1 J24_0_2 J24_0_3
theorem g24_0_31 : c24_0_31.Good Try.prog E24_0 sh24 := ⟨trivial, ⟨⟨trivial, ⟨g24_0_39, m24_0_1, trivial⟩⟩, ⟨⟨g24_0_48, m24_0_2, trivial⟩, ⟨⟨⟨trivial, ⟨trivial, trivial⟩⟩, trivial⟩, ⟨⟨g24_0_57, m24_0_3, trivial⟩, ⟨⟨⟨trivial, ⟨trivial, trivial⟩⟩, trivial⟩, trivial⟩⟩⟩⟩⟩⟩
--CODE 31 0
abbrev TJ24_0_4 : Type 1 := (α : Type) → Int → Int → Int → Int → Rows → Rows → (Rows → Option α) → (Int → Option α) → (Rows → Option α) → (Int → Bool → Option α) → Option α
def J24_0_4g (vJ24_0_2 : TJ24_0_2) (vJ24_0_3 : TJ24_0_3) (vL24_0_1 : TL24_0_1) (vf87_0 : Tf87_0) (α : Type) (x23 : Int) (x24 : Int) (x25 : Int) (x27 : Int) (x29 : Rows) (x30 : Rows) (k1 : Rows → Option α) (k2 : Int → Option α) (k3 : Rows → Option α) (k4 : Int → Bool → Option α) : Option α :=
 ixK x30 x25 1
 (ldK x30 (Int.toNat x25) 0 [.int .i64]
 (fun (x32 : Int) => ixK x30 x25 1
 (ldK x30 (Int.toNat x25) 0 [.int .i64]
 (fun (x33 : Int) => vL24_0_1 α x25 x30
 (fun (x47 : Int) (x48 : Int) (x49 : Int) (x50 : Bool) => vJ24_0_2 α x23 x25 x47 x27 x30
 (fun (x65 : Bool) => cK x65
 (cK (x23 == 1)
 (vf87_0 α x30 x24 x25 (w64 (x47 - (w64 (2 * x27)))) x47 true
 (fun (x67 : Bool) (x68 : Int) (x69 : Int) (x70 : Int) => gK (apOk 4 32 x29 [[DC.v (.bool x67), DC.v (.int .i64 x68), DC.v (.int .i64 x69), DC.v (.int .i64 x70)]]) (k1 (x29 ++ [[DC.v (.bool x67), DC.v (.int .i64 x68), DC.v (.int .i64 x69), DC.v (.int .i64 x70)]]))))
 (k2 2))
 (vJ24_0_3 α x23 x25 x48 x27 x30
 (fun (x83 : Bool) => cK x83
 (cK (x23 == 2)
 (vf87_0 α x30 x24 x25 x48 (w64 (x48 + (w64 (2 * x27)))) false
 (fun (x85 : Bool) (x86 : Int) (x87 : Int) (x88 : Int) => gK (apOk 4 32 x29 [[DC.v (.bool x85), DC.v (.int .i64 x86), DC.v (.int .i64 x87), DC.v (.int .i64 x88)]]) (k3 (x29 ++ [[DC.v (.bool x85), DC.v (.int .i64 x86), DC.v (.int .i64 x87), DC.v (.int .i64 x88)]]))))
 (k2 1))
 (k4 x48 x83))))) x32 x33 x24))))
noncomputable def J24_0_4 (α : Type) (x23 : Int) (x24 : Int) (x25 : Int) (x27 : Int) (x29 : Rows) (x30 : Rows) (k1 : Rows → Option α) (k2 : Int → Option α) (k3 : Rows → Option α) (k4 : Int → Bool → Option α) : Option α := J24_0_4g J24_0_2 J24_0_3 L24_0_1 f87_0 α x23 x24 x25 x27 x29 x30 k1 k2 k3 k4
def F24_0_4 (v : TJ24_0_4) (α : Type) (K : Exit → St → Option α) : Int → Int → Int → Bool → Int → Rows → Rows → Rows → Option α := fun x23 x24 x25 x26 x27 x28 x29 x30 => v α x23 x24 x25 x27 x29 x30 (fun (y1 : Rows) => u24_0_7 (K .normal) 2 x25 x25 x27 x28 y1 x30) (fun (y1 : Int) => u24_0_8 (K .normal) y1 x25 x25 x27 x28 x29 x30) (fun (y1 : Rows) => u24_0_9 (K .normal) 1 x25 x25 x27 x28 y1 x30) (fun (y1 : Int) (y2 : Bool) => u24_0_5 (K .normal) x23 x24 x25 y1 y2 x27 x28 x29 x30) 
theorem m24_0_4g (vf87_0 : Tf87_0) (vL24_0_1 : TL24_0_1) (vJ24_0_2 : TJ24_0_2) (vJ24_0_3 : TJ24_0_3) (α : Type) (K : Exit → St → Option α) : F24_0_4 (J24_0_4g vJ24_0_2 vJ24_0_3 vL24_0_1 vf87_0) α K = p24_0_6.unc fun σ => runM Try.prog (E24_0g vf87_0) sh24 (c24_0_31g vL24_0_1 vJ24_0_2 vJ24_0_3) K σ := by kernel_rfl
theorem m24_0_4 : ∀ (α : Type) (K : Exit → St → Option α), F24_0_4 J24_0_4 α K = p24_0_6.unc fun σ => runM Try.prog E24_0 sh24 c24_0_31 K σ := m24_0_4g f87_0 L24_0_1 J24_0_2 J24_0_3

noncomputable def c24_0_26g (vJ24_0_4 : TJ24_0_4) : MCode := (.seq (.seq (.region r24_29 [] (some ⟨[1, 3, 4, 6, 7, 8, 31], true, [], []⟩)) (.cond (.tmp 31) .skip (.exit 2))) (.seq (.mark [⟨p24_0_6, F24_0_4 vJ24_0_4⟩] c24_0_31) (.region r24_66 [] (some ⟨[1, 3, 4, 6, 7, 8], true, [], []⟩))))
noncomputable def c24_0_26 : MCode := c24_0_26g J24_0_4
theorem g24_0_26 : c24_0_26.Good Try.prog E24_0 sh24 := ⟨⟨trivial, ⟨trivial, trivial⟩⟩, ⟨⟨g24_0_31, m24_0_4, trivial⟩, trivial⟩⟩
--CODE 26 0
def S24_0_5g (vJ24_0_4 : TJ24_0_4) (α : Type) (x18 : Int) (x21 : Rows) (x15 : Int) (x16 : Int) (x17 : Int) (x20 : Rows) (kn : Int → Int → Int → Rows → Option α) (k1 : Int → Int → Int → Bool → Rows → Option α) : Option α :=
 cK (decide (x17 < ((List.length x21 : Nat) : Int)))
 (vJ24_0_4 α x15 x16 x17 x18 x20 x21
 (fun (x89 : Rows) => kn 2 x17 (w64 (x17 + 1)) x89)
 (fun (x90 : Int) => kn x90 x17 (w64 (x17 + 1)) x20)
 (fun (x91 : Rows) => kn 1 x17 (w64 (x17 + 1)) x91)
 (fun (x92 : Int) (x93 : Bool) => kn x15 x16 (w64 (x17 + 1)) x20))
 (k1 x15 x16 x17 (decide (x17 < ((List.length x21 : Nat) : Int))) x20)
noncomputable def S24_0_5 (α : Type) (x18 : Int) (x21 : Rows) (x15 : Int) (x16 : Int) (x17 : Int) (x20 : Rows) (kn : Int → Int → Int → Rows → Option α) (k1 : Int → Int → Int → Bool → Rows → Option α) : Option α := S24_0_5g J24_0_4 α x18 x21 x15 x16 x17 x20 kn k1
noncomputable def R24_0_5 (α : Type) (x18 : Int) (x21 : Rows) (k1 : Int → Int → Int → Bool → Rows → Option α) : Nat → Int → Int → Int → Rows → Option α
 | 0, _, _, _, _ => none
 | n + 1, x15, x16, x17, x20 => S24_0_5 α x18 x21 x15 x16 x17 x20 (R24_0_5 α x18 x21 k1 n) k1
noncomputable def L24_0_5 (α : Type) (x18 : Int) (x21 : Rows) (k1 : Int → Int → Int → Bool → Rows → Option α) (x15 : Int) (x16 : Int) (x17 : Int) (x20 : Rows) : Option α := R24_0_5 α x18 x21 k1 fuel x15 x16 x17 x20
abbrev TL24_0_5 : Type 1 := (α : Type) → Int → Rows → (Int → Int → Int → Bool → Rows → Option α) → Int → Int → Int → Rows → Option α
def F24_0_5 (v : TL24_0_5) (α : Type) (K : Exit → St → Option α) : Int → Int → Int → Int → Rows → Rows → Rows → Option α := fun x15 x16 x17 x18 x19 x20 x21 => v α x18 x21 (fun (y1 : Int) (y2 : Int) (y3 : Int) (y4 : Bool) (y5 : Rows) => u24_0_6 (K (.exit 2)) y1 y2 y3 y4 x18 x19 y5 x21) x15 x16 x17 x20
theorem r24_0_5g (vf87_0 : Tf87_0) (vJ24_0_4 : TJ24_0_4) (α : Type) (K : Exit → St → Option α) (Kn : St → Option α) (x15 : Int) (x16 : Int) (x17 : Int) (x18 : Int) (x19 : Rows) (x20 : Rows) (x21 : Rows) : u24_0_8 (fun σ => runM Try.prog (E24_0g vf87_0) sh24 (c24_0_26g vJ24_0_4) (thenK (fun σ => tidyK td24_26 σ Kn) K) σ) x15 x16 x17 x18 x19 x20 x21 = S24_0_5g vJ24_0_4 α x18 x21 x15 x16 x17 x20 (fun x15 x16 x17 x20 => u24_0_8 Kn x15 x16 x17 x18 x19 x20 x21) (fun (y1 : Int) (y2 : Int) (y3 : Int) (y4 : Bool) (y5 : Rows) => u24_0_6 (K (.exit 2)) y1 y2 y3 y4 x18 x19 y5 x21) := by kernel_rfl
theorem r24_0_5 (α : Type) (K : Exit → St → Option α) (Kn : St → Option α) (x15 : Int) (x16 : Int) (x17 : Int) (x18 : Int) (x19 : Rows) (x20 : Rows) (x21 : Rows) : u24_0_8 (fun σ => runM Try.prog E24_0 sh24 c24_0_26 (thenK (fun σ => tidyK td24_26 σ Kn) K) σ) x15 x16 x17 x18 x19 x20 x21 = S24_0_5 α x18 x21 x15 x16 x17 x20 (fun x15 x16 x17 x20 => u24_0_8 Kn x15 x16 x17 x18 x19 x20 x21) (fun (y1 : Int) (y2 : Int) (y3 : Int) (y4 : Bool) (y5 : Rows) => u24_0_6 (K (.exit 2)) y1 y2 y3 y4 x18 x19 y5 x21) := r24_0_5g f87_0 J24_0_4 α K Kn x15 x16 x17 x18 x19 x20 x21
theorem t24_0_5 (α : Type) (K : Exit → St → Option α) : ∀ (n : Nat) (x15 : Int) (x16 : Int) (x17 : Int) (x18 : Int) (x19 : Rows) (x20 : Rows) (x21 : Rows), R24_0_5 α x18 x21 (fun (y1 : Int) (y2 : Int) (y3 : Int) (y4 : Bool) (y5 : Rows) => u24_0_6 (K (.exit 2)) y1 y2 y3 y4 x18 x19 y5 x21) n x15 x16 x17 x20 = u24_0_8 (loopT (runM Try.prog E24_0 sh24 c24_0_26) td24_26 K n) x15 x16 x17 x18 x19 x20 x21 := by
 intro n
 induction n with
 | zero => intros; rfl
 | succ n ih => intro x15 x16 x17 x18 x19 x20 x21; exact (congrArg (fun kn => S24_0_5 α x18 x21 x15 x16 x17 x20 kn (fun (y1 : Int) (y2 : Int) (y3 : Int) (y4 : Bool) (y5 : Rows) => u24_0_6 (K (.exit 2)) y1 y2 y3 y4 x18 x19 y5 x21)) (funext fun x15 => funext fun x16 => funext fun x17 => funext fun x20 => ih x15 x16 x17 x18 x19 x20 x21)).trans (r24_0_5 α K (loopT (runM Try.prog E24_0 sh24 c24_0_26) td24_26 K n) x15 x16 x17 x18 x19 x20 x21).symm
theorem m24_0_5 : ∀ (α : Type) (K : Exit → St → Option α), F24_0_5 L24_0_5 α K = p24_0_8.unc fun σ => loopT (runM Try.prog E24_0 sh24 c24_0_26) td24_26 K fuel σ := fun α K => funext fun x15 => funext fun x16 => funext fun x17 => funext fun x18 => funext fun x19 => funext fun x20 => funext fun x21 => t24_0_5 α K fuel x15 x16 x17 x18 x19 x20 x21

noncomputable def c24_0_11g  : MCode := (.seq (.seq (.region r24_14 [] (some ⟨[1, 3, 4, 5, 16], true, [], []⟩)) (.cond (.tmp 16) .skip (.exit 0))) (.seq (.block 1 (.region r24_18 [] (some ⟨[1, 3, 4, 5], true, [], []⟩))) (.region r24_19 [] (some ⟨[1, 3, 4, 5], true, [], []⟩))))
noncomputable def c24_0_11 : MCode := c24_0_11g 
theorem g24_0_11 : c24_0_11.Good Try.prog E24_0 sh24 := ⟨⟨trivial, ⟨trivial, trivial⟩⟩, ⟨trivial, trivial⟩⟩
--CODE 11 0
def S24_0_0g  (α : Type) (x5 : Rows) (x3 : Int) (x7 : Rows) (kn : Int → Rows → Option α) (k1 : Int → Bool → Rows → Option α) : Option α :=
 cK (decide (x3 < ((List.length x5 : Nat) : Int)))
 (rowK x5 x3 [.flt .f32]
 (fun (x9 : Nat) => ivK (f2i .f32 x9 .i64)
 (fun (x10 : Int) => gK (apOk 1 8 x7 [[DC.v (.int .i64 x10)]]) (kn (w64 (x3 + 1)) (x7 ++ [[DC.v (.int .i64 x10)]])))))
 (k1 x3 (decide (x3 < ((List.length x5 : Nat) : Int))) x7)
noncomputable def S24_0_0 (α : Type) (x5 : Rows) (x3 : Int) (x7 : Rows) (kn : Int → Rows → Option α) (k1 : Int → Bool → Rows → Option α) : Option α := S24_0_0g  α x5 x3 x7 kn k1
noncomputable def R24_0_0 (α : Type) (x5 : Rows) (k1 : Int → Bool → Rows → Option α) : Nat → Int → Rows → Option α
 | 0, _, _ => none
 | n + 1, x3, x7 => S24_0_0 α x5 x3 x7 (R24_0_0 α x5 k1 n) k1
noncomputable def L24_0_0 (α : Type) (x5 : Rows) (k1 : Int → Bool → Rows → Option α) (x3 : Int) (x7 : Rows) : Option α := R24_0_0 α x5 k1 fuel x3 x7
abbrev TL24_0_0 : Type 1 := (α : Type) → Rows → (Int → Bool → Rows → Option α) → Int → Rows → Option α
def F24_0_0 (v : TL24_0_0) (α : Type) (K : Exit → St → Option α) : Int → Int → Rows → Rows → Rows → Option α := fun x3 x4 x5 x6 x7 => v α x5 (fun (y1 : Int) (y2 : Bool) (y3 : Rows) => u24_0_1 (K (.exit 0)) y1 y2 x4 x5 x6 y3) x3 x7
theorem r24_0_0g (vf87_0 : Tf87_0)  (α : Type) (K : Exit → St → Option α) (Kn : St → Option α) (x3 : Int) (x4 : Int) (x5 : Rows) (x6 : Rows) (x7 : Rows) : u24_0_0 (fun σ => runM Try.prog (E24_0g vf87_0) sh24 (c24_0_11g ) (thenK (fun σ => tidyK td24_11 σ Kn) K) σ) x3 x4 x5 x6 x7 = S24_0_0g  α x5 x3 x7 (fun x3 x7 => u24_0_0 Kn x3 x4 x5 x6 x7) (fun (y1 : Int) (y2 : Bool) (y3 : Rows) => u24_0_1 (K (.exit 0)) y1 y2 x4 x5 x6 y3) := by kernel_rfl
theorem r24_0_0 (α : Type) (K : Exit → St → Option α) (Kn : St → Option α) (x3 : Int) (x4 : Int) (x5 : Rows) (x6 : Rows) (x7 : Rows) : u24_0_0 (fun σ => runM Try.prog E24_0 sh24 c24_0_11 (thenK (fun σ => tidyK td24_11 σ Kn) K) σ) x3 x4 x5 x6 x7 = S24_0_0 α x5 x3 x7 (fun x3 x7 => u24_0_0 Kn x3 x4 x5 x6 x7) (fun (y1 : Int) (y2 : Bool) (y3 : Rows) => u24_0_1 (K (.exit 0)) y1 y2 x4 x5 x6 y3) := r24_0_0g f87_0 α K Kn x3 x4 x5 x6 x7
theorem t24_0_0 (α : Type) (K : Exit → St → Option α) : ∀ (n : Nat) (x3 : Int) (x4 : Int) (x5 : Rows) (x6 : Rows) (x7 : Rows), R24_0_0 α x5 (fun (y1 : Int) (y2 : Bool) (y3 : Rows) => u24_0_1 (K (.exit 0)) y1 y2 x4 x5 x6 y3) n x3 x7 = u24_0_0 (loopT (runM Try.prog E24_0 sh24 c24_0_11) td24_11 K n) x3 x4 x5 x6 x7 := by
 intro n
 induction n with
 | zero => intros; rfl
 | succ n ih => intro x3 x4 x5 x6 x7; exact (congrArg (fun kn => S24_0_0 α x5 x3 x7 kn (fun (y1 : Int) (y2 : Bool) (y3 : Rows) => u24_0_1 (K (.exit 0)) y1 y2 x4 x5 x6 y3)) (funext fun x3 => funext fun x7 => ih x3 x4 x5 x6 x7)).trans (r24_0_0 α K (loopT (runM Try.prog E24_0 sh24 c24_0_11) td24_11 K n) x3 x4 x5 x6 x7).symm
theorem m24_0_0 : ∀ (α : Type) (K : Exit → St → Option α), F24_0_0 L24_0_0 α K = p24_0_0.unc fun σ => loopT (runM Try.prog E24_0 sh24 c24_0_11) td24_11 K fuel σ := fun α K => funext fun x3 => funext fun x4 => funext fun x5 => funext fun x6 => funext fun x7 => t24_0_0 α K fuel x3 x4 x5 x6 x7

/-- etalon/etalonref08.Turns -/
abbrev Tf24_0 : Type 1 := (α : Type) → Int → Rows → (Rows → Option α) → Option α
def f24_0g (vL24_0_0 : TL24_0_0) (vL24_0_5 : TL24_0_5) (α : Type) (x1 : Int) (x2 : Rows) (k1 : Rows → Option α) : Option α :=
 vL24_0_0 α x2
 (fun (x11 : Int) (x12 : Bool) (x13 : Rows) => vL24_0_5 α x1 x13
 (fun (x95 : Int) (x96 : Int) (x97 : Int) (x98 : Bool) (x99 : Rows) => k1 x99) 0 0 1 ([] : Rows)) 0 ([] : Rows)
noncomputable def f24_0 (α : Type) (x1 : Int) (x2 : Rows) (k1 : Rows → Option α) : Option α := f24_0g L24_0_0 L24_0_5 α x1 x2 k1
def pa24_0 : PT (List DV) := pA [pV true [(dI .i64), dL]]
def Fn24_0 (v : Tf24_0) (α : Type) (k : List RV → Option α) : Int → Rows → Option α := fun x1 x2 => v α x1 x2 (fun (y1 : Rows) => ur24_0_0 k y1)
noncomputable def cm24_0g (vL24_0_0 : TL24_0_0) (vL24_0_5 : TL24_0_5) : MCode := (.seq (.region r24_2 [] (some ⟨[1], true, [], []⟩)) (.seq (.region r24_4 [] (some ⟨[1, 3], true, [], []⟩)) (.seq (.region r24_6 [] (some ⟨[1, 3, 4], true, [], []⟩)) (.seq (.seq (.region r24_9 [] (some ⟨[1, 3, 4, 5], true, [], []⟩)) (.block 0 (.loop td24_11 [⟨p24_0_0, F24_0_0 vL24_0_0⟩] c24_0_11))) (.seq (.region r24_21 [] (some ⟨[1, 3, 4, 6, 7], true, [], []⟩)) (.seq (.seq (.region r24_24 [] (some ⟨[1, 3, 4, 6, 7, 8], true, [], []⟩)) (.block 2 (.loop td24_26 [⟨p24_0_8, F24_0_5 vL24_0_5⟩] c24_0_26))) (.seq (.region r24_68 [] (some ⟨[2], true, [⟨false, 2, 0, 20002, 4⟩], []⟩)) .ret)))))))
noncomputable def cm24_0 : MCode := cm24_0g L24_0_0 L24_0_5
theorem gm24_0 : cm24_0.Good Try.prog E24_0 sh24 := ⟨trivial, ⟨trivial, ⟨trivial, ⟨⟨trivial, ⟨g24_0_11, m24_0_0, trivial⟩⟩, ⟨trivial, ⟨⟨trivial, ⟨g24_0_26, m24_0_5, trivial⟩⟩, ⟨trivial, trivial⟩⟩⟩⟩⟩⟩⟩
theorem fm24_0g (vf87_0 : Tf87_0) (vL24_0_0 : TL24_0_0) (vL24_0_5 : TL24_0_5) (α : Type) (k : List RV → Option α) : Fn24_0 (f24_0g vL24_0_0 vL24_0_5) α k = pa24_0.unc fun ds => fnM Try.prog (E24_0g vf87_0) sh24 (cm24_0g vL24_0_0 vL24_0_5) rs24 k ds := by kernel_rfl
theorem fm24_0 : ∀ (α : Type) (k : List RV → Option α), Fn24_0 f24_0 α k = pa24_0.unc fun ds => fnM Try.prog E24_0 sh24 cm24_0 rs24 k ds := fm24_0g f87_0 L24_0_0 L24_0_5

theorem is24 : FnIs Try.prog 24 nt24 tr24 tl24 cm24_0.erase rs24 := ⟨Try.f24, Try.func24, rfl, by kernel_rfl, by kernel_rfl, by kernel_rfl⟩
theorem io24_0 : InstOk Try.prog 24 nt24 ⟨pa24_0, Fn24_0 f24_0⟩ := inst_ok eo24_0 followsTry is24 ⟨⟨sh24, cm24_0, by kernel_rfl, gm24_0, fm24_0⟩⟩

/-! ### F83 (etalon/grow.stretch).turn -/
abbrev nt83 : Nat := 42
def sh83 : List (Nat × List Sh) := [(12, [.sl]), (17, [.sl]), (22, [.int .i64]), (23, [.int .i64]), (30, [.int .i64]), (33, [.int .i64]), (37, [.int .i64])]
def r83_2 : List AOper := [oO 3 (.box (.tmp 0)), oO 6 (.alloc [(.d (.v (.bool false))), (.d (.v (.int .i64 0))), (.d (.v (.int .i64 0))), (.d (.v (.int .i64 0)))])]
def r83_4 : List AOper := [oO 11 (.faddr 1 (.tmp 3)), oO 12 (.load false 1 (.tmp 11)), oM 13 2, oO 14 (.call 124 [(.tmp 12), (.tmp 13)]), oM 7 14]
def r83_6 : List AOper := [oM 15 7, oM 8 15]
def r83_9 : List AOper := [oO 16 (.faddr 1 (.tmp 3)), oO 17 (.load false 1 (.tmp 16)), oO 18 (.len (.tmp 17)), oO 19 (.mv (.const (.int .i64 0)))]
def td83_11 : Option Tidy := (some ⟨[1, 2, 3, 6, 7, 8, 17, 18, 19], true, [⟨false, 17, 0, 20017, 1⟩, ⟨true, 3, 1, 30301, 1⟩], []⟩)
def r83_13 : List AOper := [oO 20 (.bin .lss 3 (.tmp 19) (.tmp 18))]
def r83_19 : List AOper := [oM 21 19, oO 22 (.iaddr 1 none (.tmp 17) (.tmp 19)), oO 23 (.load false 1 (.tmp 22)), oM 9 21, oM 10 23]
def r83_21 : List AOper := [oM 24 2, oM 25 10, oO 26 (.calld (.tmp 24) [(.tmp 25)])]
def r83_23 : List AOper := [oM 27 9, oM 8 27]
def r83_24 : List AOper := [oO 28 (.bin .add 3 (.tmp 19) (.const (.int .i64 1))), oM 19 28]
def r83_26 : List AOper := [oO 29 (.faddr 2 (.tmp 3)), oO 30 (.load false 1 (.tmp 29)), oO 31 (.bin .eql 3 (.tmp 30) (.const (.int .i64 1))), oO 32 (.faddr 0 (.tmp 3)), oO 33 (.load false 1 (.tmp 32)), oM 34 7, oO 35 (.bin .add 3 (.tmp 33) (.tmp 34)), oO 36 (.faddr 0 (.tmp 3)), oO 37 (.load false 1 (.tmp 36)), oM 38 8, oO 39 (.bin .add 3 (.tmp 37) (.tmp 38)), oM 40 1, oO 41 (.build [(.d (.v (.bool false))), (.d (.v (.int .i64 0))), (.d (.v (.int .i64 0))), (.d (.v (.int .i64 0)))] [(0, 1, (.tmp 31)), (1, 1, (.tmp 35)), (2, 1, (.tmp 39)), (3, 1, (.tmp 40))]), ⟨none, (.store 4 (.tmp 6) (.tmp 41)), none⟩]
def tr83 : List (Nat × Tidy) := [(0, ⟨[1, 2, 3, 6], true, [], []⟩), (1, ⟨[1, 2, 3, 6, 7], true, [], []⟩), (2, ⟨[1, 2, 3, 6, 7, 8], true, [], []⟩), (3, ⟨[1, 2, 3, 6, 7, 8, 17, 18, 19], true, [], []⟩), (4, ⟨[1, 2, 3, 6, 7, 8, 17, 18, 19, 20], true, [], []⟩), (5, ⟨[1, 2, 3, 6, 7, 8, 9, 10, 17, 18, 19], true, [], []⟩), (6, ⟨[1, 2, 3, 6, 7, 8, 9, 17, 18, 19, 26], true, [], []⟩), (7, ⟨[1, 2, 3, 6, 7, 8, 17, 18, 19], true, [], []⟩), (8, ⟨[1, 2, 3, 6, 7, 8, 17, 18, 19], true, [], []⟩), (9, ⟨[6], true, [], []⟩)]
def tl83 : List (Nat × Tidy) := [(4, ⟨[1, 2, 3, 6, 7, 8, 17, 18, 19], true, [⟨false, 17, 0, 20017, 1⟩, ⟨true, 3, 1, 30301, 1⟩], []⟩)]
def rs83 : List AResV := [.cell 6 true 4]
def p83_0_0 : PT St := pS [sl 1 (aV false [(cD (dI .i64))]), sl 2 (aV false [(cD (dFn 84 [(dP [(dI .i64)] 0), (dP [(dI .i64)] 0)]))]), sl 3 (aV false [(cPtr 3 0)]), sl 6 (aV false [(cPtr 6 0)]), sl 7 (aV false [(cD (dI .i64))]), sl 8 (aV false [(cD (dI .i64))]), sl 17 (aV false [(cD dL)]), sl 18 (aV false [(cD (dI .i64))]), sl 19 (aV false [(cD (dI .i64))])] [eBox 3 [(cD (dI .i64)), (cD dL), (cD (dI .i64))], eBox 6 [(cD dB), (cD (dI .i64)), (cD (dI .i64)), (cD (dI .i64))]]
def u83_0_0 {β : Type} (g : St → β) : Int → Int → Int → Int → Int → Rows → Int → Int → Int → Rows → Int → Bool → Int → Int → Int → β := p83_0_0.unc g

def p83_0_1 : PT St := pS [sl 1 (aV false [(cD (dI .i64))]), sl 2 (aV false [(cD (dFn 84 [(dP [(dI .i64)] 0), (dP [(dI .i64)] 0)]))]), sl 3 (aV false [(cPtr 3 0)]), sl 6 (aV false [(cPtr 6 0)]), sl 7 (aV false [(cD (dI .i64))]), sl 8 (aV false [(cD (dI .i64))]), sl 17 (aV false [(cD dL)]), sl 18 (aV false [(cD (dI .i64))]), sl 19 (aV false [(cD (dI .i64))]), sl 20 (aV false [(cD dB)])] [eBox 3 [(cD (dI .i64)), (cD dL), (cD (dI .i64))], eBox 6 [(cD dB), (cD (dI .i64)), (cD (dI .i64)), (cD (dI .i64))]]
def u83_0_1 {β : Type} (g : St → β) : Int → Int → Int → Int → Int → Rows → Int → Int → Bool → Int → Rows → Int → Bool → Int → Int → Int → β := p83_0_1.unc g

def pr83_0_0 : PT (List RV) := pRs [pR true [rD dB, rD (dI .i64), rD (dI .i64), rD (dI .i64)]]
def ur83_0_0 {β : Type} (g : List RV → β) : Bool → Int → Int → Int → β := pr83_0_0.unc g

def E83_0g (vf124_0 : Tf124_0) (vf84_0 : Tf84_0) : EnvK := EnvK.of [⟨124, nt124, [⟨pa124_0, Fn124_0 vf124_0⟩]⟩, ⟨84, nt84, [⟨pa84_0, Fn84_0 vf84_0⟩]⟩] noSeq
noncomputable def E83_0 : EnvK := E83_0g f124_0 f84_0
theorem eo83_0 : E83_0.Ok Try.prog := EnvK.of_ok noSeq_ok ⟨⟨io124_0, trivial⟩, ⟨io84_0, trivial⟩, trivial⟩

noncomputable def c83_0_11g  : MCode := (.seq (.region r83_13 [] (some ⟨[1, 2, 3, 6, 7, 8, 17, 18, 19, 20], true, [], []⟩)) (.seq (.cond (.tmp 20) .skip (.exit 0)) (.seq (.block 1 (.seq (.region r83_19 [] (some ⟨[1, 2, 3, 6, 7, 8, 9, 10, 17, 18, 19], true, [], []⟩)) (.seq (.region r83_21 [] (some ⟨[1, 2, 3, 6, 7, 8, 9, 17, 18, 19, 26], true, [], []⟩)) (.cond (.tmp 26) (.region r83_23 [] (some ⟨[1, 2, 3, 6, 7, 8, 17, 18, 19], true, [], []⟩)) .skip)))) (.region r83_24 [] (some ⟨[1, 2, 3, 6, 7, 8, 17, 18, 19], true, [], []⟩)))))
noncomputable def c83_0_11 : MCode := c83_0_11g 
theorem g83_0_11 : c83_0_11.Good Try.prog E83_0 sh83 := ⟨trivial, ⟨⟨trivial, trivial⟩, ⟨⟨trivial, ⟨trivial, ⟨trivial, trivial⟩⟩⟩, trivial⟩⟩⟩
--CODE 11 0
def S83_0_0g (vf84_0 : Tf84_0) (α : Type) (x9 : Int) (x10 : Int) (x13 : Rows) (x14 : Int) (x12 : Int) (x15 : Int) (kn : Int → Int → Option α) (k1 : Int → Int → Bool → Option α) : Option α :=
 cK (decide (x15 < x14))
 (rowK x13 x15 [.int .i64]
 (fun (x24 : Int) => vf84_0 α x24 x9 x10
 (fun (x25 : Bool) => cK x25
 (kn x15 (w64 (x15 + 1)))
 (kn x12 (w64 (x15 + 1))))))
 (k1 x12 x15 (decide (x15 < x14)))
noncomputable def S83_0_0 (α : Type) (x9 : Int) (x10 : Int) (x13 : Rows) (x14 : Int) (x12 : Int) (x15 : Int) (kn : Int → Int → Option α) (k1 : Int → Int → Bool → Option α) : Option α := S83_0_0g f84_0 α x9 x10 x13 x14 x12 x15 kn k1
noncomputable def R83_0_0 (α : Type) (x9 : Int) (x10 : Int) (x13 : Rows) (x14 : Int) (k1 : Int → Int → Bool → Option α) : Nat → Int → Int → Option α
 | 0, _, _ => none
 | n + 1, x12, x15 => S83_0_0 α x9 x10 x13 x14 x12 x15 (R83_0_0 α x9 x10 x13 x14 k1 n) k1
noncomputable def L83_0_0 (α : Type) (x9 : Int) (x10 : Int) (x13 : Rows) (x14 : Int) (k1 : Int → Int → Bool → Option α) (x12 : Int) (x15 : Int) : Option α := R83_0_0 α x9 x10 x13 x14 k1 fuel x12 x15
abbrev TL83_0_0 : Type 1 := (α : Type) → Int → Int → Rows → Int → (Int → Int → Bool → Option α) → Int → Int → Option α
def F83_0_0 (v : TL83_0_0) (α : Type) (K : Exit → St → Option α) : Int → Int → Int → Int → Int → Rows → Int → Int → Int → Rows → Int → Bool → Int → Int → Int → Option α := fun x8 x9 x10 x11 x12 x13 x14 x15 x16 x17 x18 x19 x20 x21 x22 => v α x9 x10 x13 x14 (fun (y1 : Int) (y2 : Int) (y3 : Bool) => u83_0_1 (K (.exit 0)) x8 x9 x10 x11 y1 x13 x14 y2 y3 x16 x17 x18 x19 x20 x21 x22) x12 x15
theorem r83_0_0g (vf124_0 : Tf124_0) (vf84_0 : Tf84_0)  (α : Type) (K : Exit → St → Option α) (Kn : St → Option α) (x8 : Int) (x9 : Int) (x10 : Int) (x11 : Int) (x12 : Int) (x13 : Rows) (x14 : Int) (x15 : Int) (x16 : Int) (x17 : Rows) (x18 : Int) (x19 : Bool) (x20 : Int) (x21 : Int) (x22 : Int) : u83_0_0 (fun σ => runM Try.prog (E83_0g vf124_0 vf84_0) sh83 (c83_0_11g ) (thenK (fun σ => tidyK td83_11 σ Kn) K) σ) x8 x9 x10 x11 x12 x13 x14 x15 x16 x17 x18 x19 x20 x21 x22 = S83_0_0g vf84_0 α x9 x10 x13 x14 x12 x15 (fun x12 x15 => u83_0_0 Kn x8 x9 x10 x11 x12 x13 x14 x15 x16 x17 x18 x19 x20 x21 x22) (fun (y1 : Int) (y2 : Int) (y3 : Bool) => u83_0_1 (K (.exit 0)) x8 x9 x10 x11 y1 x13 x14 y2 y3 x16 x17 x18 x19 x20 x21 x22) := by kernel_rfl
theorem r83_0_0 (α : Type) (K : Exit → St → Option α) (Kn : St → Option α) (x8 : Int) (x9 : Int) (x10 : Int) (x11 : Int) (x12 : Int) (x13 : Rows) (x14 : Int) (x15 : Int) (x16 : Int) (x17 : Rows) (x18 : Int) (x19 : Bool) (x20 : Int) (x21 : Int) (x22 : Int) : u83_0_0 (fun σ => runM Try.prog E83_0 sh83 c83_0_11 (thenK (fun σ => tidyK td83_11 σ Kn) K) σ) x8 x9 x10 x11 x12 x13 x14 x15 x16 x17 x18 x19 x20 x21 x22 = S83_0_0 α x9 x10 x13 x14 x12 x15 (fun x12 x15 => u83_0_0 Kn x8 x9 x10 x11 x12 x13 x14 x15 x16 x17 x18 x19 x20 x21 x22) (fun (y1 : Int) (y2 : Int) (y3 : Bool) => u83_0_1 (K (.exit 0)) x8 x9 x10 x11 y1 x13 x14 y2 y3 x16 x17 x18 x19 x20 x21 x22) := r83_0_0g f124_0 f84_0 α K Kn x8 x9 x10 x11 x12 x13 x14 x15 x16 x17 x18 x19 x20 x21 x22
theorem t83_0_0 (α : Type) (K : Exit → St → Option α) : ∀ (n : Nat) (x8 : Int) (x9 : Int) (x10 : Int) (x11 : Int) (x12 : Int) (x13 : Rows) (x14 : Int) (x15 : Int) (x16 : Int) (x17 : Rows) (x18 : Int) (x19 : Bool) (x20 : Int) (x21 : Int) (x22 : Int), R83_0_0 α x9 x10 x13 x14 (fun (y1 : Int) (y2 : Int) (y3 : Bool) => u83_0_1 (K (.exit 0)) x8 x9 x10 x11 y1 x13 x14 y2 y3 x16 x17 x18 x19 x20 x21 x22) n x12 x15 = u83_0_0 (loopT (runM Try.prog E83_0 sh83 c83_0_11) td83_11 K n) x8 x9 x10 x11 x12 x13 x14 x15 x16 x17 x18 x19 x20 x21 x22 := by
 intro n
 induction n with
 | zero => intros; rfl
 | succ n ih => intro x8 x9 x10 x11 x12 x13 x14 x15 x16 x17 x18 x19 x20 x21 x22; exact (congrArg (fun kn => S83_0_0 α x9 x10 x13 x14 x12 x15 kn (fun (y1 : Int) (y2 : Int) (y3 : Bool) => u83_0_1 (K (.exit 0)) x8 x9 x10 x11 y1 x13 x14 y2 y3 x16 x17 x18 x19 x20 x21 x22)) (funext fun x12 => funext fun x15 => ih x8 x9 x10 x11 x12 x13 x14 x15 x16 x17 x18 x19 x20 x21 x22)).trans (r83_0_0 α K (loopT (runM Try.prog E83_0 sh83 c83_0_11) td83_11 K n) x8 x9 x10 x11 x12 x13 x14 x15 x16 x17 x18 x19 x20 x21 x22).symm
theorem m83_0_0 : ∀ (α : Type) (K : Exit → St → Option α), F83_0_0 L83_0_0 α K = p83_0_0.unc fun σ => loopT (runM Try.prog E83_0 sh83 c83_0_11) td83_11 K fuel σ := fun α K => funext fun x8 => funext fun x9 => funext fun x10 => funext fun x11 => funext fun x12 => funext fun x13 => funext fun x14 => funext fun x15 => funext fun x16 => funext fun x17 => funext fun x18 => funext fun x19 => funext fun x20 => funext fun x21 => funext fun x22 => t83_0_0 α K fuel x8 x9 x10 x11 x12 x13 x14 x15 x16 x17 x18 x19 x20 x21 x22

/-- (etalon/grow.stretch).turn -/
abbrev Tf83_0 : Type 1 := (α : Type) → Int → Rows → Int → Int → Int → Int → (Bool → Int → Int → Int → Option α) → Option α
def f83_0g (vL83_0_0 : TL83_0_0) (vf124_0 : Tf124_0) (α : Type) (x1 : Int) (x2 : Rows) (x3 : Int) (x4 : Int) (x5 : Int) (x6 : Int) (k1 : Bool → Int → Int → Int → Option α) : Option α :=
 vf124_0 α x2 x5 x6
 (fun (x7 : Int) => vL83_0_0 α x5 x6 x2 ((List.length x2 : Nat) : Int)
 (fun (x26 : Int) (x27 : Int) (x28 : Bool) => k1 (x3 == 1) (w64 (x1 + x7)) (w64 (x1 + x26)) x4) x7 0)
noncomputable def f83_0 (α : Type) (x1 : Int) (x2 : Rows) (x3 : Int) (x4 : Int) (x5 : Int) (x6 : Int) (k1 : Bool → Int → Int → Int → Option α) : Option α := f83_0g L83_0_0 f124_0 α x1 x2 x3 x4 x5 x6 k1
def pa83_0 : PT (List DV) := pA [pV true [(dI .i64), dL, (dI .i64)], pV false [(dI .i64)], pV false [(dFn 84 [(dP [(dI .i64)] 0), (dP [(dI .i64)] 0)])]]
def Fn83_0 (v : Tf83_0) (α : Type) (k : List RV → Option α) : Int → Rows → Int → Int → Int → Int → Option α := fun x1 x2 x3 x4 x5 x6 => v α x1 x2 x3 x4 x5 x6 (fun (y1 : Bool) (y2 : Int) (y3 : Int) (y4 : Int) => ur83_0_0 k y1 y2 y3 y4)
noncomputable def cm83_0g (vL83_0_0 : TL83_0_0) : MCode := (.seq (.region r83_2 [] (some ⟨[1, 2, 3, 6], true, [], []⟩)) (.seq (.region r83_4 [] (some ⟨[1, 2, 3, 6, 7], true, [], []⟩)) (.seq (.region r83_6 [] (some ⟨[1, 2, 3, 6, 7, 8], true, [], []⟩)) (.seq (.seq (.region r83_9 [] (some ⟨[1, 2, 3, 6, 7, 8, 17, 18, 19], true, [], []⟩)) (.block 0 (.loop td83_11 [⟨p83_0_0, F83_0_0 vL83_0_0⟩] c83_0_11))) (.seq (.region r83_26 [] (some ⟨[6], true, [], []⟩)) .ret)))))
noncomputable def cm83_0 : MCode := cm83_0g L83_0_0
theorem gm83_0 : cm83_0.Good Try.prog E83_0 sh83 := ⟨trivial, ⟨trivial, ⟨trivial, ⟨⟨trivial, ⟨g83_0_11, m83_0_0, trivial⟩⟩, ⟨trivial, trivial⟩⟩⟩⟩⟩
theorem fm83_0g (vf124_0 : Tf124_0) (vf84_0 : Tf84_0) (vL83_0_0 : TL83_0_0) (α : Type) (k : List RV → Option α) : Fn83_0 (f83_0g vL83_0_0 vf124_0) α k = pa83_0.unc fun ds => fnM Try.prog (E83_0g vf124_0 vf84_0) sh83 (cm83_0g vL83_0_0) rs83 k ds := by kernel_rfl
theorem fm83_0 : ∀ (α : Type) (k : List RV → Option α), Fn83_0 f83_0 α k = pa83_0.unc fun ds => fnM Try.prog E83_0 sh83 cm83_0 rs83 k ds := fm83_0g f124_0 f84_0 L83_0_0

def p83_1_0 : PT St := pS [sl 1 (aV false [(cD (dI .i64))]), sl 2 (aV false [(cD (dFn 85 [(dP [(dI .i64)] 0), (dP [(dI .i64)] 0)]))]), sl 3 (aV false [(cPtr 3 0)]), sl 6 (aV false [(cPtr 6 0)]), sl 7 (aV false [(cD (dI .i64))]), sl 8 (aV false [(cD (dI .i64))]), sl 17 (aV false [(cD dL)]), sl 18 (aV false [(cD (dI .i64))]), sl 19 (aV false [(cD (dI .i64))])] [eBox 3 [(cD (dI .i64)), (cD dL), (cD (dI .i64))], eBox 6 [(cD dB), (cD (dI .i64)), (cD (dI .i64)), (cD (dI .i64))]]
def u83_1_0 {β : Type} (g : St → β) : Int → Int → Int → Int → Int → Rows → Int → Int → Int → Rows → Int → Bool → Int → Int → Int → β := p83_1_0.unc g

def p83_1_1 : PT St := pS [sl 1 (aV false [(cD (dI .i64))]), sl 2 (aV false [(cD (dFn 85 [(dP [(dI .i64)] 0), (dP [(dI .i64)] 0)]))]), sl 3 (aV false [(cPtr 3 0)]), sl 6 (aV false [(cPtr 6 0)]), sl 7 (aV false [(cD (dI .i64))]), sl 8 (aV false [(cD (dI .i64))]), sl 17 (aV false [(cD dL)]), sl 18 (aV false [(cD (dI .i64))]), sl 19 (aV false [(cD (dI .i64))]), sl 20 (aV false [(cD dB)])] [eBox 3 [(cD (dI .i64)), (cD dL), (cD (dI .i64))], eBox 6 [(cD dB), (cD (dI .i64)), (cD (dI .i64)), (cD (dI .i64))]]
def u83_1_1 {β : Type} (g : St → β) : Int → Int → Int → Int → Int → Rows → Int → Int → Bool → Int → Rows → Int → Bool → Int → Int → Int → β := p83_1_1.unc g

def pr83_1_0 : PT (List RV) := pRs [pR true [rD dB, rD (dI .i64), rD (dI .i64), rD (dI .i64)]]
def ur83_1_0 {β : Type} (g : List RV → β) : Bool → Int → Int → Int → β := pr83_1_0.unc g

def E83_1g (vf124_1 : Tf124_1) (vf85_0 : Tf85_0) : EnvK := EnvK.of [⟨124, nt124, [⟨pa124_1, Fn124_1 vf124_1⟩]⟩, ⟨85, nt85, [⟨pa85_0, Fn85_0 vf85_0⟩]⟩] noSeq
noncomputable def E83_1 : EnvK := E83_1g f124_1 f85_0
theorem eo83_1 : E83_1.Ok Try.prog := EnvK.of_ok noSeq_ok ⟨⟨io124_1, trivial⟩, ⟨io85_0, trivial⟩, trivial⟩

noncomputable def c83_1_11g  : MCode := (.seq (.region r83_13 [] (some ⟨[1, 2, 3, 6, 7, 8, 17, 18, 19, 20], true, [], []⟩)) (.seq (.cond (.tmp 20) .skip (.exit 0)) (.seq (.block 1 (.seq (.region r83_19 [] (some ⟨[1, 2, 3, 6, 7, 8, 9, 10, 17, 18, 19], true, [], []⟩)) (.seq (.region r83_21 [] (some ⟨[1, 2, 3, 6, 7, 8, 9, 17, 18, 19, 26], true, [], []⟩)) (.cond (.tmp 26) (.region r83_23 [] (some ⟨[1, 2, 3, 6, 7, 8, 17, 18, 19], true, [], []⟩)) .skip)))) (.region r83_24 [] (some ⟨[1, 2, 3, 6, 7, 8, 17, 18, 19], true, [], []⟩)))))
noncomputable def c83_1_11 : MCode := c83_1_11g 
theorem g83_1_11 : c83_1_11.Good Try.prog E83_1 sh83 := ⟨trivial, ⟨⟨trivial, trivial⟩, ⟨⟨trivial, ⟨trivial, ⟨trivial, trivial⟩⟩⟩, trivial⟩⟩⟩
--CODE 11 0
def S83_1_0g (vf85_0 : Tf85_0) (α : Type) (x9 : Int) (x10 : Int) (x13 : Rows) (x14 : Int) (x12 : Int) (x15 : Int) (kn : Int → Int → Option α) (k1 : Int → Int → Bool → Option α) : Option α :=
 cK (decide (x15 < x14))
 (rowK x13 x15 [.int .i64]
 (fun (x24 : Int) => vf85_0 α x24 x9 x10
 (fun (x25 : Bool) => cK x25
 (kn x15 (w64 (x15 + 1)))
 (kn x12 (w64 (x15 + 1))))))
 (k1 x12 x15 (decide (x15 < x14)))
noncomputable def S83_1_0 (α : Type) (x9 : Int) (x10 : Int) (x13 : Rows) (x14 : Int) (x12 : Int) (x15 : Int) (kn : Int → Int → Option α) (k1 : Int → Int → Bool → Option α) : Option α := S83_1_0g f85_0 α x9 x10 x13 x14 x12 x15 kn k1
noncomputable def R83_1_0 (α : Type) (x9 : Int) (x10 : Int) (x13 : Rows) (x14 : Int) (k1 : Int → Int → Bool → Option α) : Nat → Int → Int → Option α
 | 0, _, _ => none
 | n + 1, x12, x15 => S83_1_0 α x9 x10 x13 x14 x12 x15 (R83_1_0 α x9 x10 x13 x14 k1 n) k1
noncomputable def L83_1_0 (α : Type) (x9 : Int) (x10 : Int) (x13 : Rows) (x14 : Int) (k1 : Int → Int → Bool → Option α) (x12 : Int) (x15 : Int) : Option α := R83_1_0 α x9 x10 x13 x14 k1 fuel x12 x15
abbrev TL83_1_0 : Type 1 := (α : Type) → Int → Int → Rows → Int → (Int → Int → Bool → Option α) → Int → Int → Option α
def F83_1_0 (v : TL83_1_0) (α : Type) (K : Exit → St → Option α) : Int → Int → Int → Int → Int → Rows → Int → Int → Int → Rows → Int → Bool → Int → Int → Int → Option α := fun x8 x9 x10 x11 x12 x13 x14 x15 x16 x17 x18 x19 x20 x21 x22 => v α x9 x10 x13 x14 (fun (y1 : Int) (y2 : Int) (y3 : Bool) => u83_1_1 (K (.exit 0)) x8 x9 x10 x11 y1 x13 x14 y2 y3 x16 x17 x18 x19 x20 x21 x22) x12 x15
theorem r83_1_0g (vf124_1 : Tf124_1) (vf85_0 : Tf85_0)  (α : Type) (K : Exit → St → Option α) (Kn : St → Option α) (x8 : Int) (x9 : Int) (x10 : Int) (x11 : Int) (x12 : Int) (x13 : Rows) (x14 : Int) (x15 : Int) (x16 : Int) (x17 : Rows) (x18 : Int) (x19 : Bool) (x20 : Int) (x21 : Int) (x22 : Int) : u83_1_0 (fun σ => runM Try.prog (E83_1g vf124_1 vf85_0) sh83 (c83_1_11g ) (thenK (fun σ => tidyK td83_11 σ Kn) K) σ) x8 x9 x10 x11 x12 x13 x14 x15 x16 x17 x18 x19 x20 x21 x22 = S83_1_0g vf85_0 α x9 x10 x13 x14 x12 x15 (fun x12 x15 => u83_1_0 Kn x8 x9 x10 x11 x12 x13 x14 x15 x16 x17 x18 x19 x20 x21 x22) (fun (y1 : Int) (y2 : Int) (y3 : Bool) => u83_1_1 (K (.exit 0)) x8 x9 x10 x11 y1 x13 x14 y2 y3 x16 x17 x18 x19 x20 x21 x22) := by kernel_rfl
theorem r83_1_0 (α : Type) (K : Exit → St → Option α) (Kn : St → Option α) (x8 : Int) (x9 : Int) (x10 : Int) (x11 : Int) (x12 : Int) (x13 : Rows) (x14 : Int) (x15 : Int) (x16 : Int) (x17 : Rows) (x18 : Int) (x19 : Bool) (x20 : Int) (x21 : Int) (x22 : Int) : u83_1_0 (fun σ => runM Try.prog E83_1 sh83 c83_1_11 (thenK (fun σ => tidyK td83_11 σ Kn) K) σ) x8 x9 x10 x11 x12 x13 x14 x15 x16 x17 x18 x19 x20 x21 x22 = S83_1_0 α x9 x10 x13 x14 x12 x15 (fun x12 x15 => u83_1_0 Kn x8 x9 x10 x11 x12 x13 x14 x15 x16 x17 x18 x19 x20 x21 x22) (fun (y1 : Int) (y2 : Int) (y3 : Bool) => u83_1_1 (K (.exit 0)) x8 x9 x10 x11 y1 x13 x14 y2 y3 x16 x17 x18 x19 x20 x21 x22) := r83_1_0g f124_1 f85_0 α K Kn x8 x9 x10 x11 x12 x13 x14 x15 x16 x17 x18 x19 x20 x21 x22
theorem t83_1_0 (α : Type) (K : Exit → St → Option α) : ∀ (n : Nat) (x8 : Int) (x9 : Int) (x10 : Int) (x11 : Int) (x12 : Int) (x13 : Rows) (x14 : Int) (x15 : Int) (x16 : Int) (x17 : Rows) (x18 : Int) (x19 : Bool) (x20 : Int) (x21 : Int) (x22 : Int), R83_1_0 α x9 x10 x13 x14 (fun (y1 : Int) (y2 : Int) (y3 : Bool) => u83_1_1 (K (.exit 0)) x8 x9 x10 x11 y1 x13 x14 y2 y3 x16 x17 x18 x19 x20 x21 x22) n x12 x15 = u83_1_0 (loopT (runM Try.prog E83_1 sh83 c83_1_11) td83_11 K n) x8 x9 x10 x11 x12 x13 x14 x15 x16 x17 x18 x19 x20 x21 x22 := by
 intro n
 induction n with
 | zero => intros; rfl
 | succ n ih => intro x8 x9 x10 x11 x12 x13 x14 x15 x16 x17 x18 x19 x20 x21 x22; exact (congrArg (fun kn => S83_1_0 α x9 x10 x13 x14 x12 x15 kn (fun (y1 : Int) (y2 : Int) (y3 : Bool) => u83_1_1 (K (.exit 0)) x8 x9 x10 x11 y1 x13 x14 y2 y3 x16 x17 x18 x19 x20 x21 x22)) (funext fun x12 => funext fun x15 => ih x8 x9 x10 x11 x12 x13 x14 x15 x16 x17 x18 x19 x20 x21 x22)).trans (r83_1_0 α K (loopT (runM Try.prog E83_1 sh83 c83_1_11) td83_11 K n) x8 x9 x10 x11 x12 x13 x14 x15 x16 x17 x18 x19 x20 x21 x22).symm
theorem m83_1_0 : ∀ (α : Type) (K : Exit → St → Option α), F83_1_0 L83_1_0 α K = p83_1_0.unc fun σ => loopT (runM Try.prog E83_1 sh83 c83_1_11) td83_11 K fuel σ := fun α K => funext fun x8 => funext fun x9 => funext fun x10 => funext fun x11 => funext fun x12 => funext fun x13 => funext fun x14 => funext fun x15 => funext fun x16 => funext fun x17 => funext fun x18 => funext fun x19 => funext fun x20 => funext fun x21 => funext fun x22 => t83_1_0 α K fuel x8 x9 x10 x11 x12 x13 x14 x15 x16 x17 x18 x19 x20 x21 x22

/-- (etalon/grow.stretch).turn -/
abbrev Tf83_1 : Type 1 := (α : Type) → Int → Rows → Int → Int → Int → Int → (Bool → Int → Int → Int → Option α) → Option α
def f83_1g (vL83_1_0 : TL83_1_0) (vf124_1 : Tf124_1) (α : Type) (x1 : Int) (x2 : Rows) (x3 : Int) (x4 : Int) (x5 : Int) (x6 : Int) (k1 : Bool → Int → Int → Int → Option α) : Option α :=
 vf124_1 α x2 x5 x6
 (fun (x7 : Int) => vL83_1_0 α x5 x6 x2 ((List.length x2 : Nat) : Int)
 (fun (x26 : Int) (x27 : Int) (x28 : Bool) => k1 (x3 == 1) (w64 (x1 + x7)) (w64 (x1 + x26)) x4) x7 0)
noncomputable def f83_1 (α : Type) (x1 : Int) (x2 : Rows) (x3 : Int) (x4 : Int) (x5 : Int) (x6 : Int) (k1 : Bool → Int → Int → Int → Option α) : Option α := f83_1g L83_1_0 f124_1 α x1 x2 x3 x4 x5 x6 k1
def pa83_1 : PT (List DV) := pA [pV true [(dI .i64), dL, (dI .i64)], pV false [(dI .i64)], pV false [(dFn 85 [(dP [(dI .i64)] 0), (dP [(dI .i64)] 0)])]]
def Fn83_1 (v : Tf83_1) (α : Type) (k : List RV → Option α) : Int → Rows → Int → Int → Int → Int → Option α := fun x1 x2 x3 x4 x5 x6 => v α x1 x2 x3 x4 x5 x6 (fun (y1 : Bool) (y2 : Int) (y3 : Int) (y4 : Int) => ur83_1_0 k y1 y2 y3 y4)
noncomputable def cm83_1g (vL83_1_0 : TL83_1_0) : MCode := (.seq (.region r83_2 [] (some ⟨[1, 2, 3, 6], true, [], []⟩)) (.seq (.region r83_4 [] (some ⟨[1, 2, 3, 6, 7], true, [], []⟩)) (.seq (.region r83_6 [] (some ⟨[1, 2, 3, 6, 7, 8], true, [], []⟩)) (.seq (.seq (.region r83_9 [] (some ⟨[1, 2, 3, 6, 7, 8, 17, 18, 19], true, [], []⟩)) (.block 0 (.loop td83_11 [⟨p83_1_0, F83_1_0 vL83_1_0⟩] c83_1_11))) (.seq (.region r83_26 [] (some ⟨[6], true, [], []⟩)) .ret)))))
noncomputable def cm83_1 : MCode := cm83_1g L83_1_0
theorem gm83_1 : cm83_1.Good Try.prog E83_1 sh83 := ⟨trivial, ⟨trivial, ⟨trivial, ⟨⟨trivial, ⟨g83_1_11, m83_1_0, trivial⟩⟩, ⟨trivial, trivial⟩⟩⟩⟩⟩
theorem fm83_1g (vf124_1 : Tf124_1) (vf85_0 : Tf85_0) (vL83_1_0 : TL83_1_0) (α : Type) (k : List RV → Option α) : Fn83_1 (f83_1g vL83_1_0 vf124_1) α k = pa83_1.unc fun ds => fnM Try.prog (E83_1g vf124_1 vf85_0) sh83 (cm83_1g vL83_1_0) rs83 k ds := by kernel_rfl
theorem fm83_1 : ∀ (α : Type) (k : List RV → Option α), Fn83_1 f83_1 α k = pa83_1.unc fun ds => fnM Try.prog E83_1 sh83 cm83_1 rs83 k ds := fm83_1g f124_1 f85_0 L83_1_0

theorem is83 : FnIs Try.prog 83 nt83 tr83 tl83 cm83_0.erase rs83 := ⟨Try.f83, Try.func83, rfl, by kernel_rfl, by kernel_rfl, by kernel_rfl⟩
theorem io83_0 : InstOk Try.prog 83 nt83 ⟨pa83_0, Fn83_0 f83_0⟩ := inst_ok eo83_0 followsTry is83 ⟨⟨sh83, cm83_0, by kernel_rfl, gm83_0, fm83_0⟩⟩

theorem io83_1 : InstOk Try.prog 83 nt83 ⟨pa83_1, Fn83_1 f83_1⟩ := inst_ok eo83_1 followsTry is83 ⟨⟨sh83, cm83_1, by kernel_rfl, gm83_1, fm83_1⟩⟩

/-! ### F20 etalon/grow.CheckSignal -/
abbrev nt20 : Nat := 46
def sh20 : List (Nat × List Sh) := [(9, [.int .i64]), (14, [.sl]), (18, [.sl]), (23, [.flt .f32]), (24, [.flt .f32])]
def r20_2 : List AOper := [oO 1 (.box (.tmp 0)), oO 2 (.mv (.const (.int .i64 0))), oO 3 (.mv (.const (.int .i64 0)))]
def r20_6 : List AOper := [oO 8 (.faddr 0 (.tmp 1)), oO 9 (.load false 1 (.tmp 8)), oO 10 (.call 78 [(.tmp 9), (.const (.int .i64 0)), (.const (.int .i64 1000000))]), oO 11 (.pure (oB (.unOp .not 4 (.tmp 10)) 4)), oM 7 11]
def r20_9 : List AOper := [oO 2 (.mv (.const (.int .i64 0))), oO 3 (.mv (.const (.int .i64 2)))]
def r20_11 : List AOper := [oO 13 (.faddr 1 (.tmp 1)), oO 14 (.load false 1 (.tmp 13)), oO 15 (.len (.tmp 14)), oO 16 (.bin .gtr 3 (.tmp 15) (.const (.int .i64 200))), oM 12 16]
def r20_14 : List AOper := [oO 2 (.mv (.const (.int .i64 0))), oO 3 (.mv (.const (.int .i64 8)))]
def r20_17 : List AOper := [oO 17 (.faddr 1 (.tmp 1)), oO 18 (.load false 1 (.tmp 17)), oO 19 (.len (.tmp 18)), oO 20 (.mv (.const (.int .i64 0)))]
def td20_19 : Option Tidy := (some ⟨[18, 19, 20], true, [⟨false, 18, 0, 20018, 1⟩, ⟨true, 1, 1, 30101, 1⟩], []⟩)
def r20_21 : List AOper := [oO 21 (.bin .lss 3 (.tmp 20) (.tmp 19))]
def r20_27 : List AOper := [oM 22 20, oO 23 (.iaddr 1 none (.tmp 18) (.tmp 20)), oO 24 (.load false 1 (.tmp 23)), oM 4 22, oM 5 24]
def r20_29 : List AOper := [oM 25 5, oO 26 (.pure (oB (.convert 52 141 (.tmp 25)) 141)), oM 6 26]
def r20_32 : List AOper := [oM 28 6, oO 29 (.call 79 [(.tmp 28)]), oM 30 6, oO 31 (.bin .neq 141 (.tmp 29) (.tmp 30)), oM 32 31, ⟨(some 33), (.mv (.tmp 6)), (some (32, false))⟩, ⟨(some 34), (.call 80 [(.tmp 33), (.const (.int .i64 0))]), (some (32, false))⟩, oO 35 (.pick (.tmp 32) (.const (.bool true)) (.tmp 34)), oM 27 35]
def r20_35 : List AOper := [oM 36 4, oM 2 36, oO 3 (.mv (.const (.int .i64 27)))]
def r20_37 : List AOper := [oM 38 6, oO 39 (.bin .lss 141 (.tmp 38) (.const (.float Go.FloatKind.f64 0))), oM 40 39, ⟨(some 41), (.mv (.tmp 6)), (some (40, false))⟩, ⟨(some 42), (.bin .gtr 141 (.tmp 41) (.const (.float Go.FloatKind.f64 4696837146684686336))), (some (40, false))⟩, oO 43 (.pick (.tmp 40) (.const (.bool true)) (.tmp 42)), oM 37 43]
def r20_40 : List AOper := [oM 44 4, oM 2 44, oO 3 (.mv (.const (.int .i64 2)))]
def r20_41 : List AOper := [oO 45 (.bin .add 3 (.tmp 20) (.const (.int .i64 1))), oM 20 45]
def r20_43 : List AOper := [oO 2 (.mv (.const (.int .i64 0))), oO 3 (.mv (.const (.int .i64 0)))]
def tr20 : List (Nat × Tidy) := [(0, ⟨[1], true, [], []⟩), (1, ⟨[1, 7], true, [], []⟩), (2, ⟨[2, 3], true, [], []⟩), (3, ⟨[1, 12], true, [], []⟩), (4, ⟨[2, 3], true, [], []⟩), (5, ⟨[18, 19, 20], true, [], []⟩), (6, ⟨[18, 19, 20, 21], true, [], []⟩), (7, ⟨[4, 5, 18, 19, 20], true, [], []⟩), (8, ⟨[4, 6, 18, 19, 20], true, [], []⟩), (9, ⟨[4, 6, 18, 19, 20, 27], true, [], []⟩), (10, ⟨[2, 3], true, [], []⟩), (11, ⟨[4, 18, 19, 20, 37], true, [], []⟩), (12, ⟨[2, 3], true, [], []⟩), (13, ⟨[18, 19, 20], true, [], []⟩), (14, ⟨[2, 3], true, [], []⟩)]
def tl20 : List (Nat × Tidy) := [(6, ⟨[18, 19, 20], true, [⟨false, 18, 0, 20018, 1⟩, ⟨true, 1, 1, 30101, 1⟩], []⟩)]
def rs20 : List AResV := [.tmp 2, .tmp 3]
def p20_0_0 : PT St := pS [sl 4 (aV false [(cD (dI .i64))]), sl 5 (aV false [(cD (dF .f32))]), sl 18 (aV false [(cD dL)]), sl 19 (aV false [(cD (dI .i64))]), sl 20 (aV false [(cD (dI .i64))])] []
def u20_0_0 {β : Type} (g : St → β) : Int → Nat → Rows → Int → Int → β := p20_0_0.unc g

def p20_0_1 : PT St := pS [sl 4 (aV false [(cD (dI .i64))]), sl 6 (aV false [(cD (dNan .f64))]), sl 18 (aV false [(cD dL)]), sl 19 (aV false [(cD (dI .i64))]), sl 20 (aV false [(cD (dI .i64))])] []
def u20_0_1 {β : Type} (g : St → β) : Int → Rows → Int → Int → β := p20_0_1.unc g

def p20_0_2 : PT St := pS [sl 4 (aV false [(cD (dI .i64))]), sl 6 (aV false [(cD (dF .f64))]), sl 18 (aV false [(cD dL)]), sl 19 (aV false [(cD (dI .i64))]), sl 20 (aV false [(cD (dI .i64))])] []
def u20_0_2 {β : Type} (g : St → β) : Int → Nat → Rows → Int → Int → β := p20_0_2.unc g

def p20_0_3 : PT St := pS [sl 4 (aV false [(cD (dI .i64))]), sl 6 (aV false [(cD (dF .f64))]), sl 18 (aV false [(cD dL)]), sl 19 (aV false [(cD (dI .i64))]), sl 20 (aV false [(cD (dI .i64))]), sl 27 (aV false [(cD dB)])] []
def u20_0_3 {β : Type} (g : St → β) : Int → Nat → Rows → Int → Int → Bool → β := p20_0_3.unc g

def p20_0_4 : PT St := pS [sl 18 (aV false [(cD dL)]), sl 19 (aV false [(cD (dI .i64))]), sl 20 (aV false [(cD (dI .i64))])] []
def u20_0_4 {β : Type} (g : St → β) : Rows → Int → Int → β := p20_0_4.unc g

def p20_0_5 : PT St := pS [sl 2 (aV false [(cD (dI .i64))]), sl 3 (aV false [(cD (dI .i64))])] []
def u20_0_5 {β : Type} (g : St → β) : Int → Int → β := p20_0_5.unc g

def p20_0_6 : PT St := pS [sl 18 (aV false [(cD dL)]), sl 19 (aV false [(cD (dI .i64))]), sl 20 (aV false [(cD (dI .i64))]), sl 21 (aV false [(cD dB)])] []
def u20_0_6 {β : Type} (g : St → β) : Rows → Int → Int → Bool → β := p20_0_6.unc g

def pr20_0_0 : PT (List RV) := pRs [pR false [rD (dI .i64)], pR false [rD (dI .i64)]]
def ur20_0_0 {β : Type} (g : List RV → β) : Int → Int → β := pr20_0_0.unc g

def E20_0g (vf78_0 : Tf78_0) (vf79_0 : Tf79_0) (vf79_1 : Tf79_1) (vf80_0 : Tf80_0) : EnvK := EnvK.of [⟨78, nt78, [⟨pa78_0, Fn78_0 vf78_0⟩]⟩, ⟨79, nt79, [⟨pa79_0, Fn79_0 vf79_0⟩, ⟨pa79_1, Fn79_1 vf79_1⟩]⟩, ⟨80, nt80, [⟨pa80_0, Fn80_0 vf80_0⟩]⟩] noSeq
noncomputable def E20_0 : EnvK := E20_0g f78_0 f79_0 f79_1 f80_0
theorem eo20_0 : E20_0.Ok Try.prog := EnvK.of_ok noSeq_ok ⟨⟨io78_0, trivial⟩, ⟨io79_0, io79_1, trivial⟩, ⟨io80_0, trivial⟩, trivial⟩

noncomputable def c20_0_31g  : MCode := (.region r20_32 [] (some ⟨[4, 6, 18, 19, 20, 27], true, [], []⟩))
noncomputable def c20_0_31 : MCode := c20_0_31g 
theorem g20_0_31 : c20_0_31.Good Try.prog E20_0 sh20 := trivial
--CODE 31 0
abbrev TJ20_0_1 : Type 1 := (α : Type) → Nat → (Bool → Option α) → Option α
def J20_0_1g (vf79_1 : Tf79_1) (vf80_0 : Tf80_0) (α : Type) (x19 : Nat) (k1 : Bool → Option α) : Option α :=
 vf79_1 α x19
 (k1 true)
 (fun (x24 : Nat) => cK ((FloatKind.format .f64).order x24 x19 != some Ordering.eq)
 (k1 true)
 (vf80_0 α x19 0
 (fun (x25 : Bool) => k1 x25)))
noncomputable def J20_0_1 (α : Type) (x19 : Nat) (k1 : Bool → Option α) : Option α := J20_0_1g f79_1 f80_0 α x19 k1
def F20_0_1 (v : TJ20_0_1) (α : Type) (K : Exit → St → Option α) : Int → Nat → Rows → Int → Int → Option α := fun x18 x19 x20 x21 x22 => v α x19 (fun (y1 : Bool) => u20_0_3 (K .normal) x18 x19 x20 x21 x22 y1) 
theorem m20_0_1g (vf78_0 : Tf78_0) (vf79_0 : Tf79_0) (vf79_1 : Tf79_1) (vf80_0 : Tf80_0)  (α : Type) (K : Exit → St → Option α) : F20_0_1 (J20_0_1g vf79_1 vf80_0) α K = p20_0_2.unc fun σ => runM Try.prog (E20_0g vf78_0 vf79_0 vf79_1 vf80_0) sh20 (c20_0_31g ) K σ := by kernel_rfl
theorem m20_0_1 : ∀ (α : Type) (K : Exit → St → Option α), F20_0_1 J20_0_1 α K = p20_0_2.unc fun σ => runM Try.prog E20_0 sh20 c20_0_31 K σ := m20_0_1g f78_0 f79_0 f79_1 f80_0

noncomputable def c20_0_28g  : MCode := (.region r20_29 [] (some ⟨[4, 6, 18, 19, 20], true, [], []⟩))
noncomputable def c20_0_28 : MCode := c20_0_28g 
theorem g20_0_28 : c20_0_28.Good Try.prog E20_0 sh20 := trivial
--CODE 28 0
abbrev TJ20_0_0 : Type 1 := (α : Type) → Nat → (Option α) → (Nat → Option α) → Option α
def J20_0_0g  (α : Type) (x10 : Nat) (k1 : Option α) (k2 : Nat → Option α) : Option α :=
 cK (isNaNb .f32 x10)
 (k1)
 (flK (f2f .f32 x10 .f64)
 (fun (x15 : Nat) => k2 x15))
noncomputable def J20_0_0 (α : Type) (x10 : Nat) (k1 : Option α) (k2 : Nat → Option α) : Option α := J20_0_0g  α x10 k1 k2
def F20_0_0 (v : TJ20_0_0) (α : Type) (K : Exit → St → Option α) : Int → Nat → Rows → Int → Int → Option α := fun x9 x10 x11 x12 x13 => v α x10 (u20_0_1 (K .normal) x9 x11 x12 x13) (fun (y1 : Nat) => u20_0_2 (K .normal) x9 y1 x11 x12 x13) 
theorem m20_0_0g (vf78_0 : Tf78_0) (vf79_0 : Tf79_0) (vf79_1 : Tf79_1) (vf80_0 : Tf80_0)  (α : Type) (K : Exit → St → Option α) : F20_0_0 (J20_0_0g ) α K = p20_0_0.unc fun σ => runM Try.prog (E20_0g vf78_0 vf79_0 vf79_1 vf80_0) sh20 (c20_0_28g ) K σ := by kernel_rfl
theorem m20_0_0 : ∀ (α : Type) (K : Exit → St → Option α), F20_0_0 J20_0_0 α K = p20_0_0.unc fun σ => runM Try.prog E20_0 sh20 c20_0_28 K σ := m20_0_0g f78_0 f79_0 f79_1 f80_0

noncomputable def c20_0_19g (vJ20_0_0 : TJ20_0_0) (vJ20_0_1 : TJ20_0_1) : MCode := (.seq (.region r20_21 [] (some ⟨[18, 19, 20, 21], true, [], []⟩)) (.seq (.cond (.tmp 21) .skip (.exit 1)) (.seq (.block 2 (.seq (.region r20_27 [] (some ⟨[4, 5, 18, 19, 20], true, [], []⟩)) (.seq (.mark [⟨p20_0_0, F20_0_0 vJ20_0_0⟩] c20_0_28) (.block 3 (.seq (.mark [⟨p20_0_2, F20_0_1 vJ20_0_1⟩] c20_0_31) (.cond (.tmp 27) (.seq (.region r20_35 [] (some ⟨[2, 3], true, [], []⟩)) .ret) (.seq (.region r20_37 [] (some ⟨[4, 18, 19, 20, 37], true, [], []⟩)) (.cond (.tmp 37) (.seq (.region r20_40 [] (some ⟨[2, 3], true, [], []⟩)) .ret) .skip)))))))) (.region r20_41 [] (some ⟨[18, 19, 20], true, [], []⟩)))))
noncomputable def c20_0_19 : MCode := c20_0_19g J20_0_0 J20_0_1
theorem g20_0_19 : c20_0_19.Good Try.prog E20_0 sh20 := ⟨trivial, ⟨⟨trivial, trivial⟩, ⟨⟨trivial, ⟨⟨g20_0_28, m20_0_0, trivial⟩, ⟨⟨g20_0_31, m20_0_1, trivial⟩, ⟨⟨trivial, trivial⟩, ⟨trivial, ⟨⟨trivial, trivial⟩, trivial⟩⟩⟩⟩⟩⟩, trivial⟩⟩⟩
--CODE 19 0
def S20_0_2g (vJ20_0_0 : TJ20_0_0) (vJ20_0_1 : TJ20_0_1) (vf79_0 : Tf79_0) (α : Type) (x4 : Rows) (x5 : Int) (x6 : Int) (kn : Int → Option α) (k1 : Int → Int → Option α) (k2 : Int → Bool → Option α) : Option α :=
 cK (decide (x6 < x5))
 (rowK x4 x6 [.flt .f32]
 (fun (x8 : Nat) => vJ20_0_0 α x8
 (vf79_0 α 
 (k1 x6 27))
 (fun (x16 : Nat) => vJ20_0_1 α x16
 (fun (x26 : Bool) => cK x26
 (k1 x6 27)
 (cK ((FloatKind.format .f64).order x16 0 == some Ordering.lt)
 (k1 x6 2)
 (cK ((FloatKind.format .f64).order x16 4696837146684686336 == some Ordering.gt)
 (k1 x6 2)
 (kn (w64 (x6 + 1)))))))))
 (k2 x6 (decide (x6 < x5)))
noncomputable def S20_0_2 (α : Type) (x4 : Rows) (x5 : Int) (x6 : Int) (kn : Int → Option α) (k1 : Int → Int → Option α) (k2 : Int → Bool → Option α) : Option α := S20_0_2g J20_0_0 J20_0_1 f79_0 α x4 x5 x6 kn k1 k2
noncomputable def R20_0_2 (α : Type) (x4 : Rows) (x5 : Int) (k1 : Int → Int → Option α) (k2 : Int → Bool → Option α) : Nat → Int → Option α
 | 0, _ => none
 | n + 1, x6 => S20_0_2 α x4 x5 x6 (R20_0_2 α x4 x5 k1 k2 n) k1 k2
noncomputable def L20_0_2 (α : Type) (x4 : Rows) (x5 : Int) (k1 : Int → Int → Option α) (k2 : Int → Bool → Option α) (x6 : Int) : Option α := R20_0_2 α x4 x5 k1 k2 fuel x6
abbrev TL20_0_2 : Type 1 := (α : Type) → Rows → Int → (Int → Int → Option α) → (Int → Bool → Option α) → Int → Option α
def F20_0_2 (v : TL20_0_2) (α : Type) (K : Exit → St → Option α) : Rows → Int → Int → Option α := fun x4 x5 x6 => v α x4 x5 (fun (y1 : Int) (y2 : Int) => u20_0_5 (K .ret) y1 y2) (fun (y1 : Int) (y2 : Bool) => u20_0_6 (K (.exit 1)) x4 x5 y1 y2) x6
theorem r20_0_2g (vf78_0 : Tf78_0) (vf79_0 : Tf79_0) (vf79_1 : Tf79_1) (vf80_0 : Tf80_0) (vJ20_0_0 : TJ20_0_0) (vJ20_0_1 : TJ20_0_1) (α : Type) (K : Exit → St → Option α) (Kn : St → Option α) (x4 : Rows) (x5 : Int) (x6 : Int) : u20_0_4 (fun σ => runM Try.prog (E20_0g vf78_0 vf79_0 vf79_1 vf80_0) sh20 (c20_0_19g vJ20_0_0 vJ20_0_1) (thenK (fun σ => tidyK td20_19 σ Kn) K) σ) x4 x5 x6 = S20_0_2g vJ20_0_0 vJ20_0_1 vf79_0 α x4 x5 x6 (fun x6 => u20_0_4 Kn x4 x5 x6) (fun (y1 : Int) (y2 : Int) => u20_0_5 (K .ret) y1 y2) (fun (y1 : Int) (y2 : Bool) => u20_0_6 (K (.exit 1)) x4 x5 y1 y2) := by kernel_rfl
theorem r20_0_2 (α : Type) (K : Exit → St → Option α) (Kn : St → Option α) (x4 : Rows) (x5 : Int) (x6 : Int) : u20_0_4 (fun σ => runM Try.prog E20_0 sh20 c20_0_19 (thenK (fun σ => tidyK td20_19 σ Kn) K) σ) x4 x5 x6 = S20_0_2 α x4 x5 x6 (fun x6 => u20_0_4 Kn x4 x5 x6) (fun (y1 : Int) (y2 : Int) => u20_0_5 (K .ret) y1 y2) (fun (y1 : Int) (y2 : Bool) => u20_0_6 (K (.exit 1)) x4 x5 y1 y2) := r20_0_2g f78_0 f79_0 f79_1 f80_0 J20_0_0 J20_0_1 α K Kn x4 x5 x6
theorem t20_0_2 (α : Type) (K : Exit → St → Option α) : ∀ (n : Nat) (x4 : Rows) (x5 : Int) (x6 : Int), R20_0_2 α x4 x5 (fun (y1 : Int) (y2 : Int) => u20_0_5 (K .ret) y1 y2) (fun (y1 : Int) (y2 : Bool) => u20_0_6 (K (.exit 1)) x4 x5 y1 y2) n x6 = u20_0_4 (loopT (runM Try.prog E20_0 sh20 c20_0_19) td20_19 K n) x4 x5 x6 := by
 intro n
 induction n with
 | zero => intros; rfl
 | succ n ih => intro x4 x5 x6; exact (congrArg (fun kn => S20_0_2 α x4 x5 x6 kn (fun (y1 : Int) (y2 : Int) => u20_0_5 (K .ret) y1 y2) (fun (y1 : Int) (y2 : Bool) => u20_0_6 (K (.exit 1)) x4 x5 y1 y2)) (funext fun x6 => ih x4 x5 x6)).trans (r20_0_2 α K (loopT (runM Try.prog E20_0 sh20 c20_0_19) td20_19 K n) x4 x5 x6).symm
theorem m20_0_2 : ∀ (α : Type) (K : Exit → St → Option α), F20_0_2 L20_0_2 α K = p20_0_4.unc fun σ => loopT (runM Try.prog E20_0 sh20 c20_0_19) td20_19 K fuel σ := fun α K => funext fun x4 => funext fun x5 => funext fun x6 => t20_0_2 α K fuel x4 x5 x6

/-- etalon/grow.CheckSignal -/
abbrev Tf20_0 : Type 1 := (α : Type) → Int → Rows → (Int → Int → Option α) → Option α
def f20_0g (vL20_0_2 : TL20_0_2) (vf78_0 : Tf78_0) (α : Type) (x1 : Int) (x2 : Rows) (k1 : Int → Int → Option α) : Option α :=
 vf78_0 α x1 0 1000000
 (fun (x3 : Bool) => cK (!x3)
 (k1 0 2)
 (cK (decide (200 < ((List.length x2 : Nat) : Int)))
 (k1 0 8)
 (vL20_0_2 α x2 ((List.length x2 : Nat) : Int)
 (fun (x28 : Int) (x29 : Int) => k1 x28 x29)
 (fun (x30 : Int) (x31 : Bool) => k1 0 0) 0)))
noncomputable def f20_0 (α : Type) (x1 : Int) (x2 : Rows) (k1 : Int → Int → Option α) : Option α := f20_0g L20_0_2 f78_0 α x1 x2 k1
def pa20_0 : PT (List DV) := pA [pV true [(dI .i64), dL]]
def Fn20_0 (v : Tf20_0) (α : Type) (k : List RV → Option α) : Int → Rows → Option α := fun x1 x2 => v α x1 x2 (fun (y1 : Int) (y2 : Int) => ur20_0_0 k y1 y2)
noncomputable def cm20_0g (vL20_0_2 : TL20_0_2) : MCode := (.seq (.region r20_2 [] (some ⟨[1], true, [], []⟩)) (.seq (.block 0 (.seq (.region r20_6 [] (some ⟨[1, 7], true, [], []⟩)) (.cond (.tmp 7) (.seq (.region r20_9 [] (some ⟨[2, 3], true, [], []⟩)) .ret) (.seq (.region r20_11 [] (some ⟨[1, 12], true, [], []⟩)) (.cond (.tmp 12) (.seq (.region r20_14 [] (some ⟨[2, 3], true, [], []⟩)) .ret) .skip))))) (.seq (.seq (.region r20_17 [] (some ⟨[18, 19, 20], true, [], []⟩)) (.block 1 (.loop td20_19 [⟨p20_0_4, F20_0_2 vL20_0_2⟩] c20_0_19))) (.seq (.region r20_43 [] (some ⟨[2, 3], true, [], []⟩)) .ret))))
noncomputable def cm20_0 : MCode := cm20_0g L20_0_2
theorem gm20_0 : cm20_0.Good Try.prog E20_0 sh20 := ⟨trivial, ⟨⟨trivial, ⟨⟨trivial, trivial⟩, ⟨trivial, ⟨⟨trivial, trivial⟩, trivial⟩⟩⟩⟩, ⟨⟨trivial, ⟨g20_0_19, m20_0_2, trivial⟩⟩, ⟨trivial, trivial⟩⟩⟩⟩
theorem fm20_0g (vf78_0 : Tf78_0) (vf79_0 : Tf79_0) (vf79_1 : Tf79_1) (vf80_0 : Tf80_0) (vL20_0_2 : TL20_0_2) (α : Type) (k : List RV → Option α) : Fn20_0 (f20_0g vL20_0_2 vf78_0) α k = pa20_0.unc fun ds => fnM Try.prog (E20_0g vf78_0 vf79_0 vf79_1 vf80_0) sh20 (cm20_0g vL20_0_2) rs20 k ds := by kernel_rfl
theorem fm20_0 : ∀ (α : Type) (k : List RV → Option α), Fn20_0 f20_0 α k = pa20_0.unc fun ds => fnM Try.prog E20_0 sh20 cm20_0 rs20 k ds := fm20_0g f78_0 f79_0 f79_1 f80_0 L20_0_2

theorem is20 : FnIs Try.prog 20 nt20 tr20 tl20 cm20_0.erase rs20 := ⟨Try.f20, Try.func20, rfl, by kernel_rfl, by kernel_rfl, by kernel_rfl⟩
theorem io20_0 : InstOk Try.prog 20 nt20 ⟨pa20_0, Fn20_0 f20_0⟩ := inst_ok eo20_0 followsTry is20 ⟨⟨sh20, cm20_0, by kernel_rfl, gm20_0, fm20_0⟩⟩

/-! ### F22 etalon/grow.Turns -/
abbrev nt22 : Nat := 114
def sh22 : List (Nat × List Sh) := [(15, [.int .i64, .sl]), (23, [.int .i64]), (27, [.sl]), (32, [.flt .f32]), (33, [.flt .f32]), (37, [.sl]), (41, [.sl]), (48, [.sl]), (53, [.sl]), (64, [.int .i64]), (67, [.int .i64]), (70, [.int .i64]), (74, [.int .i64]), (77, [.int .i64, .sl, .int .i64]), (89, [.int .i64]), (93, [.int .i64]), (95, [.int .i64]), (99, [.int .i64]), (102, [.int .i64, .sl, .int .i64]), (57, [.sl])]
def r22_2 : List AOper := [oO 1 (.box (.tmp 0)), oO 2 (.mv (.const (.slice none 0 0))), oO 3 (.mv (.const (.int .i64 0)))]
def r22_5 : List AOper := [oO 15 (.load true 2 (.tmp 1)), oO 16 (.call 20 [(.tmp 15)]), oM 14 16, oO 17 (.extract 0 (.tmp 14)), oO 18 (.extract 1 (.tmp 14)), oM 4 17, oM 5 18]
def r22_7 : List AOper := [oM 19 5, oO 20 (.bin .neq 32 (.tmp 19) (.const (.int .i64 0)))]
def r22_10 : List AOper := [oM 21 5, oO 2 (.mv (.const (.slice none 0 0))), oM 3 21]
def r22_12 : List AOper := [oO 6 (.mv (.const (.slice none 0 0)))]
def r22_14 : List AOper := [oO 22 (.faddr 0 (.tmp 1)), oO 23 (.load false 1 (.tmp 22)), oO 24 (.bin .mul 3 (.const (.int .i64 2)) (.tmp 23)), oO 7 (.alloc [(.d (.v (.int .i64 0)))]), ⟨none, (.store 1 (.tmp 7) (.tmp 24)), none⟩]
def r22_16 : List AOper := [oO 25 (.build [(.d (.v (.int .i64 0))), .nils, (.d (.v (.int .i64 0)))] [(2, 1, (.const (.int .i64 0)))]), oO 8 (.alloc [(.d (.v (.int .i64 0))), .nils, (.d (.v (.int .i64 0)))]), ⟨none, (.store 3 (.tmp 8) (.tmp 25)), none⟩]
def r22_19 : List AOper := [oO 26 (.faddr 1 (.tmp 1)), oO 27 (.load false 1 (.tmp 26)), oO 28 (.len (.tmp 27)), oO 29 (.mv (.const (.int .i64 0)))]
def td22_21 : Option Tidy := (some ⟨[6, 7, 8, 27, 28, 29], true, [⟨false, 6, 0, 20006, 4⟩, ⟨false, 27, 0, 20027, 1⟩, ⟨true, 1, 1, 30101, 1⟩, ⟨true, 8, 1, 30801, 1⟩], []⟩)
def r22_23 : List AOper := [oO 30 (.bin .lss 3 (.tmp 29) (.tmp 28))]
def r22_29 : List AOper := [oM 31 29, oO 32 (.iaddr 1 none (.tmp 27) (.tmp 29)), oO 33 (.load false 1 (.tmp 32)), oM 9 31, oM 10 33]
def r22_31 : List AOper := [oM 34 10, oO 35 (.pure (oB (.convert 52 3 (.tmp 34)) 3)), oM 11 35]
def r22_34 : List AOper := [oO 36 (.faddr 1 (.tmp 8)), oO 37 (.load false 1 (.tmp 36)), oO 38 (.len (.tmp 37)), oO 39 (.bin .eql 3 (.tmp 38) (.const (.int .i64 0)))]
def r22_37 : List AOper := [oO 40 (.faddr 1 (.tmp 8)), oO 41 (.load false 1 (.tmp 40)), oM 42 11, oO 43 (.bslice 1 1 [(.v (.int .i64 0))] [(0, (.tmp 42))]), oO 44 (.append 1 8 (.tmp 41) (.tmp 43)), oO 45 (.faddr 1 (.tmp 8)), ⟨none, (.store 1 (.tmp 45) (.tmp 44)), none⟩]
def r22_39 : List AOper := [oM 46 11, oO 47 (.faddr 1 (.tmp 8)), oO 48 (.load false 1 (.tmp 47)), oO 49 (.call 81 [(.tmp 48)]), oO 50 (.pure (oB (.call { callee := .builtin .max, args := #[(.tmp 46), (.tmp 49)], argTypes := #[3, 3] }) 3)), oM 51 11, oO 52 (.faddr 1 (.tmp 8)), oO 53 (.load false 1 (.tmp 52)), oO 54 (.call 82 [(.tmp 53)]), oO 55 (.pure (oB (.call { callee := .builtin .min, args := #[(.tmp 51), (.tmp 54)], argTypes := #[3, 3] }) 3)), oO 12 (.alloc [(.d (.v (.int .i64 0)))]), oO 13 (.alloc [(.d (.v (.int .i64 0)))]), ⟨none, (.store 1 (.tmp 12) (.tmp 50)), none⟩, ⟨none, (.store 1 (.tmp 13) (.tmp 55)), none⟩]
def r22_42 : List AOper := [oO 63 (.faddr 2 (.tmp 8)), oO 64 (.load false 1 (.tmp 63)), oO 65 (.bin .neq 3 (.tmp 64) (.const (.int .i64 (-1)))), oM 66 65, ⟨(some 67), (.load false 1 (.tmp 12)), (some (66, true))⟩, ⟨(some 68), (.mv (.tmp 11)), (some (66, true))⟩, ⟨(some 69), (.bin .sub 3 (.tmp 67) (.tmp 68)), (some (66, true))⟩, ⟨(some 70), (.load false 1 (.tmp 7)), (some (66, true))⟩, ⟨(some 71), (.bin .gtr 3 (.tmp 69) (.tmp 70)), (some (66, true))⟩, oO 72 (.pick (.tmp 66) (.tmp 71) (.const (.bool false))), oM 62 72]
def r22_46 : List AOper := [oO 73 (.faddr 2 (.tmp 8)), oO 74 (.load false 1 (.tmp 73)), oO 75 (.bin .eql 3 (.tmp 74) (.const (.int .i64 1)))]
def r22_48 : List AOper := [oM 76 6, oO 77 (.load true 3 (.tmp 8)), oM 78 9, oO 79 (.mkfn 84 [(.tmp 12), (.tmp 7)]), oO 80 (.call 83 [(.tmp 77), (.tmp 78), (.tmp 79)]), oO 81 (.bslice 4 1 [(.v (.bool false)), (.v (.int .i64 0)), (.v (.int .i64 0)), (.v (.int .i64 0))] [(0, (.tmp 80))]), oO 82 (.append 4 32 (.tmp 76) (.tmp 81)), oM 6 82]
def r22_49 : List AOper := [oM 83 9, oM 84 11, oO 85 (.bslice 1 1 [(.v (.int .i64 0))] [(0, (.tmp 84))]), oO 86 (.build [(.d (.v (.int .i64 0))), .nils, (.d (.v (.int .i64 0)))] [(0, 1, (.tmp 83)), (1, 1, (.tmp 85)), (2, 1, (.const (.int .i64 (-1))))]), ⟨none, (.store 3 (.tmp 8) (.tmp 86)), none⟩]
def r22_51 : List AOper := [oO 88 (.faddr 2 (.tmp 8)), oO 89 (.load false 1 (.tmp 88)), oO 90 (.bin .neq 3 (.tmp 89) (.const (.int .i64 1))), oM 91 90, ⟨(some 92), (.mv (.tmp 11)), (some (91, true))⟩, ⟨(some 93), (.load false 1 (.tmp 13)), (some (91, true))⟩, ⟨(some 94), (.bin .sub 3 (.tmp 92) (.tmp 93)), (some (91, true))⟩, ⟨(some 95), (.load false 1 (.tmp 7)), (some (91, true))⟩, ⟨(some 96), (.bin .gtr 3 (.tmp 94) (.tmp 95)), (some (91, true))⟩, oO 97 (.pick (.tmp 91) (.tmp 96) (.const (.bool false))), oM 87 97]
def r22_55 : List AOper := [oO 98 (.faddr 2 (.tmp 8)), oO 99 (.load false 1 (.tmp 98)), oO 100 (.bin .eql 3 (.tmp 99) (.const (.int .i64 (-1))))]
def r22_57 : List AOper := [oM 101 6, oO 102 (.load true 3 (.tmp 8)), oM 103 9, oO 104 (.mkfn 85 [(.tmp 13), (.tmp 7)]), oO 105 (.call 83 [(.tmp 102), (.tmp 103), (.tmp 104)]), oO 106 (.bslice 4 1 [(.v (.bool false)), (.v (.int .i64 0)), (.v (.int .i64 0)), (.v (.int .i64 0))] [(0, (.tmp 105))]), oO 107 (.append 4 32 (.tmp 101) (.tmp 106)), oM 6 107]
def r22_58 : List AOper := [oM 108 9, oM 109 11, oO 110 (.bslice 1 1 [(.v (.int .i64 0))] [(0, (.tmp 109))]), oO 111 (.build [(.d (.v (.int .i64 0))), .nils, (.d (.v (.int .i64 0)))] [(0, 1, (.tmp 108)), (1, 1, (.tmp 110)), (2, 1, (.const (.int .i64 1)))]), ⟨none, (.store 3 (.tmp 8) (.tmp 111)), none⟩]
def r22_59 : List AOper := [oO 56 (.faddr 1 (.tmp 8)), oO 57 (.load false 1 (.tmp 56)), oM 58 11, oO 59 (.bslice 1 1 [(.v (.int .i64 0))] [(0, (.tmp 58))]), oO 60 (.append 1 8 (.tmp 57) (.tmp 59)), oO 61 (.faddr 1 (.tmp 8)), ⟨none, (.store 1 (.tmp 61) (.tmp 60)), none⟩]
def r22_60 : List AOper := [oO 112 (.bin .add 3 (.tmp 29) (.const (.int .i64 1))), oM 29 112]
def r22_62 : List AOper := [oM 113 6, oM 2 113, oO 3 (.mv (.const (.int .i64 0)))]
def tr22 : List (Nat × Tidy) := [(0, ⟨[1], true, [], []⟩), (1, ⟨[1, 5], true, [], []⟩), (2, ⟨[1, 5, 20], true, [], []⟩), (3, ⟨[2, 3], true, [⟨false, 2, 0, 20002, 4⟩], []⟩), (4, ⟨[1, 6], true, [], []⟩), (5, ⟨[1, 6, 7], true, [], []⟩), (6, ⟨[1, 6, 7, 8], true, [], []⟩), (7, ⟨[6, 7, 8, 27, 28, 29], true, [], []⟩), (8, ⟨[6, 7, 8, 27, 28, 29, 30], true, [], []⟩), (9, ⟨[6, 7, 8, 9, 10, 27, 28, 29], true, [], []⟩), (10, ⟨[6, 7, 8, 9, 11, 27, 28, 29], true, [], []⟩), (11, ⟨[6, 7, 8, 9, 11, 27, 28, 29, 39], true, [], []⟩), (12, ⟨[6, 7, 8, 27, 28, 29], true, [], []⟩), (13, ⟨[6, 7, 8, 9, 11, 12, 13, 27, 28, 29], true, [], []⟩), (15, ⟨[6, 7, 8, 9, 11, 12, 13, 27, 28, 29, 62], true, [], []⟩), (16, ⟨[6, 7, 8, 9, 11, 12, 27, 28, 29, 75], true, [], []⟩), (17, ⟨[6, 7, 8, 9, 11, 27, 28, 29], true, [], []⟩), (18, ⟨[6, 7, 8, 27, 28, 29], true, [], []⟩), (19, ⟨[6, 7, 8, 9, 11, 13, 27, 28, 29, 87], true, [], []⟩), (20, ⟨[6, 7, 8, 9, 11, 13, 27, 28, 29, 100], true, [], []⟩), (21, ⟨[6, 7, 8, 9, 11, 27, 28, 29], true, [], []⟩), (22, ⟨[6, 7, 8, 27, 28, 29], true, [], []⟩), (14, ⟨[6, 7, 8, 27, 28, 29], true, [], []⟩), (23, ⟨[6, 7, 8, 27, 28, 29], true, [], []⟩), (24, ⟨[2, 3], true, [⟨false, 2, 0, 20002, 4⟩], []⟩)]
def tl22 : List (Nat × Tidy) := [(8, ⟨[6, 7, 8, 27, 28, 29], true, [⟨false, 6, 0, 20006, 4⟩, ⟨false, 27, 0, 20027, 1⟩, ⟨true, 1, 1, 30101, 1⟩, ⟨true, 8, 1, 30801, 1⟩], []⟩)]
def rs22 : List AResV := [.tmp 2, .tmp 3]
def p22_0_0 : PT St := pS [sl 6 (aV false [(cRef 20006)]), sl 7 (aV false [(cPtr 7 0)]), sl 8 (aV false [(cPtr 8 0)]), sl 9 (aV false [(cD (dI .i64))]), sl 11 (aV false [(cD (dI .i64))]), sl 12 (aV false [(cPtr 12 0)]), sl 13 (aV false [(cPtr 13 0)]), sl 27 (aV false [(cD dL)]), sl 28 (aV false [(cD (dI .i64))]), sl 29 (aV false [(cD (dI .i64))])] [eOwn 20006 4, eBox 7 [(cD (dI .i64))], eBox 8 [(cD (dI .i64)), (cRef 30801), (cD (dI .i64))], eOwn 30801 1, eBox 12 [(cD (dI .i64))], eBox 13 [(cD (dI .i64))]]
def u22_0_0 {β : Type} (g : St → β) : Int → Int → Rows → Int → Int → Rows → Int → Int → Int → Rows → Int → Int → β := p22_0_0.unc g

def p22_0_1 : PT St := pS [sl 6 (aV false [(cRef 20006)]), sl 7 (aV false [(cPtr 7 0)]), sl 8 (aV false [(cPtr 8 0)]), sl 9 (aV false [(cD (dI .i64))]), sl 11 (aV false [(cD (dI .i64))]), sl 12 (aV false [(cPtr 12 0)]), sl 13 (aV false [(cPtr 13 0)]), sl 27 (aV false [(cD dL)]), sl 28 (aV false [(cD (dI .i64))]), sl 29 (aV false [(cD (dI .i64))]), sl 62 (aV false [(cD dB)])] [eOwn 20006 4, eBox 7 [(cD (dI .i64))], eBox 8 [(cD (dI .i64)), (cRef 30801), (cD (dI .i64))], eOwn 30801 1, eBox 12 [(cD (dI .i64))], eBox 13 [(cD (dI .i64))]]
def u22_0_1 {β : Type} (g : St → β) : Int → Int → Rows → Int → Int → Bool → Rows → Int → Int → Int → Rows → Int → Int → β := p22_0_1.unc g

def p22_0_2 : PT St := pS [sl 6 (aV false [(cRef 20006)]), sl 7 (aV false [(cPtr 7 0)]), sl 8 (aV false [(cPtr 8 0)]), sl 9 (aV false [(cD (dI .i64))]), sl 11 (aV false [(cD (dI .i64))]), sl 13 (aV false [(cPtr 13 0)]), sl 27 (aV false [(cD dL)]), sl 28 (aV false [(cD (dI .i64))]), sl 29 (aV false [(cD (dI .i64))]), sl 87 (aV false [(cD dB)])] [eOwn 20006 4, eBox 7 [(cD (dI .i64))], eBox 8 [(cD (dI .i64)), (cRef 30801), (cD (dI .i64))], eOwn 30801 1, eBox 13 [(cD (dI .i64))]]
def u22_0_2 {β : Type} (g : St → β) : Int → Int → Rows → Int → Int → Bool → Rows → Int → Int → Int → Rows → Int → β := p22_0_2.unc g

def p22_0_3 : PT St := pS [sl 6 (aV false [(cRef 20006)]), sl 7 (aV false [(cPtr 7 0)]), sl 8 (aV false [(cPtr 8 0)]), sl 27 (aV false [(cD dL)]), sl 28 (aV false [(cD (dI .i64))]), sl 29 (aV false [(cD (dI .i64))]), sl 30 (aV false [(cD dB)])] [eOwn 20006 4, eBox 7 [(cD (dI .i64))], eBox 8 [(cD (dI .i64)), (cRef 30801), (cD (dI .i64))], eOwn 30801 1]
def u22_0_3 {β : Type} (g : St → β) : Rows → Int → Int → Bool → Rows → Int → Int → Int → Rows → β := p22_0_3.unc g

def p22_0_4 : PT St := pS [sl 6 (aV false [(cRef 20006)]), sl 7 (aV false [(cPtr 7 0)]), sl 8 (aV false [(cPtr 8 0)]), sl 27 (aV false [(cD dL)]), sl 28 (aV false [(cD (dI .i64))]), sl 29 (aV false [(cD (dI .i64))])] [eOwn 20006 4, eBox 7 [(cD (dI .i64))], eBox 8 [(cD (dI .i64)), (cRef 44), (cD (dI .i64))], eOwn 44 1]
def u22_0_4 {β : Type} (g : St → β) : Rows → Int → Int → Rows → Int → Int → Int → Rows → β := p22_0_4.unc g

def p22_0_5 : PT St := pS [sl 6 (aV false [(cRef 82)]), sl 7 (aV false [(cPtr 7 0)]), sl 8 (aV false [(cPtr 8 0)]), sl 27 (aV false [(cD dL)]), sl 28 (aV false [(cD (dI .i64))]), sl 29 (aV false [(cD (dI .i64))])] [eOwn 82 4, eBox 7 [(cD (dI .i64))], eBox 8 [(cD (dI .i64)), (cRef 85), (cD (dI .i64))], eOwn 85 1]
def u22_0_5 {β : Type} (g : St → β) : Rows → Int → Int → Rows → Int → Int → Int → Rows → β := p22_0_5.unc g

def p22_0_6 : PT St := pS [sl 6 (aV false [(cRef 20006)]), sl 7 (aV false [(cPtr 7 0)]), sl 8 (aV false [(cPtr 8 0)]), sl 27 (aV false [(cD dL)]), sl 28 (aV false [(cD (dI .i64))]), sl 29 (aV false [(cD (dI .i64))])] [eOwn 20006 4, eBox 7 [(cD (dI .i64))], eBox 8 [(cD (dI .i64)), (cRef 85), (cD (dI .i64))], eOwn 85 1]
def u22_0_6 {β : Type} (g : St → β) : Rows → Int → Int → Rows → Int → Int → Int → Rows → β := p22_0_6.unc g

def p22_0_7 : PT St := pS [sl 6 (aV false [(cRef 107)]), sl 7 (aV false [(cPtr 7 0)]), sl 8 (aV false [(cPtr 8 0)]), sl 27 (aV false [(cD dL)]), sl 28 (aV false [(cD (dI .i64))]), sl 29 (aV false [(cD (dI .i64))])] [eOwn 107 4, eBox 7 [(cD (dI .i64))], eBox 8 [(cD (dI .i64)), (cRef 110), (cD (dI .i64))], eOwn 110 1]
def u22_0_7 {β : Type} (g : St → β) : Rows → Int → Int → Rows → Int → Int → Int → Rows → β := p22_0_7.unc g

def p22_0_8 : PT St := pS [sl 6 (aV false [(cRef 20006)]), sl 7 (aV false [(cPtr 7 0)]), sl 8 (aV false [(cPtr 8 0)]), sl 27 (aV false [(cD dL)]), sl 28 (aV false [(cD (dI .i64))]), sl 29 (aV false [(cD (dI .i64))])] [eOwn 20006 4, eBox 7 [(cD (dI .i64))], eBox 8 [(cD (dI .i64)), (cRef 110), (cD (dI .i64))], eOwn 110 1]
def u22_0_8 {β : Type} (g : St → β) : Rows → Int → Int → Rows → Int → Int → Int → Rows → β := p22_0_8.unc g

def p22_0_9 : PT St := pS [sl 6 (aV false [(cRef 20006)]), sl 7 (aV false [(cPtr 7 0)]), sl 8 (aV false [(cPtr 8 0)]), sl 27 (aV false [(cD dL)]), sl 28 (aV false [(cD (dI .i64))]), sl 29 (aV false [(cD (dI .i64))])] [eOwn 20006 4, eBox 7 [(cD (dI .i64))], eBox 8 [(cD (dI .i64)), (cRef 60), (cD (dI .i64))], eOwn 60 1]
def u22_0_9 {β : Type} (g : St → β) : Rows → Int → Int → Rows → Int → Int → Int → Rows → β := p22_0_9.unc g

def p22_0_10 : PT St := pS [sl 6 (aV false [(cRef 20006)]), sl 7 (aV false [(cPtr 7 0)]), sl 8 (aV false [(cPtr 8 0)]), sl 27 (aV false [(cD dL)]), sl 28 (aV false [(cD (dI .i64))]), sl 29 (aV false [(cD (dI .i64))])] [eOwn 20006 4, eBox 7 [(cD (dI .i64))], eBox 8 [(cD (dI .i64)), (cRef 30801), (cD (dI .i64))], eOwn 30801 1]
def u22_0_10 {β : Type} (g : St → β) : Rows → Int → Int → Rows → Int → Int → Int → Rows → β := p22_0_10.unc g

def pr22_0_0 : PT (List RV) := pRs [pR false [rO 4], pR false [rD (dI .i64)]]
def ur22_0_0 {β : Type} (g : List RV → β) : Rows → Int → β := pr22_0_0.unc g

def E22_0g (vf20_0 : Tf20_0) (vf81_0 : Tf81_0) (vf82_0 : Tf82_0) (vf83_0 : Tf83_0) (vf83_1 : Tf83_1) : EnvK := EnvK.of [⟨20, nt20, [⟨pa20_0, Fn20_0 vf20_0⟩]⟩, ⟨81, nt81, [⟨pa81_0, Fn81_0 vf81_0⟩]⟩, ⟨82, nt82, [⟨pa82_0, Fn82_0 vf82_0⟩]⟩, ⟨83, nt83, [⟨pa83_0, Fn83_0 vf83_0⟩, ⟨pa83_1, Fn83_1 vf83_1⟩]⟩] noSeq
noncomputable def E22_0 : EnvK := E22_0g f20_0 f81_0 f82_0 f83_0 f83_1
theorem eo22_0 : E22_0.Ok Try.prog := EnvK.of_ok noSeq_ok ⟨⟨io20_0, trivial⟩, ⟨io81_0, trivial⟩, ⟨io82_0, trivial⟩, ⟨io83_0, io83_1, trivial⟩, trivial⟩

noncomputable def c22_0_50g  : MCode := (.region r22_51 [] (some ⟨[6, 7, 8, 9, 11, 13, 27, 28, 29, 87], true, [], []⟩))
noncomputable def c22_0_50 : MCode := c22_0_50g 
theorem g22_0_50 : c22_0_50.Good Try.prog E22_0 sh22 := trivial
--CODE 50 0
abbrev TJ22_0_1 : Type 1 := (α : Type) → Int → Int → Int → Int → (Bool → Option α) → Option α
def J22_0_1g  (α : Type) (x48 : Int) (x54 : Int) (x56 : Int) (x59 : Int) (k1 : Bool → Option α) : Option α :=
 cK (x56 != 1)
 (k1 (decide (x54 < (w64 (x48 - x59)))))
 (k1 false)
noncomputable def J22_0_1 (α : Type) (x48 : Int) (x54 : Int) (x56 : Int) (x59 : Int) (k1 : Bool → Option α) : Option α := J22_0_1g  α x48 x54 x56 x59 k1
def F22_0_1 (v : TJ22_0_1) (α : Type) (K : Exit → St → Option α) : Int → Int → Rows → Int → Int → Bool → Rows → Int → Int → Int → Rows → Int → Int → Option α := fun x47 x48 x49 x50 x51 x52 x53 x54 x55 x56 x57 x58 x59 => v α x48 x54 x56 x59 (fun (y1 : Bool) => u22_0_2 (K .normal) x47 x48 x49 x50 x51 y1 x53 x54 x55 x56 x57 x59) 
theorem m22_0_1g (vf20_0 : Tf20_0) (vf81_0 : Tf81_0) (vf82_0 : Tf82_0) (vf83_0 : Tf83_0) (vf83_1 : Tf83_1)  (α : Type) (K : Exit → St → Option α) : F22_0_1 (J22_0_1g ) α K = p22_0_1.unc fun σ => runM Try.prog (E22_0g vf20_0 vf81_0 vf82_0 vf83_0 vf83_1) sh22 (c22_0_50g ) K σ := by kernel_rfl
theorem m22_0_1 : ∀ (α : Type) (K : Exit → St → Option α), F22_0_1 J22_0_1 α K = p22_0_1.unc fun σ => runM Try.prog E22_0 sh22 c22_0_50 K σ := m22_0_1g f20_0 f81_0 f82_0 f83_0 f83_1

noncomputable def c22_0_41g  : MCode := (.region r22_42 [] (some ⟨[6, 7, 8, 9, 11, 12, 13, 27, 28, 29, 62], true, [], []⟩))
noncomputable def c22_0_41 : MCode := c22_0_41g 
theorem g22_0_41 : c22_0_41.Good Try.prog E22_0 sh22 := trivial
--CODE 41 0
abbrev TJ22_0_0 : Type 1 := (α : Type) → Int → Int → Int → Int → (Bool → Option α) → Option α
def J22_0_0g  (α : Type) (x29 : Int) (x34 : Int) (x36 : Int) (x38 : Int) (k1 : Bool → Option α) : Option α :=
 cK (x36 != (-1))
 (k1 (decide (x34 < (w64 (x38 - x29)))))
 (k1 false)
noncomputable def J22_0_0 (α : Type) (x29 : Int) (x34 : Int) (x36 : Int) (x38 : Int) (k1 : Bool → Option α) : Option α := J22_0_0g  α x29 x34 x36 x38 k1
def F22_0_0 (v : TJ22_0_0) (α : Type) (K : Exit → St → Option α) : Int → Int → Rows → Int → Int → Rows → Int → Int → Int → Rows → Int → Int → Option α := fun x28 x29 x30 x31 x32 x33 x34 x35 x36 x37 x38 x39 => v α x29 x34 x36 x38 (fun (y1 : Bool) => u22_0_1 (K .normal) x28 x29 x30 x31 x32 y1 x33 x34 x35 x36 x37 x38 x39) 
theorem m22_0_0g (vf20_0 : Tf20_0) (vf81_0 : Tf81_0) (vf82_0 : Tf82_0) (vf83_0 : Tf83_0) (vf83_1 : Tf83_1)  (α : Type) (K : Exit → St → Option α) : F22_0_0 (J22_0_0g ) α K = p22_0_0.unc fun σ => runM Try.prog (E22_0g vf20_0 vf81_0 vf82_0 vf83_0 vf83_1) sh22 (c22_0_41g ) K σ := by kernel_rfl
theorem m22_0_0 : ∀ (α : Type) (K : Exit → St → Option α), F22_0_0 J22_0_0 α K = p22_0_0.unc fun σ => runM Try.prog E22_0 sh22 c22_0_41 K σ := m22_0_0g f20_0 f81_0 f82_0 f83_0 f83_1

noncomputable def c22_0_26g (vJ22_0_0 : TJ22_0_0) (vJ22_0_1 : TJ22_0_1) : MCode := (.block 1 (.seq (.region r22_29 [] (some ⟨[6, 7, 8, 9, 10, 27, 28, 29], true, [], []⟩)) (.seq (.region r22_31 [] (some ⟨[6, 7, 8, 9, 11, 27, 28, 29], true, [], []⟩)) (.seq (.seq (.region r22_34 [] (some ⟨[6, 7, 8, 9, 11, 27, 28, 29, 39], true, [], []⟩)) (.cond (.tmp 39) (.seq (.region r22_37 [] (some ⟨[6, 7, 8, 27, 28, 29], true, [], []⟩)) (.exit 1)) .skip)) (.seq (.region r22_39 [(3, 7), (2, 10), (3, 10), (7, 10), (8, 10), (2, 11), (3, 11), (7, 11), (8, 11), (10, 11)] (some ⟨[6, 7, 8, 9, 11, 12, 13, 27, 28, 29], true, [], []⟩)) (.block 2 (.seq (.mark [⟨p22_0_0, F22_0_0 vJ22_0_0⟩] c22_0_41) (.cond (.tmp 62) (.seq (.seq (.region r22_46 [] (some ⟨[6, 7, 8, 9, 11, 12, 27, 28, 29, 75], true, [], []⟩)) (.cond (.tmp 75) (.region r22_48 [] (some ⟨[6, 7, 8, 9, 11, 27, 28, 29], true, [], []⟩)) .skip)) (.region r22_49 [] (some ⟨[6, 7, 8, 27, 28, 29], true, [], []⟩))) (.seq (.mark [⟨p22_0_1, F22_0_1 vJ22_0_1⟩] c22_0_50) (.cond (.tmp 87) (.seq (.seq (.region r22_55 [] (some ⟨[6, 7, 8, 9, 11, 13, 27, 28, 29, 100], true, [], []⟩)) (.cond (.tmp 100) (.region r22_57 [] (some ⟨[6, 7, 8, 9, 11, 27, 28, 29], true, [], []⟩)) .skip)) (.region r22_58 [] (some ⟨[6, 7, 8, 27, 28, 29], true, [], []⟩))) (.region r22_59 [] (some ⟨[6, 7, 8, 27, 28, 29], true, [], []⟩))))))))))))
noncomputable def c22_0_26 : MCode := c22_0_26g J22_0_0 J22_0_1
theorem g22_0_26 : c22_0_26.Good Try.prog E22_0 sh22 := ⟨trivial, ⟨trivial, ⟨⟨trivial, ⟨⟨trivial, trivial⟩, trivial⟩⟩, ⟨trivial, ⟨⟨g22_0_41, m22_0_0, trivial⟩, ⟨⟨⟨trivial, ⟨trivial, trivial⟩⟩, trivial⟩, ⟨⟨g22_0_50, m22_0_1, trivial⟩, ⟨⟨⟨trivial, ⟨trivial, trivial⟩⟩, trivial⟩, trivial⟩⟩⟩⟩⟩⟩⟩⟩
--CODE 26 0
abbrev TJ22_0_2 : Type 1 := (α : Type) → Rows → Int → Rows → Int → Int → Int → Rows → (Rows → Option α) → (Rows → Rows → Option α) → (Rows → Option α) → (Rows → Rows → Option α) → (Rows → Option α) → (Rows → Option α) → Option α
def J22_0_2g (vJ22_0_0 : TJ22_0_0) (vJ22_0_1 : TJ22_0_1) (vf81_0 : Tf81_0) (vf82_0 : Tf82_0) (vf83_0 : Tf83_0) (vf83_1 : Tf83_1) (α : Type) (x14 : Rows) (x16 : Int) (x18 : Rows) (x19 : Int) (x20 : Int) (x21 : Int) (x22 : Rows) (k1 : Rows → Option α) (k2 : Rows → Rows → Option α) (k3 : Rows → Option α) (k4 : Rows → Rows → Option α) (k5 : Rows → Option α) (k6 : Rows → Option α) : Option α :=
 rowK x14 x16 [.flt .f32]
 (fun (x24 : Nat) => ivK (f2i .f32 x24 .i64)
 (fun (x25 : Int) => cK (((List.length x22 : Nat) : Int) == 0)
 (gK (apOk 1 8 x22 [[DC.v (.int .i64 x25)]]) (k1 (x22 ++ [[DC.v (.int .i64 x25)]])))
 (vf81_0 α x22
 (fun (x26 : Int) => vf82_0 α x22
 (fun (x27 : Int) => vJ22_0_0 α x25 x19 x21 (if x26 > x25 then x26 else x25)
 (fun (x41 : Bool) => cK x41
 (cK (x21 == 1)
 (vf83_0 α x20 x22 x21 x16 (if x26 > x25 then x26 else x25) x19
 (fun (x43 : Bool) (x44 : Int) (x45 : Int) (x46 : Int) => gK (apOk 4 32 x18 [[DC.v (.bool x43), DC.v (.int .i64 x44), DC.v (.int .i64 x45), DC.v (.int .i64 x46)]]) (k2 (x18 ++ [[DC.v (.bool x43), DC.v (.int .i64 x44), DC.v (.int .i64 x45), DC.v (.int .i64 x46)]]) [[DC.v (.int .i64 x25)]])))
 (k3 [[DC.v (.int .i64 x25)]]))
 (vJ22_0_1 α x25 x19 x21 (if x27 < x25 then x27 else x25)
 (fun (x61 : Bool) => cK x61
 (cK (x21 == (-1))
 (vf83_1 α x20 x22 x21 x16 (if x27 < x25 then x27 else x25) x19
 (fun (x63 : Bool) (x64 : Int) (x65 : Int) (x66 : Int) => gK (apOk 4 32 x18 [[DC.v (.bool x63), DC.v (.int .i64 x64), DC.v (.int .i64 x65), DC.v (.int .i64 x66)]]) (k4 (x18 ++ [[DC.v (.bool x63), DC.v (.int .i64 x64), DC.v (.int .i64 x65), DC.v (.int .i64 x66)]]) [[DC.v (.int .i64 x25)]])))
 (k5 [[DC.v (.int .i64 x25)]]))
 (gK (apOk 1 8 x22 [[DC.v (.int .i64 x25)]]) (k6 (x22 ++ [[DC.v (.int .i64 x25)]])))))))))))
noncomputable def J22_0_2 (α : Type) (x14 : Rows) (x16 : Int) (x18 : Rows) (x19 : Int) (x20 : Int) (x21 : Int) (x22 : Rows) (k1 : Rows → Option α) (k2 : Rows → Rows → Option α) (k3 : Rows → Option α) (k4 : Rows → Rows → Option α) (k5 : Rows → Option α) (k6 : Rows → Option α) : Option α := J22_0_2g J22_0_0 J22_0_1 f81_0 f82_0 f83_0 f83_1 α x14 x16 x18 x19 x20 x21 x22 k1 k2 k3 k4 k5 k6
def F22_0_2 (v : TJ22_0_2) (α : Type) (K : Exit → St → Option α) : Rows → Int → Int → Bool → Rows → Int → Int → Int → Rows → Option α := fun x14 x15 x16 x17 x18 x19 x20 x21 x22 => v α x14 x16 x18 x19 x20 x21 x22 (fun (y1 : Rows) => u22_0_4 (K .normal) x14 x15 x16 x18 x19 x20 x21 y1) (fun (y1 : Rows) (y2 : Rows) => u22_0_5 (K .normal) x14 x15 x16 y1 x19 x16 (-1) y2) (fun (y1 : Rows) => u22_0_6 (K .normal) x14 x15 x16 x18 x19 x16 (-1) y1) (fun (y1 : Rows) (y2 : Rows) => u22_0_7 (K .normal) x14 x15 x16 y1 x19 x16 1 y2) (fun (y1 : Rows) => u22_0_8 (K .normal) x14 x15 x16 x18 x19 x16 1 y1) (fun (y1 : Rows) => u22_0_9 (K .normal) x14 x15 x16 x18 x19 x20 x21 y1) 
theorem m22_0_2g (vf20_0 : Tf20_0) (vf81_0 : Tf81_0) (vf82_0 : Tf82_0) (vf83_0 : Tf83_0) (vf83_1 : Tf83_1) (vJ22_0_0 : TJ22_0_0) (vJ22_0_1 : TJ22_0_1) (α : Type) (K : Exit → St → Option α) : F22_0_2 (J22_0_2g vJ22_0_0 vJ22_0_1 vf81_0 vf82_0 vf83_0 vf83_1) α K = p22_0_3.unc fun σ => runM Try.prog (E22_0g vf20_0 vf81_0 vf82_0 vf83_0 vf83_1) sh22 (c22_0_26g vJ22_0_0 vJ22_0_1) K σ := by kernel_rfl
theorem m22_0_2 : ∀ (α : Type) (K : Exit → St → Option α), F22_0_2 J22_0_2 α K = p22_0_3.unc fun σ => runM Try.prog E22_0 sh22 c22_0_26 K σ := m22_0_2g f20_0 f81_0 f82_0 f83_0 f83_1 J22_0_0 J22_0_1

noncomputable def c22_0_21g (vJ22_0_2 : TJ22_0_2) : MCode := (.seq (.region r22_23 [] (some ⟨[6, 7, 8, 27, 28, 29, 30], true, [], []⟩)) (.seq (.cond (.tmp 30) .skip (.exit 0)) (.seq (.mark [⟨p22_0_3, F22_0_2 vJ22_0_2⟩] c22_0_26) (.region r22_60 [] (some ⟨[6, 7, 8, 27, 28, 29], true, [], []⟩)))))
noncomputable def c22_0_21 : MCode := c22_0_21g J22_0_2
theorem g22_0_21 : c22_0_21.Good Try.prog E22_0 sh22 := ⟨trivial, ⟨⟨trivial, trivial⟩, ⟨⟨g22_0_26, m22_0_2, trivial⟩, trivial⟩⟩⟩
--CODE 21 0
def S22_0_3g (vJ22_0_2 : TJ22_0_2) (α : Type) (x5 : Rows) (x6 : Int) (x9 : Int) (x7 : Int) (x8 : Rows) (x10 : Int) (x11 : Int) (x12 : Rows) (kn : Int → Rows → Int → Int → Rows → Option α) (k1 : Int → Bool → Rows → Int → Int → Rows → Option α) : Option α :=
 cK (decide (x7 < x6))
 (vJ22_0_2 α x5 x7 x8 x9 x10 x11 x12
 (fun (x67 : Rows) => kn (w64 (x7 + 1)) x8 x10 x11 x67)
 (fun (x68 : Rows) (x69 : Rows) => kn (w64 (x7 + 1)) x68 x7 (-1) x69)
 (fun (x70 : Rows) => kn (w64 (x7 + 1)) x8 x7 (-1) x70)
 (fun (x71 : Rows) (x72 : Rows) => kn (w64 (x7 + 1)) x71 x7 1 x72)
 (fun (x73 : Rows) => kn (w64 (x7 + 1)) x8 x7 1 x73)
 (fun (x74 : Rows) => kn (w64 (x7 + 1)) x8 x10 x11 x74))
 (k1 x7 (decide (x7 < x6)) x8 x10 x11 x12)
noncomputable def S22_0_3 (α : Type) (x5 : Rows) (x6 : Int) (x9 : Int) (x7 : Int) (x8 : Rows) (x10 : Int) (x11 : Int) (x12 : Rows) (kn : Int → Rows → Int → Int → Rows → Option α) (k1 : Int → Bool → Rows → Int → Int → Rows → Option α) : Option α := S22_0_3g J22_0_2 α x5 x6 x9 x7 x8 x10 x11 x12 kn k1
noncomputable def R22_0_3 (α : Type) (x5 : Rows) (x6 : Int) (x9 : Int) (k1 : Int → Bool → Rows → Int → Int → Rows → Option α) : Nat → Int → Rows → Int → Int → Rows → Option α
 | 0, _, _, _, _, _ => none
 | n + 1, x7, x8, x10, x11, x12 => S22_0_3 α x5 x6 x9 x7 x8 x10 x11 x12 (R22_0_3 α x5 x6 x9 k1 n) k1
noncomputable def L22_0_3 (α : Type) (x5 : Rows) (x6 : Int) (x9 : Int) (k1 : Int → Bool → Rows → Int → Int → Rows → Option α) (x7 : Int) (x8 : Rows) (x10 : Int) (x11 : Int) (x12 : Rows) : Option α := R22_0_3 α x5 x6 x9 k1 fuel x7 x8 x10 x11 x12
abbrev TL22_0_3 : Type 1 := (α : Type) → Rows → Int → Int → (Int → Bool → Rows → Int → Int → Rows → Option α) → Int → Rows → Int → Int → Rows → Option α
def F22_0_3 (v : TL22_0_3) (α : Type) (K : Exit → St → Option α) : Rows → Int → Int → Rows → Int → Int → Int → Rows → Option α := fun x5 x6 x7 x8 x9 x10 x11 x12 => v α x5 x6 x9 (fun (y1 : Int) (y2 : Bool) (y3 : Rows) (y4 : Int) (y5 : Int) (y6 : Rows) => u22_0_3 (K (.exit 0)) x5 x6 y1 y2 y3 x9 y4 y5 y6) x7 x8 x10 x11 x12
theorem r22_0_3g (vf20_0 : Tf20_0) (vf81_0 : Tf81_0) (vf82_0 : Tf82_0) (vf83_0 : Tf83_0) (vf83_1 : Tf83_1) (vJ22_0_2 : TJ22_0_2) (α : Type) (K : Exit → St → Option α) (Kn : St → Option α) (x5 : Rows) (x6 : Int) (x7 : Int) (x8 : Rows) (x9 : Int) (x10 : Int) (x11 : Int) (x12 : Rows) : u22_0_10 (fun σ => runM Try.prog (E22_0g vf20_0 vf81_0 vf82_0 vf83_0 vf83_1) sh22 (c22_0_21g vJ22_0_2) (thenK (fun σ => tidyK td22_21 σ Kn) K) σ) x5 x6 x7 x8 x9 x10 x11 x12 = S22_0_3g vJ22_0_2 α x5 x6 x9 x7 x8 x10 x11 x12 (fun x7 x8 x10 x11 x12 => u22_0_10 Kn x5 x6 x7 x8 x9 x10 x11 x12) (fun (y1 : Int) (y2 : Bool) (y3 : Rows) (y4 : Int) (y5 : Int) (y6 : Rows) => u22_0_3 (K (.exit 0)) x5 x6 y1 y2 y3 x9 y4 y5 y6) := by kernel_rfl
theorem r22_0_3 (α : Type) (K : Exit → St → Option α) (Kn : St → Option α) (x5 : Rows) (x6 : Int) (x7 : Int) (x8 : Rows) (x9 : Int) (x10 : Int) (x11 : Int) (x12 : Rows) : u22_0_10 (fun σ => runM Try.prog E22_0 sh22 c22_0_21 (thenK (fun σ => tidyK td22_21 σ Kn) K) σ) x5 x6 x7 x8 x9 x10 x11 x12 = S22_0_3 α x5 x6 x9 x7 x8 x10 x11 x12 (fun x7 x8 x10 x11 x12 => u22_0_10 Kn x5 x6 x7 x8 x9 x10 x11 x12) (fun (y1 : Int) (y2 : Bool) (y3 : Rows) (y4 : Int) (y5 : Int) (y6 : Rows) => u22_0_3 (K (.exit 0)) x5 x6 y1 y2 y3 x9 y4 y5 y6) := r22_0_3g f20_0 f81_0 f82_0 f83_0 f83_1 J22_0_2 α K Kn x5 x6 x7 x8 x9 x10 x11 x12
theorem t22_0_3 (α : Type) (K : Exit → St → Option α) : ∀ (n : Nat) (x5 : Rows) (x6 : Int) (x7 : Int) (x8 : Rows) (x9 : Int) (x10 : Int) (x11 : Int) (x12 : Rows), R22_0_3 α x5 x6 x9 (fun (y1 : Int) (y2 : Bool) (y3 : Rows) (y4 : Int) (y5 : Int) (y6 : Rows) => u22_0_3 (K (.exit 0)) x5 x6 y1 y2 y3 x9 y4 y5 y6) n x7 x8 x10 x11 x12 = u22_0_10 (loopT (runM Try.prog E22_0 sh22 c22_0_21) td22_21 K n) x5 x6 x7 x8 x9 x10 x11 x12 := by
 intro n
 induction n with
 | zero => intros; rfl
 | succ n ih => intro x5 x6 x7 x8 x9 x10 x11 x12; exact (congrArg (fun kn => S22_0_3 α x5 x6 x9 x7 x8 x10 x11 x12 kn (fun (y1 : Int) (y2 : Bool) (y3 : Rows) (y4 : Int) (y5 : Int) (y6 : Rows) => u22_0_3 (K (.exit 0)) x5 x6 y1 y2 y3 x9 y4 y5 y6)) (funext fun x7 => funext fun x8 => funext fun x10 => funext fun x11 => funext fun x12 => ih x5 x6 x7 x8 x9 x10 x11 x12)).trans (r22_0_3 α K (loopT (runM Try.prog E22_0 sh22 c22_0_21) td22_21 K n) x5 x6 x7 x8 x9 x10 x11 x12).symm
theorem m22_0_3 : ∀ (α : Type) (K : Exit → St → Option α), F22_0_3 L22_0_3 α K = p22_0_10.unc fun σ => loopT (runM Try.prog E22_0 sh22 c22_0_21) td22_21 K fuel σ := fun α K => funext fun x5 => funext fun x6 => funext fun x7 => funext fun x8 => funext fun x9 => funext fun x10 => funext fun x11 => funext fun x12 => t22_0_3 α K fuel x5 x6 x7 x8 x9 x10 x11 x12

/-- etalon/grow.Turns -/
abbrev Tf22_0 : Type 1 := (α : Type) → Int → Rows → (Rows → Int → Option α) → Option α
def f22_0g (vL22_0_3 : TL22_0_3) (vf20_0 : Tf20_0) (α : Type) (x1 : Int) (x2 : Rows) (k1 : Rows → Int → Option α) : Option α :=
 vf20_0 α x1 x2
 (fun (x3 : Int) (x4 : Int) => cK (x4 != 0)
 (k1 ([] : Rows) x4)
 (vL22_0_3 α x2 ((List.length x2 : Nat) : Int) (w64 (2 * x1))
 (fun (x76 : Int) (x77 : Bool) (x78 : Rows) (x79 : Int) (x80 : Int) (x81 : Rows) => k1 x78 0) 0 ([] : Rows) 0 0 ([] : Rows)))
noncomputable def f22_0 (α : Type) (x1 : Int) (x2 : Rows) (k1 : Rows → Int → Option α) : Option α := f22_0g L22_0_3 f20_0 α x1 x2 k1
def pa22_0 : PT (List DV) := pA [pV true [(dI .i64), dL]]
def Fn22_0 (v : Tf22_0) (α : Type) (k : List RV → Option α) : Int → Rows → Option α := fun x1 x2 => v α x1 x2 (fun (y1 : Rows) (y2 : Int) => ur22_0_0 k y1 y2)
noncomputable def cm22_0g (vL22_0_3 : TL22_0_3) : MCode := (.seq (.region r22_2 [] (some ⟨[1], true, [], []⟩)) (.seq (.seq (.region r22_5 [] (some ⟨[1, 5], true, [], []⟩)) (.seq (.region r22_7 [] (some ⟨[1, 5, 20], true, [], []⟩)) (.cond (.tmp 20) (.seq (.region r22_10 [] (some ⟨[2, 3], true, [⟨false, 2, 0, 20002, 4⟩], []⟩)) .ret) .skip))) (.seq (.region r22_12 [] (some ⟨[1, 6], true, [], []⟩)) (.seq (.region r22_14 [] (some ⟨[1, 6, 7], true, [], []⟩)) (.seq (.region r22_16 [] (some ⟨[1, 6, 7, 8], true, [], []⟩)) (.seq (.seq (.region r22_19 [] (some ⟨[6, 7, 8, 27, 28, 29], true, [], []⟩)) (.block 0 (.loop td22_21 [⟨p22_0_10, F22_0_3 vL22_0_3⟩] c22_0_21))) (.seq (.region r22_62 [] (some ⟨[2, 3], true, [⟨false, 2, 0, 20002, 4⟩], []⟩)) .ret)))))))
noncomputable def cm22_0 : MCode := cm22_0g L22_0_3
theorem gm22_0 : cm22_0.Good Try.prog E22_0 sh22 := ⟨trivial, ⟨⟨trivial, ⟨trivial, ⟨⟨trivial, trivial⟩, trivial⟩⟩⟩, ⟨trivial, ⟨trivial, ⟨trivial, ⟨⟨trivial, ⟨g22_0_21, m22_0_3, trivial⟩⟩, ⟨trivial, trivial⟩⟩⟩⟩⟩⟩⟩
theorem fm22_0g (vf20_0 : Tf20_0) (vf81_0 : Tf81_0) (vf82_0 : Tf82_0) (vf83_0 : Tf83_0) (vf83_1 : Tf83_1) (vL22_0_3 : TL22_0_3) (α : Type) (k : List RV → Option α) : Fn22_0 (f22_0g vL22_0_3 vf20_0) α k = pa22_0.unc fun ds => fnM Try.prog (E22_0g vf20_0 vf81_0 vf82_0 vf83_0 vf83_1) sh22 (cm22_0g vL22_0_3) rs22 k ds := by kernel_rfl
theorem fm22_0 : ∀ (α : Type) (k : List RV → Option α), Fn22_0 f22_0 α k = pa22_0.unc fun ds => fnM Try.prog E22_0 sh22 cm22_0 rs22 k ds := fm22_0g f20_0 f81_0 f82_0 f83_0 f83_1 L22_0_3

theorem is22 : FnIs Try.prog 22 nt22 tr22 tl22 cm22_0.erase rs22 := ⟨Try.f22, Try.func22, rfl, by kernel_rfl, by kernel_rfl, by kernel_rfl⟩
theorem io22_0 : InstOk Try.prog 22 nt22 ⟨pa22_0, Fn22_0 f22_0⟩ := inst_ok eo22_0 followsTry is22 ⟨⟨sh22, cm22_0, by kernel_rfl, gm22_0, fm22_0⟩⟩

/-! ### F4 etalon/etalonlaw08.GrowTurns -/
abbrev nt4 : Nat := 122
def sh4 : List (Nat × List Sh) := [(14, [.sl]), (19, [.sl]), (25, [.sl]), (30, [.int .i64, .sl]), (36, [.int .i64, .sl]), (42, [.int .i64, .sl]), (64, [.int .i64, .sl]), (83, [.bool, .int .i64, .int .i64, .int .i64]), (84, [.bool, .int .i64, .int .i64, .int .i64]), (87, [.bool, .int .i64, .int .i64, .int .i64]), (88, [.bool, .int .i64, .int .i64, .int .i64]), (96, [.bool, .int .i64, .int .i64, .int .i64]), (98, [.bool]), (102, [.bool, .int .i64, .int .i64, .int .i64]), (104, [.bool]), (109, [.bool, .int .i64, .int .i64, .int .i64]), (111, [.int .i64]), (115, [.bool, .int .i64, .int .i64, .int .i64]), (117, [.int .i64])]
def r4_2 : List AOper := [oO 1 (.box (.tmp 0)), oO 2 (.mv (.const (.bool false)))]
def r4_5 : List AOper := [oO 11 (.call 14 []), oO 12 (.pure (oB (.unOp .not 4 (.tmp 11)) 4))]
def r4_8 : List AOper := [oO 2 (.mv (.const (.bool false)))]
def r4_11 : List AOper := [oO 13 (.faddr 1 (.tmp 1)), oO 14 (.load false 1 (.tmp 13)), oO 15 (.len (.tmp 14)), oO 16 (.bin .gtr 3 (.tmp 15) (.const (.int .i64 60))), oM 17 16, ⟨(some 18), (.faddr 1 (.tmp 1)), (some (17, true))⟩, ⟨(some 19), (.load false 1 (.tmp 18)), (some (17, true))⟩, ⟨(some 20), (.len (.tmp 19)), (some (17, true))⟩, ⟨(some 21), (.bin .leq 3 (.tmp 20) (.const (.int .i64 200))), (some (17, true))⟩, oO 22 (.pick (.tmp 17) (.tmp 21) (.const (.bool false))), oM 23 22, ⟨(some 24), (.faddr 1 (.tmp 1)), (some (23, false))⟩, ⟨(some 25), (.load false 1 (.tmp 24)), (some (23, false))⟩, ⟨(some 26), (.len (.tmp 25)), (some (23, false))⟩, ⟨(some 27), (.bin .gtr 3 (.tmp 26) (.const (.int .i64 202))), (some (23, false))⟩, oO 28 (.pick (.tmp 23) (.const (.bool true)) (.tmp 27))]
def r4_14 : List AOper := [oO 2 (.mv (.const (.bool true)))]
def r4_16 : List AOper := [oO 30 (.load true 2 (.tmp 1)), oO 31 (.call 21 [(.tmp 30)]), oO 32 (.call 20 [(.tmp 31)]), oM 29 32, oO 33 (.extract 0 (.tmp 29)), oO 34 (.extract 1 (.tmp 29)), oM 3 33, oM 4 34]
def r4_18 : List AOper := [oO 36 (.load true 2 (.tmp 1)), oO 37 (.call 21 [(.tmp 36)]), oO 38 (.call 22 [(.tmp 37)]), oM 35 38, oO 39 (.extract 0 (.tmp 35)), oO 40 (.extract 1 (.tmp 35)), oM 5 39, oM 6 40]
def r4_20 : List AOper := [oO 42 (.load true 2 (.tmp 1)), oO 43 (.call 23 [(.tmp 42)]), oM 41 43, oO 44 (.extract 0 (.tmp 41)), oO 45 (.extract 1 (.tmp 41)), oM 7 44, oM 8 45]
def r4_23 : List AOper := [oM 46 3, oM 47 7, oO 48 (.bin .neq 3 (.tmp 46) (.tmp 47)), oM 49 48, ⟨(some 50), (.mv (.tmp 4)), (some (49, false))⟩, ⟨(some 51), (.mv (.tmp 8)), (some (49, false))⟩, ⟨(some 52), (.bin .neq 3 (.tmp 50) (.tmp 51)), (some (49, false))⟩, oO 53 (.pick (.tmp 49) (.const (.bool true)) (.tmp 52))]
def r4_26 : List AOper := [oO 2 (.mv (.const (.bool false)))]
def r4_29 : List AOper := [oM 54 8, oO 55 (.bin .neq 3 (.tmp 54) (.const (.int .i64 0)))]
def r4_32 : List AOper := [oM 56 6, oM 57 8, oO 58 (.bin .eql 3 (.tmp 56) (.tmp 57)), oM 59 58, ⟨(some 60), (.mv (.tmp 5)), (some (59, true))⟩, ⟨(some 61), (.len (.tmp 60)), (some (59, true))⟩, ⟨(some 62), (.bin .eql 3 (.tmp 61) (.const (.int .i64 0))), (some (59, true))⟩, oO 63 (.pick (.tmp 59) (.tmp 62) (.const (.bool false))), oM 2 63]
def r4_34 : List AOper := [oO 64 (.load true 2 (.tmp 1)), oO 65 (.call 24 [(.tmp 64)]), oM 9 65]
def r4_37 : List AOper := [oM 66 6, oO 67 (.bin .neq 32 (.tmp 66) (.const (.int .i64 0))), oM 68 67, ⟨(some 69), (.mv (.tmp 5)), (some (68, false))⟩, ⟨(some 70), (.len (.tmp 69)), (some (68, false))⟩, ⟨(some 71), (.mv (.tmp 9)), (some (68, false))⟩, ⟨(some 72), (.len (.tmp 71)), (some (68, false))⟩, ⟨(some 73), (.bin .neq 3 (.tmp 70) (.tmp 72)), (some (68, false))⟩, oO 74 (.pick (.tmp 68) (.const (.bool true)) (.tmp 73))]
def r4_40 : List AOper := [oO 2 (.mv (.const (.bool false)))]
def r4_43 : List AOper := [oO 10 (.mv (.const (.int .i64 0)))]
def td4_45 : Option Tidy := (some ⟨[5, 9, 10], true, [⟨false, 5, 0, 20005, 4⟩, ⟨false, 9, 0, 20009, 4⟩, ⟨true, 1, 1, 30101, 1⟩], []⟩)
def r4_48 : List AOper := [oM 75 10, oM 76 5, oO 77 (.len (.tmp 76)), oO 78 (.bin .lss 3 (.tmp 75) (.tmp 77))]
def r4_53 : List AOper := [oM 81 5, oM 82 10, oO 83 (.iaddr 4 none (.tmp 81) (.tmp 82)), oO 84 (.load true 4 (.tmp 83)), oM 85 9, oM 86 10, oO 87 (.iaddr 4 none (.tmp 85) (.tmp 86)), oO 88 (.load true 4 (.tmp 87)), oO 89 (.bin .neq 50 (.tmp 84) (.tmp 88)), oM 90 89, ⟨(some 91), (.mv (.tmp 10)), (some (90, false))⟩, ⟨(some 92), (.bin .gtr 3 (.tmp 91) (.const (.int .i64 0))), (some (90, false))⟩, ⟨(some 93), (.mv (.tmp 92)), (some (90, false))⟩, ⟨(some 94), (.mv (.tmp 5)), (some (93, true))⟩, ⟨(some 95), (.mv (.tmp 10)), (some (93, true))⟩, ⟨(some 96), (.iaddr 4 none (.tmp 94) (.tmp 95)), (some (93, true))⟩, ⟨(some 97), (.faddr 0 (.tmp 96)), (some (93, true))⟩, ⟨(some 98), (.load false 1 (.tmp 97)), (some (93, true))⟩, ⟨(some 99), (.mv (.tmp 5)), (some (93, true))⟩, ⟨(some 100), (.mv (.tmp 10)), (some (93, true))⟩, ⟨(some 101), (.bin .sub 3 (.tmp 100) (.const (.int .i64 1))), (some (93, true))⟩, ⟨(some 102), (.iaddr 4 none (.tmp 99) (.tmp 101)), (some (93, true))⟩, ⟨(some 103), (.faddr 0 (.tmp 102)), (some (93, true))⟩, ⟨(some 104), (.load false 1 (.tmp 103)), (some (93, true))⟩, ⟨(some 105), (.bin .eql 4 (.tmp 98) (.tmp 104)), (some (93, true))⟩, ⟨(some 106), (.mv (.tmp 105)), (some (93, true))⟩, ⟨(some 107), (.mv (.tmp 5)), (some (106, false))⟩, ⟨(some 108), (.mv (.tmp 10)), (some (106, false))⟩, ⟨(some 109), (.iaddr 4 none (.tmp 107) (.tmp 108)), (some (106, false))⟩, ⟨(some 110), (.faddr 3 (.tmp 109)), (some (106, false))⟩, ⟨(some 111), (.load false 1 (.tmp 110)), (some (106, false))⟩, ⟨(some 112), (.mv (.tmp 5)), (some (106, false))⟩, ⟨(some 113), (.mv (.tmp 10)), (some (106, false))⟩, ⟨(some 114), (.bin .sub 3 (.tmp 113) (.const (.int .i64 1))), (some (106, false))⟩, ⟨(some 115), (.iaddr 4 none (.tmp 112) (.tmp 114)), (some (106, false))⟩, ⟨(some 116), (.faddr 3 (.tmp 115)), (some (106, false))⟩, ⟨(some 117), (.load false 1 (.tmp 116)), (some (106, false))⟩, ⟨(some 118), (.bin .leq 3 (.tmp 111) (.tmp 117)), (some (106, false))⟩, ⟨(some 119), (.pick (.tmp 106) (.const (.bool true)) (.tmp 118)), (some (93, true))⟩, ⟨(some 120), (.pick (.tmp 93) (.tmp 119) (.const (.bool false))), (some (90, false))⟩, oO 121 (.pick (.tmp 90) (.const (.bool true)) (.tmp 120))]
def r4_56 : List AOper := [oO 2 (.mv (.const (.bool false)))]
def r4_57 : List AOper := [oM 79 10, oO 80 (.bin .add 3 (.tmp 79) (.const (.int .i64 1))), oM 10 80]
def r4_59 : List AOper := [oO 2 (.mv (.const (.bool true)))]
def tr4 : List (Nat × Tidy) := [(0, ⟨[1], true, [], []⟩), (1, ⟨[1, 12], true, [], []⟩), (2, ⟨[2], true, [], []⟩), (3, ⟨[1, 28], true, [], []⟩), (4, ⟨[2], true, [], []⟩), (5, ⟨[1, 3, 4], true, [], []⟩), (6, ⟨[1, 3, 4, 5, 6], true, [], []⟩), (7, ⟨[1, 3, 4, 5, 6, 7, 8], true, [], []⟩), (8, ⟨[1, 5, 6, 8, 53], true, [], []⟩), (9, ⟨[2], true, [], []⟩), (10, ⟨[1, 5, 6, 8, 55], true, [], []⟩), (11, ⟨[2], true, [], []⟩), (12, ⟨[5, 6, 9], true, [], []⟩), (13, ⟨[5, 9, 74], true, [], []⟩), (14, ⟨[2], true, [], []⟩), (15, ⟨[5, 9, 10], true, [], []⟩), (16, ⟨[5, 9, 10, 78], true, [], []⟩), (18, ⟨[5, 9, 10, 121], true, [], []⟩), (19, ⟨[2], true, [], []⟩), (17, ⟨[5, 9, 10], true, [], []⟩), (20, ⟨[2], true, [], []⟩)]
def tl4 : List (Nat × Tidy) := [(16, ⟨[5, 9, 10], true, [⟨false, 5, 0, 20005, 4⟩, ⟨false, 9, 0, 20009, 4⟩, ⟨true, 1, 1, 30101, 1⟩], []⟩)]
def rs4 : List AResV := [.tmp 2]
def p4_0_0 : PT St := pS [sl 1 (aV false [(cPtr 1 0)]), sl 12 (aV false [(cD dB)])] [eBox 1 [(cD (dI .i64)), (cD dL)]]
def u4_0_0 {β : Type} (g : St → β) : Bool → Int → Rows → β := p4_0_0.unc g

def p4_0_1 : PT St := pS [sl 2 (aV false [(cD dB)])] []
def u4_0_1 {β : Type} (g : St → β) : Bool → β := p4_0_1.unc g

def p4_0_2 : PT St := pS [sl 1 (aV false [(cPtr 1 0)]), sl 28 (aV false [(cD dB)])] [eBox 1 [(cD (dI .i64)), (cD dL)]]
def u4_0_2 {β : Type} (g : St → β) : Bool → Int → Rows → β := p4_0_2.unc g

def p4_0_3 : PT St := pS [sl 5 (aV false [(cRef 20005)]), sl 9 (aV false [(cRef 20009)]), sl 10 (aV false [(cD (dI .i64))])] [eOwn 20005 4, eOwn 20009 4]
def u4_0_3 {β : Type} (g : St → β) : Int → Rows → Rows → β := p4_0_3.unc g

def p4_0_4 : PT St := pS [sl 5 (aV false [(cRef 20005)]), sl 9 (aV false [(cRef 20009)]), sl 10 (aV false [(cD (dI .i64))]), sl 78 (aV false [(cD dB)])] [eOwn 20005 4, eOwn 20009 4]
def u4_0_4 {β : Type} (g : St → β) : Int → Bool → Rows → Rows → β := p4_0_4.unc g

def pr4_0_0 : PT (List RV) := pRs [pR false [rD dB]]
def ur4_0_0 {β : Type} (g : List RV → β) : Bool → β := pr4_0_0.unc g

def E4_0g (vf14_0 : Tf14_0) (vf21_0 : Tf21_0) (vf20_0 : Tf20_0) (vf22_0 : Tf22_0) (vf23_0 : Tf23_0) (vf24_0 : Tf24_0) : EnvK := EnvK.of [⟨14, nt14, [⟨pa14_0, Fn14_0 vf14_0⟩]⟩, ⟨21, nt21, [⟨pa21_0, Fn21_0 vf21_0⟩]⟩, ⟨20, nt20, [⟨pa20_0, Fn20_0 vf20_0⟩]⟩, ⟨22, nt22, [⟨pa22_0, Fn22_0 vf22_0⟩]⟩, ⟨23, nt23, [⟨pa23_0, Fn23_0 vf23_0⟩]⟩, ⟨24, nt24, [⟨pa24_0, Fn24_0 vf24_0⟩]⟩] noSeq
noncomputable def E4_0 : EnvK := E4_0g f14_0 f21_0 f20_0 f22_0 f23_0 f24_0
theorem eo4_0 : E4_0.Ok Try.prog := EnvK.of_ok noSeq_ok ⟨⟨io14_0, trivial⟩, ⟨io21_0, trivial⟩, ⟨io20_0, trivial⟩, ⟨io22_0, trivial⟩, ⟨io23_0, trivial⟩, ⟨io24_0, trivial⟩, trivial⟩

noncomputable def c4_0_45g  : MCode := (.seq (.seq (.region r4_48 [] (some ⟨[5, 9, 10, 78], true, [], []⟩)) (.cond (.tmp 78) .skip (.exit 0))) (.seq (.block 1 (.seq (.region r4_53 [] (some ⟨[5, 9, 10, 121], true, [], []⟩)) (.cond (.tmp 121) (.seq (.region r4_56 [] (some ⟨[2], true, [], []⟩)) .ret) .skip))) (.region r4_57 [] (some ⟨[5, 9, 10], true, [], []⟩))))
noncomputable def c4_0_45 : MCode := c4_0_45g 
theorem g4_0_45 : c4_0_45.Good Try.prog E4_0 sh4 := ⟨⟨trivial, ⟨trivial, trivial⟩⟩, ⟨⟨trivial, ⟨⟨trivial, trivial⟩, trivial⟩⟩, trivial⟩⟩
--CODE 45 0
def S4_0_1g  (α : Type) (x21 : Rows) (x22 : Rows) (x20 : Int) (kn : Int → Option α) (k1 : Option α) (k2 : Int → Bool → Option α) : Option α :=
 cK (decide (x20 < ((List.length x21 : Nat) : Int)))
 (ixK x21 x20 4
 (ldK x21 (Int.toNat x20) 0 [.bool, .int .i64, .int .i64, .int .i64]
 (fun (x24 : Bool) (x25 : Int) (x26 : Int) (x27 : Int) => ixK x22 x20 4
 (ldK x22 (Int.toNat x20) 0 [.bool, .int .i64, .int .i64, .int .i64]
 (fun (x28 : Bool) (x29 : Int) (x30 : Int) (x31 : Int) => cK (!((x24 == x28) && ((x25 == x29) && ((x26 == x30) && ((x27 == x31) && true)))))
 (k1)
 (cK (decide (0 < x20))
 (ixK x21 x20 4
 (ldK x21 (Int.toNat x20) 0 [.bool]
 (fun (x32 : Bool) => ixK x21 (w64 (x20 - 1)) 4
 (ldK x21 (Int.toNat (w64 (x20 - 1))) 0 [.bool]
 (fun (x33 : Bool) => cK (x32 == x33)
 (k1)
 (ixK x21 x20 4
 (ldK x21 (Int.toNat x20) 3 [.int .i64]
 (fun (x34 : Int) => ixK x21 (w64 (x20 - 1)) 4
 (ldK x21 (Int.toNat (w64 (x20 - 1))) 3 [.int .i64]
 (fun (x35 : Int) => cK (decide (x34 ≤ x35))
 (k1)
 (kn (w64 (x20 + 1)))))))))))))
 (kn (w64 (x20 + 1)))))))))
 (k2 x20 (decide (x20 < ((List.length x21 : Nat) : Int))))
noncomputable def S4_0_1 (α : Type) (x21 : Rows) (x22 : Rows) (x20 : Int) (kn : Int → Option α) (k1 : Option α) (k2 : Int → Bool → Option α) : Option α := S4_0_1g  α x21 x22 x20 kn k1 k2
noncomputable def R4_0_1 (α : Type) (x21 : Rows) (x22 : Rows) (k1 : Option α) (k2 : Int → Bool → Option α) : Nat → Int → Option α
 | 0, _ => none
 | n + 1, x20 => S4_0_1 α x21 x22 x20 (R4_0_1 α x21 x22 k1 k2 n) k1 k2
noncomputable def L4_0_1 (α : Type) (x21 : Rows) (x22 : Rows) (k1 : Option α) (k2 : Int → Bool → Option α) (x20 : Int) : Option α := R4_0_1 α x21 x22 k1 k2 fuel x20
abbrev TL4_0_1 : Type 1 := (α : Type) → Rows → Rows → (Option α) → (Int → Bool → Option α) → Int → Option α
def F4_0_1 (v : TL4_0_1) (α : Type) (K : Exit → St → Option α) : Int → Rows → Rows → Option α := fun x20 x21 x22 => v α x21 x22 (u4_0_1 (K .ret) false) (fun (y1 : Int) (y2 : Bool) => u4_0_4 (K (.exit 0)) y1 y2 x21 x22) x20
theorem r4_0_1g (vf14_0 : Tf14_0) (vf21_0 : Tf21_0) (vf20_0 : Tf20_0) (vf22_0 : Tf22_0) (vf23_0 : Tf23_0) (vf24_0 : Tf24_0)  (α : Type) (K : Exit → St → Option α) (Kn : St → Option α) (x20 : Int) (x21 : Rows) (x22 : Rows) : u4_0_3 (fun σ => runM Try.prog (E4_0g vf14_0 vf21_0 vf20_0 vf22_0 vf23_0 vf24_0) sh4 (c4_0_45g ) (thenK (fun σ => tidyK td4_45 σ Kn) K) σ) x20 x21 x22 = S4_0_1g  α x21 x22 x20 (fun x20 => u4_0_3 Kn x20 x21 x22) (u4_0_1 (K .ret) false) (fun (y1 : Int) (y2 : Bool) => u4_0_4 (K (.exit 0)) y1 y2 x21 x22) := by kernel_rfl
theorem r4_0_1 (α : Type) (K : Exit → St → Option α) (Kn : St → Option α) (x20 : Int) (x21 : Rows) (x22 : Rows) : u4_0_3 (fun σ => runM Try.prog E4_0 sh4 c4_0_45 (thenK (fun σ => tidyK td4_45 σ Kn) K) σ) x20 x21 x22 = S4_0_1 α x21 x22 x20 (fun x20 => u4_0_3 Kn x20 x21 x22) (u4_0_1 (K .ret) false) (fun (y1 : Int) (y2 : Bool) => u4_0_4 (K (.exit 0)) y1 y2 x21 x22) := r4_0_1g f14_0 f21_0 f20_0 f22_0 f23_0 f24_0 α K Kn x20 x21 x22
theorem t4_0_1 (α : Type) (K : Exit → St → Option α) : ∀ (n : Nat) (x20 : Int) (x21 : Rows) (x22 : Rows), R4_0_1 α x21 x22 (u4_0_1 (K .ret) false) (fun (y1 : Int) (y2 : Bool) => u4_0_4 (K (.exit 0)) y1 y2 x21 x22) n x20 = u4_0_3 (loopT (runM Try.prog E4_0 sh4 c4_0_45) td4_45 K n) x20 x21 x22 := by
 intro n
 induction n with
 | zero => intros; rfl
 | succ n ih => intro x20 x21 x22; exact (congrArg (fun kn => S4_0_1 α x21 x22 x20 kn (u4_0_1 (K .ret) false) (fun (y1 : Int) (y2 : Bool) => u4_0_4 (K (.exit 0)) y1 y2 x21 x22)) (funext fun x20 => ih x20 x21 x22)).trans (r4_0_1 α K (loopT (runM Try.prog E4_0 sh4 c4_0_45) td4_45 K n) x20 x21 x22).symm
theorem m4_0_1 : ∀ (α : Type) (K : Exit → St → Option α), F4_0_1 L4_0_1 α K = p4_0_3.unc fun σ => loopT (runM Try.prog E4_0 sh4 c4_0_45) td4_45 K fuel σ := fun α K => funext fun x20 => funext fun x21 => funext fun x22 => t4_0_1 α K fuel x20 x21 x22

noncomputable def c4_0_9g  : MCode := (.seq (.region r4_11 [] (some ⟨[1, 28], true, [], []⟩)) (.cond (.tmp 28) (.seq (.region r4_14 [] (some ⟨[2], true, [], []⟩)) .ret) .skip))
noncomputable def c4_0_9 : MCode := c4_0_9g 
theorem g4_0_9 : c4_0_9.Good Try.prog E4_0 sh4 := ⟨trivial, ⟨⟨trivial, trivial⟩, trivial⟩⟩
--CODE 9 0
abbrev TJ4_0_0 : Type 1 := (α : Type) → Rows → (Option α) → (Bool → Option α) → Option α
def J4_0_0g  (α : Type) (x5 : Rows) (k1 : Option α) (k2 : Bool → Option α) : Option α :=
 cK (decide (60 < ((List.length x5 : Nat) : Int)))
 (cK (decide (((List.length x5 : Nat) : Int) ≤ 200))
 (k1)
 (cK (decide (202 < ((List.length x5 : Nat) : Int)))
 (k1)
 (k2 (decide (202 < ((List.length x5 : Nat) : Int))))))
 (cK (decide (202 < ((List.length x5 : Nat) : Int)))
 (k1)
 (k2 (decide (202 < ((List.length x5 : Nat) : Int)))))
noncomputable def J4_0_0 (α : Type) (x5 : Rows) (k1 : Option α) (k2 : Bool → Option α) : Option α := J4_0_0g  α x5 k1 k2
def F4_0_0 (v : TJ4_0_0) (α : Type) (K : Exit → St → Option α) : Bool → Int → Rows → Option α := fun x3 x4 x5 => v α x5 (u4_0_1 (K .ret) true) (fun (y1 : Bool) => u4_0_2 (K .normal) y1 x4 x5) 
theorem m4_0_0g (vf14_0 : Tf14_0) (vf21_0 : Tf21_0) (vf20_0 : Tf20_0) (vf22_0 : Tf22_0) (vf23_0 : Tf23_0) (vf24_0 : Tf24_0)  (α : Type) (K : Exit → St → Option α) : F4_0_0 (J4_0_0g ) α K = p4_0_0.unc fun σ => runM Try.prog (E4_0g vf14_0 vf21_0 vf20_0 vf22_0 vf23_0 vf24_0) sh4 (c4_0_9g ) K σ := by kernel_rfl
theorem m4_0_0 : ∀ (α : Type) (K : Exit → St → Option α), F4_0_0 J4_0_0 α K = p4_0_0.unc fun σ => runM Try.prog E4_0 sh4 c4_0_9 K σ := m4_0_0g f14_0 f21_0 f20_0 f22_0 f23_0 f24_0

/-- etalon/etalonlaw08.GrowTurns -/
abbrev Tf4_0 : Type 1 := (α : Type) → Int → Rows → (Bool → Option α) → Option α
def f4_0g (vJ4_0_0 : TJ4_0_0) (vL4_0_1 : TL4_0_1) (vf14_0 : Tf14_0) (vf20_0 : Tf20_0) (vf21_0 : Tf21_0) (vf22_0 : Tf22_0) (vf23_0 : Tf23_0) (vf24_0 : Tf24_0) (α : Type) (x1 : Int) (x2 : Rows) (k1 : Bool → Option α) : Option α :=
 vf14_0 α 
 (vJ4_0_0 α x2
 (k1 true)
 (fun (x7 : Bool) => vf21_0 α x1 x2
 (fun (x9 : Int) (x10 : Rows) => vf20_0 α x9 x10
 (fun (x11 : Int) (x12 : Int) => vf21_0 α x1 x2
 (fun (x13 : Int) (x14 : Rows) => vf22_0 α x13 x14
 (fun (x15 : Rows) (x16 : Int) => flatK [x15]
 (vf23_0 α x1 x2
 (fun (x17 : Int) (x18 : Int) => cK (x11 != x17)
 (k1 false)
 (cK (x12 != x18)
 (k1 false)
 (cK (x18 != 0)
 (cK (x16 == x18)
 (k1 (((List.length x15 : Nat) : Int) == 0))
 (k1 false))
 (vf24_0 α x1 x2
 (fun (x19 : Rows) => cK (x16 != 0)
 (k1 false)
 (cK (((List.length x15 : Nat) : Int) != ((List.length x19 : Nat) : Int))
 (k1 false)
 (vL4_0_1 α x15 x19
 (k1 false)
 (fun (x36 : Int) (x37 : Bool) => k1 true) 0))))))))))))))
noncomputable def f4_0 (α : Type) (x1 : Int) (x2 : Rows) (k1 : Bool → Option α) : Option α := f4_0g J4_0_0 L4_0_1 f14_0 f20_0 f21_0 f22_0 f23_0 f24_0 α x1 x2 k1
def pa4_0 : PT (List DV) := pA [pV true [(dI .i64), dL]]
def Fn4_0 (v : Tf4_0) (α : Type) (k : List RV → Option α) : Int → Rows → Option α := fun x1 x2 => v α x1 x2 (fun (y1 : Bool) => ur4_0_0 k y1)
noncomputable def cm4_0g (vJ4_0_0 : TJ4_0_0) (vL4_0_1 : TL4_0_1) : MCode := (.seq (.region r4_2 [] (some ⟨[1], true, [], []⟩)) (.seq (.seq (.region r4_5 [] (some ⟨[1, 12], true, [], []⟩)) (.cond (.tmp 12) (.seq (.region r4_8 [] (some ⟨[2], true, [], []⟩)) .ret) .skip)) (.seq (.mark [⟨p4_0_0, F4_0_0 vJ4_0_0⟩] c4_0_9) (.seq (.region r4_16 [] (some ⟨[1, 3, 4], true, [], []⟩)) (.seq (.region r4_18 [] (some ⟨[1, 3, 4, 5, 6], true, [], []⟩)) (.seq (.region r4_20 [] (some ⟨[1, 3, 4, 5, 6, 7, 8], true, [], []⟩)) (.seq (.seq (.region r4_23 [] (some ⟨[1, 5, 6, 8, 53], true, [], []⟩)) (.cond (.tmp 53) (.seq (.region r4_26 [] (some ⟨[2], true, [], []⟩)) .ret) .skip)) (.seq (.seq (.region r4_29 [] (some ⟨[1, 5, 6, 8, 55], true, [], []⟩)) (.cond (.tmp 55) (.seq (.region r4_32 [] (some ⟨[2], true, [], []⟩)) .ret) .skip)) (.seq (.region r4_34 [] (some ⟨[5, 6, 9], true, [], []⟩)) (.seq (.seq (.region r4_37 [] (some ⟨[5, 9, 74], true, [], []⟩)) (.cond (.tmp 74) (.seq (.region r4_40 [] (some ⟨[2], true, [], []⟩)) .ret) .skip)) (.seq (.seq (.region r4_43 [] (some ⟨[5, 9, 10], true, [], []⟩)) (.block 0 (.loop td4_45 [⟨p4_0_3, F4_0_1 vL4_0_1⟩] c4_0_45))) (.seq (.region r4_59 [] (some ⟨[2], true, [], []⟩)) .ret))))))))))))
noncomputable def cm4_0 : MCode := cm4_0g J4_0_0 L4_0_1
theorem gm4_0 : cm4_0.Good Try.prog E4_0 sh4 := ⟨trivial, ⟨⟨trivial, ⟨⟨trivial, trivial⟩, trivial⟩⟩, ⟨⟨g4_0_9, m4_0_0, trivial⟩, ⟨trivial, ⟨trivial, ⟨trivial, ⟨⟨trivial, ⟨⟨trivial, trivial⟩, trivial⟩⟩, ⟨⟨trivial, ⟨⟨trivial, trivial⟩, trivial⟩⟩, ⟨trivial, ⟨⟨trivial, ⟨⟨trivial, trivial⟩, trivial⟩⟩, ⟨⟨trivial, ⟨g4_0_45, m4_0_1, trivial⟩⟩, ⟨trivial, trivial⟩⟩⟩⟩⟩⟩⟩⟩⟩⟩⟩⟩
theorem fm4_0g (vf14_0 : Tf14_0) (vf21_0 : Tf21_0) (vf20_0 : Tf20_0) (vf22_0 : Tf22_0) (vf23_0 : Tf23_0) (vf24_0 : Tf24_0) (vJ4_0_0 : TJ4_0_0) (vL4_0_1 : TL4_0_1) (α : Type) (k : List RV → Option α) : Fn4_0 (f4_0g vJ4_0_0 vL4_0_1 vf14_0 vf20_0 vf21_0 vf22_0 vf23_0 vf24_0) α k = pa4_0.unc fun ds => fnM Try.prog (E4_0g vf14_0 vf21_0 vf20_0 vf22_0 vf23_0 vf24_0) sh4 (cm4_0g vJ4_0_0 vL4_0_1) rs4 k ds := by kernel_rfl
theorem fm4_0 : ∀ (α : Type) (k : List RV → Option α), Fn4_0 f4_0 α k = pa4_0.unc fun ds => fnM Try.prog E4_0 sh4 cm4_0 rs4 k ds := fm4_0g f14_0 f21_0 f20_0 f22_0 f23_0 f24_0 J4_0_0 L4_0_1

theorem is4 : FnIs Try.prog 4 nt4 tr4 tl4 cm4_0.erase rs4 := ⟨Try.f4, Try.func4, rfl, by kernel_rfl, by kernel_rfl, by kernel_rfl⟩
theorem io4_0 : InstOk Try.prog 4 nt4 ⟨pa4_0, Fn4_0 f4_0⟩ := inst_ok eo4_0 followsTry is4 ⟨⟨sh4, cm4_0, by kernel_rfl, gm4_0, fm4_0⟩⟩

/-! ### F5 etalon/etalonlaw08.GrowSurely -/
abbrev nt5 : Nat := 209
def sh5 : List (Nat × List Sh) := [(19, [.sl]), (26, [.sl]), (31, [.int .i64, .sl]), (45, [.int .i64]), (46, [.int .i64]), (48, [.int .i64]), (51, [.int .i64]), (56, [.sl]), (58, [.flt .f32]), (59, [.flt .f32]), (63, [.int .i64]), (64, [.int .i64]), (69, [.int .i64, .sl]), (91, [.bool, .int .i64, .int .i64, .int .i64]), (92, [.bool, .int .i64, .int .i64, .int .i64]), (94, [.int .i64]), (96, [.int .i64]), (101, [.int .i64]), (103, [.int .i64]), (110, [.int .i64]), (120, [.int .i64]), (128, [.int .i64]), (133, [.int .i64]), (138, [.bool]), (142, [.int .i64]), (143, [.int .i64]), (146, [.int .i64]), (147, [.int .i64]), (152, [.bool]), (157, [.int .i64]), (158, [.int .i64]), (161, [.int .i64]), (162, [.int .i64]), (169, [.int .i64]), (171, [.int .i64]), (176, [.bool]), (180, [.int .i64]), (181, [.int .i64]), (182, [.int .i64]), (185, [.int .i64]), (186, [.int .i64]), (192, [.bool]), (197, [.int .i64]), (198, [.int .i64]), (199, [.int .i64]), (202, [.int .i64]), (203, [.int .i64]), (208, [.int .i64])]
def r5_2 : List AOper := [oO 2 (.box (.tmp 0)), oO 4 (.mv (.const (.bool false)))]
def r5_5 : List AOper := [oO 16 (.call 14 []), oO 17 (.pure (oB (.unOp .not 4 (.tmp 16)) 4))]
def r5_8 : List AOper := [oO 4 (.mv (.const (.bool false)))]
def r5_11 : List AOper := [oO 18 (.faddr 1 (.tmp 2)), oO 19 (.load false 1 (.tmp 18)), oO 20 (.len (.tmp 19)), oO 21 (.bin .gtr 3 (.tmp 20) (.const (.int .i64 60))), oM 22 21, ⟨(some 23), (.mv (.tmp 1)), (some (22, false))⟩, ⟨(some 24), (.len (.tmp 23)), (some (22, false))⟩, ⟨(some 25), (.faddr 1 (.tmp 2)), (some (22, false))⟩, ⟨(some 26), (.load false 1 (.tmp 25)), (some (22, false))⟩, ⟨(some 27), (.len (.tmp 26)), (some (22, false))⟩, ⟨(some 28), (.bin .neq 3 (.tmp 24) (.tmp 27)), (some (22, false))⟩, oO 29 (.pick (.tmp 22) (.const (.bool true)) (.tmp 28))]
def r5_14 : List AOper := [oO 4 (.mv (.const (.bool true)))]
def r5_17 : List AOper := [oO 31 (.load true 2 (.tmp 2)), oO 32 (.call 23 [(.tmp 31)]), oM 30 32, oO 33 (.extract 0 (.tmp 30)), oO 34 (.extract 1 (.tmp 30)), oM 5 33, oM 6 34]
def r5_19 : List AOper := [oM 35 6, oO 36 (.bin .neq 3 (.tmp 35) (.const (.int .i64 0)))]
def r5_22 : List AOper := [oO 4 (.mv (.const (.bool true)))]
def r5_24 : List AOper := [oO 7 (.mv (.const (.slice none 0 0)))]
def r5_27 : List AOper := [oO 8 (.mv (.const (.int .i64 0)))]
def td5_29 : Option Tidy := (some ⟨[1, 2, 7, 8], true, [⟨false, 7, 0, 20007, 1⟩, ⟨true, 2, 1, 30201, 1⟩], []⟩)
def r5_32 : List AOper := [oM 37 8, oM 38 1, oO 39 (.len (.tmp 38)), oO 40 (.bin .lss 3 (.tmp 37) (.tmp 39))]
def r5_38 : List AOper := [oM 43 1, oM 44 8, oO 45 (.iaddr 1 none (.tmp 43) (.tmp 44)), oO 46 (.load false 1 (.tmp 45)), oO 47 (.faddr 0 (.tmp 2)), oO 48 (.load false 1 (.tmp 47)), oO 49 (.pure (oB (.unOp .neg 3 (.tmp 48)) 3)), oO 50 (.faddr 0 (.tmp 2)), oO 51 (.load false 1 (.tmp 50)), oO 52 (.call 19 [(.tmp 46), (.tmp 49), (.tmp 51)]), oO 53 (.pure (oB (.unOp .not 4 (.tmp 52)) 4))]
def r5_41 : List AOper := [oO 4 (.mv (.const (.bool true)))]
def r5_42 : List AOper := [oM 54 7, oO 55 (.faddr 1 (.tmp 2)), oO 56 (.load false 1 (.tmp 55)), oM 57 8, oO 58 (.iaddr 1 none (.tmp 56) (.tmp 57)), oO 59 (.load false 1 (.tmp 58)), oO 60 (.pure (oB (.convert 52 3 (.tmp 59)) 3)), oM 61 1, oM 62 8, oO 63 (.iaddr 1 none (.tmp 61) (.tmp 62)), oO 64 (.load false 1 (.tmp 63)), oO 65 (.bin .add 3 (.tmp 60) (.tmp 64)), oO 66 (.bslice 1 1 [(.v (.int .i64 0))] [(0, (.tmp 65))]), oO 67 (.append 1 8 (.tmp 54) (.tmp 66)), oM 7 67]
def r5_43 : List AOper := [oM 41 8, oO 42 (.bin .add 3 (.tmp 41) (.const (.int .i64 1))), oM 8 42]
def r5_45 : List AOper := [oO 69 (.load true 2 (.tmp 2)), oO 70 (.call 21 [(.tmp 69)]), oO 71 (.call 22 [(.tmp 70)]), oM 68 71, oO 72 (.extract 0 (.tmp 68)), oO 73 (.extract 1 (.tmp 68)), oM 9 72, oM 10 73]
def r5_48 : List AOper := [oM 74 10, oO 75 (.bin .neq 32 (.tmp 74) (.const (.int .i64 0))), oM 76 75, ⟨(some 77), (.mv (.tmp 9)), (some (76, false))⟩, ⟨(some 78), (.len (.tmp 77)), (some (76, false))⟩, ⟨(some 79), (.mv (.tmp 7)), (some (76, false))⟩, ⟨(some 80), (.len (.tmp 79)), (some (76, false))⟩, ⟨(some 81), (.bin .gtr 3 (.tmp 78) (.tmp 80)), (some (76, false))⟩, oO 82 (.pick (.tmp 76) (.const (.bool true)) (.tmp 81))]
def r5_51 : List AOper := [oO 4 (.mv (.const (.bool false)))]
def r5_53 : List AOper := [oO 11 (.mv (.const (.int .i64 (-1))))]
def r5_56 : List AOper := [oO 12 (.mv (.const (.int .i64 0)))]
def td5_58 : Option Tidy := (some ⟨[7, 9, 11, 12], true, [⟨false, 7, 0, 20007, 1⟩, ⟨false, 9, 0, 20009, 4⟩, ⟨true, 2, 1, 30201, 1⟩], []⟩)
def r5_61 : List AOper := [oM 83 12, oM 84 9, oO 85 (.len (.tmp 84)), oO 86 (.bin .lss 3 (.tmp 83) (.tmp 85))]
def r5_66 : List AOper := [oM 89 9, oM 90 12, oO 91 (.iaddr 4 none (.tmp 89) (.tmp 90)), oO 92 (.load true 4 (.tmp 91)), oO 13 (.alloc [(.d (.v (.bool false))), (.d (.v (.int .i64 0))), (.d (.v (.int .i64 0))), (.d (.v (.int .i64 0)))]), ⟨none, (.store 4 (.tmp 13) (.tmp 92)), none⟩]
def r5_69 : List AOper := [oO 93 (.faddr 1 (.tmp 13)), oO 94 (.load false 1 (.tmp 93)), oO 95 (.faddr 2 (.tmp 13)), oO 96 (.load false 1 (.tmp 95)), oO 97 (.call 19 [(.tmp 94), (.const (.int .i64 0)), (.tmp 96)]), oO 98 (.pure (oB (.unOp .not 4 (.tmp 97)) 4)), oM 99 98, ⟨(some 100), (.faddr 2 (.tmp 13)), (some (99, false))⟩, ⟨(some 101), (.load false 1 (.tmp 100)), (some (99, false))⟩, ⟨(some 102), (.faddr 3 (.tmp 13)), (some (99, false))⟩, ⟨(some 103), (.load false 1 (.tmp 102)), (some (99, false))⟩, ⟨(some 104), (.bin .sub 3 (.tmp 103) (.const (.int .i64 1))), (some (99, false))⟩, ⟨(some 105), (.call 19 [(.tmp 101), (.const (.int .i64 0)), (.tmp 104)]), (some (99, false))⟩, ⟨(some 106), (.pure (oB (.unOp .not 4 (.tmp 105)) 4)), (some (99, false))⟩, oO 107 (.pick (.tmp 99) (.const (.bool true)) (.tmp 106)), oM 108 107, ⟨(some 109), (.faddr 3 (.tmp 13)), (some (108, false))⟩, ⟨(some 110), (.load false 1 (.tmp 109)), (some (108, false))⟩, ⟨(some 111), (.mv (.tmp 7)), (some (108, false))⟩, ⟨(some 112), (.len (.tmp 111)), (some (108, false))⟩, ⟨(some 113), (.bin .geq 3 (.tmp 110) (.tmp 112)), (some (108, false))⟩, oO 114 (.pick (.tmp 108) (.const (.bool true)) (.tmp 113)), oM 115 114, ⟨(some 116), (.mv (.tmp 11)), (some (115, false))⟩, ⟨(some 117), (.bin .geq 3 (.tmp 116) (.const (.int .i64 0))), (some (115, false))⟩, ⟨(some 118), (.mv (.tmp 117)), (some (115, false))⟩, ⟨(some 119), (.faddr 1 (.tmp 13)), (some (118, true))⟩, ⟨(some 120), (.load false 1 (.tmp 119)), (some (118, true))⟩, ⟨(some 121), (.mv (.tmp 11)), (some (118, true))⟩, ⟨(some 122), (.bin .lss 3 (.tmp 120) (.tmp 121)), (some (118, true))⟩, ⟨(some 123), (.pick (.tmp 118) (.tmp 122) (.const (.bool false))), (some (115, false))⟩, oO 124 (.pick (.tmp 115) (.const (.bool true)) (.tmp 123))]
def r5_72 : List AOper := [oO 4 (.mv (.const (.bool false)))]
def r5_75 : List AOper := [oM 125 11, oO 126 (.bin .lss 3 (.tmp 125) (.const (.int .i64 0)))]
def r5_77 : List AOper := [oO 127 (.faddr 1 (.tmp 13)), oO 128 (.load false 1 (.tmp 127)), oM 11 128]
def r5_79 : List AOper := [oM 129 11, oM 14 129]
def r5_82 : List AOper := [oM 130 11, oM 15 130]
def td5_84 : Option Tidy := (some ⟨[7, 9, 12, 13, 14, 15], true, [⟨false, 7, 0, 20007, 1⟩, ⟨false, 9, 0, 20009, 4⟩, ⟨true, 2, 1, 30201, 1⟩], []⟩)
def r5_87 : List AOper := [oM 131 15, oO 132 (.faddr 3 (.tmp 13)), oO 133 (.load false 1 (.tmp 132)), oO 134 (.bin .leq 3 (.tmp 131) (.tmp 133))]
def r5_92 : List AOper := [oO 137 (.faddr 0 (.tmp 13)), oO 138 (.load false 1 (.tmp 137)), oM 139 138, ⟨(some 140), (.mv (.tmp 7)), (some (139, true))⟩, ⟨(some 141), (.mv (.tmp 15)), (some (139, true))⟩, ⟨(some 142), (.iaddr 1 none (.tmp 140) (.tmp 141)), (some (139, true))⟩, ⟨(some 143), (.load false 1 (.tmp 142)), (some (139, true))⟩, ⟨(some 144), (.mv (.tmp 7)), (some (139, true))⟩, ⟨(some 145), (.mv (.tmp 14)), (some (139, true))⟩, ⟨(some 146), (.iaddr 1 none (.tmp 144) (.tmp 145)), (some (139, true))⟩, ⟨(some 147), (.load false 1 (.tmp 146)), (some (139, true))⟩, ⟨(some 148), (.bin .gtr 3 (.tmp 143) (.tmp 147)), (some (139, true))⟩, oO 149 (.pick (.tmp 139) (.tmp 148) (.const (.bool false))), oM 150 149, ⟨(some 151), (.faddr 0 (.tmp 13)), (some (150, false))⟩, ⟨(some 152), (.load false 1 (.tmp 151)), (some (150, false))⟩, ⟨(some 153), (.pure (oB (.unOp .not 4 (.tmp 152)) 4)), (some (150, false))⟩, ⟨(some 154), (.mv (.tmp 153)), (some (150, false))⟩, ⟨(some 155), (.mv (.tmp 7)), (some (154, true))⟩, ⟨(some 156), (.mv (.tmp 15)), (some (154, true))⟩, ⟨(some 157), (.iaddr 1 none (.tmp 155) (.tmp 156)), (some (154, true))⟩, ⟨(some 158), (.load false 1 (.tmp 157)), (some (154, true))⟩, ⟨(some 159), (.mv (.tmp 7)), (some (154, true))⟩, ⟨(some 160), (.mv (.tmp 14)), (some (154, true))⟩, ⟨(some 161), (.iaddr 1 none (.tmp 159) (.tmp 160)), (some (154, true))⟩, ⟨(some 162), (.load false 1 (.tmp 161)), (some (154, true))⟩, ⟨(some 163), (.bin .lss 3 (.tmp 158) (.tmp 162)), (some (154, true))⟩, ⟨(some 164), (.pick (.tmp 154) (.tmp 163) (.const (.bool false))), (some (150, false))⟩, oO 165 (.pick (.tmp 150) (.const (.bool true)) (.tmp 164))]
def r5_94 : List AOper := [oM 166 15, oM 14 166]
def r5_95 : List AOper := [oM 135 15, oO 136 (.bin .add 3 (.tmp 135) (.const (.int .i64 1))), oM 15 136]
def r5_98 : List AOper := [oM 167 14, oO 168 (.faddr 1 (.tmp 13)), oO 169 (.load false 1 (.tmp 168)), oO 170 (.faddr 2 (.tmp 13)), oO 171 (.load false 1 (.tmp 170)), oO 172 (.call 19 [(.tmp 167), (.tmp 169), (.tmp 171)]), oO 173 (.pure (oB (.unOp .not 4 (.tmp 172)) 4)), oM 174 173, ⟨(some 175), (.faddr 0 (.tmp 13)), (some (174, false))⟩, ⟨(some 176), (.load false 1 (.tmp 175)), (some (174, false))⟩, ⟨(some 177), (.mv (.tmp 176)), (some (174, false))⟩, ⟨(some 178), (.mv (.tmp 7)), (some (177, true))⟩, ⟨(some 179), (.faddr 3 (.tmp 13)), (some (177, true))⟩, ⟨(some 180), (.load false 1 (.tmp 179)), (some (177, true))⟩, ⟨(some 181), (.iaddr 1 none (.tmp 178) (.tmp 180)), (some (177, true))⟩, ⟨(some 182), (.load false 1 (.tmp 181)), (some (177, true))⟩, ⟨(some 183), (.mv (.tmp 7)), (some (177, true))⟩, ⟨(some 184), (.mv (.tmp 14)), (some (177, true))⟩, ⟨(some 185), (.iaddr 1 none (.tmp 183) (.tmp 184)), (some (177, true))⟩, ⟨(some 186), (.load false 1 (.tmp 185)), (some (177, true))⟩, ⟨(some 187), (.bin .geq 3 (.tmp 182) (.tmp 186)), (some (177, true))⟩, ⟨(some 188), (.pick (.tmp 177) (.tmp 187) (.const (.bool false))), (some (174, false))⟩, oO 189 (.pick (.tmp 174) (.const (.bool true)) (.tmp 188)), oM 190 189, ⟨(some 191), (.faddr 0 (.tmp 13)), (some (190, false))⟩, ⟨(some 192), (.load false 1 (.tmp 191)), (some (190, false))⟩, ⟨(some 193), (.pure (oB (.unOp .not 4 (.tmp 192)) 4)), (some (190, false))⟩, ⟨(some 194), (.mv (.tmp 193)), (some (190, false))⟩, ⟨(some 195), (.mv (.tmp 7)), (some (194, true))⟩, ⟨(some 196), (.faddr 3 (.tmp 13)), (some (194, true))⟩, ⟨(some 197), (.load false 1 (.tmp 196)), (some (194, true))⟩, ⟨(some 198), (.iaddr 1 none (.tmp 195) (.tmp 197)), (some (194, true))⟩, ⟨(some 199), (.load false 1 (.tmp 198)), (some (194, true))⟩, ⟨(some 200), (.mv (.tmp 7)), (some (194, true))⟩, ⟨(some 201), (.mv (.tmp 14)), (some (194, true))⟩, ⟨(some 202), (.iaddr 1 none (.tmp 200) (.tmp 201)), (some (194, true))⟩, ⟨(some 203), (.load false 1 (.tmp 202)), (some (194, true))⟩, ⟨(some 204), (.bin .leq 3 (.tmp 199) (.tmp 203)), (some (194, true))⟩, ⟨(some 205), (.pick (.tmp 194) (.tmp 204) (.const (.bool false))), (some (190, false))⟩, oO 206 (.pick (.tmp 190) (.const (.bool true)) (.tmp 205))]
def r5_101 : List AOper := [oO 4 (.mv (.const (.bool false)))]
def r5_102 : List AOper := [oO 207 (.faddr 3 (.tmp 13)), oO 208 (.load false 1 (.tmp 207)), oM 11 208]
def r5_103 : List AOper := [oM 87 12, oO 88 (.bin .add 3 (.tmp 87) (.const (.int .i64 1))), oM 12 88]
def r5_105 : List AOper := [oO 4 (.mv (.const (.bool true)))]
def tr5 : List (Nat × Tidy) := [(0, ⟨[1, 2], true, [], []⟩), (1, ⟨[1, 2, 17], true, [], []⟩), (2, ⟨[4], true, [], []⟩), (3, ⟨[1, 2, 29], true, [], []⟩), (4, ⟨[4], true, [], []⟩), (5, ⟨[1, 2, 6], true, [], []⟩), (6, ⟨[1, 2, 36], true, [], []⟩), (7, ⟨[4], true, [], []⟩), (8, ⟨[1, 2, 7], true, [], []⟩), (9, ⟨[1, 2, 7, 8], true, [], []⟩), (10, ⟨[1, 2, 7, 8, 40], true, [], []⟩), (12, ⟨[1, 2, 7, 8, 53], true, [], []⟩), (13, ⟨[4], true, [], []⟩), (14, ⟨[1, 2, 7, 8], true, [], []⟩), (11, ⟨[1, 2, 7, 8], true, [], []⟩), (15, ⟨[7, 9, 10], true, [], []⟩), (16, ⟨[7, 9, 82], true, [], []⟩), (17, ⟨[4], true, [], []⟩), (18, ⟨[7, 9, 11], true, [], []⟩), (19, ⟨[7, 9, 11, 12], true, [], []⟩), (20, ⟨[7, 9, 11, 12, 86], true, [], []⟩), (22, ⟨[7, 9, 11, 12, 13], true, [], []⟩), (23, ⟨[7, 9, 11, 12, 13, 124], true, [], []⟩), (24, ⟨[4], true, [], []⟩), (25, ⟨[7, 9, 11, 12, 13, 126], true, [], []⟩), (26, ⟨[7, 9, 11, 12, 13], true, [], []⟩), (27, ⟨[7, 9, 11, 12, 13, 14], true, [], []⟩), (28, ⟨[7, 9, 12, 13, 14, 15], true, [], []⟩), (29, ⟨[7, 9, 12, 13, 14, 15, 134], true, [], []⟩), (31, ⟨[7, 9, 12, 13, 14, 15, 165], true, [], []⟩), (32, ⟨[7, 9, 12, 13, 14, 15], true, [], []⟩), (30, ⟨[7, 9, 12, 13, 14, 15], true, [], []⟩), (33, ⟨[7, 9, 12, 13, 206], true, [], []⟩), (34, ⟨[4], true, [], []⟩), (35, ⟨[7, 9, 11, 12], true, [], []⟩), (21, ⟨[7, 9, 11, 12], true, [], []⟩), (36, ⟨[4], true, [], []⟩)]
def tl5 : List (Nat × Tidy) := [(10, ⟨[1, 2, 7, 8], true, [⟨false, 7, 0, 20007, 1⟩, ⟨true, 2, 1, 30201, 1⟩], []⟩), (20, ⟨[7, 9, 11, 12], true, [⟨false, 7, 0, 20007, 1⟩, ⟨false, 9, 0, 20009, 4⟩, ⟨true, 2, 1, 30201, 1⟩], []⟩), (29, ⟨[7, 9, 12, 13, 14, 15], true, [⟨false, 7, 0, 20007, 1⟩, ⟨false, 9, 0, 20009, 4⟩, ⟨true, 2, 1, 30201, 1⟩], []⟩)]
def rs5 : List AResV := [.tmp 4]
def p5_0_0 : PT St := pS [sl 1 (aV false [(cD dL)]), sl 2 (aV false [(cPtr 2 0)]), sl 7 (aV false [(cRef 20007)]), sl 8 (aV false [(cD (dI .i64))])] [eBox 2 [(cD (dI .i64)), (cD dL)], eOwn 20007 1]
def u5_0_0 {β : Type} (g : St → β) : Rows → Int → Int → Rows → Rows → β := p5_0_0.unc g

def p5_0_1 : PT St := pS [sl 4 (aV false [(cD dB)])] []
def u5_0_1 {β : Type} (g : St → β) : Bool → β := p5_0_1.unc g

def p5_0_2 : PT St := pS [sl 1 (aV false [(cD dL)]), sl 2 (aV false [(cPtr 2 0)]), sl 7 (aV false [(cRef 20007)]), sl 8 (aV false [(cD (dI .i64))]), sl 40 (aV false [(cD dB)])] [eBox 2 [(cD (dI .i64)), (cD dL)], eOwn 20007 1]
def u5_0_2 {β : Type} (g : St → β) : Rows → Int → Bool → Int → Rows → Rows → β := p5_0_2.unc g

def p5_0_3 : PT St := pS [sl 7 (aV false [(cRef 20007)]), sl 9 (aV false [(cRef 20009)]), sl 11 (aV false [(cD (dI .i64))]), sl 12 (aV false [(cD (dI .i64))]), sl 13 (aV false [(cPtr 13 0)])] [eOwn 20007 1, eOwn 20009 4, eBox 13 [(cD dB), (cD (dI .i64)), (cD (dI .i64)), (cD (dI .i64))]]
def u5_0_3 {β : Type} (g : St → β) : Int → Int → Rows → Rows → Bool → Int → Int → Int → β := p5_0_3.unc g

def p5_0_4 : PT St := pS [sl 7 (aV false [(cRef 20007)]), sl 9 (aV false [(cRef 20009)]), sl 11 (aV false [(cD (dI .i64))]), sl 12 (aV false [(cD (dI .i64))]), sl 13 (aV false [(cPtr 13 0)]), sl 124 (aV false [(cD dB)])] [eOwn 20007 1, eOwn 20009 4, eBox 13 [(cD dB), (cD (dI .i64)), (cD (dI .i64)), (cD (dI .i64))]]
def u5_0_4 {β : Type} (g : St → β) : Int → Int → Bool → Rows → Rows → Bool → Int → Int → Int → β := p5_0_4.unc g

def p5_0_5 : PT St := pS [sl 7 (aV false [(cRef 20007)]), sl 9 (aV false [(cRef 20009)]), sl 11 (aV false [(cD (dI .i64))]), sl 12 (aV false [(cD (dI .i64))]), sl 13 (aV false [(cPtr 13 0)]), sl 126 (aV false [(cD dB)])] [eOwn 20007 1, eOwn 20009 4, eBox 13 [(cD dB), (cD (dI .i64)), (cD (dI .i64)), (cD (dI .i64))]]
def u5_0_5 {β : Type} (g : St → β) : Int → Int → Bool → Rows → Rows → Bool → Int → Int → Int → β := p5_0_5.unc g

def p5_0_6 : PT St := pS [sl 7 (aV false [(cRef 20007)]), sl 9 (aV false [(cRef 20009)]), sl 12 (aV false [(cD (dI .i64))]), sl 13 (aV false [(cPtr 13 0)]), sl 14 (aV false [(cD (dI .i64))]), sl 15 (aV false [(cD (dI .i64))]), sl 134 (aV false [(cD dB)])] [eOwn 20007 1, eOwn 20009 4, eBox 13 [(cD dB), (cD (dI .i64)), (cD (dI .i64)), (cD (dI .i64))]]
def u5_0_6 {β : Type} (g : St → β) : Int → Int → Int → Bool → Rows → Rows → Bool → Int → Int → Int → β := p5_0_6.unc g

def p5_0_7 : PT St := pS [sl 7 (aV false [(cRef 20007)]), sl 9 (aV false [(cRef 20009)]), sl 12 (aV false [(cD (dI .i64))]), sl 13 (aV false [(cPtr 13 0)]), sl 14 (aV false [(cD (dI .i64))]), sl 15 (aV false [(cD (dI .i64))]), sl 165 (aV false [(cD dB)])] [eOwn 20007 1, eOwn 20009 4, eBox 13 [(cD dB), (cD (dI .i64)), (cD (dI .i64)), (cD (dI .i64))]]
def u5_0_7 {β : Type} (g : St → β) : Int → Int → Int → Bool → Rows → Rows → Bool → Int → Int → Int → β := p5_0_7.unc g

def p5_0_8 : PT St := pS [sl 7 (aV false [(cRef 20007)]), sl 9 (aV false [(cRef 20009)]), sl 12 (aV false [(cD (dI .i64))]), sl 13 (aV false [(cPtr 13 0)]), sl 14 (aV false [(cD (dI .i64))]), sl 15 (aV false [(cD (dI .i64))])] [eOwn 20007 1, eOwn 20009 4, eBox 13 [(cD dB), (cD (dI .i64)), (cD (dI .i64)), (cD (dI .i64))]]
def u5_0_8 {β : Type} (g : St → β) : Int → Int → Int → Rows → Rows → Bool → Int → Int → Int → β := p5_0_8.unc g

def p5_0_9 : PT St := pS [sl 7 (aV false [(cRef 20007)]), sl 9 (aV false [(cRef 20009)]), sl 12 (aV false [(cD (dI .i64))]), sl 13 (aV false [(cPtr 13 0)]), sl 206 (aV false [(cD dB)])] [eOwn 20007 1, eOwn 20009 4, eBox 13 [(cD dB), (cD (dI .i64)), (cD (dI .i64)), (cD (dI .i64))]]
def u5_0_9 {β : Type} (g : St → β) : Int → Bool → Rows → Rows → Bool → Int → Int → Int → β := p5_0_9.unc g

def p5_0_10 : PT St := pS [sl 7 (aV false [(cRef 20007)]), sl 9 (aV false [(cRef 20009)]), sl 11 (aV false [(cD (dI .i64))]), sl 12 (aV false [(cD (dI .i64))])] [eOwn 20007 1, eOwn 20009 4]
def u5_0_10 {β : Type} (g : St → β) : Int → Int → Rows → Rows → β := p5_0_10.unc g

def p5_0_11 : PT St := pS [sl 7 (aV false [(cRef 20007)]), sl 9 (aV false [(cRef 20009)]), sl 11 (aV false [(cD (dI .i64))]), sl 12 (aV false [(cD (dI .i64))]), sl 86 (aV false [(cD dB)])] [eOwn 20007 1, eOwn 20009 4]
def u5_0_11 {β : Type} (g : St → β) : Int → Int → Bool → Rows → Rows → β := p5_0_11.unc g

def pr5_0_0 : PT (List RV) := pRs [pR false [rD dB]]
def ur5_0_0 {β : Type} (g : List RV → β) : Bool → β := pr5_0_0.unc g

def E5_0g (vf14_0 : Tf14_0) (vf23_0 : Tf23_0) (vf19_0 : Tf19_0) (vf21_0 : Tf21_0) (vf22_0 : Tf22_0) : EnvK := EnvK.of [⟨14, nt14, [⟨pa14_0, Fn14_0 vf14_0⟩]⟩, ⟨23, nt23, [⟨pa23_0, Fn23_0 vf23_0⟩]⟩, ⟨19, nt19, [⟨pa19_0, Fn19_0 vf19_0⟩]⟩, ⟨21, nt21, [⟨pa21_0, Fn21_0 vf21_0⟩]⟩, ⟨22, nt22, [⟨pa22_0, Fn22_0 vf22_0⟩]⟩] noSeq
noncomputable def E5_0 : EnvK := E5_0g f14_0 f23_0 f19_0 f21_0 f22_0
theorem eo5_0 : E5_0.Ok Try.prog := EnvK.of_ok noSeq_ok ⟨⟨io14_0, trivial⟩, ⟨io23_0, trivial⟩, ⟨io19_0, trivial⟩, ⟨io21_0, trivial⟩, ⟨io22_0, trivial⟩, trivial⟩

noncomputable def c5_0_97g  : MCode := (.region r5_98 [] (some ⟨[7, 9, 12, 13, 206], true, [], []⟩))
noncomputable def c5_0_97 : MCode := c5_0_97g 
theorem g5_0_97 : c5_0_97.Good Try.prog E5_0 sh5 := trivial
--CODE 97 0
abbrev TJ5_0_5 : Type 1 := (α : Type) → Int → Rows → Bool → Int → Int → Int → (Bool → Option α) → Option α
def J5_0_5g (vf19_0 : Tf19_0) (α : Type) (x93 : Int) (x96 : Rows) (x98 : Bool) (x99 : Int) (x100 : Int) (x101 : Int) (k1 : Bool → Option α) : Option α :=
 vf19_0 α x93 x99 x100
 (fun (x103 : Bool) => cK (!x103)
 (k1 true)
 (cK x98
 (ixK x96 x101 1
 (ldK x96 (Int.toNat x101) 0 [.int .i64]
 (fun (x104 : Int) => ixK x96 x93 1
 (ldK x96 (Int.toNat x93) 0 [.int .i64]
 (fun (x105 : Int) => cK (decide (x105 ≤ x104))
 (k1 true)
 (cK (!x98)
 (ixK x96 x101 1
 (ldK x96 (Int.toNat x101) 0 [.int .i64]
 (fun (x106 : Int) => ixK x96 x93 1
 (ldK x96 (Int.toNat x93) 0 [.int .i64]
 (fun (x107 : Int) => k1 (decide (x106 ≤ x107)))))))
 (k1 false)))))))
 (cK (!x98)
 (ixK x96 x101 1
 (ldK x96 (Int.toNat x101) 0 [.int .i64]
 (fun (x108 : Int) => ixK x96 x93 1
 (ldK x96 (Int.toNat x93) 0 [.int .i64]
 (fun (x109 : Int) => k1 (decide (x108 ≤ x109)))))))
 (k1 false))))
noncomputable def J5_0_5 (α : Type) (x93 : Int) (x96 : Rows) (x98 : Bool) (x99 : Int) (x100 : Int) (x101 : Int) (k1 : Bool → Option α) : Option α := J5_0_5g f19_0 α x93 x96 x98 x99 x100 x101 k1
def F5_0_5 (v : TJ5_0_5) (α : Type) (K : Exit → St → Option α) : Int → Int → Int → Bool → Rows → Rows → Bool → Int → Int → Int → Option α := fun x92 x93 x94 x95 x96 x97 x98 x99 x100 x101 => v α x93 x96 x98 x99 x100 x101 (fun (y1 : Bool) => u5_0_9 (K .normal) x92 y1 x96 x97 x98 x99 x100 x101) 
theorem m5_0_5g (vf14_0 : Tf14_0) (vf23_0 : Tf23_0) (vf19_0 : Tf19_0) (vf21_0 : Tf21_0) (vf22_0 : Tf22_0)  (α : Type) (K : Exit → St → Option α) : F5_0_5 (J5_0_5g vf19_0) α K = p5_0_6.unc fun σ => runM Try.prog (E5_0g vf14_0 vf23_0 vf19_0 vf21_0 vf22_0) sh5 (c5_0_97g ) K σ := by kernel_rfl
theorem m5_0_5 : ∀ (α : Type) (K : Exit → St → Option α), F5_0_5 J5_0_5 α K = p5_0_6.unc fun σ => runM Try.prog E5_0 sh5 c5_0_97 K σ := m5_0_5g f14_0 f23_0 f19_0 f21_0 f22_0

noncomputable def c5_0_91g  : MCode := (.region r5_92 [] (some ⟨[7, 9, 12, 13, 14, 15, 165], true, [], []⟩))
noncomputable def c5_0_91 : MCode := c5_0_91g 
theorem g5_0_91 : c5_0_91.Good Try.prog E5_0 sh5 := trivial
--CODE 91 0
abbrev TJ5_0_3 : Type 1 := (α : Type) → Int → Int → Rows → Bool → (Bool → Option α) → Option α
def J5_0_3g  (α : Type) (x70 : Int) (x71 : Int) (x73 : Rows) (x75 : Bool) (k1 : Bool → Option α) : Option α :=
 cK x75
 (ixK x73 x71 1
 (ldK x73 (Int.toNat x71) 0 [.int .i64]
 (fun (x80 : Int) => ixK x73 x70 1
 (ldK x73 (Int.toNat x70) 0 [.int .i64]
 (fun (x81 : Int) => cK (decide (x81 < x80))
 (k1 true)
 (cK (!x75)
 (ixK x73 x71 1
 (ldK x73 (Int.toNat x71) 0 [.int .i64]
 (fun (x82 : Int) => ixK x73 x70 1
 (ldK x73 (Int.toNat x70) 0 [.int .i64]
 (fun (x83 : Int) => k1 (decide (x82 < x83)))))))
 (k1 false)))))))
 (cK (!x75)
 (ixK x73 x71 1
 (ldK x73 (Int.toNat x71) 0 [.int .i64]
 (fun (x84 : Int) => ixK x73 x70 1
 (ldK x73 (Int.toNat x70) 0 [.int .i64]
 (fun (x85 : Int) => k1 (decide (x84 < x85)))))))
 (k1 false))
noncomputable def J5_0_3 (α : Type) (x70 : Int) (x71 : Int) (x73 : Rows) (x75 : Bool) (k1 : Bool → Option α) : Option α := J5_0_3g  α x70 x71 x73 x75 k1
def F5_0_3 (v : TJ5_0_3) (α : Type) (K : Exit → St → Option α) : Int → Int → Int → Bool → Rows → Rows → Bool → Int → Int → Int → Option α := fun x69 x70 x71 x72 x73 x74 x75 x76 x77 x78 => v α x70 x71 x73 x75 (fun (y1 : Bool) => u5_0_7 (K .normal) x69 x70 x71 y1 x73 x74 x75 x76 x77 x78) 
theorem m5_0_3g (vf14_0 : Tf14_0) (vf23_0 : Tf23_0) (vf19_0 : Tf19_0) (vf21_0 : Tf21_0) (vf22_0 : Tf22_0)  (α : Type) (K : Exit → St → Option α) : F5_0_3 (J5_0_3g ) α K = p5_0_6.unc fun σ => runM Try.prog (E5_0g vf14_0 vf23_0 vf19_0 vf21_0 vf22_0) sh5 (c5_0_91g ) K σ := by kernel_rfl
theorem m5_0_3 : ∀ (α : Type) (K : Exit → St → Option α), F5_0_3 J5_0_3 α K = p5_0_6.unc fun σ => runM Try.prog E5_0 sh5 c5_0_91 K σ := m5_0_3g f14_0 f23_0 f19_0 f21_0 f22_0

noncomputable def c5_0_84g (vJ5_0_3 : TJ5_0_3) : MCode := (.seq (.seq (.region r5_87 [] (some ⟨[7, 9, 12, 13, 14, 15, 134], true, [], []⟩)) (.cond (.tmp 134) .skip (.exit 4))) (.seq (.block 5 (.seq (.mark [⟨p5_0_6, F5_0_3 vJ5_0_3⟩] c5_0_91) (.cond (.tmp 165) (.region r5_94 [] (some ⟨[7, 9, 12, 13, 14, 15], true, [], []⟩)) .skip))) (.region r5_95 [] (some ⟨[7, 9, 12, 13, 14, 15], true, [], []⟩))))
noncomputable def c5_0_84 : MCode := c5_0_84g J5_0_3
theorem g5_0_84 : c5_0_84.Good Try.prog E5_0 sh5 := ⟨⟨trivial, ⟨trivial, trivial⟩⟩, ⟨⟨⟨g5_0_91, m5_0_3, trivial⟩, ⟨trivial, trivial⟩⟩, trivial⟩⟩
--CODE 84 0
def S5_0_4g (vJ5_0_3 : TJ5_0_3) (α : Type) (x62 : Rows) (x64 : Bool) (x67 : Int) (x60 : Int) (x61 : Int) (kn : Int → Int → Option α) (k1 : Int → Int → Bool → Option α) : Option α :=
 cK (decide (x61 ≤ x67))
 (vJ5_0_3 α x60 x61 x62 x64
 (fun (x86 : Bool) => cK x86
 (kn x61 (w64 (x61 + 1)))
 (kn x60 (w64 (x61 + 1)))))
 (k1 x60 x61 (decide (x61 ≤ x67)))
noncomputable def S5_0_4 (α : Type) (x62 : Rows) (x64 : Bool) (x67 : Int) (x60 : Int) (x61 : Int) (kn : Int → Int → Option α) (k1 : Int → Int → Bool → Option α) : Option α := S5_0_4g J5_0_3 α x62 x64 x67 x60 x61 kn k1
noncomputable def R5_0_4 (α : Type) (x62 : Rows) (x64 : Bool) (x67 : Int) (k1 : Int → Int → Bool → Option α) : Nat → Int → Int → Option α
 | 0, _, _ => none
 | n + 1, x60, x61 => S5_0_4 α x62 x64 x67 x60 x61 (R5_0_4 α x62 x64 x67 k1 n) k1
noncomputable def L5_0_4 (α : Type) (x62 : Rows) (x64 : Bool) (x67 : Int) (k1 : Int → Int → Bool → Option α) (x60 : Int) (x61 : Int) : Option α := R5_0_4 α x62 x64 x67 k1 fuel x60 x61
abbrev TL5_0_4 : Type 1 := (α : Type) → Rows → Bool → Int → (Int → Int → Bool → Option α) → Int → Int → Option α
def F5_0_4 (v : TL5_0_4) (α : Type) (K : Exit → St → Option α) : Int → Int → Int → Rows → Rows → Bool → Int → Int → Int → Option α := fun x59 x60 x61 x62 x63 x64 x65 x66 x67 => v α x62 x64 x67 (fun (y1 : Int) (y2 : Int) (y3 : Bool) => u5_0_6 (K (.exit 4)) x59 y1 y2 y3 x62 x63 x64 x65 x66 x67) x60 x61
theorem r5_0_4g (vf14_0 : Tf14_0) (vf23_0 : Tf23_0) (vf19_0 : Tf19_0) (vf21_0 : Tf21_0) (vf22_0 : Tf22_0) (vJ5_0_3 : TJ5_0_3) (α : Type) (K : Exit → St → Option α) (Kn : St → Option α) (x59 : Int) (x60 : Int) (x61 : Int) (x62 : Rows) (x63 : Rows) (x64 : Bool) (x65 : Int) (x66 : Int) (x67 : Int) : u5_0_8 (fun σ => runM Try.prog (E5_0g vf14_0 vf23_0 vf19_0 vf21_0 vf22_0) sh5 (c5_0_84g vJ5_0_3) (thenK (fun σ => tidyK td5_84 σ Kn) K) σ) x59 x60 x61 x62 x63 x64 x65 x66 x67 = S5_0_4g vJ5_0_3 α x62 x64 x67 x60 x61 (fun x60 x61 => u5_0_8 Kn x59 x60 x61 x62 x63 x64 x65 x66 x67) (fun (y1 : Int) (y2 : Int) (y3 : Bool) => u5_0_6 (K (.exit 4)) x59 y1 y2 y3 x62 x63 x64 x65 x66 x67) := by kernel_rfl
theorem r5_0_4 (α : Type) (K : Exit → St → Option α) (Kn : St → Option α) (x59 : Int) (x60 : Int) (x61 : Int) (x62 : Rows) (x63 : Rows) (x64 : Bool) (x65 : Int) (x66 : Int) (x67 : Int) : u5_0_8 (fun σ => runM Try.prog E5_0 sh5 c5_0_84 (thenK (fun σ => tidyK td5_84 σ Kn) K) σ) x59 x60 x61 x62 x63 x64 x65 x66 x67 = S5_0_4 α x62 x64 x67 x60 x61 (fun x60 x61 => u5_0_8 Kn x59 x60 x61 x62 x63 x64 x65 x66 x67) (fun (y1 : Int) (y2 : Int) (y3 : Bool) => u5_0_6 (K (.exit 4)) x59 y1 y2 y3 x62 x63 x64 x65 x66 x67) := r5_0_4g f14_0 f23_0 f19_0 f21_0 f22_0 J5_0_3 α K Kn x59 x60 x61 x62 x63 x64 x65 x66 x67
theorem t5_0_4 (α : Type) (K : Exit → St → Option α) : ∀ (n : Nat) (x59 : Int) (x60 : Int) (x61 : Int) (x62 : Rows) (x63 : Rows) (x64 : Bool) (x65 : Int) (x66 : Int) (x67 : Int), R5_0_4 α x62 x64 x67 (fun (y1 : Int) (y2 : Int) (y3 : Bool) => u5_0_6 (K (.exit 4)) x59 y1 y2 y3 x62 x63 x64 x65 x66 x67) n x60 x61 = u5_0_8 (loopT (runM Try.prog E5_0 sh5 c5_0_84) td5_84 K n) x59 x60 x61 x62 x63 x64 x65 x66 x67 := by
 intro n
 induction n with
 | zero => intros; rfl
 | succ n ih => intro x59 x60 x61 x62 x63 x64 x65 x66 x67; exact (congrArg (fun kn => S5_0_4 α x62 x64 x67 x60 x61 kn (fun (y1 : Int) (y2 : Int) (y3 : Bool) => u5_0_6 (K (.exit 4)) x59 y1 y2 y3 x62 x63 x64 x65 x66 x67)) (funext fun x60 => funext fun x61 => ih x59 x60 x61 x62 x63 x64 x65 x66 x67)).trans (r5_0_4 α K (loopT (runM Try.prog E5_0 sh5 c5_0_84) td5_84 K n) x59 x60 x61 x62 x63 x64 x65 x66 x67).symm
theorem m5_0_4 : ∀ (α : Type) (K : Exit → St → Option α), F5_0_4 L5_0_4 α K = p5_0_8.unc fun σ => loopT (runM Try.prog E5_0 sh5 c5_0_84) td5_84 K fuel σ := fun α K => funext fun x59 => funext fun x60 => funext fun x61 => funext fun x62 => funext fun x63 => funext fun x64 => funext fun x65 => funext fun x66 => funext fun x67 => t5_0_4 α K fuel x59 x60 x61 x62 x63 x64 x65 x66 x67

noncomputable def c5_0_73g  : MCode := (.seq (.region r5_75 [] (some ⟨[7, 9, 11, 12, 13, 126], true, [], []⟩)) (.cond (.tmp 126) (.region r5_77 [] (some ⟨[7, 9, 11, 12, 13], true, [], []⟩)) .skip))
noncomputable def c5_0_73 : MCode := c5_0_73g 
theorem g5_0_73 : c5_0_73.Good Try.prog E5_0 sh5 := ⟨trivial, ⟨trivial, trivial⟩⟩
--CODE 73 0
abbrev TJ5_0_2 : Type 1 := (α : Type) → Int → (Option α) → (Bool → Option α) → Option α
def J5_0_2g  (α : Type) (x47 : Int) (k1 : Option α) (k2 : Bool → Option α) : Option α :=
 cK (decide (x47 < 0))
 (k1)
 (k2 (decide (x47 < 0)))
noncomputable def J5_0_2 (α : Type) (x47 : Int) (k1 : Option α) (k2 : Bool → Option α) : Option α := J5_0_2g  α x47 k1 k2
def F5_0_2 (v : TJ5_0_2) (α : Type) (K : Exit → St → Option α) : Int → Int → Bool → Rows → Rows → Bool → Int → Int → Int → Option α := fun x47 x48 x49 x50 x51 x52 x53 x54 x55 => v α x47 (u5_0_3 (K .normal) x53 x48 x50 x51 x52 x53 x54 x55) (fun (y1 : Bool) => u5_0_5 (K .normal) x47 x48 y1 x50 x51 x52 x53 x54 x55) 
theorem m5_0_2g (vf14_0 : Tf14_0) (vf23_0 : Tf23_0) (vf19_0 : Tf19_0) (vf21_0 : Tf21_0) (vf22_0 : Tf22_0)  (α : Type) (K : Exit → St → Option α) : F5_0_2 (J5_0_2g ) α K = p5_0_4.unc fun σ => runM Try.prog (E5_0g vf14_0 vf23_0 vf19_0 vf21_0 vf22_0) sh5 (c5_0_73g ) K σ := by kernel_rfl
theorem m5_0_2 : ∀ (α : Type) (K : Exit → St → Option α), F5_0_2 J5_0_2 α K = p5_0_4.unc fun σ => runM Try.prog E5_0 sh5 c5_0_73 K σ := m5_0_2g f14_0 f23_0 f19_0 f21_0 f22_0

noncomputable def c5_0_68g  : MCode := (.region r5_69 [] (some ⟨[7, 9, 11, 12, 13, 124], true, [], []⟩))
noncomputable def c5_0_68 : MCode := c5_0_68g 
theorem g5_0_68 : c5_0_68.Good Try.prog E5_0 sh5 := trivial
--CODE 68 0
abbrev TJ5_0_1 : Type 1 := (α : Type) → Int → Rows → Int → Int → Int → (Bool → Option α) → Option α
def J5_0_1g (vf19_0 : Tf19_0) (α : Type) (x34 : Int) (x36 : Rows) (x39 : Int) (x40 : Int) (x41 : Int) (k1 : Bool → Option α) : Option α :=
 vf19_0 α x39 0 x40
 (fun (x43 : Bool) => cK (!x43)
 (k1 true)
 (vf19_0 α x40 0 (w64 (x41 - 1))
 (fun (x44 : Bool) => cK (!x44)
 (k1 true)
 (cK (decide (((List.length x36 : Nat) : Int) ≤ x41))
 (k1 true)
 (cK (decide (0 ≤ x34))
 (k1 (decide (x39 < x34)))
 (k1 false))))))
noncomputable def J5_0_1 (α : Type) (x34 : Int) (x36 : Rows) (x39 : Int) (x40 : Int) (x41 : Int) (k1 : Bool → Option α) : Option α := J5_0_1g f19_0 α x34 x36 x39 x40 x41 k1
def F5_0_1 (v : TJ5_0_1) (α : Type) (K : Exit → St → Option α) : Int → Int → Rows → Rows → Bool → Int → Int → Int → Option α := fun x34 x35 x36 x37 x38 x39 x40 x41 => v α x34 x36 x39 x40 x41 (fun (y1 : Bool) => u5_0_4 (K .normal) x34 x35 y1 x36 x37 x38 x39 x40 x41) 
theorem m5_0_1g (vf14_0 : Tf14_0) (vf23_0 : Tf23_0) (vf19_0 : Tf19_0) (vf21_0 : Tf21_0) (vf22_0 : Tf22_0)  (α : Type) (K : Exit → St → Option α) : F5_0_1 (J5_0_1g vf19_0) α K = p5_0_3.unc fun σ => runM Try.prog (E5_0g vf14_0 vf23_0 vf19_0 vf21_0 vf22_0) sh5 (c5_0_68g ) K σ := by kernel_rfl
theorem m5_0_1 : ∀ (α : Type) (K : Exit → St → Option α), F5_0_1 J5_0_1 α K = p5_0_3.unc fun σ => runM Try.prog E5_0 sh5 c5_0_68 K σ := m5_0_1g f14_0 f23_0 f19_0 f21_0 f22_0

noncomputable def c5_0_58g (vJ5_0_1 : TJ5_0_1) (vJ5_0_2 : TJ5_0_2) (vL5_0_4 : TL5_0_4) (vJ5_0_5 : TJ5_0_5) : MCode := (.seq (.seq (.region r5_61 [] (some ⟨[7, 9, 11, 12, 86], true, [], []⟩)) (.cond (.tmp 86) .skip (.exit 2))) (.seq (.block 3 (.seq (.region r5_66 [] (some ⟨[7, 9, 11, 12, 13], true, [], []⟩)) (.seq (.seq (.mark [⟨p5_0_3, F5_0_1 vJ5_0_1⟩] c5_0_68) (.cond (.tmp 124) (.seq (.region r5_72 [] (some ⟨[4], true, [], []⟩)) .ret) .skip)) (.seq (.mark [⟨p5_0_4, F5_0_2 vJ5_0_2⟩] c5_0_73) (.seq (.region r5_79 [] (some ⟨[7, 9, 11, 12, 13, 14], true, [], []⟩)) (.seq (.seq (.region r5_82 [] (some ⟨[7, 9, 12, 13, 14, 15], true, [], []⟩)) (.block 4 (.loop td5_84 [⟨p5_0_8, F5_0_4 vL5_0_4⟩] c5_0_84))) (.seq (.seq (.mark [⟨p5_0_6, F5_0_5 vJ5_0_5⟩] c5_0_97) (.cond (.tmp 206) (.seq (.region r5_101 [] (some ⟨[4], true, [], []⟩)) .ret) .skip)) (.region r5_102 [] (some ⟨[7, 9, 11, 12], true, [], []⟩))))))))) (.region r5_103 [] (some ⟨[7, 9, 11, 12], true, [], []⟩))))
noncomputable def c5_0_58 : MCode := c5_0_58g J5_0_1 J5_0_2 L5_0_4 J5_0_5
theorem g5_0_58 : c5_0_58.Good Try.prog E5_0 sh5 := ⟨⟨trivial, ⟨trivial, trivial⟩⟩, ⟨⟨trivial, ⟨⟨⟨g5_0_68, m5_0_1, trivial⟩, ⟨⟨trivial, trivial⟩, trivial⟩⟩, ⟨⟨g5_0_73, m5_0_2, trivial⟩, ⟨trivial, ⟨⟨trivial, ⟨g5_0_84, m5_0_4, trivial⟩⟩, ⟨⟨⟨g5_0_97, m5_0_5, trivial⟩, ⟨⟨trivial, trivial⟩, trivial⟩⟩, trivial⟩⟩⟩⟩⟩⟩, trivial⟩⟩
--CODE 58 0
def S5_0_6g (vJ5_0_1 : TJ5_0_1) (vJ5_0_2 : TJ5_0_2) (vJ5_0_5 : TJ5_0_5) (vL5_0_4 : TL5_0_4) (α : Type) (x27 : Rows) (x28 : Rows) (x25 : Int) (x26 : Int) (kn : Int → Int → Option α) (k1 : Option α) (k2 : Int → Int → Bool → Option α) : Option α :=
 cK (decide (x26 < ((List.length x28 : Nat) : Int)))
 (ixK x28 x26 4
 (ldK x28 (Int.toNat x26) 0 [.bool, .int .i64, .int .i64, .int .i64]
 (fun (x30 : Bool) (x31 : Int) (x32 : Int) (x33 : Int) => vJ5_0_1 α x25 x27 x31 x32 x33
 (fun (x45 : Bool) => cK x45
 (k1)
 (vJ5_0_2 α x25
 (vL5_0_4 α x27 x30 x33
 (fun (x88 : Int) (x89 : Int) (x90 : Bool) => vJ5_0_5 α x88 x27 x30 x31 x32 x33
 (fun (x110 : Bool) => cK x110
 (k1)
 (kn x33 (w64 (x26 + 1))))) x31 x31)
 (fun (x57 : Bool) => vL5_0_4 α x27 x30 x33
 (fun (x112 : Int) (x113 : Int) (x114 : Bool) => vJ5_0_5 α x112 x27 x30 x31 x32 x33
 (fun (x116 : Bool) => cK x116
 (k1)
 (kn x33 (w64 (x26 + 1))))) x25 x25))))))
 (k2 x25 x26 (decide (x26 < ((List.length x28 : Nat) : Int))))
noncomputable def S5_0_6 (α : Type) (x27 : Rows) (x28 : Rows) (x25 : Int) (x26 : Int) (kn : Int → Int → Option α) (k1 : Option α) (k2 : Int → Int → Bool → Option α) : Option α := S5_0_6g J5_0_1 J5_0_2 J5_0_5 L5_0_4 α x27 x28 x25 x26 kn k1 k2
noncomputable def R5_0_6 (α : Type) (x27 : Rows) (x28 : Rows) (k1 : Option α) (k2 : Int → Int → Bool → Option α) : Nat → Int → Int → Option α
 | 0, _, _ => none
 | n + 1, x25, x26 => S5_0_6 α x27 x28 x25 x26 (R5_0_6 α x27 x28 k1 k2 n) k1 k2
noncomputable def L5_0_6 (α : Type) (x27 : Rows) (x28 : Rows) (k1 : Option α) (k2 : Int → Int → Bool → Option α) (x25 : Int) (x26 : Int) : Option α := R5_0_6 α x27 x28 k1 k2 fuel x25 x26
abbrev TL5_0_6 : Type 1 := (α : Type) → Rows → Rows → (Option α) → (Int → Int → Bool → Option α) → Int → Int → Option α
def F5_0_6 (v : TL5_0_6) (α : Type) (K : Exit → St → Option α) : Int → Int → Rows → Rows → Option α := fun x25 x26 x27 x28 => v α x27 x28 (u5_0_1 (K .ret) false) (fun (y1 : Int) (y2 : Int) (y3 : Bool) => u5_0_11 (K (.exit 2)) y1 y2 y3 x27 x28) x25 x26
theorem r5_0_6g (vf14_0 : Tf14_0) (vf23_0 : Tf23_0) (vf19_0 : Tf19_0) (vf21_0 : Tf21_0) (vf22_0 : Tf22_0) (vJ5_0_1 : TJ5_0_1) (vJ5_0_2 : TJ5_0_2) (vL5_0_4 : TL5_0_4) (vJ5_0_5 : TJ5_0_5) (α : Type) (K : Exit → St → Option α) (Kn : St → Option α) (x25 : Int) (x26 : Int) (x27 : Rows) (x28 : Rows) : u5_0_10 (fun σ => runM Try.prog (E5_0g vf14_0 vf23_0 vf19_0 vf21_0 vf22_0) sh5 (c5_0_58g vJ5_0_1 vJ5_0_2 vL5_0_4 vJ5_0_5) (thenK (fun σ => tidyK td5_58 σ Kn) K) σ) x25 x26 x27 x28 = S5_0_6g vJ5_0_1 vJ5_0_2 vJ5_0_5 vL5_0_4 α x27 x28 x25 x26 (fun x25 x26 => u5_0_10 Kn x25 x26 x27 x28) (u5_0_1 (K .ret) false) (fun (y1 : Int) (y2 : Int) (y3 : Bool) => u5_0_11 (K (.exit 2)) y1 y2 y3 x27 x28) := by kernel_rfl
theorem r5_0_6 (α : Type) (K : Exit → St → Option α) (Kn : St → Option α) (x25 : Int) (x26 : Int) (x27 : Rows) (x28 : Rows) : u5_0_10 (fun σ => runM Try.prog E5_0 sh5 c5_0_58 (thenK (fun σ => tidyK td5_58 σ Kn) K) σ) x25 x26 x27 x28 = S5_0_6 α x27 x28 x25 x26 (fun x25 x26 => u5_0_10 Kn x25 x26 x27 x28) (u5_0_1 (K .ret) false) (fun (y1 : Int) (y2 : Int) (y3 : Bool) => u5_0_11 (K (.exit 2)) y1 y2 y3 x27 x28) := r5_0_6g f14_0 f23_0 f19_0 f21_0 f22_0 J5_0_1 J5_0_2 L5_0_4 J5_0_5 α K Kn x25 x26 x27 x28
theorem t5_0_6 (α : Type) (K : Exit → St → Option α) : ∀ (n : Nat) (x25 : Int) (x26 : Int) (x27 : Rows) (x28 : Rows), R5_0_6 α x27 x28 (u5_0_1 (K .ret) false) (fun (y1 : Int) (y2 : Int) (y3 : Bool) => u5_0_11 (K (.exit 2)) y1 y2 y3 x27 x28) n x25 x26 = u5_0_10 (loopT (runM Try.prog E5_0 sh5 c5_0_58) td5_58 K n) x25 x26 x27 x28 := by
 intro n
 induction n with
 | zero => intros; rfl
 | succ n ih => intro x25 x26 x27 x28; exact (congrArg (fun kn => S5_0_6 α x27 x28 x25 x26 kn (u5_0_1 (K .ret) false) (fun (y1 : Int) (y2 : Int) (y3 : Bool) => u5_0_11 (K (.exit 2)) y1 y2 y3 x27 x28)) (funext fun x25 => funext fun x26 => ih x25 x26 x27 x28)).trans (r5_0_6 α K (loopT (runM Try.prog E5_0 sh5 c5_0_58) td5_58 K n) x25 x26 x27 x28).symm
theorem m5_0_6 : ∀ (α : Type) (K : Exit → St → Option α), F5_0_6 L5_0_6 α K = p5_0_10.unc fun σ => loopT (runM Try.prog E5_0 sh5 c5_0_58) td5_58 K fuel σ := fun α K => funext fun x25 => funext fun x26 => funext fun x27 => funext fun x28 => t5_0_6 α K fuel x25 x26 x27 x28

noncomputable def c5_0_29g  : MCode := (.seq (.seq (.region r5_32 [] (some ⟨[1, 2, 7, 8, 40], true, [], []⟩)) (.cond (.tmp 40) .skip (.exit 0))) (.seq (.block 1 (.seq (.seq (.region r5_38 [] (some ⟨[1, 2, 7, 8, 53], true, [], []⟩)) (.cond (.tmp 53) (.seq (.region r5_41 [] (some ⟨[4], true, [], []⟩)) .ret) .skip)) (.region r5_42 [] (some ⟨[1, 2, 7, 8], true, [], []⟩)))) (.region r5_43 [] (some ⟨[1, 2, 7, 8], true, [], []⟩))))
noncomputable def c5_0_29 : MCode := c5_0_29g 
theorem g5_0_29 : c5_0_29.Good Try.prog E5_0 sh5 := ⟨⟨trivial, ⟨trivial, trivial⟩⟩, ⟨⟨⟨trivial, ⟨⟨trivial, trivial⟩, trivial⟩⟩, trivial⟩, trivial⟩⟩
--CODE 29 0
def S5_0_0g (vf19_0 : Tf19_0) (α : Type) (x6 : Rows) (x8 : Int) (x9 : Rows) (x7 : Int) (x10 : Rows) (kn : Int → Rows → Option α) (k1 : Option α) (k2 : Int → Bool → Rows → Option α) : Option α :=
 cK (decide (x7 < ((List.length x6 : Nat) : Int)))
 (rowK x6 x7 [.int .i64]
 (fun (x12 : Int) => vf19_0 α x12 (w64 (0 - x8)) x8
 (fun (x13 : Bool) => cK (!x13)
 (k1)
 (rowK x9 x7 [.flt .f32]
 (fun (x14 : Nat) => ivK (f2i .f32 x14 .i64)
 (fun (x15 : Int) => rowK x6 x7 [.int .i64]
 (fun (x16 : Int) => gK (apOk 1 8 x10 [[DC.v (.int .i64 (w64 (x15 + x16)))]]) (kn (w64 (x7 + 1)) (x10 ++ [[DC.v (.int .i64 (w64 (x15 + x16)))]])))))))))
 (k2 x7 (decide (x7 < ((List.length x6 : Nat) : Int))) x10)
noncomputable def S5_0_0 (α : Type) (x6 : Rows) (x8 : Int) (x9 : Rows) (x7 : Int) (x10 : Rows) (kn : Int → Rows → Option α) (k1 : Option α) (k2 : Int → Bool → Rows → Option α) : Option α := S5_0_0g f19_0 α x6 x8 x9 x7 x10 kn k1 k2
noncomputable def R5_0_0 (α : Type) (x6 : Rows) (x8 : Int) (x9 : Rows) (k1 : Option α) (k2 : Int → Bool → Rows → Option α) : Nat → Int → Rows → Option α
 | 0, _, _ => none
 | n + 1, x7, x10 => S5_0_0 α x6 x8 x9 x7 x10 (R5_0_0 α x6 x8 x9 k1 k2 n) k1 k2
noncomputable def L5_0_0 (α : Type) (x6 : Rows) (x8 : Int) (x9 : Rows) (k1 : Option α) (k2 : Int → Bool → Rows → Option α) (x7 : Int) (x10 : Rows) : Option α := R5_0_0 α x6 x8 x9 k1 k2 fuel x7 x10
abbrev TL5_0_0 : Type 1 := (α : Type) → Rows → Int → Rows → (Option α) → (Int → Bool → Rows → Option α) → Int → Rows → Option α
def F5_0_0 (v : TL5_0_0) (α : Type) (K : Exit → St → Option α) : Rows → Int → Int → Rows → Rows → Option α := fun x6 x7 x8 x9 x10 => v α x6 x8 x9 (u5_0_1 (K .ret) true) (fun (y1 : Int) (y2 : Bool) (y3 : Rows) => u5_0_2 (K (.exit 0)) x6 y1 y2 x8 x9 y3) x7 x10
theorem r5_0_0g (vf14_0 : Tf14_0) (vf23_0 : Tf23_0) (vf19_0 : Tf19_0) (vf21_0 : Tf21_0) (vf22_0 : Tf22_0)  (α : Type) (K : Exit → St → Option α) (Kn : St → Option α) (x6 : Rows) (x7 : Int) (x8 : Int) (x9 : Rows) (x10 : Rows) : u5_0_0 (fun σ => runM Try.prog (E5_0g vf14_0 vf23_0 vf19_0 vf21_0 vf22_0) sh5 (c5_0_29g ) (thenK (fun σ => tidyK td5_29 σ Kn) K) σ) x6 x7 x8 x9 x10 = S5_0_0g vf19_0 α x6 x8 x9 x7 x10 (fun x7 x10 => u5_0_0 Kn x6 x7 x8 x9 x10) (u5_0_1 (K .ret) true) (fun (y1 : Int) (y2 : Bool) (y3 : Rows) => u5_0_2 (K (.exit 0)) x6 y1 y2 x8 x9 y3) := by kernel_rfl
theorem r5_0_0 (α : Type) (K : Exit → St → Option α) (Kn : St → Option α) (x6 : Rows) (x7 : Int) (x8 : Int) (x9 : Rows) (x10 : Rows) : u5_0_0 (fun σ => runM Try.prog E5_0 sh5 c5_0_29 (thenK (fun σ => tidyK td5_29 σ Kn) K) σ) x6 x7 x8 x9 x10 = S5_0_0 α x6 x8 x9 x7 x10 (fun x7 x10 => u5_0_0 Kn x6 x7 x8 x9 x10) (u5_0_1 (K .ret) true) (fun (y1 : Int) (y2 : Bool) (y3 : Rows) => u5_0_2 (K (.exit 0)) x6 y1 y2 x8 x9 y3) := r5_0_0g f14_0 f23_0 f19_0 f21_0 f22_0 α K Kn x6 x7 x8 x9 x10
theorem t5_0_0 (α : Type) (K : Exit → St → Option α) : ∀ (n : Nat) (x6 : Rows) (x7 : Int) (x8 : Int) (x9 : Rows) (x10 : Rows), R5_0_0 α x6 x8 x9 (u5_0_1 (K .ret) true) (fun (y1 : Int) (y2 : Bool) (y3 : Rows) => u5_0_2 (K (.exit 0)) x6 y1 y2 x8 x9 y3) n x7 x10 = u5_0_0 (loopT (runM Try.prog E5_0 sh5 c5_0_29) td5_29 K n) x6 x7 x8 x9 x10 := by
 intro n
 induction n with
 | zero => intros; rfl
 | succ n ih => intro x6 x7 x8 x9 x10; exact (congrArg (fun kn => S5_0_0 α x6 x8 x9 x7 x10 kn (u5_0_1 (K .ret) true) (fun (y1 : Int) (y2 : Bool) (y3 : Rows) => u5_0_2 (K (.exit 0)) x6 y1 y2 x8 x9 y3)) (funext fun x7 => funext fun x10 => ih x6 x7 x8 x9 x10)).trans (r5_0_0 α K (loopT (runM Try.prog E5_0 sh5 c5_0_29) td5_29 K n) x6 x7 x8 x9 x10).symm
theorem m5_0_0 : ∀ (α : Type) (K : Exit → St → Option α), F5_0_0 L5_0_0 α K = p5_0_0.unc fun σ => loopT (runM Try.prog E5_0 sh5 c5_0_29) td5_29 K fuel σ := fun α K => funext fun x6 => funext fun x7 => funext fun x8 => funext fun x9 => funext fun x10 => t5_0_0 α K fuel x6 x7 x8 x9 x10

/-- etalon/etalonlaw08.GrowSurely -/
abbrev Tf5_0 : Type 1 := (α : Type) → Int → Rows → Rows → (Bool → Option α) → Option α
def f5_0g (vL5_0_0 : TL5_0_0) (vL5_0_6 : TL5_0_6) (vf14_0 : Tf14_0) (vf21_0 : Tf21_0) (vf22_0 : Tf22_0) (vf23_0 : Tf23_0) (α : Type) (x1 : Int) (x2 : Rows) (x3 : Rows) (k1 : Bool → Option α) : Option α :=
 vf14_0 α 
 (cK (decide (60 < ((List.length x2 : Nat) : Int)))
 (k1 true)
 (cK (((List.length x3 : Nat) : Int) != ((List.length x2 : Nat) : Int))
 (k1 true)
 (vf23_0 α x1 x2
 (fun (x4 : Int) (x5 : Int) => cK (x5 != 0)
 (k1 true)
 (vL5_0_0 α x3 x1 x2
 (k1 true)
 (fun (x17 : Int) (x18 : Bool) (x19 : Rows) => vf21_0 α x1 x2
 (fun (x21 : Int) (x22 : Rows) => vf22_0 α x21 x22
 (fun (x23 : Rows) (x24 : Int) => flatK [x23]
 (cK (x24 != 0)
 (k1 false)
 (cK (decide (((List.length x19 : Nat) : Int) < ((List.length x23 : Nat) : Int)))
 (k1 false)
 (vL5_0_6 α x19 x23
 (k1 false)
 (fun (x118 : Int) (x119 : Int) (x120 : Bool) => k1 true) (-1) 0)))))) 0 ([] : Rows))))))
noncomputable def f5_0 (α : Type) (x1 : Int) (x2 : Rows) (x3 : Rows) (k1 : Bool → Option α) : Option α := f5_0g L5_0_0 L5_0_6 f14_0 f21_0 f22_0 f23_0 α x1 x2 x3 k1
def pa5_0 : PT (List DV) := pA [pV true [(dI .i64), dL], pV false [dL]]
def Fn5_0 (v : Tf5_0) (α : Type) (k : List RV → Option α) : Int → Rows → Rows → Option α := fun x1 x2 x3 => v α x1 x2 x3 (fun (y1 : Bool) => ur5_0_0 k y1)
noncomputable def cm5_0g (vL5_0_0 : TL5_0_0) (vL5_0_6 : TL5_0_6) : MCode := (.seq (.region r5_2 [] (some ⟨[1, 2], true, [], []⟩)) (.seq (.seq (.region r5_5 [] (some ⟨[1, 2, 17], true, [], []⟩)) (.cond (.tmp 17) (.seq (.region r5_8 [] (some ⟨[4], true, [], []⟩)) .ret) .skip)) (.seq (.seq (.region r5_11 [] (some ⟨[1, 2, 29], true, [], []⟩)) (.cond (.tmp 29) (.seq (.region r5_14 [] (some ⟨[4], true, [], []⟩)) .ret) .skip)) (.seq (.seq (.region r5_17 [] (some ⟨[1, 2, 6], true, [], []⟩)) (.seq (.region r5_19 [] (some ⟨[1, 2, 36], true, [], []⟩)) (.cond (.tmp 36) (.seq (.region r5_22 [] (some ⟨[4], true, [], []⟩)) .ret) .skip))) (.seq (.region r5_24 [] (some ⟨[1, 2, 7], true, [], []⟩)) (.seq (.seq (.region r5_27 [] (some ⟨[1, 2, 7, 8], true, [], []⟩)) (.block 0 (.loop td5_29 [⟨p5_0_0, F5_0_0 vL5_0_0⟩] c5_0_29))) (.seq (.region r5_45 [] (some ⟨[7, 9, 10], true, [], []⟩)) (.seq (.seq (.region r5_48 [] (some ⟨[7, 9, 82], true, [], []⟩)) (.cond (.tmp 82) (.seq (.region r5_51 [] (some ⟨[4], true, [], []⟩)) .ret) .skip)) (.seq (.region r5_53 [] (some ⟨[7, 9, 11], true, [], []⟩)) (.seq (.seq (.region r5_56 [] (some ⟨[7, 9, 11, 12], true, [], []⟩)) (.block 2 (.loop td5_58 [⟨p5_0_10, F5_0_6 vL5_0_6⟩] c5_0_58))) (.seq (.region r5_105 [] (some ⟨[4], true, [], []⟩)) .ret)))))))))))
noncomputable def cm5_0 : MCode := cm5_0g L5_0_0 L5_0_6
theorem gm5_0 : cm5_0.Good Try.prog E5_0 sh5 := ⟨trivial, ⟨⟨trivial, ⟨⟨trivial, trivial⟩, trivial⟩⟩, ⟨⟨trivial, ⟨⟨trivial, trivial⟩, trivial⟩⟩, ⟨⟨trivial, ⟨trivial, ⟨⟨trivial, trivial⟩, trivial⟩⟩⟩, ⟨trivial, ⟨⟨trivial, ⟨g5_0_29, m5_0_0, trivial⟩⟩, ⟨trivial, ⟨⟨trivial, ⟨⟨trivial, trivial⟩, trivial⟩⟩, ⟨trivial, ⟨⟨trivial, ⟨g5_0_58, m5_0_6, trivial⟩⟩, ⟨trivial, trivial⟩⟩⟩⟩⟩⟩⟩⟩⟩⟩⟩
theorem fm5_0g (vf14_0 : Tf14_0) (vf23_0 : Tf23_0) (vf19_0 : Tf19_0) (vf21_0 : Tf21_0) (vf22_0 : Tf22_0) (vL5_0_0 : TL5_0_0) (vL5_0_6 : TL5_0_6) (α : Type) (k : List RV → Option α) : Fn5_0 (f5_0g vL5_0_0 vL5_0_6 vf14_0 vf21_0 vf22_0 vf23_0) α k = pa5_0.unc fun ds => fnM Try.prog (E5_0g vf14_0 vf23_0 vf19_0 vf21_0 vf22_0) sh5 (cm5_0g vL5_0_0 vL5_0_6) rs5 k ds := by kernel_rfl
theorem fm5_0 : ∀ (α : Type) (k : List RV → Option α), Fn5_0 f5_0 α k = pa5_0.unc fun ds => fnM Try.prog E5_0 sh5 cm5_0 rs5 k ds := fm5_0g f14_0 f23_0 f19_0 f21_0 f22_0 L5_0_0 L5_0_6

theorem is5 : FnIs Try.prog 5 nt5 tr5 tl5 cm5_0.erase rs5 := ⟨Try.f5, Try.func5, rfl, by kernel_rfl, by kernel_rfl, by kernel_rfl⟩
theorem io5_0 : InstOk Try.prog 5 nt5 ⟨pa5_0, Fn5_0 f5_0⟩ := inst_ok eo5_0 followsTry is5 ⟨⟨sh5, cm5_0, by kernel_rfl, gm5_0, fm5_0⟩⟩


end Go.AM.K
