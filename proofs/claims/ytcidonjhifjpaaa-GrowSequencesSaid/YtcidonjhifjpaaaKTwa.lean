/- Printed by KGen. -/
import Derived.Test.YtcidonjhifjpaaaAcC
import Derived.Test.YtcidonjhifjpaaaKMa
namespace Go.AM.K
open Go.Proofs
set_option maxRecDepth 100000
set_option linter.unusedVariables false

theorem followsTry : Try.prog.follows .mixedOrders = true := by kernel_rfl

/-! ### F54 etalon/etalonref08.Same -/
abbrev nt54 : Nat := 26
def sh54 : List (Nat × List Sh) := [(19, [.bool]), (20, [.bool]), (23, [.bool]), (24, [.bool])]
def r54_2 : List AOper := [oO 4 (.mv (.const (.bool false)))]
def r54_5 : List AOper := [oM 6 0, oO 7 (.len (.tmp 6)), oM 8 1, oO 9 (.len (.tmp 8)), oO 10 (.bin .neq 3 (.tmp 7) (.tmp 9))]
def r54_8 : List AOper := [oO 4 (.mv (.const (.bool false)))]
def r54_11 : List AOper := [oO 5 (.mv (.const (.int .i64 0)))]
def td54_13 : Option Tidy := (some ⟨[0, 1, 5], true, [], []⟩)
def r54_16 : List AOper := [oM 11 5, oM 12 0, oO 13 (.len (.tmp 12)), oO 14 (.bin .lss 3 (.tmp 11) (.tmp 13))]
def r54_21 : List AOper := [oM 17 0, oM 18 5, oO 19 (.iaddr 1 none (.tmp 17) (.tmp 18)), oO 20 (.load false 1 (.tmp 19)), oM 21 1, oM 22 5, oO 23 (.iaddr 1 none (.tmp 21) (.tmp 22)), oO 24 (.load false 1 (.tmp 23)), oO 25 (.bin .neq 4 (.tmp 20) (.tmp 24))]
def r54_24 : List AOper := [oO 4 (.mv (.const (.bool false)))]
def r54_25 : List AOper := [oM 15 5, oO 16 (.bin .add 3 (.tmp 15) (.const (.int .i64 1))), oM 5 16]
def r54_27 : List AOper := [oO 4 (.mv (.const (.bool true)))]
def tr54 : List (Nat × Tidy) := [(0, ⟨[0, 1], true, [], []⟩), (1, ⟨[0, 1, 10], true, [], []⟩), (2, ⟨[4], true, [], []⟩), (3, ⟨[0, 1, 5], true, [], []⟩), (4, ⟨[0, 1, 5, 14], true, [], []⟩), (6, ⟨[0, 1, 5, 25], true, [], []⟩), (7, ⟨[4], true, [], []⟩), (5, ⟨[0, 1, 5], true, [], []⟩), (8, ⟨[4], true, [], []⟩)]
def tl54 : List (Nat × Tidy) := [(4, ⟨[0, 1, 5], true, [], []⟩)]
def rs54 : List AResV := [.tmp 4]
def p54_0_0 : PT St := pS [sl 0 (aV false [(cD dL)]), sl 1 (aV false [(cD dL)]), sl 5 (aV false [(cD (dI .i64))])] []
def u54_0_0 {β : Type} (g : St → β) : Rows → Rows → Int → β := p54_0_0.unc g

def p54_0_1 : PT St := pS [sl 4 (aV false [(cD dB)])] []
def u54_0_1 {β : Type} (g : St → β) : Bool → β := p54_0_1.unc g

def p54_0_2 : PT St := pS [sl 0 (aV false [(cD dL)]), sl 1 (aV false [(cD dL)]), sl 5 (aV false [(cD (dI .i64))]), sl 14 (aV false [(cD dB)])] []
def u54_0_2 {β : Type} (g : St → β) : Rows → Rows → Int → Bool → β := p54_0_2.unc g

def pr54_0_0 : PT (List RV) := pRs [pR false [rD dB]]
def ur54_0_0 {β : Type} (g : List RV → β) : Bool → β := pr54_0_0.unc g

def E54_0g  : EnvK := EnvK.of [] noSeq
noncomputable def E54_0 : EnvK := E54_0g 
theorem eo54_0 : E54_0.Ok Try.prog := EnvK.of_ok noSeq_ok trivial

noncomputable def c54_0_13g  : MCode := (.seq (.seq (.region r54_16 [] (some ⟨[0, 1, 5, 14], true, [], []⟩)) (.cond (.tmp 14) .skip (.exit 0))) (.seq (.block 1 (.seq (.region r54_21 [] (some ⟨[0, 1, 5, 25], true, [], []⟩)) (.cond (.tmp 25) (.seq (.region r54_24 [] (some ⟨[4], true, [], []⟩)) .ret) .skip))) (.region r54_25 [] (some ⟨[0, 1, 5], true, [], []⟩))))
noncomputable def c54_0_13 : MCode := c54_0_13g 
theorem g54_0_13 : c54_0_13.Good Try.prog E54_0 sh54 := ⟨⟨trivial, ⟨trivial, trivial⟩⟩, ⟨⟨trivial, ⟨⟨trivial, trivial⟩, trivial⟩⟩, trivial⟩⟩
--CODE 13 0
def S54_0_0g  (α : Type) (x3 : Rows) (x4 : Rows) (x5 : Int) (kn : Int → Option α) (k1 : Option α) (k2 : Int → Bool → Option α) : Option α :=
 cK (decide (x5 < ((List.length x3 : Nat) : Int)))
 (rowK x3 x5 [.bool]
 (fun (x7 : Bool) => rowK x4 x5 [.bool]
 (fun (x8 : Bool) => cK (!(x7 == x8))
 (k1)
 (kn (w64 (x5 + 1))))))
 (k2 x5 (decide (x5 < ((List.length x3 : Nat) : Int))))
noncomputable def S54_0_0 (α : Type) (x3 : Rows) (x4 : Rows) (x5 : Int) (kn : Int → Option α) (k1 : Option α) (k2 : Int → Bool → Option α) : Option α := S54_0_0g  α x3 x4 x5 kn k1 k2
noncomputable def R54_0_0 (α : Type) (x3 : Rows) (x4 : Rows) (k1 : Option α) (k2 : Int → Bool → Option α) : Nat → Int → Option α
 | 0, _ => none
 | n + 1, x5 => S54_0_0 α x3 x4 x5 (R54_0_0 α x3 x4 k1 k2 n) k1 k2
noncomputable def L54_0_0 (α : Type) (x3 : Rows) (x4 : Rows) (k1 : Option α) (k2 : Int → Bool → Option α) (x5 : Int) : Option α := R54_0_0 α x3 x4 k1 k2 fuel x5
abbrev TL54_0_0 : Type 1 := (α : Type) → Rows → Rows → (Option α) → (Int → Bool → Option α) → Int → Option α
def F54_0_0 (v : TL54_0_0) (α : Type) (K : Exit → St → Option α) : Rows → Rows → Int → Option α := fun x3 x4 x5 => v α x3 x4 (u54_0_1 (K .ret) false) (fun (y1 : Int) (y2 : Bool) => u54_0_2 (K (.exit 0)) x3 x4 y1 y2) x5
theorem r54_0_0g   (α : Type) (K : Exit → St → Option α) (Kn : St → Option α) (x3 : Rows) (x4 : Rows) (x5 : Int) : u54_0_0 (fun σ => runM Try.prog (E54_0g ) sh54 (c54_0_13g ) (thenK (fun σ => tidyK td54_13 σ Kn) K) σ) x3 x4 x5 = S54_0_0g  α x3 x4 x5 (fun x5 => u54_0_0 Kn x3 x4 x5) (u54_0_1 (K .ret) false) (fun (y1 : Int) (y2 : Bool) => u54_0_2 (K (.exit 0)) x3 x4 y1 y2) := by kernel_rfl
theorem r54_0_0 (α : Type) (K : Exit → St → Option α) (Kn : St → Option α) (x3 : Rows) (x4 : Rows) (x5 : Int) : u54_0_0 (fun σ => runM Try.prog E54_0 sh54 c54_0_13 (thenK (fun σ => tidyK td54_13 σ Kn) K) σ) x3 x4 x5 = S54_0_0 α x3 x4 x5 (fun x5 => u54_0_0 Kn x3 x4 x5) (u54_0_1 (K .ret) false) (fun (y1 : Int) (y2 : Bool) => u54_0_2 (K (.exit 0)) x3 x4 y1 y2) := r54_0_0g  α K Kn x3 x4 x5
theorem t54_0_0 (α : Type) (K : Exit → St → Option α) : ∀ (n : Nat) (x3 : Rows) (x4 : Rows) (x5 : Int), R54_0_0 α x3 x4 (u54_0_1 (K .ret) false) (fun (y1 : Int) (y2 : Bool) => u54_0_2 (K (.exit 0)) x3 x4 y1 y2) n x5 = u54_0_0 (loopT (runM Try.prog E54_0 sh54 c54_0_13) td54_13 K n) x3 x4 x5 := by
 intro n
 induction n with
 | zero => intros; rfl
 | succ n ih => intro x3 x4 x5; exact (congrArg (fun kn => S54_0_0 α x3 x4 x5 kn (u54_0_1 (K .ret) false) (fun (y1 : Int) (y2 : Bool) => u54_0_2 (K (.exit 0)) x3 x4 y1 y2)) (funext fun x5 => ih x3 x4 x5)).trans (r54_0_0 α K (loopT (runM Try.prog E54_0 sh54 c54_0_13) td54_13 K n) x3 x4 x5).symm
theorem m54_0_0 : ∀ (α : Type) (K : Exit → St → Option α), F54_0_0 L54_0_0 α K = p54_0_0.unc fun σ => loopT (runM Try.prog E54_0 sh54 c54_0_13) td54_13 K fuel σ := fun α K => funext fun x3 => funext fun x4 => funext fun x5 => t54_0_0 α K fuel x3 x4 x5

/-- etalon/etalonref08.Same -/
abbrev Tf54_0 : Type 1 := (α : Type) → Rows → Rows → (Bool → Option α) → Option α
def f54_0g (vL54_0_0 : TL54_0_0) (α : Type) (x1 : Rows) (x2 : Rows) (k1 : Bool → Option α) : Option α :=
 cK (((List.length x1 : Nat) : Int) != ((List.length x2 : Nat) : Int))
 (k1 false)
 (vL54_0_0 α x1 x2
 (k1 false)
 (fun (x9 : Int) (x10 : Bool) => k1 true) 0)
noncomputable def f54_0 (α : Type) (x1 : Rows) (x2 : Rows) (k1 : Bool → Option α) : Option α := f54_0g L54_0_0 α x1 x2 k1
def pa54_0 : PT (List DV) := pA [pV false [dL], pV false [dL]]
def Fn54_0 (v : Tf54_0) (α : Type) (k : List RV → Option α) : Rows → Rows → Option α := fun x1 x2 => v α x1 x2 (fun (y1 : Bool) => ur54_0_0 k y1)
noncomputable def cm54_0g (vL54_0_0 : TL54_0_0) : MCode := (.seq (.region r54_2 [] (some ⟨[0, 1], true, [], []⟩)) (.seq (.seq (.region r54_5 [] (some ⟨[0, 1, 10], true, [], []⟩)) (.cond (.tmp 10) (.seq (.region r54_8 [] (some ⟨[4], true, [], []⟩)) .ret) .skip)) (.seq (.seq (.region r54_11 [] (some ⟨[0, 1, 5], true, [], []⟩)) (.block 0 (.loop td54_13 [⟨p54_0_0, F54_0_0 vL54_0_0⟩] c54_0_13))) (.seq (.region r54_27 [] (some ⟨[4], true, [], []⟩)) .ret))))
noncomputable def cm54_0 : MCode := cm54_0g L54_0_0
theorem gm54_0 : cm54_0.Good Try.prog E54_0 sh54 := ⟨trivial, ⟨⟨trivial, ⟨⟨trivial, trivial⟩, trivial⟩⟩, ⟨⟨trivial, ⟨g54_0_13, m54_0_0, trivial⟩⟩, ⟨trivial, trivial⟩⟩⟩⟩
theorem fm54_0g  (vL54_0_0 : TL54_0_0) (α : Type) (k : List RV → Option α) : Fn54_0 (f54_0g vL54_0_0) α k = pa54_0.unc fun ds => fnM Try.prog (E54_0g ) sh54 (cm54_0g vL54_0_0) rs54 k ds := by kernel_rfl
theorem fm54_0 : ∀ (α : Type) (k : List RV → Option α), Fn54_0 f54_0 α k = pa54_0.unc fun ds => fnM Try.prog E54_0 sh54 cm54_0 rs54 k ds := fm54_0g L54_0_0

theorem is54 : FnIs Try.prog 54 nt54 tr54 tl54 cm54_0.erase rs54 := ⟨Try.f54, Try.func54, rfl, by kernel_rfl, by kernel_rfl, by kernel_rfl⟩
theorem io54_0 : InstOk Try.prog 54 nt54 ⟨pa54_0, Fn54_0 f54_0⟩ := inst_ok eo54_0 followsTry is54 ⟨⟨sh54, cm54_0, by kernel_rfl, gm54_0, fm54_0⟩⟩

/-! ### F63 etalon/etalonbase.Ints -/
abbrev nt63 : Nat := 26
def sh63 : List (Nat × List Sh) := [(19, [.int .i64]), (20, [.int .i64]), (23, [.int .i64]), (24, [.int .i64])]
def r63_2 : List AOper := [oO 4 (.mv (.const (.bool false)))]
def r63_5 : List AOper := [oM 6 0, oO 7 (.len (.tmp 6)), oM 8 1, oO 9 (.len (.tmp 8)), oO 10 (.bin .neq 3 (.tmp 7) (.tmp 9))]
def r63_8 : List AOper := [oO 4 (.mv (.const (.bool false)))]
def r63_11 : List AOper := [oO 5 (.mv (.const (.int .i64 0)))]
def td63_13 : Option Tidy := (some ⟨[0, 1, 5], true, [], []⟩)
def r63_16 : List AOper := [oM 11 5, oM 12 0, oO 13 (.len (.tmp 12)), oO 14 (.bin .lss 3 (.tmp 11) (.tmp 13))]
def r63_21 : List AOper := [oM 17 0, oM 18 5, oO 19 (.iaddr 1 none (.tmp 17) (.tmp 18)), oO 20 (.load false 1 (.tmp 19)), oM 21 1, oM 22 5, oO 23 (.iaddr 1 none (.tmp 21) (.tmp 22)), oO 24 (.load false 1 (.tmp 23)), oO 25 (.bin .neq 3 (.tmp 20) (.tmp 24))]
def r63_24 : List AOper := [oO 4 (.mv (.const (.bool false)))]
def r63_25 : List AOper := [oM 15 5, oO 16 (.bin .add 3 (.tmp 15) (.const (.int .i64 1))), oM 5 16]
def r63_27 : List AOper := [oO 4 (.mv (.const (.bool true)))]
def tr63 : List (Nat × Tidy) := [(0, ⟨[0, 1], true, [], []⟩), (1, ⟨[0, 1, 10], true, [], []⟩), (2, ⟨[4], true, [], []⟩), (3, ⟨[0, 1, 5], true, [], []⟩), (4, ⟨[0, 1, 5, 14], true, [], []⟩), (6, ⟨[0, 1, 5, 25], true, [], []⟩), (7, ⟨[4], true, [], []⟩), (5, ⟨[0, 1, 5], true, [], []⟩), (8, ⟨[4], true, [], []⟩)]
def tl63 : List (Nat × Tidy) := [(4, ⟨[0, 1, 5], true, [], []⟩)]
def rs63 : List AResV := [.tmp 4]
def p63_0_0 : PT St := pS [sl 0 (aV false [(cD dL)]), sl 1 (aV false [(cD dL)]), sl 5 (aV false [(cD (dI .i64))])] []
def u63_0_0 {β : Type} (g : St → β) : Rows → Rows → Int → β := p63_0_0.unc g

def p63_0_1 : PT St := pS [sl 4 (aV false [(cD dB)])] []
def u63_0_1 {β : Type} (g : St → β) : Bool → β := p63_0_1.unc g

def p63_0_2 : PT St := pS [sl 0 (aV false [(cD dL)]), sl 1 (aV false [(cD dL)]), sl 5 (aV false [(cD (dI .i64))]), sl 14 (aV false [(cD dB)])] []
def u63_0_2 {β : Type} (g : St → β) : Rows → Rows → Int → Bool → β := p63_0_2.unc g

def pr63_0_0 : PT (List RV) := pRs [pR false [rD dB]]
def ur63_0_0 {β : Type} (g : List RV → β) : Bool → β := pr63_0_0.unc g

def E63_0g  : EnvK := EnvK.of [] noSeq
noncomputable def E63_0 : EnvK := E63_0g 
theorem eo63_0 : E63_0.Ok Try.prog := EnvK.of_ok noSeq_ok trivial

noncomputable def c63_0_13g  : MCode := (.seq (.seq (.region r63_16 [] (some ⟨[0, 1, 5, 14], true, [], []⟩)) (.cond (.tmp 14) .skip (.exit 0))) (.seq (.block 1 (.seq (.region r63_21 [] (some ⟨[0, 1, 5, 25], true, [], []⟩)) (.cond (.tmp 25) (.seq (.region r63_24 [] (some ⟨[4], true, [], []⟩)) .ret) .skip))) (.region r63_25 [] (some ⟨[0, 1, 5], true, [], []⟩))))
noncomputable def c63_0_13 : MCode := c63_0_13g 
theorem g63_0_13 : c63_0_13.Good Try.prog E63_0 sh63 := ⟨⟨trivial, ⟨trivial, trivial⟩⟩, ⟨⟨trivial, ⟨⟨trivial, trivial⟩, trivial⟩⟩, trivial⟩⟩
--CODE 13 0
def S63_0_0g  (α : Type) (x3 : Rows) (x4 : Rows) (x5 : Int) (kn : Int → Option α) (k1 : Option α) (k2 : Int → Bool → Option α) : Option α :=
 cK (decide (x5 < ((List.length x3 : Nat) : Int)))
 (rowK x3 x5 [.int .i64]
 (fun (x7 : Int) => rowK x4 x5 [.int .i64]
 (fun (x8 : Int) => cK (x7 != x8)
 (k1)
 (kn (w64 (x5 + 1))))))
 (k2 x5 (decide (x5 < ((List.length x3 : Nat) : Int))))
noncomputable def S63_0_0 (α : Type) (x3 : Rows) (x4 : Rows) (x5 : Int) (kn : Int → Option α) (k1 : Option α) (k2 : Int → Bool → Option α) : Option α := S63_0_0g  α x3 x4 x5 kn k1 k2
noncomputable def R63_0_0 (α : Type) (x3 : Rows) (x4 : Rows) (k1 : Option α) (k2 : Int → Bool → Option α) : Nat → Int → Option α
 | 0, _ => none
 | n + 1, x5 => S63_0_0 α x3 x4 x5 (R63_0_0 α x3 x4 k1 k2 n) k1 k2
noncomputable def L63_0_0 (α : Type) (x3 : Rows) (x4 : Rows) (k1 : Option α) (k2 : Int → Bool → Option α) (x5 : Int) : Option α := R63_0_0 α x3 x4 k1 k2 fuel x5
abbrev TL63_0_0 : Type 1 := (α : Type) → Rows → Rows → (Option α) → (Int → Bool → Option α) → Int → Option α
def F63_0_0 (v : TL63_0_0) (α : Type) (K : Exit → St → Option α) : Rows → Rows → Int → Option α := fun x3 x4 x5 => v α x3 x4 (u63_0_1 (K .ret) false) (fun (y1 : Int) (y2 : Bool) => u63_0_2 (K (.exit 0)) x3 x4 y1 y2) x5
theorem r63_0_0g   (α : Type) (K : Exit → St → Option α) (Kn : St → Option α) (x3 : Rows) (x4 : Rows) (x5 : Int) : u63_0_0 (fun σ => runM Try.prog (E63_0g ) sh63 (c63_0_13g ) (thenK (fun σ => tidyK td63_13 σ Kn) K) σ) x3 x4 x5 = S63_0_0g  α x3 x4 x5 (fun x5 => u63_0_0 Kn x3 x4 x5) (u63_0_1 (K .ret) false) (fun (y1 : Int) (y2 : Bool) => u63_0_2 (K (.exit 0)) x3 x4 y1 y2) := by kernel_rfl
theorem r63_0_0 (α : Type) (K : Exit → St → Option α) (Kn : St → Option α) (x3 : Rows) (x4 : Rows) (x5 : Int) : u63_0_0 (fun σ => runM Try.prog E63_0 sh63 c63_0_13 (thenK (fun σ => tidyK td63_13 σ Kn) K) σ) x3 x4 x5 = S63_0_0 α x3 x4 x5 (fun x5 => u63_0_0 Kn x3 x4 x5) (u63_0_1 (K .ret) false) (fun (y1 : Int) (y2 : Bool) => u63_0_2 (K (.exit 0)) x3 x4 y1 y2) := r63_0_0g  α K Kn x3 x4 x5
theorem t63_0_0 (α : Type) (K : Exit → St → Option α) : ∀ (n : Nat) (x3 : Rows) (x4 : Rows) (x5 : Int), R63_0_0 α x3 x4 (u63_0_1 (K .ret) false) (fun (y1 : Int) (y2 : Bool) => u63_0_2 (K (.exit 0)) x3 x4 y1 y2) n x5 = u63_0_0 (loopT (runM Try.prog E63_0 sh63 c63_0_13) td63_13 K n) x3 x4 x5 := by
 intro n
 induction n with
 | zero => intros; rfl
 | succ n ih => intro x3 x4 x5; exact (congrArg (fun kn => S63_0_0 α x3 x4 x5 kn (u63_0_1 (K .ret) false) (fun (y1 : Int) (y2 : Bool) => u63_0_2 (K (.exit 0)) x3 x4 y1 y2)) (funext fun x5 => ih x3 x4 x5)).trans (r63_0_0 α K (loopT (runM Try.prog E63_0 sh63 c63_0_13) td63_13 K n) x3 x4 x5).symm
theorem m63_0_0 : ∀ (α : Type) (K : Exit → St → Option α), F63_0_0 L63_0_0 α K = p63_0_0.unc fun σ => loopT (runM Try.prog E63_0 sh63 c63_0_13) td63_13 K fuel σ := fun α K => funext fun x3 => funext fun x4 => funext fun x5 => t63_0_0 α K fuel x3 x4 x5

/-- etalon/etalonbase.Ints -/
abbrev Tf63_0 : Type 1 := (α : Type) → Rows → Rows → (Bool → Option α) → Option α
def f63_0g (vL63_0_0 : TL63_0_0) (α : Type) (x1 : Rows) (x2 : Rows) (k1 : Bool → Option α) : Option α :=
 cK (((List.length x1 : Nat) : Int) != ((List.length x2 : Nat) : Int))
 (k1 false)
 (vL63_0_0 α x1 x2
 (k1 false)
 (fun (x9 : Int) (x10 : Bool) => k1 true) 0)
noncomputable def f63_0 (α : Type) (x1 : Rows) (x2 : Rows) (k1 : Bool → Option α) : Option α := f63_0g L63_0_0 α x1 x2 k1
def pa63_0 : PT (List DV) := pA [pV false [dL], pV false [dL]]
def Fn63_0 (v : Tf63_0) (α : Type) (k : List RV → Option α) : Rows → Rows → Option α := fun x1 x2 => v α x1 x2 (fun (y1 : Bool) => ur63_0_0 k y1)
noncomputable def cm63_0g (vL63_0_0 : TL63_0_0) : MCode := (.seq (.region r63_2 [] (some ⟨[0, 1], true, [], []⟩)) (.seq (.seq (.region r63_5 [] (some ⟨[0, 1, 10], true, [], []⟩)) (.cond (.tmp 10) (.seq (.region r63_8 [] (some ⟨[4], true, [], []⟩)) .ret) .skip)) (.seq (.seq (.region r63_11 [] (some ⟨[0, 1, 5], true, [], []⟩)) (.block 0 (.loop td63_13 [⟨p63_0_0, F63_0_0 vL63_0_0⟩] c63_0_13))) (.seq (.region r63_27 [] (some ⟨[4], true, [], []⟩)) .ret))))
noncomputable def cm63_0 : MCode := cm63_0g L63_0_0
theorem gm63_0 : cm63_0.Good Try.prog E63_0 sh63 := ⟨trivial, ⟨⟨trivial, ⟨⟨trivial, trivial⟩, trivial⟩⟩, ⟨⟨trivial, ⟨g63_0_13, m63_0_0, trivial⟩⟩, ⟨trivial, trivial⟩⟩⟩⟩
theorem fm63_0g  (vL63_0_0 : TL63_0_0) (α : Type) (k : List RV → Option α) : Fn63_0 (f63_0g vL63_0_0) α k = pa63_0.unc fun ds => fnM Try.prog (E63_0g ) sh63 (cm63_0g vL63_0_0) rs63 k ds := by kernel_rfl
theorem fm63_0 : ∀ (α : Type) (k : List RV → Option α), Fn63_0 f63_0 α k = pa63_0.unc fun ds => fnM Try.prog E63_0 sh63 cm63_0 rs63 k ds := fm63_0g L63_0_0

theorem is63 : FnIs Try.prog 63 nt63 tr63 tl63 cm63_0.erase rs63 := ⟨Try.f63, Try.func63, rfl, by kernel_rfl, by kernel_rfl, by kernel_rfl⟩
theorem io63_0 : InstOk Try.prog 63 nt63 ⟨pa63_0, Fn63_0 f63_0⟩ := inst_ok eo63_0 followsTry is63 ⟨⟨sh63, cm63_0, by kernel_rfl, gm63_0, fm63_0⟩⟩

/-! ### F61 etalon/etalonbase.CopyInts -/
abbrev nt61 : Nat := 6
def sh61 : List (Nat × List Sh) := []
def r61_2 : List AOper := [oO 2 (.mv (.const (.slice none 0 0)))]
def r61_4 : List AOper := [oO 3 (.bslice 1 0 [(.v (.int .i64 0))] []), oM 4 0, oO 5 (.append 1 8 (.tmp 3) (.tmp 4)), oM 2 5]
def tr61 : List (Nat × Tidy) := [(0, ⟨[0], true, [], []⟩), (1, ⟨[2], true, [⟨false, 2, 0, 20002, 1⟩], []⟩)]
def tl61 : List (Nat × Tidy) := []
def rs61 : List AResV := [.tmp 2]
def pr61_0_0 : PT (List RV) := pRs [pR false [rO 1]]
def ur61_0_0 {β : Type} (g : List RV → β) : Rows → β := pr61_0_0.unc g

def E61_0g  : EnvK := EnvK.of [] noSeq
noncomputable def E61_0 : EnvK := E61_0g 
theorem eo61_0 : E61_0.Ok Try.prog := EnvK.of_ok noSeq_ok trivial

/-- etalon/etalonbase.CopyInts -/
abbrev Tf61_0 : Type 1 := (α : Type) → Rows → (Rows → Option α) → Option α
def f61_0g  (α : Type) (x1 : Rows) (k1 : Rows → Option α) : Option α :=
 gK (apOk 1 8 ([] : Rows) x1) (k1 (([] : Rows) ++ x1))
noncomputable def f61_0 (α : Type) (x1 : Rows) (k1 : Rows → Option α) : Option α := f61_0g  α x1 k1
def pa61_0 : PT (List DV) := pA [pV false [dL]]
def Fn61_0 (v : Tf61_0) (α : Type) (k : List RV → Option α) : Rows → Option α := fun x1 => v α x1 (fun (y1 : Rows) => ur61_0_0 k y1)
noncomputable def cm61_0g  : MCode := (.seq (.region r61_2 [] (some ⟨[0], true, [], []⟩)) (.seq (.region r61_4 [] (some ⟨[2], true, [⟨false, 2, 0, 20002, 1⟩], []⟩)) .ret))
noncomputable def cm61_0 : MCode := cm61_0g 
theorem gm61_0 : cm61_0.Good Try.prog E61_0 sh61 := ⟨trivial, ⟨trivial, trivial⟩⟩
theorem fm61_0g   (α : Type) (k : List RV → Option α) : Fn61_0 (f61_0g ) α k = pa61_0.unc fun ds => fnM Try.prog (E61_0g ) sh61 (cm61_0g ) rs61 k ds := by kernel_rfl
theorem fm61_0 : ∀ (α : Type) (k : List RV → Option α), Fn61_0 f61_0 α k = pa61_0.unc fun ds => fnM Try.prog E61_0 sh61 cm61_0 rs61 k ds := fm61_0g 

theorem is61 : FnIs Try.prog 61 nt61 tr61 tl61 cm61_0.erase rs61 := ⟨Try.f61, Try.func61, rfl, by kernel_rfl, by kernel_rfl, by kernel_rfl⟩
theorem io61_0 : InstOk Try.prog 61 nt61 ⟨pa61_0, Fn61_0 f61_0⟩ := inst_ok eo61_0 followsTry is61 ⟨⟨sh61, cm61_0, by kernel_rfl, gm61_0, fm61_0⟩⟩

/-! ### F53 etalon/etalonref08.Switched -/
abbrev nt53 : Nat := 18
def sh53 : List (Nat × List Sh) := [(13, [.bool]), (14, [.bool]), (16, [.bool])]
def r53_2 : List AOper := [oO 4 (.mv (.const (.slice none 0 0)))]
def r53_4 : List AOper := [oO 6 (.bslice 1 0 [(.v (.bool false))] []), oM 7 0, oO 8 (.append 1 1 (.tmp 6) (.tmp 7)), oM 5 8]
def r53_6 : List AOper := [oM 9 5, oM 10 1, oM 11 5, oM 12 1, oO 13 (.iaddr 1 none (.tmp 11) (.tmp 12)), oO 14 (.load false 1 (.tmp 13)), oO 15 (.pure (oB (.unOp .not 4 (.tmp 14)) 4)), oO 16 (.iaddr 1 none (.tmp 9) (.tmp 10)), ⟨none, (.store 1 (.tmp 16) (.tmp 15)), none⟩]
def r53_8 : List AOper := [oM 17 5, oM 4 17]
def tr53 : List (Nat × Tidy) := [(0, ⟨[0, 1], true, [], []⟩), (1, ⟨[1, 5], true, [], []⟩), (2, ⟨[5], true, [], []⟩), (3, ⟨[4], true, [⟨false, 4, 0, 20004, 1⟩], []⟩)]
def tl53 : List (Nat × Tidy) := []
def rs53 : List AResV := [.tmp 4]
def pr53_0_0 : PT (List RV) := pRs [pR false [rO 1]]
def ur53_0_0 {β : Type} (g : List RV → β) : Rows → β := pr53_0_0.unc g

def E53_0g  : EnvK := EnvK.of [] noSeq
noncomputable def E53_0 : EnvK := E53_0g 
theorem eo53_0 : E53_0.Ok Try.prog := EnvK.of_ok noSeq_ok trivial

/-- etalon/etalonref08.Switched -/
abbrev Tf53_0 : Type 1 := (α : Type) → Rows → Int → (Rows → Option α) → Option α
def f53_0g  (α : Type) (x1 : Rows) (x2 : Int) (k1 : Rows → Option α) : Option α :=
 gK (apOk 1 1 ([] : Rows) x1) (ixK (([] : Rows) ++ x1) x2 1
 (ldK (([] : Rows) ++ x1) (Int.toNat x2) 0 [.bool]
 (fun (x3 : Bool) => ixK (([] : Rows) ++ x1) x2 1
 (stK (([] : Rows) ++ x1) (Int.toNat x2) 0 1
 (k1 (List.set (([] : Rows) ++ x1) (Int.toNat x2) (splice (rowAt (([] : Rows) ++ x1) (Int.toNat x2)) 0 [DC.v (.bool (!x3))])))))))
noncomputable def f53_0 (α : Type) (x1 : Rows) (x2 : Int) (k1 : Rows → Option α) : Option α := f53_0g  α x1 x2 k1
def pa53_0 : PT (List DV) := pA [pV false [dL], pV false [(dI .i64)]]
def Fn53_0 (v : Tf53_0) (α : Type) (k : List RV → Option α) : Rows → Int → Option α := fun x1 x2 => v α x1 x2 (fun (y1 : Rows) => ur53_0_0 k y1)
noncomputable def cm53_0g  : MCode := (.seq (.region r53_2 [] (some ⟨[0, 1], true, [], []⟩)) (.seq (.region r53_4 [] (some ⟨[1, 5], true, [], []⟩)) (.seq (.region r53_6 [] (some ⟨[5], true, [], []⟩)) (.seq (.region r53_8 [] (some ⟨[4], true, [⟨false, 4, 0, 20004, 1⟩], []⟩)) .ret))))
noncomputable def cm53_0 : MCode := cm53_0g 
theorem gm53_0 : cm53_0.Good Try.prog E53_0 sh53 := ⟨trivial, ⟨trivial, ⟨trivial, ⟨trivial, trivial⟩⟩⟩⟩
theorem fm53_0g   (α : Type) (k : List RV → Option α) : Fn53_0 (f53_0g ) α k = pa53_0.unc fun ds => fnM Try.prog (E53_0g ) sh53 (cm53_0g ) rs53 k ds := by kernel_rfl
theorem fm53_0 : ∀ (α : Type) (k : List RV → Option α), Fn53_0 f53_0 α k = pa53_0.unc fun ds => fnM Try.prog E53_0 sh53 cm53_0 rs53 k ds := fm53_0g 

theorem is53 : FnIs Try.prog 53 nt53 tr53 tl53 cm53_0.erase rs53 := ⟨Try.f53, Try.func53, rfl, by kernel_rfl, by kernel_rfl, by kernel_rfl⟩
theorem io53_0 : InstOk Try.prog 53 nt53 ⟨pa53_0, Fn53_0 f53_0⟩ := inst_ok eo53_0 followsTry is53 ⟨⟨sh53, cm53_0, by kernel_rfl, gm53_0, fm53_0⟩⟩

/-! ### F115 etalon/etalonref08.State -/
abbrev nt115 : Nat := 21
def sh115 : List (Nat × List Sh) := []
def r115_2 : List AOper := [oO 4 (.mv (.const (.slice none 0 0)))]
def r115_4 : List AOper := [oO 5 (.mv (.const (.slice none 0 0)))]
def r115_7 : List AOper := [oO 6 (.mv (.const (.int .i64 0)))]
def td115_9 : Option Tidy := (some ⟨[0, 1, 5, 6], true, [⟨false, 5, 0, 20005, 1⟩], []⟩)
def r115_12 : List AOper := [oM 7 6, oM 8 1, oO 9 (.bin .lss 3 (.tmp 7) (.tmp 8))]
def r115_17 : List AOper := [oM 12 5, oM 13 0, oO 14 (.bin .rem 3 (.tmp 13) (.const (.int .i64 2))), oO 15 (.bin .eql 3 (.tmp 14) (.const (.int .i64 1))), oO 16 (.bslice 1 1 [(.v (.bool false))] [(0, (.tmp 15))]), oO 17 (.append 1 1 (.tmp 12) (.tmp 16)), oM 5 17]
def r115_18 : List AOper := [oM 18 0, oO 19 (.bin .quo 3 (.tmp 18) (.const (.int .i64 2))), oM 0 19]
def r115_19 : List AOper := [oM 10 6, oO 11 (.bin .add 3 (.tmp 10) (.const (.int .i64 1))), oM 6 11]
def r115_21 : List AOper := [oM 20 5, oM 4 20]
def tr115 : List (Nat × Tidy) := [(0, ⟨[0, 1], true, [], []⟩), (1, ⟨[0, 1, 5], true, [], []⟩), (2, ⟨[0, 1, 5, 6], true, [], []⟩), (3, ⟨[0, 1, 5, 6, 9], true, [], []⟩), (5, ⟨[0, 1, 5, 6], true, [], []⟩), (6, ⟨[0, 1, 5, 6], true, [], []⟩), (4, ⟨[0, 1, 5, 6], true, [], []⟩), (7, ⟨[4], true, [⟨false, 4, 0, 20004, 1⟩], []⟩)]
def tl115 : List (Nat × Tidy) := [(3, ⟨[0, 1, 5, 6], true, [⟨false, 5, 0, 20005, 1⟩], []⟩)]
def rs115 : List AResV := [.tmp 4]
def p115_0_0 : PT St := pS [sl 0 (aV false [(cD (dI .i64))]), sl 1 (aV false [(cD (dI .i64))]), sl 5 (aV false [(cRef 20005)]), sl 6 (aV false [(cD (dI .i64))])] [eOwn 20005 1]
def u115_0_0 {β : Type} (g : St → β) : Int → Int → Int → Rows → β := p115_0_0.unc g

def p115_0_1 : PT St := pS [sl 0 (aV false [(cD (dI .i64))]), sl 1 (aV false [(cD (dI .i64))]), sl 5 (aV false [(cRef 20005)]), sl 6 (aV false [(cD (dI .i64))]), sl 9 (aV false [(cD dB)])] [eOwn 20005 1]
def u115_0_1 {β : Type} (g : St → β) : Int → Int → Int → Bool → Rows → β := p115_0_1.unc g

def pr115_0_0 : PT (List RV) := pRs [pR false [rO 1]]
def ur115_0_0 {β : Type} (g : List RV → β) : Rows → β := pr115_0_0.unc g

def E115_0g  : EnvK := EnvK.of [] noSeq
noncomputable def E115_0 : EnvK := E115_0g 
theorem eo115_0 : E115_0.Ok Try.prog := EnvK.of_ok noSeq_ok trivial

noncomputable def c115_0_9g  : MCode := (.seq (.seq (.region r115_12 [] (some ⟨[0, 1, 5, 6, 9], true, [], []⟩)) (.cond (.tmp 9) .skip (.exit 0))) (.seq (.block 1 (.seq (.region r115_17 [] (some ⟨[0, 1, 5, 6], true, [], []⟩)) (.region r115_18 [] (some ⟨[0, 1, 5, 6], true, [], []⟩)))) (.region r115_19 [] (some ⟨[0, 1, 5, 6], true, [], []⟩))))
noncomputable def c115_0_9 : MCode := c115_0_9g 
theorem g115_0_9 : c115_0_9.Good Try.prog E115_0 sh115 := ⟨⟨trivial, ⟨trivial, trivial⟩⟩, ⟨⟨trivial, trivial⟩, trivial⟩⟩
--CODE 9 0
def S115_0_0g  (α : Type) (x4 : Int) (x3 : Int) (x5 : Int) (x6 : Rows) (kn : Int → Int → Rows → Option α) (k1 : Int → Int → Bool → Rows → Option α) : Option α :=
 cK (decide (x5 < x4))
 (gK (apOk 1 1 x6 [[DC.v (.bool ((Int.tmod x3 2) == 1))]]) (kn (w64 (Int.tdiv x3 2)) (w64 (x5 + 1)) (x6 ++ [[DC.v (.bool ((Int.tmod x3 2) == 1))]])))
 (k1 x3 x5 (decide (x5 < x4)) x6)
noncomputable def S115_0_0 (α : Type) (x4 : Int) (x3 : Int) (x5 : Int) (x6 : Rows) (kn : Int → Int → Rows → Option α) (k1 : Int → Int → Bool → Rows → Option α) : Option α := S115_0_0g  α x4 x3 x5 x6 kn k1
noncomputable def R115_0_0 (α : Type) (x4 : Int) (k1 : Int → Int → Bool → Rows → Option α) : Nat → Int → Int → Rows → Option α
 | 0, _, _, _ => none
 | n + 1, x3, x5, x6 => S115_0_0 α x4 x3 x5 x6 (R115_0_0 α x4 k1 n) k1
noncomputable def L115_0_0 (α : Type) (x4 : Int) (k1 : Int → Int → Bool → Rows → Option α) (x3 : Int) (x5 : Int) (x6 : Rows) : Option α := R115_0_0 α x4 k1 fuel x3 x5 x6
abbrev TL115_0_0 : Type 1 := (α : Type) → Int → (Int → Int → Bool → Rows → Option α) → Int → Int → Rows → Option α
def F115_0_0 (v : TL115_0_0) (α : Type) (K : Exit → St → Option α) : Int → Int → Int → Rows → Option α := fun x3 x4 x5 x6 => v α x4 (fun (y1 : Int) (y2 : Int) (y3 : Bool) (y4 : Rows) => u115_0_1 (K (.exit 0)) y1 x4 y2 y3 y4) x3 x5 x6
theorem r115_0_0g   (α : Type) (K : Exit → St → Option α) (Kn : St → Option α) (x3 : Int) (x4 : Int) (x5 : Int) (x6 : Rows) : u115_0_0 (fun σ => runM Try.prog (E115_0g ) sh115 (c115_0_9g ) (thenK (fun σ => tidyK td115_9 σ Kn) K) σ) x3 x4 x5 x6 = S115_0_0g  α x4 x3 x5 x6 (fun x3 x5 x6 => u115_0_0 Kn x3 x4 x5 x6) (fun (y1 : Int) (y2 : Int) (y3 : Bool) (y4 : Rows) => u115_0_1 (K (.exit 0)) y1 x4 y2 y3 y4) := by kernel_rfl
theorem r115_0_0 (α : Type) (K : Exit → St → Option α) (Kn : St → Option α) (x3 : Int) (x4 : Int) (x5 : Int) (x6 : Rows) : u115_0_0 (fun σ => runM Try.prog E115_0 sh115 c115_0_9 (thenK (fun σ => tidyK td115_9 σ Kn) K) σ) x3 x4 x5 x6 = S115_0_0 α x4 x3 x5 x6 (fun x3 x5 x6 => u115_0_0 Kn x3 x4 x5 x6) (fun (y1 : Int) (y2 : Int) (y3 : Bool) (y4 : Rows) => u115_0_1 (K (.exit 0)) y1 x4 y2 y3 y4) := r115_0_0g  α K Kn x3 x4 x5 x6
theorem t115_0_0 (α : Type) (K : Exit → St → Option α) : ∀ (n : Nat) (x3 : Int) (x4 : Int) (x5 : Int) (x6 : Rows), R115_0_0 α x4 (fun (y1 : Int) (y2 : Int) (y3 : Bool) (y4 : Rows) => u115_0_1 (K (.exit 0)) y1 x4 y2 y3 y4) n x3 x5 x6 = u115_0_0 (loopT (runM Try.prog E115_0 sh115 c115_0_9) td115_9 K n) x3 x4 x5 x6 := by
 intro n
 induction n with
 | zero => intros; rfl
 | succ n ih => intro x3 x4 x5 x6; exact (congrArg (fun kn => S115_0_0 α x4 x3 x5 x6 kn (fun (y1 : Int) (y2 : Int) (y3 : Bool) (y4 : Rows) => u115_0_1 (K (.exit 0)) y1 x4 y2 y3 y4)) (funext fun x3 => funext fun x5 => funext fun x6 => ih x3 x4 x5 x6)).trans (r115_0_0 α K (loopT (runM Try.prog E115_0 sh115 c115_0_9) td115_9 K n) x3 x4 x5 x6).symm
theorem m115_0_0 : ∀ (α : Type) (K : Exit → St → Option α), F115_0_0 L115_0_0 α K = p115_0_0.unc fun σ => loopT (runM Try.prog E115_0 sh115 c115_0_9) td115_9 K fuel σ := fun α K => funext fun x3 => funext fun x4 => funext fun x5 => funext fun x6 => t115_0_0 α K fuel x3 x4 x5 x6

/-- etalon/etalonref08.State -/
abbrev Tf115_0 : Type 1 := (α : Type) → Int → Int → (Rows → Option α) → Option α
def f115_0g (vL115_0_0 : TL115_0_0) (α : Type) (x1 : Int) (x2 : Int) (k1 : Rows → Option α) : Option α :=
 vL115_0_0 α x2
 (fun (x8 : Int) (x9 : Int) (x10 : Bool) (x11 : Rows) => k1 x11) x1 0 ([] : Rows)
noncomputable def f115_0 (α : Type) (x1 : Int) (x2 : Int) (k1 : Rows → Option α) : Option α := f115_0g L115_0_0 α x1 x2 k1
def pa115_0 : PT (List DV) := pA [pV false [(dI .i64)], pV false [(dI .i64)]]
def Fn115_0 (v : Tf115_0) (α : Type) (k : List RV → Option α) : Int → Int → Option α := fun x1 x2 => v α x1 x2 (fun (y1 : Rows) => ur115_0_0 k y1)
noncomputable def cm115_0g (vL115_0_0 : TL115_0_0) : MCode := (.seq (.region r115_2 [] (some ⟨[0, 1], true, [], []⟩)) (.seq (.region r115_4 [] (some ⟨[0, 1, 5], true, [], []⟩)) (.seq (.seq (.region r115_7 [] (some ⟨[0, 1, 5, 6], true, [], []⟩)) (.block 0 (.loop td115_9 [⟨p115_0_0, F115_0_0 vL115_0_0⟩] c115_0_9))) (.seq (.region r115_21 [] (some ⟨[4], true, [⟨false, 4, 0, 20004, 1⟩], []⟩)) .ret))))
noncomputable def cm115_0 : MCode := cm115_0g L115_0_0
theorem gm115_0 : cm115_0.Good Try.prog E115_0 sh115 := ⟨trivial, ⟨trivial, ⟨⟨trivial, ⟨g115_0_9, m115_0_0, trivial⟩⟩, ⟨trivial, trivial⟩⟩⟩⟩
theorem fm115_0g  (vL115_0_0 : TL115_0_0) (α : Type) (k : List RV → Option α) : Fn115_0 (f115_0g vL115_0_0) α k = pa115_0.unc fun ds => fnM Try.prog (E115_0g ) sh115 (cm115_0g vL115_0_0) rs115 k ds := by kernel_rfl
theorem fm115_0 : ∀ (α : Type) (k : List RV → Option α), Fn115_0 f115_0 α k = pa115_0.unc fun ds => fnM Try.prog E115_0 sh115 cm115_0 rs115 k ds := fm115_0g L115_0_0

theorem is115 : FnIs Try.prog 115 nt115 tr115 tl115 cm115_0.erase rs115 := ⟨Try.f115, Try.func115, rfl, by kernel_rfl, by kernel_rfl, by kernel_rfl⟩
theorem io115_0 : InstOk Try.prog 115 nt115 ⟨pa115_0, Fn115_0 f115_0⟩ := inst_ok eo115_0 followsTry is115 ⟨⟨sh115, cm115_0, by kernel_rfl, gm115_0, fm115_0⟩⟩

/-! ### F114 etalon/etalonref08.Number -/
abbrev nt114 : Nat := 22
def sh114 : List (Nat × List Sh) := [(14, [.bool]), (15, [.bool])]
def r114_2 : List AOper := [oO 2 (.mv (.const (.int .i64 0)))]
def r114_4 : List AOper := [oO 3 (.mv (.const (.int .i64 0))), oO 4 (.mv (.const (.int .i64 1)))]
def r114_7 : List AOper := [oO 5 (.mv (.const (.int .i64 0)))]
def td114_9 : Option Tidy := (some ⟨[0, 3, 4, 5], true, [], []⟩)
def r114_12 : List AOper := [oM 6 5, oM 7 0, oO 8 (.len (.tmp 7)), oO 9 (.bin .lss 3 (.tmp 6) (.tmp 8))]
def r114_18 : List AOper := [oM 12 0, oM 13 5, oO 14 (.iaddr 1 none (.tmp 12) (.tmp 13)), oO 15 (.load false 1 (.tmp 14))]
def r114_20 : List AOper := [oM 16 3, oM 17 4, oO 18 (.bin .add 3 (.tmp 16) (.tmp 17)), oM 3 18]
def r114_21 : List AOper := [oM 19 4, oO 20 (.bin .mul 3 (.const (.int .i64 2)) (.tmp 19)), oM 4 20]
def r114_22 : List AOper := [oM 10 5, oO 11 (.bin .add 3 (.tmp 10) (.const (.int .i64 1))), oM 5 11]
def r114_24 : List AOper := [oM 21 3, oM 2 21]
def tr114 : List (Nat × Tidy) := [(0, ⟨[0], true, [], []⟩), (1, ⟨[0, 3, 4], true, [], []⟩), (2, ⟨[0, 3, 4, 5], true, [], []⟩), (3, ⟨[0, 3, 4, 5, 9], true, [], []⟩), (5, ⟨[0, 3, 4, 5, 15], true, [], []⟩), (6, ⟨[0, 3, 4, 5], true, [], []⟩), (7, ⟨[0, 3, 4, 5], true, [], []⟩), (4, ⟨[0, 3, 4, 5], true, [], []⟩), (8, ⟨[2], true, [], []⟩)]
def tl114 : List (Nat × Tidy) := [(3, ⟨[0, 3, 4, 5], true, [], []⟩)]
def rs114 : List AResV := [.tmp 2]
def p114_0_0 : PT St := pS [sl 0 (aV false [(cD dL)]), sl 3 (aV false [(cD (dI .i64))]), sl 4 (aV false [(cD (dI .i64))]), sl 5 (aV false [(cD (dI .i64))])] []
def u114_0_0 {β : Type} (g : St → β) : Rows → Int → Int → Int → β := p114_0_0.unc g

def p114_0_1 : PT St := pS [sl 0 (aV false [(cD dL)]), sl 3 (aV false [(cD (dI .i64))]), sl 4 (aV false [(cD (dI .i64))]), sl 5 (aV false [(cD (dI .i64))]), sl 9 (aV false [(cD dB)])] []
def u114_0_1 {β : Type} (g : St → β) : Rows → Int → Int → Int → Bool → β := p114_0_1.unc g

def pr114_0_0 : PT (List RV) := pRs [pR false [rD (dI .i64)]]
def ur114_0_0 {β : Type} (g : List RV → β) : Int → β := pr114_0_0.unc g

def E114_0g  : EnvK := EnvK.of [] noSeq
noncomputable def E114_0 : EnvK := E114_0g 
theorem eo114_0 : E114_0.Ok Try.prog := EnvK.of_ok noSeq_ok trivial

noncomputable def c114_0_9g  : MCode := (.seq (.seq (.region r114_12 [] (some ⟨[0, 3, 4, 5, 9], true, [], []⟩)) (.cond (.tmp 9) .skip (.exit 0))) (.seq (.block 1 (.seq (.seq (.region r114_18 [] (some ⟨[0, 3, 4, 5, 15], true, [], []⟩)) (.cond (.tmp 15) (.region r114_20 [] (some ⟨[0, 3, 4, 5], true, [], []⟩)) .skip)) (.region r114_21 [] (some ⟨[0, 3, 4, 5], true, [], []⟩)))) (.region r114_22 [] (some ⟨[0, 3, 4, 5], true, [], []⟩))))
noncomputable def c114_0_9 : MCode := c114_0_9g 
theorem g114_0_9 : c114_0_9.Good Try.prog E114_0 sh114 := ⟨⟨trivial, ⟨trivial, trivial⟩⟩, ⟨⟨⟨trivial, ⟨trivial, trivial⟩⟩, trivial⟩, trivial⟩⟩
--CODE 9 0
def S114_0_0g  (α : Type) (x2 : Rows) (x3 : Int) (x4 : Int) (x5 : Int) (kn : Int → Int → Int → Option α) (k1 : Int → Int → Int → Bool → Option α) : Option α :=
 cK (decide (x5 < ((List.length x2 : Nat) : Int)))
 (rowK x2 x5 [.bool]
 (fun (x7 : Bool) => cK x7
 (kn (w64 (x3 + x4)) (w64 (2 * x4)) (w64 (x5 + 1)))
 (kn x3 (w64 (2 * x4)) (w64 (x5 + 1)))))
 (k1 x3 x4 x5 (decide (x5 < ((List.length x2 : Nat) : Int))))
noncomputable def S114_0_0 (α : Type) (x2 : Rows) (x3 : Int) (x4 : Int) (x5 : Int) (kn : Int → Int → Int → Option α) (k1 : Int → Int → Int → Bool → Option α) : Option α := S114_0_0g  α x2 x3 x4 x5 kn k1
noncomputable def R114_0_0 (α : Type) (x2 : Rows) (k1 : Int → Int → Int → Bool → Option α) : Nat → Int → Int → Int → Option α
 | 0, _, _, _ => none
 | n + 1, x3, x4, x5 => S114_0_0 α x2 x3 x4 x5 (R114_0_0 α x2 k1 n) k1
noncomputable def L114_0_0 (α : Type) (x2 : Rows) (k1 : Int → Int → Int → Bool → Option α) (x3 : Int) (x4 : Int) (x5 : Int) : Option α := R114_0_0 α x2 k1 fuel x3 x4 x5
abbrev TL114_0_0 : Type 1 := (α : Type) → Rows → (Int → Int → Int → Bool → Option α) → Int → Int → Int → Option α
def F114_0_0 (v : TL114_0_0) (α : Type) (K : Exit → St → Option α) : Rows → Int → Int → Int → Option α := fun x2 x3 x4 x5 => v α x2 (fun (y1 : Int) (y2 : Int) (y3 : Int) (y4 : Bool) => u114_0_1 (K (.exit 0)) x2 y1 y2 y3 y4) x3 x4 x5
theorem r114_0_0g   (α : Type) (K : Exit → St → Option α) (Kn : St → Option α) (x2 : Rows) (x3 : Int) (x4 : Int) (x5 : Int) : u114_0_0 (fun σ => runM Try.prog (E114_0g ) sh114 (c114_0_9g ) (thenK (fun σ => tidyK td114_9 σ Kn) K) σ) x2 x3 x4 x5 = S114_0_0g  α x2 x3 x4 x5 (fun x3 x4 x5 => u114_0_0 Kn x2 x3 x4 x5) (fun (y1 : Int) (y2 : Int) (y3 : Int) (y4 : Bool) => u114_0_1 (K (.exit 0)) x2 y1 y2 y3 y4) := by kernel_rfl
theorem r114_0_0 (α : Type) (K : Exit → St → Option α) (Kn : St → Option α) (x2 : Rows) (x3 : Int) (x4 : Int) (x5 : Int) : u114_0_0 (fun σ => runM Try.prog E114_0 sh114 c114_0_9 (thenK (fun σ => tidyK td114_9 σ Kn) K) σ) x2 x3 x4 x5 = S114_0_0 α x2 x3 x4 x5 (fun x3 x4 x5 => u114_0_0 Kn x2 x3 x4 x5) (fun (y1 : Int) (y2 : Int) (y3 : Int) (y4 : Bool) => u114_0_1 (K (.exit 0)) x2 y1 y2 y3 y4) := r114_0_0g  α K Kn x2 x3 x4 x5
theorem t114_0_0 (α : Type) (K : Exit → St → Option α) : ∀ (n : Nat) (x2 : Rows) (x3 : Int) (x4 : Int) (x5 : Int), R114_0_0 α x2 (fun (y1 : Int) (y2 : Int) (y3 : Int) (y4 : Bool) => u114_0_1 (K (.exit 0)) x2 y1 y2 y3 y4) n x3 x4 x5 = u114_0_0 (loopT (runM Try.prog E114_0 sh114 c114_0_9) td114_9 K n) x2 x3 x4 x5 := by
 intro n
 induction n with
 | zero => intros; rfl
 | succ n ih => intro x2 x3 x4 x5; exact (congrArg (fun kn => S114_0_0 α x2 x3 x4 x5 kn (fun (y1 : Int) (y2 : Int) (y3 : Int) (y4 : Bool) => u114_0_1 (K (.exit 0)) x2 y1 y2 y3 y4)) (funext fun x3 => funext fun x4 => funext fun x5 => ih x2 x3 x4 x5)).trans (r114_0_0 α K (loopT (runM Try.prog E114_0 sh114 c114_0_9) td114_9 K n) x2 x3 x4 x5).symm
theorem m114_0_0 : ∀ (α : Type) (K : Exit → St → Option α), F114_0_0 L114_0_0 α K = p114_0_0.unc fun σ => loopT (runM Try.prog E114_0 sh114 c114_0_9) td114_9 K fuel σ := fun α K => funext fun x2 => funext fun x3 => funext fun x4 => funext fun x5 => t114_0_0 α K fuel x2 x3 x4 x5

/-- etalon/etalonref08.Number -/
abbrev Tf114_0 : Type 1 := (α : Type) → Rows → (Int → Option α) → Option α
def f114_0g (vL114_0_0 : TL114_0_0) (α : Type) (x1 : Rows) (k1 : Int → Option α) : Option α :=
 vL114_0_0 α x1
 (fun (x8 : Int) (x9 : Int) (x10 : Int) (x11 : Bool) => k1 x8) 0 1 0
noncomputable def f114_0 (α : Type) (x1 : Rows) (k1 : Int → Option α) : Option α := f114_0g L114_0_0 α x1 k1
def pa114_0 : PT (List DV) := pA [pV false [dL]]
def Fn114_0 (v : Tf114_0) (α : Type) (k : List RV → Option α) : Rows → Option α := fun x1 => v α x1 (fun (y1 : Int) => ur114_0_0 k y1)
noncomputable def cm114_0g (vL114_0_0 : TL114_0_0) : MCode := (.seq (.region r114_2 [] (some ⟨[0], true, [], []⟩)) (.seq (.region r114_4 [] (some ⟨[0, 3, 4], true, [], []⟩)) (.seq (.seq (.region r114_7 [] (some ⟨[0, 3, 4, 5], true, [], []⟩)) (.block 0 (.loop td114_9 [⟨p114_0_0, F114_0_0 vL114_0_0⟩] c114_0_9))) (.seq (.region r114_24 [] (some ⟨[2], true, [], []⟩)) .ret))))
noncomputable def cm114_0 : MCode := cm114_0g L114_0_0
theorem gm114_0 : cm114_0.Good Try.prog E114_0 sh114 := ⟨trivial, ⟨trivial, ⟨⟨trivial, ⟨g114_0_9, m114_0_0, trivial⟩⟩, ⟨trivial, trivial⟩⟩⟩⟩
theorem fm114_0g  (vL114_0_0 : TL114_0_0) (α : Type) (k : List RV → Option α) : Fn114_0 (f114_0g vL114_0_0) α k = pa114_0.unc fun ds => fnM Try.prog (E114_0g ) sh114 (cm114_0g vL114_0_0) rs114 k ds := by kernel_rfl
theorem fm114_0 : ∀ (α : Type) (k : List RV → Option α), Fn114_0 f114_0 α k = pa114_0.unc fun ds => fnM Try.prog E114_0 sh114 cm114_0 rs114 k ds := fm114_0g L114_0_0

theorem is114 : FnIs Try.prog 114 nt114 tr114 tl114 cm114_0.erase rs114 := ⟨Try.f114, Try.func114, rfl, by kernel_rfl, by kernel_rfl, by kernel_rfl⟩
theorem io114_0 : InstOk Try.prog 114 nt114 ⟨pa114_0, Fn114_0 f114_0⟩ := inst_ok eo114_0 followsTry is114 ⟨⟨sh114, cm114_0, by kernel_rfl, gm114_0, fm114_0⟩⟩

/-! ### F52 etalon/etalonref08.FirstBroken -/
abbrev nt52 : Nat := 38
def sh52 : List (Nat × List Sh) := [(9, [.sl]), (15, [.sl]), (17, [.int .i64, .bool, .int .i64, .bool]), (18, [.int .i64, .bool, .int .i64, .bool]), (21, [.int .i64]), (22, [.bool]), (23, [.bool]), (25, [.bool]), (30, [.int .i64]), (31, [.bool]), (32, [.bool]), (34, [.bool])]
def r52_2 : List AOper := [oO 2 (.box (.tmp 0)), oO 4 (.mv (.const (.int .i64 0)))]
def r52_5 : List AOper := [oO 5 (.mv (.const (.int .i64 0)))]
def td52_7 : Option Tidy := (some ⟨[1, 2, 5], true, [⟨true, 2, 0, 30200, 1⟩, ⟨true, 2, 1, 30201, 4⟩], []⟩)
def r52_10 : List AOper := [oM 7 5, oO 8 (.faddr 1 (.tmp 2)), oO 9 (.load false 1 (.tmp 8)), oO 10 (.len (.tmp 9)), oO 11 (.bin .lss 3 (.tmp 7) (.tmp 10))]
def r52_15 : List AOper := [oO 14 (.faddr 1 (.tmp 2)), oO 15 (.load false 1 (.tmp 14)), oM 16 5, oO 17 (.iaddr 4 none (.tmp 15) (.tmp 16)), oO 18 (.load true 4 (.tmp 17)), oO 6 (.alloc [(.d (.v (.int .i64 0))), (.d (.v (.bool false))), (.d (.v (.int .i64 0))), (.d (.v (.bool false)))]), ⟨none, (.store 4 (.tmp 6) (.tmp 18)), none⟩]
def r52_17 : List AOper := [oM 19 1, oO 20 (.faddr 0 (.tmp 6)), oO 21 (.load false 1 (.tmp 20)), oO 22 (.iaddr 1 none (.tmp 19) (.tmp 21)), oO 23 (.load false 1 (.tmp 22)), oO 24 (.faddr 1 (.tmp 6)), oO 25 (.load false 1 (.tmp 24)), oO 26 (.bin .eql 4 (.tmp 23) (.tmp 25)), oM 27 26, ⟨(some 28), (.mv (.tmp 1)), (some (27, true))⟩, ⟨(some 29), (.faddr 2 (.tmp 6)), (some (27, true))⟩, ⟨(some 30), (.load false 1 (.tmp 29)), (some (27, true))⟩, ⟨(some 31), (.iaddr 1 none (.tmp 28) (.tmp 30)), (some (27, true))⟩, ⟨(some 32), (.load false 1 (.tmp 31)), (some (27, true))⟩, ⟨(some 33), (.faddr 3 (.tmp 6)), (some (27, true))⟩, ⟨(some 34), (.load false 1 (.tmp 33)), (some (27, true))⟩, ⟨(some 35), (.bin .neq 4 (.tmp 32) (.tmp 34)), (some (27, true))⟩, oO 36 (.pick (.tmp 27) (.tmp 35) (.const (.bool false)))]
def r52_20 : List AOper := [oM 37 5, oM 4 37]
def r52_21 : List AOper := [oM 12 5, oO 13 (.bin .add 3 (.tmp 12) (.const (.int .i64 1))), oM 5 13]
def r52_23 : List AOper := [oO 4 (.mv (.const (.int .i64 (-1))))]
def tr52 : List (Nat × Tidy) := [(0, ⟨[1, 2], true, [], []⟩), (1, ⟨[1, 2, 5], true, [], []⟩), (2, ⟨[1, 2, 5, 11], true, [], []⟩), (4, ⟨[1, 2, 5, 6], true, [], []⟩), (5, ⟨[1, 2, 5, 36], true, [], []⟩), (6, ⟨[4], true, [], []⟩), (3, ⟨[1, 2, 5], true, [], []⟩), (7, ⟨[4], true, [], []⟩)]
def tl52 : List (Nat × Tidy) := [(2, ⟨[1, 2, 5], true, [⟨true, 2, 0, 30200, 1⟩, ⟨true, 2, 1, 30201, 4⟩], []⟩)]
def rs52 : List AResV := [.tmp 4]
def p52_0_0 : PT St := pS [sl 1 (aV false [(cD dL)]), sl 2 (aV false [(cPtr 2 0)]), sl 5 (aV false [(cD (dI .i64))])] [eBox 2 [(cD dL), (cD dL)]]
def u52_0_0 {β : Type} (g : St → β) : Rows → Int → Rows → Rows → β := p52_0_0.unc g

def p52_0_1 : PT St := pS [sl 4 (aV false [(cD (dI .i64))])] []
def u52_0_1 {β : Type} (g : St → β) : Int → β := p52_0_1.unc g

def p52_0_2 : PT St := pS [sl 1 (aV false [(cD dL)]), sl 2 (aV false [(cPtr 2 0)]), sl 5 (aV false [(cD (dI .i64))]), sl 11 (aV false [(cD dB)])] [eBox 2 [(cD dL), (cD dL)]]
def u52_0_2 {β : Type} (g : St → β) : Rows → Int → Bool → Rows → Rows → β := p52_0_2.unc g

def pr52_0_0 : PT (List RV) := pRs [pR false [rD (dI .i64)]]
def ur52_0_0 {β : Type} (g : List RV → β) : Int → β := pr52_0_0.unc g

def E52_0g  : EnvK := EnvK.of [] noSeq
noncomputable def E52_0 : EnvK := E52_0g 
theorem eo52_0 : E52_0.Ok Try.prog := EnvK.of_ok noSeq_ok trivial

noncomputable def c52_0_7g  : MCode := (.seq (.seq (.region r52_10 [] (some ⟨[1, 2, 5, 11], true, [], []⟩)) (.cond (.tmp 11) .skip (.exit 0))) (.seq (.block 1 (.seq (.region r52_15 [] (some ⟨[1, 2, 5, 6], true, [], []⟩)) (.seq (.region r52_17 [] (some ⟨[1, 2, 5, 36], true, [], []⟩)) (.cond (.tmp 36) (.seq (.region r52_20 [] (some ⟨[4], true, [], []⟩)) .ret) .skip)))) (.region r52_21 [] (some ⟨[1, 2, 5], true, [], []⟩))))
noncomputable def c52_0_7 : MCode := c52_0_7g 
theorem g52_0_7 : c52_0_7.Good Try.prog E52_0 sh52 := ⟨⟨trivial, ⟨trivial, trivial⟩⟩, ⟨⟨trivial, ⟨trivial, ⟨⟨trivial, trivial⟩, trivial⟩⟩⟩, trivial⟩⟩
--CODE 7 0
def S52_0_0g  (α : Type) (x4 : Rows) (x7 : Rows) (x5 : Int) (kn : Int → Option α) (k1 : Int → Option α) (k2 : Int → Bool → Option α) : Option α :=
 cK (decide (x5 < ((List.length x7 : Nat) : Int)))
 (rowK x7 x5 [.int .i64, .bool, .int .i64, .bool]
 (fun (x9 : Int) (x10 : Bool) (x11 : Int) (x12 : Bool) => rowK x4 x9 [.bool]
 (fun (x13 : Bool) => cK (x13 == x10)
 (rowK x4 x11 [.bool]
 (fun (x14 : Bool) => cK (!(x14 == x12))
 (k1 x5)
 (kn (w64 (x5 + 1)))))
 (kn (w64 (x5 + 1))))))
 (k2 x5 (decide (x5 < ((List.length x7 : Nat) : Int))))
noncomputable def S52_0_0 (α : Type) (x4 : Rows) (x7 : Rows) (x5 : Int) (kn : Int → Option α) (k1 : Int → Option α) (k2 : Int → Bool → Option α) : Option α := S52_0_0g  α x4 x7 x5 kn k1 k2
noncomputable def R52_0_0 (α : Type) (x4 : Rows) (x7 : Rows) (k1 : Int → Option α) (k2 : Int → Bool → Option α) : Nat → Int → Option α
 | 0, _ => none
 | n + 1, x5 => S52_0_0 α x4 x7 x5 (R52_0_0 α x4 x7 k1 k2 n) k1 k2
noncomputable def L52_0_0 (α : Type) (x4 : Rows) (x7 : Rows) (k1 : Int → Option α) (k2 : Int → Bool → Option α) (x5 : Int) : Option α := R52_0_0 α x4 x7 k1 k2 fuel x5
abbrev TL52_0_0 : Type 1 := (α : Type) → Rows → Rows → (Int → Option α) → (Int → Bool → Option α) → Int → Option α
def F52_0_0 (v : TL52_0_0) (α : Type) (K : Exit → St → Option α) : Rows → Int → Rows → Rows → Option α := fun x4 x5 x6 x7 => v α x4 x7 (fun (y1 : Int) => u52_0_1 (K .ret) y1) (fun (y1 : Int) (y2 : Bool) => u52_0_2 (K (.exit 0)) x4 y1 y2 x6 x7) x5
theorem r52_0_0g   (α : Type) (K : Exit → St → Option α) (Kn : St → Option α) (x4 : Rows) (x5 : Int) (x6 : Rows) (x7 : Rows) : u52_0_0 (fun σ => runM Try.prog (E52_0g ) sh52 (c52_0_7g ) (thenK (fun σ => tidyK td52_7 σ Kn) K) σ) x4 x5 x6 x7 = S52_0_0g  α x4 x7 x5 (fun x5 => u52_0_0 Kn x4 x5 x6 x7) (fun (y1 : Int) => u52_0_1 (K .ret) y1) (fun (y1 : Int) (y2 : Bool) => u52_0_2 (K (.exit 0)) x4 y1 y2 x6 x7) := by kernel_rfl
theorem r52_0_0 (α : Type) (K : Exit → St → Option α) (Kn : St → Option α) (x4 : Rows) (x5 : Int) (x6 : Rows) (x7 : Rows) : u52_0_0 (fun σ => runM Try.prog E52_0 sh52 c52_0_7 (thenK (fun σ => tidyK td52_7 σ Kn) K) σ) x4 x5 x6 x7 = S52_0_0 α x4 x7 x5 (fun x5 => u52_0_0 Kn x4 x5 x6 x7) (fun (y1 : Int) => u52_0_1 (K .ret) y1) (fun (y1 : Int) (y2 : Bool) => u52_0_2 (K (.exit 0)) x4 y1 y2 x6 x7) := r52_0_0g  α K Kn x4 x5 x6 x7
theorem t52_0_0 (α : Type) (K : Exit → St → Option α) : ∀ (n : Nat) (x4 : Rows) (x5 : Int) (x6 : Rows) (x7 : Rows), R52_0_0 α x4 x7 (fun (y1 : Int) => u52_0_1 (K .ret) y1) (fun (y1 : Int) (y2 : Bool) => u52_0_2 (K (.exit 0)) x4 y1 y2 x6 x7) n x5 = u52_0_0 (loopT (runM Try.prog E52_0 sh52 c52_0_7) td52_7 K n) x4 x5 x6 x7 := by
 intro n
 induction n with
 | zero => intros; rfl
 | succ n ih => intro x4 x5 x6 x7; exact (congrArg (fun kn => S52_0_0 α x4 x7 x5 kn (fun (y1 : Int) => u52_0_1 (K .ret) y1) (fun (y1 : Int) (y2 : Bool) => u52_0_2 (K (.exit 0)) x4 y1 y2 x6 x7)) (funext fun x5 => ih x4 x5 x6 x7)).trans (r52_0_0 α K (loopT (runM Try.prog E52_0 sh52 c52_0_7) td52_7 K n) x4 x5 x6 x7).symm
theorem m52_0_0 : ∀ (α : Type) (K : Exit → St → Option α), F52_0_0 L52_0_0 α K = p52_0_0.unc fun σ => loopT (runM Try.prog E52_0 sh52 c52_0_7) td52_7 K fuel σ := fun α K => funext fun x4 => funext fun x5 => funext fun x6 => funext fun x7 => t52_0_0 α K fuel x4 x5 x6 x7

/-- etalon/etalonref08.FirstBroken -/
abbrev Tf52_0 : Type 1 := (α : Type) → Rows → Rows → Rows → (Int → Option α) → Option α
def f52_0g (vL52_0_0 : TL52_0_0) (α : Type) (x1 : Rows) (x2 : Rows) (x3 : Rows) (k1 : Int → Option α) : Option α :=
 vL52_0_0 α x3 x2
 (fun (x15 : Int) => k1 x15)
 (fun (x16 : Int) (x17 : Bool) => k1 (-1)) 0
noncomputable def f52_0 (α : Type) (x1 : Rows) (x2 : Rows) (x3 : Rows) (k1 : Int → Option α) : Option α := f52_0g L52_0_0 α x1 x2 x3 k1
def pa52_0 : PT (List DV) := pA [pV true [dL, dL], pV false [dL]]
def Fn52_0 (v : Tf52_0) (α : Type) (k : List RV → Option α) : Rows → Rows → Rows → Option α := fun x1 x2 x3 => v α x1 x2 x3 (fun (y1 : Int) => ur52_0_0 k y1)
noncomputable def cm52_0g (vL52_0_0 : TL52_0_0) : MCode := (.seq (.region r52_2 [] (some ⟨[1, 2], true, [], []⟩)) (.seq (.seq (.region r52_5 [] (some ⟨[1, 2, 5], true, [], []⟩)) (.block 0 (.loop td52_7 [⟨p52_0_0, F52_0_0 vL52_0_0⟩] c52_0_7))) (.seq (.region r52_23 [] (some ⟨[4], true, [], []⟩)) .ret)))
noncomputable def cm52_0 : MCode := cm52_0g L52_0_0
theorem gm52_0 : cm52_0.Good Try.prog E52_0 sh52 := ⟨trivial, ⟨⟨trivial, ⟨g52_0_7, m52_0_0, trivial⟩⟩, ⟨trivial, trivial⟩⟩⟩
theorem fm52_0g  (vL52_0_0 : TL52_0_0) (α : Type) (k : List RV → Option α) : Fn52_0 (f52_0g vL52_0_0) α k = pa52_0.unc fun ds => fnM Try.prog (E52_0g ) sh52 (cm52_0g vL52_0_0) rs52 k ds := by kernel_rfl
theorem fm52_0 : ∀ (α : Type) (k : List RV → Option α), Fn52_0 f52_0 α k = pa52_0.unc fun ds => fnM Try.prog E52_0 sh52 cm52_0 rs52 k ds := fm52_0g L52_0_0

theorem is52 : FnIs Try.prog 52 nt52 tr52 tl52 cm52_0.erase rs52 := ⟨Try.f52, Try.func52, rfl, by kernel_rfl, by kernel_rfl, by kernel_rfl⟩
theorem io52_0 : InstOk Try.prog 52 nt52 ⟨pa52_0, Fn52_0 f52_0⟩ := inst_ok eo52_0 followsTry is52 ⟨⟨sh52, cm52_0, by kernel_rfl, gm52_0, fm52_0⟩⟩

/-! ### F51 etalon/etalonref08.StateErr -/
abbrev nt51 : Nat := 11
def sh51 : List (Nat × List Sh) := [(8, [.sl])]
def r51_2 : List AOper := [oO 2 (.box (.tmp 0)), oO 4 (.mv (.const (.int .i64 0)))]
def r51_5 : List AOper := [oM 5 1, oO 6 (.len (.tmp 5)), oO 7 (.faddr 0 (.tmp 2)), oO 8 (.load false 1 (.tmp 7)), oO 9 (.len (.tmp 8)), oO 10 (.bin .neq 3 (.tmp 6) (.tmp 9))]
def r51_8 : List AOper := [oO 4 (.mv (.const (.int .i64 12)))]
def r51_10 : List AOper := [oO 4 (.mv (.const (.int .i64 0)))]
def tr51 : List (Nat × Tidy) := [(0, ⟨[1, 2], true, [], []⟩), (1, ⟨[10], true, [], []⟩), (2, ⟨[4], true, [], []⟩), (3, ⟨[4], true, [], []⟩)]
def tl51 : List (Nat × Tidy) := []
def rs51 : List AResV := [.tmp 4]
def pr51_0_0 : PT (List RV) := pRs [pR false [rD (dI .i64)]]
def ur51_0_0 {β : Type} (g : List RV → β) : Int → β := pr51_0_0.unc g

def E51_0g  : EnvK := EnvK.of [] noSeq
noncomputable def E51_0 : EnvK := E51_0g 
theorem eo51_0 : E51_0.Ok Try.prog := EnvK.of_ok noSeq_ok trivial

/-- etalon/etalonref08.StateErr -/
abbrev Tf51_0 : Type 1 := (α : Type) → Rows → Rows → Rows → (Int → Option α) → Option α
def f51_0g  (α : Type) (x1 : Rows) (x2 : Rows) (x3 : Rows) (k1 : Int → Option α) : Option α :=
 cK (((List.length x3 : Nat) : Int) != ((List.length x1 : Nat) : Int))
 (k1 12)
 (k1 0)
noncomputable def f51_0 (α : Type) (x1 : Rows) (x2 : Rows) (x3 : Rows) (k1 : Int → Option α) : Option α := f51_0g  α x1 x2 x3 k1
def pa51_0 : PT (List DV) := pA [pV true [dL, dL], pV false [dL]]
def Fn51_0 (v : Tf51_0) (α : Type) (k : List RV → Option α) : Rows → Rows → Rows → Option α := fun x1 x2 x3 => v α x1 x2 x3 (fun (y1 : Int) => ur51_0_0 k y1)
noncomputable def cm51_0g  : MCode := (.seq (.region r51_2 [] (some ⟨[1, 2], true, [], []⟩)) (.seq (.seq (.region r51_5 [] (some ⟨[10], true, [], []⟩)) (.cond (.tmp 10) (.seq (.region r51_8 [] (some ⟨[4], true, [], []⟩)) .ret) .skip)) (.seq (.region r51_10 [] (some ⟨[4], true, [], []⟩)) .ret)))
noncomputable def cm51_0 : MCode := cm51_0g 
theorem gm51_0 : cm51_0.Good Try.prog E51_0 sh51 := ⟨trivial, ⟨⟨trivial, ⟨⟨trivial, trivial⟩, trivial⟩⟩, ⟨trivial, trivial⟩⟩⟩
theorem fm51_0g   (α : Type) (k : List RV → Option α) : Fn51_0 (f51_0g ) α k = pa51_0.unc fun ds => fnM Try.prog (E51_0g ) sh51 (cm51_0g ) rs51 k ds := by kernel_rfl
theorem fm51_0 : ∀ (α : Type) (k : List RV → Option α), Fn51_0 f51_0 α k = pa51_0.unc fun ds => fnM Try.prog E51_0 sh51 cm51_0 rs51 k ds := fm51_0g 

theorem is51 : FnIs Try.prog 51 nt51 tr51 tl51 cm51_0.erase rs51 := ⟨Try.f51, Try.func51, rfl, by kernel_rfl, by kernel_rfl, by kernel_rfl⟩
theorem io51_0 : InstOk Try.prog 51 nt51 ⟨pa51_0, Fn51_0 f51_0⟩ := inst_ok eo51_0 followsTry is51 ⟨⟨sh51, cm51_0, by kernel_rfl, gm51_0, fm51_0⟩⟩

/-! ### F19 etalon/etalonbase.Within -/
abbrev nt19 : Nat := 15
def sh19 : List (Nat × List Sh) := []
def r19_2 : List AOper := [oO 6 (.mv (.const (.bool false)))]
def r19_4 : List AOper := [oM 7 1, oM 8 0, oO 9 (.bin .leq 3 (.tmp 7) (.tmp 8)), oM 10 9, ⟨(some 11), (.mv (.tmp 0)), (some (10, true))⟩, ⟨(some 12), (.mv (.tmp 2)), (some (10, true))⟩, ⟨(some 13), (.bin .leq 3 (.tmp 11) (.tmp 12)), (some (10, true))⟩, oO 14 (.pick (.tmp 10) (.tmp 13) (.const (.bool false))), oM 6 14]
def tr19 : List (Nat × Tidy) := [(0, ⟨[0, 1, 2], true, [], []⟩), (1, ⟨[6], true, [], []⟩)]
def tl19 : List (Nat × Tidy) := []
def rs19 : List AResV := [.tmp 6]
def pr19_0_0 : PT (List RV) := pRs [pR false [rD dB]]
def ur19_0_0 {β : Type} (g : List RV → β) : Bool → β := pr19_0_0.unc g

def E19_0g  : EnvK := EnvK.of [] noSeq
noncomputable def E19_0 : EnvK := E19_0g 
theorem eo19_0 : E19_0.Ok Try.prog := EnvK.of_ok noSeq_ok trivial

/-- etalon/etalonbase.Within -/
abbrev Tf19_0 : Type 1 := (α : Type) → Int → Int → Int → (Bool → Option α) → Option α
def f19_0g  (α : Type) (x1 : Int) (x2 : Int) (x3 : Int) (k1 : Bool → Option α) : Option α :=
 cK (decide (x2 ≤ x1))
 (k1 (decide (x1 ≤ x3)))
 (k1 false)
noncomputable def f19_0 (α : Type) (x1 : Int) (x2 : Int) (x3 : Int) (k1 : Bool → Option α) : Option α := f19_0g  α x1 x2 x3 k1
def pa19_0 : PT (List DV) := pA [pV false [(dI .i64)], pV false [(dI .i64)], pV false [(dI .i64)]]
def Fn19_0 (v : Tf19_0) (α : Type) (k : List RV → Option α) : Int → Int → Int → Option α := fun x1 x2 x3 => v α x1 x2 x3 (fun (y1 : Bool) => ur19_0_0 k y1)
noncomputable def cm19_0g  : MCode := (.seq (.region r19_2 [] (some ⟨[0, 1, 2], true, [], []⟩)) (.seq (.region r19_4 [] (some ⟨[6], true, [], []⟩)) .ret))
noncomputable def cm19_0 : MCode := cm19_0g 
theorem gm19_0 : cm19_0.Good Try.prog E19_0 sh19 := ⟨trivial, ⟨trivial, trivial⟩⟩
theorem fm19_0g   (α : Type) (k : List RV → Option α) : Fn19_0 (f19_0g ) α k = pa19_0.unc fun ds => fnM Try.prog (E19_0g ) sh19 (cm19_0g ) rs19 k ds := by kernel_rfl
theorem fm19_0 : ∀ (α : Type) (k : List RV → Option α), Fn19_0 f19_0 α k = pa19_0.unc fun ds => fnM Try.prog E19_0 sh19 cm19_0 rs19 k ds := fm19_0g 

theorem is19 : FnIs Try.prog 19 nt19 tr19 tl19 cm19_0.erase rs19 := ⟨Try.f19, Try.func19, rfl, by kernel_rfl, by kernel_rfl, by kernel_rfl⟩
theorem io19_0 : InstOk Try.prog 19 nt19 ⟨pa19_0, Fn19_0 f19_0⟩ := inst_ok eo19_0 followsTry is19 ⟨⟨sh19, cm19_0, by kernel_rfl, gm19_0, fm19_0⟩⟩

/-! ### F108 etalon/etalonbase.HasText -/
abbrev nt108 : Nat := 18
def sh108 : List (Nat × List Sh) := [(14, [.str]), (15, [.str])]
def r108_2 : List AOper := [oO 4 (.mv (.const (.bool false)))]
def r108_5 : List AOper := [oO 5 (.mv (.const (.int .i64 0)))]
def td108_7 : Option Tidy := (some ⟨[0, 1, 5], true, [], []⟩)
def r108_10 : List AOper := [oM 6 5, oM 7 0, oO 8 (.len (.tmp 7)), oO 9 (.bin .lss 3 (.tmp 6) (.tmp 8))]
def r108_15 : List AOper := [oM 12 0, oM 13 5, oO 14 (.iaddr 1 none (.tmp 12) (.tmp 13)), oO 15 (.load false 1 (.tmp 14)), oM 16 1, oO 17 (.bin .eql 9 (.tmp 15) (.tmp 16))]
def r108_18 : List AOper := [oO 4 (.mv (.const (.bool true)))]
def r108_19 : List AOper := [oM 10 5, oO 11 (.bin .add 3 (.tmp 10) (.const (.int .i64 1))), oM 5 11]
def r108_21 : List AOper := [oO 4 (.mv (.const (.bool false)))]
def tr108 : List (Nat × Tidy) := [(0, ⟨[0, 1], true, [], []⟩), (1, ⟨[0, 1, 5], true, [], []⟩), (2, ⟨[0, 1, 5, 9], true, [], []⟩), (4, ⟨[0, 1, 5, 17], true, [], []⟩), (5, ⟨[4], true, [], []⟩), (3, ⟨[0, 1, 5], true, [], []⟩), (6, ⟨[4], true, [], []⟩)]
def tl108 : List (Nat × Tidy) := [(2, ⟨[0, 1, 5], true, [], []⟩)]
def rs108 : List AResV := [.tmp 4]
def p108_0_0 : PT St := pS [sl 0 (aV false [(cD dL)]), sl 1 (aV false [(cD dS)]), sl 5 (aV false [(cD (dI .i64))])] []
def u108_0_0 {β : Type} (g : St → β) : Rows → ByteArray → Int → β := p108_0_0.unc g

def p108_0_1 : PT St := pS [sl 4 (aV false [(cD dB)])] []
def u108_0_1 {β : Type} (g : St → β) : Bool → β := p108_0_1.unc g

def p108_0_2 : PT St := pS [sl 0 (aV false [(cD dL)]), sl 1 (aV false [(cD dS)]), sl 5 (aV false [(cD (dI .i64))]), sl 9 (aV false [(cD dB)])] []
def u108_0_2 {β : Type} (g : St → β) : Rows → ByteArray → Int → Bool → β := p108_0_2.unc g

def pr108_0_0 : PT (List RV) := pRs [pR false [rD dB]]
def ur108_0_0 {β : Type} (g : List RV → β) : Bool → β := pr108_0_0.unc g

def E108_0g  : EnvK := EnvK.of [] noSeq
noncomputable def E108_0 : EnvK := E108_0g 
theorem eo108_0 : E108_0.Ok Try.prog := EnvK.of_ok noSeq_ok trivial

noncomputable def c108_0_7g  : MCode := (.seq (.seq (.region r108_10 [] (some ⟨[0, 1, 5, 9], true, [], []⟩)) (.cond (.tmp 9) .skip (.exit 0))) (.seq (.block 1 (.seq (.region r108_15 [] (some ⟨[0, 1, 5, 17], true, [], []⟩)) (.cond (.tmp 17) (.seq (.region r108_18 [] (some ⟨[4], true, [], []⟩)) .ret) .skip))) (.region r108_19 [] (some ⟨[0, 1, 5], true, [], []⟩))))
noncomputable def c108_0_7 : MCode := c108_0_7g 
theorem g108_0_7 : c108_0_7.Good Try.prog E108_0 sh108 := ⟨⟨trivial, ⟨trivial, trivial⟩⟩, ⟨⟨trivial, ⟨⟨trivial, trivial⟩, trivial⟩⟩, trivial⟩⟩
--CODE 7 0
def S108_0_0g  (α : Type) (x3 : Rows) (x4 : ByteArray) (x5 : Int) (kn : Int → Option α) (k1 : Option α) (k2 : Int → Bool → Option α) : Option α :=
 cK (decide (x5 < ((List.length x3 : Nat) : Int)))
 (rowK x3 x5 [.str]
 (fun (x7 : ByteArray) => cK (x7.toList == x4.toList)
 (k1)
 (kn (w64 (x5 + 1)))))
 (k2 x5 (decide (x5 < ((List.length x3 : Nat) : Int))))
noncomputable def S108_0_0 (α : Type) (x3 : Rows) (x4 : ByteArray) (x5 : Int) (kn : Int → Option α) (k1 : Option α) (k2 : Int → Bool → Option α) : Option α := S108_0_0g  α x3 x4 x5 kn k1 k2
noncomputable def R108_0_0 (α : Type) (x3 : Rows) (x4 : ByteArray) (k1 : Option α) (k2 : Int → Bool → Option α) : Nat → Int → Option α
 | 0, _ => none
 | n + 1, x5 => S108_0_0 α x3 x4 x5 (R108_0_0 α x3 x4 k1 k2 n) k1 k2
noncomputable def L108_0_0 (α : Type) (x3 : Rows) (x4 : ByteArray) (k1 : Option α) (k2 : Int → Bool → Option α) (x5 : Int) : Option α := R108_0_0 α x3 x4 k1 k2 fuel x5
abbrev TL108_0_0 : Type 1 := (α : Type) → Rows → ByteArray → (Option α) → (Int → Bool → Option α) → Int → Option α
def F108_0_0 (v : TL108_0_0) (α : Type) (K : Exit → St → Option α) : Rows → ByteArray → Int → Option α := fun x3 x4 x5 => v α x3 x4 (u108_0_1 (K .ret) true) (fun (y1 : Int) (y2 : Bool) => u108_0_2 (K (.exit 0)) x3 x4 y1 y2) x5
theorem r108_0_0g   (α : Type) (K : Exit → St → Option α) (Kn : St → Option α) (x3 : Rows) (x4 : ByteArray) (x5 : Int) : u108_0_0 (fun σ => runM Try.prog (E108_0g ) sh108 (c108_0_7g ) (thenK (fun σ => tidyK td108_7 σ Kn) K) σ) x3 x4 x5 = S108_0_0g  α x3 x4 x5 (fun x5 => u108_0_0 Kn x3 x4 x5) (u108_0_1 (K .ret) true) (fun (y1 : Int) (y2 : Bool) => u108_0_2 (K (.exit 0)) x3 x4 y1 y2) := by kernel_rfl
theorem r108_0_0 (α : Type) (K : Exit → St → Option α) (Kn : St → Option α) (x3 : Rows) (x4 : ByteArray) (x5 : Int) : u108_0_0 (fun σ => runM Try.prog E108_0 sh108 c108_0_7 (thenK (fun σ => tidyK td108_7 σ Kn) K) σ) x3 x4 x5 = S108_0_0 α x3 x4 x5 (fun x5 => u108_0_0 Kn x3 x4 x5) (u108_0_1 (K .ret) true) (fun (y1 : Int) (y2 : Bool) => u108_0_2 (K (.exit 0)) x3 x4 y1 y2) := r108_0_0g  α K Kn x3 x4 x5
theorem t108_0_0 (α : Type) (K : Exit → St → Option α) : ∀ (n : Nat) (x3 : Rows) (x4 : ByteArray) (x5 : Int), R108_0_0 α x3 x4 (u108_0_1 (K .ret) true) (fun (y1 : Int) (y2 : Bool) => u108_0_2 (K (.exit 0)) x3 x4 y1 y2) n x5 = u108_0_0 (loopT (runM Try.prog E108_0 sh108 c108_0_7) td108_7 K n) x3 x4 x5 := by
 intro n
 induction n with
 | zero => intros; rfl
 | succ n ih => intro x3 x4 x5; exact (congrArg (fun kn => S108_0_0 α x3 x4 x5 kn (u108_0_1 (K .ret) true) (fun (y1 : Int) (y2 : Bool) => u108_0_2 (K (.exit 0)) x3 x4 y1 y2)) (funext fun x5 => ih x3 x4 x5)).trans (r108_0_0 α K (loopT (runM Try.prog E108_0 sh108 c108_0_7) td108_7 K n) x3 x4 x5).symm
theorem m108_0_0 : ∀ (α : Type) (K : Exit → St → Option α), F108_0_0 L108_0_0 α K = p108_0_0.unc fun σ => loopT (runM Try.prog E108_0 sh108 c108_0_7) td108_7 K fuel σ := fun α K => funext fun x3 => funext fun x4 => funext fun x5 => t108_0_0 α K fuel x3 x4 x5

/-- etalon/etalonbase.HasText -/
abbrev Tf108_0 : Type 1 := (α : Type) → Rows → ByteArray → (Bool → Option α) → Option α
def f108_0g (vL108_0_0 : TL108_0_0) (α : Type) (x1 : Rows) (x2 : ByteArray) (k1 : Bool → Option α) : Option α :=
 vL108_0_0 α x1 x2
 (k1 true)
 (fun (x8 : Int) (x9 : Bool) => k1 false) 0
noncomputable def f108_0 (α : Type) (x1 : Rows) (x2 : ByteArray) (k1 : Bool → Option α) : Option α := f108_0g L108_0_0 α x1 x2 k1
def pa108_0 : PT (List DV) := pA [pV false [dL], pV false [dS]]
def Fn108_0 (v : Tf108_0) (α : Type) (k : List RV → Option α) : Rows → ByteArray → Option α := fun x1 x2 => v α x1 x2 (fun (y1 : Bool) => ur108_0_0 k y1)
noncomputable def cm108_0g (vL108_0_0 : TL108_0_0) : MCode := (.seq (.region r108_2 [] (some ⟨[0, 1], true, [], []⟩)) (.seq (.seq (.region r108_5 [] (some ⟨[0, 1, 5], true, [], []⟩)) (.block 0 (.loop td108_7 [⟨p108_0_0, F108_0_0 vL108_0_0⟩] c108_0_7))) (.seq (.region r108_21 [] (some ⟨[4], true, [], []⟩)) .ret)))
noncomputable def cm108_0 : MCode := cm108_0g L108_0_0
theorem gm108_0 : cm108_0.Good Try.prog E108_0 sh108 := ⟨trivial, ⟨⟨trivial, ⟨g108_0_7, m108_0_0, trivial⟩⟩, ⟨trivial, trivial⟩⟩⟩
theorem fm108_0g  (vL108_0_0 : TL108_0_0) (α : Type) (k : List RV → Option α) : Fn108_0 (f108_0g vL108_0_0) α k = pa108_0.unc fun ds => fnM Try.prog (E108_0g ) sh108 (cm108_0g vL108_0_0) rs108 k ds := by kernel_rfl
theorem fm108_0 : ∀ (α : Type) (k : List RV → Option α), Fn108_0 f108_0 α k = pa108_0.unc fun ds => fnM Try.prog E108_0 sh108 cm108_0 rs108 k ds := fm108_0g L108_0_0

theorem is108 : FnIs Try.prog 108 nt108 tr108 tl108 cm108_0.erase rs108 := ⟨Try.f108, Try.func108, rfl, by kernel_rfl, by kernel_rfl, by kernel_rfl⟩
theorem io108_0 : InstOk Try.prog 108 nt108 ⟨pa108_0, Fn108_0 f108_0⟩ := inst_ok eo108_0 followsTry is108 ⟨⟨sh108, cm108_0, by kernel_rfl, gm108_0, fm108_0⟩⟩

/-! ### F107 etalon/etalonbase.IsName -/
abbrev nt107 : Nat := 55
def sh107 : List (Nat × List Sh) := []
def r107_2 : List AOper := [oO 2 (.mv (.const (.bool false)))]
def r107_5 : List AOper := [oM 6 0, oO 7 (.pure (oB (.call { callee := .builtin .len, args := #[(.tmp 6)], argTypes := #[9] }) 3)), oO 8 (.bin .lss 3 (.tmp 7) (.const (.int .i64 1))), oM 9 8, ⟨(some 10), (.mv (.tmp 0)), (some (9, false))⟩, ⟨(some 11), (.pure (oB (.call { callee := .builtin .len, args := #[(.tmp 10)], argTypes := #[9] }) 3)), (some (9, false))⟩, ⟨(some 12), (.bin .gtr 3 (.tmp 11) (.const (.int .i64 12))), (some (9, false))⟩, oO 13 (.pick (.tmp 9) (.const (.bool true)) (.tmp 12))]
def r107_8 : List AOper := [oO 2 (.mv (.const (.bool false)))]
def r107_11 : List AOper := [oO 3 (.mv (.const (.int .i64 0)))]
def td107_13 : Option Tidy := (some ⟨[0, 3], true, [], []⟩)
def r107_16 : List AOper := [oM 14 3, oM 15 0, oO 16 (.pure (oB (.call { callee := .builtin .len, args := #[(.tmp 15)], argTypes := #[9] }) 3)), oO 17 (.bin .lss 3 (.tmp 14) (.tmp 16))]
def r107_21 : List AOper := [oM 20 0, oM 21 3, oO 22 (.pure (oB (.index 9 (.tmp 20) (.tmp 21)) 5)), oM 4 22]
def r107_23 : List AOper := [oM 23 4, oO 24 (.bin .geq 5 (.tmp 23) (.const (.int .u8 97))), oM 25 24, ⟨(some 26), (.mv (.tmp 4)), (some (25, true))⟩, ⟨(some 27), (.bin .leq 5 (.tmp 26) (.const (.int .u8 122))), (some (25, true))⟩, oO 28 (.pick (.tmp 25) (.tmp 27) (.const (.bool false))), oM 29 28, ⟨(some 30), (.mv (.tmp 4)), (some (29, false))⟩, ⟨(some 31), (.bin .geq 5 (.tmp 30) (.const (.int .u8 65))), (some (29, false))⟩, ⟨(some 32), (.mv (.tmp 31)), (some (29, false))⟩, ⟨(some 33), (.mv (.tmp 4)), (some (32, true))⟩, ⟨(some 34), (.bin .leq 5 (.tmp 33) (.const (.int .u8 90))), (some (32, true))⟩, ⟨(some 35), (.pick (.tmp 32) (.tmp 34) (.const (.bool false))), (some (29, false))⟩, oO 36 (.pick (.tmp 29) (.const (.bool true)) (.tmp 35)), oM 5 36]
def r107_25 : List AOper := [oM 37 5, oO 38 (.pure (oB (.unOp .not 4 (.tmp 37)) 4)), oM 39 38, ⟨(some 40), (.mv (.tmp 3)), (some (39, true))⟩, ⟨(some 41), (.bin .eql 3 (.tmp 40) (.const (.int .i64 0))), (some (39, true))⟩, ⟨(some 42), (.mv (.tmp 41)), (some (39, true))⟩, ⟨(some 43), (.mv (.tmp 4)), (some (42, false))⟩, ⟨(some 44), (.bin .neq 5 (.tmp 43) (.const (.int .u8 45))), (some (42, false))⟩, ⟨(some 45), (.mv (.tmp 44)), (some (42, false))⟩, ⟨(some 46), (.mv (.tmp 4)), (some (45, true))⟩, ⟨(some 47), (.bin .lss 5 (.tmp 46) (.const (.int .u8 48))), (some (45, true))⟩, ⟨(some 48), (.mv (.tmp 47)), (some (45, true))⟩, ⟨(some 49), (.mv (.tmp 4)), (some (48, false))⟩, ⟨(some 50), (.bin .gtr 5 (.tmp 49) (.const (.int .u8 57))), (some (48, false))⟩, ⟨(some 51), (.pick (.tmp 48) (.const (.bool true)) (.tmp 50)), (some (45, true))⟩, ⟨(some 52), (.pick (.tmp 45) (.tmp 51) (.const (.bool false))), (some (42, false))⟩, ⟨(some 53), (.pick (.tmp 42) (.const (.bool true)) (.tmp 52)), (some (39, true))⟩, oO 54 (.pick (.tmp 39) (.tmp 53) (.const (.bool false)))]
def r107_28 : List AOper := [oO 2 (.mv (.const (.bool false)))]
def r107_29 : List AOper := [oM 18 3, oO 19 (.bin .add 3 (.tmp 18) (.const (.int .i64 1))), oM 3 19]
def r107_31 : List AOper := [oO 2 (.mv (.const (.bool true)))]
def tr107 : List (Nat × Tidy) := [(0, ⟨[0], true, [], []⟩), (1, ⟨[0, 13], true, [], []⟩), (2, ⟨[2], true, [], []⟩), (3, ⟨[0, 3], true, [], []⟩), (4, ⟨[0, 3, 17], true, [], []⟩), (6, ⟨[0, 3, 4], true, [], []⟩), (7, ⟨[0, 3, 4, 5], true, [], []⟩), (8, ⟨[0, 3, 54], true, [], []⟩), (9, ⟨[2], true, [], []⟩), (5, ⟨[0, 3], true, [], []⟩), (10, ⟨[2], true, [], []⟩)]
def tl107 : List (Nat × Tidy) := [(4, ⟨[0, 3], true, [], []⟩)]
def rs107 : List AResV := [.tmp 2]
def p107_0_0 : PT St := pS [sl 0 (aV false [(cD dS)]), sl 3 (aV false [(cD (dI .i64))]), sl 4 (aV false [(cD (dI .u8))])] []
def u107_0_0 {β : Type} (g : St → β) : ByteArray → Int → Int → β := p107_0_0.unc g

def p107_0_1 : PT St := pS [sl 0 (aV false [(cD dS)]), sl 3 (aV false [(cD (dI .i64))]), sl 4 (aV false [(cD (dI .u8))]), sl 5 (aV false [(cD dB)])] []
def u107_0_1 {β : Type} (g : St → β) : ByteArray → Int → Int → Bool → β := p107_0_1.unc g

def p107_0_2 : PT St := pS [sl 0 (aV false [(cD dS)]), sl 3 (aV false [(cD (dI .i64))]), sl 54 (aV false [(cD dB)])] []
def u107_0_2 {β : Type} (g : St → β) : ByteArray → Int → Bool → β := p107_0_2.unc g

def p107_0_3 : PT St := pS [sl 0 (aV false [(cD dS)]), sl 3 (aV false [(cD (dI .i64))])] []
def u107_0_3 {β : Type} (g : St → β) : ByteArray → Int → β := p107_0_3.unc g

def p107_0_4 : PT St := pS [sl 2 (aV false [(cD dB)])] []
def u107_0_4 {β : Type} (g : St → β) : Bool → β := p107_0_4.unc g

def p107_0_5 : PT St := pS [sl 0 (aV false [(cD dS)]), sl 3 (aV false [(cD (dI .i64))]), sl 17 (aV false [(cD dB)])] []
def u107_0_5 {β : Type} (g : St → β) : ByteArray → Int → Bool → β := p107_0_5.unc g

def pr107_0_0 : PT (List RV) := pRs [pR false [rD dB]]
def ur107_0_0 {β : Type} (g : List RV → β) : Bool → β := pr107_0_0.unc g

def E107_0g  : EnvK := EnvK.of [] noSeq
noncomputable def E107_0 : EnvK := E107_0g 
theorem eo107_0 : E107_0.Ok Try.prog := EnvK.of_ok noSeq_ok trivial

noncomputable def c107_0_24g  : MCode := (.region r107_25 [] (some ⟨[0, 3, 54], true, [], []⟩))
noncomputable def c107_0_24 : MCode := c107_0_24g 
theorem g107_0_24 : c107_0_24.Good Try.prog E107_0 sh107 := trivial
--CODE 24 0
abbrev TJ107_0_1 : Type 1 := (α : Type) → Int → Int → Bool → (Bool → Option α) → Option α
def J107_0_1g  (α : Type) (x13 : Int) (x14 : Int) (x15 : Bool) (k1 : Bool → Option α) : Option α :=
 cK (!x15)
 (cK (x13 == 0)
 (k1 true)
 (cK (x14 != 45)
 (cK (decide (x14 < 48))
 (k1 true)
 (k1 (decide (57 < x14))))
 (k1 false)))
 (k1 false)
noncomputable def J107_0_1 (α : Type) (x13 : Int) (x14 : Int) (x15 : Bool) (k1 : Bool → Option α) : Option α := J107_0_1g  α x13 x14 x15 k1
def F107_0_1 (v : TJ107_0_1) (α : Type) (K : Exit → St → Option α) : ByteArray → Int → Int → Bool → Option α := fun x12 x13 x14 x15 => v α x13 x14 x15 (fun (y1 : Bool) => u107_0_2 (K .normal) x12 x13 y1) 
theorem m107_0_1g   (α : Type) (K : Exit → St → Option α) : F107_0_1 (J107_0_1g ) α K = p107_0_1.unc fun σ => runM Try.prog (E107_0g ) sh107 (c107_0_24g ) K σ := by kernel_rfl
theorem m107_0_1 : ∀ (α : Type) (K : Exit → St → Option α), F107_0_1 J107_0_1 α K = p107_0_1.unc fun σ => runM Try.prog E107_0 sh107 c107_0_24 K σ := m107_0_1g 

noncomputable def c107_0_22g  : MCode := (.region r107_23 [] (some ⟨[0, 3, 4, 5], true, [], []⟩))
noncomputable def c107_0_22 : MCode := c107_0_22g 
theorem g107_0_22 : c107_0_22.Good Try.prog E107_0 sh107 := trivial
--CODE 22 0
abbrev TJ107_0_0 : Type 1 := (α : Type) → Int → (Bool → Option α) → Option α
def J107_0_0g  (α : Type) (x8 : Int) (k1 : Bool → Option α) : Option α :=
 cK (decide (97 ≤ x8))
 (cK (decide (x8 ≤ 122))
 (k1 true)
 (cK (decide (65 ≤ x8))
 (k1 (decide (x8 ≤ 90)))
 (k1 false)))
 (cK (decide (65 ≤ x8))
 (k1 (decide (x8 ≤ 90)))
 (k1 false))
noncomputable def J107_0_0 (α : Type) (x8 : Int) (k1 : Bool → Option α) : Option α := J107_0_0g  α x8 k1
def F107_0_0 (v : TJ107_0_0) (α : Type) (K : Exit → St → Option α) : ByteArray → Int → Int → Option α := fun x6 x7 x8 => v α x8 (fun (y1 : Bool) => u107_0_1 (K .normal) x6 x7 x8 y1) 
theorem m107_0_0g   (α : Type) (K : Exit → St → Option α) : F107_0_0 (J107_0_0g ) α K = p107_0_0.unc fun σ => runM Try.prog (E107_0g ) sh107 (c107_0_22g ) K σ := by kernel_rfl
theorem m107_0_0 : ∀ (α : Type) (K : Exit → St → Option α), F107_0_0 J107_0_0 α K = p107_0_0.unc fun σ => runM Try.prog E107_0 sh107 c107_0_22 K σ := m107_0_0g 

noncomputable def c107_0_13g (vJ107_0_0 : TJ107_0_0) (vJ107_0_1 : TJ107_0_1) : MCode := (.seq (.seq (.region r107_16 [] (some ⟨[0, 3, 17], true, [], []⟩)) (.cond (.tmp 17) .skip (.exit 0))) (.seq (.block 1 (.seq (.region r107_21 [] (some ⟨[0, 3, 4], true, [], []⟩)) (.seq (.mark [⟨p107_0_0, F107_0_0 vJ107_0_0⟩] c107_0_22) (.seq (.mark [⟨p107_0_1, F107_0_1 vJ107_0_1⟩] c107_0_24) (.cond (.tmp 54) (.seq (.region r107_28 [] (some ⟨[2], true, [], []⟩)) .ret) .skip))))) (.region r107_29 [] (some ⟨[0, 3], true, [], []⟩))))
noncomputable def c107_0_13 : MCode := c107_0_13g J107_0_0 J107_0_1
theorem g107_0_13 : c107_0_13.Good Try.prog E107_0 sh107 := ⟨⟨trivial, ⟨trivial, trivial⟩⟩, ⟨⟨trivial, ⟨⟨g107_0_22, m107_0_0, trivial⟩, ⟨⟨g107_0_24, m107_0_1, trivial⟩, ⟨⟨trivial, trivial⟩, trivial⟩⟩⟩⟩, trivial⟩⟩
--CODE 13 0
def S107_0_2g (vJ107_0_0 : TJ107_0_0) (vJ107_0_1 : TJ107_0_1) (α : Type) (x2 : ByteArray) (x3 : Int) (kn : Int → Option α) (k1 : Option α) (k2 : Int → Bool → Option α) : Option α :=
 cK (decide (x3 < ((ByteArray.size x2 : Nat) : Int)))
 (sixK x2 x3
 (fun (x5 : UInt8) => vJ107_0_0 α ((UInt8.toNat x5 : Nat) : Int)
 (fun (x10 : Bool) => vJ107_0_1 α x3 ((UInt8.toNat x5 : Nat) : Int) x10
 (fun (x17 : Bool) => cK x17
 (k1)
 (kn (w64 (x3 + 1)))))))
 (k2 x3 (decide (x3 < ((ByteArray.size x2 : Nat) : Int))))
noncomputable def S107_0_2 (α : Type) (x2 : ByteArray) (x3 : Int) (kn : Int → Option α) (k1 : Option α) (k2 : Int → Bool → Option α) : Option α := S107_0_2g J107_0_0 J107_0_1 α x2 x3 kn k1 k2
noncomputable def R107_0_2 (α : Type) (x2 : ByteArray) (k1 : Option α) (k2 : Int → Bool → Option α) : Nat → Int → Option α
 | 0, _ => none
 | n + 1, x3 => S107_0_2 α x2 x3 (R107_0_2 α x2 k1 k2 n) k1 k2
noncomputable def L107_0_2 (α : Type) (x2 : ByteArray) (k1 : Option α) (k2 : Int → Bool → Option α) (x3 : Int) : Option α := R107_0_2 α x2 k1 k2 fuel x3
abbrev TL107_0_2 : Type 1 := (α : Type) → ByteArray → (Option α) → (Int → Bool → Option α) → Int → Option α
def F107_0_2 (v : TL107_0_2) (α : Type) (K : Exit → St → Option α) : ByteArray → Int → Option α := fun x2 x3 => v α x2 (u107_0_4 (K .ret) false) (fun (y1 : Int) (y2 : Bool) => u107_0_5 (K (.exit 0)) x2 y1 y2) x3
theorem r107_0_2g  (vJ107_0_0 : TJ107_0_0) (vJ107_0_1 : TJ107_0_1) (α : Type) (K : Exit → St → Option α) (Kn : St → Option α) (x2 : ByteArray) (x3 : Int) : u107_0_3 (fun σ => runM Try.prog (E107_0g ) sh107 (c107_0_13g vJ107_0_0 vJ107_0_1) (thenK (fun σ => tidyK td107_13 σ Kn) K) σ) x2 x3 = S107_0_2g vJ107_0_0 vJ107_0_1 α x2 x3 (fun x3 => u107_0_3 Kn x2 x3) (u107_0_4 (K .ret) false) (fun (y1 : Int) (y2 : Bool) => u107_0_5 (K (.exit 0)) x2 y1 y2) := by kernel_rfl
theorem r107_0_2 (α : Type) (K : Exit → St → Option α) (Kn : St → Option α) (x2 : ByteArray) (x3 : Int) : u107_0_3 (fun σ => runM Try.prog E107_0 sh107 c107_0_13 (thenK (fun σ => tidyK td107_13 σ Kn) K) σ) x2 x3 = S107_0_2 α x2 x3 (fun x3 => u107_0_3 Kn x2 x3) (u107_0_4 (K .ret) false) (fun (y1 : Int) (y2 : Bool) => u107_0_5 (K (.exit 0)) x2 y1 y2) := r107_0_2g J107_0_0 J107_0_1 α K Kn x2 x3
theorem t107_0_2 (α : Type) (K : Exit → St → Option α) : ∀ (n : Nat) (x2 : ByteArray) (x3 : Int), R107_0_2 α x2 (u107_0_4 (K .ret) false) (fun (y1 : Int) (y2 : Bool) => u107_0_5 (K (.exit 0)) x2 y1 y2) n x3 = u107_0_3 (loopT (runM Try.prog E107_0 sh107 c107_0_13) td107_13 K n) x2 x3 := by
 intro n
 induction n with
 | zero => intros; rfl
 | succ n ih => intro x2 x3; exact (congrArg (fun kn => S107_0_2 α x2 x3 kn (u107_0_4 (K .ret) false) (fun (y1 : Int) (y2 : Bool) => u107_0_5 (K (.exit 0)) x2 y1 y2)) (funext fun x3 => ih x2 x3)).trans (r107_0_2 α K (loopT (runM Try.prog E107_0 sh107 c107_0_13) td107_13 K n) x2 x3).symm
theorem m107_0_2 : ∀ (α : Type) (K : Exit → St → Option α), F107_0_2 L107_0_2 α K = p107_0_3.unc fun σ => loopT (runM Try.prog E107_0 sh107 c107_0_13) td107_13 K fuel σ := fun α K => funext fun x2 => funext fun x3 => t107_0_2 α K fuel x2 x3

/-- etalon/etalonbase.IsName -/
abbrev Tf107_0 : Type 1 := (α : Type) → ByteArray → (Bool → Option α) → Option α
def f107_0g (vL107_0_2 : TL107_0_2) (α : Type) (x1 : ByteArray) (k1 : Bool → Option α) : Option α :=
 cK (decide (((ByteArray.size x1 : Nat) : Int) < 1))
 (k1 false)
 (cK (decide (12 < ((ByteArray.size x1 : Nat) : Int)))
 (k1 false)
 (vL107_0_2 α x1
 (k1 false)
 (fun (x19 : Int) (x20 : Bool) => k1 true) 0))
noncomputable def f107_0 (α : Type) (x1 : ByteArray) (k1 : Bool → Option α) : Option α := f107_0g L107_0_2 α x1 k1
def pa107_0 : PT (List DV) := pA [pV false [dS]]
def Fn107_0 (v : Tf107_0) (α : Type) (k : List RV → Option α) : ByteArray → Option α := fun x1 => v α x1 (fun (y1 : Bool) => ur107_0_0 k y1)
noncomputable def cm107_0g (vL107_0_2 : TL107_0_2) : MCode := (.seq (.region r107_2 [] (some ⟨[0], true, [], []⟩)) (.seq (.seq (.region r107_5 [] (some ⟨[0, 13], true, [], []⟩)) (.cond (.tmp 13) (.seq (.region r107_8 [] (some ⟨[2], true, [], []⟩)) .ret) .skip)) (.seq (.seq (.region r107_11 [] (some ⟨[0, 3], true, [], []⟩)) (.block 0 (.loop td107_13 [⟨p107_0_3, F107_0_2 vL107_0_2⟩] c107_0_13))) (.seq (.region r107_31 [] (some ⟨[2], true, [], []⟩)) .ret))))
noncomputable def cm107_0 : MCode := cm107_0g L107_0_2
theorem gm107_0 : cm107_0.Good Try.prog E107_0 sh107 := ⟨trivial, ⟨⟨trivial, ⟨⟨trivial, trivial⟩, trivial⟩⟩, ⟨⟨trivial, ⟨g107_0_13, m107_0_2, trivial⟩⟩, ⟨trivial, trivial⟩⟩⟩⟩
theorem fm107_0g  (vL107_0_2 : TL107_0_2) (α : Type) (k : List RV → Option α) : Fn107_0 (f107_0g vL107_0_2) α k = pa107_0.unc fun ds => fnM Try.prog (E107_0g ) sh107 (cm107_0g vL107_0_2) rs107 k ds := by kernel_rfl
theorem fm107_0 : ∀ (α : Type) (k : List RV → Option α), Fn107_0 f107_0 α k = pa107_0.unc fun ds => fnM Try.prog E107_0 sh107 cm107_0 rs107 k ds := fm107_0g L107_0_2

theorem is107 : FnIs Try.prog 107 nt107 tr107 tl107 cm107_0.erase rs107 := ⟨Try.f107, Try.func107, rfl, by kernel_rfl, by kernel_rfl, by kernel_rfl⟩
theorem io107_0 : InstOk Try.prog 107 nt107 ⟨pa107_0, Fn107_0 f107_0⟩ := inst_ok eo107_0 followsTry is107 ⟨⟨sh107, cm107_0, by kernel_rfl, gm107_0, fm107_0⟩⟩

/-! ### F105 (etalon/grow.state).switched -/
abbrev nt105 : Nat := 9
def sh105 : List (Nat × List Sh) := []
def r105_2 : List AOper := [oO 4 (.mv (.const (.int .i64 0)))]
def r105_4 : List AOper := [oM 5 0, oM 6 1, oO 7 (.bin .shl 171 (.const (.int .i64 1)) (.tmp 6)), oO 8 (.bin .xor 171 (.tmp 5) (.tmp 7)), oM 4 8]
def tr105 : List (Nat × Tidy) := [(0, ⟨[0, 1], true, [], []⟩), (1, ⟨[4], true, [], []⟩)]
def tl105 : List (Nat × Tidy) := []
def rs105 : List AResV := [.tmp 4]
def pr105_0_0 : PT (List RV) := pRs [pR false [rD (dI .i64)]]
def ur105_0_0 {β : Type} (g : List RV → β) : Int → β := pr105_0_0.unc g

def E105_0g  : EnvK := EnvK.of [] noSeq
noncomputable def E105_0 : EnvK := E105_0g 
theorem eo105_0 : E105_0.Ok Try.prog := EnvK.of_ok noSeq_ok trivial

/-- (etalon/grow.state).switched -/
abbrev Tf105_0 : Type 1 := (α : Type) → Int → Int → (Int → Option α) → Option α
def f105_0g  (α : Type) (x1 : Int) (x2 : Int) (k1 : Int → Option α) : Option α :=
 gK (decide (0 ≤ x2)) (k1 (iXor .i64 x1 (w64 (1 * 2 ^ (min (Int.toNat x2) 64)))))
noncomputable def f105_0 (α : Type) (x1 : Int) (x2 : Int) (k1 : Int → Option α) : Option α := f105_0g  α x1 x2 k1
def pa105_0 : PT (List DV) := pA [pV false [(dI .i64)], pV false [(dI .i64)]]
def Fn105_0 (v : Tf105_0) (α : Type) (k : List RV → Option α) : Int → Int → Option α := fun x1 x2 => v α x1 x2 (fun (y1 : Int) => ur105_0_0 k y1)
noncomputable def cm105_0g  : MCode := (.seq (.region r105_2 [] (some ⟨[0, 1], true, [], []⟩)) (.seq (.region r105_4 [] (some ⟨[4], true, [], []⟩)) .ret))
noncomputable def cm105_0 : MCode := cm105_0g 
theorem gm105_0 : cm105_0.Good Try.prog E105_0 sh105 := ⟨trivial, ⟨trivial, trivial⟩⟩
theorem fm105_0g   (α : Type) (k : List RV → Option α) : Fn105_0 (f105_0g ) α k = pa105_0.unc fun ds => fnM Try.prog (E105_0g ) sh105 (cm105_0g ) rs105 k ds := by kernel_rfl
theorem fm105_0 : ∀ (α : Type) (k : List RV → Option α), Fn105_0 f105_0 α k = pa105_0.unc fun ds => fnM Try.prog E105_0 sh105 cm105_0 rs105 k ds := fm105_0g 

theorem is105 : FnIs Try.prog 105 nt105 tr105 tl105 cm105_0.erase rs105 := ⟨Try.f105, Try.func105, rfl, by kernel_rfl, by kernel_rfl, by kernel_rfl⟩
theorem io105_0 : InstOk Try.prog 105 nt105 ⟨pa105_0, Fn105_0 f105_0⟩ := inst_ok eo105_0 followsTry is105 ⟨⟨sh105, cm105_0, by kernel_rfl, gm105_0, fm105_0⟩⟩

/-! ### F111 (etalon/grow.chamber).next -/
abbrev nt111 : Nat := 6
def sh111 : List (Nat × List Sh) := []
def r111_2 : List AOper := [oO 2 (.box (.tmp 0)), oO 3 (.box (.tmp 1)), oO 4 (.mv (.const .nilFunc))]
def r111_4 : List AOper := [oO 5 (.mkfn 131 [(.tmp 2), (.tmp 3)]), oM 4 5]
def tr111 : List (Nat × Tidy) := [(0, ⟨[2, 3], true, [], []⟩), (1, ⟨[4], true, [], []⟩)]
def tl111 : List (Nat × Tidy) := []
def rs111 : List AResV := [.tmp 4]
def pr111_0_0 : PT (List RV) := pRs [pR false [rD (dFn 131 [(dP [dL, dL] 0), (dP [(dI .i64)] 0)])]]
def ur111_0_0 {β : Type} (g : List RV → β) : Rows → Rows → Int → β := pr111_0_0.unc g

def E111_0g  : EnvK := EnvK.of [] noSeq
noncomputable def E111_0 : EnvK := E111_0g 
theorem eo111_0 : E111_0.Ok Try.prog := EnvK.of_ok noSeq_ok trivial

/-- (etalon/grow.chamber).next -/
abbrev Tf111_0 : Type 1 := (α : Type) → Rows → Rows → Int → (Rows → Rows → Int → Option α) → Option α
def f111_0g  (α : Type) (x1 : Rows) (x2 : Rows) (x3 : Int) (k1 : Rows → Rows → Int → Option α) : Option α :=
 k1 x1 x2 x3
noncomputable def f111_0 (α : Type) (x1 : Rows) (x2 : Rows) (x3 : Int) (k1 : Rows → Rows → Int → Option α) : Option α := f111_0g  α x1 x2 x3 k1
def pa111_0 : PT (List DV) := pA [pV true [dL, dL], pV false [(dI .i64)]]
def Fn111_0 (v : Tf111_0) (α : Type) (k : List RV → Option α) : Rows → Rows → Int → Option α := fun x1 x2 x3 => v α x1 x2 x3 (fun (y1 : Rows) (y2 : Rows) (y3 : Int) => ur111_0_0 k y1 y2 y3)
noncomputable def cm111_0g  : MCode := (.seq (.region r111_2 [] (some ⟨[2, 3], true, [], []⟩)) (.seq (.region r111_4 [] (some ⟨[4], true, [], []⟩)) .ret))
noncomputable def cm111_0 : MCode := cm111_0g 
theorem gm111_0 : cm111_0.Good Try.prog E111_0 sh111 := ⟨trivial, ⟨trivial, trivial⟩⟩
theorem fm111_0g   (α : Type) (k : List RV → Option α) : Fn111_0 (f111_0g ) α k = pa111_0.unc fun ds => fnM Try.prog (E111_0g ) sh111 (cm111_0g ) rs111 k ds := by kernel_rfl
theorem fm111_0 : ∀ (α : Type) (k : List RV → Option α), Fn111_0 f111_0 α k = pa111_0.unc fun ds => fnM Try.prog E111_0 sh111 cm111_0 rs111 k ds := fm111_0g 

theorem is111 : FnIs Try.prog 111 nt111 tr111 tl111 cm111_0.erase rs111 := ⟨Try.f111, Try.func111, rfl, by kernel_rfl, by kernel_rfl, by kernel_rfl⟩
theorem io111_0 : InstOk Try.prog 111 nt111 ⟨pa111_0, Fn111_0 f111_0⟩ := inst_ok eo111_0 followsTry is111 ⟨⟨sh111, cm111_0, by kernel_rfl, gm111_0, fm111_0⟩⟩

/-! ### F143 math/bits.Mul64 -/
abbrev nt143 : Nat := 51
def sh143 : List (Nat × List Sh) := []
def r143_2 : List AOper := [oO 4 (.mv (.const (.int .u64 0))), oO 5 (.mv (.const (.int .u64 0)))]
def r143_4 : List AOper := [oM 14 0, oO 15 (.bin .and 205 (.tmp 14) (.const (.int .u64 4294967295))), oM 6 15]
def r143_6 : List AOper := [oM 16 0, oO 17 (.bin .shr 205 (.tmp 16) (.const (.int .u64 32))), oM 7 17]
def r143_8 : List AOper := [oM 18 1, oO 19 (.bin .and 205 (.tmp 18) (.const (.int .u64 4294967295))), oM 8 19]
def r143_10 : List AOper := [oM 20 1, oO 21 (.bin .shr 205 (.tmp 20) (.const (.int .u64 32))), oM 9 21]
def r143_12 : List AOper := [oM 22 6, oM 23 8, oO 24 (.bin .mul 205 (.tmp 22) (.tmp 23)), oM 10 24]
def r143_14 : List AOper := [oM 25 7, oM 26 8, oO 27 (.bin .mul 205 (.tmp 25) (.tmp 26)), oM 28 10, oO 29 (.bin .shr 205 (.tmp 28) (.const (.int .u64 32))), oO 30 (.bin .add 205 (.tmp 27) (.tmp 29)), oM 11 30]
def r143_16 : List AOper := [oM 31 11, oO 32 (.bin .and 205 (.tmp 31) (.const (.int .u64 4294967295))), oM 12 32]
def r143_18 : List AOper := [oM 33 11, oO 34 (.bin .shr 205 (.tmp 33) (.const (.int .u64 32))), oM 13 34]
def r143_20 : List AOper := [oM 35 12, oM 36 6, oM 37 9, oO 38 (.bin .mul 205 (.tmp 36) (.tmp 37)), oO 39 (.bin .add 205 (.tmp 35) (.tmp 38)), oM 12 39]
def r143_22 : List AOper := [oM 40 7, oM 41 9, oO 42 (.bin .mul 205 (.tmp 40) (.tmp 41)), oM 43 13, oO 44 (.bin .add 205 (.tmp 42) (.tmp 43)), oM 45 12, oO 46 (.bin .shr 205 (.tmp 45) (.const (.int .u64 32))), oO 47 (.bin .add 205 (.tmp 44) (.tmp 46)), oM 4 47]
def r143_24 : List AOper := [oM 48 0, oM 49 1, oO 50 (.bin .mul 205 (.tmp 48) (.tmp 49)), oM 5 50]
def tr143 : List (Nat × Tidy) := [(0, ⟨[0, 1], true, [], []⟩), (1, ⟨[0, 1, 6], true, [], []⟩), (2, ⟨[0, 1, 6, 7], true, [], []⟩), (3, ⟨[0, 1, 6, 7, 8], true, [], []⟩), (4, ⟨[0, 1, 6, 7, 8, 9], true, [], []⟩), (5, ⟨[0, 1, 6, 7, 8, 9, 10], true, [], []⟩), (6, ⟨[0, 1, 6, 7, 9, 11], true, [], []⟩), (7, ⟨[0, 1, 6, 7, 9, 11, 12], true, [], []⟩), (8, ⟨[0, 1, 6, 7, 9, 12, 13], true, [], []⟩), (9, ⟨[0, 1, 7, 9, 12, 13], true, [], []⟩), (10, ⟨[0, 1, 4], true, [], []⟩), (11, ⟨[4, 5], true, [], []⟩)]
def tl143 : List (Nat × Tidy) := []
def rs143 : List AResV := [.tmp 4, .tmp 5]
def pr143_0_0 : PT (List RV) := pRs [pR false [rD (dI .u64)], pR false [rD (dI .u64)]]
def ur143_0_0 {β : Type} (g : List RV → β) : Int → Int → β := pr143_0_0.unc g

def E143_0g  : EnvK := EnvK.of [] noSeq
noncomputable def E143_0 : EnvK := E143_0g 
theorem eo143_0 : E143_0.Ok Try.prog := EnvK.of_ok noSeq_ok trivial

/-- math/bits.Mul64 -/
abbrev Tf143_0 : Type 1 := (α : Type) → Int → Int → (Int → Int → Option α) → Option α
def f143_0g  (α : Type) (x1 : Int) (x2 : Int) (k1 : Int → Int → Option α) : Option α :=
 k1 (IntKind.wrap .u64 ((IntKind.wrap .u64 ((IntKind.wrap .u64 ((Int.fdiv x1 (2 ^ 32)) * (Int.fdiv x2 (2 ^ 32)))) + (Int.fdiv (IntKind.wrap .u64 ((IntKind.wrap .u64 ((Int.fdiv x1 (2 ^ 32)) * (iAnd .u64 x2 4294967295))) + (Int.fdiv (IntKind.wrap .u64 ((iAnd .u64 x1 4294967295) * (iAnd .u64 x2 4294967295))) (2 ^ 32)))) (2 ^ 32)))) + (Int.fdiv (IntKind.wrap .u64 ((iAnd .u64 (IntKind.wrap .u64 ((IntKind.wrap .u64 ((Int.fdiv x1 (2 ^ 32)) * (iAnd .u64 x2 4294967295))) + (Int.fdiv (IntKind.wrap .u64 ((iAnd .u64 x1 4294967295) * (iAnd .u64 x2 4294967295))) (2 ^ 32)))) 4294967295) + (IntKind.wrap .u64 ((iAnd .u64 x1 4294967295) * (Int.fdiv x2 (2 ^ 32)))))) (2 ^ 32)))) (IntKind.wrap .u64 (x1 * x2))
noncomputable def f143_0 (α : Type) (x1 : Int) (x2 : Int) (k1 : Int → Int → Option α) : Option α := f143_0g  α x1 x2 k1
def pa143_0 : PT (List DV) := pA [pV false [(dI .u64)], pV false [(dI .u64)]]
def Fn143_0 (v : Tf143_0) (α : Type) (k : List RV → Option α) : Int → Int → Option α := fun x1 x2 => v α x1 x2 (fun (y1 : Int) (y2 : Int) => ur143_0_0 k y1 y2)
noncomputable def cm143_0g  : MCode := (.seq (.region r143_2 [] (some ⟨[0, 1], true, [], []⟩)) (.seq (.region r143_4 [] (some ⟨[0, 1, 6], true, [], []⟩)) (.seq (.region r143_6 [] (some ⟨[0, 1, 6, 7], true, [], []⟩)) (.seq (.region r143_8 [] (some ⟨[0, 1, 6, 7, 8], true, [], []⟩)) (.seq (.region r143_10 [] (some ⟨[0, 1, 6, 7, 8, 9], true, [], []⟩)) (.seq (.region r143_12 [] (some ⟨[0, 1, 6, 7, 8, 9, 10], true, [], []⟩)) (.seq (.region r143_14 [] (some ⟨[0, 1, 6, 7, 9, 11], true, [], []⟩)) (.seq (.region r143_16 [] (some ⟨[0, 1, 6, 7, 9, 11, 12], true, [], []⟩)) (.seq (.region r143_18 [] (some ⟨[0, 1, 6, 7, 9, 12, 13], true, [], []⟩)) (.seq (.region r143_20 [] (some ⟨[0, 1, 7, 9, 12, 13], true, [], []⟩)) (.seq (.region r143_22 [] (some ⟨[0, 1, 4], true, [], []⟩)) (.seq (.region r143_24 [] (some ⟨[4, 5], true, [], []⟩)) .ret))))))))))))
noncomputable def cm143_0 : MCode := cm143_0g 
theorem gm143_0 : cm143_0.Good Try.prog E143_0 sh143 := ⟨trivial, ⟨trivial, ⟨trivial, ⟨trivial, ⟨trivial, ⟨trivial, ⟨trivial, ⟨trivial, ⟨trivial, ⟨trivial, ⟨trivial, ⟨trivial, trivial⟩⟩⟩⟩⟩⟩⟩⟩⟩⟩⟩⟩
theorem fm143_0g   (α : Type) (k : List RV → Option α) : Fn143_0 (f143_0g ) α k = pa143_0.unc fun ds => fnM Try.prog (E143_0g ) sh143 (cm143_0g ) rs143 k ds := by kernel_rfl
theorem fm143_0 : ∀ (α : Type) (k : List RV → Option α), Fn143_0 f143_0 α k = pa143_0.unc fun ds => fnM Try.prog E143_0 sh143 cm143_0 rs143 k ds := fm143_0g 

theorem is143 : FnIs Try.prog 143 nt143 tr143 tl143 cm143_0.erase rs143 := ⟨Try.f143, Try.func143, rfl, by kernel_rfl, by kernel_rfl, by kernel_rfl⟩
theorem io143_0 : InstOk Try.prog 143 nt143 ⟨pa143_0, Fn143_0 f143_0⟩ := inst_ok eo143_0 followsTry is143 ⟨⟨sh143, cm143_0, by kernel_rfl, gm143_0, fm143_0⟩⟩

/-! ### F129 (etalon/grow.state).on -/
abbrev nt129 : Nat := 10
def sh129 : List (Nat × List Sh) := []
def r129_2 : List AOper := [oO 4 (.mv (.const (.bool false)))]
def r129_4 : List AOper := [oM 5 0, oM 6 1, oO 7 (.bin .shr 171 (.tmp 5) (.tmp 6)), oO 8 (.bin .and 171 (.tmp 7) (.const (.int .i64 1))), oO 9 (.bin .eql 171 (.tmp 8) (.const (.int .i64 1))), oM 4 9]
def tr129 : List (Nat × Tidy) := [(0, ⟨[0, 1], true, [], []⟩), (1, ⟨[4], true, [], []⟩)]
def tl129 : List (Nat × Tidy) := []
def rs129 : List AResV := [.tmp 4]
def pr129_0_0 : PT (List RV) := pRs [pR false [rD dB]]
def ur129_0_0 {β : Type} (g : List RV → β) : Bool → β := pr129_0_0.unc g

def E129_0g  : EnvK := EnvK.of [] noSeq
noncomputable def E129_0 : EnvK := E129_0g 
theorem eo129_0 : E129_0.Ok Try.prog := EnvK.of_ok noSeq_ok trivial

/-- (etalon/grow.state).on -/
abbrev Tf129_0 : Type 1 := (α : Type) → Int → Int → (Bool → Option α) → Option α
def f129_0g  (α : Type) (x1 : Int) (x2 : Int) (k1 : Bool → Option α) : Option α :=
 gK (decide (0 ≤ x2)) (k1 ((iAnd .i64 (Int.fdiv x1 (2 ^ (min (Int.toNat x2) 64))) 1) == 1))
noncomputable def f129_0 (α : Type) (x1 : Int) (x2 : Int) (k1 : Bool → Option α) : Option α := f129_0g  α x1 x2 k1
def pa129_0 : PT (List DV) := pA [pV false [(dI .i64)], pV false [(dI .i64)]]
def Fn129_0 (v : Tf129_0) (α : Type) (k : List RV → Option α) : Int → Int → Option α := fun x1 x2 => v α x1 x2 (fun (y1 : Bool) => ur129_0_0 k y1)
noncomputable def cm129_0g  : MCode := (.seq (.region r129_2 [] (some ⟨[0, 1], true, [], []⟩)) (.seq (.region r129_4 [] (some ⟨[4], true, [], []⟩)) .ret))
noncomputable def cm129_0 : MCode := cm129_0g 
theorem gm129_0 : cm129_0.Good Try.prog E129_0 sh129 := ⟨trivial, ⟨trivial, trivial⟩⟩
theorem fm129_0g   (α : Type) (k : List RV → Option α) : Fn129_0 (f129_0g ) α k = pa129_0.unc fun ds => fnM Try.prog (E129_0g ) sh129 (cm129_0g ) rs129 k ds := by kernel_rfl
theorem fm129_0 : ∀ (α : Type) (k : List RV → Option α), Fn129_0 f129_0 α k = pa129_0.unc fun ds => fnM Try.prog E129_0 sh129 cm129_0 rs129 k ds := fm129_0g 

theorem is129 : FnIs Try.prog 129 nt129 tr129 tl129 cm129_0.erase rs129 := ⟨Try.f129, Try.func129, rfl, by kernel_rfl, by kernel_rfl, by kernel_rfl⟩
theorem io129_0 : InstOk Try.prog 129 nt129 ⟨pa129_0, Fn129_0 f129_0⟩ := inst_ok eo129_0 followsTry is129 ⟨⟨sh129, cm129_0, by kernel_rfl, gm129_0, fm129_0⟩⟩

/-! ### F126 etalon/grow.numberOf -/
abbrev nt126 : Nat := 20
def sh126 : List (Nat × List Sh) := [(11, [.bool]), (12, [.bool])]
def r126_2 : List AOper := [oO 2 (.mv (.const (.int .i64 0)))]
def r126_4 : List AOper := [oO 3 (.mv (.const (.int .i64 0)))]
def r126_7 : List AOper := [oM 6 0, oO 7 (.len (.tmp 6)), oO 8 (.mv (.const (.int .i64 0)))]
def td126_9 : Option Tidy := (some ⟨[3, 6, 7, 8], true, [⟨false, 6, 0, 20006, 1⟩], []⟩)
def r126_11 : List AOper := [oO 9 (.bin .lss 3 (.tmp 8) (.tmp 7))]
def r126_17 : List AOper := [oM 10 8, oO 11 (.iaddr 1 none (.tmp 6) (.tmp 8)), oO 12 (.load false 1 (.tmp 11)), oM 4 10, oM 5 12]
def r126_19 : List AOper := [oM 13 5]
def r126_21 : List AOper := [oM 14 3, oM 15 4, oO 16 (.bin .shl 171 (.const (.int .i64 1)) (.tmp 15)), oO 17 (.bin .or 171 (.tmp 14) (.tmp 16)), oM 3 17]
def r126_22 : List AOper := [oO 18 (.bin .add 3 (.tmp 8) (.const (.int .i64 1))), oM 8 18]
def r126_24 : List AOper := [oM 19 3, oM 2 19]
def tr126 : List (Nat × Tidy) := [(0, ⟨[0], true, [], []⟩), (1, ⟨[0, 3], true, [], []⟩), (2, ⟨[3, 6, 7, 8], true, [], []⟩), (3, ⟨[3, 6, 7, 8, 9], true, [], []⟩), (4, ⟨[3, 4, 5, 6, 7, 8], true, [], []⟩), (5, ⟨[3, 4, 6, 7, 8, 13], true, [], []⟩), (6, ⟨[3, 6, 7, 8], true, [], []⟩), (7, ⟨[3, 6, 7, 8], true, [], []⟩), (8, ⟨[2], true, [], []⟩)]
def tl126 : List (Nat × Tidy) := [(3, ⟨[3, 6, 7, 8], true, [⟨false, 6, 0, 20006, 1⟩], []⟩)]
def rs126 : List AResV := [.tmp 2]
def p126_0_0 : PT St := pS [sl 3 (aV false [(cD (dI .i64))]), sl 6 (aV false [(cD dL)]), sl 7 (aV false [(cD (dI .i64))]), sl 8 (aV false [(cD (dI .i64))])] []
def u126_0_0 {β : Type} (g : St → β) : Int → Rows → Int → Int → β := p126_0_0.unc g

def p126_0_1 : PT St := pS [sl 3 (aV false [(cD (dI .i64))]), sl 6 (aV false [(cD dL)]), sl 7 (aV false [(cD (dI .i64))]), sl 8 (aV false [(cD (dI .i64))]), sl 9 (aV false [(cD dB)])] []
def u126_0_1 {β : Type} (g : St → β) : Int → Rows → Int → Int → Bool → β := p126_0_1.unc g

def pr126_0_0 : PT (List RV) := pRs [pR false [rD (dI .i64)]]
def ur126_0_0 {β : Type} (g : List RV → β) : Int → β := pr126_0_0.unc g

def E126_0g  : EnvK := EnvK.of [] noSeq
noncomputable def E126_0 : EnvK := E126_0g 
theorem eo126_0 : E126_0.Ok Try.prog := EnvK.of_ok noSeq_ok trivial

noncomputable def c126_0_9g  : MCode := (.seq (.region r126_11 [] (some ⟨[3, 6, 7, 8, 9], true, [], []⟩)) (.seq (.cond (.tmp 9) .skip (.exit 0)) (.seq (.block 1 (.seq (.region r126_17 [] (some ⟨[3, 4, 5, 6, 7, 8], true, [], []⟩)) (.seq (.region r126_19 [] (some ⟨[3, 4, 6, 7, 8, 13], true, [], []⟩)) (.cond (.tmp 13) (.region r126_21 [] (some ⟨[3, 6, 7, 8], true, [], []⟩)) .skip)))) (.region r126_22 [] (some ⟨[3, 6, 7, 8], true, [], []⟩)))))
noncomputable def c126_0_9 : MCode := c126_0_9g 
theorem g126_0_9 : c126_0_9.Good Try.prog E126_0 sh126 := ⟨trivial, ⟨⟨trivial, trivial⟩, ⟨⟨trivial, ⟨trivial, ⟨trivial, trivial⟩⟩⟩, trivial⟩⟩⟩
--CODE 9 0
def S126_0_0g  (α : Type) (x3 : Rows) (x4 : Int) (x2 : Int) (x5 : Int) (kn : Int → Int → Option α) (k1 : Int → Int → Bool → Option α) : Option α :=
 cK (decide (x5 < x4))
 (rowK x3 x5 [.bool]
 (fun (x7 : Bool) => cK x7
 (gK (decide (0 ≤ x5)) (kn (iOr .i64 x2 (w64 (1 * 2 ^ (min (Int.toNat x5) 64)))) (w64 (x5 + 1))))
 (kn x2 (w64 (x5 + 1)))))
 (k1 x2 x5 (decide (x5 < x4)))
noncomputable def S126_0_0 (α : Type) (x3 : Rows) (x4 : Int) (x2 : Int) (x5 : Int) (kn : Int → Int → Option α) (k1 : Int → Int → Bool → Option α) : Option α := S126_0_0g  α x3 x4 x2 x5 kn k1
noncomputable def R126_0_0 (α : Type) (x3 : Rows) (x4 : Int) (k1 : Int → Int → Bool → Option α) : Nat → Int → Int → Option α
 | 0, _, _ => none
 | n + 1, x2, x5 => S126_0_0 α x3 x4 x2 x5 (R126_0_0 α x3 x4 k1 n) k1
noncomputable def L126_0_0 (α : Type) (x3 : Rows) (x4 : Int) (k1 : Int → Int → Bool → Option α) (x2 : Int) (x5 : Int) : Option α := R126_0_0 α x3 x4 k1 fuel x2 x5
abbrev TL126_0_0 : Type 1 := (α : Type) → Rows → Int → (Int → Int → Bool → Option α) → Int → Int → Option α
def F126_0_0 (v : TL126_0_0) (α : Type) (K : Exit → St → Option α) : Int → Rows → Int → Int → Option α := fun x2 x3 x4 x5 => v α x3 x4 (fun (y1 : Int) (y2 : Int) (y3 : Bool) => u126_0_1 (K (.exit 0)) y1 x3 x4 y2 y3) x2 x5
theorem r126_0_0g   (α : Type) (K : Exit → St → Option α) (Kn : St → Option α) (x2 : Int) (x3 : Rows) (x4 : Int) (x5 : Int) : u126_0_0 (fun σ => runM Try.prog (E126_0g ) sh126 (c126_0_9g ) (thenK (fun σ => tidyK td126_9 σ Kn) K) σ) x2 x3 x4 x5 = S126_0_0g  α x3 x4 x2 x5 (fun x2 x5 => u126_0_0 Kn x2 x3 x4 x5) (fun (y1 : Int) (y2 : Int) (y3 : Bool) => u126_0_1 (K (.exit 0)) y1 x3 x4 y2 y3) := by kernel_rfl
theorem r126_0_0 (α : Type) (K : Exit → St → Option α) (Kn : St → Option α) (x2 : Int) (x3 : Rows) (x4 : Int) (x5 : Int) : u126_0_0 (fun σ => runM Try.prog E126_0 sh126 c126_0_9 (thenK (fun σ => tidyK td126_9 σ Kn) K) σ) x2 x3 x4 x5 = S126_0_0 α x3 x4 x2 x5 (fun x2 x5 => u126_0_0 Kn x2 x3 x4 x5) (fun (y1 : Int) (y2 : Int) (y3 : Bool) => u126_0_1 (K (.exit 0)) y1 x3 x4 y2 y3) := r126_0_0g  α K Kn x2 x3 x4 x5
theorem t126_0_0 (α : Type) (K : Exit → St → Option α) : ∀ (n : Nat) (x2 : Int) (x3 : Rows) (x4 : Int) (x5 : Int), R126_0_0 α x3 x4 (fun (y1 : Int) (y2 : Int) (y3 : Bool) => u126_0_1 (K (.exit 0)) y1 x3 x4 y2 y3) n x2 x5 = u126_0_0 (loopT (runM Try.prog E126_0 sh126 c126_0_9) td126_9 K n) x2 x3 x4 x5 := by
 intro n
 induction n with
 | zero => intros; rfl
 | succ n ih => intro x2 x3 x4 x5; exact (congrArg (fun kn => S126_0_0 α x3 x4 x2 x5 kn (fun (y1 : Int) (y2 : Int) (y3 : Bool) => u126_0_1 (K (.exit 0)) y1 x3 x4 y2 y3)) (funext fun x2 => funext fun x5 => ih x2 x3 x4 x5)).trans (r126_0_0 α K (loopT (runM Try.prog E126_0 sh126 c126_0_9) td126_9 K n) x2 x3 x4 x5).symm
theorem m126_0_0 : ∀ (α : Type) (K : Exit → St → Option α), F126_0_0 L126_0_0 α K = p126_0_0.unc fun σ => loopT (runM Try.prog E126_0 sh126 c126_0_9) td126_9 K fuel σ := fun α K => funext fun x2 => funext fun x3 => funext fun x4 => funext fun x5 => t126_0_0 α K fuel x2 x3 x4 x5

/-- etalon/grow.numberOf -/
abbrev Tf126_0 : Type 1 := (α : Type) → Rows → (Int → Option α) → Option α
def f126_0g (vL126_0_0 : TL126_0_0) (α : Type) (x1 : Rows) (k1 : Int → Option α) : Option α :=
 vL126_0_0 α x1 ((List.length x1 : Nat) : Int)
 (fun (x8 : Int) (x9 : Int) (x10 : Bool) => k1 x8) 0 0
noncomputable def f126_0 (α : Type) (x1 : Rows) (k1 : Int → Option α) : Option α := f126_0g L126_0_0 α x1 k1
def pa126_0 : PT (List DV) := pA [pV false [dL]]
def Fn126_0 (v : Tf126_0) (α : Type) (k : List RV → Option α) : Rows → Option α := fun x1 => v α x1 (fun (y1 : Int) => ur126_0_0 k y1)
noncomputable def cm126_0g (vL126_0_0 : TL126_0_0) : MCode := (.seq (.region r126_2 [] (some ⟨[0], true, [], []⟩)) (.seq (.region r126_4 [] (some ⟨[0, 3], true, [], []⟩)) (.seq (.seq (.region r126_7 [] (some ⟨[3, 6, 7, 8], true, [], []⟩)) (.block 0 (.loop td126_9 [⟨p126_0_0, F126_0_0 vL126_0_0⟩] c126_0_9))) (.seq (.region r126_24 [] (some ⟨[2], true, [], []⟩)) .ret))))
noncomputable def cm126_0 : MCode := cm126_0g L126_0_0
theorem gm126_0 : cm126_0.Good Try.prog E126_0 sh126 := ⟨trivial, ⟨trivial, ⟨⟨trivial, ⟨g126_0_9, m126_0_0, trivial⟩⟩, ⟨trivial, trivial⟩⟩⟩⟩
theorem fm126_0g  (vL126_0_0 : TL126_0_0) (α : Type) (k : List RV → Option α) : Fn126_0 (f126_0g vL126_0_0) α k = pa126_0.unc fun ds => fnM Try.prog (E126_0g ) sh126 (cm126_0g vL126_0_0) rs126 k ds := by kernel_rfl
theorem fm126_0 : ∀ (α : Type) (k : List RV → Option α), Fn126_0 f126_0 α k = pa126_0.unc fun ds => fnM Try.prog E126_0 sh126 cm126_0 rs126 k ds := fm126_0g L126_0_0

theorem is126 : FnIs Try.prog 126 nt126 tr126 tl126 cm126_0.erase rs126 := ⟨Try.f126, Try.func126, rfl, by kernel_rfl, by kernel_rfl, by kernel_rfl⟩
theorem io126_0 : InstOk Try.prog 126 nt126 ⟨pa126_0, Fn126_0 f126_0⟩ := inst_ok eo126_0 followsTry is126 ⟨⟨sh126, cm126_0, by kernel_rfl, gm126_0, fm126_0⟩⟩

/-! ### F78 etalon/grow.within -/
abbrev nt78 : Nat := 15
def sh78 : List (Nat × List Sh) := []
def r78_2 : List AOper := [oO 6 (.mv (.const (.bool false)))]
def r78_4 : List AOper := [oM 7 1, oM 8 0, oO 9 (.bin .leq 3 (.tmp 7) (.tmp 8)), oM 10 9, ⟨(some 11), (.mv (.tmp 0)), (some (10, true))⟩, ⟨(some 12), (.mv (.tmp 2)), (some (10, true))⟩, ⟨(some 13), (.bin .leq 3 (.tmp 11) (.tmp 12)), (some (10, true))⟩, oO 14 (.pick (.tmp 10) (.tmp 13) (.const (.bool false))), oM 6 14]
def tr78 : List (Nat × Tidy) := [(0, ⟨[0, 1, 2], true, [], []⟩), (1, ⟨[6], true, [], []⟩)]
def tl78 : List (Nat × Tidy) := []
def rs78 : List AResV := [.tmp 6]
def pr78_0_0 : PT (List RV) := pRs [pR false [rD dB]]
def ur78_0_0 {β : Type} (g : List RV → β) : Bool → β := pr78_0_0.unc g

def E78_0g  : EnvK := EnvK.of [] noSeq
noncomputable def E78_0 : EnvK := E78_0g 
theorem eo78_0 : E78_0.Ok Try.prog := EnvK.of_ok noSeq_ok trivial

/-- etalon/grow.within -/
abbrev Tf78_0 : Type 1 := (α : Type) → Int → Int → Int → (Bool → Option α) → Option α
def f78_0g  (α : Type) (x1 : Int) (x2 : Int) (x3 : Int) (k1 : Bool → Option α) : Option α :=
 cK (decide (x2 ≤ x1))
 (k1 (decide (x1 ≤ x3)))
 (k1 false)
noncomputable def f78_0 (α : Type) (x1 : Int) (x2 : Int) (x3 : Int) (k1 : Bool → Option α) : Option α := f78_0g  α x1 x2 x3 k1
def pa78_0 : PT (List DV) := pA [pV false [(dI .i64)], pV false [(dI .i64)], pV false [(dI .i64)]]
def Fn78_0 (v : Tf78_0) (α : Type) (k : List RV → Option α) : Int → Int → Int → Option α := fun x1 x2 x3 => v α x1 x2 x3 (fun (y1 : Bool) => ur78_0_0 k y1)
noncomputable def cm78_0g  : MCode := (.seq (.region r78_2 [] (some ⟨[0, 1, 2], true, [], []⟩)) (.seq (.region r78_4 [] (some ⟨[6], true, [], []⟩)) .ret))
noncomputable def cm78_0 : MCode := cm78_0g 
theorem gm78_0 : cm78_0.Good Try.prog E78_0 sh78 := ⟨trivial, ⟨trivial, trivial⟩⟩
theorem fm78_0g   (α : Type) (k : List RV → Option α) : Fn78_0 (f78_0g ) α k = pa78_0.unc fun ds => fnM Try.prog (E78_0g ) sh78 (cm78_0g ) rs78 k ds := by kernel_rfl
theorem fm78_0 : ∀ (α : Type) (k : List RV → Option α), Fn78_0 f78_0 α k = pa78_0.unc fun ds => fnM Try.prog E78_0 sh78 cm78_0 rs78 k ds := fm78_0g 

theorem is78 : FnIs Try.prog 78 nt78 tr78 tl78 cm78_0.erase rs78 := ⟨Try.f78, Try.func78, rfl, by kernel_rfl, by kernel_rfl, by kernel_rfl⟩
theorem io78_0 : InstOk Try.prog 78 nt78 ⟨pa78_0, Fn78_0 f78_0⟩ := inst_ok eo78_0 followsTry is78 ⟨⟨sh78, cm78_0, by kernel_rfl, gm78_0, fm78_0⟩⟩

/-! ### F125 slices.Index[[]string,string] -/
abbrev nt125 : Nat := 19
def sh125 : List (Nat × List Sh) := [(14, [.str]), (15, [.str])]
def r125_2 : List AOper := [oO 4 (.mv (.const (.int .i64 0)))]
def r125_5 : List AOper := [oM 6 0, oO 7 (.len (.tmp 6)), oO 8 (.mv (.const (.int .i64 0)))]
def td125_7 : Option Tidy := (some ⟨[0, 1, 7, 8], true, [], []⟩)
def r125_9 : List AOper := [oO 9 (.bin .lss 3 (.tmp 8) (.tmp 7))]
def r125_15 : List AOper := [oM 10 8, oM 5 10]
def r125_17 : List AOper := [oM 11 1, oM 12 0, oM 13 5, oO 14 (.iaddr 1 none (.tmp 12) (.tmp 13)), oO 15 (.load false 1 (.tmp 14)), oO 16 (.bin .eql 9 (.tmp 11) (.tmp 15))]
def r125_20 : List AOper := [oM 17 5, oM 4 17]
def r125_21 : List AOper := [oO 18 (.bin .add 3 (.tmp 8) (.const (.int .i64 1))), oM 8 18]
def r125_23 : List AOper := [oO 4 (.mv (.const (.int .i64 (-1))))]
def tr125 : List (Nat × Tidy) := [(0, ⟨[0, 1], true, [], []⟩), (1, ⟨[0, 1, 7, 8], true, [], []⟩), (2, ⟨[0, 1, 7, 8, 9], true, [], []⟩), (3, ⟨[0, 1, 5, 7, 8], true, [], []⟩), (4, ⟨[0, 1, 5, 7, 8, 16], true, [], []⟩), (5, ⟨[4], true, [], []⟩), (6, ⟨[0, 1, 7, 8], true, [], []⟩), (7, ⟨[4], true, [], []⟩)]
def tl125 : List (Nat × Tidy) := [(2, ⟨[0, 1, 7, 8], true, [], []⟩)]
def rs125 : List AResV := [.tmp 4]
def p125_0_0 : PT St := pS [sl 0 (aV false [(cD dL)]), sl 1 (aV false [(cD dS)]), sl 7 (aV false [(cD (dI .i64))]), sl 8 (aV false [(cD (dI .i64))])] []
def u125_0_0 {β : Type} (g : St → β) : Rows → ByteArray → Int → Int → β := p125_0_0.unc g

def p125_0_1 : PT St := pS [sl 4 (aV false [(cD (dI .i64))])] []
def u125_0_1 {β : Type} (g : St → β) : Int → β := p125_0_1.unc g

def p125_0_2 : PT St := pS [sl 0 (aV false [(cD dL)]), sl 1 (aV false [(cD dS)]), sl 7 (aV false [(cD (dI .i64))]), sl 8 (aV false [(cD (dI .i64))]), sl 9 (aV false [(cD dB)])] []
def u125_0_2 {β : Type} (g : St → β) : Rows → ByteArray → Int → Int → Bool → β := p125_0_2.unc g

def pr125_0_0 : PT (List RV) := pRs [pR false [rD (dI .i64)]]
def ur125_0_0 {β : Type} (g : List RV → β) : Int → β := pr125_0_0.unc g

def E125_0g  : EnvK := EnvK.of [] noSeq
noncomputable def E125_0 : EnvK := E125_0g 
theorem eo125_0 : E125_0.Ok Try.prog := EnvK.of_ok noSeq_ok trivial

noncomputable def c125_0_7g  : MCode := (.seq (.region r125_9 [] (some ⟨[0, 1, 7, 8, 9], true, [], []⟩)) (.seq (.cond (.tmp 9) .skip (.exit 0)) (.seq (.block 1 (.seq (.region r125_15 [] (some ⟨[0, 1, 5, 7, 8], true, [], []⟩)) (.seq (.region r125_17 [] (some ⟨[0, 1, 5, 7, 8, 16], true, [], []⟩)) (.cond (.tmp 16) (.seq (.region r125_20 [] (some ⟨[4], true, [], []⟩)) .ret) .skip)))) (.region r125_21 [] (some ⟨[0, 1, 7, 8], true, [], []⟩)))))
noncomputable def c125_0_7 : MCode := c125_0_7g 
theorem g125_0_7 : c125_0_7.Good Try.prog E125_0 sh125 := ⟨trivial, ⟨⟨trivial, trivial⟩, ⟨⟨trivial, ⟨trivial, ⟨⟨trivial, trivial⟩, trivial⟩⟩⟩, trivial⟩⟩⟩
--CODE 7 0
def S125_0_0g  (α : Type) (x3 : Rows) (x4 : ByteArray) (x5 : Int) (x6 : Int) (kn : Int → Option α) (k1 : Int → Option α) (k2 : Int → Bool → Option α) : Option α :=
 cK (decide (x6 < x5))
 (rowK x3 x6 [.str]
 (fun (x8 : ByteArray) => cK (x4.toList == x8.toList)
 (k1 x6)
 (kn (w64 (x6 + 1)))))
 (k2 x6 (decide (x6 < x5)))
noncomputable def S125_0_0 (α : Type) (x3 : Rows) (x4 : ByteArray) (x5 : Int) (x6 : Int) (kn : Int → Option α) (k1 : Int → Option α) (k2 : Int → Bool → Option α) : Option α := S125_0_0g  α x3 x4 x5 x6 kn k1 k2
noncomputable def R125_0_0 (α : Type) (x3 : Rows) (x4 : ByteArray) (x5 : Int) (k1 : Int → Option α) (k2 : Int → Bool → Option α) : Nat → Int → Option α
 | 0, _ => none
 | n + 1, x6 => S125_0_0 α x3 x4 x5 x6 (R125_0_0 α x3 x4 x5 k1 k2 n) k1 k2
noncomputable def L125_0_0 (α : Type) (x3 : Rows) (x4 : ByteArray) (x5 : Int) (k1 : Int → Option α) (k2 : Int → Bool → Option α) (x6 : Int) : Option α := R125_0_0 α x3 x4 x5 k1 k2 fuel x6
abbrev TL125_0_0 : Type 1 := (α : Type) → Rows → ByteArray → Int → (Int → Option α) → (Int → Bool → Option α) → Int → Option α
def F125_0_0 (v : TL125_0_0) (α : Type) (K : Exit → St → Option α) : Rows → ByteArray → Int → Int → Option α := fun x3 x4 x5 x6 => v α x3 x4 x5 (fun (y1 : Int) => u125_0_1 (K .ret) y1) (fun (y1 : Int) (y2 : Bool) => u125_0_2 (K (.exit 0)) x3 x4 x5 y1 y2) x6
theorem r125_0_0g   (α : Type) (K : Exit → St → Option α) (Kn : St → Option α) (x3 : Rows) (x4 : ByteArray) (x5 : Int) (x6 : Int) : u125_0_0 (fun σ => runM Try.prog (E125_0g ) sh125 (c125_0_7g ) (thenK (fun σ => tidyK td125_7 σ Kn) K) σ) x3 x4 x5 x6 = S125_0_0g  α x3 x4 x5 x6 (fun x6 => u125_0_0 Kn x3 x4 x5 x6) (fun (y1 : Int) => u125_0_1 (K .ret) y1) (fun (y1 : Int) (y2 : Bool) => u125_0_2 (K (.exit 0)) x3 x4 x5 y1 y2) := by kernel_rfl
theorem r125_0_0 (α : Type) (K : Exit → St → Option α) (Kn : St → Option α) (x3 : Rows) (x4 : ByteArray) (x5 : Int) (x6 : Int) : u125_0_0 (fun σ => runM Try.prog E125_0 sh125 c125_0_7 (thenK (fun σ => tidyK td125_7 σ Kn) K) σ) x3 x4 x5 x6 = S125_0_0 α x3 x4 x5 x6 (fun x6 => u125_0_0 Kn x3 x4 x5 x6) (fun (y1 : Int) => u125_0_1 (K .ret) y1) (fun (y1 : Int) (y2 : Bool) => u125_0_2 (K (.exit 0)) x3 x4 x5 y1 y2) := r125_0_0g  α K Kn x3 x4 x5 x6
theorem t125_0_0 (α : Type) (K : Exit → St → Option α) : ∀ (n : Nat) (x3 : Rows) (x4 : ByteArray) (x5 : Int) (x6 : Int), R125_0_0 α x3 x4 x5 (fun (y1 : Int) => u125_0_1 (K .ret) y1) (fun (y1 : Int) (y2 : Bool) => u125_0_2 (K (.exit 0)) x3 x4 x5 y1 y2) n x6 = u125_0_0 (loopT (runM Try.prog E125_0 sh125 c125_0_7) td125_7 K n) x3 x4 x5 x6 := by
 intro n
 induction n with
 | zero => intros; rfl
 | succ n ih => intro x3 x4 x5 x6; exact (congrArg (fun kn => S125_0_0 α x3 x4 x5 x6 kn (fun (y1 : Int) => u125_0_1 (K .ret) y1) (fun (y1 : Int) (y2 : Bool) => u125_0_2 (K (.exit 0)) x3 x4 x5 y1 y2)) (funext fun x6 => ih x3 x4 x5 x6)).trans (r125_0_0 α K (loopT (runM Try.prog E125_0 sh125 c125_0_7) td125_7 K n) x3 x4 x5 x6).symm
theorem m125_0_0 : ∀ (α : Type) (K : Exit → St → Option α), F125_0_0 L125_0_0 α K = p125_0_0.unc fun σ => loopT (runM Try.prog E125_0 sh125 c125_0_7) td125_7 K fuel σ := fun α K => funext fun x3 => funext fun x4 => funext fun x5 => funext fun x6 => t125_0_0 α K fuel x3 x4 x5 x6

/-- slices.Index[[]string,string] -/
abbrev Tf125_0 : Type 1 := (α : Type) → Rows → ByteArray → (Int → Option α) → Option α
def f125_0g (vL125_0_0 : TL125_0_0) (α : Type) (x1 : Rows) (x2 : ByteArray) (k1 : Int → Option α) : Option α :=
 vL125_0_0 α x1 x2 ((List.length x1 : Nat) : Int)
 (fun (x9 : Int) => k1 x9)
 (fun (x10 : Int) (x11 : Bool) => k1 (-1)) 0
noncomputable def f125_0 (α : Type) (x1 : Rows) (x2 : ByteArray) (k1 : Int → Option α) : Option α := f125_0g L125_0_0 α x1 x2 k1
def pa125_0 : PT (List DV) := pA [pV false [dL], pV false [dS]]
def Fn125_0 (v : Tf125_0) (α : Type) (k : List RV → Option α) : Rows → ByteArray → Option α := fun x1 x2 => v α x1 x2 (fun (y1 : Int) => ur125_0_0 k y1)
noncomputable def cm125_0g (vL125_0_0 : TL125_0_0) : MCode := (.seq (.region r125_2 [] (some ⟨[0, 1], true, [], []⟩)) (.seq (.seq (.region r125_5 [] (some ⟨[0, 1, 7, 8], true, [], []⟩)) (.block 0 (.loop td125_7 [⟨p125_0_0, F125_0_0 vL125_0_0⟩] c125_0_7))) (.seq (.region r125_23 [] (some ⟨[4], true, [], []⟩)) .ret)))
noncomputable def cm125_0 : MCode := cm125_0g L125_0_0
theorem gm125_0 : cm125_0.Good Try.prog E125_0 sh125 := ⟨trivial, ⟨⟨trivial, ⟨g125_0_7, m125_0_0, trivial⟩⟩, ⟨trivial, trivial⟩⟩⟩
theorem fm125_0g  (vL125_0_0 : TL125_0_0) (α : Type) (k : List RV → Option α) : Fn125_0 (f125_0g vL125_0_0) α k = pa125_0.unc fun ds => fnM Try.prog (E125_0g ) sh125 (cm125_0g vL125_0_0) rs125 k ds := by kernel_rfl
theorem fm125_0 : ∀ (α : Type) (k : List RV → Option α), Fn125_0 f125_0 α k = pa125_0.unc fun ds => fnM Try.prog E125_0 sh125 cm125_0 rs125 k ds := fm125_0g L125_0_0

theorem is125 : FnIs Try.prog 125 nt125 tr125 tl125 cm125_0.erase rs125 := ⟨Try.f125, Try.func125, rfl, by kernel_rfl, by kernel_rfl, by kernel_rfl⟩
theorem io125_0 : InstOk Try.prog 125 nt125 ⟨pa125_0, Fn125_0 f125_0⟩ := inst_ok eo125_0 followsTry is125 ⟨⟨sh125, cm125_0, by kernel_rfl, gm125_0, fm125_0⟩⟩

/-! ### F100 etalon/grow.isName -/
abbrev nt100 : Nat := 54
def sh100 : List (Nat × List Sh) := [(12, [.int .u8]), (13, [.int .u8])]
def r100_2 : List AOper := [oO 2 (.mv (.const (.bool false)))]
def r100_5 : List AOper := [oM 6 0, oO 7 (.bytes (.tmp 6)), oO 8 (.len (.tmp 7)), oO 9 (.mv (.const (.int .i64 0)))]
def td100_7 : Option Tidy := (some ⟨[0, 7, 8, 9], true, [⟨false, 7, 0, 20007, 1⟩], []⟩)
def r100_9 : List AOper := [oO 10 (.bin .lss 3 (.tmp 9) (.tmp 8))]
def r100_15 : List AOper := [oM 11 9, oO 12 (.iaddr 1 none (.tmp 7) (.tmp 9)), oO 13 (.load false 1 (.tmp 12)), oM 3 11, oM 4 13]
def r100_17 : List AOper := [oM 14 4, oO 15 (.bin .geq 5 (.tmp 14) (.const (.int .u8 97))), oM 16 15, ⟨(some 17), (.mv (.tmp 4)), (some (16, true))⟩, ⟨(some 18), (.bin .leq 5 (.tmp 17) (.const (.int .u8 122))), (some (16, true))⟩, oO 19 (.pick (.tmp 16) (.tmp 18) (.const (.bool false))), oM 20 19, ⟨(some 21), (.mv (.tmp 4)), (some (20, false))⟩, ⟨(some 22), (.bin .geq 5 (.tmp 21) (.const (.int .u8 65))), (some (20, false))⟩, ⟨(some 23), (.mv (.tmp 22)), (some (20, false))⟩, ⟨(some 24), (.mv (.tmp 4)), (some (23, true))⟩, ⟨(some 25), (.bin .leq 5 (.tmp 24) (.const (.int .u8 90))), (some (23, true))⟩, ⟨(some 26), (.pick (.tmp 23) (.tmp 25) (.const (.bool false))), (some (20, false))⟩, oO 27 (.pick (.tmp 20) (.const (.bool true)) (.tmp 26)), oM 5 27]
def r100_19 : List AOper := [oM 28 5, oO 29 (.pure (oB (.unOp .not 4 (.tmp 28)) 4)), oM 30 29, ⟨(some 31), (.mv (.tmp 3)), (some (30, true))⟩, ⟨(some 32), (.bin .eql 3 (.tmp 31) (.const (.int .i64 0))), (some (30, true))⟩, ⟨(some 33), (.mv (.tmp 32)), (some (30, true))⟩, ⟨(some 34), (.mv (.tmp 4)), (some (33, false))⟩, ⟨(some 35), (.bin .neq 5 (.tmp 34) (.const (.int .u8 45))), (some (33, false))⟩, ⟨(some 36), (.mv (.tmp 35)), (some (33, false))⟩, ⟨(some 37), (.mv (.tmp 4)), (some (36, true))⟩, ⟨(some 38), (.bin .lss 5 (.tmp 37) (.const (.int .u8 48))), (some (36, true))⟩, ⟨(some 39), (.mv (.tmp 38)), (some (36, true))⟩, ⟨(some 40), (.mv (.tmp 4)), (some (39, false))⟩, ⟨(some 41), (.bin .gtr 5 (.tmp 40) (.const (.int .u8 57))), (some (39, false))⟩, ⟨(some 42), (.pick (.tmp 39) (.const (.bool true)) (.tmp 41)), (some (36, true))⟩, ⟨(some 43), (.pick (.tmp 36) (.tmp 42) (.const (.bool false))), (some (33, false))⟩, ⟨(some 44), (.pick (.tmp 33) (.const (.bool true)) (.tmp 43)), (some (30, true))⟩, oO 45 (.pick (.tmp 30) (.tmp 44) (.const (.bool false)))]
def r100_22 : List AOper := [oO 2 (.mv (.const (.bool false)))]
def r100_23 : List AOper := [oO 46 (.bin .add 3 (.tmp 9) (.const (.int .i64 1))), oM 9 46]
def r100_25 : List AOper := [oM 47 0, ⟨(some 48), (.bin .neq 9 (.tmp 47) (.const (.string ⟨#[]⟩))), none⟩, oM 49 48, ⟨(some 50), (.mv (.tmp 0)), (some (49, true))⟩, ⟨(some 51), (.pure (oB (.call { callee := .builtin .len, args := #[(.tmp 50)], argTypes := #[9] }) 3)), (some (49, true))⟩, ⟨(some 52), (.bin .leq 3 (.tmp 51) (.const (.int .i64 12))), (some (49, true))⟩, oO 53 (.pick (.tmp 49) (.tmp 52) (.const (.bool false))), oM 2 53]
def tr100 : List (Nat × Tidy) := [(0, ⟨[0], true, [], []⟩), (1, ⟨[0, 7, 8, 9], true, [], []⟩), (2, ⟨[0, 7, 8, 9, 10], true, [], []⟩), (3, ⟨[0, 3, 4, 7, 8, 9], true, [], []⟩), (4, ⟨[0, 3, 4, 5, 7, 8, 9], true, [], []⟩), (5, ⟨[0, 7, 8, 9, 45], true, [], []⟩), (6, ⟨[2], true, [], []⟩), (7, ⟨[0, 7, 8, 9], true, [], []⟩), (8, ⟨[2], true, [], []⟩)]
def tl100 : List (Nat × Tidy) := [(2, ⟨[0, 7, 8, 9], true, [⟨false, 7, 0, 20007, 1⟩], []⟩)]
def rs100 : List AResV := [.tmp 2]
def p100_0_0 : PT St := pS [sl 0 (aV false [(cD dS)]), sl 3 (aV false [(cD (dI .i64))]), sl 4 (aV false [(cD (dI .u8))]), sl 7 (aV false [(cRef 20007)]), sl 8 (aV false [(cD (dI .i64))]), sl 9 (aV false [(cD (dI .i64))])] [eOwn 20007 1]
def u100_0_0 {β : Type} (g : St → β) : ByteArray → Int → Int → Int → Int → Rows → β := p100_0_0.unc g

def p100_0_1 : PT St := pS [sl 0 (aV false [(cD dS)]), sl 3 (aV false [(cD (dI .i64))]), sl 4 (aV false [(cD (dI .u8))]), sl 5 (aV false [(cD dB)]), sl 7 (aV false [(cRef 20007)]), sl 8 (aV false [(cD (dI .i64))]), sl 9 (aV false [(cD (dI .i64))])] [eOwn 20007 1]
def u100_0_1 {β : Type} (g : St → β) : ByteArray → Int → Int → Bool → Int → Int → Rows → β := p100_0_1.unc g

def p100_0_2 : PT St := pS [sl 0 (aV false [(cD dS)]), sl 7 (aV false [(cRef 20007)]), sl 8 (aV false [(cD (dI .i64))]), sl 9 (aV false [(cD (dI .i64))]), sl 45 (aV false [(cD dB)])] [eOwn 20007 1]
def u100_0_2 {β : Type} (g : St → β) : ByteArray → Int → Int → Bool → Rows → β := p100_0_2.unc g

def p100_0_3 : PT St := pS [sl 0 (aV false [(cD dS)]), sl 7 (aV false [(cRef 20007)]), sl 8 (aV false [(cD (dI .i64))]), sl 9 (aV false [(cD (dI .i64))])] [eOwn 20007 1]
def u100_0_3 {β : Type} (g : St → β) : ByteArray → Int → Int → Rows → β := p100_0_3.unc g

def p100_0_4 : PT St := pS [sl 2 (aV false [(cD dB)])] []
def u100_0_4 {β : Type} (g : St → β) : Bool → β := p100_0_4.unc g

def p100_0_5 : PT St := pS [sl 0 (aV false [(cD dS)]), sl 7 (aV false [(cRef 20007)]), sl 8 (aV false [(cD (dI .i64))]), sl 9 (aV false [(cD (dI .i64))]), sl 10 (aV false [(cD dB)])] [eOwn 20007 1]
def u100_0_5 {β : Type} (g : St → β) : ByteArray → Int → Int → Bool → Rows → β := p100_0_5.unc g

def pr100_0_0 : PT (List RV) := pRs [pR false [rD dB]]
def ur100_0_0 {β : Type} (g : List RV → β) : Bool → β := pr100_0_0.unc g

def E100_0g  : EnvK := EnvK.of [] noSeq
noncomputable def E100_0 : EnvK := E100_0g 
theorem eo100_0 : E100_0.Ok Try.prog := EnvK.of_ok noSeq_ok trivial

noncomputable def c100_0_18g  : MCode := (.region r100_19 [] (some ⟨[0, 7, 8, 9, 45], true, [], []⟩))
noncomputable def c100_0_18 : MCode := c100_0_18g 
theorem g100_0_18 : c100_0_18.Good Try.prog E100_0 sh100 := trivial
--CODE 18 0
abbrev TJ100_0_1 : Type 1 := (α : Type) → Int → Int → Bool → (Bool → Option α) → Option α
def J100_0_1g  (α : Type) (x18 : Int) (x19 : Int) (x20 : Bool) (k1 : Bool → Option α) : Option α :=
 cK (!x20)
 (cK (x18 == 0)
 (k1 true)
 (cK (x19 != 45)
 (cK (decide (x19 < 48))
 (k1 true)
 (k1 (decide (57 < x19))))
 (k1 false)))
 (k1 false)
noncomputable def J100_0_1 (α : Type) (x18 : Int) (x19 : Int) (x20 : Bool) (k1 : Bool → Option α) : Option α := J100_0_1g  α x18 x19 x20 k1
def F100_0_1 (v : TJ100_0_1) (α : Type) (K : Exit → St → Option α) : ByteArray → Int → Int → Bool → Int → Int → Rows → Option α := fun x17 x18 x19 x20 x21 x22 x23 => v α x18 x19 x20 (fun (y1 : Bool) => u100_0_2 (K .normal) x17 x21 x22 y1 x23) 
theorem m100_0_1g   (α : Type) (K : Exit → St → Option α) : F100_0_1 (J100_0_1g ) α K = p100_0_1.unc fun σ => runM Try.prog (E100_0g ) sh100 (c100_0_18g ) K σ := by kernel_rfl
theorem m100_0_1 : ∀ (α : Type) (K : Exit → St → Option α), F100_0_1 J100_0_1 α K = p100_0_1.unc fun σ => runM Try.prog E100_0 sh100 c100_0_18 K σ := m100_0_1g 

noncomputable def c100_0_16g  : MCode := (.region r100_17 [] (some ⟨[0, 3, 4, 5, 7, 8, 9], true, [], []⟩))
noncomputable def c100_0_16 : MCode := c100_0_16g 
theorem g100_0_16 : c100_0_16.Good Try.prog E100_0 sh100 := trivial
--CODE 16 0
abbrev TJ100_0_0 : Type 1 := (α : Type) → Int → (Bool → Option α) → Option α
def J100_0_0g  (α : Type) (x10 : Int) (k1 : Bool → Option α) : Option α :=
 cK (decide (97 ≤ x10))
 (cK (decide (x10 ≤ 122))
 (k1 true)
 (cK (decide (65 ≤ x10))
 (k1 (decide (x10 ≤ 90)))
 (k1 false)))
 (cK (decide (65 ≤ x10))
 (k1 (decide (x10 ≤ 90)))
 (k1 false))
noncomputable def J100_0_0 (α : Type) (x10 : Int) (k1 : Bool → Option α) : Option α := J100_0_0g  α x10 k1
def F100_0_0 (v : TJ100_0_0) (α : Type) (K : Exit → St → Option α) : ByteArray → Int → Int → Int → Int → Rows → Option α := fun x8 x9 x10 x11 x12 x13 => v α x10 (fun (y1 : Bool) => u100_0_1 (K .normal) x8 x9 x10 y1 x11 x12 x13) 
theorem m100_0_0g   (α : Type) (K : Exit → St → Option α) : F100_0_0 (J100_0_0g ) α K = p100_0_0.unc fun σ => runM Try.prog (E100_0g ) sh100 (c100_0_16g ) K σ := by kernel_rfl
theorem m100_0_0 : ∀ (α : Type) (K : Exit → St → Option α), F100_0_0 J100_0_0 α K = p100_0_0.unc fun σ => runM Try.prog E100_0 sh100 c100_0_16 K σ := m100_0_0g 

noncomputable def c100_0_7g (vJ100_0_0 : TJ100_0_0) (vJ100_0_1 : TJ100_0_1) : MCode := (.seq (.region r100_9 [] (some ⟨[0, 7, 8, 9, 10], true, [], []⟩)) (.seq (.cond (.tmp 10) .skip (.exit 0)) (.seq (.block 1 (.seq (.region r100_15 [] (some ⟨[0, 3, 4, 7, 8, 9], true, [], []⟩)) (.seq (.mark [⟨p100_0_0, F100_0_0 vJ100_0_0⟩] c100_0_16) (.seq (.mark [⟨p100_0_1, F100_0_1 vJ100_0_1⟩] c100_0_18) (.cond (.tmp 45) (.seq (.region r100_22 [] (some ⟨[2], true, [], []⟩)) .ret) .skip))))) (.region r100_23 [] (some ⟨[0, 7, 8, 9], true, [], []⟩)))))
noncomputable def c100_0_7 : MCode := c100_0_7g J100_0_0 J100_0_1
theorem g100_0_7 : c100_0_7.Good Try.prog E100_0 sh100 := ⟨trivial, ⟨⟨trivial, trivial⟩, ⟨⟨trivial, ⟨⟨g100_0_16, m100_0_0, trivial⟩, ⟨⟨g100_0_18, m100_0_1, trivial⟩, ⟨⟨trivial, trivial⟩, trivial⟩⟩⟩⟩, trivial⟩⟩⟩
--CODE 7 0
def S100_0_2g (vJ100_0_0 : TJ100_0_0) (vJ100_0_1 : TJ100_0_1) (α : Type) (x3 : Int) (x5 : Rows) (x4 : Int) (kn : Int → Option α) (k1 : Option α) (k2 : Int → Bool → Option α) : Option α :=
 cK (decide (x4 < x3))
 (ixK x5 x4 1
 (ldK x5 (Int.toNat x4) 0 [.int .u8]
 (fun (x7 : Int) => vJ100_0_0 α x7
 (fun (x15 : Bool) => vJ100_0_1 α x4 x7 x15
 (fun (x25 : Bool) => cK x25
 (k1)
 (kn (w64 (x4 + 1))))))))
 (k2 x4 (decide (x4 < x3)))
noncomputable def S100_0_2 (α : Type) (x3 : Int) (x5 : Rows) (x4 : Int) (kn : Int → Option α) (k1 : Option α) (k2 : Int → Bool → Option α) : Option α := S100_0_2g J100_0_0 J100_0_1 α x3 x5 x4 kn k1 k2
noncomputable def R100_0_2 (α : Type) (x3 : Int) (x5 : Rows) (k1 : Option α) (k2 : Int → Bool → Option α) : Nat → Int → Option α
 | 0, _ => none
 | n + 1, x4 => S100_0_2 α x3 x5 x4 (R100_0_2 α x3 x5 k1 k2 n) k1 k2
noncomputable def L100_0_2 (α : Type) (x3 : Int) (x5 : Rows) (k1 : Option α) (k2 : Int → Bool → Option α) (x4 : Int) : Option α := R100_0_2 α x3 x5 k1 k2 fuel x4
abbrev TL100_0_2 : Type 1 := (α : Type) → Int → Rows → (Option α) → (Int → Bool → Option α) → Int → Option α
def F100_0_2 (v : TL100_0_2) (α : Type) (K : Exit → St → Option α) : ByteArray → Int → Int → Rows → Option α := fun x2 x3 x4 x5 => v α x3 x5 (u100_0_4 (K .ret) false) (fun (y1 : Int) (y2 : Bool) => u100_0_5 (K (.exit 0)) x2 x3 y1 y2 x5) x4
theorem r100_0_2g  (vJ100_0_0 : TJ100_0_0) (vJ100_0_1 : TJ100_0_1) (α : Type) (K : Exit → St → Option α) (Kn : St → Option α) (x2 : ByteArray) (x3 : Int) (x4 : Int) (x5 : Rows) : u100_0_3 (fun σ => runM Try.prog (E100_0g ) sh100 (c100_0_7g vJ100_0_0 vJ100_0_1) (thenK (fun σ => tidyK td100_7 σ Kn) K) σ) x2 x3 x4 x5 = S100_0_2g vJ100_0_0 vJ100_0_1 α x3 x5 x4 (fun x4 => u100_0_3 Kn x2 x3 x4 x5) (u100_0_4 (K .ret) false) (fun (y1 : Int) (y2 : Bool) => u100_0_5 (K (.exit 0)) x2 x3 y1 y2 x5) := by kernel_rfl
theorem r100_0_2 (α : Type) (K : Exit → St → Option α) (Kn : St → Option α) (x2 : ByteArray) (x3 : Int) (x4 : Int) (x5 : Rows) : u100_0_3 (fun σ => runM Try.prog E100_0 sh100 c100_0_7 (thenK (fun σ => tidyK td100_7 σ Kn) K) σ) x2 x3 x4 x5 = S100_0_2 α x3 x5 x4 (fun x4 => u100_0_3 Kn x2 x3 x4 x5) (u100_0_4 (K .ret) false) (fun (y1 : Int) (y2 : Bool) => u100_0_5 (K (.exit 0)) x2 x3 y1 y2 x5) := r100_0_2g J100_0_0 J100_0_1 α K Kn x2 x3 x4 x5
theorem t100_0_2 (α : Type) (K : Exit → St → Option α) : ∀ (n : Nat) (x2 : ByteArray) (x3 : Int) (x4 : Int) (x5 : Rows), R100_0_2 α x3 x5 (u100_0_4 (K .ret) false) (fun (y1 : Int) (y2 : Bool) => u100_0_5 (K (.exit 0)) x2 x3 y1 y2 x5) n x4 = u100_0_3 (loopT (runM Try.prog E100_0 sh100 c100_0_7) td100_7 K n) x2 x3 x4 x5 := by
 intro n
 induction n with
 | zero => intros; rfl
 | succ n ih => intro x2 x3 x4 x5; exact (congrArg (fun kn => S100_0_2 α x3 x5 x4 kn (u100_0_4 (K .ret) false) (fun (y1 : Int) (y2 : Bool) => u100_0_5 (K (.exit 0)) x2 x3 y1 y2 x5)) (funext fun x4 => ih x2 x3 x4 x5)).trans (r100_0_2 α K (loopT (runM Try.prog E100_0 sh100 c100_0_7) td100_7 K n) x2 x3 x4 x5).symm
theorem m100_0_2 : ∀ (α : Type) (K : Exit → St → Option α), F100_0_2 L100_0_2 α K = p100_0_3.unc fun σ => loopT (runM Try.prog E100_0 sh100 c100_0_7) td100_7 K fuel σ := fun α K => funext fun x2 => funext fun x3 => funext fun x4 => funext fun x5 => t100_0_2 α K fuel x2 x3 x4 x5

/-- etalon/grow.isName -/
abbrev Tf100_0 : Type 1 := (α : Type) → ByteArray → (Bool → Option α) → Option α
def f100_0g (vL100_0_2 : TL100_0_2) (α : Type) (x1 : ByteArray) (k1 : Bool → Option α) : Option α :=
 gK (decide (ByteArray.size x1 ≤ 9223372036854775807)) (vL100_0_2 α ((List.length (bytesR x1) : Nat) : Int) (bytesR x1)
 (k1 false)
 (fun (x27 : Int) (x28 : Bool) => cK (!(x1.toList == (⟨#[]⟩ : ByteArray).toList))
 (k1 (decide (((ByteArray.size x1 : Nat) : Int) ≤ 12)))
 (k1 false)) 0)
noncomputable def f100_0 (α : Type) (x1 : ByteArray) (k1 : Bool → Option α) : Option α := f100_0g L100_0_2 α x1 k1
def pa100_0 : PT (List DV) := pA [pV false [dS]]
def Fn100_0 (v : Tf100_0) (α : Type) (k : List RV → Option α) : ByteArray → Option α := fun x1 => v α x1 (fun (y1 : Bool) => ur100_0_0 k y1)
noncomputable def cm100_0g (vL100_0_2 : TL100_0_2) : MCode := (.seq (.region r100_2 [] (some ⟨[0], true, [], []⟩)) (.seq (.seq (.region r100_5 [] (some ⟨[0, 7, 8, 9], true, [], []⟩)) (.block 0 (.loop td100_7 [⟨p100_0_3, F100_0_2 vL100_0_2⟩] c100_0_7))) (.seq (.region r100_25 [] (some ⟨[2], true, [], []⟩)) .ret)))
noncomputable def cm100_0 : MCode := cm100_0g L100_0_2
theorem gm100_0 : cm100_0.Good Try.prog E100_0 sh100 := ⟨trivial, ⟨⟨trivial, ⟨g100_0_7, m100_0_2, trivial⟩⟩, ⟨trivial, trivial⟩⟩⟩
theorem fm100_0g  (vL100_0_2 : TL100_0_2) (α : Type) (k : List RV → Option α) : Fn100_0 (f100_0g vL100_0_2) α k = pa100_0.unc fun ds => fnM Try.prog (E100_0g ) sh100 (cm100_0g vL100_0_2) rs100 k ds := by kernel_rfl
theorem fm100_0 : ∀ (α : Type) (k : List RV → Option α), Fn100_0 f100_0 α k = pa100_0.unc fun ds => fnM Try.prog E100_0 sh100 cm100_0 rs100 k ds := fm100_0g L100_0_2

theorem is100 : FnIs Try.prog 100 nt100 tr100 tl100 cm100_0.erase rs100 := ⟨Try.f100, Try.func100, rfl, by kernel_rfl, by kernel_rfl, by kernel_rfl⟩
theorem io100_0 : InstOk Try.prog 100 nt100 ⟨pa100_0, Fn100_0 f100_0⟩ := inst_ok eo100_0 followsTry is100 ⟨⟨sh100, cm100_0, by kernel_rfl, gm100_0, fm100_0⟩⟩

/-! ### F48 etalon/etalonref08.CopyState -/
abbrev nt48 : Nat := 6
def sh48 : List (Nat × List Sh) := []
def r48_2 : List AOper := [oO 2 (.mv (.const (.slice none 0 0)))]
def r48_4 : List AOper := [oO 3 (.bslice 1 0 [(.v (.bool false))] []), oM 4 0, oO 5 (.append 1 1 (.tmp 3) (.tmp 4)), oM 2 5]
def tr48 : List (Nat × Tidy) := [(0, ⟨[0], true, [], []⟩), (1, ⟨[2], true, [⟨false, 2, 0, 20002, 1⟩], []⟩)]
def tl48 : List (Nat × Tidy) := []
def rs48 : List AResV := [.tmp 2]
def pr48_0_0 : PT (List RV) := pRs [pR false [rO 1]]
def ur48_0_0 {β : Type} (g : List RV → β) : Rows → β := pr48_0_0.unc g

def E48_0g  : EnvK := EnvK.of [] noSeq
noncomputable def E48_0 : EnvK := E48_0g 
theorem eo48_0 : E48_0.Ok Try.prog := EnvK.of_ok noSeq_ok trivial

/-- etalon/etalonref08.CopyState -/
abbrev Tf48_0 : Type 1 := (α : Type) → Rows → (Rows → Option α) → Option α
def f48_0g  (α : Type) (x1 : Rows) (k1 : Rows → Option α) : Option α :=
 gK (apOk 1 1 ([] : Rows) x1) (k1 (([] : Rows) ++ x1))
noncomputable def f48_0 (α : Type) (x1 : Rows) (k1 : Rows → Option α) : Option α := f48_0g  α x1 k1
def pa48_0 : PT (List DV) := pA [pV false [dL]]
def Fn48_0 (v : Tf48_0) (α : Type) (k : List RV → Option α) : Rows → Option α := fun x1 => v α x1 (fun (y1 : Rows) => ur48_0_0 k y1)
noncomputable def cm48_0g  : MCode := (.seq (.region r48_2 [] (some ⟨[0], true, [], []⟩)) (.seq (.region r48_4 [] (some ⟨[2], true, [⟨false, 2, 0, 20002, 1⟩], []⟩)) .ret))
noncomputable def cm48_0 : MCode := cm48_0g 
theorem gm48_0 : cm48_0.Good Try.prog E48_0 sh48 := ⟨trivial, ⟨trivial, trivial⟩⟩
theorem fm48_0g   (α : Type) (k : List RV → Option α) : Fn48_0 (f48_0g ) α k = pa48_0.unc fun ds => fnM Try.prog (E48_0g ) sh48 (cm48_0g ) rs48 k ds := by kernel_rfl
theorem fm48_0 : ∀ (α : Type) (k : List RV → Option α), Fn48_0 f48_0 α k = pa48_0.unc fun ds => fnM Try.prog E48_0 sh48 cm48_0 rs48 k ds := fm48_0g 

theorem is48 : FnIs Try.prog 48 nt48 tr48 tl48 cm48_0.erase rs48 := ⟨Try.f48, Try.func48, rfl, by kernel_rfl, by kernel_rfl, by kernel_rfl⟩
theorem io48_0 : InstOk Try.prog 48 nt48 ⟨pa48_0, Fn48_0 f48_0⟩ := inst_ok eo48_0 followsTry is48 ⟨⟨sh48, cm48_0, by kernel_rfl, gm48_0, fm48_0⟩⟩

/-! ### F102 etalon/etalonbase.CopyTexts -/
abbrev nt102 : Nat := 6
def sh102 : List (Nat × List Sh) := []
def r102_2 : List AOper := [oO 2 (.mv (.const (.slice none 0 0)))]
def r102_4 : List AOper := [⟨(some 3), (.bslice 1 0 [(.v (.string ⟨#[]⟩))] []), none⟩, oM 4 0, oO 5 (.append 1 16 (.tmp 3) (.tmp 4)), oM 2 5]
def tr102 : List (Nat × Tidy) := [(0, ⟨[0], true, [], []⟩), (1, ⟨[2], true, [⟨false, 2, 0, 20002, 1⟩], []⟩)]
def tl102 : List (Nat × Tidy) := []
def rs102 : List AResV := [.tmp 2]
def pr102_0_0 : PT (List RV) := pRs [pR false [rO 1]]
def ur102_0_0 {β : Type} (g : List RV → β) : Rows → β := pr102_0_0.unc g

def E102_0g  : EnvK := EnvK.of [] noSeq
noncomputable def E102_0 : EnvK := E102_0g 
theorem eo102_0 : E102_0.Ok Try.prog := EnvK.of_ok noSeq_ok trivial

/-- etalon/etalonbase.CopyTexts -/
abbrev Tf102_0 : Type 1 := (α : Type) → Rows → (Rows → Option α) → Option α
def f102_0g  (α : Type) (x1 : Rows) (k1 : Rows → Option α) : Option α :=
 gK (apOk 1 16 ([] : Rows) x1) (k1 (([] : Rows) ++ x1))
noncomputable def f102_0 (α : Type) (x1 : Rows) (k1 : Rows → Option α) : Option α := f102_0g  α x1 k1
def pa102_0 : PT (List DV) := pA [pV false [dL]]
def Fn102_0 (v : Tf102_0) (α : Type) (k : List RV → Option α) : Rows → Option α := fun x1 => v α x1 (fun (y1 : Rows) => ur102_0_0 k y1)
noncomputable def cm102_0g  : MCode := (.seq (.region r102_2 [] (some ⟨[0], true, [], []⟩)) (.seq (.region r102_4 [] (some ⟨[2], true, [⟨false, 2, 0, 20002, 1⟩], []⟩)) .ret))
noncomputable def cm102_0 : MCode := cm102_0g 
theorem gm102_0 : cm102_0.Good Try.prog E102_0 sh102 := ⟨trivial, ⟨trivial, trivial⟩⟩
theorem fm102_0g   (α : Type) (k : List RV → Option α) : Fn102_0 (f102_0g ) α k = pa102_0.unc fun ds => fnM Try.prog (E102_0g ) sh102 (cm102_0g ) rs102 k ds := by kernel_rfl
theorem fm102_0 : ∀ (α : Type) (k : List RV → Option α), Fn102_0 f102_0 α k = pa102_0.unc fun ds => fnM Try.prog E102_0 sh102 cm102_0 rs102 k ds := fm102_0g 

theorem is102 : FnIs Try.prog 102 nt102 tr102 tl102 cm102_0.erase rs102 := ⟨Try.f102, Try.func102, rfl, by kernel_rfl, by kernel_rfl, by kernel_rfl⟩
theorem io102_0 : InstOk Try.prog 102 nt102 ⟨pa102_0, Fn102_0 f102_0⟩ := inst_ok eo102_0 followsTry is102 ⟨⟨sh102, cm102_0, by kernel_rfl, gm102_0, fm102_0⟩⟩

/-! ### F44 etalon/etalonlaw08.small -/
abbrev nt44 : Nat := 25
def sh44 : List (Nat × List Sh) := [(4, [.sl]), (9, [.sl]), (14, [.sl]), (21, [.sl])]
def r44_2 : List AOper := [oO 1 (.box (.tmp 0)), oO 2 (.mv (.const (.bool false)))]
def r44_4 : List AOper := [oO 3 (.faddr 0 (.tmp 1)), oO 4 (.load false 1 (.tmp 3)), oO 5 (.len (.tmp 4)), oO 6 (.bin .leq 3 (.tmp 5) (.const (.int .i64 5))), oM 7 6, ⟨(some 8), (.faddr 0 (.tmp 1)), (some (7, false))⟩, ⟨(some 9), (.load false 1 (.tmp 8)), (some (7, false))⟩, ⟨(some 10), (.len (.tmp 9)), (some (7, false))⟩, ⟨(some 11), (.bin .gtr 3 (.tmp 10) (.const (.int .i64 8))), (some (7, false))⟩, ⟨(some 12), (.mv (.tmp 11)), (some (7, false))⟩, ⟨(some 13), (.faddr 0 (.tmp 1)), (some (12, true))⟩, ⟨(some 14), (.load false 1 (.tmp 13)), (some (12, true))⟩, ⟨(some 15), (.len (.tmp 14)), (some (12, true))⟩, ⟨(some 16), (.bin .leq 3 (.tmp 15) (.const (.int .i64 10))), (some (12, true))⟩, ⟨(some 17), (.pick (.tmp 12) (.tmp 16) (.const (.bool false))), (some (7, false))⟩, oO 18 (.pick (.tmp 7) (.const (.bool true)) (.tmp 17)), oM 19 18, ⟨(some 20), (.faddr 1 (.tmp 1)), (some (19, true))⟩, ⟨(some 21), (.load false 1 (.tmp 20)), (some (19, true))⟩, ⟨(some 22), (.len (.tmp 21)), (some (19, true))⟩, ⟨(some 23), (.bin .leq 3 (.tmp 22) (.const (.int .i64 32))), (some (19, true))⟩, oO 24 (.pick (.tmp 19) (.tmp 23) (.const (.bool false))), oM 2 24]
def tr44 : List (Nat × Tidy) := [(0, ⟨[1], true, [], []⟩), (1, ⟨[2], true, [], []⟩)]
def tl44 : List (Nat × Tidy) := []
def rs44 : List AResV := [.tmp 2]
def pr44_0_0 : PT (List RV) := pRs [pR false [rD dB]]
def ur44_0_0 {β : Type} (g : List RV → β) : Bool → β := pr44_0_0.unc g

def E44_0g  : EnvK := EnvK.of [] noSeq
noncomputable def E44_0 : EnvK := E44_0g 
theorem eo44_0 : E44_0.Ok Try.prog := EnvK.of_ok noSeq_ok trivial

/-- etalon/etalonlaw08.small -/
abbrev Tf44_0 : Type 1 := (α : Type) → Rows → Rows → (Bool → Option α) → Option α
def f44_0g  (α : Type) (x1 : Rows) (x2 : Rows) (k1 : Bool → Option α) : Option α :=
 cK (decide (((List.length x1 : Nat) : Int) ≤ 5))
 (k1 (decide (((List.length x2 : Nat) : Int) ≤ 32)))
 (cK (decide (8 < ((List.length x1 : Nat) : Int)))
 (cK (decide (((List.length x1 : Nat) : Int) ≤ 10))
 (k1 (decide (((List.length x2 : Nat) : Int) ≤ 32)))
 (k1 false))
 (k1 false))
noncomputable def f44_0 (α : Type) (x1 : Rows) (x2 : Rows) (k1 : Bool → Option α) : Option α := f44_0g  α x1 x2 k1
def pa44_0 : PT (List DV) := pA [pV true [dL, dL]]
def Fn44_0 (v : Tf44_0) (α : Type) (k : List RV → Option α) : Rows → Rows → Option α := fun x1 x2 => v α x1 x2 (fun (y1 : Bool) => ur44_0_0 k y1)
noncomputable def cm44_0g  : MCode := (.seq (.region r44_2 [] (some ⟨[1], true, [], []⟩)) (.seq (.region r44_4 [] (some ⟨[2], true, [], []⟩)) .ret))
noncomputable def cm44_0 : MCode := cm44_0g 
theorem gm44_0 : cm44_0.Good Try.prog E44_0 sh44 := ⟨trivial, ⟨trivial, trivial⟩⟩
theorem fm44_0g   (α : Type) (k : List RV → Option α) : Fn44_0 (f44_0g ) α k = pa44_0.unc fun ds => fnM Try.prog (E44_0g ) sh44 (cm44_0g ) rs44 k ds := by kernel_rfl
theorem fm44_0 : ∀ (α : Type) (k : List RV → Option α), Fn44_0 f44_0 α k = pa44_0.unc fun ds => fnM Try.prog E44_0 sh44 cm44_0 rs44 k ds := fm44_0g 

theorem is44 : FnIs Try.prog 44 nt44 tr44 tl44 cm44_0.erase rs44 := ⟨Try.f44, Try.func44, rfl, by kernel_rfl, by kernel_rfl, by kernel_rfl⟩
theorem io44_0 : InstOk Try.prog 44 nt44 ⟨pa44_0, Fn44_0 f44_0⟩ := inst_ok eo44_0 followsTry is44 ⟨⟨sh44, cm44_0, by kernel_rfl, gm44_0, fm44_0⟩⟩

/-! ### F64 etalon/etalonref08.CheckSequence -/
abbrev nt64 : Nat := 48
def sh64 : List (Nat × List Sh) := [(14, [.sl]), (23, [.int .i64]), (24, [.int .i64]), (26, [.sl]), (34, [.int .i64]), (35, [.int .i64]), (37, [.sl, .sl]), (43, [.sl])]
def r64_2 : List AOper := [oO 3 (.box (.tmp 0)), oO 4 (.box (.tmp 1)), oO 6 (.mv (.const (.int .i64 0))), oO 7 (.mv (.const (.int .i64 0)))]
def r64_5 : List AOper := [oM 10 2, oO 11 (.len (.tmp 10)), oO 12 (.bin .gtr 3 (.tmp 11) (.const (.int .i64 1000)))]
def r64_8 : List AOper := [oO 6 (.mv (.const (.int .i64 0))), oO 7 (.mv (.const (.int .i64 8)))]
def r64_10 : List AOper := [oO 13 (.faddr 0 (.tmp 4)), oO 14 (.load false 1 (.tmp 13)), oM 8 14]
def r64_13 : List AOper := [oO 9 (.mv (.const (.int .i64 0)))]
def td64_15 : Option Tidy := (some ⟨[2, 3, 4, 8, 9], true, [⟨true, 3, 0, 30300, 1⟩, ⟨true, 3, 1, 30301, 4⟩, ⟨true, 4, 0, 30400, 1⟩, ⟨true, 4, 1, 30401, 1⟩], [8]⟩)
def r64_18 : List AOper := [oM 15 9, oM 16 2, oO 17 (.len (.tmp 16)), oO 18 (.bin .lss 3 (.tmp 15) (.tmp 17))]
def r64_24 : List AOper := [oM 21 2, oM 22 9, oO 23 (.iaddr 1 none (.tmp 21) (.tmp 22)), oO 24 (.load false 1 (.tmp 23)), oO 25 (.faddr 0 (.tmp 3)), oO 26 (.load false 1 (.tmp 25)), oO 27 (.len (.tmp 26)), oO 28 (.bin .sub 3 (.tmp 27) (.const (.int .i64 1))), oO 29 (.call 19 [(.tmp 24), (.const (.int .i64 0)), (.tmp 28)]), oO 30 (.pure (oB (.unOp .not 4 (.tmp 29)) 4))]
def r64_27 : List AOper := [oO 6 (.mv (.const (.int .i64 0))), oO 7 (.mv (.const (.int .i64 6)))]
def r64_29 : List AOper := [oM 31 8, oM 32 2, oM 33 9, oO 34 (.iaddr 1 none (.tmp 32) (.tmp 33)), oO 35 (.load false 1 (.tmp 34)), oO 36 (.call 53 [(.tmp 31), (.tmp 35)]), oM 8 36]
def r64_31 : List AOper := [oO 37 (.load true 2 (.tmp 3)), oM 38 8, oO 39 (.call 52 [(.tmp 37), (.tmp 38)]), oO 40 (.bin .geq 3 (.tmp 39) (.const (.int .i64 0)))]
def r64_34 : List AOper := [oO 6 (.mv (.const (.int .i64 0))), oO 7 (.mv (.const (.int .i64 24)))]
def r64_35 : List AOper := [oM 19 9, oO 20 (.bin .add 3 (.tmp 19) (.const (.int .i64 1))), oM 9 20]
def r64_38 : List AOper := [oM 41 8, oO 42 (.faddr 1 (.tmp 4)), oO 43 (.load false 1 (.tmp 42)), oO 44 (.call 54 [(.tmp 41), (.tmp 43)]), oO 45 (.pure (oB (.unOp .not 4 (.tmp 44)) 4))]
def r64_41 : List AOper := [oO 6 (.mv (.const (.int .i64 0))), oO 7 (.mv (.const (.int .i64 23)))]
def r64_43 : List AOper := [oM 46 2, oO 47 (.len (.tmp 46)), oM 6 47, oO 7 (.mv (.const (.int .i64 0)))]
def tr64 : List (Nat × Tidy) := [(0, ⟨[2, 3, 4], true, [], []⟩), (1, ⟨[2, 3, 4, 12], true, [], []⟩), (2, ⟨[6, 7], true, [], []⟩), (3, ⟨[2, 3, 4, 8], true, [], [8]⟩), (4, ⟨[2, 3, 4, 8, 9], true, [], [8]⟩), (5, ⟨[2, 3, 4, 8, 9, 18], true, [], [8]⟩), (7, ⟨[2, 3, 4, 8, 9, 30], true, [], [8]⟩), (8, ⟨[6, 7], true, [], []⟩), (9, ⟨[2, 3, 4, 8, 9], true, [], [8]⟩), (10, ⟨[2, 3, 4, 8, 9, 40], true, [], [8]⟩), (11, ⟨[6, 7], true, [], []⟩), (6, ⟨[2, 3, 4, 8, 9], true, [], [8]⟩), (12, ⟨[2, 45], true, [], []⟩), (13, ⟨[6, 7], true, [], []⟩), (14, ⟨[6, 7], true, [], []⟩)]
def tl64 : List (Nat × Tidy) := [(5, ⟨[2, 3, 4, 8, 9], true, [⟨true, 3, 0, 30300, 1⟩, ⟨true, 3, 1, 30301, 4⟩, ⟨true, 4, 0, 30400, 1⟩, ⟨true, 4, 1, 30401, 1⟩], [8]⟩)]
def rs64 : List AResV := [.tmp 6, .tmp 7]
def p64_0_0 : PT St := pS [sl 2 (aV false [(cD dL)]), sl 3 (aV false [(cPtr 3 0)]), sl 4 (aV false [(cPtr 4 0)]), sl 8 (aV false [(cD dL)]), sl 9 (aV false [(cD (dI .i64))])] [eBox 3 [(cD dL), (cD dL)], eBox 4 [(cD dL), (cD dL)]]
def u64_0_0 {β : Type} (g : St → β) : Rows → Rows → Int → Rows → Rows → Rows → Rows → β := p64_0_0.unc g

def p64_0_1 : PT St := pS [sl 6 (aV false [(cD (dI .i64))]), sl 7 (aV false [(cD (dI .i64))])] []
def u64_0_1 {β : Type} (g : St → β) : Int → Int → β := p64_0_1.unc g

def p64_0_2 : PT St := pS [sl 2 (aV false [(cD dL)]), sl 3 (aV false [(cPtr 3 0)]), sl 4 (aV false [(cPtr 4 0)]), sl 8 (aV false [(cD dL)]), sl 9 (aV false [(cD (dI .i64))]), sl 18 (aV false [(cD dB)])] [eBox 3 [(cD dL), (cD dL)], eBox 4 [(cD dL), (cD dL)]]
def u64_0_2 {β : Type} (g : St → β) : Rows → Rows → Int → Bool → Rows → Rows → Rows → Rows → β := p64_0_2.unc g

def pr64_0_0 : PT (List RV) := pRs [pR false [rD (dI .i64)], pR false [rD (dI .i64)]]
def ur64_0_0 {β : Type} (g : List RV → β) : Int → Int → β := pr64_0_0.unc g

def E64_0g (vf19_0 : Tf19_0) (vf53_0 : Tf53_0) (vf52_0 : Tf52_0) (vf54_0 : Tf54_0) : EnvK := EnvK.of [⟨19, nt19, [⟨pa19_0, Fn19_0 vf19_0⟩]⟩, ⟨53, nt53, [⟨pa53_0, Fn53_0 vf53_0⟩]⟩, ⟨52, nt52, [⟨pa52_0, Fn52_0 vf52_0⟩]⟩, ⟨54, nt54, [⟨pa54_0, Fn54_0 vf54_0⟩]⟩] noSeq
noncomputable def E64_0 : EnvK := E64_0g f19_0 f53_0 f52_0 f54_0
theorem eo64_0 : E64_0.Ok Try.prog := EnvK.of_ok noSeq_ok ⟨⟨io19_0, trivial⟩, ⟨io53_0, trivial⟩, ⟨io52_0, trivial⟩, ⟨io54_0, trivial⟩, trivial⟩

noncomputable def c64_0_15g  : MCode := (.seq (.seq (.region r64_18 [] (some ⟨[2, 3, 4, 8, 9, 18], true, [], [8]⟩)) (.cond (.tmp 18) .skip (.exit 0))) (.seq (.block 1 (.seq (.seq (.region r64_24 [] (some ⟨[2, 3, 4, 8, 9, 30], true, [], [8]⟩)) (.cond (.tmp 30) (.seq (.region r64_27 [] (some ⟨[6, 7], true, [], []⟩)) .ret) .skip)) (.seq (.region r64_29 [] (some ⟨[2, 3, 4, 8, 9], true, [], [8]⟩)) (.seq (.region r64_31 [] (some ⟨[2, 3, 4, 8, 9, 40], true, [], [8]⟩)) (.cond (.tmp 40) (.seq (.region r64_34 [] (some ⟨[6, 7], true, [], []⟩)) .ret) .skip))))) (.region r64_35 [] (some ⟨[2, 3, 4, 8, 9], true, [], [8]⟩))))
noncomputable def c64_0_15 : MCode := c64_0_15g 
theorem g64_0_15 : c64_0_15.Good Try.prog E64_0 sh64 := ⟨⟨trivial, ⟨trivial, trivial⟩⟩, ⟨⟨⟨trivial, ⟨⟨trivial, trivial⟩, trivial⟩⟩, ⟨trivial, ⟨trivial, ⟨⟨trivial, trivial⟩, trivial⟩⟩⟩⟩, trivial⟩⟩
--CODE 15 0
def S64_0_0g (vf19_0 : Tf19_0) (vf52_0 : Tf52_0) (vf53_0 : Tf53_0) (α : Type) (x6 : Rows) (x9 : Rows) (x10 : Rows) (x7 : Rows) (x8 : Int) (kn : Rows → Int → Option α) (k1 : Int → Option α) (k2 : Rows → Int → Bool → Option α) : Option α :=
 cK (decide (x8 < ((List.length x6 : Nat) : Int)))
 (rowK x6 x8 [.int .i64]
 (fun (x14 : Int) => vf19_0 α x14 0 (w64 (((List.length x9 : Nat) : Int) - 1))
 (fun (x15 : Bool) => cK (!x15)
 (k1 6)
 (rowK x6 x8 [.int .i64]
 (fun (x16 : Int) => vf53_0 α x7 x16
 (fun (x17 : Rows) => vf52_0 α x9 x10 x17
 (fun (x18 : Int) => cK (decide (0 ≤ x18))
 (k1 24)
 (kn x17 (w64 (x8 + 1))))))))))
 (k2 x7 x8 (decide (x8 < ((List.length x6 : Nat) : Int))))
noncomputable def S64_0_0 (α : Type) (x6 : Rows) (x9 : Rows) (x10 : Rows) (x7 : Rows) (x8 : Int) (kn : Rows → Int → Option α) (k1 : Int → Option α) (k2 : Rows → Int → Bool → Option α) : Option α := S64_0_0g f19_0 f52_0 f53_0 α x6 x9 x10 x7 x8 kn k1 k2
noncomputable def R64_0_0 (α : Type) (x6 : Rows) (x9 : Rows) (x10 : Rows) (k1 : Int → Option α) (k2 : Rows → Int → Bool → Option α) : Nat → Rows → Int → Option α
 | 0, _, _ => none
 | n + 1, x7, x8 => S64_0_0 α x6 x9 x10 x7 x8 (R64_0_0 α x6 x9 x10 k1 k2 n) k1 k2
noncomputable def L64_0_0 (α : Type) (x6 : Rows) (x9 : Rows) (x10 : Rows) (k1 : Int → Option α) (k2 : Rows → Int → Bool → Option α) (x7 : Rows) (x8 : Int) : Option α := R64_0_0 α x6 x9 x10 k1 k2 fuel x7 x8
abbrev TL64_0_0 : Type 1 := (α : Type) → Rows → Rows → Rows → (Int → Option α) → (Rows → Int → Bool → Option α) → Rows → Int → Option α
def F64_0_0 (v : TL64_0_0) (α : Type) (K : Exit → St → Option α) : Rows → Rows → Int → Rows → Rows → Rows → Rows → Option α := fun x6 x7 x8 x9 x10 x11 x12 => v α x6 x9 x10 (fun (y1 : Int) => u64_0_1 (K .ret) 0 y1) (fun (y1 : Rows) (y2 : Int) (y3 : Bool) => u64_0_2 (K (.exit 0)) x6 y1 y2 y3 x9 x10 x11 x12) x7 x8
theorem r64_0_0g (vf19_0 : Tf19_0) (vf53_0 : Tf53_0) (vf52_0 : Tf52_0) (vf54_0 : Tf54_0)  (α : Type) (K : Exit → St → Option α) (Kn : St → Option α) (x6 : Rows) (x7 : Rows) (x8 : Int) (x9 : Rows) (x10 : Rows) (x11 : Rows) (x12 : Rows) : u64_0_0 (fun σ => runM Try.prog (E64_0g vf19_0 vf53_0 vf52_0 vf54_0) sh64 (c64_0_15g ) (thenK (fun σ => tidyK td64_15 σ Kn) K) σ) x6 x7 x8 x9 x10 x11 x12 = S64_0_0g vf19_0 vf52_0 vf53_0 α x6 x9 x10 x7 x8 (fun x7 x8 => u64_0_0 Kn x6 x7 x8 x9 x10 x11 x12) (fun (y1 : Int) => u64_0_1 (K .ret) 0 y1) (fun (y1 : Rows) (y2 : Int) (y3 : Bool) => u64_0_2 (K (.exit 0)) x6 y1 y2 y3 x9 x10 x11 x12) := by kernel_rfl
theorem r64_0_0 (α : Type) (K : Exit → St → Option α) (Kn : St → Option α) (x6 : Rows) (x7 : Rows) (x8 : Int) (x9 : Rows) (x10 : Rows) (x11 : Rows) (x12 : Rows) : u64_0_0 (fun σ => runM Try.prog E64_0 sh64 c64_0_15 (thenK (fun σ => tidyK td64_15 σ Kn) K) σ) x6 x7 x8 x9 x10 x11 x12 = S64_0_0 α x6 x9 x10 x7 x8 (fun x7 x8 => u64_0_0 Kn x6 x7 x8 x9 x10 x11 x12) (fun (y1 : Int) => u64_0_1 (K .ret) 0 y1) (fun (y1 : Rows) (y2 : Int) (y3 : Bool) => u64_0_2 (K (.exit 0)) x6 y1 y2 y3 x9 x10 x11 x12) := r64_0_0g f19_0 f53_0 f52_0 f54_0 α K Kn x6 x7 x8 x9 x10 x11 x12
theorem t64_0_0 (α : Type) (K : Exit → St → Option α) : ∀ (n : Nat) (x6 : Rows) (x7 : Rows) (x8 : Int) (x9 : Rows) (x10 : Rows) (x11 : Rows) (x12 : Rows), R64_0_0 α x6 x9 x10 (fun (y1 : Int) => u64_0_1 (K .ret) 0 y1) (fun (y1 : Rows) (y2 : Int) (y3 : Bool) => u64_0_2 (K (.exit 0)) x6 y1 y2 y3 x9 x10 x11 x12) n x7 x8 = u64_0_0 (loopT (runM Try.prog E64_0 sh64 c64_0_15) td64_15 K n) x6 x7 x8 x9 x10 x11 x12 := by
 intro n
 induction n with
 | zero => intros; rfl
 | succ n ih => intro x6 x7 x8 x9 x10 x11 x12; exact (congrArg (fun kn => S64_0_0 α x6 x9 x10 x7 x8 kn (fun (y1 : Int) => u64_0_1 (K .ret) 0 y1) (fun (y1 : Rows) (y2 : Int) (y3 : Bool) => u64_0_2 (K (.exit 0)) x6 y1 y2 y3 x9 x10 x11 x12)) (funext fun x7 => funext fun x8 => ih x6 x7 x8 x9 x10 x11 x12)).trans (r64_0_0 α K (loopT (runM Try.prog E64_0 sh64 c64_0_15) td64_15 K n) x6 x7 x8 x9 x10 x11 x12).symm
theorem m64_0_0 : ∀ (α : Type) (K : Exit → St → Option α), F64_0_0 L64_0_0 α K = p64_0_0.unc fun σ => loopT (runM Try.prog E64_0 sh64 c64_0_15) td64_15 K fuel σ := fun α K => funext fun x6 => funext fun x7 => funext fun x8 => funext fun x9 => funext fun x10 => funext fun x11 => funext fun x12 => t64_0_0 α K fuel x6 x7 x8 x9 x10 x11 x12

/-- etalon/etalonref08.CheckSequence -/
abbrev Tf64_0 : Type 1 := (α : Type) → Rows → Rows → Rows → Rows → Rows → (Int → Int → Option α) → Option α
def f64_0g (vL64_0_0 : TL64_0_0) (vf54_0 : Tf54_0) (α : Type) (x1 : Rows) (x2 : Rows) (x3 : Rows) (x4 : Rows) (x5 : Rows) (k1 : Int → Int → Option α) : Option α :=
 cK (decide (1000 < ((List.length x5 : Nat) : Int)))
 (k1 0 8)
 (vL64_0_0 α x5 x1 x2
 (fun (x19 : Int) => k1 0 x19)
 (fun (x20 : Rows) (x21 : Int) (x22 : Bool) => vf54_0 α x20 x4
 (fun (x24 : Bool) => cK (!x24)
 (k1 0 23)
 (k1 ((List.length x5 : Nat) : Int) 0))) x3 0)
noncomputable def f64_0 (α : Type) (x1 : Rows) (x2 : Rows) (x3 : Rows) (x4 : Rows) (x5 : Rows) (k1 : Int → Int → Option α) : Option α := f64_0g L64_0_0 f54_0 α x1 x2 x3 x4 x5 k1
def pa64_0 : PT (List DV) := pA [pV true [dL, dL], pV true [dL, dL], pV false [dL]]
def Fn64_0 (v : Tf64_0) (α : Type) (k : List RV → Option α) : Rows → Rows → Rows → Rows → Rows → Option α := fun x1 x2 x3 x4 x5 => v α x1 x2 x3 x4 x5 (fun (y1 : Int) (y2 : Int) => ur64_0_0 k y1 y2)
noncomputable def cm64_0g (vL64_0_0 : TL64_0_0) : MCode := (.seq (.region r64_2 [] (some ⟨[2, 3, 4], true, [], []⟩)) (.seq (.seq (.region r64_5 [] (some ⟨[2, 3, 4, 12], true, [], []⟩)) (.cond (.tmp 12) (.seq (.region r64_8 [] (some ⟨[6, 7], true, [], []⟩)) .ret) .skip)) (.seq (.region r64_10 [] (some ⟨[2, 3, 4, 8], true, [], [8]⟩)) (.seq (.seq (.region r64_13 [] (some ⟨[2, 3, 4, 8, 9], true, [], [8]⟩)) (.block 0 (.loop td64_15 [⟨p64_0_0, F64_0_0 vL64_0_0⟩] c64_0_15))) (.seq (.seq (.region r64_38 [] (some ⟨[2, 45], true, [], []⟩)) (.cond (.tmp 45) (.seq (.region r64_41 [] (some ⟨[6, 7], true, [], []⟩)) .ret) .skip)) (.seq (.region r64_43 [] (some ⟨[6, 7], true, [], []⟩)) .ret))))))
noncomputable def cm64_0 : MCode := cm64_0g L64_0_0
theorem gm64_0 : cm64_0.Good Try.prog E64_0 sh64 := ⟨trivial, ⟨⟨trivial, ⟨⟨trivial, trivial⟩, trivial⟩⟩, ⟨trivial, ⟨⟨trivial, ⟨g64_0_15, m64_0_0, trivial⟩⟩, ⟨⟨trivial, ⟨⟨trivial, trivial⟩, trivial⟩⟩, ⟨trivial, trivial⟩⟩⟩⟩⟩⟩
theorem fm64_0g (vf19_0 : Tf19_0) (vf53_0 : Tf53_0) (vf52_0 : Tf52_0) (vf54_0 : Tf54_0) (vL64_0_0 : TL64_0_0) (α : Type) (k : List RV → Option α) : Fn64_0 (f64_0g vL64_0_0 vf54_0) α k = pa64_0.unc fun ds => fnM Try.prog (E64_0g vf19_0 vf53_0 vf52_0 vf54_0) sh64 (cm64_0g vL64_0_0) rs64 k ds := by kernel_rfl
theorem fm64_0 : ∀ (α : Type) (k : List RV → Option α), Fn64_0 f64_0 α k = pa64_0.unc fun ds => fnM Try.prog E64_0 sh64 cm64_0 rs64 k ds := fm64_0g f19_0 f53_0 f52_0 f54_0 L64_0_0

theorem is64 : FnIs Try.prog 64 nt64 tr64 tl64 cm64_0.erase rs64 := ⟨Try.f64, Try.func64, rfl, by kernel_rfl, by kernel_rfl, by kernel_rfl⟩
theorem io64_0 : InstOk Try.prog 64 nt64 ⟨pa64_0, Fn64_0 f64_0⟩ := inst_ok eo64_0 followsTry is64 ⟨⟨sh64, cm64_0, by kernel_rfl, gm64_0, fm64_0⟩⟩

/-! ### F59 etalon/etalonref08.CheckLabels -/
abbrev nt59 : Nat := 94
def sh59 : List (Nat × List Sh) := [(17, [.sl]), (36, [.int .i64]), (37, [.int .i64]), (42, [.sl]), (44, [.int .i64]), (45, [.int .i64]), (54, [.sl]), (57, [.sl, .sl]), (63, [.sl]), (71, [.sl, .sl]), (79, [.int .i64]), (80, [.int .i64]), (83, [.int .i64]), (84, [.int .i64]), (90, [.sl]), (92, [.int .i64]), (93, [.int .i64])]
def r59_2 : List AOper := [oO 3 (.box (.tmp 0)), oO 4 (.box (.tmp 1)), oO 6 (.mv (.const (.int .i64 0))), oO 7 (.mv (.const (.int .i64 0)))]
def r59_4 : List AOper := [oO 8 (.mv (.const (.int .i64 1)))]
def r59_7 : List AOper := [oO 9 (.mv (.const (.int .i64 0)))]
def td59_9 : Option Tidy := (some ⟨[2, 3, 4, 8, 9], true, [⟨true, 3, 0, 30300, 1⟩, ⟨true, 3, 1, 30301, 4⟩, ⟨true, 4, 0, 30400, 1⟩, ⟨true, 4, 1, 30401, 1⟩], []⟩)
def r59_12 : List AOper := [oM 15 9, oO 16 (.faddr 0 (.tmp 3)), oO 17 (.load false 1 (.tmp 16)), oO 18 (.len (.tmp 17)), oO 19 (.bin .lss 3 (.tmp 15) (.tmp 18))]
def r59_16 : List AOper := [oM 22 8, oO 23 (.bin .mul 3 (.const (.int .i64 2)) (.tmp 22)), oM 8 23]
def r59_17 : List AOper := [oM 20 9, oO 21 (.bin .add 3 (.tmp 20) (.const (.int .i64 1))), oM 9 21]
def r59_20 : List AOper := [oM 24 2, oO 25 (.len (.tmp 24)), oM 26 8, oO 27 (.bin .neq 3 (.tmp 25) (.tmp 26))]
def r59_23 : List AOper := [oO 6 (.mv (.const (.int .i64 0))), oO 7 (.mv (.const (.int .i64 12)))]
def r59_26 : List AOper := [oO 10 (.mv (.const (.int .i64 0)))]
def td59_28 : Option Tidy := (some ⟨[2, 3, 4, 8, 10], true, [⟨true, 3, 0, 30300, 1⟩, ⟨true, 3, 1, 30301, 4⟩, ⟨true, 4, 0, 30400, 1⟩, ⟨true, 4, 1, 30401, 1⟩], []⟩)
def r59_31 : List AOper := [oM 28 10, oM 29 2, oO 30 (.len (.tmp 29)), oO 31 (.bin .lss 3 (.tmp 28) (.tmp 30))]
def r59_36 : List AOper := [oM 34 2, oM 35 10, oO 36 (.iaddr 1 none (.tmp 34) (.tmp 35)), oO 37 (.load false 1 (.tmp 36)), oO 38 (.call 19 [(.tmp 37), (.const (.int .i64 0)), (.const (.int .i64 1000))]), oO 39 (.pure (oB (.unOp .not 4 (.tmp 38)) 4))]
def r59_39 : List AOper := [oO 6 (.mv (.const (.int .i64 0))), oO 7 (.mv (.const (.int .i64 2)))]
def r59_40 : List AOper := [oM 32 10, oO 33 (.bin .add 3 (.tmp 32) (.const (.int .i64 1))), oM 10 33]
def r59_43 : List AOper := [oM 40 2, oO 41 (.faddr 0 (.tmp 4)), oO 42 (.load false 1 (.tmp 41)), oO 43 (.call 114 [(.tmp 42)]), oO 44 (.iaddr 1 none (.tmp 40) (.tmp 43)), oO 45 (.load false 1 (.tmp 44)), oO 46 (.bin .neq 3 (.tmp 45) (.const (.int .i64 0)))]
def r59_46 : List AOper := [oO 6 (.mv (.const (.int .i64 0))), oO 7 (.mv (.const (.int .i64 20)))]
def r59_49 : List AOper := [oO 11 (.mv (.const (.int .i64 0)))]
def td59_51 : Option Tidy := (some ⟨[2, 3, 4, 8, 11], true, [⟨true, 3, 0, 30300, 1⟩, ⟨true, 3, 1, 30301, 4⟩, ⟨true, 4, 0, 30400, 1⟩, ⟨true, 4, 1, 30401, 1⟩], []⟩)
def r59_54 : List AOper := [oM 47 11, oM 48 8, oO 49 (.bin .lss 3 (.tmp 47) (.tmp 48))]
def r59_59 : List AOper := [oM 52 11, oO 53 (.faddr 0 (.tmp 3)), oO 54 (.load false 1 (.tmp 53)), oO 55 (.len (.tmp 54)), oO 56 (.call 115 [(.tmp 52), (.tmp 55)]), oM 12 56]
def r59_62 : List AOper := [oO 57 (.load true 2 (.tmp 3)), oM 58 12, oO 59 (.call 52 [(.tmp 57), (.tmp 58)]), oO 60 (.bin .geq 3 (.tmp 59) (.const (.int .i64 0)))]
def r59_65 : List AOper := [oO 13 (.mv (.const (.int .i64 0)))]
def td59_67 : Option Tidy := (some ⟨[2, 3, 4, 8, 11, 12, 13], true, [⟨false, 12, 0, 20012, 1⟩, ⟨true, 3, 0, 30300, 1⟩, ⟨true, 3, 1, 30301, 4⟩, ⟨true, 4, 0, 30400, 1⟩, ⟨true, 4, 1, 30401, 1⟩], []⟩)
def r59_70 : List AOper := [oM 61 13, oO 62 (.faddr 0 (.tmp 3)), oO 63 (.load false 1 (.tmp 62)), oO 64 (.len (.tmp 63)), oO 65 (.bin .lss 3 (.tmp 61) (.tmp 64))]
def r59_75 : List AOper := [oM 68 12, oM 69 13, oO 70 (.call 53 [(.tmp 68), (.tmp 69)]), oM 14 70]
def r59_77 : List AOper := [oO 71 (.load true 2 (.tmp 3)), oM 72 14, oO 73 (.call 52 [(.tmp 71), (.tmp 72)]), oO 74 (.bin .lss 3 (.tmp 73) (.const (.int .i64 0))), oM 75 74, ⟨(some 76), (.mv (.tmp 2)), (some (75, true))⟩, ⟨(some 77), (.mv (.tmp 14)), (some (75, true))⟩, ⟨(some 78), (.call 114 [(.tmp 77)]), (some (75, true))⟩, ⟨(some 79), (.iaddr 1 none (.tmp 76) (.tmp 78)), (some (75, true))⟩, ⟨(some 80), (.load false 1 (.tmp 79)), (some (75, true))⟩, ⟨(some 81), (.mv (.tmp 2)), (some (75, true))⟩, ⟨(some 82), (.mv (.tmp 11)), (some (75, true))⟩, ⟨(some 83), (.iaddr 1 none (.tmp 81) (.tmp 82)), (some (75, true))⟩, ⟨(some 84), (.load false 1 (.tmp 83)), (some (75, true))⟩, ⟨(some 85), (.bin .add 3 (.tmp 84) (.const (.int .i64 1))), (some (75, true))⟩, ⟨(some 86), (.bin .gtr 3 (.tmp 80) (.tmp 85)), (some (75, true))⟩, oO 87 (.pick (.tmp 75) (.tmp 86) (.const (.bool false)))]
def r59_80 : List AOper := [oO 6 (.mv (.const (.int .i64 0))), oO 7 (.mv (.const (.int .i64 20)))]
def r59_81 : List AOper := [oM 66 13, oO 67 (.bin .add 3 (.tmp 66) (.const (.int .i64 1))), oM 13 67]
def r59_82 : List AOper := [oM 50 11, oO 51 (.bin .add 3 (.tmp 50) (.const (.int .i64 1))), oM 11 51]
def r59_84 : List AOper := [oM 88 2, oO 89 (.faddr 1 (.tmp 4)), oO 90 (.load false 1 (.tmp 89)), oO 91 (.call 114 [(.tmp 90)]), oO 92 (.iaddr 1 none (.tmp 88) (.tmp 91)), oO 93 (.load false 1 (.tmp 92)), oM 6 93, oO 7 (.mv (.const (.int .i64 0)))]
def tr59 : List (Nat × Tidy) := [(0, ⟨[2, 3, 4], true, [], []⟩), (1, ⟨[2, 3, 4, 8], true, [], []⟩), (2, ⟨[2, 3, 4, 8, 9], true, [], []⟩), (3, ⟨[2, 3, 4, 8, 9, 19], true, [], []⟩), (5, ⟨[2, 3, 4, 8, 9], true, [], []⟩), (4, ⟨[2, 3, 4, 8, 9], true, [], []⟩), (6, ⟨[2, 3, 4, 8, 27], true, [], []⟩), (7, ⟨[6, 7], true, [], []⟩), (8, ⟨[2, 3, 4, 8, 10], true, [], []⟩), (9, ⟨[2, 3, 4, 8, 10, 31], true, [], []⟩), (11, ⟨[2, 3, 4, 8, 10, 39], true, [], []⟩), (12, ⟨[6, 7], true, [], []⟩), (10, ⟨[2, 3, 4, 8, 10], true, [], []⟩), (13, ⟨[2, 3, 4, 8, 46], true, [], []⟩), (14, ⟨[6, 7], true, [], []⟩), (15, ⟨[2, 3, 4, 8, 11], true, [], []⟩), (16, ⟨[2, 3, 4, 8, 11, 49], true, [], []⟩), (18, ⟨[2, 3, 4, 8, 11, 12], true, [], []⟩), (19, ⟨[2, 3, 4, 8, 11, 12, 60], true, [], []⟩), (20, ⟨[2, 3, 4, 8, 11, 12, 13], true, [], []⟩), (21, ⟨[2, 3, 4, 8, 11, 12, 13, 65], true, [], []⟩), (23, ⟨[2, 3, 4, 8, 11, 12, 13, 14], true, [], []⟩), (24, ⟨[2, 3, 4, 8, 11, 12, 13, 87], true, [], []⟩), (25, ⟨[6, 7], true, [], []⟩), (22, ⟨[2, 3, 4, 8, 11, 12, 13], true, [], []⟩), (17, ⟨[2, 3, 4, 8, 11], true, [], []⟩), (26, ⟨[6, 7], true, [], []⟩)]
def tl59 : List (Nat × Tidy) := [(3, ⟨[2, 3, 4, 8, 9], true, [⟨true, 3, 0, 30300, 1⟩, ⟨true, 3, 1, 30301, 4⟩, ⟨true, 4, 0, 30400, 1⟩, ⟨true, 4, 1, 30401, 1⟩], []⟩), (9, ⟨[2, 3, 4, 8, 10], true, [⟨true, 3, 0, 30300, 1⟩, ⟨true, 3, 1, 30301, 4⟩, ⟨true, 4, 0, 30400, 1⟩, ⟨true, 4, 1, 30401, 1⟩], []⟩), (16, ⟨[2, 3, 4, 8, 11], true, [⟨true, 3, 0, 30300, 1⟩, ⟨true, 3, 1, 30301, 4⟩, ⟨true, 4, 0, 30400, 1⟩, ⟨true, 4, 1, 30401, 1⟩], []⟩), (21, ⟨[2, 3, 4, 8, 11, 12, 13], true, [⟨false, 12, 0, 20012, 1⟩, ⟨true, 3, 0, 30300, 1⟩, ⟨true, 3, 1, 30301, 4⟩, ⟨true, 4, 0, 30400, 1⟩, ⟨true, 4, 1, 30401, 1⟩], []⟩)]
def rs59 : List AResV := [.tmp 6, .tmp 7]
def p59_0_0 : PT St := pS [sl 2 (aV false [(cD dL)]), sl 3 (aV false [(cPtr 3 0)]), sl 4 (aV false [(cPtr 4 0)]), sl 8 (aV false [(cD (dI .i64))]), sl 9 (aV false [(cD (dI .i64))])] [eBox 3 [(cD dL), (cD dL)], eBox 4 [(cD dL), (cD dL)]]
def u59_0_0 {β : Type} (g : St → β) : Rows → Int → Int → Rows → Rows → Rows → Rows → β := p59_0_0.unc g

def p59_0_1 : PT St := pS [sl 2 (aV false [(cD dL)]), sl 3 (aV false [(cPtr 3 0)]), sl 4 (aV false [(cPtr 4 0)]), sl 8 (aV false [(cD (dI .i64))]), sl 9 (aV false [(cD (dI .i64))]), sl 19 (aV false [(cD dB)])] [eBox 3 [(cD dL), (cD dL)], eBox 4 [(cD dL), (cD dL)]]
def u59_0_1 {β : Type} (g : St → β) : Rows → Int → Int → Bool → Rows → Rows → Rows → Rows → β := p59_0_1.unc g

def p59_0_2 : PT St := pS [sl 2 (aV false [(cD dL)]), sl 3 (aV false [(cPtr 3 0)]), sl 4 (aV false [(cPtr 4 0)]), sl 8 (aV false [(cD (dI .i64))]), sl 10 (aV false [(cD (dI .i64))])] [eBox 3 [(cD dL), (cD dL)], eBox 4 [(cD dL), (cD dL)]]
def u59_0_2 {β : Type} (g : St → β) : Rows → Int → Int → Rows → Rows → Rows → Rows → β := p59_0_2.unc g

def p59_0_3 : PT St := pS [sl 6 (aV false [(cD (dI .i64))]), sl 7 (aV false [(cD (dI .i64))])] []
def u59_0_3 {β : Type} (g : St → β) : Int → Int → β := p59_0_3.unc g

def p59_0_4 : PT St := pS [sl 2 (aV false [(cD dL)]), sl 3 (aV false [(cPtr 3 0)]), sl 4 (aV false [(cPtr 4 0)]), sl 8 (aV false [(cD (dI .i64))]), sl 10 (aV false [(cD (dI .i64))]), sl 31 (aV false [(cD dB)])] [eBox 3 [(cD dL), (cD dL)], eBox 4 [(cD dL), (cD dL)]]
def u59_0_4 {β : Type} (g : St → β) : Rows → Int → Int → Bool → Rows → Rows → Rows → Rows → β := p59_0_4.unc g

def p59_0_5 : PT St := pS [sl 2 (aV false [(cD dL)]), sl 3 (aV false [(cPtr 3 0)]), sl 4 (aV false [(cPtr 4 0)]), sl 8 (aV false [(cD (dI .i64))]), sl 11 (aV false [(cD (dI .i64))]), sl 12 (aV false [(cRef 20012)]), sl 13 (aV false [(cD (dI .i64))])] [eBox 3 [(cD dL), (cD dL)], eBox 4 [(cD dL), (cD dL)], eOwn 20012 1]
def u59_0_5 {β : Type} (g : St → β) : Rows → Int → Int → Int → Rows → Rows → Rows → Rows → Rows → β := p59_0_5.unc g

def p59_0_6 : PT St := pS [sl 2 (aV false [(cD dL)]), sl 3 (aV false [(cPtr 3 0)]), sl 4 (aV false [(cPtr 4 0)]), sl 8 (aV false [(cD (dI .i64))]), sl 11 (aV false [(cD (dI .i64))]), sl 12 (aV false [(cRef 20012)]), sl 13 (aV false [(cD (dI .i64))]), sl 65 (aV false [(cD dB)])] [eBox 3 [(cD dL), (cD dL)], eBox 4 [(cD dL), (cD dL)], eOwn 20012 1]
def u59_0_6 {β : Type} (g : St → β) : Rows → Int → Int → Int → Bool → Rows → Rows → Rows → Rows → Rows → β := p59_0_6.unc g

def p59_0_7 : PT St := pS [sl 2 (aV false [(cD dL)]), sl 3 (aV false [(cPtr 3 0)]), sl 4 (aV false [(cPtr 4 0)]), sl 8 (aV false [(cD (dI .i64))]), sl 11 (aV false [(cD (dI .i64))])] [eBox 3 [(cD dL), (cD dL)], eBox 4 [(cD dL), (cD dL)]]
def u59_0_7 {β : Type} (g : St → β) : Rows → Int → Int → Rows → Rows → Rows → Rows → β := p59_0_7.unc g

def p59_0_8 : PT St := pS [sl 2 (aV false [(cD dL)]), sl 3 (aV false [(cPtr 3 0)]), sl 4 (aV false [(cPtr 4 0)]), sl 8 (aV false [(cD (dI .i64))]), sl 11 (aV false [(cD (dI .i64))]), sl 49 (aV false [(cD dB)])] [eBox 3 [(cD dL), (cD dL)], eBox 4 [(cD dL), (cD dL)]]
def u59_0_8 {β : Type} (g : St → β) : Rows → Int → Int → Bool → Rows → Rows → Rows → Rows → β := p59_0_8.unc g

def pr59_0_0 : PT (List RV) := pRs [pR false [rD (dI .i64)], pR false [rD (dI .i64)]]
def ur59_0_0 {β : Type} (g : List RV → β) : Int → Int → β := pr59_0_0.unc g

def E59_0g (vf19_0 : Tf19_0) (vf114_0 : Tf114_0) (vf115_0 : Tf115_0) (vf52_0 : Tf52_0) (vf53_0 : Tf53_0) : EnvK := EnvK.of [⟨19, nt19, [⟨pa19_0, Fn19_0 vf19_0⟩]⟩, ⟨114, nt114, [⟨pa114_0, Fn114_0 vf114_0⟩]⟩, ⟨115, nt115, [⟨pa115_0, Fn115_0 vf115_0⟩]⟩, ⟨52, nt52, [⟨pa52_0, Fn52_0 vf52_0⟩]⟩, ⟨53, nt53, [⟨pa53_0, Fn53_0 vf53_0⟩]⟩] noSeq
noncomputable def E59_0 : EnvK := E59_0g f19_0 f114_0 f115_0 f52_0 f53_0
theorem eo59_0 : E59_0.Ok Try.prog := EnvK.of_ok noSeq_ok ⟨⟨io19_0, trivial⟩, ⟨io114_0, trivial⟩, ⟨io115_0, trivial⟩, ⟨io52_0, trivial⟩, ⟨io53_0, trivial⟩, trivial⟩

noncomputable def c59_0_67g  : MCode := (.seq (.seq (.region r59_70 [] (some ⟨[2, 3, 4, 8, 11, 12, 13, 65], true, [], []⟩)) (.cond (.tmp 65) .skip (.exit 6))) (.seq (.block 7 (.seq (.region r59_75 [] (some ⟨[2, 3, 4, 8, 11, 12, 13, 14], true, [], []⟩)) (.seq (.region r59_77 [(7, 12), (7, 13)] (some ⟨[2, 3, 4, 8, 11, 12, 13, 87], true, [], []⟩)) (.cond (.tmp 87) (.seq (.region r59_80 [] (some ⟨[6, 7], true, [], []⟩)) .ret) .skip)))) (.region r59_81 [] (some ⟨[2, 3, 4, 8, 11, 12, 13], true, [], []⟩))))
noncomputable def c59_0_67 : MCode := c59_0_67g 
theorem g59_0_67 : c59_0_67.Good Try.prog E59_0 sh59 := ⟨⟨trivial, ⟨trivial, trivial⟩⟩, ⟨⟨trivial, ⟨trivial, ⟨⟨trivial, trivial⟩, trivial⟩⟩⟩, trivial⟩⟩
--CODE 67 0
def S59_0_2g (vf114_0 : Tf114_0) (vf52_0 : Tf52_0) (vf53_0 : Tf53_0) (α : Type) (x43 : Rows) (x45 : Int) (x47 : Rows) (x48 : Rows) (x51 : Rows) (x46 : Int) (kn : Int → Option α) (k1 : Option α) (k2 : Int → Bool → Option α) : Option α :=
 cK (decide (x46 < ((List.length x47 : Nat) : Int)))
 (vf53_0 α x51 x46
 (fun (x53 : Rows) => flatK [x53]
 (vf52_0 α x47 x48 x53
 (fun (x54 : Int) => cK (decide (x54 < 0))
 (vf114_0 α x53
 (fun (x55 : Int) => rowK x43 x55 [.int .i64]
 (fun (x56 : Int) => rowK x43 x45 [.int .i64]
 (fun (x57 : Int) => cK (decide ((w64 (x57 + 1)) < x56))
 (k1)
 (kn (w64 (x46 + 1)))))))
 (kn (w64 (x46 + 1)))))))
 (k2 x46 (decide (x46 < ((List.length x47 : Nat) : Int))))
noncomputable def S59_0_2 (α : Type) (x43 : Rows) (x45 : Int) (x47 : Rows) (x48 : Rows) (x51 : Rows) (x46 : Int) (kn : Int → Option α) (k1 : Option α) (k2 : Int → Bool → Option α) : Option α := S59_0_2g f114_0 f52_0 f53_0 α x43 x45 x47 x48 x51 x46 kn k1 k2
noncomputable def R59_0_2 (α : Type) (x43 : Rows) (x45 : Int) (x47 : Rows) (x48 : Rows) (x51 : Rows) (k1 : Option α) (k2 : Int → Bool → Option α) : Nat → Int → Option α
 | 0, _ => none
 | n + 1, x46 => S59_0_2 α x43 x45 x47 x48 x51 x46 (R59_0_2 α x43 x45 x47 x48 x51 k1 k2 n) k1 k2
noncomputable def L59_0_2 (α : Type) (x43 : Rows) (x45 : Int) (x47 : Rows) (x48 : Rows) (x51 : Rows) (k1 : Option α) (k2 : Int → Bool → Option α) (x46 : Int) : Option α := R59_0_2 α x43 x45 x47 x48 x51 k1 k2 fuel x46
abbrev TL59_0_2 : Type 1 := (α : Type) → Rows → Int → Rows → Rows → Rows → (Option α) → (Int → Bool → Option α) → Int → Option α
def F59_0_2 (v : TL59_0_2) (α : Type) (K : Exit → St → Option α) : Rows → Int → Int → Int → Rows → Rows → Rows → Rows → Rows → Option α := fun x43 x44 x45 x46 x47 x48 x49 x50 x51 => v α x43 x45 x47 x48 x51 (u59_0_3 (K .ret) 0 20) (fun (y1 : Int) (y2 : Bool) => u59_0_6 (K (.exit 6)) x43 x44 x45 y1 y2 x47 x48 x49 x50 x51) x46
theorem r59_0_2g (vf19_0 : Tf19_0) (vf114_0 : Tf114_0) (vf115_0 : Tf115_0) (vf52_0 : Tf52_0) (vf53_0 : Tf53_0)  (α : Type) (K : Exit → St → Option α) (Kn : St → Option α) (x43 : Rows) (x44 : Int) (x45 : Int) (x46 : Int) (x47 : Rows) (x48 : Rows) (x49 : Rows) (x50 : Rows) (x51 : Rows) : u59_0_5 (fun σ => runM Try.prog (E59_0g vf19_0 vf114_0 vf115_0 vf52_0 vf53_0) sh59 (c59_0_67g ) (thenK (fun σ => tidyK td59_67 σ Kn) K) σ) x43 x44 x45 x46 x47 x48 x49 x50 x51 = S59_0_2g vf114_0 vf52_0 vf53_0 α x43 x45 x47 x48 x51 x46 (fun x46 => u59_0_5 Kn x43 x44 x45 x46 x47 x48 x49 x50 x51) (u59_0_3 (K .ret) 0 20) (fun (y1 : Int) (y2 : Bool) => u59_0_6 (K (.exit 6)) x43 x44 x45 y1 y2 x47 x48 x49 x50 x51) := by kernel_rfl
theorem r59_0_2 (α : Type) (K : Exit → St → Option α) (Kn : St → Option α) (x43 : Rows) (x44 : Int) (x45 : Int) (x46 : Int) (x47 : Rows) (x48 : Rows) (x49 : Rows) (x50 : Rows) (x51 : Rows) : u59_0_5 (fun σ => runM Try.prog E59_0 sh59 c59_0_67 (thenK (fun σ => tidyK td59_67 σ Kn) K) σ) x43 x44 x45 x46 x47 x48 x49 x50 x51 = S59_0_2 α x43 x45 x47 x48 x51 x46 (fun x46 => u59_0_5 Kn x43 x44 x45 x46 x47 x48 x49 x50 x51) (u59_0_3 (K .ret) 0 20) (fun (y1 : Int) (y2 : Bool) => u59_0_6 (K (.exit 6)) x43 x44 x45 y1 y2 x47 x48 x49 x50 x51) := r59_0_2g f19_0 f114_0 f115_0 f52_0 f53_0 α K Kn x43 x44 x45 x46 x47 x48 x49 x50 x51
theorem t59_0_2 (α : Type) (K : Exit → St → Option α) : ∀ (n : Nat) (x43 : Rows) (x44 : Int) (x45 : Int) (x46 : Int) (x47 : Rows) (x48 : Rows) (x49 : Rows) (x50 : Rows) (x51 : Rows), R59_0_2 α x43 x45 x47 x48 x51 (u59_0_3 (K .ret) 0 20) (fun (y1 : Int) (y2 : Bool) => u59_0_6 (K (.exit 6)) x43 x44 x45 y1 y2 x47 x48 x49 x50 x51) n x46 = u59_0_5 (loopT (runM Try.prog E59_0 sh59 c59_0_67) td59_67 K n) x43 x44 x45 x46 x47 x48 x49 x50 x51 := by
 intro n
 induction n with
 | zero => intros; rfl
 | succ n ih => intro x43 x44 x45 x46 x47 x48 x49 x50 x51; exact (congrArg (fun kn => S59_0_2 α x43 x45 x47 x48 x51 x46 kn (u59_0_3 (K .ret) 0 20) (fun (y1 : Int) (y2 : Bool) => u59_0_6 (K (.exit 6)) x43 x44 x45 y1 y2 x47 x48 x49 x50 x51)) (funext fun x46 => ih x43 x44 x45 x46 x47 x48 x49 x50 x51)).trans (r59_0_2 α K (loopT (runM Try.prog E59_0 sh59 c59_0_67) td59_67 K n) x43 x44 x45 x46 x47 x48 x49 x50 x51).symm
theorem m59_0_2 : ∀ (α : Type) (K : Exit → St → Option α), F59_0_2 L59_0_2 α K = p59_0_5.unc fun σ => loopT (runM Try.prog E59_0 sh59 c59_0_67) td59_67 K fuel σ := fun α K => funext fun x43 => funext fun x44 => funext fun x45 => funext fun x46 => funext fun x47 => funext fun x48 => funext fun x49 => funext fun x50 => funext fun x51 => t59_0_2 α K fuel x43 x44 x45 x46 x47 x48 x49 x50 x51

noncomputable def c59_0_51g (vL59_0_2 : TL59_0_2) : MCode := (.seq (.seq (.region r59_54 [] (some ⟨[2, 3, 4, 8, 11, 49], true, [], []⟩)) (.cond (.tmp 49) .skip (.exit 4))) (.seq (.block 5 (.seq (.region r59_59 [] (some ⟨[2, 3, 4, 8, 11, 12], true, [], []⟩)) (.seq (.seq (.region r59_62 [] (some ⟨[2, 3, 4, 8, 11, 12, 60], true, [], []⟩)) (.cond (.tmp 60) (.exit 5) .skip)) (.seq (.region r59_65 [] (some ⟨[2, 3, 4, 8, 11, 12, 13], true, [], []⟩)) (.block 6 (.loop td59_67 [⟨p59_0_5, F59_0_2 vL59_0_2⟩] c59_0_67)))))) (.region r59_82 [] (some ⟨[2, 3, 4, 8, 11], true, [], []⟩))))
noncomputable def c59_0_51 : MCode := c59_0_51g L59_0_2
theorem g59_0_51 : c59_0_51.Good Try.prog E59_0 sh59 := ⟨⟨trivial, ⟨trivial, trivial⟩⟩, ⟨⟨trivial, ⟨⟨trivial, ⟨trivial, trivial⟩⟩, ⟨trivial, ⟨g59_0_67, m59_0_2, trivial⟩⟩⟩⟩, trivial⟩⟩
--CODE 51 0
def S59_0_3g (vL59_0_2 : TL59_0_2) (vf115_0 : Tf115_0) (vf52_0 : Tf52_0) (α : Type) (x33 : Rows) (x34 : Int) (x36 : Rows) (x37 : Rows) (x35 : Int) (kn : Int → Option α) (k1 : Option α) (k2 : Int → Bool → Option α) : Option α :=
 cK (decide (x35 < x34))
 (vf115_0 α x35 ((List.length x36 : Nat) : Int)
 (fun (x41 : Rows) => vf52_0 α x36 x37 x41
 (fun (x42 : Int) => cK (decide (0 ≤ x42))
 (kn (w64 (x35 + 1)))
 (vL59_0_2 α x33 x35 x36 x37 x41
 (k1)
 (fun (x58 : Int) (x59 : Bool) => kn (w64 (x35 + 1))) 0))))
 (k2 x35 (decide (x35 < x34)))
noncomputable def S59_0_3 (α : Type) (x33 : Rows) (x34 : Int) (x36 : Rows) (x37 : Rows) (x35 : Int) (kn : Int → Option α) (k1 : Option α) (k2 : Int → Bool → Option α) : Option α := S59_0_3g L59_0_2 f115_0 f52_0 α x33 x34 x36 x37 x35 kn k1 k2
noncomputable def R59_0_3 (α : Type) (x33 : Rows) (x34 : Int) (x36 : Rows) (x37 : Rows) (k1 : Option α) (k2 : Int → Bool → Option α) : Nat → Int → Option α
 | 0, _ => none
 | n + 1, x35 => S59_0_3 α x33 x34 x36 x37 x35 (R59_0_3 α x33 x34 x36 x37 k1 k2 n) k1 k2
noncomputable def L59_0_3 (α : Type) (x33 : Rows) (x34 : Int) (x36 : Rows) (x37 : Rows) (k1 : Option α) (k2 : Int → Bool → Option α) (x35 : Int) : Option α := R59_0_3 α x33 x34 x36 x37 k1 k2 fuel x35
abbrev TL59_0_3 : Type 1 := (α : Type) → Rows → Int → Rows → Rows → (Option α) → (Int → Bool → Option α) → Int → Option α
def F59_0_3 (v : TL59_0_3) (α : Type) (K : Exit → St → Option α) : Rows → Int → Int → Rows → Rows → Rows → Rows → Option α := fun x33 x34 x35 x36 x37 x38 x39 => v α x33 x34 x36 x37 (u59_0_3 (K .ret) 0 20) (fun (y1 : Int) (y2 : Bool) => u59_0_8 (K (.exit 4)) x33 x34 y1 y2 x36 x37 x38 x39) x35
theorem r59_0_3g (vf19_0 : Tf19_0) (vf114_0 : Tf114_0) (vf115_0 : Tf115_0) (vf52_0 : Tf52_0) (vf53_0 : Tf53_0) (vL59_0_2 : TL59_0_2) (α : Type) (K : Exit → St → Option α) (Kn : St → Option α) (x33 : Rows) (x34 : Int) (x35 : Int) (x36 : Rows) (x37 : Rows) (x38 : Rows) (x39 : Rows) : u59_0_7 (fun σ => runM Try.prog (E59_0g vf19_0 vf114_0 vf115_0 vf52_0 vf53_0) sh59 (c59_0_51g vL59_0_2) (thenK (fun σ => tidyK td59_51 σ Kn) K) σ) x33 x34 x35 x36 x37 x38 x39 = S59_0_3g vL59_0_2 vf115_0 vf52_0 α x33 x34 x36 x37 x35 (fun x35 => u59_0_7 Kn x33 x34 x35 x36 x37 x38 x39) (u59_0_3 (K .ret) 0 20) (fun (y1 : Int) (y2 : Bool) => u59_0_8 (K (.exit 4)) x33 x34 y1 y2 x36 x37 x38 x39) := by kernel_rfl
theorem r59_0_3 (α : Type) (K : Exit → St → Option α) (Kn : St → Option α) (x33 : Rows) (x34 : Int) (x35 : Int) (x36 : Rows) (x37 : Rows) (x38 : Rows) (x39 : Rows) : u59_0_7 (fun σ => runM Try.prog E59_0 sh59 c59_0_51 (thenK (fun σ => tidyK td59_51 σ Kn) K) σ) x33 x34 x35 x36 x37 x38 x39 = S59_0_3 α x33 x34 x36 x37 x35 (fun x35 => u59_0_7 Kn x33 x34 x35 x36 x37 x38 x39) (u59_0_3 (K .ret) 0 20) (fun (y1 : Int) (y2 : Bool) => u59_0_8 (K (.exit 4)) x33 x34 y1 y2 x36 x37 x38 x39) := r59_0_3g f19_0 f114_0 f115_0 f52_0 f53_0 L59_0_2 α K Kn x33 x34 x35 x36 x37 x38 x39
theorem t59_0_3 (α : Type) (K : Exit → St → Option α) : ∀ (n : Nat) (x33 : Rows) (x34 : Int) (x35 : Int) (x36 : Rows) (x37 : Rows) (x38 : Rows) (x39 : Rows), R59_0_3 α x33 x34 x36 x37 (u59_0_3 (K .ret) 0 20) (fun (y1 : Int) (y2 : Bool) => u59_0_8 (K (.exit 4)) x33 x34 y1 y2 x36 x37 x38 x39) n x35 = u59_0_7 (loopT (runM Try.prog E59_0 sh59 c59_0_51) td59_51 K n) x33 x34 x35 x36 x37 x38 x39 := by
 intro n
 induction n with
 | zero => intros; rfl
 | succ n ih => intro x33 x34 x35 x36 x37 x38 x39; exact (congrArg (fun kn => S59_0_3 α x33 x34 x36 x37 x35 kn (u59_0_3 (K .ret) 0 20) (fun (y1 : Int) (y2 : Bool) => u59_0_8 (K (.exit 4)) x33 x34 y1 y2 x36 x37 x38 x39)) (funext fun x35 => ih x33 x34 x35 x36 x37 x38 x39)).trans (r59_0_3 α K (loopT (runM Try.prog E59_0 sh59 c59_0_51) td59_51 K n) x33 x34 x35 x36 x37 x38 x39).symm
theorem m59_0_3 : ∀ (α : Type) (K : Exit → St → Option α), F59_0_3 L59_0_3 α K = p59_0_7.unc fun σ => loopT (runM Try.prog E59_0 sh59 c59_0_51) td59_51 K fuel σ := fun α K => funext fun x33 => funext fun x34 => funext fun x35 => funext fun x36 => funext fun x37 => funext fun x38 => funext fun x39 => t59_0_3 α K fuel x33 x34 x35 x36 x37 x38 x39

noncomputable def c59_0_28g  : MCode := (.seq (.seq (.region r59_31 [] (some ⟨[2, 3, 4, 8, 10, 31], true, [], []⟩)) (.cond (.tmp 31) .skip (.exit 2))) (.seq (.block 3 (.seq (.region r59_36 [] (some ⟨[2, 3, 4, 8, 10, 39], true, [], []⟩)) (.cond (.tmp 39) (.seq (.region r59_39 [] (some ⟨[6, 7], true, [], []⟩)) .ret) .skip))) (.region r59_40 [] (some ⟨[2, 3, 4, 8, 10], true, [], []⟩))))
noncomputable def c59_0_28 : MCode := c59_0_28g 
theorem g59_0_28 : c59_0_28.Good Try.prog E59_0 sh59 := ⟨⟨trivial, ⟨trivial, trivial⟩⟩, ⟨⟨trivial, ⟨⟨trivial, trivial⟩, trivial⟩⟩, trivial⟩⟩
--CODE 28 0
def S59_0_1g (vf19_0 : Tf19_0) (α : Type) (x18 : Rows) (x20 : Int) (kn : Int → Option α) (k1 : Option α) (k2 : Int → Bool → Option α) : Option α :=
 cK (decide (x20 < ((List.length x18 : Nat) : Int)))
 (rowK x18 x20 [.int .i64]
 (fun (x26 : Int) => vf19_0 α x26 0 1000
 (fun (x27 : Bool) => cK (!x27)
 (k1)
 (kn (w64 (x20 + 1))))))
 (k2 x20 (decide (x20 < ((List.length x18 : Nat) : Int))))
noncomputable def S59_0_1 (α : Type) (x18 : Rows) (x20 : Int) (kn : Int → Option α) (k1 : Option α) (k2 : Int → Bool → Option α) : Option α := S59_0_1g f19_0 α x18 x20 kn k1 k2
noncomputable def R59_0_1 (α : Type) (x18 : Rows) (k1 : Option α) (k2 : Int → Bool → Option α) : Nat → Int → Option α
 | 0, _ => none
 | n + 1, x20 => S59_0_1 α x18 x20 (R59_0_1 α x18 k1 k2 n) k1 k2
noncomputable def L59_0_1 (α : Type) (x18 : Rows) (k1 : Option α) (k2 : Int → Bool → Option α) (x20 : Int) : Option α := R59_0_1 α x18 k1 k2 fuel x20
abbrev TL59_0_1 : Type 1 := (α : Type) → Rows → (Option α) → (Int → Bool → Option α) → Int → Option α
def F59_0_1 (v : TL59_0_1) (α : Type) (K : Exit → St → Option α) : Rows → Int → Int → Rows → Rows → Rows → Rows → Option α := fun x18 x19 x20 x21 x22 x23 x24 => v α x18 (u59_0_3 (K .ret) 0 2) (fun (y1 : Int) (y2 : Bool) => u59_0_4 (K (.exit 2)) x18 x19 y1 y2 x21 x22 x23 x24) x20
theorem r59_0_1g (vf19_0 : Tf19_0) (vf114_0 : Tf114_0) (vf115_0 : Tf115_0) (vf52_0 : Tf52_0) (vf53_0 : Tf53_0)  (α : Type) (K : Exit → St → Option α) (Kn : St → Option α) (x18 : Rows) (x19 : Int) (x20 : Int) (x21 : Rows) (x22 : Rows) (x23 : Rows) (x24 : Rows) : u59_0_2 (fun σ => runM Try.prog (E59_0g vf19_0 vf114_0 vf115_0 vf52_0 vf53_0) sh59 (c59_0_28g ) (thenK (fun σ => tidyK td59_28 σ Kn) K) σ) x18 x19 x20 x21 x22 x23 x24 = S59_0_1g vf19_0 α x18 x20 (fun x20 => u59_0_2 Kn x18 x19 x20 x21 x22 x23 x24) (u59_0_3 (K .ret) 0 2) (fun (y1 : Int) (y2 : Bool) => u59_0_4 (K (.exit 2)) x18 x19 y1 y2 x21 x22 x23 x24) := by kernel_rfl
theorem r59_0_1 (α : Type) (K : Exit → St → Option α) (Kn : St → Option α) (x18 : Rows) (x19 : Int) (x20 : Int) (x21 : Rows) (x22 : Rows) (x23 : Rows) (x24 : Rows) : u59_0_2 (fun σ => runM Try.prog E59_0 sh59 c59_0_28 (thenK (fun σ => tidyK td59_28 σ Kn) K) σ) x18 x19 x20 x21 x22 x23 x24 = S59_0_1 α x18 x20 (fun x20 => u59_0_2 Kn x18 x19 x20 x21 x22 x23 x24) (u59_0_3 (K .ret) 0 2) (fun (y1 : Int) (y2 : Bool) => u59_0_4 (K (.exit 2)) x18 x19 y1 y2 x21 x22 x23 x24) := r59_0_1g f19_0 f114_0 f115_0 f52_0 f53_0 α K Kn x18 x19 x20 x21 x22 x23 x24
theorem t59_0_1 (α : Type) (K : Exit → St → Option α) : ∀ (n : Nat) (x18 : Rows) (x19 : Int) (x20 : Int) (x21 : Rows) (x22 : Rows) (x23 : Rows) (x24 : Rows), R59_0_1 α x18 (u59_0_3 (K .ret) 0 2) (fun (y1 : Int) (y2 : Bool) => u59_0_4 (K (.exit 2)) x18 x19 y1 y2 x21 x22 x23 x24) n x20 = u59_0_2 (loopT (runM Try.prog E59_0 sh59 c59_0_28) td59_28 K n) x18 x19 x20 x21 x22 x23 x24 := by
 intro n
 induction n with
 | zero => intros; rfl
 | succ n ih => intro x18 x19 x20 x21 x22 x23 x24; exact (congrArg (fun kn => S59_0_1 α x18 x20 kn (u59_0_3 (K .ret) 0 2) (fun (y1 : Int) (y2 : Bool) => u59_0_4 (K (.exit 2)) x18 x19 y1 y2 x21 x22 x23 x24)) (funext fun x20 => ih x18 x19 x20 x21 x22 x23 x24)).trans (r59_0_1 α K (loopT (runM Try.prog E59_0 sh59 c59_0_28) td59_28 K n) x18 x19 x20 x21 x22 x23 x24).symm
theorem m59_0_1 : ∀ (α : Type) (K : Exit → St → Option α), F59_0_1 L59_0_1 α K = p59_0_2.unc fun σ => loopT (runM Try.prog E59_0 sh59 c59_0_28) td59_28 K fuel σ := fun α K => funext fun x18 => funext fun x19 => funext fun x20 => funext fun x21 => funext fun x22 => funext fun x23 => funext fun x24 => t59_0_1 α K fuel x18 x19 x20 x21 x22 x23 x24

noncomputable def c59_0_9g  : MCode := (.seq (.seq (.region r59_12 [] (some ⟨[2, 3, 4, 8, 9, 19], true, [], []⟩)) (.cond (.tmp 19) .skip (.exit 0))) (.seq (.block 1 (.region r59_16 [] (some ⟨[2, 3, 4, 8, 9], true, [], []⟩))) (.region r59_17 [] (some ⟨[2, 3, 4, 8, 9], true, [], []⟩))))
noncomputable def c59_0_9 : MCode := c59_0_9g 
theorem g59_0_9 : c59_0_9.Good Try.prog E59_0 sh59 := ⟨⟨trivial, ⟨trivial, trivial⟩⟩, ⟨trivial, trivial⟩⟩
--CODE 9 0
def S59_0_0g  (α : Type) (x9 : Rows) (x7 : Int) (x8 : Int) (kn : Int → Int → Option α) (k1 : Int → Int → Bool → Option α) : Option α :=
 cK (decide (x8 < ((List.length x9 : Nat) : Int)))
 (kn (w64 (2 * x7)) (w64 (x8 + 1)))
 (k1 x7 x8 (decide (x8 < ((List.length x9 : Nat) : Int))))
noncomputable def S59_0_0 (α : Type) (x9 : Rows) (x7 : Int) (x8 : Int) (kn : Int → Int → Option α) (k1 : Int → Int → Bool → Option α) : Option α := S59_0_0g  α x9 x7 x8 kn k1
noncomputable def R59_0_0 (α : Type) (x9 : Rows) (k1 : Int → Int → Bool → Option α) : Nat → Int → Int → Option α
 | 0, _, _ => none
 | n + 1, x7, x8 => S59_0_0 α x9 x7 x8 (R59_0_0 α x9 k1 n) k1
noncomputable def L59_0_0 (α : Type) (x9 : Rows) (k1 : Int → Int → Bool → Option α) (x7 : Int) (x8 : Int) : Option α := R59_0_0 α x9 k1 fuel x7 x8
abbrev TL59_0_0 : Type 1 := (α : Type) → Rows → (Int → Int → Bool → Option α) → Int → Int → Option α
def F59_0_0 (v : TL59_0_0) (α : Type) (K : Exit → St → Option α) : Rows → Int → Int → Rows → Rows → Rows → Rows → Option α := fun x6 x7 x8 x9 x10 x11 x12 => v α x9 (fun (y1 : Int) (y2 : Int) (y3 : Bool) => u59_0_1 (K (.exit 0)) x6 y1 y2 y3 x9 x10 x11 x12) x7 x8
theorem r59_0_0g (vf19_0 : Tf19_0) (vf114_0 : Tf114_0) (vf115_0 : Tf115_0) (vf52_0 : Tf52_0) (vf53_0 : Tf53_0)  (α : Type) (K : Exit → St → Option α) (Kn : St → Option α) (x6 : Rows) (x7 : Int) (x8 : Int) (x9 : Rows) (x10 : Rows) (x11 : Rows) (x12 : Rows) : u59_0_0 (fun σ => runM Try.prog (E59_0g vf19_0 vf114_0 vf115_0 vf52_0 vf53_0) sh59 (c59_0_9g ) (thenK (fun σ => tidyK td59_9 σ Kn) K) σ) x6 x7 x8 x9 x10 x11 x12 = S59_0_0g  α x9 x7 x8 (fun x7 x8 => u59_0_0 Kn x6 x7 x8 x9 x10 x11 x12) (fun (y1 : Int) (y2 : Int) (y3 : Bool) => u59_0_1 (K (.exit 0)) x6 y1 y2 y3 x9 x10 x11 x12) := by kernel_rfl
theorem r59_0_0 (α : Type) (K : Exit → St → Option α) (Kn : St → Option α) (x6 : Rows) (x7 : Int) (x8 : Int) (x9 : Rows) (x10 : Rows) (x11 : Rows) (x12 : Rows) : u59_0_0 (fun σ => runM Try.prog E59_0 sh59 c59_0_9 (thenK (fun σ => tidyK td59_9 σ Kn) K) σ) x6 x7 x8 x9 x10 x11 x12 = S59_0_0 α x9 x7 x8 (fun x7 x8 => u59_0_0 Kn x6 x7 x8 x9 x10 x11 x12) (fun (y1 : Int) (y2 : Int) (y3 : Bool) => u59_0_1 (K (.exit 0)) x6 y1 y2 y3 x9 x10 x11 x12) := r59_0_0g f19_0 f114_0 f115_0 f52_0 f53_0 α K Kn x6 x7 x8 x9 x10 x11 x12
theorem t59_0_0 (α : Type) (K : Exit → St → Option α) : ∀ (n : Nat) (x6 : Rows) (x7 : Int) (x8 : Int) (x9 : Rows) (x10 : Rows) (x11 : Rows) (x12 : Rows), R59_0_0 α x9 (fun (y1 : Int) (y2 : Int) (y3 : Bool) => u59_0_1 (K (.exit 0)) x6 y1 y2 y3 x9 x10 x11 x12) n x7 x8 = u59_0_0 (loopT (runM Try.prog E59_0 sh59 c59_0_9) td59_9 K n) x6 x7 x8 x9 x10 x11 x12 := by
 intro n
 induction n with
 | zero => intros; rfl
 | succ n ih => intro x6 x7 x8 x9 x10 x11 x12; exact (congrArg (fun kn => S59_0_0 α x9 x7 x8 kn (fun (y1 : Int) (y2 : Int) (y3 : Bool) => u59_0_1 (K (.exit 0)) x6 y1 y2 y3 x9 x10 x11 x12)) (funext fun x7 => funext fun x8 => ih x6 x7 x8 x9 x10 x11 x12)).trans (r59_0_0 α K (loopT (runM Try.prog E59_0 sh59 c59_0_9) td59_9 K n) x6 x7 x8 x9 x10 x11 x12).symm
theorem m59_0_0 : ∀ (α : Type) (K : Exit → St → Option α), F59_0_0 L59_0_0 α K = p59_0_0.unc fun σ => loopT (runM Try.prog E59_0 sh59 c59_0_9) td59_9 K fuel σ := fun α K => funext fun x6 => funext fun x7 => funext fun x8 => funext fun x9 => funext fun x10 => funext fun x11 => funext fun x12 => t59_0_0 α K fuel x6 x7 x8 x9 x10 x11 x12

/-- etalon/etalonref08.CheckLabels -/
abbrev Tf59_0 : Type 1 := (α : Type) → Rows → Rows → Rows → Rows → Rows → (Int → Int → Option α) → Option α
def f59_0g (vL59_0_0 : TL59_0_0) (vL59_0_1 : TL59_0_1) (vL59_0_3 : TL59_0_3) (vf114_0 : Tf114_0) (α : Type) (x1 : Rows) (x2 : Rows) (x3 : Rows) (x4 : Rows) (x5 : Rows) (k1 : Int → Int → Option α) : Option α :=
 vL59_0_0 α x1
 (fun (x14 : Int) (x15 : Int) (x16 : Bool) => cK (((List.length x5 : Nat) : Int) != x14)
 (k1 0 12)
 (vL59_0_1 α x5
 (k1 0 2)
 (fun (x28 : Int) (x29 : Bool) => vf114_0 α x3
 (fun (x31 : Int) => rowK x5 x31 [.int .i64]
 (fun (x32 : Int) => cK (x32 != 0)
 (k1 0 20)
 (vL59_0_3 α x5 x14 x1 x2
 (k1 0 20)
 (fun (x61 : Int) (x62 : Bool) => vf114_0 α x4
 (fun (x64 : Int) => rowK x5 x64 [.int .i64]
 (fun (x65 : Int) => k1 x65 0))) 0)))) 0)) 1 0
noncomputable def f59_0 (α : Type) (x1 : Rows) (x2 : Rows) (x3 : Rows) (x4 : Rows) (x5 : Rows) (k1 : Int → Int → Option α) : Option α := f59_0g L59_0_0 L59_0_1 L59_0_3 f114_0 α x1 x2 x3 x4 x5 k1
def pa59_0 : PT (List DV) := pA [pV true [dL, dL], pV true [dL, dL], pV false [dL]]
def Fn59_0 (v : Tf59_0) (α : Type) (k : List RV → Option α) : Rows → Rows → Rows → Rows → Rows → Option α := fun x1 x2 x3 x4 x5 => v α x1 x2 x3 x4 x5 (fun (y1 : Int) (y2 : Int) => ur59_0_0 k y1 y2)
noncomputable def cm59_0g (vL59_0_0 : TL59_0_0) (vL59_0_1 : TL59_0_1) (vL59_0_3 : TL59_0_3) : MCode := (.seq (.region r59_2 [] (some ⟨[2, 3, 4], true, [], []⟩)) (.seq (.region r59_4 [] (some ⟨[2, 3, 4, 8], true, [], []⟩)) (.seq (.seq (.region r59_7 [] (some ⟨[2, 3, 4, 8, 9], true, [], []⟩)) (.block 0 (.loop td59_9 [⟨p59_0_0, F59_0_0 vL59_0_0⟩] c59_0_9))) (.seq (.seq (.region r59_20 [] (some ⟨[2, 3, 4, 8, 27], true, [], []⟩)) (.cond (.tmp 27) (.seq (.region r59_23 [] (some ⟨[6, 7], true, [], []⟩)) .ret) .skip)) (.seq (.seq (.region r59_26 [] (some ⟨[2, 3, 4, 8, 10], true, [], []⟩)) (.block 2 (.loop td59_28 [⟨p59_0_2, F59_0_1 vL59_0_1⟩] c59_0_28))) (.seq (.seq (.region r59_43 [] (some ⟨[2, 3, 4, 8, 46], true, [], []⟩)) (.cond (.tmp 46) (.seq (.region r59_46 [] (some ⟨[6, 7], true, [], []⟩)) .ret) .skip)) (.seq (.seq (.region r59_49 [] (some ⟨[2, 3, 4, 8, 11], true, [], []⟩)) (.block 4 (.loop td59_51 [⟨p59_0_7, F59_0_3 vL59_0_3⟩] c59_0_51))) (.seq (.region r59_84 [] (some ⟨[6, 7], true, [], []⟩)) .ret))))))))
noncomputable def cm59_0 : MCode := cm59_0g L59_0_0 L59_0_1 L59_0_3
theorem gm59_0 : cm59_0.Good Try.prog E59_0 sh59 := ⟨trivial, ⟨trivial, ⟨⟨trivial, ⟨g59_0_9, m59_0_0, trivial⟩⟩, ⟨⟨trivial, ⟨⟨trivial, trivial⟩, trivial⟩⟩, ⟨⟨trivial, ⟨g59_0_28, m59_0_1, trivial⟩⟩, ⟨⟨trivial, ⟨⟨trivial, trivial⟩, trivial⟩⟩, ⟨⟨trivial, ⟨g59_0_51, m59_0_3, trivial⟩⟩, ⟨trivial, trivial⟩⟩⟩⟩⟩⟩⟩⟩
theorem fm59_0g (vf19_0 : Tf19_0) (vf114_0 : Tf114_0) (vf115_0 : Tf115_0) (vf52_0 : Tf52_0) (vf53_0 : Tf53_0) (vL59_0_0 : TL59_0_0) (vL59_0_1 : TL59_0_1) (vL59_0_3 : TL59_0_3) (α : Type) (k : List RV → Option α) : Fn59_0 (f59_0g vL59_0_0 vL59_0_1 vL59_0_3 vf114_0) α k = pa59_0.unc fun ds => fnM Try.prog (E59_0g vf19_0 vf114_0 vf115_0 vf52_0 vf53_0) sh59 (cm59_0g vL59_0_0 vL59_0_1 vL59_0_3) rs59 k ds := by kernel_rfl
theorem fm59_0 : ∀ (α : Type) (k : List RV → Option α), Fn59_0 f59_0 α k = pa59_0.unc fun ds => fnM Try.prog E59_0 sh59 cm59_0 rs59 k ds := fm59_0g f19_0 f114_0 f115_0 f52_0 f53_0 L59_0_0 L59_0_1 L59_0_3

theorem is59 : FnIs Try.prog 59 nt59 tr59 tl59 cm59_0.erase rs59 := ⟨Try.f59, Try.func59, rfl, by kernel_rfl, by kernel_rfl, by kernel_rfl⟩
theorem io59_0 : InstOk Try.prog 59 nt59 ⟨pa59_0, Fn59_0 f59_0⟩ := inst_ok eo59_0 followsTry is59 ⟨⟨sh59, cm59_0, by kernel_rfl, gm59_0, fm59_0⟩⟩


end Go.AM.K
