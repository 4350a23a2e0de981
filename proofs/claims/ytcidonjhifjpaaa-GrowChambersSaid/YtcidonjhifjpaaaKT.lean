/- Printed by KGen. -/
import Derived.Test.YtcidonjhifjpaaaAcC
import Derived.Test.YtcidonjhifjpaaaKM7
namespace Go.AM.K
open Go.Proofs
set_option maxRecDepth 100000
set_option linter.unusedVariables false

theorem followsTry : Try.prog.follows .mixedOrders = true := by kernel_rfl

/-! ### F61 etalon/etalonbase.CopyInts -/
abbrev nt61 : Nat := 6
def sh61 : List (Nat × List Sh) := []
def r61_2 : List AOper := [⟨(some 2), (.mv (.const (.slice none 0 0))), none⟩]
def r61_4 : List AOper := [⟨(some 3), (.bslice 1 0 [(.v (.int .i64 0))] []), none⟩, ⟨(some 4), (.mv (.tmp 0)), none⟩, ⟨(some 5), (.append 1 8 (.tmp 3) (.tmp 4)), none⟩, ⟨(some 2), (.mv (.tmp 5)), none⟩]
def tr61 : List (Nat × Tidy) := [(0, ⟨[0], true, [], []⟩), (1, ⟨[2], true, [⟨false, 2, 0, 20002, 1⟩], []⟩)]
def tl61 : List (Nat × Tidy) := []
def rs61 : List AResV := [.tmp 2]
def pr61_0_0 : PT (List RV) := pRs [pR false [rO 1]]
def ur61_0_0 {β : Type} (g : List RV → β) : Rows → β := pr61_0_0.unc g

def E61_0g  : EnvK := EnvK.of [] noSeq
noncomputable def E61_0 : EnvK := E61_0g 
theorem eo61_0 : E61_0.Ok Try.prog := EnvK.of_ok noSeq_ok trivial

/-- etalon/etalonbase.CopyInts -/
abbrev Tf61_0 : Type 1 := (α : Type) → Rows → (Rows → Option α) → Option α
def f61_0g  (α : Type) (x1 : Rows) (k1 : Rows → Option α) : Option α :=
  gK (apOk 1 8 ([] : Rows) x1) (k1 (([] : Rows) ++ x1))
noncomputable def f61_0 (α : Type) (x1 : Rows) (k1 : Rows → Option α) : Option α := f61_0g  α x1 k1
def pa61_0 : PT (List DV) := pA [pV false [dL]]
def Fn61_0 (v : Tf61_0) (α : Type) (k : List RV → Option α) : Rows → Option α := fun x1 => v α x1 (fun (y1 : Rows) => ur61_0_0 k y1)
noncomputable def cm61_0g  : MCode := (.seq (.region r61_2 [] (some ⟨[0], true, [], []⟩)) (.seq (.region r61_4 [] (some ⟨[2], true, [⟨false, 2, 0, 20002, 1⟩], []⟩)) .ret))
noncomputable def cm61_0 : MCode := cm61_0g 
theorem gm61_0 : cm61_0.Good Try.prog E61_0 sh61 := ⟨trivial, ⟨trivial, trivial⟩⟩
theorem fm61_0g   (α : Type) (k : List RV → Option α) : Fn61_0 (f61_0g ) α k = pa61_0.unc fun ds => fnM Try.prog (E61_0g ) sh61 (cm61_0g ) rs61 k ds := by kernel_rfl
theorem fm61_0 : ∀ (α : Type) (k : List RV → Option α), Fn61_0 f61_0 α k = pa61_0.unc fun ds => fnM Try.prog E61_0 sh61 cm61_0 rs61 k ds := fm61_0g 

theorem is61 : FnIs Try.prog 61 nt61 tr61 tl61 cm61_0.erase rs61 := ⟨Try.f61, Try.func61, rfl, by kernel_rfl, by kernel_rfl, by kernel_rfl⟩
theorem io61_0 : InstOk Try.prog 61 nt61 ⟨pa61_0, Fn61_0 f61_0⟩ := inst_ok eo61_0 followsTry is61 ⟨⟨sh61, cm61_0, by kernel_rfl, gm61_0, fm61_0⟩⟩

/-! ### F115 etalon/etalonref08.State -/
abbrev nt115 : Nat := 21
def sh115 : List (Nat × List Sh) := []
def r115_2 : List AOper := [⟨(some 4), (.mv (.const (.slice none 0 0))), none⟩]
def r115_4 : List AOper := [⟨(some 5), (.mv (.const (.slice none 0 0))), none⟩]
def r115_7 : List AOper := [⟨(some 6), (.mv (.const (.int .i64 0))), none⟩]
def td115_9 : Option Tidy := (some ⟨[0, 1, 5, 6], true, [⟨false, 5, 0, 20005, 1⟩], []⟩)
def r115_12 : List AOper := [⟨(some 7), (.mv (.tmp 6)), none⟩, ⟨(some 8), (.mv (.tmp 1)), none⟩, ⟨(some 9), (.bin .lss 3 (.tmp 7) (.tmp 8)), none⟩]
def r115_17 : List AOper := [⟨(some 12), (.mv (.tmp 5)), none⟩, ⟨(some 13), (.mv (.tmp 0)), none⟩, ⟨(some 14), (.bin .rem 3 (.tmp 13) (.const (.int .i64 2))), none⟩, ⟨(some 15), (.bin .eql 3 (.tmp 14) (.const (.int .i64 1))), none⟩, ⟨(some 16), (.bslice 1 1 [(.v (.bool false))] [(0, (.tmp 15))]), none⟩, ⟨(some 17), (.append 1 1 (.tmp 12) (.tmp 16)), none⟩, ⟨(some 5), (.mv (.tmp 17)), none⟩]
def r115_18 : List AOper := [⟨(some 18), (.mv (.tmp 0)), none⟩, ⟨(some 19), (.bin .quo 3 (.tmp 18) (.const (.int .i64 2))), none⟩, ⟨(some 0), (.mv (.tmp 19)), none⟩]
def r115_19 : List AOper := [⟨(some 10), (.mv (.tmp 6)), none⟩, ⟨(some 11), (.bin .add 3 (.tmp 10) (.const (.int .i64 1))), none⟩, ⟨(some 6), (.mv (.tmp 11)), none⟩]
def r115_21 : List AOper := [⟨(some 20), (.mv (.tmp 5)), none⟩, ⟨(some 4), (.mv (.tmp 20)), none⟩]
def tr115 : List (Nat × Tidy) := [(0, ⟨[0, 1], true, [], []⟩), (1, ⟨[0, 1, 5], true, [], []⟩), (2, ⟨[0, 1, 5, 6], true, [], []⟩), (3, ⟨[0, 1, 5, 6, 9], true, [], []⟩), (5, ⟨[0, 1, 5, 6], true, [], []⟩), (6, ⟨[0, 1, 5, 6], true, [], []⟩), (4, ⟨[0, 1, 5, 6], true, [], []⟩), (7, ⟨[4], true, [⟨false, 4, 0, 20004, 1⟩], []⟩)]
def tl115 : List (Nat × Tidy) := [(3, ⟨[0, 1, 5, 6], true, [⟨false, 5, 0, 20005, 1⟩], []⟩)]
def rs115 : List AResV := [.tmp 4]
def p115_0_0 : PT St := pS [sl 0 (aV false [(cD (dI .i64))]), sl 1 (aV false [(cD (dI .i64))]), sl 5 (aV false [(cRef 20005)]), sl 6 (aV false [(cD (dI .i64))])] [eOwn 20005 1]
def u115_0_0 {β : Type} (g : St → β) : Int → Int → Int → Rows → β := p115_0_0.unc g

def p115_0_1 : PT St := pS [sl 0 (aV false [(cD (dI .i64))]), sl 1 (aV false [(cD (dI .i64))]), sl 5 (aV false [(cRef 20005)]), sl 6 (aV false [(cD (dI .i64))]), sl 9 (aV false [(cD dB)])] [eOwn 20005 1]
def u115_0_1 {β : Type} (g : St → β) : Int → Int → Int → Bool → Rows → β := p115_0_1.unc g

def pr115_0_0 : PT (List RV) := pRs [pR false [rO 1]]
def ur115_0_0 {β : Type} (g : List RV → β) : Rows → β := pr115_0_0.unc g

def E115_0g  : EnvK := EnvK.of [] noSeq
noncomputable def E115_0 : EnvK := E115_0g 
theorem eo115_0 : E115_0.Ok Try.prog := EnvK.of_ok noSeq_ok trivial

noncomputable def c115_0_9g  : MCode := (.seq (.seq (.region r115_12 [] (some ⟨[0, 1, 5, 6, 9], true, [], []⟩)) (.cond (.tmp 9) .skip (.exit 0))) (.seq (.block 1 (.seq (.region r115_17 [] (some ⟨[0, 1, 5, 6], true, [], []⟩)) (.region r115_18 [] (some ⟨[0, 1, 5, 6], true, [], []⟩)))) (.region r115_19 [] (some ⟨[0, 1, 5, 6], true, [], []⟩))))
noncomputable def c115_0_9 : MCode := c115_0_9g 
theorem g115_0_9 : c115_0_9.Good Try.prog E115_0 sh115 := ⟨⟨trivial, ⟨trivial, trivial⟩⟩, ⟨⟨trivial, trivial⟩, trivial⟩⟩
--CODE 9 0
def S115_0_0g  (α : Type) (x4 : Int) (x3 : Int) (x5 : Int) (x6 : Rows) (kn : Int → Int → Rows → Option α) (k1 : Int → Int → Bool → Rows → Option α) : Option α :=
  cK (decide (x5 < x4))
    (gK (apOk 1 1 x6 [[DC.v (.bool ((Int.tmod x3 2) == 1))]]) (kn (w64 (Int.tdiv x3 2)) (w64 (x5 + 1)) (x6 ++ [[DC.v (.bool ((Int.tmod x3 2) == 1))]])))
    (k1 x3 x5 (decide (x5 < x4)) x6)
noncomputable def S115_0_0 (α : Type) (x4 : Int) (x3 : Int) (x5 : Int) (x6 : Rows) (kn : Int → Int → Rows → Option α) (k1 : Int → Int → Bool → Rows → Option α) : Option α := S115_0_0g  α x4 x3 x5 x6 kn k1
noncomputable def R115_0_0 (α : Type) (x4 : Int) (k1 : Int → Int → Bool → Rows → Option α) : Nat → Int → Int → Rows → Option α
  | 0, _, _, _ => none
  | n + 1, x3, x5, x6 => S115_0_0 α x4 x3 x5 x6 (R115_0_0 α x4 k1 n) k1
noncomputable def L115_0_0 (α : Type) (x4 : Int) (k1 : Int → Int → Bool → Rows → Option α) (x3 : Int) (x5 : Int) (x6 : Rows) : Option α := R115_0_0 α x4 k1 fuel x3 x5 x6
abbrev TL115_0_0 : Type 1 := (α : Type) → Int → (Int → Int → Bool → Rows → Option α) → Int → Int → Rows → Option α
def F115_0_0 (v : TL115_0_0) (α : Type) (K : Exit → St → Option α) : Int → Int → Int → Rows → Option α := fun x3 x4 x5 x6 => v α x4 (fun (y1 : Int) (y2 : Int) (y3 : Bool) (y4 : Rows) => u115_0_1 (K (.exit 0)) y1 x4 y2 y3 y4) x3 x5 x6
theorem r115_0_0g   (α : Type) (K : Exit → St → Option α) (Kn : St → Option α) (x3 : Int) (x4 : Int) (x5 : Int) (x6 : Rows) : u115_0_0 (fun σ => runM Try.prog (E115_0g ) sh115 (c115_0_9g ) (thenK (fun σ => tidyK td115_9 σ Kn) K) σ) x3 x4 x5 x6 = S115_0_0g  α x4 x3 x5 x6 (fun x3 x5 x6 => u115_0_0 Kn x3 x4 x5 x6) (fun (y1 : Int) (y2 : Int) (y3 : Bool) (y4 : Rows) => u115_0_1 (K (.exit 0)) y1 x4 y2 y3 y4) := by kernel_rfl
theorem r115_0_0 (α : Type) (K : Exit → St → Option α) (Kn : St → Option α) (x3 : Int) (x4 : Int) (x5 : Int) (x6 : Rows) : u115_0_0 (fun σ => runM Try.prog E115_0 sh115 c115_0_9 (thenK (fun σ => tidyK td115_9 σ Kn) K) σ) x3 x4 x5 x6 = S115_0_0 α x4 x3 x5 x6 (fun x3 x5 x6 => u115_0_0 Kn x3 x4 x5 x6) (fun (y1 : Int) (y2 : Int) (y3 : Bool) (y4 : Rows) => u115_0_1 (K (.exit 0)) y1 x4 y2 y3 y4) := r115_0_0g  α K Kn x3 x4 x5 x6
theorem t115_0_0 (α : Type) (K : Exit → St → Option α) : ∀ (n : Nat) (x3 : Int) (x4 : Int) (x5 : Int) (x6 : Rows), R115_0_0 α x4 (fun (y1 : Int) (y2 : Int) (y3 : Bool) (y4 : Rows) => u115_0_1 (K (.exit 0)) y1 x4 y2 y3 y4) n x3 x5 x6 = u115_0_0 (loopT (runM Try.prog E115_0 sh115 c115_0_9) td115_9 K n) x3 x4 x5 x6 := by
  intro n
  induction n with
  | zero => intros; rfl
  | succ n ih => intro x3 x4 x5 x6; exact (congrArg (fun kn => S115_0_0 α x4 x3 x5 x6 kn (fun (y1 : Int) (y2 : Int) (y3 : Bool) (y4 : Rows) => u115_0_1 (K (.exit 0)) y1 x4 y2 y3 y4)) (funext fun x3 => funext fun x5 => funext fun x6 => ih x3 x4 x5 x6)).trans (r115_0_0 α K (loopT (runM Try.prog E115_0 sh115 c115_0_9) td115_9 K n) x3 x4 x5 x6).symm
theorem m115_0_0 : ∀ (α : Type) (K : Exit → St → Option α), F115_0_0 L115_0_0 α K = p115_0_0.unc fun σ => loopT (runM Try.prog E115_0 sh115 c115_0_9) td115_9 K fuel σ := fun α K => funext fun x3 => funext fun x4 => funext fun x5 => funext fun x6 => t115_0_0 α K fuel x3 x4 x5 x6

/-- etalon/etalonref08.State -/
abbrev Tf115_0 : Type 1 := (α : Type) → Int → Int → (Rows → Option α) → Option α
def f115_0g (vL115_0_0 : TL115_0_0) (α : Type) (x1 : Int) (x2 : Int) (k1 : Rows → Option α) : Option α :=
  vL115_0_0 α x2
    (fun (x8 : Int) (x9 : Int) (x10 : Bool) (x11 : Rows) => k1 x11) x1 0 ([] : Rows)
noncomputable def f115_0 (α : Type) (x1 : Int) (x2 : Int) (k1 : Rows → Option α) : Option α := f115_0g L115_0_0 α x1 x2 k1
def pa115_0 : PT (List DV) := pA [pV false [(dI .i64)], pV false [(dI .i64)]]
def Fn115_0 (v : Tf115_0) (α : Type) (k : List RV → Option α) : Int → Int → Option α := fun x1 x2 => v α x1 x2 (fun (y1 : Rows) => ur115_0_0 k y1)
noncomputable def cm115_0g (vL115_0_0 : TL115_0_0) : MCode := (.seq (.region r115_2 [] (some ⟨[0, 1], true, [], []⟩)) (.seq (.region r115_4 [] (some ⟨[0, 1, 5], true, [], []⟩)) (.seq (.seq (.region r115_7 [] (some ⟨[0, 1, 5, 6], true, [], []⟩)) (.block 0 (.loop td115_9 [⟨p115_0_0, F115_0_0 vL115_0_0⟩] c115_0_9))) (.seq (.region r115_21 [] (some ⟨[4], true, [⟨false, 4, 0, 20004, 1⟩], []⟩)) .ret))))
noncomputable def cm115_0 : MCode := cm115_0g L115_0_0
theorem gm115_0 : cm115_0.Good Try.prog E115_0 sh115 := ⟨trivial, ⟨trivial, ⟨⟨trivial, ⟨g115_0_9, m115_0_0, trivial⟩⟩, ⟨trivial, trivial⟩⟩⟩⟩
theorem fm115_0g  (vL115_0_0 : TL115_0_0) (α : Type) (k : List RV → Option α) : Fn115_0 (f115_0g vL115_0_0) α k = pa115_0.unc fun ds => fnM Try.prog (E115_0g ) sh115 (cm115_0g vL115_0_0) rs115 k ds := by kernel_rfl
theorem fm115_0 : ∀ (α : Type) (k : List RV → Option α), Fn115_0 f115_0 α k = pa115_0.unc fun ds => fnM Try.prog E115_0 sh115 cm115_0 rs115 k ds := fm115_0g L115_0_0

theorem is115 : FnIs Try.prog 115 nt115 tr115 tl115 cm115_0.erase rs115 := ⟨Try.f115, Try.func115, rfl, by kernel_rfl, by kernel_rfl, by kernel_rfl⟩
theorem io115_0 : InstOk Try.prog 115 nt115 ⟨pa115_0, Fn115_0 f115_0⟩ := inst_ok eo115_0 followsTry is115 ⟨⟨sh115, cm115_0, by kernel_rfl, gm115_0, fm115_0⟩⟩

/-! ### F114 etalon/etalonref08.Number -/
abbrev nt114 : Nat := 22
def sh114 : List (Nat × List Sh) := [(14, [.bool]), (15, [.bool])]
def r114_2 : List AOper := [⟨(some 2), (.mv (.const (.int .i64 0))), none⟩]
def r114_4 : List AOper := [⟨(some 3), (.mv (.const (.int .i64 0))), none⟩, ⟨(some 4), (.mv (.const (.int .i64 1))), none⟩]
def r114_7 : List AOper := [⟨(some 5), (.mv (.const (.int .i64 0))), none⟩]
def td114_9 : Option Tidy := (some ⟨[0, 3, 4, 5], true, [], []⟩)
def r114_12 : List AOper := [⟨(some 6), (.mv (.tmp 5)), none⟩, ⟨(some 7), (.mv (.tmp 0)), none⟩, ⟨(some 8), (.len (.tmp 7)), none⟩, ⟨(some 9), (.bin .lss 3 (.tmp 6) (.tmp 8)), none⟩]
def r114_18 : List AOper := [⟨(some 12), (.mv (.tmp 0)), none⟩, ⟨(some 13), (.mv (.tmp 5)), none⟩, ⟨(some 14), (.iaddr 1 none (.tmp 12) (.tmp 13)), none⟩, ⟨(some 15), (.load false 1 (.tmp 14)), none⟩]
def r114_20 : List AOper := [⟨(some 16), (.mv (.tmp 3)), none⟩, ⟨(some 17), (.mv (.tmp 4)), none⟩, ⟨(some 18), (.bin .add 3 (.tmp 16) (.tmp 17)), none⟩, ⟨(some 3), (.mv (.tmp 18)), none⟩]
def r114_21 : List AOper := [⟨(some 19), (.mv (.tmp 4)), none⟩, ⟨(some 20), (.bin .mul 3 (.const (.int .i64 2)) (.tmp 19)), none⟩, ⟨(some 4), (.mv (.tmp 20)), none⟩]
def r114_22 : List AOper := [⟨(some 10), (.mv (.tmp 5)), none⟩, ⟨(some 11), (.bin .add 3 (.tmp 10) (.const (.int .i64 1))), none⟩, ⟨(some 5), (.mv (.tmp 11)), none⟩]
def r114_24 : List AOper := [⟨(some 21), (.mv (.tmp 3)), none⟩, ⟨(some 2), (.mv (.tmp 21)), none⟩]
def tr114 : List (Nat × Tidy) := [(0, ⟨[0], true, [], []⟩), (1, ⟨[0, 3, 4], true, [], []⟩), (2, ⟨[0, 3, 4, 5], true, [], []⟩), (3, ⟨[0, 3, 4, 5, 9], true, [], []⟩), (5, ⟨[0, 3, 4, 5, 15], true, [], []⟩), (6, ⟨[0, 3, 4, 5], true, [], []⟩), (7, ⟨[0, 3, 4, 5], true, [], []⟩), (4, ⟨[0, 3, 4, 5], true, [], []⟩), (8, ⟨[2], true, [], []⟩)]
def tl114 : List (Nat × Tidy) := [(3, ⟨[0, 3, 4, 5], true, [], []⟩)]
def rs114 : List AResV := [.tmp 2]
def p114_0_0 : PT St := pS [sl 0 (aV false [(cD dL)]), sl 3 (aV false [(cD (dI .i64))]), sl 4 (aV false [(cD (dI .i64))]), sl 5 (aV false [(cD (dI .i64))])] []
def u114_0_0 {β : Type} (g : St → β) : Rows → Int → Int → Int → β := p114_0_0.unc g

def p114_0_1 : PT St := pS [sl 0 (aV false [(cD dL)]), sl 3 (aV false [(cD (dI .i64))]), sl 4 (aV false [(cD (dI .i64))]), sl 5 (aV false [(cD (dI .i64))]), sl 9 (aV false [(cD dB)])] []
def u114_0_1 {β : Type} (g : St → β) : Rows → Int → Int → Int → Bool → β := p114_0_1.unc g

def pr114_0_0 : PT (List RV) := pRs [pR false [rD (dI .i64)]]
def ur114_0_0 {β : Type} (g : List RV → β) : Int → β := pr114_0_0.unc g

def E114_0g  : EnvK := EnvK.of [] noSeq
noncomputable def E114_0 : EnvK := E114_0g 
theorem eo114_0 : E114_0.Ok Try.prog := EnvK.of_ok noSeq_ok trivial

noncomputable def c114_0_9g  : MCode := (.seq (.seq (.region r114_12 [] (some ⟨[0, 3, 4, 5, 9], true, [], []⟩)) (.cond (.tmp 9) .skip (.exit 0))) (.seq (.block 1 (.seq (.seq (.region r114_18 [] (some ⟨[0, 3, 4, 5, 15], true, [], []⟩)) (.cond (.tmp 15) (.region r114_20 [] (some ⟨[0, 3, 4, 5], true, [], []⟩)) .skip)) (.region r114_21 [] (some ⟨[0, 3, 4, 5], true, [], []⟩)))) (.region r114_22 [] (some ⟨[0, 3, 4, 5], true, [], []⟩))))
noncomputable def c114_0_9 : MCode := c114_0_9g 
theorem g114_0_9 : c114_0_9.Good Try.prog E114_0 sh114 := ⟨⟨trivial, ⟨trivial, trivial⟩⟩, ⟨⟨⟨trivial, ⟨trivial, trivial⟩⟩, trivial⟩, trivial⟩⟩
--CODE 9 0
def S114_0_0g  (α : Type) (x2 : Rows) (x3 : Int) (x4 : Int) (x5 : Int) (kn : Int → Int → Int → Option α) (k1 : Int → Int → Int → Bool → Option α) : Option α :=
  cK (decide (x5 < ((List.length x2 : Nat) : Int)))
    (rowK x2 x5 [.bool]
      (fun (x7 : Bool) => cK x7
        (kn (w64 (x3 + x4)) (w64 (2 * x4)) (w64 (x5 + 1)))
        (kn x3 (w64 (2 * x4)) (w64 (x5 + 1)))))
    (k1 x3 x4 x5 (decide (x5 < ((List.length x2 : Nat) : Int))))
noncomputable def S114_0_0 (α : Type) (x2 : Rows) (x3 : Int) (x4 : Int) (x5 : Int) (kn : Int → Int → Int → Option α) (k1 : Int → Int → Int → Bool → Option α) : Option α := S114_0_0g  α x2 x3 x4 x5 kn k1
noncomputable def R114_0_0 (α : Type) (x2 : Rows) (k1 : Int → Int → Int → Bool → Option α) : Nat → Int → Int → Int → Option α
  | 0, _, _, _ => none
  | n + 1, x3, x4, x5 => S114_0_0 α x2 x3 x4 x5 (R114_0_0 α x2 k1 n) k1
noncomputable def L114_0_0 (α : Type) (x2 : Rows) (k1 : Int → Int → Int → Bool → Option α) (x3 : Int) (x4 : Int) (x5 : Int) : Option α := R114_0_0 α x2 k1 fuel x3 x4 x5
abbrev TL114_0_0 : Type 1 := (α : Type) → Rows → (Int → Int → Int → Bool → Option α) → Int → Int → Int → Option α
def F114_0_0 (v : TL114_0_0) (α : Type) (K : Exit → St → Option α) : Rows → Int → Int → Int → Option α := fun x2 x3 x4 x5 => v α x2 (fun (y1 : Int) (y2 : Int) (y3 : Int) (y4 : Bool) => u114_0_1 (K (.exit 0)) x2 y1 y2 y3 y4) x3 x4 x5
theorem r114_0_0g   (α : Type) (K : Exit → St → Option α) (Kn : St → Option α) (x2 : Rows) (x3 : Int) (x4 : Int) (x5 : Int) : u114_0_0 (fun σ => runM Try.prog (E114_0g ) sh114 (c114_0_9g ) (thenK (fun σ => tidyK td114_9 σ Kn) K) σ) x2 x3 x4 x5 = S114_0_0g  α x2 x3 x4 x5 (fun x3 x4 x5 => u114_0_0 Kn x2 x3 x4 x5) (fun (y1 : Int) (y2 : Int) (y3 : Int) (y4 : Bool) => u114_0_1 (K (.exit 0)) x2 y1 y2 y3 y4) := by kernel_rfl
theorem r114_0_0 (α : Type) (K : Exit → St → Option α) (Kn : St → Option α) (x2 : Rows) (x3 : Int) (x4 : Int) (x5 : Int) : u114_0_0 (fun σ => runM Try.prog E114_0 sh114 c114_0_9 (thenK (fun σ => tidyK td114_9 σ Kn) K) σ) x2 x3 x4 x5 = S114_0_0 α x2 x3 x4 x5 (fun x3 x4 x5 => u114_0_0 Kn x2 x3 x4 x5) (fun (y1 : Int) (y2 : Int) (y3 : Int) (y4 : Bool) => u114_0_1 (K (.exit 0)) x2 y1 y2 y3 y4) := r114_0_0g  α K Kn x2 x3 x4 x5
theorem t114_0_0 (α : Type) (K : Exit → St → Option α) : ∀ (n : Nat) (x2 : Rows) (x3 : Int) (x4 : Int) (x5 : Int), R114_0_0 α x2 (fun (y1 : Int) (y2 : Int) (y3 : Int) (y4 : Bool) => u114_0_1 (K (.exit 0)) x2 y1 y2 y3 y4) n x3 x4 x5 = u114_0_0 (loopT (runM Try.prog E114_0 sh114 c114_0_9) td114_9 K n) x2 x3 x4 x5 := by
  intro n
  induction n with
  | zero => intros; rfl
  | succ n ih => intro x2 x3 x4 x5; exact (congrArg (fun kn => S114_0_0 α x2 x3 x4 x5 kn (fun (y1 : Int) (y2 : Int) (y3 : Int) (y4 : Bool) => u114_0_1 (K (.exit 0)) x2 y1 y2 y3 y4)) (funext fun x3 => funext fun x4 => funext fun x5 => ih x2 x3 x4 x5)).trans (r114_0_0 α K (loopT (runM Try.prog E114_0 sh114 c114_0_9) td114_9 K n) x2 x3 x4 x5).symm
theorem m114_0_0 : ∀ (α : Type) (K : Exit → St → Option α), F114_0_0 L114_0_0 α K = p114_0_0.unc fun σ => loopT (runM Try.prog E114_0 sh114 c114_0_9) td114_9 K fuel σ := fun α K => funext fun x2 => funext fun x3 => funext fun x4 => funext fun x5 => t114_0_0 α K fuel x2 x3 x4 x5

/-- etalon/etalonref08.Number -/
abbrev Tf114_0 : Type 1 := (α : Type) → Rows → (Int → Option α) → Option α
def f114_0g (vL114_0_0 : TL114_0_0) (α : Type) (x1 : Rows) (k1 : Int → Option α) : Option α :=
  vL114_0_0 α x1
    (fun (x8 : Int) (x9 : Int) (x10 : Int) (x11 : Bool) => k1 x8) 0 1 0
noncomputable def f114_0 (α : Type) (x1 : Rows) (k1 : Int → Option α) : Option α := f114_0g L114_0_0 α x1 k1
def pa114_0 : PT (List DV) := pA [pV false [dL]]
def Fn114_0 (v : Tf114_0) (α : Type) (k : List RV → Option α) : Rows → Option α := fun x1 => v α x1 (fun (y1 : Int) => ur114_0_0 k y1)
noncomputable def cm114_0g (vL114_0_0 : TL114_0_0) : MCode := (.seq (.region r114_2 [] (some ⟨[0], true, [], []⟩)) (.seq (.region r114_4 [] (some ⟨[0, 3, 4], true, [], []⟩)) (.seq (.seq (.region r114_7 [] (some ⟨[0, 3, 4, 5], true, [], []⟩)) (.block 0 (.loop td114_9 [⟨p114_0_0, F114_0_0 vL114_0_0⟩] c114_0_9))) (.seq (.region r114_24 [] (some ⟨[2], true, [], []⟩)) .ret))))
noncomputable def cm114_0 : MCode := cm114_0g L114_0_0
theorem gm114_0 : cm114_0.Good Try.prog E114_0 sh114 := ⟨trivial, ⟨trivial, ⟨⟨trivial, ⟨g114_0_9, m114_0_0, trivial⟩⟩, ⟨trivial, trivial⟩⟩⟩⟩
theorem fm114_0g  (vL114_0_0 : TL114_0_0) (α : Type) (k : List RV → Option α) : Fn114_0 (f114_0g vL114_0_0) α k = pa114_0.unc fun ds => fnM Try.prog (E114_0g ) sh114 (cm114_0g vL114_0_0) rs114 k ds := by kernel_rfl
theorem fm114_0 : ∀ (α : Type) (k : List RV → Option α), Fn114_0 f114_0 α k = pa114_0.unc fun ds => fnM Try.prog E114_0 sh114 cm114_0 rs114 k ds := fm114_0g L114_0_0

theorem is114 : FnIs Try.prog 114 nt114 tr114 tl114 cm114_0.erase rs114 := ⟨Try.f114, Try.func114, rfl, by kernel_rfl, by kernel_rfl, by kernel_rfl⟩
theorem io114_0 : InstOk Try.prog 114 nt114 ⟨pa114_0, Fn114_0 f114_0⟩ := inst_ok eo114_0 followsTry is114 ⟨⟨sh114, cm114_0, by kernel_rfl, gm114_0, fm114_0⟩⟩

/-! ### F54 etalon/etalonref08.Same -/
abbrev nt54 : Nat := 26
def sh54 : List (Nat × List Sh) := [(19, [.bool]), (20, [.bool]), (23, [.bool]), (24, [.bool])]
def r54_2 : List AOper := [⟨(some 4), (.mv (.const (.bool false))), none⟩]
def r54_5 : List AOper := [⟨(some 6), (.mv (.tmp 0)), none⟩, ⟨(some 7), (.len (.tmp 6)), none⟩, ⟨(some 8), (.mv (.tmp 1)), none⟩, ⟨(some 9), (.len (.tmp 8)), none⟩, ⟨(some 10), (.bin .neq 3 (.tmp 7) (.tmp 9)), none⟩]
def r54_8 : List AOper := [⟨(some 4), (.mv (.const (.bool false))), none⟩]
def r54_11 : List AOper := [⟨(some 5), (.mv (.const (.int .i64 0))), none⟩]
def td54_13 : Option Tidy := (some ⟨[0, 1, 5], true, [], []⟩)
def r54_16 : List AOper := [⟨(some 11), (.mv (.tmp 5)), none⟩, ⟨(some 12), (.mv (.tmp 0)), none⟩, ⟨(some 13), (.len (.tmp 12)), none⟩, ⟨(some 14), (.bin .lss 3 (.tmp 11) (.tmp 13)), none⟩]
def r54_21 : List AOper := [⟨(some 17), (.mv (.tmp 0)), none⟩, ⟨(some 18), (.mv (.tmp 5)), none⟩, ⟨(some 19), (.iaddr 1 none (.tmp 17) (.tmp 18)), none⟩, ⟨(some 20), (.load false 1 (.tmp 19)), none⟩, ⟨(some 21), (.mv (.tmp 1)), none⟩, ⟨(some 22), (.mv (.tmp 5)), none⟩, ⟨(some 23), (.iaddr 1 none (.tmp 21) (.tmp 22)), none⟩, ⟨(some 24), (.load false 1 (.tmp 23)), none⟩, ⟨(some 25), (.bin .neq 4 (.tmp 20) (.tmp 24)), none⟩]
def r54_24 : List AOper := [⟨(some 4), (.mv (.const (.bool false))), none⟩]
def r54_25 : List AOper := [⟨(some 15), (.mv (.tmp 5)), none⟩, ⟨(some 16), (.bin .add 3 (.tmp 15) (.const (.int .i64 1))), none⟩, ⟨(some 5), (.mv (.tmp 16)), none⟩]
def r54_27 : List AOper := [⟨(some 4), (.mv (.const (.bool true))), none⟩]
def tr54 : List (Nat × Tidy) := [(0, ⟨[0, 1], true, [], []⟩), (1, ⟨[0, 1, 10], true, [], []⟩), (2, ⟨[4], true, [], []⟩), (3, ⟨[0, 1, 5], true, [], []⟩), (4, ⟨[0, 1, 5, 14], true, [], []⟩), (6, ⟨[0, 1, 5, 25], true, [], []⟩), (7, ⟨[4], true, [], []⟩), (5, ⟨[0, 1, 5], true, [], []⟩), (8, ⟨[4], true, [], []⟩)]
def tl54 : List (Nat × Tidy) := [(4, ⟨[0, 1, 5], true, [], []⟩)]
def rs54 : List AResV := [.tmp 4]
def p54_0_0 : PT St := pS [sl 0 (aV false [(cD dL)]), sl 1 (aV false [(cD dL)]), sl 5 (aV false [(cD (dI .i64))])] []
def u54_0_0 {β : Type} (g : St → β) : Rows → Rows → Int → β := p54_0_0.unc g

def p54_0_1 : PT St := pS [sl 4 (aV false [(cD dB)])] []
def u54_0_1 {β : Type} (g : St → β) : Bool → β := p54_0_1.unc g

def p54_0_2 : PT St := pS [sl 0 (aV false [(cD dL)]), sl 1 (aV false [(cD dL)]), sl 5 (aV false [(cD (dI .i64))]), sl 14 (aV false [(cD dB)])] []
def u54_0_2 {β : Type} (g : St → β) : Rows → Rows → Int → Bool → β := p54_0_2.unc g

def pr54_0_0 : PT (List RV) := pRs [pR false [rD dB]]
def ur54_0_0 {β : Type} (g : List RV → β) : Bool → β := pr54_0_0.unc g

def E54_0g  : EnvK := EnvK.of [] noSeq
noncomputable def E54_0 : EnvK := E54_0g 
theorem eo54_0 : E54_0.Ok Try.prog := EnvK.of_ok noSeq_ok trivial

noncomputable def c54_0_13g  : MCode := (.seq (.seq (.region r54_16 [] (some ⟨[0, 1, 5, 14], true, [], []⟩)) (.cond (.tmp 14) .skip (.exit 0))) (.seq (.block 1 (.seq (.region r54_21 [] (some ⟨[0, 1, 5, 25], true, [], []⟩)) (.cond (.tmp 25) (.seq (.region r54_24 [] (some ⟨[4], true, [], []⟩)) .ret) .skip))) (.region r54_25 [] (some ⟨[0, 1, 5], true, [], []⟩))))
noncomputable def c54_0_13 : MCode := c54_0_13g 
theorem g54_0_13 : c54_0_13.Good Try.prog E54_0 sh54 := ⟨⟨trivial, ⟨trivial, trivial⟩⟩, ⟨⟨trivial, ⟨⟨trivial, trivial⟩, trivial⟩⟩, trivial⟩⟩
--CODE 13 0
def S54_0_0g  (α : Type) (x3 : Rows) (x4 : Rows) (x5 : Int) (kn : Int → Option α) (k1 : Option α) (k2 : Int → Bool → Option α) : Option α :=
  cK (decide (x5 < ((List.length x3 : Nat) : Int)))
    (rowK x3 x5 [.bool]
      (fun (x7 : Bool) => rowK x4 x5 [.bool]
        (fun (x8 : Bool) => cK (!(x7 == x8))
          (k1)
          (kn (w64 (x5 + 1))))))
    (k2 x5 (decide (x5 < ((List.length x3 : Nat) : Int))))
noncomputable def S54_0_0 (α : Type) (x3 : Rows) (x4 : Rows) (x5 : Int) (kn : Int → Option α) (k1 : Option α) (k2 : Int → Bool → Option α) : Option α := S54_0_0g  α x3 x4 x5 kn k1 k2
noncomputable def R54_0_0 (α : Type) (x3 : Rows) (x4 : Rows) (k1 : Option α) (k2 : Int → Bool → Option α) : Nat → Int → Option α
  | 0, _ => none
  | n + 1, x5 => S54_0_0 α x3 x4 x5 (R54_0_0 α x3 x4 k1 k2 n) k1 k2
noncomputable def L54_0_0 (α : Type) (x3 : Rows) (x4 : Rows) (k1 : Option α) (k2 : Int → Bool → Option α) (x5 : Int) : Option α := R54_0_0 α x3 x4 k1 k2 fuel x5
abbrev TL54_0_0 : Type 1 := (α : Type) → Rows → Rows → (Option α) → (Int → Bool → Option α) → Int → Option α
def F54_0_0 (v : TL54_0_0) (α : Type) (K : Exit → St → Option α) : Rows → Rows → Int → Option α := fun x3 x4 x5 => v α x3 x4 (u54_0_1 (K .ret) false) (fun (y1 : Int) (y2 : Bool) => u54_0_2 (K (.exit 0)) x3 x4 y1 y2) x5
theorem r54_0_0g   (α : Type) (K : Exit → St → Option α) (Kn : St → Option α) (x3 : Rows) (x4 : Rows) (x5 : Int) : u54_0_0 (fun σ => runM Try.prog (E54_0g ) sh54 (c54_0_13g ) (thenK (fun σ => tidyK td54_13 σ Kn) K) σ) x3 x4 x5 = S54_0_0g  α x3 x4 x5 (fun x5 => u54_0_0 Kn x3 x4 x5) (u54_0_1 (K .ret) false) (fun (y1 : Int) (y2 : Bool) => u54_0_2 (K (.exit 0)) x3 x4 y1 y2) := by kernel_rfl
theorem r54_0_0 (α : Type) (K : Exit → St → Option α) (Kn : St → Option α) (x3 : Rows) (x4 : Rows) (x5 : Int) : u54_0_0 (fun σ => runM Try.prog E54_0 sh54 c54_0_13 (thenK (fun σ => tidyK td54_13 σ Kn) K) σ) x3 x4 x5 = S54_0_0 α x3 x4 x5 (fun x5 => u54_0_0 Kn x3 x4 x5) (u54_0_1 (K .ret) false) (fun (y1 : Int) (y2 : Bool) => u54_0_2 (K (.exit 0)) x3 x4 y1 y2) := r54_0_0g  α K Kn x3 x4 x5
theorem t54_0_0 (α : Type) (K : Exit → St → Option α) : ∀ (n : Nat) (x3 : Rows) (x4 : Rows) (x5 : Int), R54_0_0 α x3 x4 (u54_0_1 (K .ret) false) (fun (y1 : Int) (y2 : Bool) => u54_0_2 (K (.exit 0)) x3 x4 y1 y2) n x5 = u54_0_0 (loopT (runM Try.prog E54_0 sh54 c54_0_13) td54_13 K n) x3 x4 x5 := by
  intro n
  induction n with
  | zero => intros; rfl
  | succ n ih => intro x3 x4 x5; exact (congrArg (fun kn => S54_0_0 α x3 x4 x5 kn (u54_0_1 (K .ret) false) (fun (y1 : Int) (y2 : Bool) => u54_0_2 (K (.exit 0)) x3 x4 y1 y2)) (funext fun x5 => ih x3 x4 x5)).trans (r54_0_0 α K (loopT (runM Try.prog E54_0 sh54 c54_0_13) td54_13 K n) x3 x4 x5).symm
theorem m54_0_0 : ∀ (α : Type) (K : Exit → St → Option α), F54_0_0 L54_0_0 α K = p54_0_0.unc fun σ => loopT (runM Try.prog E54_0 sh54 c54_0_13) td54_13 K fuel σ := fun α K => funext fun x3 => funext fun x4 => funext fun x5 => t54_0_0 α K fuel x3 x4 x5

/-- etalon/etalonref08.Same -/
abbrev Tf54_0 : Type 1 := (α : Type) → Rows → Rows → (Bool → Option α) → Option α
def f54_0g (vL54_0_0 : TL54_0_0) (α : Type) (x1 : Rows) (x2 : Rows) (k1 : Bool → Option α) : Option α :=
  cK (((List.length x1 : Nat) : Int) != ((List.length x2 : Nat) : Int))
    (k1 false)
    (vL54_0_0 α x1 x2
      (k1 false)
      (fun (x9 : Int) (x10 : Bool) => k1 true) 0)
noncomputable def f54_0 (α : Type) (x1 : Rows) (x2 : Rows) (k1 : Bool → Option α) : Option α := f54_0g L54_0_0 α x1 x2 k1
def pa54_0 : PT (List DV) := pA [pV false [dL], pV false [dL]]
def Fn54_0 (v : Tf54_0) (α : Type) (k : List RV → Option α) : Rows → Rows → Option α := fun x1 x2 => v α x1 x2 (fun (y1 : Bool) => ur54_0_0 k y1)
noncomputable def cm54_0g (vL54_0_0 : TL54_0_0) : MCode := (.seq (.region r54_2 [] (some ⟨[0, 1], true, [], []⟩)) (.seq (.seq (.region r54_5 [] (some ⟨[0, 1, 10], true, [], []⟩)) (.cond (.tmp 10) (.seq (.region r54_8 [] (some ⟨[4], true, [], []⟩)) .ret) .skip)) (.seq (.seq (.region r54_11 [] (some ⟨[0, 1, 5], true, [], []⟩)) (.block 0 (.loop td54_13 [⟨p54_0_0, F54_0_0 vL54_0_0⟩] c54_0_13))) (.seq (.region r54_27 [] (some ⟨[4], true, [], []⟩)) .ret))))
noncomputable def cm54_0 : MCode := cm54_0g L54_0_0
theorem gm54_0 : cm54_0.Good Try.prog E54_0 sh54 := ⟨trivial, ⟨⟨trivial, ⟨⟨trivial, trivial⟩, trivial⟩⟩, ⟨⟨trivial, ⟨g54_0_13, m54_0_0, trivial⟩⟩, ⟨trivial, trivial⟩⟩⟩⟩
theorem fm54_0g  (vL54_0_0 : TL54_0_0) (α : Type) (k : List RV → Option α) : Fn54_0 (f54_0g vL54_0_0) α k = pa54_0.unc fun ds => fnM Try.prog (E54_0g ) sh54 (cm54_0g vL54_0_0) rs54 k ds := by kernel_rfl
theorem fm54_0 : ∀ (α : Type) (k : List RV → Option α), Fn54_0 f54_0 α k = pa54_0.unc fun ds => fnM Try.prog E54_0 sh54 cm54_0 rs54 k ds := fm54_0g L54_0_0

theorem is54 : FnIs Try.prog 54 nt54 tr54 tl54 cm54_0.erase rs54 := ⟨Try.f54, Try.func54, rfl, by kernel_rfl, by kernel_rfl, by kernel_rfl⟩
theorem io54_0 : InstOk Try.prog 54 nt54 ⟨pa54_0, Fn54_0 f54_0⟩ := inst_ok eo54_0 followsTry is54 ⟨⟨sh54, cm54_0, by kernel_rfl, gm54_0, fm54_0⟩⟩

/-! ### F53 etalon/etalonref08.Switched -/
abbrev nt53 : Nat := 18
def sh53 : List (Nat × List Sh) := [(13, [.bool]), (14, [.bool]), (16, [.bool])]
def r53_2 : List AOper := [⟨(some 4), (.mv (.const (.slice none 0 0))), none⟩]
def r53_4 : List AOper := [⟨(some 6), (.bslice 1 0 [(.v (.bool false))] []), none⟩, ⟨(some 7), (.mv (.tmp 0)), none⟩, ⟨(some 8), (.append 1 1 (.tmp 6) (.tmp 7)), none⟩, ⟨(some 5), (.mv (.tmp 8)), none⟩]
def r53_6 : List AOper := [⟨(some 9), (.mv (.tmp 5)), none⟩, ⟨(some 10), (.mv (.tmp 1)), none⟩, ⟨(some 11), (.mv (.tmp 5)), none⟩, ⟨(some 12), (.mv (.tmp 1)), none⟩, ⟨(some 13), (.iaddr 1 none (.tmp 11) (.tmp 12)), none⟩, ⟨(some 14), (.load false 1 (.tmp 13)), none⟩, ⟨(some 15), (.pure (oB (.unOp .not 4 (.tmp 14)) 4)), none⟩, ⟨(some 16), (.iaddr 1 none (.tmp 9) (.tmp 10)), none⟩, ⟨none, (.store 1 (.tmp 16) (.tmp 15)), none⟩]
def r53_8 : List AOper := [⟨(some 17), (.mv (.tmp 5)), none⟩, ⟨(some 4), (.mv (.tmp 17)), none⟩]
def tr53 : List (Nat × Tidy) := [(0, ⟨[0, 1], true, [], []⟩), (1, ⟨[1, 5], true, [], []⟩), (2, ⟨[5], true, [], []⟩), (3, ⟨[4], true, [⟨false, 4, 0, 20004, 1⟩], []⟩)]
def tl53 : List (Nat × Tidy) := []
def rs53 : List AResV := [.tmp 4]
def pr53_0_0 : PT (List RV) := pRs [pR false [rO 1]]
def ur53_0_0 {β : Type} (g : List RV → β) : Rows → β := pr53_0_0.unc g

def E53_0g  : EnvK := EnvK.of [] noSeq
noncomputable def E53_0 : EnvK := E53_0g 
theorem eo53_0 : E53_0.Ok Try.prog := EnvK.of_ok noSeq_ok trivial

/-- etalon/etalonref08.Switched -/
abbrev Tf53_0 : Type 1 := (α : Type) → Rows → Int → (Rows → Option α) → Option α
def f53_0g  (α : Type) (x1 : Rows) (x2 : Int) (k1 : Rows → Option α) : Option α :=
  gK (apOk 1 1 ([] : Rows) x1) (ixK (([] : Rows) ++ x1) x2 1
    (ldK (([] : Rows) ++ x1) (Int.toNat x2) 0 [.bool]
      (fun (x3 : Bool) => ixK (([] : Rows) ++ x1) x2 1
        (stK (([] : Rows) ++ x1) (Int.toNat x2) 0 1
          (k1 (List.set (([] : Rows) ++ x1) (Int.toNat x2) (splice (rowAt (([] : Rows) ++ x1) (Int.toNat x2)) 0 [DC.v (.bool (!x3))])))))))
noncomputable def f53_0 (α : Type) (x1 : Rows) (x2 : Int) (k1 : Rows → Option α) : Option α := f53_0g  α x1 x2 k1
def pa53_0 : PT (List DV) := pA [pV false [dL], pV false [(dI .i64)]]
def Fn53_0 (v : Tf53_0) (α : Type) (k : List RV → Option α) : Rows → Int → Option α := fun x1 x2 => v α x1 x2 (fun (y1 : Rows) => ur53_0_0 k y1)
noncomputable def cm53_0g  : MCode := (.seq (.region r53_2 [] (some ⟨[0, 1], true, [], []⟩)) (.seq (.region r53_4 [] (some ⟨[1, 5], true, [], []⟩)) (.seq (.region r53_6 [] (some ⟨[5], true, [], []⟩)) (.seq (.region r53_8 [] (some ⟨[4], true, [⟨false, 4, 0, 20004, 1⟩], []⟩)) .ret))))
noncomputable def cm53_0 : MCode := cm53_0g 
theorem gm53_0 : cm53_0.Good Try.prog E53_0 sh53 := ⟨trivial, ⟨trivial, ⟨trivial, ⟨trivial, trivial⟩⟩⟩⟩
theorem fm53_0g   (α : Type) (k : List RV → Option α) : Fn53_0 (f53_0g ) α k = pa53_0.unc fun ds => fnM Try.prog (E53_0g ) sh53 (cm53_0g ) rs53 k ds := by kernel_rfl
theorem fm53_0 : ∀ (α : Type) (k : List RV → Option α), Fn53_0 f53_0 α k = pa53_0.unc fun ds => fnM Try.prog E53_0 sh53 cm53_0 rs53 k ds := fm53_0g 

theorem is53 : FnIs Try.prog 53 nt53 tr53 tl53 cm53_0.erase rs53 := ⟨Try.f53, Try.func53, rfl, by kernel_rfl, by kernel_rfl, by kernel_rfl⟩
theorem io53_0 : InstOk Try.prog 53 nt53 ⟨pa53_0, Fn53_0 f53_0⟩ := inst_ok eo53_0 followsTry is53 ⟨⟨sh53, cm53_0, by kernel_rfl, gm53_0, fm53_0⟩⟩

/-! ### F52 etalon/etalonref08.FirstBroken -/
abbrev nt52 : Nat := 38
def sh52 : List (Nat × List Sh) := [(9, [.sl]), (15, [.sl]), (17, [.int .i64, .bool, .int .i64, .bool]), (18, [.int .i64, .bool, .int .i64, .bool]), (21, [.int .i64]), (22, [.bool]), (23, [.bool]), (25, [.bool]), (30, [.int .i64]), (31, [.bool]), (32, [.bool]), (34, [.bool])]
def r52_2 : List AOper := [⟨(some 2), (.box (.tmp 0)), none⟩, ⟨(some 4), (.mv (.const (.int .i64 0))), none⟩]
def r52_5 : List AOper := [⟨(some 5), (.mv (.const (.int .i64 0))), none⟩]
def td52_7 : Option Tidy := (some ⟨[1, 2, 5], true, [⟨true, 2, 0, 30200, 1⟩, ⟨true, 2, 1, 30201, 4⟩], []⟩)
def r52_10 : List AOper := [⟨(some 7), (.mv (.tmp 5)), none⟩, ⟨(some 8), (.faddr 1 (.tmp 2)), none⟩, ⟨(some 9), (.load false 1 (.tmp 8)), none⟩, ⟨(some 10), (.len (.tmp 9)), none⟩, ⟨(some 11), (.bin .lss 3 (.tmp 7) (.tmp 10)), none⟩]
def r52_15 : List AOper := [⟨(some 14), (.faddr 1 (.tmp 2)), none⟩, ⟨(some 15), (.load false 1 (.tmp 14)), none⟩, ⟨(some 16), (.mv (.tmp 5)), none⟩, ⟨(some 17), (.iaddr 4 none (.tmp 15) (.tmp 16)), none⟩, ⟨(some 18), (.load true 4 (.tmp 17)), none⟩, ⟨(some 6), (.alloc [(.d (.v (.int .i64 0))), (.d (.v (.bool false))), (.d (.v (.int .i64 0))), (.d (.v (.bool false)))]), none⟩, ⟨none, (.store 4 (.tmp 6) (.tmp 18)), none⟩]
def r52_17 : List AOper := [⟨(some 19), (.mv (.tmp 1)), none⟩, ⟨(some 20), (.faddr 0 (.tmp 6)), none⟩, ⟨(some 21), (.load false 1 (.tmp 20)), none⟩, ⟨(some 22), (.iaddr 1 none (.tmp 19) (.tmp 21)), none⟩, ⟨(some 23), (.load false 1 (.tmp 22)), none⟩, ⟨(some 24), (.faddr 1 (.tmp 6)), none⟩, ⟨(some 25), (.load false 1 (.tmp 24)), none⟩, ⟨(some 26), (.bin .eql 4 (.tmp 23) (.tmp 25)), none⟩, ⟨(some 27), (.mv (.tmp 26)), none⟩, ⟨(some 28), (.mv (.tmp 1)), (some (27, true))⟩, ⟨(some 29), (.faddr 2 (.tmp 6)), (some (27, true))⟩, ⟨(some 30), (.load false 1 (.tmp 29)), (some (27, true))⟩, ⟨(some 31), (.iaddr 1 none (.tmp 28) (.tmp 30)), (some (27, true))⟩, ⟨(some 32), (.load false 1 (.tmp 31)), (some (27, true))⟩, ⟨(some 33), (.faddr 3 (.tmp 6)), (some (27, true))⟩, ⟨(some 34), (.load false 1 (.tmp 33)), (some (27, true))⟩, ⟨(some 35), (.bin .neq 4 (.tmp 32) (.tmp 34)), (some (27, true))⟩, ⟨(some 36), (.pick (.tmp 27) (.tmp 35) (.const (.bool false))), none⟩]
def r52_20 : List AOper := [⟨(some 37), (.mv (.tmp 5)), none⟩, ⟨(some 4), (.mv (.tmp 37)), none⟩]
def r52_21 : List AOper := [⟨(some 12), (.mv (.tmp 5)), none⟩, ⟨(some 13), (.bin .add 3 (.tmp 12) (.const (.int .i64 1))), none⟩, ⟨(some 5), (.mv (.tmp 13)), none⟩]
def r52_23 : List AOper := [⟨(some 4), (.mv (.const (.int .i64 (-1)))), none⟩]
def tr52 : List (Nat × Tidy) := [(0, ⟨[1, 2], true, [], []⟩), (1, ⟨[1, 2, 5], true, [], []⟩), (2, ⟨[1, 2, 5, 11], true, [], []⟩), (4, ⟨[1, 2, 5, 6], true, [], []⟩), (5, ⟨[1, 2, 5, 36], true, [], []⟩), (6, ⟨[4], true, [], []⟩), (3, ⟨[1, 2, 5], true, [], []⟩), (7, ⟨[4], true, [], []⟩)]
def tl52 : List (Nat × Tidy) := [(2, ⟨[1, 2, 5], true, [⟨true, 2, 0, 30200, 1⟩, ⟨true, 2, 1, 30201, 4⟩], []⟩)]
def rs52 : List AResV := [.tmp 4]
def p52_0_0 : PT St := pS [sl 1 (aV false [(cD dL)]), sl 2 (aV false [(cPtr 2 0)]), sl 5 (aV false [(cD (dI .i64))])] [eBox 2 [(cD dL), (cD dL)]]
def u52_0_0 {β : Type} (g : St → β) : Rows → Int → Rows → Rows → β := p52_0_0.unc g

def p52_0_1 : PT St := pS [sl 4 (aV false [(cD (dI .i64))])] []
def u52_0_1 {β : Type} (g : St → β) : Int → β := p52_0_1.unc g

def p52_0_2 : PT St := pS [sl 1 (aV false [(cD dL)]), sl 2 (aV false [(cPtr 2 0)]), sl 5 (aV false [(cD (dI .i64))]), sl 11 (aV false [(cD dB)])] [eBox 2 [(cD dL), (cD dL)]]
def u52_0_2 {β : Type} (g : St → β) : Rows → Int → Bool → Rows → Rows → β := p52_0_2.unc g

def pr52_0_0 : PT (List RV) := pRs [pR false [rD (dI .i64)]]
def ur52_0_0 {β : Type} (g : List RV → β) : Int → β := pr52_0_0.unc g

def E52_0g  : EnvK := EnvK.of [] noSeq
noncomputable def E52_0 : EnvK := E52_0g 
theorem eo52_0 : E52_0.Ok Try.prog := EnvK.of_ok noSeq_ok trivial

noncomputable def c52_0_7g  : MCode := (.seq (.seq (.region r52_10 [] (some ⟨[1, 2, 5, 11], true, [], []⟩)) (.cond (.tmp 11) .skip (.exit 0))) (.seq (.block 1 (.seq (.region r52_15 [] (some ⟨[1, 2, 5, 6], true, [], []⟩)) (.seq (.region r52_17 [] (some ⟨[1, 2, 5, 36], true, [], []⟩)) (.cond (.tmp 36) (.seq (.region r52_20 [] (some ⟨[4], true, [], []⟩)) .ret) .skip)))) (.region r52_21 [] (some ⟨[1, 2, 5], true, [], []⟩))))
noncomputable def c52_0_7 : MCode := c52_0_7g 
theorem g52_0_7 : c52_0_7.Good Try.prog E52_0 sh52 := ⟨⟨trivial, ⟨trivial, trivial⟩⟩, ⟨⟨trivial, ⟨trivial, ⟨⟨trivial, trivial⟩, trivial⟩⟩⟩, trivial⟩⟩
--CODE 7 0
def S52_0_0g  (α : Type) (x4 : Rows) (x7 : Rows) (x5 : Int) (kn : Int → Option α) (k1 : Int → Option α) (k2 : Int → Bool → Option α) : Option α :=
  cK (decide (x5 < ((List.length x7 : Nat) : Int)))
    (rowK x7 x5 [.int .i64, .bool, .int .i64, .bool]
      (fun (x9 : Int) (x10 : Bool) (x11 : Int) (x12 : Bool) => rowK x4 x9 [.bool]
        (fun (x13 : Bool) => cK (x13 == x10)
          (rowK x4 x11 [.bool]
            (fun (x14 : Bool) => cK (!(x14 == x12))
              (k1 x5)
              (kn (w64 (x5 + 1)))))
          (kn (w64 (x5 + 1))))))
    (k2 x5 (decide (x5 < ((List.length x7 : Nat) : Int))))
noncomputable def S52_0_0 (α : Type) (x4 : Rows) (x7 : Rows) (x5 : Int) (kn : Int → Option α) (k1 : Int → Option α) (k2 : Int → Bool → Option α) : Option α := S52_0_0g  α x4 x7 x5 kn k1 k2
noncomputable def R52_0_0 (α : Type) (x4 : Rows) (x7 : Rows) (k1 : Int → Option α) (k2 : Int → Bool → Option α) : Nat → Int → Option α
  | 0, _ => none
  | n + 1, x5 => S52_0_0 α x4 x7 x5 (R52_0_0 α x4 x7 k1 k2 n) k1 k2
noncomputable def L52_0_0 (α : Type) (x4 : Rows) (x7 : Rows) (k1 : Int → Option α) (k2 : Int → Bool → Option α) (x5 : Int) : Option α := R52_0_0 α x4 x7 k1 k2 fuel x5
abbrev TL52_0_0 : Type 1 := (α : Type) → Rows → Rows → (Int → Option α) → (Int → Bool → Option α) → Int → Option α
def F52_0_0 (v : TL52_0_0) (α : Type) (K : Exit → St → Option α) : Rows → Int → Rows → Rows → Option α := fun x4 x5 x6 x7 => v α x4 x7 (fun (y1 : Int) => u52_0_1 (K .ret) y1) (fun (y1 : Int) (y2 : Bool) => u52_0_2 (K (.exit 0)) x4 y1 y2 x6 x7) x5
theorem r52_0_0g   (α : Type) (K : Exit → St → Option α) (Kn : St → Option α) (x4 : Rows) (x5 : Int) (x6 : Rows) (x7 : Rows) : u52_0_0 (fun σ => runM Try.prog (E52_0g ) sh52 (c52_0_7g ) (thenK (fun σ => tidyK td52_7 σ Kn) K) σ) x4 x5 x6 x7 = S52_0_0g  α x4 x7 x5 (fun x5 => u52_0_0 Kn x4 x5 x6 x7) (fun (y1 : Int) => u52_0_1 (K .ret) y1) (fun (y1 : Int) (y2 : Bool) => u52_0_2 (K (.exit 0)) x4 y1 y2 x6 x7) := by kernel_rfl
theorem r52_0_0 (α : Type) (K : Exit → St → Option α) (Kn : St → Option α) (x4 : Rows) (x5 : Int) (x6 : Rows) (x7 : Rows) : u52_0_0 (fun σ => runM Try.prog E52_0 sh52 c52_0_7 (thenK (fun σ => tidyK td52_7 σ Kn) K) σ) x4 x5 x6 x7 = S52_0_0 α x4 x7 x5 (fun x5 => u52_0_0 Kn x4 x5 x6 x7) (fun (y1 : Int) => u52_0_1 (K .ret) y1) (fun (y1 : Int) (y2 : Bool) => u52_0_2 (K (.exit 0)) x4 y1 y2 x6 x7) := r52_0_0g  α K Kn x4 x5 x6 x7
theorem t52_0_0 (α : Type) (K : Exit → St → Option α) : ∀ (n : Nat) (x4 : Rows) (x5 : Int) (x6 : Rows) (x7 : Rows), R52_0_0 α x4 x7 (fun (y1 : Int) => u52_0_1 (K .ret) y1) (fun (y1 : Int) (y2 : Bool) => u52_0_2 (K (.exit 0)) x4 y1 y2 x6 x7) n x5 = u52_0_0 (loopT (runM Try.prog E52_0 sh52 c52_0_7) td52_7 K n) x4 x5 x6 x7 := by
  intro n
  induction n with
  | zero => intros; rfl
  | succ n ih => intro x4 x5 x6 x7; exact (congrArg (fun kn => S52_0_0 α x4 x7 x5 kn (fun (y1 : Int) => u52_0_1 (K .ret) y1) (fun (y1 : Int) (y2 : Bool) => u52_0_2 (K (.exit 0)) x4 y1 y2 x6 x7)) (funext fun x5 => ih x4 x5 x6 x7)).trans (r52_0_0 α K (loopT (runM Try.prog E52_0 sh52 c52_0_7) td52_7 K n) x4 x5 x6 x7).symm
theorem m52_0_0 : ∀ (α : Type) (K : Exit → St → Option α), F52_0_0 L52_0_0 α K = p52_0_0.unc fun σ => loopT (runM Try.prog E52_0 sh52 c52_0_7) td52_7 K fuel σ := fun α K => funext fun x4 => funext fun x5 => funext fun x6 => funext fun x7 => t52_0_0 α K fuel x4 x5 x6 x7

/-- etalon/etalonref08.FirstBroken -/
abbrev Tf52_0 : Type 1 := (α : Type) → Rows → Rows → Rows → (Int → Option α) → Option α
def f52_0g (vL52_0_0 : TL52_0_0) (α : Type) (x1 : Rows) (x2 : Rows) (x3 : Rows) (k1 : Int → Option α) : Option α :=
  vL52_0_0 α x3 x2
    (fun (x15 : Int) => k1 x15)
    (fun (x16 : Int) (x17 : Bool) => k1 (-1)) 0
noncomputable def f52_0 (α : Type) (x1 : Rows) (x2 : Rows) (x3 : Rows) (k1 : Int → Option α) : Option α := f52_0g L52_0_0 α x1 x2 x3 k1
def pa52_0 : PT (List DV) := pA [pV true [dL, dL], pV false [dL]]
def Fn52_0 (v : Tf52_0) (α : Type) (k : List RV → Option α) : Rows → Rows → Rows → Option α := fun x1 x2 x3 => v α x1 x2 x3 (fun (y1 : Int) => ur52_0_0 k y1)
noncomputable def cm52_0g (vL52_0_0 : TL52_0_0) : MCode := (.seq (.region r52_2 [] (some ⟨[1, 2], true, [], []⟩)) (.seq (.seq (.region r52_5 [] (some ⟨[1, 2, 5], true, [], []⟩)) (.block 0 (.loop td52_7 [⟨p52_0_0, F52_0_0 vL52_0_0⟩] c52_0_7))) (.seq (.region r52_23 [] (some ⟨[4], true, [], []⟩)) .ret)))
noncomputable def cm52_0 : MCode := cm52_0g L52_0_0
theorem gm52_0 : cm52_0.Good Try.prog E52_0 sh52 := ⟨trivial, ⟨⟨trivial, ⟨g52_0_7, m52_0_0, trivial⟩⟩, ⟨trivial, trivial⟩⟩⟩
theorem fm52_0g  (vL52_0_0 : TL52_0_0) (α : Type) (k : List RV → Option α) : Fn52_0 (f52_0g vL52_0_0) α k = pa52_0.unc fun ds => fnM Try.prog (E52_0g ) sh52 (cm52_0g vL52_0_0) rs52 k ds := by kernel_rfl
theorem fm52_0 : ∀ (α : Type) (k : List RV → Option α), Fn52_0 f52_0 α k = pa52_0.unc fun ds => fnM Try.prog E52_0 sh52 cm52_0 rs52 k ds := fm52_0g L52_0_0

theorem is52 : FnIs Try.prog 52 nt52 tr52 tl52 cm52_0.erase rs52 := ⟨Try.f52, Try.func52, rfl, by kernel_rfl, by kernel_rfl, by kernel_rfl⟩
theorem io52_0 : InstOk Try.prog 52 nt52 ⟨pa52_0, Fn52_0 f52_0⟩ := inst_ok eo52_0 followsTry is52 ⟨⟨sh52, cm52_0, by kernel_rfl, gm52_0, fm52_0⟩⟩

/-! ### F51 etalon/etalonref08.StateErr -/
abbrev nt51 : Nat := 11
def sh51 : List (Nat × List Sh) := [(8, [.sl])]
def r51_2 : List AOper := [⟨(some 2), (.box (.tmp 0)), none⟩, ⟨(some 4), (.mv (.const (.int .i64 0))), none⟩]
def r51_5 : List AOper := [⟨(some 5), (.mv (.tmp 1)), none⟩, ⟨(some 6), (.len (.tmp 5)), none⟩, ⟨(some 7), (.faddr 0 (.tmp 2)), none⟩, ⟨(some 8), (.load false 1 (.tmp 7)), none⟩, ⟨(some 9), (.len (.tmp 8)), none⟩, ⟨(some 10), (.bin .neq 3 (.tmp 6) (.tmp 9)), none⟩]
def r51_8 : List AOper := [⟨(some 4), (.mv (.const (.int .i64 12))), none⟩]
def r51_10 : List AOper := [⟨(some 4), (.mv (.const (.int .i64 0))), none⟩]
def tr51 : List (Nat × Tidy) := [(0, ⟨[1, 2], true, [], []⟩), (1, ⟨[10], true, [], []⟩), (2, ⟨[4], true, [], []⟩), (3, ⟨[4], true, [], []⟩)]
def tl51 : List (Nat × Tidy) := []
def rs51 : List AResV := [.tmp 4]
def pr51_0_0 : PT (List RV) := pRs [pR false [rD (dI .i64)]]
def ur51_0_0 {β : Type} (g : List RV → β) : Int → β := pr51_0_0.unc g

def E51_0g  : EnvK := EnvK.of [] noSeq
noncomputable def E51_0 : EnvK := E51_0g 
theorem eo51_0 : E51_0.Ok Try.prog := EnvK.of_ok noSeq_ok trivial

/-- etalon/etalonref08.StateErr -/
abbrev Tf51_0 : Type 1 := (α : Type) → Rows → Rows → Rows → (Int → Option α) → Option α
def f51_0g  (α : Type) (x1 : Rows) (x2 : Rows) (x3 : Rows) (k1 : Int → Option α) : Option α :=
  cK (((List.length x3 : Nat) : Int) != ((List.length x1 : Nat) : Int))
    (k1 12)
    (k1 0)
noncomputable def f51_0 (α : Type) (x1 : Rows) (x2 : Rows) (x3 : Rows) (k1 : Int → Option α) : Option α := f51_0g  α x1 x2 x3 k1
def pa51_0 : PT (List DV) := pA [pV true [dL, dL], pV false [dL]]
def Fn51_0 (v : Tf51_0) (α : Type) (k : List RV → Option α) : Rows → Rows → Rows → Option α := fun x1 x2 x3 => v α x1 x2 x3 (fun (y1 : Int) => ur51_0_0 k y1)
noncomputable def cm51_0g  : MCode := (.seq (.region r51_2 [] (some ⟨[1, 2], true, [], []⟩)) (.seq (.seq (.region r51_5 [] (some ⟨[10], true, [], []⟩)) (.cond (.tmp 10) (.seq (.region r51_8 [] (some ⟨[4], true, [], []⟩)) .ret) .skip)) (.seq (.region r51_10 [] (some ⟨[4], true, [], []⟩)) .ret)))
noncomputable def cm51_0 : MCode := cm51_0g 
theorem gm51_0 : cm51_0.Good Try.prog E51_0 sh51 := ⟨trivial, ⟨⟨trivial, ⟨⟨trivial, trivial⟩, trivial⟩⟩, ⟨trivial, trivial⟩⟩⟩
theorem fm51_0g   (α : Type) (k : List RV → Option α) : Fn51_0 (f51_0g ) α k = pa51_0.unc fun ds => fnM Try.prog (E51_0g ) sh51 (cm51_0g ) rs51 k ds := by kernel_rfl
theorem fm51_0 : ∀ (α : Type) (k : List RV → Option α), Fn51_0 f51_0 α k = pa51_0.unc fun ds => fnM Try.prog E51_0 sh51 cm51_0 rs51 k ds := fm51_0g 

theorem is51 : FnIs Try.prog 51 nt51 tr51 tl51 cm51_0.erase rs51 := ⟨Try.f51, Try.func51, rfl, by kernel_rfl, by kernel_rfl, by kernel_rfl⟩
theorem io51_0 : InstOk Try.prog 51 nt51 ⟨pa51_0, Fn51_0 f51_0⟩ := inst_ok eo51_0 followsTry is51 ⟨⟨sh51, cm51_0, by kernel_rfl, gm51_0, fm51_0⟩⟩

/-! ### F19 etalon/etalonbase.Within -/
abbrev nt19 : Nat := 15
def sh19 : List (Nat × List Sh) := []
def r19_2 : List AOper := [⟨(some 6), (.mv (.const (.bool false))), none⟩]
def r19_4 : List AOper := [⟨(some 7), (.mv (.tmp 1)), none⟩, ⟨(some 8), (.mv (.tmp 0)), none⟩, ⟨(some 9), (.bin .leq 3 (.tmp 7) (.tmp 8)), none⟩, ⟨(some 10), (.mv (.tmp 9)), none⟩, ⟨(some 11), (.mv (.tmp 0)), (some (10, true))⟩, ⟨(some 12), (.mv (.tmp 2)), (some (10, true))⟩, ⟨(some 13), (.bin .leq 3 (.tmp 11) (.tmp 12)), (some (10, true))⟩, ⟨(some 14), (.pick (.tmp 10) (.tmp 13) (.const (.bool false))), none⟩, ⟨(some 6), (.mv (.tmp 14)), none⟩]
def tr19 : List (Nat × Tidy) := [(0, ⟨[0, 1, 2], true, [], []⟩), (1, ⟨[6], true, [], []⟩)]
def tl19 : List (Nat × Tidy) := []
def rs19 : List AResV := [.tmp 6]
def pr19_0_0 : PT (List RV) := pRs [pR false [rD dB]]
def ur19_0_0 {β : Type} (g : List RV → β) : Bool → β := pr19_0_0.unc g

def E19_0g  : EnvK := EnvK.of [] noSeq
noncomputable def E19_0 : EnvK := E19_0g 
theorem eo19_0 : E19_0.Ok Try.prog := EnvK.of_ok noSeq_ok trivial

/-- etalon/etalonbase.Within -/
abbrev Tf19_0 : Type 1 := (α : Type) → Int → Int → Int → (Bool → Option α) → Option α
def f19_0g  (α : Type) (x1 : Int) (x2 : Int) (x3 : Int) (k1 : Bool → Option α) : Option α :=
  cK (decide (x2 ≤ x1))
    (k1 (decide (x1 ≤ x3)))
    (k1 false)
noncomputable def f19_0 (α : Type) (x1 : Int) (x2 : Int) (x3 : Int) (k1 : Bool → Option α) : Option α := f19_0g  α x1 x2 x3 k1
def pa19_0 : PT (List DV) := pA [pV false [(dI .i64)], pV false [(dI .i64)], pV false [(dI .i64)]]
def Fn19_0 (v : Tf19_0) (α : Type) (k : List RV → Option α) : Int → Int → Int → Option α := fun x1 x2 x3 => v α x1 x2 x3 (fun (y1 : Bool) => ur19_0_0 k y1)
noncomputable def cm19_0g  : MCode := (.seq (.region r19_2 [] (some ⟨[0, 1, 2], true, [], []⟩)) (.seq (.region r19_4 [] (some ⟨[6], true, [], []⟩)) .ret))
noncomputable def cm19_0 : MCode := cm19_0g 
theorem gm19_0 : cm19_0.Good Try.prog E19_0 sh19 := ⟨trivial, ⟨trivial, trivial⟩⟩
theorem fm19_0g   (α : Type) (k : List RV → Option α) : Fn19_0 (f19_0g ) α k = pa19_0.unc fun ds => fnM Try.prog (E19_0g ) sh19 (cm19_0g ) rs19 k ds := by kernel_rfl
theorem fm19_0 : ∀ (α : Type) (k : List RV → Option α), Fn19_0 f19_0 α k = pa19_0.unc fun ds => fnM Try.prog E19_0 sh19 cm19_0 rs19 k ds := fm19_0g 

theorem is19 : FnIs Try.prog 19 nt19 tr19 tl19 cm19_0.erase rs19 := ⟨Try.f19, Try.func19, rfl, by kernel_rfl, by kernel_rfl, by kernel_rfl⟩
theorem io19_0 : InstOk Try.prog 19 nt19 ⟨pa19_0, Fn19_0 f19_0⟩ := inst_ok eo19_0 followsTry is19 ⟨⟨sh19, cm19_0, by kernel_rfl, gm19_0, fm19_0⟩⟩

/-! ### F108 etalon/etalonbase.HasText -/
abbrev nt108 : Nat := 18
def sh108 : List (Nat × List Sh) := [(14, [.str]), (15, [.str])]
def r108_2 : List AOper := [⟨(some 4), (.mv (.const (.bool false))), none⟩]
def r108_5 : List AOper := [⟨(some 5), (.mv (.const (.int .i64 0))), none⟩]
def td108_7 : Option Tidy := (some ⟨[0, 1, 5], true, [], []⟩)
def r108_10 : List AOper := [⟨(some 6), (.mv (.tmp 5)), none⟩, ⟨(some 7), (.mv (.tmp 0)), none⟩, ⟨(some 8), (.len (.tmp 7)), none⟩, ⟨(some 9), (.bin .lss 3 (.tmp 6) (.tmp 8)), none⟩]
def r108_15 : List AOper := [⟨(some 12), (.mv (.tmp 0)), none⟩, ⟨(some 13), (.mv (.tmp 5)), none⟩, ⟨(some 14), (.iaddr 1 none (.tmp 12) (.tmp 13)), none⟩, ⟨(some 15), (.load false 1 (.tmp 14)), none⟩, ⟨(some 16), (.mv (.tmp 1)), none⟩, ⟨(some 17), (.bin .eql 9 (.tmp 15) (.tmp 16)), none⟩]
def r108_18 : List AOper := [⟨(some 4), (.mv (.const (.bool true))), none⟩]
def r108_19 : List AOper := [⟨(some 10), (.mv (.tmp 5)), none⟩, ⟨(some 11), (.bin .add 3 (.tmp 10) (.const (.int .i64 1))), none⟩, ⟨(some 5), (.mv (.tmp 11)), none⟩]
def r108_21 : List AOper := [⟨(some 4), (.mv (.const (.bool false))), none⟩]
def tr108 : List (Nat × Tidy) := [(0, ⟨[0, 1], true, [], []⟩), (1, ⟨[0, 1, 5], true, [], []⟩), (2, ⟨[0, 1, 5, 9], true, [], []⟩), (4, ⟨[0, 1, 5, 17], true, [], []⟩), (5, ⟨[4], true, [], []⟩), (3, ⟨[0, 1, 5], true, [], []⟩), (6, ⟨[4], true, [], []⟩)]
def tl108 : List (Nat × Tidy) := [(2, ⟨[0, 1, 5], true, [], []⟩)]
def rs108 : List AResV := [.tmp 4]
def p108_0_0 : PT St := pS [sl 0 (aV false [(cD dL)]), sl 1 (aV false [(cD dS)]), sl 5 (aV false [(cD (dI .i64))])] []
def u108_0_0 {β : Type} (g : St → β) : Rows → ByteArray → Int → β := p108_0_0.unc g

def p108_0_1 : PT St := pS [sl 4 (aV false [(cD dB)])] []
def u108_0_1 {β : Type} (g : St → β) : Bool → β := p108_0_1.unc g

def p108_0_2 : PT St := pS [sl 0 (aV false [(cD dL)]), sl 1 (aV false [(cD dS)]), sl 5 (aV false [(cD (dI .i64))]), sl 9 (aV false [(cD dB)])] []
def u108_0_2 {β : Type} (g : St → β) : Rows → ByteArray → Int → Bool → β := p108_0_2.unc g

def pr108_0_0 : PT (List RV) := pRs [pR false [rD dB]]
def ur108_0_0 {β : Type} (g : List RV → β) : Bool → β := pr108_0_0.unc g

def E108_0g  : EnvK := EnvK.of [] noSeq
noncomputable def E108_0 : EnvK := E108_0g 
theorem eo108_0 : E108_0.Ok Try.prog := EnvK.of_ok noSeq_ok trivial

noncomputable def c108_0_7g  : MCode := (.seq (.seq (.region r108_10 [] (some ⟨[0, 1, 5, 9], true, [], []⟩)) (.cond (.tmp 9) .skip (.exit 0))) (.seq (.block 1 (.seq (.region r108_15 [] (some ⟨[0, 1, 5, 17], true, [], []⟩)) (.cond (.tmp 17) (.seq (.region r108_18 [] (some ⟨[4], true, [], []⟩)) .ret) .skip))) (.region r108_19 [] (some ⟨[0, 1, 5], true, [], []⟩))))
noncomputable def c108_0_7 : MCode := c108_0_7g 
theorem g108_0_7 : c108_0_7.Good Try.prog E108_0 sh108 := ⟨⟨trivial, ⟨trivial, trivial⟩⟩, ⟨⟨trivial, ⟨⟨trivial, trivial⟩, trivial⟩⟩, trivial⟩⟩
--CODE 7 0
def S108_0_0g  (α : Type) (x3 : Rows) (x4 : ByteArray) (x5 : Int) (kn : Int → Option α) (k1 : Option α) (k2 : Int → Bool → Option α) : Option α :=
  cK (decide (x5 < ((List.length x3 : Nat) : Int)))
    (rowK x3 x5 [.str]
      (fun (x7 : ByteArray) => cK (x7.toList == x4.toList)
        (k1)
        (kn (w64 (x5 + 1)))))
    (k2 x5 (decide (x5 < ((List.length x3 : Nat) : Int))))
noncomputable def S108_0_0 (α : Type) (x3 : Rows) (x4 : ByteArray) (x5 : Int) (kn : Int → Option α) (k1 : Option α) (k2 : Int → Bool → Option α) : Option α := S108_0_0g  α x3 x4 x5 kn k1 k2
noncomputable def R108_0_0 (α : Type) (x3 : Rows) (x4 : ByteArray) (k1 : Option α) (k2 : Int → Bool → Option α) : Nat → Int → Option α
  | 0, _ => none
  | n + 1, x5 => S108_0_0 α x3 x4 x5 (R108_0_0 α x3 x4 k1 k2 n) k1 k2
noncomputable def L108_0_0 (α : Type) (x3 : Rows) (x4 : ByteArray) (k1 : Option α) (k2 : Int → Bool → Option α) (x5 : Int) : Option α := R108_0_0 α x3 x4 k1 k2 fuel x5
abbrev TL108_0_0 : Type 1 := (α : Type) → Rows → ByteArray → (Option α) → (Int → Bool → Option α) → Int → Option α
def F108_0_0 (v : TL108_0_0) (α : Type) (K : Exit → St → Option α) : Rows → ByteArray → Int → Option α := fun x3 x4 x5 => v α x3 x4 (u108_0_1 (K .ret) true) (fun (y1 : Int) (y2 : Bool) => u108_0_2 (K (.exit 0)) x3 x4 y1 y2) x5
theorem r108_0_0g   (α : Type) (K : Exit → St → Option α) (Kn : St → Option α) (x3 : Rows) (x4 : ByteArray) (x5 : Int) : u108_0_0 (fun σ => runM Try.prog (E108_0g ) sh108 (c108_0_7g ) (thenK (fun σ => tidyK td108_7 σ Kn) K) σ) x3 x4 x5 = S108_0_0g  α x3 x4 x5 (fun x5 => u108_0_0 Kn x3 x4 x5) (u108_0_1 (K .ret) true) (fun (y1 : Int) (y2 : Bool) => u108_0_2 (K (.exit 0)) x3 x4 y1 y2) := by kernel_rfl
theorem r108_0_0 (α : Type) (K : Exit → St → Option α) (Kn : St → Option α) (x3 : Rows) (x4 : ByteArray) (x5 : Int) : u108_0_0 (fun σ => runM Try.prog E108_0 sh108 c108_0_7 (thenK (fun σ => tidyK td108_7 σ Kn) K) σ) x3 x4 x5 = S108_0_0 α x3 x4 x5 (fun x5 => u108_0_0 Kn x3 x4 x5) (u108_0_1 (K .ret) true) (fun (y1 : Int) (y2 : Bool) => u108_0_2 (K (.exit 0)) x3 x4 y1 y2) := r108_0_0g  α K Kn x3 x4 x5
theorem t108_0_0 (α : Type) (K : Exit → St → Option α) : ∀ (n : Nat) (x3 : Rows) (x4 : ByteArray) (x5 : Int), R108_0_0 α x3 x4 (u108_0_1 (K .ret) true) (fun (y1 : Int) (y2 : Bool) => u108_0_2 (K (.exit 0)) x3 x4 y1 y2) n x5 = u108_0_0 (loopT (runM Try.prog E108_0 sh108 c108_0_7) td108_7 K n) x3 x4 x5 := by
  intro n
  induction n with
  | zero => intros; rfl
  | succ n ih => intro x3 x4 x5; exact (congrArg (fun kn => S108_0_0 α x3 x4 x5 kn (u108_0_1 (K .ret) true) (fun (y1 : Int) (y2 : Bool) => u108_0_2 (K (.exit 0)) x3 x4 y1 y2)) (funext fun x5 => ih x3 x4 x5)).trans (r108_0_0 α K (loopT (runM Try.prog E108_0 sh108 c108_0_7) td108_7 K n) x3 x4 x5).symm
theorem m108_0_0 : ∀ (α : Type) (K : Exit → St → Option α), F108_0_0 L108_0_0 α K = p108_0_0.unc fun σ => loopT (runM Try.prog E108_0 sh108 c108_0_7) td108_7 K fuel σ := fun α K => funext fun x3 => funext fun x4 => funext fun x5 => t108_0_0 α K fuel x3 x4 x5

/-- etalon/etalonbase.HasText -/
abbrev Tf108_0 : Type 1 := (α : Type) → Rows → ByteArray → (Bool → Option α) → Option α
def f108_0g (vL108_0_0 : TL108_0_0) (α : Type) (x1 : Rows) (x2 : ByteArray) (k1 : Bool → Option α) : Option α :=
  vL108_0_0 α x1 x2
    (k1 true)
    (fun (x8 : Int) (x9 : Bool) => k1 false) 0
noncomputable def f108_0 (α : Type) (x1 : Rows) (x2 : ByteArray) (k1 : Bool → Option α) : Option α := f108_0g L108_0_0 α x1 x2 k1
def pa108_0 : PT (List DV) := pA [pV false [dL], pV false [dS]]
def Fn108_0 (v : Tf108_0) (α : Type) (k : List RV → Option α) : Rows → ByteArray → Option α := fun x1 x2 => v α x1 x2 (fun (y1 : Bool) => ur108_0_0 k y1)
noncomputable def cm108_0g (vL108_0_0 : TL108_0_0) : MCode := (.seq (.region r108_2 [] (some ⟨[0, 1], true, [], []⟩)) (.seq (.seq (.region r108_5 [] (some ⟨[0, 1, 5], true, [], []⟩)) (.block 0 (.loop td108_7 [⟨p108_0_0, F108_0_0 vL108_0_0⟩] c108_0_7))) (.seq (.region r108_21 [] (some ⟨[4], true, [], []⟩)) .ret)))
noncomputable def cm108_0 : MCode := cm108_0g L108_0_0
theorem gm108_0 : cm108_0.Good Try.prog E108_0 sh108 := ⟨trivial, ⟨⟨trivial, ⟨g108_0_7, m108_0_0, trivial⟩⟩, ⟨trivial, trivial⟩⟩⟩
theorem fm108_0g  (vL108_0_0 : TL108_0_0) (α : Type) (k : List RV → Option α) : Fn108_0 (f108_0g vL108_0_0) α k = pa108_0.unc fun ds => fnM Try.prog (E108_0g ) sh108 (cm108_0g vL108_0_0) rs108 k ds := by kernel_rfl
theorem fm108_0 : ∀ (α : Type) (k : List RV → Option α), Fn108_0 f108_0 α k = pa108_0.unc fun ds => fnM Try.prog E108_0 sh108 cm108_0 rs108 k ds := fm108_0g L108_0_0

theorem is108 : FnIs Try.prog 108 nt108 tr108 tl108 cm108_0.erase rs108 := ⟨Try.f108, Try.func108, rfl, by kernel_rfl, by kernel_rfl, by kernel_rfl⟩
theorem io108_0 : InstOk Try.prog 108 nt108 ⟨pa108_0, Fn108_0 f108_0⟩ := inst_ok eo108_0 followsTry is108 ⟨⟨sh108, cm108_0, by kernel_rfl, gm108_0, fm108_0⟩⟩

/-! ### F107 etalon/etalonbase.IsName -/
abbrev nt107 : Nat := 55
def sh107 : List (Nat × List Sh) := []
def r107_2 : List AOper := [⟨(some 2), (.mv (.const (.bool false))), none⟩]
def r107_5 : List AOper := [⟨(some 6), (.mv (.tmp 0)), none⟩, ⟨(some 7), (.pure (oB (.call { callee := .builtin .len, args := #[(.tmp 6)], argTypes := #[9] }) 3)), none⟩, ⟨(some 8), (.bin .lss 3 (.tmp 7) (.const (.int .i64 1))), none⟩, ⟨(some 9), (.mv (.tmp 8)), none⟩, ⟨(some 10), (.mv (.tmp 0)), (some (9, false))⟩, ⟨(some 11), (.pure (oB (.call { callee := .builtin .len, args := #[(.tmp 10)], argTypes := #[9] }) 3)), (some (9, false))⟩, ⟨(some 12), (.bin .gtr 3 (.tmp 11) (.const (.int .i64 12))), (some (9, false))⟩, ⟨(some 13), (.pick (.tmp 9) (.const (.bool true)) (.tmp 12)), none⟩]
def r107_8 : List AOper := [⟨(some 2), (.mv (.const (.bool false))), none⟩]
def r107_11 : List AOper := [⟨(some 3), (.mv (.const (.int .i64 0))), none⟩]
def td107_13 : Option Tidy := (some ⟨[0, 3], true, [], []⟩)
def r107_16 : List AOper := [⟨(some 14), (.mv (.tmp 3)), none⟩, ⟨(some 15), (.mv (.tmp 0)), none⟩, ⟨(some 16), (.pure (oB (.call { callee := .builtin .len, args := #[(.tmp 15)], argTypes := #[9] }) 3)), none⟩, ⟨(some 17), (.bin .lss 3 (.tmp 14) (.tmp 16)), none⟩]
def r107_21 : List AOper := [⟨(some 20), (.mv (.tmp 0)), none⟩, ⟨(some 21), (.mv (.tmp 3)), none⟩, ⟨(some 22), (.pure (oB (.index 9 (.tmp 20) (.tmp 21)) 5)), none⟩, ⟨(some 4), (.mv (.tmp 22)), none⟩]
def r107_23 : List AOper := [⟨(some 23), (.mv (.tmp 4)), none⟩, ⟨(some 24), (.bin .geq 5 (.tmp 23) (.const (.int .u8 97))), none⟩, ⟨(some 25), (.mv (.tmp 24)), none⟩, ⟨(some 26), (.mv (.tmp 4)), (some (25, true))⟩, ⟨(some 27), (.bin .leq 5 (.tmp 26) (.const (.int .u8 122))), (some (25, true))⟩, ⟨(some 28), (.pick (.tmp 25) (.tmp 27) (.const (.bool false))), none⟩, ⟨(some 29), (.mv (.tmp 28)), none⟩, ⟨(some 30), (.mv (.tmp 4)), (some (29, false))⟩, ⟨(some 31), (.bin .geq 5 (.tmp 30) (.const (.int .u8 65))), (some (29, false))⟩, ⟨(some 32), (.mv (.tmp 31)), (some (29, false))⟩, ⟨(some 33), (.mv (.tmp 4)), (some (32, true))⟩, ⟨(some 34), (.bin .leq 5 (.tmp 33) (.const (.int .u8 90))), (some (32, true))⟩, ⟨(some 35), (.pick (.tmp 32) (.tmp 34) (.const (.bool false))), (some (29, false))⟩, ⟨(some 36), (.pick (.tmp 29) (.const (.bool true)) (.tmp 35)), none⟩, ⟨(some 5), (.mv (.tmp 36)), none⟩]
def r107_25 : List AOper := [⟨(some 37), (.mv (.tmp 5)), none⟩, ⟨(some 38), (.pure (oB (.unOp .not 4 (.tmp 37)) 4)), none⟩, ⟨(some 39), (.mv (.tmp 38)), none⟩, ⟨(some 40), (.mv (.tmp 3)), (some (39, true))⟩, ⟨(some 41), (.bin .eql 3 (.tmp 40) (.const (.int .i64 0))), (some (39, true))⟩, ⟨(some 42), (.mv (.tmp 41)), (some (39, true))⟩, ⟨(some 43), (.mv (.tmp 4)), (some (42, false))⟩, ⟨(some 44), (.bin .neq 5 (.tmp 43) (.const (.int .u8 45))), (some (42, false))⟩, ⟨(some 45), (.mv (.tmp 44)), (some (42, false))⟩, ⟨(some 46), (.mv (.tmp 4)), (some (45, true))⟩, ⟨(some 47), (.bin .lss 5 (.tmp 46) (.const (.int .u8 48))), (some (45, true))⟩, ⟨(some 48), (.mv (.tmp 47)), (some (45, true))⟩, ⟨(some 49), (.mv (.tmp 4)), (some (48, false))⟩, ⟨(some 50), (.bin .gtr 5 (.tmp 49) (.const (.int .u8 57))), (some (48, false))⟩, ⟨(some 51), (.pick (.tmp 48) (.const (.bool true)) (.tmp 50)), (some (45, true))⟩, ⟨(some 52), (.pick (.tmp 45) (.tmp 51) (.const (.bool false))), (some (42, false))⟩, ⟨(some 53), (.pick (.tmp 42) (.const (.bool true)) (.tmp 52)), (some (39, true))⟩, ⟨(some 54), (.pick (.tmp 39) (.tmp 53) (.const (.bool false))), none⟩]
def r107_28 : List AOper := [⟨(some 2), (.mv (.const (.bool false))), none⟩]
def r107_29 : List AOper := [⟨(some 18), (.mv (.tmp 3)), none⟩, ⟨(some 19), (.bin .add 3 (.tmp 18) (.const (.int .i64 1))), none⟩, ⟨(some 3), (.mv (.tmp 19)), none⟩]
def r107_31 : List AOper := [⟨(some 2), (.mv (.const (.bool true))), none⟩]
def tr107 : List (Nat × Tidy) := [(0, ⟨[0], true, [], []⟩), (1, ⟨[0, 13], true, [], []⟩), (2, ⟨[2], true, [], []⟩), (3, ⟨[0, 3], true, [], []⟩), (4, ⟨[0, 3, 17], true, [], []⟩), (6, ⟨[0, 3, 4], true, [], []⟩), (7, ⟨[0, 3, 4, 5], true, [], []⟩), (8, ⟨[0, 3, 54], true, [], []⟩), (9, ⟨[2], true, [], []⟩), (5, ⟨[0, 3], true, [], []⟩), (10, ⟨[2], true, [], []⟩)]
def tl107 : List (Nat × Tidy) := [(4, ⟨[0, 3], true, [], []⟩)]
def rs107 : List AResV := [.tmp 2]
def p107_0_0 : PT St := pS [sl 0 (aV false [(cD dS)]), sl 3 (aV false [(cD (dI .i64))]), sl 4 (aV false [(cD (dI .u8))])] []
def u107_0_0 {β : Type} (g : St → β) : ByteArray → Int → Int → β := p107_0_0.unc g

def p107_0_1 : PT St := pS [sl 0 (aV false [(cD dS)]), sl 3 (aV false [(cD (dI .i64))]), sl 4 (aV false [(cD (dI .u8))]), sl 5 (aV false [(cD dB)])] []
def u107_0_1 {β : Type} (g : St → β) : ByteArray → Int → Int → Bool → β := p107_0_1.unc g

def p107_0_2 : PT St := pS [sl 0 (aV false [(cD dS)]), sl 3 (aV false [(cD (dI .i64))]), sl 54 (aV false [(cD dB)])] []
def u107_0_2 {β : Type} (g : St → β) : ByteArray → Int → Bool → β := p107_0_2.unc g

def p107_0_3 : PT St := pS [sl 0 (aV false [(cD dS)]), sl 3 (aV false [(cD (dI .i64))])] []
def u107_0_3 {β : Type} (g : St → β) : ByteArray → Int → β := p107_0_3.unc g

def p107_0_4 : PT St := pS [sl 2 (aV false [(cD dB)])] []
def u107_0_4 {β : Type} (g : St → β) : Bool → β := p107_0_4.unc g

def p107_0_5 : PT St := pS [sl 0 (aV false [(cD dS)]), sl 3 (aV false [(cD (dI .i64))]), sl 17 (aV false [(cD dB)])] []
def u107_0_5 {β : Type} (g : St → β) : ByteArray → Int → Bool → β := p107_0_5.unc g

def pr107_0_0 : PT (List RV) := pRs [pR false [rD dB]]
def ur107_0_0 {β : Type} (g : List RV → β) : Bool → β := pr107_0_0.unc g

def E107_0g  : EnvK := EnvK.of [] noSeq
noncomputable def E107_0 : EnvK := E107_0g 
theorem eo107_0 : E107_0.Ok Try.prog := EnvK.of_ok noSeq_ok trivial

noncomputable def c107_0_24g  : MCode := (.region r107_25 [] (some ⟨[0, 3, 54], true, [], []⟩))
noncomputable def c107_0_24 : MCode := c107_0_24g 
theorem g107_0_24 : c107_0_24.Good Try.prog E107_0 sh107 := trivial
--CODE 24 0
abbrev TJ107_0_1 : Type 1 := (α : Type) → Int → Int → Bool → (Bool → Option α) → Option α
def J107_0_1g  (α : Type) (x13 : Int) (x14 : Int) (x15 : Bool) (k1 : Bool → Option α) : Option α :=
  cK (!x15)
    (cK (x13 == 0)
      (k1 true)
      (cK (x14 != 45)
        (cK (decide (x14 < 48))
          (k1 true)
          (k1 (decide (57 < x14))))
        (k1 false)))
    (k1 false)
noncomputable def J107_0_1 (α : Type) (x13 : Int) (x14 : Int) (x15 : Bool) (k1 : Bool → Option α) : Option α := J107_0_1g  α x13 x14 x15 k1
def F107_0_1 (v : TJ107_0_1) (α : Type) (K : Exit → St → Option α) : ByteArray → Int → Int → Bool → Option α := fun x12 x13 x14 x15 => v α x13 x14 x15 (fun (y1 : Bool) => u107_0_2 (K .normal) x12 x13 y1) 
theorem m107_0_1g   (α : Type) (K : Exit → St → Option α) : F107_0_1 (J107_0_1g ) α K = p107_0_1.unc fun σ => runM Try.prog (E107_0g ) sh107 (c107_0_24g ) K σ := by kernel_rfl
theorem m107_0_1 : ∀ (α : Type) (K : Exit → St → Option α), F107_0_1 J107_0_1 α K = p107_0_1.unc fun σ => runM Try.prog E107_0 sh107 c107_0_24 K σ := m107_0_1g 

noncomputable def c107_0_22g  : MCode := (.region r107_23 [] (some ⟨[0, 3, 4, 5], true, [], []⟩))
noncomputable def c107_0_22 : MCode := c107_0_22g 
theorem g107_0_22 : c107_0_22.Good Try.prog E107_0 sh107 := trivial
--CODE 22 0
abbrev TJ107_0_0 : Type 1 := (α : Type) → Int → (Bool → Option α) → Option α
def J107_0_0g  (α : Type) (x8 : Int) (k1 : Bool → Option α) : Option α :=
  cK (decide (97 ≤ x8))
    (cK (decide (x8 ≤ 122))
      (k1 true)
      (cK (decide (65 ≤ x8))
        (k1 (decide (x8 ≤ 90)))
        (k1 false)))
    (cK (decide (65 ≤ x8))
      (k1 (decide (x8 ≤ 90)))
      (k1 false))
noncomputable def J107_0_0 (α : Type) (x8 : Int) (k1 : Bool → Option α) : Option α := J107_0_0g  α x8 k1
def F107_0_0 (v : TJ107_0_0) (α : Type) (K : Exit → St → Option α) : ByteArray → Int → Int → Option α := fun x6 x7 x8 => v α x8 (fun (y1 : Bool) => u107_0_1 (K .normal) x6 x7 x8 y1) 
theorem m107_0_0g   (α : Type) (K : Exit → St → Option α) : F107_0_0 (J107_0_0g ) α K = p107_0_0.unc fun σ => runM Try.prog (E107_0g ) sh107 (c107_0_22g ) K σ := by kernel_rfl
theorem m107_0_0 : ∀ (α : Type) (K : Exit → St → Option α), F107_0_0 J107_0_0 α K = p107_0_0.unc fun σ => runM Try.prog E107_0 sh107 c107_0_22 K σ := m107_0_0g 

noncomputable def c107_0_13g (vJ107_0_0 : TJ107_0_0) (vJ107_0_1 : TJ107_0_1) : MCode := (.seq (.seq (.region r107_16 [] (some ⟨[0, 3, 17], true, [], []⟩)) (.cond (.tmp 17) .skip (.exit 0))) (.seq (.block 1 (.seq (.region r107_21 [] (some ⟨[0, 3, 4], true, [], []⟩)) (.seq (.mark [⟨p107_0_0, F107_0_0 vJ107_0_0⟩] c107_0_22) (.seq (.mark [⟨p107_0_1, F107_0_1 vJ107_0_1⟩] c107_0_24) (.cond (.tmp 54) (.seq (.region r107_28 [] (some ⟨[2], true, [], []⟩)) .ret) .skip))))) (.region r107_29 [] (some ⟨[0, 3], true, [], []⟩))))
noncomputable def c107_0_13 : MCode := c107_0_13g J107_0_0 J107_0_1
theorem g107_0_13 : c107_0_13.Good Try.prog E107_0 sh107 := ⟨⟨trivial, ⟨trivial, trivial⟩⟩, ⟨⟨trivial, ⟨⟨g107_0_22, m107_0_0, trivial⟩, ⟨⟨g107_0_24, m107_0_1, trivial⟩, ⟨⟨trivial, trivial⟩, trivial⟩⟩⟩⟩, trivial⟩⟩
--CODE 13 0
def S107_0_2g (vJ107_0_0 : TJ107_0_0) (vJ107_0_1 : TJ107_0_1) (α : Type) (x2 : ByteArray) (x3 : Int) (kn : Int → Option α) (k1 : Option α) (k2 : Int → Bool → Option α) : Option α :=
  cK (decide (x3 < ((ByteArray.size x2 : Nat) : Int)))
    (sixK x2 x3
      (fun (x5 : UInt8) => vJ107_0_0 α ((UInt8.toNat x5 : Nat) : Int)
        (fun (x10 : Bool) => vJ107_0_1 α x3 ((UInt8.toNat x5 : Nat) : Int) x10
          (fun (x17 : Bool) => cK x17
            (k1)
            (kn (w64 (x3 + 1)))))))
    (k2 x3 (decide (x3 < ((ByteArray.size x2 : Nat) : Int))))
noncomputable def S107_0_2 (α : Type) (x2 : ByteArray) (x3 : Int) (kn : Int → Option α) (k1 : Option α) (k2 : Int → Bool → Option α) : Option α := S107_0_2g J107_0_0 J107_0_1 α x2 x3 kn k1 k2
noncomputable def R107_0_2 (α : Type) (x2 : ByteArray) (k1 : Option α) (k2 : Int → Bool → Option α) : Nat → Int → Option α
  | 0, _ => none
  | n + 1, x3 => S107_0_2 α x2 x3 (R107_0_2 α x2 k1 k2 n) k1 k2
noncomputable def L107_0_2 (α : Type) (x2 : ByteArray) (k1 : Option α) (k2 : Int → Bool → Option α) (x3 : Int) : Option α := R107_0_2 α x2 k1 k2 fuel x3
abbrev TL107_0_2 : Type 1 := (α : Type) → ByteArray → (Option α) → (Int → Bool → Option α) → Int → Option α
def F107_0_2 (v : TL107_0_2) (α : Type) (K : Exit → St → Option α) : ByteArray → Int → Option α := fun x2 x3 => v α x2 (u107_0_4 (K .ret) false) (fun (y1 : Int) (y2 : Bool) => u107_0_5 (K (.exit 0)) x2 y1 y2) x3
theorem r107_0_2g  (vJ107_0_0 : TJ107_0_0) (vJ107_0_1 : TJ107_0_1) (α : Type) (K : Exit → St → Option α) (Kn : St → Option α) (x2 : ByteArray) (x3 : Int) : u107_0_3 (fun σ => runM Try.prog (E107_0g ) sh107 (c107_0_13g vJ107_0_0 vJ107_0_1) (thenK (fun σ => tidyK td107_13 σ Kn) K) σ) x2 x3 = S107_0_2g vJ107_0_0 vJ107_0_1 α x2 x3 (fun x3 => u107_0_3 Kn x2 x3) (u107_0_4 (K .ret) false) (fun (y1 : Int) (y2 : Bool) => u107_0_5 (K (.exit 0)) x2 y1 y2) := by kernel_rfl
theorem r107_0_2 (α : Type) (K : Exit → St → Option α) (Kn : St → Option α) (x2 : ByteArray) (x3 : Int) : u107_0_3 (fun σ => runM Try.prog E107_0 sh107 c107_0_13 (thenK (fun σ => tidyK td107_13 σ Kn) K) σ) x2 x3 = S107_0_2 α x2 x3 (fun x3 => u107_0_3 Kn x2 x3) (u107_0_4 (K .ret) false) (fun (y1 : Int) (y2 : Bool) => u107_0_5 (K (.exit 0)) x2 y1 y2) := r107_0_2g J107_0_0 J107_0_1 α K Kn x2 x3
theorem t107_0_2 (α : Type) (K : Exit → St → Option α) : ∀ (n : Nat) (x2 : ByteArray) (x3 : Int), R107_0_2 α x2 (u107_0_4 (K .ret) false) (fun (y1 : Int) (y2 : Bool) => u107_0_5 (K (.exit 0)) x2 y1 y2) n x3 = u107_0_3 (loopT (runM Try.prog E107_0 sh107 c107_0_13) td107_13 K n) x2 x3 := by
  intro n
  induction n with
  | zero => intros; rfl
  | succ n ih => intro x2 x3; exact (congrArg (fun kn => S107_0_2 α x2 x3 kn (u107_0_4 (K .ret) false) (fun (y1 : Int) (y2 : Bool) => u107_0_5 (K (.exit 0)) x2 y1 y2)) (funext fun x3 => ih x2 x3)).trans (r107_0_2 α K (loopT (runM Try.prog E107_0 sh107 c107_0_13) td107_13 K n) x2 x3).symm
theorem m107_0_2 : ∀ (α : Type) (K : Exit → St → Option α), F107_0_2 L107_0_2 α K = p107_0_3.unc fun σ => loopT (runM Try.prog E107_0 sh107 c107_0_13) td107_13 K fuel σ := fun α K => funext fun x2 => funext fun x3 => t107_0_2 α K fuel x2 x3

/-- etalon/etalonbase.IsName -/
abbrev Tf107_0 : Type 1 := (α : Type) → ByteArray → (Bool → Option α) → Option α
def f107_0g (vL107_0_2 : TL107_0_2) (α : Type) (x1 : ByteArray) (k1 : Bool → Option α) : Option α :=
  cK (decide (((ByteArray.size x1 : Nat) : Int) < 1))
    (k1 false)
    (cK (decide (12 < ((ByteArray.size x1 : Nat) : Int)))
      (k1 false)
      (vL107_0_2 α x1
        (k1 false)
        (fun (x19 : Int) (x20 : Bool) => k1 true) 0))
noncomputable def f107_0 (α : Type) (x1 : ByteArray) (k1 : Bool → Option α) : Option α := f107_0g L107_0_2 α x1 k1
def pa107_0 : PT (List DV) := pA [pV false [dS]]
def Fn107_0 (v : Tf107_0) (α : Type) (k : List RV → Option α) : ByteArray → Option α := fun x1 => v α x1 (fun (y1 : Bool) => ur107_0_0 k y1)
noncomputable def cm107_0g (vL107_0_2 : TL107_0_2) : MCode := (.seq (.region r107_2 [] (some ⟨[0], true, [], []⟩)) (.seq (.seq (.region r107_5 [] (some ⟨[0, 13], true, [], []⟩)) (.cond (.tmp 13) (.seq (.region r107_8 [] (some ⟨[2], true, [], []⟩)) .ret) .skip)) (.seq (.seq (.region r107_11 [] (some ⟨[0, 3], true, [], []⟩)) (.block 0 (.loop td107_13 [⟨p107_0_3, F107_0_2 vL107_0_2⟩] c107_0_13))) (.seq (.region r107_31 [] (some ⟨[2], true, [], []⟩)) .ret))))
noncomputable def cm107_0 : MCode := cm107_0g L107_0_2
theorem gm107_0 : cm107_0.Good Try.prog E107_0 sh107 := ⟨trivial, ⟨⟨trivial, ⟨⟨trivial, trivial⟩, trivial⟩⟩, ⟨⟨trivial, ⟨g107_0_13, m107_0_2, trivial⟩⟩, ⟨trivial, trivial⟩⟩⟩⟩
theorem fm107_0g  (vL107_0_2 : TL107_0_2) (α : Type) (k : List RV → Option α) : Fn107_0 (f107_0g vL107_0_2) α k = pa107_0.unc fun ds => fnM Try.prog (E107_0g ) sh107 (cm107_0g vL107_0_2) rs107 k ds := by kernel_rfl
theorem fm107_0 : ∀ (α : Type) (k : List RV → Option α), Fn107_0 f107_0 α k = pa107_0.unc fun ds => fnM Try.prog E107_0 sh107 cm107_0 rs107 k ds := fm107_0g L107_0_2

theorem is107 : FnIs Try.prog 107 nt107 tr107 tl107 cm107_0.erase rs107 := ⟨Try.f107, Try.func107, rfl, by kernel_rfl, by kernel_rfl, by kernel_rfl⟩
theorem io107_0 : InstOk Try.prog 107 nt107 ⟨pa107_0, Fn107_0 f107_0⟩ := inst_ok eo107_0 followsTry is107 ⟨⟨sh107, cm107_0, by kernel_rfl, gm107_0, fm107_0⟩⟩

/-! ### F105 (etalon/grow.state).switched -/
abbrev nt105 : Nat := 9
def sh105 : List (Nat × List Sh) := []
def r105_2 : List AOper := [⟨(some 4), (.mv (.const (.int .i64 0))), none⟩]
def r105_4 : List AOper := [⟨(some 5), (.mv (.tmp 0)), none⟩, ⟨(some 6), (.mv (.tmp 1)), none⟩, ⟨(some 7), (.bin .shl 171 (.const (.int .i64 1)) (.tmp 6)), none⟩, ⟨(some 8), (.bin .xor 171 (.tmp 5) (.tmp 7)), none⟩, ⟨(some 4), (.mv (.tmp 8)), none⟩]
def tr105 : List (Nat × Tidy) := [(0, ⟨[0, 1], true, [], []⟩), (1, ⟨[4], true, [], []⟩)]
def tl105 : List (Nat × Tidy) := []
def rs105 : List AResV := [.tmp 4]
def pr105_0_0 : PT (List RV) := pRs [pR false [rD (dI .i64)]]
def ur105_0_0 {β : Type} (g : List RV → β) : Int → β := pr105_0_0.unc g

def E105_0g  : EnvK := EnvK.of [] noSeq
noncomputable def E105_0 : EnvK := E105_0g 
theorem eo105_0 : E105_0.Ok Try.prog := EnvK.of_ok noSeq_ok trivial

/-- (etalon/grow.state).switched -/
abbrev Tf105_0 : Type 1 := (α : Type) → Int → Int → (Int → Option α) → Option α
def f105_0g  (α : Type) (x1 : Int) (x2 : Int) (k1 : Int → Option α) : Option α :=
  gK (decide (0 ≤ x2)) (k1 (iXor .i64 x1 (w64 (1 * 2 ^ (min (Int.toNat x2) 64)))))
noncomputable def f105_0 (α : Type) (x1 : Int) (x2 : Int) (k1 : Int → Option α) : Option α := f105_0g  α x1 x2 k1
def pa105_0 : PT (List DV) := pA [pV false [(dI .i64)], pV false [(dI .i64)]]
def Fn105_0 (v : Tf105_0) (α : Type) (k : List RV → Option α) : Int → Int → Option α := fun x1 x2 => v α x1 x2 (fun (y1 : Int) => ur105_0_0 k y1)
noncomputable def cm105_0g  : MCode := (.seq (.region r105_2 [] (some ⟨[0, 1], true, [], []⟩)) (.seq (.region r105_4 [] (some ⟨[4], true, [], []⟩)) .ret))
noncomputable def cm105_0 : MCode := cm105_0g 
theorem gm105_0 : cm105_0.Good Try.prog E105_0 sh105 := ⟨trivial, ⟨trivial, trivial⟩⟩
theorem fm105_0g   (α : Type) (k : List RV → Option α) : Fn105_0 (f105_0g ) α k = pa105_0.unc fun ds => fnM Try.prog (E105_0g ) sh105 (cm105_0g ) rs105 k ds := by kernel_rfl
theorem fm105_0 : ∀ (α : Type) (k : List RV → Option α), Fn105_0 f105_0 α k = pa105_0.unc fun ds => fnM Try.prog E105_0 sh105 cm105_0 rs105 k ds := fm105_0g 

theorem is105 : FnIs Try.prog 105 nt105 tr105 tl105 cm105_0.erase rs105 := ⟨Try.f105, Try.func105, rfl, by kernel_rfl, by kernel_rfl, by kernel_rfl⟩
theorem io105_0 : InstOk Try.prog 105 nt105 ⟨pa105_0, Fn105_0 f105_0⟩ := inst_ok eo105_0 followsTry is105 ⟨⟨sh105, cm105_0, by kernel_rfl, gm105_0, fm105_0⟩⟩

/-! ### F129 (etalon/grow.state).on -/
abbrev nt129 : Nat := 10
def sh129 : List (Nat × List Sh) := []
def r129_2 : List AOper := [⟨(some 4), (.mv (.const (.bool false))), none⟩]
def r129_4 : List AOper := [⟨(some 5), (.mv (.tmp 0)), none⟩, ⟨(some 6), (.mv (.tmp 1)), none⟩, ⟨(some 7), (.bin .shr 171 (.tmp 5) (.tmp 6)), none⟩, ⟨(some 8), (.bin .and 171 (.tmp 7) (.const (.int .i64 1))), none⟩, ⟨(some 9), (.bin .eql 171 (.tmp 8) (.const (.int .i64 1))), none⟩, ⟨(some 4), (.mv (.tmp 9)), none⟩]
def tr129 : List (Nat × Tidy) := [(0, ⟨[0, 1], true, [], []⟩), (1, ⟨[4], true, [], []⟩)]
def tl129 : List (Nat × Tidy) := []
def rs129 : List AResV := [.tmp 4]
def pr129_0_0 : PT (List RV) := pRs [pR false [rD dB]]
def ur129_0_0 {β : Type} (g : List RV → β) : Bool → β := pr129_0_0.unc g

def E129_0g  : EnvK := EnvK.of [] noSeq
noncomputable def E129_0 : EnvK := E129_0g 
theorem eo129_0 : E129_0.Ok Try.prog := EnvK.of_ok noSeq_ok trivial

/-- (etalon/grow.state).on -/
abbrev Tf129_0 : Type 1 := (α : Type) → Int → Int → (Bool → Option α) → Option α
def f129_0g  (α : Type) (x1 : Int) (x2 : Int) (k1 : Bool → Option α) : Option α :=
  gK (decide (0 ≤ x2)) (k1 ((iAnd .i64 (Int.fdiv x1 (2 ^ (min (Int.toNat x2) 64))) 1) == 1))
noncomputable def f129_0 (α : Type) (x1 : Int) (x2 : Int) (k1 : Bool → Option α) : Option α := f129_0g  α x1 x2 k1
def pa129_0 : PT (List DV) := pA [pV false [(dI .i64)], pV false [(dI .i64)]]
def Fn129_0 (v : Tf129_0) (α : Type) (k : List RV → Option α) : Int → Int → Option α := fun x1 x2 => v α x1 x2 (fun (y1 : Bool) => ur129_0_0 k y1)
noncomputable def cm129_0g  : MCode := (.seq (.region r129_2 [] (some ⟨[0, 1], true, [], []⟩)) (.seq (.region r129_4 [] (some ⟨[4], true, [], []⟩)) .ret))
noncomputable def cm129_0 : MCode := cm129_0g 
theorem gm129_0 : cm129_0.Good Try.prog E129_0 sh129 := ⟨trivial, ⟨trivial, trivial⟩⟩
theorem fm129_0g   (α : Type) (k : List RV → Option α) : Fn129_0 (f129_0g ) α k = pa129_0.unc fun ds => fnM Try.prog (E129_0g ) sh129 (cm129_0g ) rs129 k ds := by kernel_rfl
theorem fm129_0 : ∀ (α : Type) (k : List RV → Option α), Fn129_0 f129_0 α k = pa129_0.unc fun ds => fnM Try.prog E129_0 sh129 cm129_0 rs129 k ds := fm129_0g 

theorem is129 : FnIs Try.prog 129 nt129 tr129 tl129 cm129_0.erase rs129 := ⟨Try.f129, Try.func129, rfl, by kernel_rfl, by kernel_rfl, by kernel_rfl⟩
theorem io129_0 : InstOk Try.prog 129 nt129 ⟨pa129_0, Fn129_0 f129_0⟩ := inst_ok eo129_0 followsTry is129 ⟨⟨sh129, cm129_0, by kernel_rfl, gm129_0, fm129_0⟩⟩

/-! ### F126 etalon/grow.numberOf -/
abbrev nt126 : Nat := 20
def sh126 : List (Nat × List Sh) := [(11, [.bool]), (12, [.bool])]
def r126_2 : List AOper := [⟨(some 2), (.mv (.const (.int .i64 0))), none⟩]
def r126_4 : List AOper := [⟨(some 3), (.mv (.const (.int .i64 0))), none⟩]
def r126_7 : List AOper := [⟨(some 6), (.mv (.tmp 0)), none⟩, ⟨(some 7), (.len (.tmp 6)), none⟩, ⟨(some 8), (.mv (.const (.int .i64 0))), none⟩]
def td126_9 : Option Tidy := (some ⟨[3, 6, 7, 8], true, [⟨false, 6, 0, 20006, 1⟩], []⟩)
def r126_11 : List AOper := [⟨(some 9), (.bin .lss 3 (.tmp 8) (.tmp 7)), none⟩]
def r126_17 : List AOper := [⟨(some 10), (.mv (.tmp 8)), none⟩, ⟨(some 11), (.iaddr 1 none (.tmp 6) (.tmp 8)), none⟩, ⟨(some 12), (.load false 1 (.tmp 11)), none⟩, ⟨(some 4), (.mv (.tmp 10)), none⟩, ⟨(some 5), (.mv (.tmp 12)), none⟩]
def r126_19 : List AOper := [⟨(some 13), (.mv (.tmp 5)), none⟩]
def r126_21 : List AOper := [⟨(some 14), (.mv (.tmp 3)), none⟩, ⟨(some 15), (.mv (.tmp 4)), none⟩, ⟨(some 16), (.bin .shl 171 (.const (.int .i64 1)) (.tmp 15)), none⟩, ⟨(some 17), (.bin .or 171 (.tmp 14) (.tmp 16)), none⟩, ⟨(some 3), (.mv (.tmp 17)), none⟩]
def r126_22 : List AOper := [⟨(some 18), (.bin .add 3 (.tmp 8) (.const (.int .i64 1))), none⟩, ⟨(some 8), (.mv (.tmp 18)), none⟩]
def r126_24 : List AOper := [⟨(some 19), (.mv (.tmp 3)), none⟩, ⟨(some 2), (.mv (.tmp 19)), none⟩]
def tr126 : List (Nat × Tidy) := [(0, ⟨[0], true, [], []⟩), (1, ⟨[0, 3], true, [], []⟩), (2, ⟨[3, 6, 7, 8], true, [], []⟩), (3, ⟨[3, 6, 7, 8, 9], true, [], []⟩), (4, ⟨[3, 4, 5, 6, 7, 8], true, [], []⟩), (5, ⟨[3, 4, 6, 7, 8, 13], true, [], []⟩), (6, ⟨[3, 6, 7, 8], true, [], []⟩), (7, ⟨[3, 6, 7, 8], true, [], []⟩), (8, ⟨[2], true, [], []⟩)]
def tl126 : List (Nat × Tidy) := [(3, ⟨[3, 6, 7, 8], true, [⟨false, 6, 0, 20006, 1⟩], []⟩)]
def rs126 : List AResV := [.tmp 2]
def p126_0_0 : PT St := pS [sl 3 (aV false [(cD (dI .i64))]), sl 6 (aV false [(cD dL)]), sl 7 (aV false [(cD (dI .i64))]), sl 8 (aV false [(cD (dI .i64))])] []
def u126_0_0 {β : Type} (g : St → β) : Int → Rows → Int → Int → β := p126_0_0.unc g

def p126_0_1 : PT St := pS [sl 3 (aV false [(cD (dI .i64))]), sl 6 (aV false [(cD dL)]), sl 7 (aV false [(cD (dI .i64))]), sl 8 (aV false [(cD (dI .i64))]), sl 9 (aV false [(cD dB)])] []
def u126_0_1 {β : Type} (g : St → β) : Int → Rows → Int → Int → Bool → β := p126_0_1.unc g

def pr126_0_0 : PT (List RV) := pRs [pR false [rD (dI .i64)]]
def ur126_0_0 {β : Type} (g : List RV → β) : Int → β := pr126_0_0.unc g

def E126_0g  : EnvK := EnvK.of [] noSeq
noncomputable def E126_0 : EnvK := E126_0g 
theorem eo126_0 : E126_0.Ok Try.prog := EnvK.of_ok noSeq_ok trivial

noncomputable def c126_0_9g  : MCode := (.seq (.region r126_11 [] (some ⟨[3, 6, 7, 8, 9], true, [], []⟩)) (.seq (.cond (.tmp 9) .skip (.exit 0)) (.seq (.block 1 (.seq (.region r126_17 [] (some ⟨[3, 4, 5, 6, 7, 8], true, [], []⟩)) (.seq (.region r126_19 [] (some ⟨[3, 4, 6, 7, 8, 13], true, [], []⟩)) (.cond (.tmp 13) (.region r126_21 [] (some ⟨[3, 6, 7, 8], true, [], []⟩)) .skip)))) (.region r126_22 [] (some ⟨[3, 6, 7, 8], true, [], []⟩)))))
noncomputable def c126_0_9 : MCode := c126_0_9g 
theorem g126_0_9 : c126_0_9.Good Try.prog E126_0 sh126 := ⟨trivial, ⟨⟨trivial, trivial⟩, ⟨⟨trivial, ⟨trivial, ⟨trivial, trivial⟩⟩⟩, trivial⟩⟩⟩
--CODE 9 0
def S126_0_0g  (α : Type) (x3 : Rows) (x4 : Int) (x2 : Int) (x5 : Int) (kn : Int → Int → Option α) (k1 : Int → Int → Bool → Option α) : Option α :=
  cK (decide (x5 < x4))
    (rowK x3 x5 [.bool]
      (fun (x7 : Bool) => cK x7
        (gK (decide (0 ≤ x5)) (kn (iOr .i64 x2 (w64 (1 * 2 ^ (min (Int.toNat x5) 64)))) (w64 (x5 + 1))))
        (kn x2 (w64 (x5 + 1)))))
    (k1 x2 x5 (decide (x5 < x4)))
noncomputable def S126_0_0 (α : Type) (x3 : Rows) (x4 : Int) (x2 : Int) (x5 : Int) (kn : Int → Int → Option α) (k1 : Int → Int → Bool → Option α) : Option α := S126_0_0g  α x3 x4 x2 x5 kn k1
noncomputable def R126_0_0 (α : Type) (x3 : Rows) (x4 : Int) (k1 : Int → Int → Bool → Option α) : Nat → Int → Int → Option α
  | 0, _, _ => none
  | n + 1, x2, x5 => S126_0_0 α x3 x4 x2 x5 (R126_0_0 α x3 x4 k1 n) k1
noncomputable def L126_0_0 (α : Type) (x3 : Rows) (x4 : Int) (k1 : Int → Int → Bool → Option α) (x2 : Int) (x5 : Int) : Option α := R126_0_0 α x3 x4 k1 fuel x2 x5
abbrev TL126_0_0 : Type 1 := (α : Type) → Rows → Int → (Int → Int → Bool → Option α) → Int → Int → Option α
def F126_0_0 (v : TL126_0_0) (α : Type) (K : Exit → St → Option α) : Int → Rows → Int → Int → Option α := fun x2 x3 x4 x5 => v α x3 x4 (fun (y1 : Int) (y2 : Int) (y3 : Bool) => u126_0_1 (K (.exit 0)) y1 x3 x4 y2 y3) x2 x5
theorem r126_0_0g   (α : Type) (K : Exit → St → Option α) (Kn : St → Option α) (x2 : Int) (x3 : Rows) (x4 : Int) (x5 : Int) : u126_0_0 (fun σ => runM Try.prog (E126_0g ) sh126 (c126_0_9g ) (thenK (fun σ => tidyK td126_9 σ Kn) K) σ) x2 x3 x4 x5 = S126_0_0g  α x3 x4 x2 x5 (fun x2 x5 => u126_0_0 Kn x2 x3 x4 x5) (fun (y1 : Int) (y2 : Int) (y3 : Bool) => u126_0_1 (K (.exit 0)) y1 x3 x4 y2 y3) := by kernel_rfl
theorem r126_0_0 (α : Type) (K : Exit → St → Option α) (Kn : St → Option α) (x2 : Int) (x3 : Rows) (x4 : Int) (x5 : Int) : u126_0_0 (fun σ => runM Try.prog E126_0 sh126 c126_0_9 (thenK (fun σ => tidyK td126_9 σ Kn) K) σ) x2 x3 x4 x5 = S126_0_0 α x3 x4 x2 x5 (fun x2 x5 => u126_0_0 Kn x2 x3 x4 x5) (fun (y1 : Int) (y2 : Int) (y3 : Bool) => u126_0_1 (K (.exit 0)) y1 x3 x4 y2 y3) := r126_0_0g  α K Kn x2 x3 x4 x5
theorem t126_0_0 (α : Type) (K : Exit → St → Option α) : ∀ (n : Nat) (x2 : Int) (x3 : Rows) (x4 : Int) (x5 : Int), R126_0_0 α x3 x4 (fun (y1 : Int) (y2 : Int) (y3 : Bool) => u126_0_1 (K (.exit 0)) y1 x3 x4 y2 y3) n x2 x5 = u126_0_0 (loopT (runM Try.prog E126_0 sh126 c126_0_9) td126_9 K n) x2 x3 x4 x5 := by
  intro n
  induction n with
  | zero => intros; rfl
  | succ n ih => intro x2 x3 x4 x5; exact (congrArg (fun kn => S126_0_0 α x3 x4 x2 x5 kn (fun (y1 : Int) (y2 : Int) (y3 : Bool) => u126_0_1 (K (.exit 0)) y1 x3 x4 y2 y3)) (funext fun x2 => funext fun x5 => ih x2 x3 x4 x5)).trans (r126_0_0 α K (loopT (runM Try.prog E126_0 sh126 c126_0_9) td126_9 K n) x2 x3 x4 x5).symm
theorem m126_0_0 : ∀ (α : Type) (K : Exit → St → Option α), F126_0_0 L126_0_0 α K = p126_0_0.unc fun σ => loopT (runM Try.prog E126_0 sh126 c126_0_9) td126_9 K fuel σ := fun α K => funext fun x2 => funext fun x3 => funext fun x4 => funext fun x5 => t126_0_0 α K fuel x2 x3 x4 x5

/-- etalon/grow.numberOf -/
abbrev Tf126_0 : Type 1 := (α : Type) → Rows → (Int → Option α) → Option α
def f126_0g (vL126_0_0 : TL126_0_0) (α : Type) (x1 : Rows) (k1 : Int → Option α) : Option α :=
  vL126_0_0 α x1 ((List.length x1 : Nat) : Int)
    (fun (x8 : Int) (x9 : Int) (x10 : Bool) => k1 x8) 0 0
noncomputable def f126_0 (α : Type) (x1 : Rows) (k1 : Int → Option α) : Option α := f126_0g L126_0_0 α x1 k1
def pa126_0 : PT (List DV) := pA [pV false [dL]]
def Fn126_0 (v : Tf126_0) (α : Type) (k : List RV → Option α) : Rows → Option α := fun x1 => v α x1 (fun (y1 : Int) => ur126_0_0 k y1)
noncomputable def cm126_0g (vL126_0_0 : TL126_0_0) : MCode := (.seq (.region r126_2 [] (some ⟨[0], true, [], []⟩)) (.seq (.region r126_4 [] (some ⟨[0, 3], true, [], []⟩)) (.seq (.seq (.region r126_7 [] (some ⟨[3, 6, 7, 8], true, [], []⟩)) (.block 0 (.loop td126_9 [⟨p126_0_0, F126_0_0 vL126_0_0⟩] c126_0_9))) (.seq (.region r126_24 [] (some ⟨[2], true, [], []⟩)) .ret))))
noncomputable def cm126_0 : MCode := cm126_0g L126_0_0
theorem gm126_0 : cm126_0.Good Try.prog E126_0 sh126 := ⟨trivial, ⟨trivial, ⟨⟨trivial, ⟨g126_0_9, m126_0_0, trivial⟩⟩, ⟨trivial, trivial⟩⟩⟩⟩
theorem fm126_0g  (vL126_0_0 : TL126_0_0) (α : Type) (k : List RV → Option α) : Fn126_0 (f126_0g vL126_0_0) α k = pa126_0.unc fun ds => fnM Try.prog (E126_0g ) sh126 (cm126_0g vL126_0_0) rs126 k ds := by kernel_rfl
theorem fm126_0 : ∀ (α : Type) (k : List RV → Option α), Fn126_0 f126_0 α k = pa126_0.unc fun ds => fnM Try.prog E126_0 sh126 cm126_0 rs126 k ds := fm126_0g L126_0_0

theorem is126 : FnIs Try.prog 126 nt126 tr126 tl126 cm126_0.erase rs126 := ⟨Try.f126, Try.func126, rfl, by kernel_rfl, by kernel_rfl, by kernel_rfl⟩
theorem io126_0 : InstOk Try.prog 126 nt126 ⟨pa126_0, Fn126_0 f126_0⟩ := inst_ok eo126_0 followsTry is126 ⟨⟨sh126, cm126_0, by kernel_rfl, gm126_0, fm126_0⟩⟩

/-! ### F48 etalon/etalonref08.CopyState -/
abbrev nt48 : Nat := 6
def sh48 : List (Nat × List Sh) := []
def r48_2 : List AOper := [⟨(some 2), (.mv (.const (.slice none 0 0))), none⟩]
def r48_4 : List AOper := [⟨(some 3), (.bslice 1 0 [(.v (.bool false))] []), none⟩, ⟨(some 4), (.mv (.tmp 0)), none⟩, ⟨(some 5), (.append 1 1 (.tmp 3) (.tmp 4)), none⟩, ⟨(some 2), (.mv (.tmp 5)), none⟩]
def tr48 : List (Nat × Tidy) := [(0, ⟨[0], true, [], []⟩), (1, ⟨[2], true, [⟨false, 2, 0, 20002, 1⟩], []⟩)]
def tl48 : List (Nat × Tidy) := []
def rs48 : List AResV := [.tmp 2]
def pr48_0_0 : PT (List RV) := pRs [pR false [rO 1]]
def ur48_0_0 {β : Type} (g : List RV → β) : Rows → β := pr48_0_0.unc g

def E48_0g  : EnvK := EnvK.of [] noSeq
noncomputable def E48_0 : EnvK := E48_0g 
theorem eo48_0 : E48_0.Ok Try.prog := EnvK.of_ok noSeq_ok trivial

/-- etalon/etalonref08.CopyState -/
abbrev Tf48_0 : Type 1 := (α : Type) → Rows → (Rows → Option α) → Option α
def f48_0g  (α : Type) (x1 : Rows) (k1 : Rows → Option α) : Option α :=
  gK (apOk 1 1 ([] : Rows) x1) (k1 (([] : Rows) ++ x1))
noncomputable def f48_0 (α : Type) (x1 : Rows) (k1 : Rows → Option α) : Option α := f48_0g  α x1 k1
def pa48_0 : PT (List DV) := pA [pV false [dL]]
def Fn48_0 (v : Tf48_0) (α : Type) (k : List RV → Option α) : Rows → Option α := fun x1 => v α x1 (fun (y1 : Rows) => ur48_0_0 k y1)
noncomputable def cm48_0g  : MCode := (.seq (.region r48_2 [] (some ⟨[0], true, [], []⟩)) (.seq (.region r48_4 [] (some ⟨[2], true, [⟨false, 2, 0, 20002, 1⟩], []⟩)) .ret))
noncomputable def cm48_0 : MCode := cm48_0g 
theorem gm48_0 : cm48_0.Good Try.prog E48_0 sh48 := ⟨trivial, ⟨trivial, trivial⟩⟩
theorem fm48_0g   (α : Type) (k : List RV → Option α) : Fn48_0 (f48_0g ) α k = pa48_0.unc fun ds => fnM Try.prog (E48_0g ) sh48 (cm48_0g ) rs48 k ds := by kernel_rfl
theorem fm48_0 : ∀ (α : Type) (k : List RV → Option α), Fn48_0 f48_0 α k = pa48_0.unc fun ds => fnM Try.prog E48_0 sh48 cm48_0 rs48 k ds := fm48_0g 

theorem is48 : FnIs Try.prog 48 nt48 tr48 tl48 cm48_0.erase rs48 := ⟨Try.f48, Try.func48, rfl, by kernel_rfl, by kernel_rfl, by kernel_rfl⟩
theorem io48_0 : InstOk Try.prog 48 nt48 ⟨pa48_0, Fn48_0 f48_0⟩ := inst_ok eo48_0 followsTry is48 ⟨⟨sh48, cm48_0, by kernel_rfl, gm48_0, fm48_0⟩⟩

/-! ### F78 etalon/grow.within -/
abbrev nt78 : Nat := 15
def sh78 : List (Nat × List Sh) := []
def r78_2 : List AOper := [⟨(some 6), (.mv (.const (.bool false))), none⟩]
def r78_4 : List AOper := [⟨(some 7), (.mv (.tmp 1)), none⟩, ⟨(some 8), (.mv (.tmp 0)), none⟩, ⟨(some 9), (.bin .leq 3 (.tmp 7) (.tmp 8)), none⟩, ⟨(some 10), (.mv (.tmp 9)), none⟩, ⟨(some 11), (.mv (.tmp 0)), (some (10, true))⟩, ⟨(some 12), (.mv (.tmp 2)), (some (10, true))⟩, ⟨(some 13), (.bin .leq 3 (.tmp 11) (.tmp 12)), (some (10, true))⟩, ⟨(some 14), (.pick (.tmp 10) (.tmp 13) (.const (.bool false))), none⟩, ⟨(some 6), (.mv (.tmp 14)), none⟩]
def tr78 : List (Nat × Tidy) := [(0, ⟨[0, 1, 2], true, [], []⟩), (1, ⟨[6], true, [], []⟩)]
def tl78 : List (Nat × Tidy) := []
def rs78 : List AResV := [.tmp 6]
def pr78_0_0 : PT (List RV) := pRs [pR false [rD dB]]
def ur78_0_0 {β : Type} (g : List RV → β) : Bool → β := pr78_0_0.unc g

def E78_0g  : EnvK := EnvK.of [] noSeq
noncomputable def E78_0 : EnvK := E78_0g 
theorem eo78_0 : E78_0.Ok Try.prog := EnvK.of_ok noSeq_ok trivial

/-- etalon/grow.within -/
abbrev Tf78_0 : Type 1 := (α : Type) → Int → Int → Int → (Bool → Option α) → Option α
def f78_0g  (α : Type) (x1 : Int) (x2 : Int) (x3 : Int) (k1 : Bool → Option α) : Option α :=
  cK (decide (x2 ≤ x1))
    (k1 (decide (x1 ≤ x3)))
    (k1 false)
noncomputable def f78_0 (α : Type) (x1 : Int) (x2 : Int) (x3 : Int) (k1 : Bool → Option α) : Option α := f78_0g  α x1 x2 x3 k1
def pa78_0 : PT (List DV) := pA [pV false [(dI .i64)], pV false [(dI .i64)], pV false [(dI .i64)]]
def Fn78_0 (v : Tf78_0) (α : Type) (k : List RV → Option α) : Int → Int → Int → Option α := fun x1 x2 x3 => v α x1 x2 x3 (fun (y1 : Bool) => ur78_0_0 k y1)
noncomputable def cm78_0g  : MCode := (.seq (.region r78_2 [] (some ⟨[0, 1, 2], true, [], []⟩)) (.seq (.region r78_4 [] (some ⟨[6], true, [], []⟩)) .ret))
noncomputable def cm78_0 : MCode := cm78_0g 
theorem gm78_0 : cm78_0.Good Try.prog E78_0 sh78 := ⟨trivial, ⟨trivial, trivial⟩⟩
theorem fm78_0g   (α : Type) (k : List RV → Option α) : Fn78_0 (f78_0g ) α k = pa78_0.unc fun ds => fnM Try.prog (E78_0g ) sh78 (cm78_0g ) rs78 k ds := by kernel_rfl
theorem fm78_0 : ∀ (α : Type) (k : List RV → Option α), Fn78_0 f78_0 α k = pa78_0.unc fun ds => fnM Try.prog E78_0 sh78 cm78_0 rs78 k ds := fm78_0g 

theorem is78 : FnIs Try.prog 78 nt78 tr78 tl78 cm78_0.erase rs78 := ⟨Try.f78, Try.func78, rfl, by kernel_rfl, by kernel_rfl, by kernel_rfl⟩
theorem io78_0 : InstOk Try.prog 78 nt78 ⟨pa78_0, Fn78_0 f78_0⟩ := inst_ok eo78_0 followsTry is78 ⟨⟨sh78, cm78_0, by kernel_rfl, gm78_0, fm78_0⟩⟩

/-! ### F125 slices.Index[[]string,string] -/
abbrev nt125 : Nat := 19
def sh125 : List (Nat × List Sh) := [(14, [.str]), (15, [.str])]
def r125_2 : List AOper := [⟨(some 4), (.mv (.const (.int .i64 0))), none⟩]
def r125_5 : List AOper := [⟨(some 6), (.mv (.tmp 0)), none⟩, ⟨(some 7), (.len (.tmp 6)), none⟩, ⟨(some 8), (.mv (.const (.int .i64 0))), none⟩]
def td125_7 : Option Tidy := (some ⟨[0, 1, 7, 8], true, [], []⟩)
def r125_9 : List AOper := [⟨(some 9), (.bin .lss 3 (.tmp 8) (.tmp 7)), none⟩]
def r125_15 : List AOper := [⟨(some 10), (.mv (.tmp 8)), none⟩, ⟨(some 5), (.mv (.tmp 10)), none⟩]
def r125_17 : List AOper := [⟨(some 11), (.mv (.tmp 1)), none⟩, ⟨(some 12), (.mv (.tmp 0)), none⟩, ⟨(some 13), (.mv (.tmp 5)), none⟩, ⟨(some 14), (.iaddr 1 none (.tmp 12) (.tmp 13)), none⟩, ⟨(some 15), (.load false 1 (.tmp 14)), none⟩, ⟨(some 16), (.bin .eql 9 (.tmp 11) (.tmp 15)), none⟩]
def r125_20 : List AOper := [⟨(some 17), (.mv (.tmp 5)), none⟩, ⟨(some 4), (.mv (.tmp 17)), none⟩]
def r125_21 : List AOper := [⟨(some 18), (.bin .add 3 (.tmp 8) (.const (.int .i64 1))), none⟩, ⟨(some 8), (.mv (.tmp 18)), none⟩]
def r125_23 : List AOper := [⟨(some 4), (.mv (.const (.int .i64 (-1)))), none⟩]
def tr125 : List (Nat × Tidy) := [(0, ⟨[0, 1], true, [], []⟩), (1, ⟨[0, 1, 7, 8], true, [], []⟩), (2, ⟨[0, 1, 7, 8, 9], true, [], []⟩), (3, ⟨[0, 1, 5, 7, 8], true, [], []⟩), (4, ⟨[0, 1, 5, 7, 8, 16], true, [], []⟩), (5, ⟨[4], true, [], []⟩), (6, ⟨[0, 1, 7, 8], true, [], []⟩), (7, ⟨[4], true, [], []⟩)]
def tl125 : List (Nat × Tidy) := [(2, ⟨[0, 1, 7, 8], true, [], []⟩)]
def rs125 : List AResV := [.tmp 4]
def p125_0_0 : PT St := pS [sl 0 (aV false [(cD dL)]), sl 1 (aV false [(cD dS)]), sl 7 (aV false [(cD (dI .i64))]), sl 8 (aV false [(cD (dI .i64))])] []
def u125_0_0 {β : Type} (g : St → β) : Rows → ByteArray → Int → Int → β := p125_0_0.unc g

def p125_0_1 : PT St := pS [sl 4 (aV false [(cD (dI .i64))])] []
def u125_0_1 {β : Type} (g : St → β) : Int → β := p125_0_1.unc g

def p125_0_2 : PT St := pS [sl 0 (aV false [(cD dL)]), sl 1 (aV false [(cD dS)]), sl 7 (aV false [(cD (dI .i64))]), sl 8 (aV false [(cD (dI .i64))]), sl 9 (aV false [(cD dB)])] []
def u125_0_2 {β : Type} (g : St → β) : Rows → ByteArray → Int → Int → Bool → β := p125_0_2.unc g

def pr125_0_0 : PT (List RV) := pRs [pR false [rD (dI .i64)]]
def ur125_0_0 {β : Type} (g : List RV → β) : Int → β := pr125_0_0.unc g

def E125_0g  : EnvK := EnvK.of [] noSeq
noncomputable def E125_0 : EnvK := E125_0g 
theorem eo125_0 : E125_0.Ok Try.prog := EnvK.of_ok noSeq_ok trivial

noncomputable def c125_0_7g  : MCode := (.seq (.region r125_9 [] (some ⟨[0, 1, 7, 8, 9], true, [], []⟩)) (.seq (.cond (.tmp 9) .skip (.exit 0)) (.seq (.block 1 (.seq (.region r125_15 [] (some ⟨[0, 1, 5, 7, 8], true, [], []⟩)) (.seq (.region r125_17 [] (some ⟨[0, 1, 5, 7, 8, 16], true, [], []⟩)) (.cond (.tmp 16) (.seq (.region r125_20 [] (some ⟨[4], true, [], []⟩)) .ret) .skip)))) (.region r125_21 [] (some ⟨[0, 1, 7, 8], true, [], []⟩)))))
noncomputable def c125_0_7 : MCode := c125_0_7g 
theorem g125_0_7 : c125_0_7.Good Try.prog E125_0 sh125 := ⟨trivial, ⟨⟨trivial, trivial⟩, ⟨⟨trivial, ⟨trivial, ⟨⟨trivial, trivial⟩, trivial⟩⟩⟩, trivial⟩⟩⟩
--CODE 7 0
def S125_0_0g  (α : Type) (x3 : Rows) (x4 : ByteArray) (x5 : Int) (x6 : Int) (kn : Int → Option α) (k1 : Int → Option α) (k2 : Int → Bool → Option α) : Option α :=
  cK (decide (x6 < x5))
    (rowK x3 x6 [.str]
      (fun (x8 : ByteArray) => cK (x4.toList == x8.toList)
        (k1 x6)
        (kn (w64 (x6 + 1)))))
    (k2 x6 (decide (x6 < x5)))
noncomputable def S125_0_0 (α : Type) (x3 : Rows) (x4 : ByteArray) (x5 : Int) (x6 : Int) (kn : Int → Option α) (k1 : Int → Option α) (k2 : Int → Bool → Option α) : Option α := S125_0_0g  α x3 x4 x5 x6 kn k1 k2
noncomputable def R125_0_0 (α : Type) (x3 : Rows) (x4 : ByteArray) (x5 : Int) (k1 : Int → Option α) (k2 : Int → Bool → Option α) : Nat → Int → Option α
  | 0, _ => none
  | n + 1, x6 => S125_0_0 α x3 x4 x5 x6 (R125_0_0 α x3 x4 x5 k1 k2 n) k1 k2
noncomputable def L125_0_0 (α : Type) (x3 : Rows) (x4 : ByteArray) (x5 : Int) (k1 : Int → Option α) (k2 : Int → Bool → Option α) (x6 : Int) : Option α := R125_0_0 α x3 x4 x5 k1 k2 fuel x6
abbrev TL125_0_0 : Type 1 := (α : Type) → Rows → ByteArray → Int → (Int → Option α) → (Int → Bool → Option α) → Int → Option α
def F125_0_0 (v : TL125_0_0) (α : Type) (K : Exit → St → Option α) : Rows → ByteArray → Int → Int → Option α := fun x3 x4 x5 x6 => v α x3 x4 x5 (fun (y1 : Int) => u125_0_1 (K .ret) y1) (fun (y1 : Int) (y2 : Bool) => u125_0_2 (K (.exit 0)) x3 x4 x5 y1 y2) x6
theorem r125_0_0g   (α : Type) (K : Exit → St → Option α) (Kn : St → Option α) (x3 : Rows) (x4 : ByteArray) (x5 : Int) (x6 : Int) : u125_0_0 (fun σ => runM Try.prog (E125_0g ) sh125 (c125_0_7g ) (thenK (fun σ => tidyK td125_7 σ Kn) K) σ) x3 x4 x5 x6 = S125_0_0g  α x3 x4 x5 x6 (fun x6 => u125_0_0 Kn x3 x4 x5 x6) (fun (y1 : Int) => u125_0_1 (K .ret) y1) (fun (y1 : Int) (y2 : Bool) => u125_0_2 (K (.exit 0)) x3 x4 x5 y1 y2) := by kernel_rfl
theorem r125_0_0 (α : Type) (K : Exit → St → Option α) (Kn : St → Option α) (x3 : Rows) (x4 : ByteArray) (x5 : Int) (x6 : Int) : u125_0_0 (fun σ => runM Try.prog E125_0 sh125 c125_0_7 (thenK (fun σ => tidyK td125_7 σ Kn) K) σ) x3 x4 x5 x6 = S125_0_0 α x3 x4 x5 x6 (fun x6 => u125_0_0 Kn x3 x4 x5 x6) (fun (y1 : Int) => u125_0_1 (K .ret) y1) (fun (y1 : Int) (y2 : Bool) => u125_0_2 (K (.exit 0)) x3 x4 x5 y1 y2) := r125_0_0g  α K Kn x3 x4 x5 x6
theorem t125_0_0 (α : Type) (K : Exit → St → Option α) : ∀ (n : Nat) (x3 : Rows) (x4 : ByteArray) (x5 : Int) (x6 : Int), R125_0_0 α x3 x4 x5 (fun (y1 : Int) => u125_0_1 (K .ret) y1) (fun (y1 : Int) (y2 : Bool) => u125_0_2 (K (.exit 0)) x3 x4 x5 y1 y2) n x6 = u125_0_0 (loopT (runM Try.prog E125_0 sh125 c125_0_7) td125_7 K n) x3 x4 x5 x6 := by
  intro n
  induction n with
  | zero => intros; rfl
  | succ n ih => intro x3 x4 x5 x6; exact (congrArg (fun kn => S125_0_0 α x3 x4 x5 x6 kn (fun (y1 : Int) => u125_0_1 (K .ret) y1) (fun (y1 : Int) (y2 : Bool) => u125_0_2 (K (.exit 0)) x3 x4 x5 y1 y2)) (funext fun x6 => ih x3 x4 x5 x6)).trans (r125_0_0 α K (loopT (runM Try.prog E125_0 sh125 c125_0_7) td125_7 K n) x3 x4 x5 x6).symm
theorem m125_0_0 : ∀ (α : Type) (K : Exit → St → Option α), F125_0_0 L125_0_0 α K = p125_0_0.unc fun σ => loopT (runM Try.prog E125_0 sh125 c125_0_7) td125_7 K fuel σ := fun α K => funext fun x3 => funext fun x4 => funext fun x5 => funext fun x6 => t125_0_0 α K fuel x3 x4 x5 x6

/-- slices.Index[[]string,string] -/
abbrev Tf125_0 : Type 1 := (α : Type) → Rows → ByteArray → (Int → Option α) → Option α
def f125_0g (vL125_0_0 : TL125_0_0) (α : Type) (x1 : Rows) (x2 : ByteArray) (k1 : Int → Option α) : Option α :=
  vL125_0_0 α x1 x2 ((List.length x1 : Nat) : Int)
    (fun (x9 : Int) => k1 x9)
    (fun (x10 : Int) (x11 : Bool) => k1 (-1)) 0
noncomputable def f125_0 (α : Type) (x1 : Rows) (x2 : ByteArray) (k1 : Int → Option α) : Option α := f125_0g L125_0_0 α x1 x2 k1
def pa125_0 : PT (List DV) := pA [pV false [dL], pV false [dS]]
def Fn125_0 (v : Tf125_0) (α : Type) (k : List RV → Option α) : Rows → ByteArray → Option α := fun x1 x2 => v α x1 x2 (fun (y1 : Int) => ur125_0_0 k y1)
noncomputable def cm125_0g (vL125_0_0 : TL125_0_0) : MCode := (.seq (.region r125_2 [] (some ⟨[0, 1], true, [], []⟩)) (.seq (.seq (.region r125_5 [] (some ⟨[0, 1, 7, 8], true, [], []⟩)) (.block 0 (.loop td125_7 [⟨p125_0_0, F125_0_0 vL125_0_0⟩] c125_0_7))) (.seq (.region r125_23 [] (some ⟨[4], true, [], []⟩)) .ret)))
noncomputable def cm125_0 : MCode := cm125_0g L125_0_0
theorem gm125_0 : cm125_0.Good Try.prog E125_0 sh125 := ⟨trivial, ⟨⟨trivial, ⟨g125_0_7, m125_0_0, trivial⟩⟩, ⟨trivial, trivial⟩⟩⟩
theorem fm125_0g  (vL125_0_0 : TL125_0_0) (α : Type) (k : List RV → Option α) : Fn125_0 (f125_0g vL125_0_0) α k = pa125_0.unc fun ds => fnM Try.prog (E125_0g ) sh125 (cm125_0g vL125_0_0) rs125 k ds := by kernel_rfl
theorem fm125_0 : ∀ (α : Type) (k : List RV → Option α), Fn125_0 f125_0 α k = pa125_0.unc fun ds => fnM Try.prog E125_0 sh125 cm125_0 rs125 k ds := fm125_0g L125_0_0

theorem is125 : FnIs Try.prog 125 nt125 tr125 tl125 cm125_0.erase rs125 := ⟨Try.f125, Try.func125, rfl, by kernel_rfl, by kernel_rfl, by kernel_rfl⟩
theorem io125_0 : InstOk Try.prog 125 nt125 ⟨pa125_0, Fn125_0 f125_0⟩ := inst_ok eo125_0 followsTry is125 ⟨⟨sh125, cm125_0, by kernel_rfl, gm125_0, fm125_0⟩⟩

/-! ### F100 etalon/grow.isName -/
abbrev nt100 : Nat := 54
def sh100 : List (Nat × List Sh) := [(12, [.int .u8]), (13, [.int .u8])]
def r100_2 : List AOper := [⟨(some 2), (.mv (.const (.bool false))), none⟩]
def r100_5 : List AOper := [⟨(some 6), (.mv (.tmp 0)), none⟩, ⟨(some 7), (.bytes (.tmp 6)), none⟩, ⟨(some 8), (.len (.tmp 7)), none⟩, ⟨(some 9), (.mv (.const (.int .i64 0))), none⟩]
def td100_7 : Option Tidy := (some ⟨[0, 7, 8, 9], true, [⟨false, 7, 0, 20007, 1⟩], []⟩)
def r100_9 : List AOper := [⟨(some 10), (.bin .lss 3 (.tmp 9) (.tmp 8)), none⟩]
def r100_15 : List AOper := [⟨(some 11), (.mv (.tmp 9)), none⟩, ⟨(some 12), (.iaddr 1 none (.tmp 7) (.tmp 9)), none⟩, ⟨(some 13), (.load false 1 (.tmp 12)), none⟩, ⟨(some 3), (.mv (.tmp 11)), none⟩, ⟨(some 4), (.mv (.tmp 13)), none⟩]
def r100_17 : List AOper := [⟨(some 14), (.mv (.tmp 4)), none⟩, ⟨(some 15), (.bin .geq 5 (.tmp 14) (.const (.int .u8 97))), none⟩, ⟨(some 16), (.mv (.tmp 15)), none⟩, ⟨(some 17), (.mv (.tmp 4)), (some (16, true))⟩, ⟨(some 18), (.bin .leq 5 (.tmp 17) (.const (.int .u8 122))), (some (16, true))⟩, ⟨(some 19), (.pick (.tmp 16) (.tmp 18) (.const (.bool false))), none⟩, ⟨(some 20), (.mv (.tmp 19)), none⟩, ⟨(some 21), (.mv (.tmp 4)), (some (20, false))⟩, ⟨(some 22), (.bin .geq 5 (.tmp 21) (.const (.int .u8 65))), (some (20, false))⟩, ⟨(some 23), (.mv (.tmp 22)), (some (20, false))⟩, ⟨(some 24), (.mv (.tmp 4)), (some (23, true))⟩, ⟨(some 25), (.bin .leq 5 (.tmp 24) (.const (.int .u8 90))), (some (23, true))⟩, ⟨(some 26), (.pick (.tmp 23) (.tmp 25) (.const (.bool false))), (some (20, false))⟩, ⟨(some 27), (.pick (.tmp 20) (.const (.bool true)) (.tmp 26)), none⟩, ⟨(some 5), (.mv (.tmp 27)), none⟩]
def r100_19 : List AOper := [⟨(some 28), (.mv (.tmp 5)), none⟩, ⟨(some 29), (.pure (oB (.unOp .not 4 (.tmp 28)) 4)), none⟩, ⟨(some 30), (.mv (.tmp 29)), none⟩, ⟨(some 31), (.mv (.tmp 3)), (some (30, true))⟩, ⟨(some 32), (.bin .eql 3 (.tmp 31) (.const (.int .i64 0))), (some (30, true))⟩, ⟨(some 33), (.mv (.tmp 32)), (some (30, true))⟩, ⟨(some 34), (.mv (.tmp 4)), (some (33, false))⟩, ⟨(some 35), (.bin .neq 5 (.tmp 34) (.const (.int .u8 45))), (some (33, false))⟩, ⟨(some 36), (.mv (.tmp 35)), (some (33, false))⟩, ⟨(some 37), (.mv (.tmp 4)), (some (36, true))⟩, ⟨(some 38), (.bin .lss 5 (.tmp 37) (.const (.int .u8 48))), (some (36, true))⟩, ⟨(some 39), (.mv (.tmp 38)), (some (36, true))⟩, ⟨(some 40), (.mv (.tmp 4)), (some (39, false))⟩, ⟨(some 41), (.bin .gtr 5 (.tmp 40) (.const (.int .u8 57))), (some (39, false))⟩, ⟨(some 42), (.pick (.tmp 39) (.const (.bool true)) (.tmp 41)), (some (36, true))⟩, ⟨(some 43), (.pick (.tmp 36) (.tmp 42) (.const (.bool false))), (some (33, false))⟩, ⟨(some 44), (.pick (.tmp 33) (.const (.bool true)) (.tmp 43)), (some (30, true))⟩, ⟨(some 45), (.pick (.tmp 30) (.tmp 44) (.const (.bool false))), none⟩]
def r100_22 : List AOper := [⟨(some 2), (.mv (.const (.bool false))), none⟩]
def r100_23 : List AOper := [⟨(some 46), (.bin .add 3 (.tmp 9) (.const (.int .i64 1))), none⟩, ⟨(some 9), (.mv (.tmp 46)), none⟩]
def r100_25 : List AOper := [⟨(some 47), (.mv (.tmp 0)), none⟩, ⟨(some 48), (.bin .neq 9 (.tmp 47) (.const (.string ⟨#[]⟩))), none⟩, ⟨(some 49), (.mv (.tmp 48)), none⟩, ⟨(some 50), (.mv (.tmp 0)), (some (49, true))⟩, ⟨(some 51), (.pure (oB (.call { callee := .builtin .len, args := #[(.tmp 50)], argTypes := #[9] }) 3)), (some (49, true))⟩, ⟨(some 52), (.bin .leq 3 (.tmp 51) (.const (.int .i64 12))), (some (49, true))⟩, ⟨(some 53), (.pick (.tmp 49) (.tmp 52) (.const (.bool false))), none⟩, ⟨(some 2), (.mv (.tmp 53)), none⟩]
def tr100 : List (Nat × Tidy) := [(0, ⟨[0], true, [], []⟩), (1, ⟨[0, 7, 8, 9], true, [], []⟩), (2, ⟨[0, 7, 8, 9, 10], true, [], []⟩), (3, ⟨[0, 3, 4, 7, 8, 9], true, [], []⟩), (4, ⟨[0, 3, 4, 5, 7, 8, 9], true, [], []⟩), (5, ⟨[0, 7, 8, 9, 45], true, [], []⟩), (6, ⟨[2], true, [], []⟩), (7, ⟨[0, 7, 8, 9], true, [], []⟩), (8, ⟨[2], true, [], []⟩)]
def tl100 : List (Nat × Tidy) := [(2, ⟨[0, 7, 8, 9], true, [⟨false, 7, 0, 20007, 1⟩], []⟩)]
def rs100 : List AResV := [.tmp 2]
def p100_0_0 : PT St := pS [sl 0 (aV false [(cD dS)]), sl 3 (aV false [(cD (dI .i64))]), sl 4 (aV false [(cD (dI .u8))]), sl 7 (aV false [(cRef 20007)]), sl 8 (aV false [(cD (dI .i64))]), sl 9 (aV false [(cD (dI .i64))])] [eOwn 20007 1]
def u100_0_0 {β : Type} (g : St → β) : ByteArray → Int → Int → Int → Int → Rows → β := p100_0_0.unc g

def p100_0_1 : PT St := pS [sl 0 (aV false [(cD dS)]), sl 3 (aV false [(cD (dI .i64))]), sl 4 (aV false [(cD (dI .u8))]), sl 5 (aV false [(cD dB)]), sl 7 (aV false [(cRef 20007)]), sl 8 (aV false [(cD (dI .i64))]), sl 9 (aV false [(cD (dI .i64))])] [eOwn 20007 1]
def u100_0_1 {β : Type} (g : St → β) : ByteArray → Int → Int → Bool → Int → Int → Rows → β := p100_0_1.unc g

def p100_0_2 : PT St := pS [sl 0 (aV false [(cD dS)]), sl 7 (aV false [(cRef 20007)]), sl 8 (aV false [(cD (dI .i64))]), sl 9 (aV false [(cD (dI .i64))]), sl 45 (aV false [(cD dB)])] [eOwn 20007 1]
def u100_0_2 {β : Type} (g : St → β) : ByteArray → Int → Int → Bool → Rows → β := p100_0_2.unc g

def p100_0_3 : PT St := pS [sl 0 (aV false [(cD dS)]), sl 7 (aV false [(cRef 20007)]), sl 8 (aV false [(cD (dI .i64))]), sl 9 (aV false [(cD (dI .i64))])] [eOwn 20007 1]
def u100_0_3 {β : Type} (g : St → β) : ByteArray → Int → Int → Rows → β := p100_0_3.unc g

def p100_0_4 : PT St := pS [sl 2 (aV false [(cD dB)])] []
def u100_0_4 {β : Type} (g : St → β) : Bool → β := p100_0_4.unc g

def p100_0_5 : PT St := pS [sl 0 (aV false [(cD dS)]), sl 7 (aV false [(cRef 20007)]), sl 8 (aV false [(cD (dI .i64))]), sl 9 (aV false [(cD (dI .i64))]), sl 10 (aV false [(cD dB)])] [eOwn 20007 1]
def u100_0_5 {β : Type} (g : St → β) : ByteArray → Int → Int → Bool → Rows → β := p100_0_5.unc g

def pr100_0_0 : PT (List RV) := pRs [pR false [rD dB]]
def ur100_0_0 {β : Type} (g : List RV → β) : Bool → β := pr100_0_0.unc g

def E100_0g  : EnvK := EnvK.of [] noSeq
noncomputable def E100_0 : EnvK := E100_0g 
theorem eo100_0 : E100_0.Ok Try.prog := EnvK.of_ok noSeq_ok trivial

noncomputable def c100_0_18g  : MCode := (.region r100_19 [] (some ⟨[0, 7, 8, 9, 45], true, [], []⟩))
noncomputable def c100_0_18 : MCode := c100_0_18g 
theorem g100_0_18 : c100_0_18.Good Try.prog E100_0 sh100 := trivial
--CODE 18 0
abbrev TJ100_0_1 : Type 1 := (α : Type) → Int → Int → Bool → (Bool → Option α) → Option α
def J100_0_1g  (α : Type) (x18 : Int) (x19 : Int) (x20 : Bool) (k1 : Bool → Option α) : Option α :=
  cK (!x20)
    (cK (x18 == 0)
      (k1 true)
      (cK (x19 != 45)
        (cK (decide (x19 < 48))
          (k1 true)
          (k1 (decide (57 < x19))))
        (k1 false)))
    (k1 false)
noncomputable def J100_0_1 (α : Type) (x18 : Int) (x19 : Int) (x20 : Bool) (k1 : Bool → Option α) : Option α := J100_0_1g  α x18 x19 x20 k1
def F100_0_1 (v : TJ100_0_1) (α : Type) (K : Exit → St → Option α) : ByteArray → Int → Int → Bool → Int → Int → Rows → Option α := fun x17 x18 x19 x20 x21 x22 x23 => v α x18 x19 x20 (fun (y1 : Bool) => u100_0_2 (K .normal) x17 x21 x22 y1 x23) 
theorem m100_0_1g   (α : Type) (K : Exit → St → Option α) : F100_0_1 (J100_0_1g ) α K = p100_0_1.unc fun σ => runM Try.prog (E100_0g ) sh100 (c100_0_18g ) K σ := by kernel_rfl
theorem m100_0_1 : ∀ (α : Type) (K : Exit → St → Option α), F100_0_1 J100_0_1 α K = p100_0_1.unc fun σ => runM Try.prog E100_0 sh100 c100_0_18 K σ := m100_0_1g 

noncomputable def c100_0_16g  : MCode := (.region r100_17 [] (some ⟨[0, 3, 4, 5, 7, 8, 9], true, [], []⟩))
noncomputable def c100_0_16 : MCode := c100_0_16g 
theorem g100_0_16 : c100_0_16.Good Try.prog E100_0 sh100 := trivial
--CODE 16 0
abbrev TJ100_0_0 : Type 1 := (α : Type) → Int → (Bool → Option α) → Option α
def J100_0_0g  (α : Type) (x10 : Int) (k1 : Bool → Option α) : Option α :=
  cK (decide (97 ≤ x10))
    (cK (decide (x10 ≤ 122))
      (k1 true)
      (cK (decide (65 ≤ x10))
        (k1 (decide (x10 ≤ 90)))
        (k1 false)))
    (cK (decide (65 ≤ x10))
      (k1 (decide (x10 ≤ 90)))
      (k1 false))
noncomputable def J100_0_0 (α : Type) (x10 : Int) (k1 : Bool → Option α) : Option α := J100_0_0g  α x10 k1
def F100_0_0 (v : TJ100_0_0) (α : Type) (K : Exit → St → Option α) : ByteArray → Int → Int → Int → Int → Rows → Option α := fun x8 x9 x10 x11 x12 x13 => v α x10 (fun (y1 : Bool) => u100_0_1 (K .normal) x8 x9 x10 y1 x11 x12 x13) 
theorem m100_0_0g   (α : Type) (K : Exit → St → Option α) : F100_0_0 (J100_0_0g ) α K = p100_0_0.unc fun σ => runM Try.prog (E100_0g ) sh100 (c100_0_16g ) K σ := by kernel_rfl
theorem m100_0_0 : ∀ (α : Type) (K : Exit → St → Option α), F100_0_0 J100_0_0 α K = p100_0_0.unc fun σ => runM Try.prog E100_0 sh100 c100_0_16 K σ := m100_0_0g 

noncomputable def c100_0_7g (vJ100_0_0 : TJ100_0_0) (vJ100_0_1 : TJ100_0_1) : MCode := (.seq (.region r100_9 [] (some ⟨[0, 7, 8, 9, 10], true, [], []⟩)) (.seq (.cond (.tmp 10) .skip (.exit 0)) (.seq (.block 1 (.seq (.region r100_15 [] (some ⟨[0, 3, 4, 7, 8, 9], true, [], []⟩)) (.seq (.mark [⟨p100_0_0, F100_0_0 vJ100_0_0⟩] c100_0_16) (.seq (.mark [⟨p100_0_1, F100_0_1 vJ100_0_1⟩] c100_0_18) (.cond (.tmp 45) (.seq (.region r100_22 [] (some ⟨[2], true, [], []⟩)) .ret) .skip))))) (.region r100_23 [] (some ⟨[0, 7, 8, 9], true, [], []⟩)))))
noncomputable def c100_0_7 : MCode := c100_0_7g J100_0_0 J100_0_1
theorem g100_0_7 : c100_0_7.Good Try.prog E100_0 sh100 := ⟨trivial, ⟨⟨trivial, trivial⟩, ⟨⟨trivial, ⟨⟨g100_0_16, m100_0_0, trivial⟩, ⟨⟨g100_0_18, m100_0_1, trivial⟩, ⟨⟨trivial, trivial⟩, trivial⟩⟩⟩⟩, trivial⟩⟩⟩
--CODE 7 0
def S100_0_2g (vJ100_0_0 : TJ100_0_0) (vJ100_0_1 : TJ100_0_1) (α : Type) (x3 : Int) (x5 : Rows) (x4 : Int) (kn : Int → Option α) (k1 : Option α) (k2 : Int → Bool → Option α) : Option α :=
  cK (decide (x4 < x3))
    (ixK x5 x4 1
      (ldK x5 (Int.toNat x4) 0 [.int .u8]
        (fun (x7 : Int) => vJ100_0_0 α x7
          (fun (x15 : Bool) => vJ100_0_1 α x4 x7 x15
            (fun (x25 : Bool) => cK x25
              (k1)
              (kn (w64 (x4 + 1))))))))
    (k2 x4 (decide (x4 < x3)))
noncomputable def S100_0_2 (α : Type) (x3 : Int) (x5 : Rows) (x4 : Int) (kn : Int → Option α) (k1 : Option α) (k2 : Int → Bool → Option α) : Option α := S100_0_2g J100_0_0 J100_0_1 α x3 x5 x4 kn k1 k2
noncomputable def R100_0_2 (α : Type) (x3 : Int) (x5 : Rows) (k1 : Option α) (k2 : Int → Bool → Option α) : Nat → Int → Option α
  | 0, _ => none
  | n + 1, x4 => S100_0_2 α x3 x5 x4 (R100_0_2 α x3 x5 k1 k2 n) k1 k2
noncomputable def L100_0_2 (α : Type) (x3 : Int) (x5 : Rows) (k1 : Option α) (k2 : Int → Bool → Option α) (x4 : Int) : Option α := R100_0_2 α x3 x5 k1 k2 fuel x4
abbrev TL100_0_2 : Type 1 := (α : Type) → Int → Rows → (Option α) → (Int → Bool → Option α) → Int → Option α
def F100_0_2 (v : TL100_0_2) (α : Type) (K : Exit → St → Option α) : ByteArray → Int → Int → Rows → Option α := fun x2 x3 x4 x5 => v α x3 x5 (u100_0_4 (K .ret) false) (fun (y1 : Int) (y2 : Bool) => u100_0_5 (K (.exit 0)) x2 x3 y1 y2 x5) x4
theorem r100_0_2g  (vJ100_0_0 : TJ100_0_0) (vJ100_0_1 : TJ100_0_1) (α : Type) (K : Exit → St → Option α) (Kn : St → Option α) (x2 : ByteArray) (x3 : Int) (x4 : Int) (x5 : Rows) : u100_0_3 (fun σ => runM Try.prog (E100_0g ) sh100 (c100_0_7g vJ100_0_0 vJ100_0_1) (thenK (fun σ => tidyK td100_7 σ Kn) K) σ) x2 x3 x4 x5 = S100_0_2g vJ100_0_0 vJ100_0_1 α x3 x5 x4 (fun x4 => u100_0_3 Kn x2 x3 x4 x5) (u100_0_4 (K .ret) false) (fun (y1 : Int) (y2 : Bool) => u100_0_5 (K (.exit 0)) x2 x3 y1 y2 x5) := by kernel_rfl
theorem r100_0_2 (α : Type) (K : Exit → St → Option α) (Kn : St → Option α) (x2 : ByteArray) (x3 : Int) (x4 : Int) (x5 : Rows) : u100_0_3 (fun σ => runM Try.prog E100_0 sh100 c100_0_7 (thenK (fun σ => tidyK td100_7 σ Kn) K) σ) x2 x3 x4 x5 = S100_0_2 α x3 x5 x4 (fun x4 => u100_0_3 Kn x2 x3 x4 x5) (u100_0_4 (K .ret) false) (fun (y1 : Int) (y2 : Bool) => u100_0_5 (K (.exit 0)) x2 x3 y1 y2 x5) := r100_0_2g J100_0_0 J100_0_1 α K Kn x2 x3 x4 x5
theorem t100_0_2 (α : Type) (K : Exit → St → Option α) : ∀ (n : Nat) (x2 : ByteArray) (x3 : Int) (x4 : Int) (x5 : Rows), R100_0_2 α x3 x5 (u100_0_4 (K .ret) false) (fun (y1 : Int) (y2 : Bool) => u100_0_5 (K (.exit 0)) x2 x3 y1 y2 x5) n x4 = u100_0_3 (loopT (runM Try.prog E100_0 sh100 c100_0_7) td100_7 K n) x2 x3 x4 x5 := by
  intro n
  induction n with
  | zero => intros; rfl
  | succ n ih => intro x2 x3 x4 x5; exact (congrArg (fun kn => S100_0_2 α x3 x5 x4 kn (u100_0_4 (K .ret) false) (fun (y1 : Int) (y2 : Bool) => u100_0_5 (K (.exit 0)) x2 x3 y1 y2 x5)) (funext fun x4 => ih x2 x3 x4 x5)).trans (r100_0_2 α K (loopT (runM Try.prog E100_0 sh100 c100_0_7) td100_7 K n) x2 x3 x4 x5).symm
theorem m100_0_2 : ∀ (α : Type) (K : Exit → St → Option α), F100_0_2 L100_0_2 α K = p100_0_3.unc fun σ => loopT (runM Try.prog E100_0 sh100 c100_0_7) td100_7 K fuel σ := fun α K => funext fun x2 => funext fun x3 => funext fun x4 => funext fun x5 => t100_0_2 α K fuel x2 x3 x4 x5

/-- etalon/grow.isName -/
abbrev Tf100_0 : Type 1 := (α : Type) → ByteArray → (Bool → Option α) → Option α
def f100_0g (vL100_0_2 : TL100_0_2) (α : Type) (x1 : ByteArray) (k1 : Bool → Option α) : Option α :=
  gK (decide (ByteArray.size x1 ≤ 9223372036854775807)) (vL100_0_2 α ((List.length (bytesR x1) : Nat) : Int) (bytesR x1)
    (k1 false)
    (fun (x27 : Int) (x28 : Bool) => cK (!(x1.toList == (⟨#[]⟩ : ByteArray).toList))
      (k1 (decide (((ByteArray.size x1 : Nat) : Int) ≤ 12)))
      (k1 false)) 0)
noncomputable def f100_0 (α : Type) (x1 : ByteArray) (k1 : Bool → Option α) : Option α := f100_0g L100_0_2 α x1 k1
def pa100_0 : PT (List DV) := pA [pV false [dS]]
def Fn100_0 (v : Tf100_0) (α : Type) (k : List RV → Option α) : ByteArray → Option α := fun x1 => v α x1 (fun (y1 : Bool) => ur100_0_0 k y1)
noncomputable def cm100_0g (vL100_0_2 : TL100_0_2) : MCode := (.seq (.region r100_2 [] (some ⟨[0], true, [], []⟩)) (.seq (.seq (.region r100_5 [] (some ⟨[0, 7, 8, 9], true, [], []⟩)) (.block 0 (.loop td100_7 [⟨p100_0_3, F100_0_2 vL100_0_2⟩] c100_0_7))) (.seq (.region r100_25 [] (some ⟨[2], true, [], []⟩)) .ret)))
noncomputable def cm100_0 : MCode := cm100_0g L100_0_2
theorem gm100_0 : cm100_0.Good Try.prog E100_0 sh100 := ⟨trivial, ⟨⟨trivial, ⟨g100_0_7, m100_0_2, trivial⟩⟩, ⟨trivial, trivial⟩⟩⟩
theorem fm100_0g  (vL100_0_2 : TL100_0_2) (α : Type) (k : List RV → Option α) : Fn100_0 (f100_0g vL100_0_2) α k = pa100_0.unc fun ds => fnM Try.prog (E100_0g ) sh100 (cm100_0g vL100_0_2) rs100 k ds := by kernel_rfl
theorem fm100_0 : ∀ (α : Type) (k : List RV → Option α), Fn100_0 f100_0 α k = pa100_0.unc fun ds => fnM Try.prog E100_0 sh100 cm100_0 rs100 k ds := fm100_0g L100_0_2

theorem is100 : FnIs Try.prog 100 nt100 tr100 tl100 cm100_0.erase rs100 := ⟨Try.f100, Try.func100, rfl, by kernel_rfl, by kernel_rfl, by kernel_rfl⟩
theorem io100_0 : InstOk Try.prog 100 nt100 ⟨pa100_0, Fn100_0 f100_0⟩ := inst_ok eo100_0 followsTry is100 ⟨⟨sh100, cm100_0, by kernel_rfl, gm100_0, fm100_0⟩⟩

/-! ### F102 etalon/etalonbase.CopyTexts -/
abbrev nt102 : Nat := 6
def sh102 : List (Nat × List Sh) := []
def r102_2 : List AOper := [⟨(some 2), (.mv (.const (.slice none 0 0))), none⟩]
def r102_4 : List AOper := [⟨(some 3), (.bslice 1 0 [(.v (.string ⟨#[]⟩))] []), none⟩, ⟨(some 4), (.mv (.tmp 0)), none⟩, ⟨(some 5), (.append 1 16 (.tmp 3) (.tmp 4)), none⟩, ⟨(some 2), (.mv (.tmp 5)), none⟩]
def tr102 : List (Nat × Tidy) := [(0, ⟨[0], true, [], []⟩), (1, ⟨[2], true, [⟨false, 2, 0, 20002, 1⟩], []⟩)]
def tl102 : List (Nat × Tidy) := []
def rs102 : List AResV := [.tmp 2]
def pr102_0_0 : PT (List RV) := pRs [pR false [rO 1]]
def ur102_0_0 {β : Type} (g : List RV → β) : Rows → β := pr102_0_0.unc g

def E102_0g  : EnvK := EnvK.of [] noSeq
noncomputable def E102_0 : EnvK := E102_0g 
theorem eo102_0 : E102_0.Ok Try.prog := EnvK.of_ok noSeq_ok trivial

/-- etalon/etalonbase.CopyTexts -/
abbrev Tf102_0 : Type 1 := (α : Type) → Rows → (Rows → Option α) → Option α
def f102_0g  (α : Type) (x1 : Rows) (k1 : Rows → Option α) : Option α :=
  gK (apOk 1 16 ([] : Rows) x1) (k1 (([] : Rows) ++ x1))
noncomputable def f102_0 (α : Type) (x1 : Rows) (k1 : Rows → Option α) : Option α := f102_0g  α x1 k1
def pa102_0 : PT (List DV) := pA [pV false [dL]]
def Fn102_0 (v : Tf102_0) (α : Type) (k : List RV → Option α) : Rows → Option α := fun x1 => v α x1 (fun (y1 : Rows) => ur102_0_0 k y1)
noncomputable def cm102_0g  : MCode := (.seq (.region r102_2 [] (some ⟨[0], true, [], []⟩)) (.seq (.region r102_4 [] (some ⟨[2], true, [⟨false, 2, 0, 20002, 1⟩], []⟩)) .ret))
noncomputable def cm102_0 : MCode := cm102_0g 
theorem gm102_0 : cm102_0.Good Try.prog E102_0 sh102 := ⟨trivial, ⟨trivial, trivial⟩⟩
theorem fm102_0g   (α : Type) (k : List RV → Option α) : Fn102_0 (f102_0g ) α k = pa102_0.unc fun ds => fnM Try.prog (E102_0g ) sh102 (cm102_0g ) rs102 k ds := by kernel_rfl
theorem fm102_0 : ∀ (α : Type) (k : List RV → Option α), Fn102_0 f102_0 α k = pa102_0.unc fun ds => fnM Try.prog E102_0 sh102 cm102_0 rs102 k ds := fm102_0g 

theorem is102 : FnIs Try.prog 102 nt102 tr102 tl102 cm102_0.erase rs102 := ⟨Try.f102, Try.func102, rfl, by kernel_rfl, by kernel_rfl, by kernel_rfl⟩
theorem io102_0 : InstOk Try.prog 102 nt102 ⟨pa102_0, Fn102_0 f102_0⟩ := inst_ok eo102_0 followsTry is102 ⟨⟨sh102, cm102_0, by kernel_rfl, gm102_0, fm102_0⟩⟩

/-! ### F44 etalon/etalonlaw08.small -/
abbrev nt44 : Nat := 25
def sh44 : List (Nat × List Sh) := [(4, [.sl]), (9, [.sl]), (14, [.sl]), (21, [.sl])]
def r44_2 : List AOper := [⟨(some 1), (.box (.tmp 0)), none⟩, ⟨(some 2), (.mv (.const (.bool false))), none⟩]
def r44_4 : List AOper := [⟨(some 3), (.faddr 0 (.tmp 1)), none⟩, ⟨(some 4), (.load false 1 (.tmp 3)), none⟩, ⟨(some 5), (.len (.tmp 4)), none⟩, ⟨(some 6), (.bin .leq 3 (.tmp 5) (.const (.int .i64 5))), none⟩, ⟨(some 7), (.mv (.tmp 6)), none⟩, ⟨(some 8), (.faddr 0 (.tmp 1)), (some (7, false))⟩, ⟨(some 9), (.load false 1 (.tmp 8)), (some (7, false))⟩, ⟨(some 10), (.len (.tmp 9)), (some (7, false))⟩, ⟨(some 11), (.bin .gtr 3 (.tmp 10) (.const (.int .i64 8))), (some (7, false))⟩, ⟨(some 12), (.mv (.tmp 11)), (some (7, false))⟩, ⟨(some 13), (.faddr 0 (.tmp 1)), (some (12, true))⟩, ⟨(some 14), (.load false 1 (.tmp 13)), (some (12, true))⟩, ⟨(some 15), (.len (.tmp 14)), (some (12, true))⟩, ⟨(some 16), (.bin .leq 3 (.tmp 15) (.const (.int .i64 10))), (some (12, true))⟩, ⟨(some 17), (.pick (.tmp 12) (.tmp 16) (.const (.bool false))), (some (7, false))⟩, ⟨(some 18), (.pick (.tmp 7) (.const (.bool true)) (.tmp 17)), none⟩, ⟨(some 19), (.mv (.tmp 18)), none⟩, ⟨(some 20), (.faddr 1 (.tmp 1)), (some (19, true))⟩, ⟨(some 21), (.load false 1 (.tmp 20)), (some (19, true))⟩, ⟨(some 22), (.len (.tmp 21)), (some (19, true))⟩, ⟨(some 23), (.bin .leq 3 (.tmp 22) (.const (.int .i64 32))), (some (19, true))⟩, ⟨(some 24), (.pick (.tmp 19) (.tmp 23) (.const (.bool false))), none⟩, ⟨(some 2), (.mv (.tmp 24)), none⟩]
def tr44 : List (Nat × Tidy) := [(0, ⟨[1], true, [], []⟩), (1, ⟨[2], true, [], []⟩)]
def tl44 : List (Nat × Tidy) := []
def rs44 : List AResV := [.tmp 2]
def pr44_0_0 : PT (List RV) := pRs [pR false [rD dB]]
def ur44_0_0 {β : Type} (g : List RV → β) : Bool → β := pr44_0_0.unc g

def E44_0g  : EnvK := EnvK.of [] noSeq
noncomputable def E44_0 : EnvK := E44_0g 
theorem eo44_0 : E44_0.Ok Try.prog := EnvK.of_ok noSeq_ok trivial

/-- etalon/etalonlaw08.small -/
abbrev Tf44_0 : Type 1 := (α : Type) → Rows → Rows → (Bool → Option α) → Option α
def f44_0g  (α : Type) (x1 : Rows) (x2 : Rows) (k1 : Bool → Option α) : Option α :=
  cK (decide (((List.length x1 : Nat) : Int) ≤ 5))
    (k1 (decide (((List.length x2 : Nat) : Int) ≤ 32)))
    (cK (decide (8 < ((List.length x1 : Nat) : Int)))
      (cK (decide (((List.length x1 : Nat) : Int) ≤ 10))
        (k1 (decide (((List.length x2 : Nat) : Int) ≤ 32)))
        (k1 false))
      (k1 false))
noncomputable def f44_0 (α : Type) (x1 : Rows) (x2 : Rows) (k1 : Bool → Option α) : Option α := f44_0g  α x1 x2 k1
def pa44_0 : PT (List DV) := pA [pV true [dL, dL]]
def Fn44_0 (v : Tf44_0) (α : Type) (k : List RV → Option α) : Rows → Rows → Option α := fun x1 x2 => v α x1 x2 (fun (y1 : Bool) => ur44_0_0 k y1)
noncomputable def cm44_0g  : MCode := (.seq (.region r44_2 [] (some ⟨[1], true, [], []⟩)) (.seq (.region r44_4 [] (some ⟨[2], true, [], []⟩)) .ret))
noncomputable def cm44_0 : MCode := cm44_0g 
theorem gm44_0 : cm44_0.Good Try.prog E44_0 sh44 := ⟨trivial, ⟨trivial, trivial⟩⟩
theorem fm44_0g   (α : Type) (k : List RV → Option α) : Fn44_0 (f44_0g ) α k = pa44_0.unc fun ds => fnM Try.prog (E44_0g ) sh44 (cm44_0g ) rs44 k ds := by kernel_rfl
theorem fm44_0 : ∀ (α : Type) (k : List RV → Option α), Fn44_0 f44_0 α k = pa44_0.unc fun ds => fnM Try.prog E44_0 sh44 cm44_0 rs44 k ds := fm44_0g 

theorem is44 : FnIs Try.prog 44 nt44 tr44 tl44 cm44_0.erase rs44 := ⟨Try.f44, Try.func44, rfl, by kernel_rfl, by kernel_rfl, by kernel_rfl⟩
theorem io44_0 : InstOk Try.prog 44 nt44 ⟨pa44_0, Fn44_0 f44_0⟩ := inst_ok eo44_0 followsTry is44 ⟨⟨sh44, cm44_0, by kernel_rfl, gm44_0, fm44_0⟩⟩

/-! ### F56 etalon/etalonref08.CopyChange -/
abbrev nt56 : Nat := 10
def sh56 : List (Nat × List Sh) := [(4, [.sl]), (7, [.sl])]
def r56_2 : List AOper := [⟨(some 1), (.box (.tmp 0)), none⟩, ⟨(some 2), (.alloc [.nils, .nils]), none⟩]
def r56_4 : List AOper := [⟨(some 3), (.faddr 0 (.tmp 1)), none⟩, ⟨(some 4), (.load false 1 (.tmp 3)), none⟩, ⟨(some 5), (.call 48 [(.tmp 4)]), none⟩, ⟨(some 6), (.faddr 1 (.tmp 1)), none⟩, ⟨(some 7), (.load false 1 (.tmp 6)), none⟩, ⟨(some 8), (.call 48 [(.tmp 7)]), none⟩, ⟨(some 9), (.build [.nils, .nils] [(0, 1, (.tmp 5)), (1, 1, (.tmp 8))]), none⟩, ⟨none, (.store 2 (.tmp 2) (.tmp 9)), none⟩]
def tr56 : List (Nat × Tidy) := [(0, ⟨[1, 2], true, [⟨true, 2, 0, 30200, 1⟩, ⟨true, 2, 1, 30201, 1⟩], []⟩), (1, ⟨[2], true, [⟨true, 2, 0, 30200, 1⟩, ⟨true, 2, 1, 30201, 1⟩], []⟩)]
def tl56 : List (Nat × Tidy) := []
def rs56 : List AResV := [.cell 2 true 2]
def pr56_0_0 : PT (List RV) := pRs [pR true [rO 1, rO 1]]
def ur56_0_0 {β : Type} (g : List RV → β) : Rows → Rows → β := pr56_0_0.unc g

def E56_0g (vf48_0 : Tf48_0) : EnvK := EnvK.of [⟨48, nt48, [⟨pa48_0, Fn48_0 vf48_0⟩]⟩] noSeq
noncomputable def E56_0 : EnvK := E56_0g f48_0
theorem eo56_0 : E56_0.Ok Try.prog := EnvK.of_ok noSeq_ok ⟨⟨io48_0, trivial⟩, trivial⟩

/-- etalon/etalonref08.CopyChange -/
abbrev Tf56_0 : Type 1 := (α : Type) → Rows → Rows → (Rows → Rows → Option α) → Option α
def f56_0g (vf48_0 : Tf48_0) (α : Type) (x1 : Rows) (x2 : Rows) (k1 : Rows → Rows → Option α) : Option α :=
  vf48_0 α x1
    (fun (x3 : Rows) => vf48_0 α x2
      (fun (x4 : Rows) => k1 x3 x4))
noncomputable def f56_0 (α : Type) (x1 : Rows) (x2 : Rows) (k1 : Rows → Rows → Option α) : Option α := f56_0g f48_0 α x1 x2 k1
def pa56_0 : PT (List DV) := pA [pV true [dL, dL]]
def Fn56_0 (v : Tf56_0) (α : Type) (k : List RV → Option α) : Rows → Rows → Option α := fun x1 x2 => v α x1 x2 (fun (y1 : Rows) (y2 : Rows) => ur56_0_0 k y1 y2)
noncomputable def cm56_0g  : MCode := (.seq (.region r56_2 [] (some ⟨[1, 2], true, [⟨true, 2, 0, 30200, 1⟩, ⟨true, 2, 1, 30201, 1⟩], []⟩)) (.seq (.region r56_4 [(2, 4)] (some ⟨[2], true, [⟨true, 2, 0, 30200, 1⟩, ⟨true, 2, 1, 30201, 1⟩], []⟩)) .ret))
noncomputable def cm56_0 : MCode := cm56_0g 
theorem gm56_0 : cm56_0.Good Try.prog E56_0 sh56 := ⟨trivial, ⟨trivial, trivial⟩⟩
theorem fm56_0g (vf48_0 : Tf48_0)  (α : Type) (k : List RV → Option α) : Fn56_0 (f56_0g vf48_0) α k = pa56_0.unc fun ds => fnM Try.prog (E56_0g vf48_0) sh56 (cm56_0g ) rs56 k ds := by kernel_rfl
theorem fm56_0 : ∀ (α : Type) (k : List RV → Option α), Fn56_0 f56_0 α k = pa56_0.unc fun ds => fnM Try.prog E56_0 sh56 cm56_0 rs56 k ds := fm56_0g f48_0

theorem is56 : FnIs Try.prog 56 nt56 tr56 tl56 cm56_0.erase rs56 := ⟨Try.f56, Try.func56, rfl, by kernel_rfl, by kernel_rfl, by kernel_rfl⟩
theorem io56_0 : InstOk Try.prog 56 nt56 ⟨pa56_0, Fn56_0 f56_0⟩ := inst_ok eo56_0 followsTry is56 ⟨⟨sh56, cm56_0, by kernel_rfl, gm56_0, fm56_0⟩⟩

/-! ### F50 etalon/etalonref08.CheckChamber -/
abbrev nt50 : Nat := 74
def sh50 : List (Nat × List Sh) := [(7, [.sl]), (12, [.sl]), (18, [.sl]), (20, [.str]), (21, [.str]), (26, [.sl]), (30, [.sl]), (32, [.str]), (33, [.str]), (37, [.sl]), (42, [.sl]), (48, [.sl]), (50, [.int .i64, .bool, .int .i64, .bool]), (52, [.int .i64]), (54, [.sl]), (61, [.sl]), (63, [.int .i64, .bool, .int .i64, .bool]), (65, [.int .i64]), (67, [.sl])]
def r50_2 : List AOper := [⟨(some 1), (.box (.tmp 0)), none⟩, ⟨(some 2), (.mv (.const (.int .i64 0))), none⟩, ⟨(some 3), (.mv (.const (.int .i64 0))), none⟩]
def r50_5 : List AOper := [⟨(some 6), (.faddr 0 (.tmp 1)), none⟩, ⟨(some 7), (.load false 1 (.tmp 6)), none⟩, ⟨(some 8), (.len (.tmp 7)), none⟩, ⟨(some 9), (.bin .gtr 3 (.tmp 8) (.const (.int .i64 8))), none⟩]
def r50_8 : List AOper := [⟨(some 2), (.mv (.const (.int .i64 0))), none⟩, ⟨(some 3), (.mv (.const (.int .i64 8))), none⟩]
def r50_11 : List AOper := [⟨(some 4), (.mv (.const (.int .i64 0))), none⟩]
def td50_13 : Option Tidy := (some ⟨[1, 4], true, [⟨true, 1, 0, 30100, 1⟩, ⟨true, 1, 1, 30101, 4⟩], []⟩)
def r50_16 : List AOper := [⟨(some 10), (.mv (.tmp 4)), none⟩, ⟨(some 11), (.faddr 0 (.tmp 1)), none⟩, ⟨(some 12), (.load false 1 (.tmp 11)), none⟩, ⟨(some 13), (.len (.tmp 12)), none⟩, ⟨(some 14), (.bin .lss 3 (.tmp 10) (.tmp 13)), none⟩]
def r50_22 : List AOper := [⟨(some 17), (.faddr 0 (.tmp 1)), none⟩, ⟨(some 18), (.load false 1 (.tmp 17)), none⟩, ⟨(some 19), (.mv (.tmp 4)), none⟩, ⟨(some 20), (.iaddr 1 none (.tmp 18) (.tmp 19)), none⟩, ⟨(some 21), (.load false 1 (.tmp 20)), none⟩, ⟨(some 22), (.call 107 [(.tmp 21)]), none⟩, ⟨(some 23), (.pure (oB (.unOp .not 4 (.tmp 22)) 4)), none⟩]
def r50_25 : List AOper := [⟨(some 24), (.mv (.tmp 4)), none⟩, ⟨(some 2), (.mv (.tmp 24)), none⟩, ⟨(some 3), (.mv (.const (.int .i64 3))), none⟩]
def r50_27 : List AOper := [⟨(some 25), (.faddr 0 (.tmp 1)), none⟩, ⟨(some 26), (.load false 1 (.tmp 25)), none⟩, ⟨(some 27), (.mv (.tmp 4)), none⟩, ⟨(some 28), (.slice 1 false (.tmp 26) none (some (.tmp 27))), none⟩, ⟨(some 29), (.faddr 0 (.tmp 1)), none⟩, ⟨(some 30), (.load false 1 (.tmp 29)), none⟩, ⟨(some 31), (.mv (.tmp 4)), none⟩, ⟨(some 32), (.iaddr 1 none (.tmp 30) (.tmp 31)), none⟩, ⟨(some 33), (.load false 1 (.tmp 32)), none⟩, ⟨(some 34), (.call 108 [(.tmp 28), (.tmp 33)]), none⟩]
def r50_30 : List AOper := [⟨(some 35), (.mv (.tmp 4)), none⟩, ⟨(some 2), (.mv (.tmp 35)), none⟩, ⟨(some 3), (.mv (.const (.int .i64 5))), none⟩]
def r50_31 : List AOper := [⟨(some 15), (.mv (.tmp 4)), none⟩, ⟨(some 16), (.bin .add 3 (.tmp 15) (.const (.int .i64 1))), none⟩, ⟨(some 4), (.mv (.tmp 16)), none⟩]
def r50_34 : List AOper := [⟨(some 36), (.faddr 1 (.tmp 1)), none⟩, ⟨(some 37), (.load false 1 (.tmp 36)), none⟩, ⟨(some 38), (.len (.tmp 37)), none⟩, ⟨(some 39), (.bin .gtr 3 (.tmp 38) (.const (.int .i64 30))), none⟩]
def r50_37 : List AOper := [⟨(some 2), (.mv (.const (.int .i64 0))), none⟩, ⟨(some 3), (.mv (.const (.int .i64 8))), none⟩]
def r50_40 : List AOper := [⟨(some 5), (.mv (.const (.int .i64 0))), none⟩]
def td50_42 : Option Tidy := (some ⟨[1, 5], true, [⟨true, 1, 0, 30100, 1⟩, ⟨true, 1, 1, 30101, 4⟩], []⟩)
def r50_45 : List AOper := [⟨(some 40), (.mv (.tmp 5)), none⟩, ⟨(some 41), (.faddr 1 (.tmp 1)), none⟩, ⟨(some 42), (.load false 1 (.tmp 41)), none⟩, ⟨(some 43), (.len (.tmp 42)), none⟩, ⟨(some 44), (.bin .lss 3 (.tmp 40) (.tmp 43)), none⟩]
def r50_50 : List AOper := [⟨(some 47), (.faddr 1 (.tmp 1)), none⟩, ⟨(some 48), (.load false 1 (.tmp 47)), none⟩, ⟨(some 49), (.mv (.tmp 5)), none⟩, ⟨(some 50), (.iaddr 4 none (.tmp 48) (.tmp 49)), none⟩, ⟨(some 51), (.faddr 0 (.tmp 50)), none⟩, ⟨(some 52), (.load false 1 (.tmp 51)), none⟩, ⟨(some 53), (.faddr 0 (.tmp 1)), none⟩, ⟨(some 54), (.load false 1 (.tmp 53)), none⟩, ⟨(some 55), (.len (.tmp 54)), none⟩, ⟨(some 56), (.bin .sub 3 (.tmp 55) (.const (.int .i64 1))), none⟩, ⟨(some 57), (.call 19 [(.tmp 52), (.const (.int .i64 0)), (.tmp 56)]), none⟩, ⟨(some 58), (.pure (oB (.unOp .not 4 (.tmp 57)) 4)), none⟩, ⟨(some 59), (.mv (.tmp 58)), none⟩, ⟨(some 60), (.faddr 1 (.tmp 1)), (some (59, false))⟩, ⟨(some 61), (.load false 1 (.tmp 60)), (some (59, false))⟩, ⟨(some 62), (.mv (.tmp 5)), (some (59, false))⟩, ⟨(some 63), (.iaddr 4 none (.tmp 61) (.tmp 62)), (some (59, false))⟩, ⟨(some 64), (.faddr 2 (.tmp 63)), (some (59, false))⟩, ⟨(some 65), (.load false 1 (.tmp 64)), (some (59, false))⟩, ⟨(some 66), (.faddr 0 (.tmp 1)), (some (59, false))⟩, ⟨(some 67), (.load false 1 (.tmp 66)), (some (59, false))⟩, ⟨(some 68), (.len (.tmp 67)), (some (59, false))⟩, ⟨(some 69), (.bin .sub 3 (.tmp 68) (.const (.int .i64 1))), (some (59, false))⟩, ⟨(some 70), (.call 19 [(.tmp 65), (.const (.int .i64 0)), (.tmp 69)]), (some (59, false))⟩, ⟨(some 71), (.pure (oB (.unOp .not 4 (.tmp 70)) 4)), (some (59, false))⟩, ⟨(some 72), (.pick (.tmp 59) (.const (.bool true)) (.tmp 71)), none⟩]
def r50_53 : List AOper := [⟨(some 73), (.mv (.tmp 5)), none⟩, ⟨(some 2), (.mv (.tmp 73)), none⟩, ⟨(some 3), (.mv (.const (.int .i64 6))), none⟩]
def r50_54 : List AOper := [⟨(some 45), (.mv (.tmp 5)), none⟩, ⟨(some 46), (.bin .add 3 (.tmp 45) (.const (.int .i64 1))), none⟩, ⟨(some 5), (.mv (.tmp 46)), none⟩]
def r50_56 : List AOper := [⟨(some 2), (.mv (.const (.int .i64 0))), none⟩, ⟨(some 3), (.mv (.const (.int .i64 0))), none⟩]
def tr50 : List (Nat × Tidy) := [(0, ⟨[1], true, [], []⟩), (1, ⟨[1, 9], true, [], []⟩), (2, ⟨[2, 3], true, [], []⟩), (3, ⟨[1, 4], true, [], []⟩), (4, ⟨[1, 4, 14], true, [], []⟩), (6, ⟨[1, 4, 23], true, [], []⟩), (7, ⟨[2, 3], true, [], []⟩), (8, ⟨[1, 4, 34], true, [], []⟩), (9, ⟨[2, 3], true, [], []⟩), (5, ⟨[1, 4], true, [], []⟩), (10, ⟨[1, 39], true, [], []⟩), (11, ⟨[2, 3], true, [], []⟩), (12, ⟨[1, 5], true, [], []⟩), (13, ⟨[1, 5, 44], true, [], []⟩), (15, ⟨[1, 5, 72], true, [], []⟩), (16, ⟨[2, 3], true, [], []⟩), (14, ⟨[1, 5], true, [], []⟩), (17, ⟨[2, 3], true, [], []⟩)]
def tl50 : List (Nat × Tidy) := [(4, ⟨[1, 4], true, [⟨true, 1, 0, 30100, 1⟩, ⟨true, 1, 1, 30101, 4⟩], []⟩), (13, ⟨[1, 5], true, [⟨true, 1, 0, 30100, 1⟩, ⟨true, 1, 1, 30101, 4⟩], []⟩)]
def rs50 : List AResV := [.tmp 2, .tmp 3]
def p50_0_0 : PT St := pS [sl 1 (aV false [(cPtr 1 0)]), sl 4 (aV false [(cD (dI .i64))])] [eBox 1 [(cD dL), (cD dL)]]
def u50_0_0 {β : Type} (g : St → β) : Int → Rows → Rows → β := p50_0_0.unc g

def p50_0_1 : PT St := pS [sl 2 (aV false [(cD (dI .i64))]), sl 3 (aV false [(cD (dI .i64))])] []
def u50_0_1 {β : Type} (g : St → β) : Int → Int → β := p50_0_1.unc g

def p50_0_2 : PT St := pS [sl 1 (aV false [(cPtr 1 0)]), sl 4 (aV false [(cD (dI .i64))]), sl 14 (aV false [(cD dB)])] [eBox 1 [(cD dL), (cD dL)]]
def u50_0_2 {β : Type} (g : St → β) : Int → Bool → Rows → Rows → β := p50_0_2.unc g

def p50_0_3 : PT St := pS [sl 1 (aV false [(cPtr 1 0)]), sl 5 (aV false [(cD (dI .i64))])] [eBox 1 [(cD dL), (cD dL)]]
def u50_0_3 {β : Type} (g : St → β) : Int → Rows → Rows → β := p50_0_3.unc g

def p50_0_4 : PT St := pS [sl 1 (aV false [(cPtr 1 0)]), sl 5 (aV false [(cD (dI .i64))]), sl 44 (aV false [(cD dB)])] [eBox 1 [(cD dL), (cD dL)]]
def u50_0_4 {β : Type} (g : St → β) : Int → Bool → Rows → Rows → β := p50_0_4.unc g

def pr50_0_0 : PT (List RV) := pRs [pR false [rD (dI .i64)], pR false [rD (dI .i64)]]
def ur50_0_0 {β : Type} (g : List RV → β) : Int → Int → β := pr50_0_0.unc g

def E50_0g (vf107_0 : Tf107_0) (vf108_0 : Tf108_0) (vf19_0 : Tf19_0) : EnvK := EnvK.of [⟨107, nt107, [⟨pa107_0, Fn107_0 vf107_0⟩]⟩, ⟨108, nt108, [⟨pa108_0, Fn108_0 vf108_0⟩]⟩, ⟨19, nt19, [⟨pa19_0, Fn19_0 vf19_0⟩]⟩] noSeq
noncomputable def E50_0 : EnvK := E50_0g f107_0 f108_0 f19_0
theorem eo50_0 : E50_0.Ok Try.prog := EnvK.of_ok noSeq_ok ⟨⟨io107_0, trivial⟩, ⟨io108_0, trivial⟩, ⟨io19_0, trivial⟩, trivial⟩

noncomputable def c50_0_42g  : MCode := (.seq (.seq (.region r50_45 [] (some ⟨[1, 5, 44], true, [], []⟩)) (.cond (.tmp 44) .skip (.exit 2))) (.seq (.block 3 (.seq (.region r50_50 [] (some ⟨[1, 5, 72], true, [], []⟩)) (.cond (.tmp 72) (.seq (.region r50_53 [] (some ⟨[2, 3], true, [], []⟩)) .ret) .skip))) (.region r50_54 [] (some ⟨[1, 5], true, [], []⟩))))
noncomputable def c50_0_42 : MCode := c50_0_42g 
theorem g50_0_42 : c50_0_42.Good Try.prog E50_0 sh50 := ⟨⟨trivial, ⟨trivial, trivial⟩⟩, ⟨⟨trivial, ⟨⟨trivial, trivial⟩, trivial⟩⟩, trivial⟩⟩
--CODE 42 0
def S50_0_1g (vf19_0 : Tf19_0) (α : Type) (x17 : Rows) (x18 : Rows) (x16 : Int) (kn : Int → Option α) (k1 : Int → Option α) (k2 : Int → Bool → Option α) : Option α :=
  cK (decide (x16 < ((List.length x18 : Nat) : Int)))
    (rowK x18 x16 [.int .i64, .bool, .int .i64, .bool]
      (fun (x20 : Int) (x21 : Bool) (x22 : Int) (x23 : Bool) => vf19_0 α x20 0 (w64 (((List.length x17 : Nat) : Int) - 1))
        (fun (x24 : Bool) => cK (!x24)
          (k1 x16)
          (rowK x18 x16 [.int .i64, .bool, .int .i64, .bool]
            (fun (x25 : Int) (x26 : Bool) (x27 : Int) (x28 : Bool) => vf19_0 α x27 0 (w64 (((List.length x17 : Nat) : Int) - 1))
              (fun (x29 : Bool) => cK (!x29)
                (k1 x16)
                (kn (w64 (x16 + 1)))))))))
    (k2 x16 (decide (x16 < ((List.length x18 : Nat) : Int))))
noncomputable def S50_0_1 (α : Type) (x17 : Rows) (x18 : Rows) (x16 : Int) (kn : Int → Option α) (k1 : Int → Option α) (k2 : Int → Bool → Option α) : Option α := S50_0_1g f19_0 α x17 x18 x16 kn k1 k2
noncomputable def R50_0_1 (α : Type) (x17 : Rows) (x18 : Rows) (k1 : Int → Option α) (k2 : Int → Bool → Option α) : Nat → Int → Option α
  | 0, _ => none
  | n + 1, x16 => S50_0_1 α x17 x18 x16 (R50_0_1 α x17 x18 k1 k2 n) k1 k2
noncomputable def L50_0_1 (α : Type) (x17 : Rows) (x18 : Rows) (k1 : Int → Option α) (k2 : Int → Bool → Option α) (x16 : Int) : Option α := R50_0_1 α x17 x18 k1 k2 fuel x16
abbrev TL50_0_1 : Type 1 := (α : Type) → Rows → Rows → (Int → Option α) → (Int → Bool → Option α) → Int → Option α
def F50_0_1 (v : TL50_0_1) (α : Type) (K : Exit → St → Option α) : Int → Rows → Rows → Option α := fun x16 x17 x18 => v α x17 x18 (fun (y1 : Int) => u50_0_1 (K .ret) y1 6) (fun (y1 : Int) (y2 : Bool) => u50_0_4 (K (.exit 2)) y1 y2 x17 x18) x16
theorem r50_0_1g (vf107_0 : Tf107_0) (vf108_0 : Tf108_0) (vf19_0 : Tf19_0)  (α : Type) (K : Exit → St → Option α) (Kn : St → Option α) (x16 : Int) (x17 : Rows) (x18 : Rows) : u50_0_3 (fun σ => runM Try.prog (E50_0g vf107_0 vf108_0 vf19_0) sh50 (c50_0_42g ) (thenK (fun σ => tidyK td50_42 σ Kn) K) σ) x16 x17 x18 = S50_0_1g vf19_0 α x17 x18 x16 (fun x16 => u50_0_3 Kn x16 x17 x18) (fun (y1 : Int) => u50_0_1 (K .ret) y1 6) (fun (y1 : Int) (y2 : Bool) => u50_0_4 (K (.exit 2)) y1 y2 x17 x18) := by kernel_rfl
theorem r50_0_1 (α : Type) (K : Exit → St → Option α) (Kn : St → Option α) (x16 : Int) (x17 : Rows) (x18 : Rows) : u50_0_3 (fun σ => runM Try.prog E50_0 sh50 c50_0_42 (thenK (fun σ => tidyK td50_42 σ Kn) K) σ) x16 x17 x18 = S50_0_1 α x17 x18 x16 (fun x16 => u50_0_3 Kn x16 x17 x18) (fun (y1 : Int) => u50_0_1 (K .ret) y1 6) (fun (y1 : Int) (y2 : Bool) => u50_0_4 (K (.exit 2)) y1 y2 x17 x18) := r50_0_1g f107_0 f108_0 f19_0 α K Kn x16 x17 x18
theorem t50_0_1 (α : Type) (K : Exit → St → Option α) : ∀ (n : Nat) (x16 : Int) (x17 : Rows) (x18 : Rows), R50_0_1 α x17 x18 (fun (y1 : Int) => u50_0_1 (K .ret) y1 6) (fun (y1 : Int) (y2 : Bool) => u50_0_4 (K (.exit 2)) y1 y2 x17 x18) n x16 = u50_0_3 (loopT (runM Try.prog E50_0 sh50 c50_0_42) td50_42 K n) x16 x17 x18 := by
  intro n
  induction n with
  | zero => intros; rfl
  | succ n ih => intro x16 x17 x18; exact (congrArg (fun kn => S50_0_1 α x17 x18 x16 kn (fun (y1 : Int) => u50_0_1 (K .ret) y1 6) (fun (y1 : Int) (y2 : Bool) => u50_0_4 (K (.exit 2)) y1 y2 x17 x18)) (funext fun x16 => ih x16 x17 x18)).trans (r50_0_1 α K (loopT (runM Try.prog E50_0 sh50 c50_0_42) td50_42 K n) x16 x17 x18).symm
theorem m50_0_1 : ∀ (α : Type) (K : Exit → St → Option α), F50_0_1 L50_0_1 α K = p50_0_3.unc fun σ => loopT (runM Try.prog E50_0 sh50 c50_0_42) td50_42 K fuel σ := fun α K => funext fun x16 => funext fun x17 => funext fun x18 => t50_0_1 α K fuel x16 x17 x18

noncomputable def c50_0_13g  : MCode := (.seq (.seq (.region r50_16 [] (some ⟨[1, 4, 14], true, [], []⟩)) (.cond (.tmp 14) .skip (.exit 0))) (.seq (.block 1 (.seq (.seq (.region r50_22 [] (some ⟨[1, 4, 23], true, [], []⟩)) (.cond (.tmp 23) (.seq (.region r50_25 [] (some ⟨[2, 3], true, [], []⟩)) .ret) .skip)) (.seq (.region r50_27 [(3, 5), (3, 7), (3, 8)] (some ⟨[1, 4, 34], true, [], []⟩)) (.cond (.tmp 34) (.seq (.region r50_30 [] (some ⟨[2, 3], true, [], []⟩)) .ret) .skip)))) (.region r50_31 [] (some ⟨[1, 4], true, [], []⟩))))
noncomputable def c50_0_13 : MCode := c50_0_13g 
theorem g50_0_13 : c50_0_13.Good Try.prog E50_0 sh50 := ⟨⟨trivial, ⟨trivial, trivial⟩⟩, ⟨⟨⟨trivial, ⟨⟨trivial, trivial⟩, trivial⟩⟩, ⟨trivial, ⟨⟨trivial, trivial⟩, trivial⟩⟩⟩, trivial⟩⟩
--CODE 13 0
def S50_0_0g (vf107_0 : Tf107_0) (vf108_0 : Tf108_0) (α : Type) (x4 : Rows) (x3 : Int) (kn : Int → Option α) (k1 : Int → Int → Option α) (k2 : Int → Bool → Option α) : Option α :=
  cK (decide (x3 < ((List.length x4 : Nat) : Int)))
    (rowK x4 x3 [.str]
      (fun (x7 : ByteArray) => vf107_0 α x7
        (fun (x8 : Bool) => cK (!x8)
          (k1 x3 3)
          (gK (decide ((0 : Int) ≤ 0 ∧ 0 ≤ x3 ∧ x3 ≤ ((List.length x4 : Nat) : Int) ∧ allLen 1 x4 = true)) (rowK x4 x3 [.str]
            (fun (x9 : ByteArray) => vf108_0 α (List.drop 0 (List.take (Int.toNat x3) x4)) x9
              (fun (x10 : Bool) => cK x10
                (k1 x3 5)
                (kn (w64 (x3 + 1))))))))))
    (k2 x3 (decide (x3 < ((List.length x4 : Nat) : Int))))
noncomputable def S50_0_0 (α : Type) (x4 : Rows) (x3 : Int) (kn : Int → Option α) (k1 : Int → Int → Option α) (k2 : Int → Bool → Option α) : Option α := S50_0_0g f107_0 f108_0 α x4 x3 kn k1 k2
noncomputable def R50_0_0 (α : Type) (x4 : Rows) (k1 : Int → Int → Option α) (k2 : Int → Bool → Option α) : Nat → Int → Option α
  | 0, _ => none
  | n + 1, x3 => S50_0_0 α x4 x3 (R50_0_0 α x4 k1 k2 n) k1 k2
noncomputable def L50_0_0 (α : Type) (x4 : Rows) (k1 : Int → Int → Option α) (k2 : Int → Bool → Option α) (x3 : Int) : Option α := R50_0_0 α x4 k1 k2 fuel x3
abbrev TL50_0_0 : Type 1 := (α : Type) → Rows → (Int → Int → Option α) → (Int → Bool → Option α) → Int → Option α
def F50_0_0 (v : TL50_0_0) (α : Type) (K : Exit → St → Option α) : Int → Rows → Rows → Option α := fun x3 x4 x5 => v α x4 (fun (y1 : Int) (y2 : Int) => u50_0_1 (K .ret) y1 y2) (fun (y1 : Int) (y2 : Bool) => u50_0_2 (K (.exit 0)) y1 y2 x4 x5) x3
theorem r50_0_0g (vf107_0 : Tf107_0) (vf108_0 : Tf108_0) (vf19_0 : Tf19_0)  (α : Type) (K : Exit → St → Option α) (Kn : St → Option α) (x3 : Int) (x4 : Rows) (x5 : Rows) : u50_0_0 (fun σ => runM Try.prog (E50_0g vf107_0 vf108_0 vf19_0) sh50 (c50_0_13g ) (thenK (fun σ => tidyK td50_13 σ Kn) K) σ) x3 x4 x5 = S50_0_0g vf107_0 vf108_0 α x4 x3 (fun x3 => u50_0_0 Kn x3 x4 x5) (fun (y1 : Int) (y2 : Int) => u50_0_1 (K .ret) y1 y2) (fun (y1 : Int) (y2 : Bool) => u50_0_2 (K (.exit 0)) y1 y2 x4 x5) := by kernel_rfl
theorem r50_0_0 (α : Type) (K : Exit → St → Option α) (Kn : St → Option α) (x3 : Int) (x4 : Rows) (x5 : Rows) : u50_0_0 (fun σ => runM Try.prog E50_0 sh50 c50_0_13 (thenK (fun σ => tidyK td50_13 σ Kn) K) σ) x3 x4 x5 = S50_0_0 α x4 x3 (fun x3 => u50_0_0 Kn x3 x4 x5) (fun (y1 : Int) (y2 : Int) => u50_0_1 (K .ret) y1 y2) (fun (y1 : Int) (y2 : Bool) => u50_0_2 (K (.exit 0)) y1 y2 x4 x5) := r50_0_0g f107_0 f108_0 f19_0 α K Kn x3 x4 x5
theorem t50_0_0 (α : Type) (K : Exit → St → Option α) : ∀ (n : Nat) (x3 : Int) (x4 : Rows) (x5 : Rows), R50_0_0 α x4 (fun (y1 : Int) (y2 : Int) => u50_0_1 (K .ret) y1 y2) (fun (y1 : Int) (y2 : Bool) => u50_0_2 (K (.exit 0)) y1 y2 x4 x5) n x3 = u50_0_0 (loopT (runM Try.prog E50_0 sh50 c50_0_13) td50_13 K n) x3 x4 x5 := by
  intro n
  induction n with
  | zero => intros; rfl
  | succ n ih => intro x3 x4 x5; exact (congrArg (fun kn => S50_0_0 α x4 x3 kn (fun (y1 : Int) (y2 : Int) => u50_0_1 (K .ret) y1 y2) (fun (y1 : Int) (y2 : Bool) => u50_0_2 (K (.exit 0)) y1 y2 x4 x5)) (funext fun x3 => ih x3 x4 x5)).trans (r50_0_0 α K (loopT (runM Try.prog E50_0 sh50 c50_0_13) td50_13 K n) x3 x4 x5).symm
theorem m50_0_0 : ∀ (α : Type) (K : Exit → St → Option α), F50_0_0 L50_0_0 α K = p50_0_0.unc fun σ => loopT (runM Try.prog E50_0 sh50 c50_0_13) td50_13 K fuel σ := fun α K => funext fun x3 => funext fun x4 => funext fun x5 => t50_0_0 α K fuel x3 x4 x5

/-- etalon/etalonref08.CheckChamber -/
abbrev Tf50_0 : Type 1 := (α : Type) → Rows → Rows → (Int → Int → Option α) → Option α
def f50_0g (vL50_0_0 : TL50_0_0) (vL50_0_1 : TL50_0_1) (α : Type) (x1 : Rows) (x2 : Rows) (k1 : Int → Int → Option α) : Option α :=
  cK (decide (8 < ((List.length x1 : Nat) : Int)))
    (k1 0 8)
    (vL50_0_0 α x1
      (fun (x11 : Int) (x12 : Int) => k1 x11 x12)
      (fun (x13 : Int) (x14 : Bool) => cK (decide (30 < ((List.length x2 : Nat) : Int)))
        (k1 0 8)
        (vL50_0_1 α x1 x2
          (fun (x30 : Int) => k1 x30 6)
          (fun (x31 : Int) (x32 : Bool) => k1 0 0) 0)) 0)
noncomputable def f50_0 (α : Type) (x1 : Rows) (x2 : Rows) (k1 : Int → Int → Option α) : Option α := f50_0g L50_0_0 L50_0_1 α x1 x2 k1
def pa50_0 : PT (List DV) := pA [pV true [dL, dL]]
def Fn50_0 (v : Tf50_0) (α : Type) (k : List RV → Option α) : Rows → Rows → Option α := fun x1 x2 => v α x1 x2 (fun (y1 : Int) (y2 : Int) => ur50_0_0 k y1 y2)
noncomputable def cm50_0g (vL50_0_0 : TL50_0_0) (vL50_0_1 : TL50_0_1) : MCode := (.seq (.region r50_2 [] (some ⟨[1], true, [], []⟩)) (.seq (.seq (.region r50_5 [] (some ⟨[1, 9], true, [], []⟩)) (.cond (.tmp 9) (.seq (.region r50_8 [] (some ⟨[2, 3], true, [], []⟩)) .ret) .skip)) (.seq (.seq (.region r50_11 [] (some ⟨[1, 4], true, [], []⟩)) (.block 0 (.loop td50_13 [⟨p50_0_0, F50_0_0 vL50_0_0⟩] c50_0_13))) (.seq (.seq (.region r50_34 [] (some ⟨[1, 39], true, [], []⟩)) (.cond (.tmp 39) (.seq (.region r50_37 [] (some ⟨[2, 3], true, [], []⟩)) .ret) .skip)) (.seq (.seq (.region r50_40 [] (some ⟨[1, 5], true, [], []⟩)) (.block 2 (.loop td50_42 [⟨p50_0_3, F50_0_1 vL50_0_1⟩] c50_0_42))) (.seq (.region r50_56 [] (some ⟨[2, 3], true, [], []⟩)) .ret))))))
noncomputable def cm50_0 : MCode := cm50_0g L50_0_0 L50_0_1
theorem gm50_0 : cm50_0.Good Try.prog E50_0 sh50 := ⟨trivial, ⟨⟨trivial, ⟨⟨trivial, trivial⟩, trivial⟩⟩, ⟨⟨trivial, ⟨g50_0_13, m50_0_0, trivial⟩⟩, ⟨⟨trivial, ⟨⟨trivial, trivial⟩, trivial⟩⟩, ⟨⟨trivial, ⟨g50_0_42, m50_0_1, trivial⟩⟩, ⟨trivial, trivial⟩⟩⟩⟩⟩⟩
theorem fm50_0g (vf107_0 : Tf107_0) (vf108_0 : Tf108_0) (vf19_0 : Tf19_0) (vL50_0_0 : TL50_0_0) (vL50_0_1 : TL50_0_1) (α : Type) (k : List RV → Option α) : Fn50_0 (f50_0g vL50_0_0 vL50_0_1) α k = pa50_0.unc fun ds => fnM Try.prog (E50_0g vf107_0 vf108_0 vf19_0) sh50 (cm50_0g vL50_0_0 vL50_0_1) rs50 k ds := by kernel_rfl
theorem fm50_0 : ∀ (α : Type) (k : List RV → Option α), Fn50_0 f50_0 α k = pa50_0.unc fun ds => fnM Try.prog E50_0 sh50 cm50_0 rs50 k ds := fm50_0g f107_0 f108_0 f19_0 L50_0_0 L50_0_1

theorem is50 : FnIs Try.prog 50 nt50 tr50 tl50 cm50_0.erase rs50 := ⟨Try.f50, Try.func50, rfl, by kernel_rfl, by kernel_rfl, by kernel_rfl⟩
theorem io50_0 : InstOk Try.prog 50 nt50 ⟨pa50_0, Fn50_0 f50_0⟩ := inst_ok eo50_0 followsTry is50 ⟨⟨sh50, cm50_0, by kernel_rfl, gm50_0, fm50_0⟩⟩

/-! ### F106 (etalon/grow.state).list -/
abbrev nt106 : Nat := 19
def sh106 : List (Nat × List Sh) := []
def r106_2 : List AOper := [⟨(some 4), (.mv (.const (.slice none 0 0))), none⟩]
def r106_4 : List AOper := [⟨(some 5), (.mv (.const (.slice none 0 0))), none⟩]
def r106_7 : List AOper := [⟨(some 7), (.mv (.tmp 1)), none⟩, ⟨(some 8), (.mv (.const (.int .i64 0))), none⟩]
def td106_9 : Option Tidy := (some ⟨[0, 5, 7, 8], true, [⟨false, 5, 0, 20005, 1⟩], []⟩)
def r106_11 : List AOper := [⟨(some 9), (.bin .lss 3 (.tmp 8) (.tmp 7)), none⟩]
def r106_17 : List AOper := [⟨(some 10), (.mv (.tmp 8)), none⟩, ⟨(some 6), (.mv (.tmp 10)), none⟩]
def r106_18 : List AOper := [⟨(some 11), (.mv (.tmp 5)), none⟩, ⟨(some 12), (.mv (.tmp 0)), none⟩, ⟨(some 13), (.mv (.tmp 6)), none⟩, ⟨(some 14), (.call 129 [(.tmp 12), (.tmp 13)]), none⟩, ⟨(some 15), (.bslice 1 1 [(.v (.bool false))] [(0, (.tmp 14))]), none⟩, ⟨(some 16), (.append 1 1 (.tmp 11) (.tmp 15)), none⟩, ⟨(some 5), (.mv (.tmp 16)), none⟩]
def r106_19 : List AOper := [⟨(some 17), (.bin .add 3 (.tmp 8) (.const (.int .i64 1))), none⟩, ⟨(some 8), (.mv (.tmp 17)), none⟩]
def r106_21 : List AOper := [⟨(some 18), (.mv (.tmp 5)), none⟩, ⟨(some 4), (.mv (.tmp 18)), none⟩]
def tr106 : List (Nat × Tidy) := [(0, ⟨[0, 1], true, [], []⟩), (1, ⟨[0, 1, 5], true, [], []⟩), (2, ⟨[0, 5, 7, 8], true, [], []⟩), (3, ⟨[0, 5, 7, 8, 9], true, [], []⟩), (4, ⟨[0, 5, 6, 7, 8], true, [], []⟩), (5, ⟨[0, 5, 7, 8], true, [], []⟩), (6, ⟨[0, 5, 7, 8], true, [], []⟩), (7, ⟨[4], true, [⟨false, 4, 0, 20004, 1⟩], []⟩)]
def tl106 : List (Nat × Tidy) := [(3, ⟨[0, 5, 7, 8], true, [⟨false, 5, 0, 20005, 1⟩], []⟩)]
def rs106 : List AResV := [.tmp 4]
def p106_0_0 : PT St := pS [sl 0 (aV false [(cD (dI .i64))]), sl 5 (aV false [(cRef 20005)]), sl 7 (aV false [(cD (dI .i64))]), sl 8 (aV false [(cD (dI .i64))])] [eOwn 20005 1]
def u106_0_0 {β : Type} (g : St → β) : Int → Int → Int → Rows → β := p106_0_0.unc g

def p106_0_1 : PT St := pS [sl 0 (aV false [(cD (dI .i64))]), sl 5 (aV false [(cRef 20005)]), sl 7 (aV false [(cD (dI .i64))]), sl 8 (aV false [(cD (dI .i64))]), sl 9 (aV false [(cD dB)])] [eOwn 20005 1]
def u106_0_1 {β : Type} (g : St → β) : Int → Int → Int → Bool → Rows → β := p106_0_1.unc g

def pr106_0_0 : PT (List RV) := pRs [pR false [rO 1]]
def ur106_0_0 {β : Type} (g : List RV → β) : Rows → β := pr106_0_0.unc g

def E106_0g (vf129_0 : Tf129_0) : EnvK := EnvK.of [⟨129, nt129, [⟨pa129_0, Fn129_0 vf129_0⟩]⟩] noSeq
noncomputable def E106_0 : EnvK := E106_0g f129_0
theorem eo106_0 : E106_0.Ok Try.prog := EnvK.of_ok noSeq_ok ⟨⟨io129_0, trivial⟩, trivial⟩

noncomputable def c106_0_9g  : MCode := (.seq (.region r106_11 [] (some ⟨[0, 5, 7, 8, 9], true, [], []⟩)) (.seq (.cond (.tmp 9) .skip (.exit 0)) (.seq (.block 1 (.seq (.region r106_17 [] (some ⟨[0, 5, 6, 7, 8], true, [], []⟩)) (.region r106_18 [] (some ⟨[0, 5, 7, 8], true, [], []⟩)))) (.region r106_19 [] (some ⟨[0, 5, 7, 8], true, [], []⟩)))))
noncomputable def c106_0_9 : MCode := c106_0_9g 
theorem g106_0_9 : c106_0_9.Good Try.prog E106_0 sh106 := ⟨trivial, ⟨⟨trivial, trivial⟩, ⟨⟨trivial, trivial⟩, trivial⟩⟩⟩
--CODE 9 0
def S106_0_0g (vf129_0 : Tf129_0) (α : Type) (x3 : Int) (x4 : Int) (x5 : Int) (x6 : Rows) (kn : Int → Rows → Option α) (k1 : Int → Bool → Rows → Option α) : Option α :=
  cK (decide (x5 < x4))
    (vf129_0 α x3 x5
      (fun (x8 : Bool) => gK (apOk 1 1 x6 [[DC.v (.bool x8)]]) (kn (w64 (x5 + 1)) (x6 ++ [[DC.v (.bool x8)]]))))
    (k1 x5 (decide (x5 < x4)) x6)
noncomputable def S106_0_0 (α : Type) (x3 : Int) (x4 : Int) (x5 : Int) (x6 : Rows) (kn : Int → Rows → Option α) (k1 : Int → Bool → Rows → Option α) : Option α := S106_0_0g f129_0 α x3 x4 x5 x6 kn k1
noncomputable def R106_0_0 (α : Type) (x3 : Int) (x4 : Int) (k1 : Int → Bool → Rows → Option α) : Nat → Int → Rows → Option α
  | 0, _, _ => none
  | n + 1, x5, x6 => S106_0_0 α x3 x4 x5 x6 (R106_0_0 α x3 x4 k1 n) k1
noncomputable def L106_0_0 (α : Type) (x3 : Int) (x4 : Int) (k1 : Int → Bool → Rows → Option α) (x5 : Int) (x6 : Rows) : Option α := R106_0_0 α x3 x4 k1 fuel x5 x6
abbrev TL106_0_0 : Type 1 := (α : Type) → Int → Int → (Int → Bool → Rows → Option α) → Int → Rows → Option α
def F106_0_0 (v : TL106_0_0) (α : Type) (K : Exit → St → Option α) : Int → Int → Int → Rows → Option α := fun x3 x4 x5 x6 => v α x3 x4 (fun (y1 : Int) (y2 : Bool) (y3 : Rows) => u106_0_1 (K (.exit 0)) x3 x4 y1 y2 y3) x5 x6
theorem r106_0_0g (vf129_0 : Tf129_0)  (α : Type) (K : Exit → St → Option α) (Kn : St → Option α) (x3 : Int) (x4 : Int) (x5 : Int) (x6 : Rows) : u106_0_0 (fun σ => runM Try.prog (E106_0g vf129_0) sh106 (c106_0_9g ) (thenK (fun σ => tidyK td106_9 σ Kn) K) σ) x3 x4 x5 x6 = S106_0_0g vf129_0 α x3 x4 x5 x6 (fun x5 x6 => u106_0_0 Kn x3 x4 x5 x6) (fun (y1 : Int) (y2 : Bool) (y3 : Rows) => u106_0_1 (K (.exit 0)) x3 x4 y1 y2 y3) := by kernel_rfl
theorem r106_0_0 (α : Type) (K : Exit → St → Option α) (Kn : St → Option α) (x3 : Int) (x4 : Int) (x5 : Int) (x6 : Rows) : u106_0_0 (fun σ => runM Try.prog E106_0 sh106 c106_0_9 (thenK (fun σ => tidyK td106_9 σ Kn) K) σ) x3 x4 x5 x6 = S106_0_0 α x3 x4 x5 x6 (fun x5 x6 => u106_0_0 Kn x3 x4 x5 x6) (fun (y1 : Int) (y2 : Bool) (y3 : Rows) => u106_0_1 (K (.exit 0)) x3 x4 y1 y2 y3) := r106_0_0g f129_0 α K Kn x3 x4 x5 x6
theorem t106_0_0 (α : Type) (K : Exit → St → Option α) : ∀ (n : Nat) (x3 : Int) (x4 : Int) (x5 : Int) (x6 : Rows), R106_0_0 α x3 x4 (fun (y1 : Int) (y2 : Bool) (y3 : Rows) => u106_0_1 (K (.exit 0)) x3 x4 y1 y2 y3) n x5 x6 = u106_0_0 (loopT (runM Try.prog E106_0 sh106 c106_0_9) td106_9 K n) x3 x4 x5 x6 := by
  intro n
  induction n with
  | zero => intros; rfl
  | succ n ih => intro x3 x4 x5 x6; exact (congrArg (fun kn => S106_0_0 α x3 x4 x5 x6 kn (fun (y1 : Int) (y2 : Bool) (y3 : Rows) => u106_0_1 (K (.exit 0)) x3 x4 y1 y2 y3)) (funext fun x5 => funext fun x6 => ih x3 x4 x5 x6)).trans (r106_0_0 α K (loopT (runM Try.prog E106_0 sh106 c106_0_9) td106_9 K n) x3 x4 x5 x6).symm
theorem m106_0_0 : ∀ (α : Type) (K : Exit → St → Option α), F106_0_0 L106_0_0 α K = p106_0_0.unc fun σ => loopT (runM Try.prog E106_0 sh106 c106_0_9) td106_9 K fuel σ := fun α K => funext fun x3 => funext fun x4 => funext fun x5 => funext fun x6 => t106_0_0 α K fuel x3 x4 x5 x6

/-- (etalon/grow.state).list -/
abbrev Tf106_0 : Type 1 := (α : Type) → Int → Int → (Rows → Option α) → Option α
def f106_0g (vL106_0_0 : TL106_0_0) (α : Type) (x1 : Int) (x2 : Int) (k1 : Rows → Option α) : Option α :=
  vL106_0_0 α x1 x2
    (fun (x9 : Int) (x10 : Bool) (x11 : Rows) => k1 x11) 0 ([] : Rows)
noncomputable def f106_0 (α : Type) (x1 : Int) (x2 : Int) (k1 : Rows → Option α) : Option α := f106_0g L106_0_0 α x1 x2 k1
def pa106_0 : PT (List DV) := pA [pV false [(dI .i64)], pV false [(dI .i64)]]
def Fn106_0 (v : Tf106_0) (α : Type) (k : List RV → Option α) : Int → Int → Option α := fun x1 x2 => v α x1 x2 (fun (y1 : Rows) => ur106_0_0 k y1)
noncomputable def cm106_0g (vL106_0_0 : TL106_0_0) : MCode := (.seq (.region r106_2 [] (some ⟨[0, 1], true, [], []⟩)) (.seq (.region r106_4 [] (some ⟨[0, 1, 5], true, [], []⟩)) (.seq (.seq (.region r106_7 [] (some ⟨[0, 5, 7, 8], true, [], []⟩)) (.block 0 (.loop td106_9 [⟨p106_0_0, F106_0_0 vL106_0_0⟩] c106_0_9))) (.seq (.region r106_21 [] (some ⟨[4], true, [⟨false, 4, 0, 20004, 1⟩], []⟩)) .ret))))
noncomputable def cm106_0 : MCode := cm106_0g L106_0_0
theorem gm106_0 : cm106_0.Good Try.prog E106_0 sh106 := ⟨trivial, ⟨trivial, ⟨⟨trivial, ⟨g106_0_9, m106_0_0, trivial⟩⟩, ⟨trivial, trivial⟩⟩⟩⟩
theorem fm106_0g (vf129_0 : Tf129_0) (vL106_0_0 : TL106_0_0) (α : Type) (k : List RV → Option α) : Fn106_0 (f106_0g vL106_0_0) α k = pa106_0.unc fun ds => fnM Try.prog (E106_0g vf129_0) sh106 (cm106_0g vL106_0_0) rs106 k ds := by kernel_rfl
theorem fm106_0 : ∀ (α : Type) (k : List RV → Option α), Fn106_0 f106_0 α k = pa106_0.unc fun ds => fnM Try.prog E106_0 sh106 cm106_0 rs106 k ds := fm106_0g f129_0 L106_0_0

theorem is106 : FnIs Try.prog 106 nt106 tr106 tl106 cm106_0.erase rs106 := ⟨Try.f106, Try.func106, rfl, by kernel_rfl, by kernel_rfl, by kernel_rfl⟩
theorem io106_0 : InstOk Try.prog 106 nt106 ⟨pa106_0, Fn106_0 f106_0⟩ := inst_ok eo106_0 followsTry is106 ⟨⟨sh106, cm106_0, by kernel_rfl, gm106_0, fm106_0⟩⟩

/-! ### F128 (etalon/grow.chamber).broken$1 -/
abbrev nt128 : Nat := 20
def sh128 : List (Nat × List Sh) := [(4, [.int .i64]), (6, [.int .i64]), (9, [.bool]), (12, [.int .i64]), (14, [.int .i64]), (17, [.bool])]
def r128_2 : List AOper := [⟨(some 2), (.box (.tmp 0)), none⟩, ⟨(some 3), (.mv (.const (.bool false))), none⟩]
def r128_4 : List AOper := [⟨(some 4), (.load false 1 (.tmp 1)), none⟩, ⟨(some 5), (.faddr 0 (.tmp 2)), none⟩, ⟨(some 6), (.load false 1 (.tmp 5)), none⟩, ⟨(some 7), (.call 129 [(.tmp 4), (.tmp 6)]), none⟩, ⟨(some 8), (.faddr 1 (.tmp 2)), none⟩, ⟨(some 9), (.load false 1 (.tmp 8)), none⟩, ⟨(some 10), (.bin .eql 4 (.tmp 7) (.tmp 9)), none⟩, ⟨(some 11), (.mv (.tmp 10)), none⟩, ⟨(some 12), (.load false 1 (.tmp 1)), (some (11, true))⟩, ⟨(some 13), (.faddr 2 (.tmp 2)), (some (11, true))⟩, ⟨(some 14), (.load false 1 (.tmp 13)), (some (11, true))⟩, ⟨(some 15), (.call 129 [(.tmp 12), (.tmp 14)]), (some (11, true))⟩, ⟨(some 16), (.faddr 3 (.tmp 2)), (some (11, true))⟩, ⟨(some 17), (.load false 1 (.tmp 16)), (some (11, true))⟩, ⟨(some 18), (.bin .neq 4 (.tmp 15) (.tmp 17)), (some (11, true))⟩, ⟨(some 19), (.pick (.tmp 11) (.tmp 18) (.const (.bool false))), none⟩, ⟨(some 3), (.mv (.tmp 19)), none⟩]
def tr128 : List (Nat × Tidy) := [(0, ⟨[1, 2], true, [], []⟩), (1, ⟨[3], true, [], []⟩)]
def tl128 : List (Nat × Tidy) := []
def rs128 : List AResV := [.tmp 3]
def pr128_0_0 : PT (List RV) := pRs [pR false [rD dB]]
def ur128_0_0 {β : Type} (g : List RV → β) : Bool → β := pr128_0_0.unc g

def E128_0g (vf129_0 : Tf129_0) : EnvK := EnvK.of [⟨129, nt129, [⟨pa129_0, Fn129_0 vf129_0⟩]⟩] noSeq
noncomputable def E128_0 : EnvK := E128_0g f129_0
theorem eo128_0 : E128_0.Ok Try.prog := EnvK.of_ok noSeq_ok ⟨⟨io129_0, trivial⟩, trivial⟩

/-- (etalon/grow.chamber).broken$1 -/
abbrev Tf128_0 : Type 1 := (α : Type) → Int → Bool → Int → Bool → Int → (Bool → Option α) → Option α
def f128_0g (vf129_0 : Tf129_0) (α : Type) (x1 : Int) (x2 : Bool) (x3 : Int) (x4 : Bool) (x5 : Int) (k1 : Bool → Option α) : Option α :=
  vf129_0 α x5 x1
    (fun (x6 : Bool) => cK (x6 == x2)
      (vf129_0 α x5 x3
        (fun (x7 : Bool) => k1 (!(x7 == x4))))
      (k1 false))
noncomputable def f128_0 (α : Type) (x1 : Int) (x2 : Bool) (x3 : Int) (x4 : Bool) (x5 : Int) (k1 : Bool → Option α) : Option α := f128_0g f129_0 α x1 x2 x3 x4 x5 k1
def pa128_0 : PT (List DV) := pA [pV true [(dI .i64), dB, (dI .i64), dB], pV false [(dP [(dI .i64)] 0)]]
def Fn128_0 (v : Tf128_0) (α : Type) (k : List RV → Option α) : Int → Bool → Int → Bool → Int → Option α := fun x1 x2 x3 x4 x5 => v α x1 x2 x3 x4 x5 (fun (y1 : Bool) => ur128_0_0 k y1)
noncomputable def cm128_0g  : MCode := (.seq (.region r128_2 [] (some ⟨[1, 2], true, [], []⟩)) (.seq (.region r128_4 [(3, 5), (11, 13)] (some ⟨[3], true, [], []⟩)) .ret))
noncomputable def cm128_0 : MCode := cm128_0g 
theorem gm128_0 : cm128_0.Good Try.prog E128_0 sh128 := ⟨trivial, ⟨trivial, trivial⟩⟩
theorem fm128_0g (vf129_0 : Tf129_0)  (α : Type) (k : List RV → Option α) : Fn128_0 (f128_0g vf129_0) α k = pa128_0.unc fun ds => fnM Try.prog (E128_0g vf129_0) sh128 (cm128_0g ) rs128 k ds := by kernel_rfl
theorem fm128_0 : ∀ (α : Type) (k : List RV → Option α), Fn128_0 f128_0 α k = pa128_0.unc fun ds => fnM Try.prog E128_0 sh128 cm128_0 rs128 k ds := fm128_0g f129_0

theorem is128 : FnIs Try.prog 128 nt128 tr128 tl128 cm128_0.erase rs128 := ⟨Try.f128, Try.func128, rfl, by kernel_rfl, by kernel_rfl, by kernel_rfl⟩
theorem io128_0 : InstOk Try.prog 128 nt128 ⟨pa128_0, Fn128_0 f128_0⟩ := inst_ok eo128_0 followsTry is128 ⟨⟨sh128, cm128_0, by kernel_rfl, gm128_0, fm128_0⟩⟩

/-! ### F101 slices.Contains[[]string,string] -/
abbrev nt101 : Nat := 9
def sh101 : List (Nat × List Sh) := []
def r101_2 : List AOper := [⟨(some 4), (.mv (.const (.bool false))), none⟩]
def r101_4 : List AOper := [⟨(some 5), (.mv (.tmp 0)), none⟩, ⟨(some 6), (.mv (.tmp 1)), none⟩, ⟨(some 7), (.call 125 [(.tmp 5), (.tmp 6)]), none⟩, ⟨(some 8), (.bin .geq 3 (.tmp 7) (.const (.int .i64 0))), none⟩, ⟨(some 4), (.mv (.tmp 8)), none⟩]
def tr101 : List (Nat × Tidy) := [(0, ⟨[0, 1], true, [], []⟩), (1, ⟨[4], true, [], []⟩)]
def tl101 : List (Nat × Tidy) := []
def rs101 : List AResV := [.tmp 4]
def pr101_0_0 : PT (List RV) := pRs [pR false [rD dB]]
def ur101_0_0 {β : Type} (g : List RV → β) : Bool → β := pr101_0_0.unc g

def E101_0g (vf125_0 : Tf125_0) : EnvK := EnvK.of [⟨125, nt125, [⟨pa125_0, Fn125_0 vf125_0⟩]⟩] noSeq
noncomputable def E101_0 : EnvK := E101_0g f125_0
theorem eo101_0 : E101_0.Ok Try.prog := EnvK.of_ok noSeq_ok ⟨⟨io125_0, trivial⟩, trivial⟩

/-- slices.Contains[[]string,string] -/
abbrev Tf101_0 : Type 1 := (α : Type) → Rows → ByteArray → (Bool → Option α) → Option α
def f101_0g (vf125_0 : Tf125_0) (α : Type) (x1 : Rows) (x2 : ByteArray) (k1 : Bool → Option α) : Option α :=
  vf125_0 α x1 x2
    (fun (x3 : Int) => k1 (decide (0 ≤ x3)))
noncomputable def f101_0 (α : Type) (x1 : Rows) (x2 : ByteArray) (k1 : Bool → Option α) : Option α := f101_0g f125_0 α x1 x2 k1
def pa101_0 : PT (List DV) := pA [pV false [dL], pV false [dS]]
def Fn101_0 (v : Tf101_0) (α : Type) (k : List RV → Option α) : Rows → ByteArray → Option α := fun x1 x2 => v α x1 x2 (fun (y1 : Bool) => ur101_0_0 k y1)
noncomputable def cm101_0g  : MCode := (.seq (.region r101_2 [] (some ⟨[0, 1], true, [], []⟩)) (.seq (.region r101_4 [] (some ⟨[4], true, [], []⟩)) .ret))
noncomputable def cm101_0 : MCode := cm101_0g 
theorem gm101_0 : cm101_0.Good Try.prog E101_0 sh101 := ⟨trivial, ⟨trivial, trivial⟩⟩
theorem fm101_0g (vf125_0 : Tf125_0)  (α : Type) (k : List RV → Option α) : Fn101_0 (f101_0g vf125_0) α k = pa101_0.unc fun ds => fnM Try.prog (E101_0g vf125_0) sh101 (cm101_0g ) rs101 k ds := by kernel_rfl
theorem fm101_0 : ∀ (α : Type) (k : List RV → Option α), Fn101_0 f101_0 α k = pa101_0.unc fun ds => fnM Try.prog E101_0 sh101 cm101_0 rs101 k ds := fm101_0g f125_0

theorem is101 : FnIs Try.prog 101 nt101 tr101 tl101 cm101_0.erase rs101 := ⟨Try.f101, Try.func101, rfl, by kernel_rfl, by kernel_rfl, by kernel_rfl⟩
theorem io101_0 : InstOk Try.prog 101 nt101 ⟨pa101_0, Fn101_0 f101_0⟩ := inst_ok eo101_0 followsTry is101 ⟨⟨sh101, cm101_0, by kernel_rfl, gm101_0, fm101_0⟩⟩

/-! ### F46 etalon/etalonref08.CopyChamber -/
abbrev nt46 : Nat := 11
def sh46 : List (Nat × List Sh) := [(4, [.sl]), (8, [.sl])]
def r46_2 : List AOper := [⟨(some 1), (.box (.tmp 0)), none⟩, ⟨(some 2), (.alloc [.nils, .nils]), none⟩]
def r46_4 : List AOper := [⟨(some 3), (.faddr 0 (.tmp 1)), none⟩, ⟨(some 4), (.load false 1 (.tmp 3)), none⟩, ⟨(some 5), (.call 102 [(.tmp 4)]), none⟩, ⟨(some 6), (.bslice 4 0 [(.v (.int .i64 0)), (.v (.bool false)), (.v (.int .i64 0)), (.v (.bool false))] []), none⟩, ⟨(some 7), (.faddr 1 (.tmp 1)), none⟩, ⟨(some 8), (.load false 1 (.tmp 7)), none⟩, ⟨(some 9), (.append 4 32 (.tmp 6) (.tmp 8)), none⟩, ⟨(some 10), (.build [.nils, .nils] [(0, 1, (.tmp 5)), (1, 1, (.tmp 9))]), none⟩, ⟨none, (.store 2 (.tmp 2) (.tmp 10)), none⟩]
def tr46 : List (Nat × Tidy) := [(0, ⟨[1, 2], true, [⟨true, 2, 0, 30200, 1⟩, ⟨true, 2, 1, 30201, 4⟩], []⟩), (1, ⟨[2], true, [⟨true, 2, 0, 30200, 1⟩, ⟨true, 2, 1, 30201, 4⟩], []⟩)]
def tl46 : List (Nat × Tidy) := []
def rs46 : List AResV := [.cell 2 true 2]
def pr46_0_0 : PT (List RV) := pRs [pR true [rO 1, rO 4]]
def ur46_0_0 {β : Type} (g : List RV → β) : Rows → Rows → β := pr46_0_0.unc g

def E46_0g (vf102_0 : Tf102_0) : EnvK := EnvK.of [⟨102, nt102, [⟨pa102_0, Fn102_0 vf102_0⟩]⟩] noSeq
noncomputable def E46_0 : EnvK := E46_0g f102_0
theorem eo46_0 : E46_0.Ok Try.prog := EnvK.of_ok noSeq_ok ⟨⟨io102_0, trivial⟩, trivial⟩

/-- etalon/etalonref08.CopyChamber -/
abbrev Tf46_0 : Type 1 := (α : Type) → Rows → Rows → (Rows → Rows → Option α) → Option α
def f46_0g (vf102_0 : Tf102_0) (α : Type) (x1 : Rows) (x2 : Rows) (k1 : Rows → Rows → Option α) : Option α :=
  vf102_0 α x1
    (fun (x3 : Rows) => gK (apOk 4 32 ([] : Rows) x2) (k1 x3 (([] : Rows) ++ x2)))
noncomputable def f46_0 (α : Type) (x1 : Rows) (x2 : Rows) (k1 : Rows → Rows → Option α) : Option α := f46_0g f102_0 α x1 x2 k1
def pa46_0 : PT (List DV) := pA [pV true [dL, dL]]
def Fn46_0 (v : Tf46_0) (α : Type) (k : List RV → Option α) : Rows → Rows → Option α := fun x1 x2 => v α x1 x2 (fun (y1 : Rows) (y2 : Rows) => ur46_0_0 k y1 y2)
noncomputable def cm46_0g  : MCode := (.seq (.region r46_2 [] (some ⟨[1, 2], true, [⟨true, 2, 0, 30200, 1⟩, ⟨true, 2, 1, 30201, 4⟩], []⟩)) (.seq (.region r46_4 [(1, 3), (2, 3), (2, 5), (3, 5)] (some ⟨[2], true, [⟨true, 2, 0, 30200, 1⟩, ⟨true, 2, 1, 30201, 4⟩], []⟩)) .ret))
noncomputable def cm46_0 : MCode := cm46_0g 
theorem gm46_0 : cm46_0.Good Try.prog E46_0 sh46 := ⟨trivial, ⟨trivial, trivial⟩⟩
theorem fm46_0g (vf102_0 : Tf102_0)  (α : Type) (k : List RV → Option α) : Fn46_0 (f46_0g vf102_0) α k = pa46_0.unc fun ds => fnM Try.prog (E46_0g vf102_0) sh46 (cm46_0g ) rs46 k ds := by kernel_rfl
theorem fm46_0 : ∀ (α : Type) (k : List RV → Option α), Fn46_0 f46_0 α k = pa46_0.unc fun ds => fnM Try.prog E46_0 sh46 cm46_0 rs46 k ds := fm46_0g f102_0

theorem is46 : FnIs Try.prog 46 nt46 tr46 tl46 cm46_0.erase rs46 := ⟨Try.f46, Try.func46, rfl, by kernel_rfl, by kernel_rfl, by kernel_rfl⟩
theorem io46_0 : InstOk Try.prog 46 nt46 ⟨pa46_0, Fn46_0 f46_0⟩ := inst_ok eo46_0 followsTry is46 ⟨⟨sh46, cm46_0, by kernel_rfl, gm46_0, fm46_0⟩⟩

/-! ### F127 slices.IndexFunc[[]etalon/api.GrowRule,etalon/api.GrowRule] -/
abbrev nt127 : Nat := 19
def sh127 : List (Nat × List Sh) := [(14, [.int .i64, .bool, .int .i64, .bool]), (15, [.int .i64, .bool, .int .i64, .bool])]
def r127_2 : List AOper := [⟨(some 4), (.mv (.const (.int .i64 0))), none⟩]
def r127_5 : List AOper := [⟨(some 6), (.mv (.tmp 0)), none⟩, ⟨(some 7), (.len (.tmp 6)), none⟩, ⟨(some 8), (.mv (.const (.int .i64 0))), none⟩]
def td127_7 : Option Tidy := (some ⟨[0, 1, 7, 8], true, [], []⟩)
def r127_9 : List AOper := [⟨(some 9), (.bin .lss 3 (.tmp 8) (.tmp 7)), none⟩]
def r127_15 : List AOper := [⟨(some 10), (.mv (.tmp 8)), none⟩, ⟨(some 5), (.mv (.tmp 10)), none⟩]
def r127_17 : List AOper := [⟨(some 11), (.mv (.tmp 1)), none⟩, ⟨(some 12), (.mv (.tmp 0)), none⟩, ⟨(some 13), (.mv (.tmp 5)), none⟩, ⟨(some 14), (.iaddr 4 none (.tmp 12) (.tmp 13)), none⟩, ⟨(some 15), (.load true 4 (.tmp 14)), none⟩, ⟨(some 16), (.calld (.tmp 11) [(.tmp 15)]), none⟩]
def r127_20 : List AOper := [⟨(some 17), (.mv (.tmp 5)), none⟩, ⟨(some 4), (.mv (.tmp 17)), none⟩]
def r127_21 : List AOper := [⟨(some 18), (.bin .add 3 (.tmp 8) (.const (.int .i64 1))), none⟩, ⟨(some 8), (.mv (.tmp 18)), none⟩]
def r127_23 : List AOper := [⟨(some 4), (.mv (.const (.int .i64 (-1)))), none⟩]
def tr127 : List (Nat × Tidy) := [(0, ⟨[0, 1], true, [], []⟩), (1, ⟨[0, 1, 7, 8], true, [], []⟩), (2, ⟨[0, 1, 7, 8, 9], true, [], []⟩), (3, ⟨[0, 1, 5, 7, 8], true, [], []⟩), (4, ⟨[0, 1, 5, 7, 8, 16], true, [], []⟩), (5, ⟨[4], true, [], []⟩), (6, ⟨[0, 1, 7, 8], true, [], []⟩), (7, ⟨[4], true, [], []⟩)]
def tl127 : List (Nat × Tidy) := [(2, ⟨[0, 1, 7, 8], true, [], []⟩)]
def rs127 : List AResV := [.tmp 4]
def p127_0_0 : PT St := pS [sl 0 (aV false [(cD dL)]), sl 1 (aV false [(cD (dFn 128 [(dP [(dI .i64)] 0)]))]), sl 7 (aV false [(cD (dI .i64))]), sl 8 (aV false [(cD (dI .i64))])] []
def u127_0_0 {β : Type} (g : St → β) : Rows → Int → Int → Int → β := p127_0_0.unc g

def p127_0_1 : PT St := pS [sl 4 (aV false [(cD (dI .i64))])] []
def u127_0_1 {β : Type} (g : St → β) : Int → β := p127_0_1.unc g

def p127_0_2 : PT St := pS [sl 0 (aV false [(cD dL)]), sl 1 (aV false [(cD (dFn 128 [(dP [(dI .i64)] 0)]))]), sl 7 (aV false [(cD (dI .i64))]), sl 8 (aV false [(cD (dI .i64))]), sl 9 (aV false [(cD dB)])] []
def u127_0_2 {β : Type} (g : St → β) : Rows → Int → Int → Int → Bool → β := p127_0_2.unc g

def pr127_0_0 : PT (List RV) := pRs [pR false [rD (dI .i64)]]
def ur127_0_0 {β : Type} (g : List RV → β) : Int → β := pr127_0_0.unc g

def E127_0g (vf128_0 : Tf128_0) : EnvK := EnvK.of [⟨128, nt128, [⟨pa128_0, Fn128_0 vf128_0⟩]⟩] noSeq
noncomputable def E127_0 : EnvK := E127_0g f128_0
theorem eo127_0 : E127_0.Ok Try.prog := EnvK.of_ok noSeq_ok ⟨⟨io128_0, trivial⟩, trivial⟩

noncomputable def c127_0_7g  : MCode := (.seq (.region r127_9 [] (some ⟨[0, 1, 7, 8, 9], true, [], []⟩)) (.seq (.cond (.tmp 9) .skip (.exit 0)) (.seq (.block 1 (.seq (.region r127_15 [] (some ⟨[0, 1, 5, 7, 8], true, [], []⟩)) (.seq (.region r127_17 [] (some ⟨[0, 1, 5, 7, 8, 16], true, [], []⟩)) (.cond (.tmp 16) (.seq (.region r127_20 [] (some ⟨[4], true, [], []⟩)) .ret) .skip)))) (.region r127_21 [] (some ⟨[0, 1, 7, 8], true, [], []⟩)))))
noncomputable def c127_0_7 : MCode := c127_0_7g 
theorem g127_0_7 : c127_0_7.Good Try.prog E127_0 sh127 := ⟨trivial, ⟨⟨trivial, trivial⟩, ⟨⟨trivial, ⟨trivial, ⟨⟨trivial, trivial⟩, trivial⟩⟩⟩, trivial⟩⟩⟩
--CODE 7 0
def S127_0_0g (vf128_0 : Tf128_0) (α : Type) (x3 : Rows) (x4 : Int) (x5 : Int) (x6 : Int) (kn : Int → Option α) (k1 : Int → Option α) (k2 : Int → Bool → Option α) : Option α :=
  cK (decide (x6 < x5))
    (rowK x3 x6 [.int .i64, .bool, .int .i64, .bool]
      (fun (x8 : Int) (x9 : Bool) (x10 : Int) (x11 : Bool) => vf128_0 α x8 x9 x10 x11 x4
        (fun (x12 : Bool) => cK x12
          (k1 x6)
          (kn (w64 (x6 + 1))))))
    (k2 x6 (decide (x6 < x5)))
noncomputable def S127_0_0 (α : Type) (x3 : Rows) (x4 : Int) (x5 : Int) (x6 : Int) (kn : Int → Option α) (k1 : Int → Option α) (k2 : Int → Bool → Option α) : Option α := S127_0_0g f128_0 α x3 x4 x5 x6 kn k1 k2
noncomputable def R127_0_0 (α : Type) (x3 : Rows) (x4 : Int) (x5 : Int) (k1 : Int → Option α) (k2 : Int → Bool → Option α) : Nat → Int → Option α
  | 0, _ => none
  | n + 1, x6 => S127_0_0 α x3 x4 x5 x6 (R127_0_0 α x3 x4 x5 k1 k2 n) k1 k2
noncomputable def L127_0_0 (α : Type) (x3 : Rows) (x4 : Int) (x5 : Int) (k1 : Int → Option α) (k2 : Int → Bool → Option α) (x6 : Int) : Option α := R127_0_0 α x3 x4 x5 k1 k2 fuel x6
abbrev TL127_0_0 : Type 1 := (α : Type) → Rows → Int → Int → (Int → Option α) → (Int → Bool → Option α) → Int → Option α
def F127_0_0 (v : TL127_0_0) (α : Type) (K : Exit → St → Option α) : Rows → Int → Int → Int → Option α := fun x3 x4 x5 x6 => v α x3 x4 x5 (fun (y1 : Int) => u127_0_1 (K .ret) y1) (fun (y1 : Int) (y2 : Bool) => u127_0_2 (K (.exit 0)) x3 x4 x5 y1 y2) x6
theorem r127_0_0g (vf128_0 : Tf128_0)  (α : Type) (K : Exit → St → Option α) (Kn : St → Option α) (x3 : Rows) (x4 : Int) (x5 : Int) (x6 : Int) : u127_0_0 (fun σ => runM Try.prog (E127_0g vf128_0) sh127 (c127_0_7g ) (thenK (fun σ => tidyK td127_7 σ Kn) K) σ) x3 x4 x5 x6 = S127_0_0g vf128_0 α x3 x4 x5 x6 (fun x6 => u127_0_0 Kn x3 x4 x5 x6) (fun (y1 : Int) => u127_0_1 (K .ret) y1) (fun (y1 : Int) (y2 : Bool) => u127_0_2 (K (.exit 0)) x3 x4 x5 y1 y2) := by kernel_rfl
theorem r127_0_0 (α : Type) (K : Exit → St → Option α) (Kn : St → Option α) (x3 : Rows) (x4 : Int) (x5 : Int) (x6 : Int) : u127_0_0 (fun σ => runM Try.prog E127_0 sh127 c127_0_7 (thenK (fun σ => tidyK td127_7 σ Kn) K) σ) x3 x4 x5 x6 = S127_0_0 α x3 x4 x5 x6 (fun x6 => u127_0_0 Kn x3 x4 x5 x6) (fun (y1 : Int) => u127_0_1 (K .ret) y1) (fun (y1 : Int) (y2 : Bool) => u127_0_2 (K (.exit 0)) x3 x4 x5 y1 y2) := r127_0_0g f128_0 α K Kn x3 x4 x5 x6
theorem t127_0_0 (α : Type) (K : Exit → St → Option α) : ∀ (n : Nat) (x3 : Rows) (x4 : Int) (x5 : Int) (x6 : Int), R127_0_0 α x3 x4 x5 (fun (y1 : Int) => u127_0_1 (K .ret) y1) (fun (y1 : Int) (y2 : Bool) => u127_0_2 (K (.exit 0)) x3 x4 x5 y1 y2) n x6 = u127_0_0 (loopT (runM Try.prog E127_0 sh127 c127_0_7) td127_7 K n) x3 x4 x5 x6 := by
  intro n
  induction n with
  | zero => intros; rfl
  | succ n ih => intro x3 x4 x5 x6; exact (congrArg (fun kn => S127_0_0 α x3 x4 x5 x6 kn (fun (y1 : Int) => u127_0_1 (K .ret) y1) (fun (y1 : Int) (y2 : Bool) => u127_0_2 (K (.exit 0)) x3 x4 x5 y1 y2)) (funext fun x6 => ih x3 x4 x5 x6)).trans (r127_0_0 α K (loopT (runM Try.prog E127_0 sh127 c127_0_7) td127_7 K n) x3 x4 x5 x6).symm
theorem m127_0_0 : ∀ (α : Type) (K : Exit → St → Option α), F127_0_0 L127_0_0 α K = p127_0_0.unc fun σ => loopT (runM Try.prog E127_0 sh127 c127_0_7) td127_7 K fuel σ := fun α K => funext fun x3 => funext fun x4 => funext fun x5 => funext fun x6 => t127_0_0 α K fuel x3 x4 x5 x6

/-- slices.IndexFunc[[]etalon/api.GrowRule,etalon/api.GrowRule] -/
abbrev Tf127_0 : Type 1 := (α : Type) → Rows → Int → (Int → Option α) → Option α
def f127_0g (vL127_0_0 : TL127_0_0) (α : Type) (x1 : Rows) (x2 : Int) (k1 : Int → Option α) : Option α :=
  vL127_0_0 α x1 x2 ((List.length x1 : Nat) : Int)
    (fun (x13 : Int) => k1 x13)
    (fun (x14 : Int) (x15 : Bool) => k1 (-1)) 0
noncomputable def f127_0 (α : Type) (x1 : Rows) (x2 : Int) (k1 : Int → Option α) : Option α := f127_0g L127_0_0 α x1 x2 k1
def pa127_0 : PT (List DV) := pA [pV false [dL], pV false [(dFn 128 [(dP [(dI .i64)] 0)])]]
def Fn127_0 (v : Tf127_0) (α : Type) (k : List RV → Option α) : Rows → Int → Option α := fun x1 x2 => v α x1 x2 (fun (y1 : Int) => ur127_0_0 k y1)
noncomputable def cm127_0g (vL127_0_0 : TL127_0_0) : MCode := (.seq (.region r127_2 [] (some ⟨[0, 1], true, [], []⟩)) (.seq (.seq (.region r127_5 [] (some ⟨[0, 1, 7, 8], true, [], []⟩)) (.block 0 (.loop td127_7 [⟨p127_0_0, F127_0_0 vL127_0_0⟩] c127_0_7))) (.seq (.region r127_23 [] (some ⟨[4], true, [], []⟩)) .ret)))
noncomputable def cm127_0 : MCode := cm127_0g L127_0_0
theorem gm127_0 : cm127_0.Good Try.prog E127_0 sh127 := ⟨trivial, ⟨⟨trivial, ⟨g127_0_7, m127_0_0, trivial⟩⟩, ⟨trivial, trivial⟩⟩⟩
theorem fm127_0g (vf128_0 : Tf128_0) (vL127_0_0 : TL127_0_0) (α : Type) (k : List RV → Option α) : Fn127_0 (f127_0g vL127_0_0) α k = pa127_0.unc fun ds => fnM Try.prog (E127_0g vf128_0) sh127 (cm127_0g vL127_0_0) rs127 k ds := by kernel_rfl
theorem fm127_0 : ∀ (α : Type) (k : List RV → Option α), Fn127_0 f127_0 α k = pa127_0.unc fun ds => fnM Try.prog E127_0 sh127 cm127_0 rs127 k ds := fm127_0g f128_0 L127_0_0

theorem is127 : FnIs Try.prog 127 nt127 tr127 tl127 cm127_0.erase rs127 := ⟨Try.f127, Try.func127, rfl, by kernel_rfl, by kernel_rfl, by kernel_rfl⟩
theorem io127_0 : InstOk Try.prog 127 nt127 ⟨pa127_0, Fn127_0 f127_0⟩ := inst_ok eo127_0 followsTry is127 ⟨⟨sh127, cm127_0, by kernel_rfl, gm127_0, fm127_0⟩⟩

/-! ### F45 etalon/grow.CheckChamber -/
abbrev nt45 : Nat := 66
def sh45 : List (Nat × List Sh) := [(9, [.sl]), (13, [.sl]), (18, [.str]), (19, [.str]), (27, [.sl]), (35, [.sl]), (39, [.sl]), (44, [.int .i64, .bool, .int .i64, .bool]), (45, [.int .i64, .bool, .int .i64, .bool]), (47, [.int .i64]), (49, [.sl]), (56, [.int .i64]), (58, [.sl])]
def r45_2 : List AOper := [⟨(some 1), (.box (.tmp 0)), none⟩, ⟨(some 2), (.mv (.const (.int .i64 0))), none⟩, ⟨(some 3), (.mv (.const (.int .i64 0))), none⟩]
def r45_5 : List AOper := [⟨(some 8), (.faddr 0 (.tmp 1)), none⟩, ⟨(some 9), (.load false 1 (.tmp 8)), none⟩, ⟨(some 10), (.len (.tmp 9)), none⟩, ⟨(some 11), (.bin .gtr 3 (.tmp 10) (.const (.int .i64 8))), none⟩]
def r45_8 : List AOper := [⟨(some 2), (.mv (.const (.int .i64 0))), none⟩, ⟨(some 3), (.mv (.const (.int .i64 8))), none⟩]
def r45_11 : List AOper := [⟨(some 12), (.faddr 0 (.tmp 1)), none⟩, ⟨(some 13), (.load false 1 (.tmp 12)), none⟩, ⟨(some 14), (.len (.tmp 13)), none⟩, ⟨(some 15), (.mv (.const (.int .i64 0))), none⟩]
def td45_13 : Option Tidy := (some ⟨[1, 13, 14, 15], true, [⟨false, 13, 0, 20013, 1⟩, ⟨true, 1, 0, 30100, 1⟩, ⟨true, 1, 1, 30101, 4⟩], []⟩)
def r45_15 : List AOper := [⟨(some 16), (.bin .lss 3 (.tmp 15) (.tmp 14)), none⟩]
def r45_21 : List AOper := [⟨(some 17), (.mv (.tmp 15)), none⟩, ⟨(some 18), (.iaddr 1 none (.tmp 13) (.tmp 15)), none⟩, ⟨(some 19), (.load false 1 (.tmp 18)), none⟩, ⟨(some 4), (.mv (.tmp 17)), none⟩, ⟨(some 5), (.mv (.tmp 19)), none⟩]
def r45_24 : List AOper := [⟨(some 21), (.mv (.tmp 5)), none⟩, ⟨(some 22), (.call 100 [(.tmp 21)]), none⟩, ⟨(some 23), (.pure (oB (.unOp .not 4 (.tmp 22)) 4)), none⟩, ⟨(some 20), (.mv (.tmp 23)), none⟩]
def r45_27 : List AOper := [⟨(some 24), (.mv (.tmp 4)), none⟩, ⟨(some 2), (.mv (.tmp 24)), none⟩, ⟨(some 3), (.mv (.const (.int .i64 3))), none⟩]
def r45_29 : List AOper := [⟨(some 26), (.faddr 0 (.tmp 1)), none⟩, ⟨(some 27), (.load false 1 (.tmp 26)), none⟩, ⟨(some 28), (.mv (.tmp 4)), none⟩, ⟨(some 29), (.slice 1 false (.tmp 27) none (some (.tmp 28))), none⟩, ⟨(some 30), (.mv (.tmp 5)), none⟩, ⟨(some 31), (.call 101 [(.tmp 29), (.tmp 30)]), none⟩, ⟨(some 25), (.mv (.tmp 31)), none⟩]
def r45_32 : List AOper := [⟨(some 32), (.mv (.tmp 4)), none⟩, ⟨(some 2), (.mv (.tmp 32)), none⟩, ⟨(some 3), (.mv (.const (.int .i64 5))), none⟩]
def r45_33 : List AOper := [⟨(some 33), (.bin .add 3 (.tmp 15) (.const (.int .i64 1))), none⟩, ⟨(some 15), (.mv (.tmp 33)), none⟩]
def r45_36 : List AOper := [⟨(some 34), (.faddr 1 (.tmp 1)), none⟩, ⟨(some 35), (.load false 1 (.tmp 34)), none⟩, ⟨(some 36), (.len (.tmp 35)), none⟩, ⟨(some 37), (.bin .gtr 3 (.tmp 36) (.const (.int .i64 30))), none⟩]
def r45_39 : List AOper := [⟨(some 2), (.mv (.const (.int .i64 0))), none⟩, ⟨(some 3), (.mv (.const (.int .i64 8))), none⟩]
def r45_42 : List AOper := [⟨(some 38), (.faddr 1 (.tmp 1)), none⟩, ⟨(some 39), (.load false 1 (.tmp 38)), none⟩, ⟨(some 40), (.len (.tmp 39)), none⟩, ⟨(some 41), (.mv (.const (.int .i64 0))), none⟩]
def td45_44 : Option Tidy := (some ⟨[1, 39, 40, 41], true, [⟨false, 39, 0, 20039, 4⟩, ⟨true, 1, 0, 30100, 1⟩, ⟨true, 1, 1, 30101, 4⟩], []⟩)
def r45_46 : List AOper := [⟨(some 42), (.bin .lss 3 (.tmp 41) (.tmp 40)), none⟩]
def r45_52 : List AOper := [⟨(some 43), (.mv (.tmp 41)), none⟩, ⟨(some 44), (.iaddr 4 none (.tmp 39) (.tmp 41)), none⟩, ⟨(some 45), (.load true 4 (.tmp 44)), none⟩, ⟨(some 7), (.alloc [(.d (.v (.int .i64 0))), (.d (.v (.bool false))), (.d (.v (.int .i64 0))), (.d (.v (.bool false)))]), none⟩, ⟨(some 6), (.mv (.tmp 43)), none⟩, ⟨none, (.store 4 (.tmp 7) (.tmp 45)), none⟩]
def r45_54 : List AOper := [⟨(some 46), (.faddr 0 (.tmp 7)), none⟩, ⟨(some 47), (.load false 1 (.tmp 46)), none⟩, ⟨(some 48), (.faddr 0 (.tmp 1)), none⟩, ⟨(some 49), (.load false 1 (.tmp 48)), none⟩, ⟨(some 50), (.len (.tmp 49)), none⟩, ⟨(some 51), (.bin .sub 3 (.tmp 50) (.const (.int .i64 1))), none⟩, ⟨(some 52), (.call 78 [(.tmp 47), (.const (.int .i64 0)), (.tmp 51)]), none⟩, ⟨(some 53), (.pure (oB (.unOp .not 4 (.tmp 52)) 4)), none⟩, ⟨(some 54), (.mv (.tmp 53)), none⟩, ⟨(some 55), (.faddr 2 (.tmp 7)), (some (54, false))⟩, ⟨(some 56), (.load false 1 (.tmp 55)), (some (54, false))⟩, ⟨(some 57), (.faddr 0 (.tmp 1)), (some (54, false))⟩, ⟨(some 58), (.load false 1 (.tmp 57)), (some (54, false))⟩, ⟨(some 59), (.len (.tmp 58)), (some (54, false))⟩, ⟨(some 60), (.bin .sub 3 (.tmp 59) (.const (.int .i64 1))), (some (54, false))⟩, ⟨(some 61), (.call 78 [(.tmp 56), (.const (.int .i64 0)), (.tmp 60)]), (some (54, false))⟩, ⟨(some 62), (.pure (oB (.unOp .not 4 (.tmp 61)) 4)), (some (54, false))⟩, ⟨(some 63), (.pick (.tmp 54) (.const (.bool true)) (.tmp 62)), none⟩]
def r45_57 : List AOper := [⟨(some 64), (.mv (.tmp 6)), none⟩, ⟨(some 2), (.mv (.tmp 64)), none⟩, ⟨(some 3), (.mv (.const (.int .i64 6))), none⟩]
def r45_58 : List AOper := [⟨(some 65), (.bin .add 3 (.tmp 41) (.const (.int .i64 1))), none⟩, ⟨(some 41), (.mv (.tmp 65)), none⟩]
def r45_60 : List AOper := [⟨(some 2), (.mv (.const (.int .i64 0))), none⟩, ⟨(some 3), (.mv (.const (.int .i64 0))), none⟩]
def tr45 : List (Nat × Tidy) := [(0, ⟨[1], true, [], []⟩), (1, ⟨[1, 11], true, [], []⟩), (2, ⟨[2, 3], true, [], []⟩), (3, ⟨[1, 13, 14, 15], true, [], []⟩), (4, ⟨[1, 13, 14, 15, 16], true, [], []⟩), (5, ⟨[1, 4, 5, 13, 14, 15], true, [], []⟩), (6, ⟨[1, 4, 5, 13, 14, 15, 20], true, [], []⟩), (7, ⟨[2, 3], true, [], []⟩), (8, ⟨[1, 4, 13, 14, 15, 25], true, [], []⟩), (9, ⟨[2, 3], true, [], []⟩), (10, ⟨[1, 13, 14, 15], true, [], []⟩), (11, ⟨[1, 37], true, [], []⟩), (12, ⟨[2, 3], true, [], []⟩), (13, ⟨[1, 39, 40, 41], true, [], []⟩), (14, ⟨[1, 39, 40, 41, 42], true, [], []⟩), (15, ⟨[1, 6, 7, 39, 40, 41], true, [], []⟩), (16, ⟨[1, 6, 39, 40, 41, 63], true, [], []⟩), (17, ⟨[2, 3], true, [], []⟩), (18, ⟨[1, 39, 40, 41], true, [], []⟩), (19, ⟨[2, 3], true, [], []⟩)]
def tl45 : List (Nat × Tidy) := [(4, ⟨[1, 13, 14, 15], true, [⟨false, 13, 0, 20013, 1⟩, ⟨true, 1, 0, 30100, 1⟩, ⟨true, 1, 1, 30101, 4⟩], []⟩), (14, ⟨[1, 39, 40, 41], true, [⟨false, 39, 0, 20039, 4⟩, ⟨true, 1, 0, 30100, 1⟩, ⟨true, 1, 1, 30101, 4⟩], []⟩)]
def rs45 : List AResV := [.tmp 2, .tmp 3]
def p45_0_0 : PT St := pS [sl 1 (aV false [(cPtr 1 0)]), sl 13 (aV false [(cD dL)]), sl 14 (aV false [(cD (dI .i64))]), sl 15 (aV false [(cD (dI .i64))])] [eBox 1 [(cD dL), (cD dL)]]
def u45_0_0 {β : Type} (g : St → β) : Rows → Int → Int → Rows → Rows → β := p45_0_0.unc g

def p45_0_1 : PT St := pS [sl 2 (aV false [(cD (dI .i64))]), sl 3 (aV false [(cD (dI .i64))])] []
def u45_0_1 {β : Type} (g : St → β) : Int → Int → β := p45_0_1.unc g

def p45_0_2 : PT St := pS [sl 1 (aV false [(cPtr 1 0)]), sl 13 (aV false [(cD dL)]), sl 14 (aV false [(cD (dI .i64))]), sl 15 (aV false [(cD (dI .i64))]), sl 16 (aV false [(cD dB)])] [eBox 1 [(cD dL), (cD dL)]]
def u45_0_2 {β : Type} (g : St → β) : Rows → Int → Int → Bool → Rows → Rows → β := p45_0_2.unc g

def p45_0_3 : PT St := pS [sl 1 (aV false [(cPtr 1 0)]), sl 39 (aV false [(cD dL)]), sl 40 (aV false [(cD (dI .i64))]), sl 41 (aV false [(cD (dI .i64))])] [eBox 1 [(cD dL), (cD dL)]]
def u45_0_3 {β : Type} (g : St → β) : Rows → Int → Int → Rows → Rows → β := p45_0_3.unc g

def p45_0_4 : PT St := pS [sl 1 (aV false [(cPtr 1 0)]), sl 39 (aV false [(cD dL)]), sl 40 (aV false [(cD (dI .i64))]), sl 41 (aV false [(cD (dI .i64))]), sl 42 (aV false [(cD dB)])] [eBox 1 [(cD dL), (cD dL)]]
def u45_0_4 {β : Type} (g : St → β) : Rows → Int → Int → Bool → Rows → Rows → β := p45_0_4.unc g

def pr45_0_0 : PT (List RV) := pRs [pR false [rD (dI .i64)], pR false [rD (dI .i64)]]
def ur45_0_0 {β : Type} (g : List RV → β) : Int → Int → β := pr45_0_0.unc g

def E45_0g (vf100_0 : Tf100_0) (vf101_0 : Tf101_0) (vf78_0 : Tf78_0) : EnvK := EnvK.of [⟨100, nt100, [⟨pa100_0, Fn100_0 vf100_0⟩]⟩, ⟨101, nt101, [⟨pa101_0, Fn101_0 vf101_0⟩]⟩, ⟨78, nt78, [⟨pa78_0, Fn78_0 vf78_0⟩]⟩] noSeq
noncomputable def E45_0 : EnvK := E45_0g f100_0 f101_0 f78_0
theorem eo45_0 : E45_0.Ok Try.prog := EnvK.of_ok noSeq_ok ⟨⟨io100_0, trivial⟩, ⟨io101_0, trivial⟩, ⟨io78_0, trivial⟩, trivial⟩

noncomputable def c45_0_44g  : MCode := (.seq (.region r45_46 [] (some ⟨[1, 39, 40, 41, 42], true, [], []⟩)) (.seq (.cond (.tmp 42) .skip (.exit 3)) (.seq (.block 4 (.seq (.region r45_52 [] (some ⟨[1, 6, 7, 39, 40, 41], true, [], []⟩)) (.seq (.region r45_54 [] (some ⟨[1, 6, 39, 40, 41, 63], true, [], []⟩)) (.cond (.tmp 63) (.seq (.region r45_57 [] (some ⟨[2, 3], true, [], []⟩)) .ret) .skip)))) (.region r45_58 [] (some ⟨[1, 39, 40, 41], true, [], []⟩)))))
noncomputable def c45_0_44 : MCode := c45_0_44g 
theorem g45_0_44 : c45_0_44.Good Try.prog E45_0 sh45 := ⟨trivial, ⟨⟨trivial, trivial⟩, ⟨⟨trivial, ⟨trivial, ⟨⟨trivial, trivial⟩, trivial⟩⟩⟩, trivial⟩⟩⟩
--CODE 44 0
def S45_0_1g (vf78_0 : Tf78_0) (α : Type) (x17 : Rows) (x18 : Int) (x20 : Rows) (x19 : Int) (kn : Int → Option α) (k1 : Int → Option α) (k2 : Int → Bool → Option α) : Option α :=
  cK (decide (x19 < x18))
    (rowK x17 x19 [.int .i64, .bool, .int .i64, .bool]
      (fun (x23 : Int) (x24 : Bool) (x25 : Int) (x26 : Bool) => vf78_0 α x23 0 (w64 (((List.length x20 : Nat) : Int) - 1))
        (fun (x27 : Bool) => cK (!x27)
          (k1 x19)
          (vf78_0 α x25 0 (w64 (((List.length x20 : Nat) : Int) - 1))
            (fun (x28 : Bool) => cK (!x28)
              (k1 x19)
              (kn (w64 (x19 + 1))))))))
    (k2 x19 (decide (x19 < x18)))
noncomputable def S45_0_1 (α : Type) (x17 : Rows) (x18 : Int) (x20 : Rows) (x19 : Int) (kn : Int → Option α) (k1 : Int → Option α) (k2 : Int → Bool → Option α) : Option α := S45_0_1g f78_0 α x17 x18 x20 x19 kn k1 k2
noncomputable def R45_0_1 (α : Type) (x17 : Rows) (x18 : Int) (x20 : Rows) (k1 : Int → Option α) (k2 : Int → Bool → Option α) : Nat → Int → Option α
  | 0, _ => none
  | n + 1, x19 => S45_0_1 α x17 x18 x20 x19 (R45_0_1 α x17 x18 x20 k1 k2 n) k1 k2
noncomputable def L45_0_1 (α : Type) (x17 : Rows) (x18 : Int) (x20 : Rows) (k1 : Int → Option α) (k2 : Int → Bool → Option α) (x19 : Int) : Option α := R45_0_1 α x17 x18 x20 k1 k2 fuel x19
abbrev TL45_0_1 : Type 1 := (α : Type) → Rows → Int → Rows → (Int → Option α) → (Int → Bool → Option α) → Int → Option α
def F45_0_1 (v : TL45_0_1) (α : Type) (K : Exit → St → Option α) : Rows → Int → Int → Rows → Rows → Option α := fun x17 x18 x19 x20 x21 => v α x17 x18 x20 (fun (y1 : Int) => u45_0_1 (K .ret) y1 6) (fun (y1 : Int) (y2 : Bool) => u45_0_4 (K (.exit 3)) x17 x18 y1 y2 x20 x21) x19
theorem r45_0_1g (vf100_0 : Tf100_0) (vf101_0 : Tf101_0) (vf78_0 : Tf78_0)  (α : Type) (K : Exit → St → Option α) (Kn : St → Option α) (x17 : Rows) (x18 : Int) (x19 : Int) (x20 : Rows) (x21 : Rows) : u45_0_3 (fun σ => runM Try.prog (E45_0g vf100_0 vf101_0 vf78_0) sh45 (c45_0_44g ) (thenK (fun σ => tidyK td45_44 σ Kn) K) σ) x17 x18 x19 x20 x21 = S45_0_1g vf78_0 α x17 x18 x20 x19 (fun x19 => u45_0_3 Kn x17 x18 x19 x20 x21) (fun (y1 : Int) => u45_0_1 (K .ret) y1 6) (fun (y1 : Int) (y2 : Bool) => u45_0_4 (K (.exit 3)) x17 x18 y1 y2 x20 x21) := by kernel_rfl
theorem r45_0_1 (α : Type) (K : Exit → St → Option α) (Kn : St → Option α) (x17 : Rows) (x18 : Int) (x19 : Int) (x20 : Rows) (x21 : Rows) : u45_0_3 (fun σ => runM Try.prog E45_0 sh45 c45_0_44 (thenK (fun σ => tidyK td45_44 σ Kn) K) σ) x17 x18 x19 x20 x21 = S45_0_1 α x17 x18 x20 x19 (fun x19 => u45_0_3 Kn x17 x18 x19 x20 x21) (fun (y1 : Int) => u45_0_1 (K .ret) y1 6) (fun (y1 : Int) (y2 : Bool) => u45_0_4 (K (.exit 3)) x17 x18 y1 y2 x20 x21) := r45_0_1g f100_0 f101_0 f78_0 α K Kn x17 x18 x19 x20 x21
theorem t45_0_1 (α : Type) (K : Exit → St → Option α) : ∀ (n : Nat) (x17 : Rows) (x18 : Int) (x19 : Int) (x20 : Rows) (x21 : Rows), R45_0_1 α x17 x18 x20 (fun (y1 : Int) => u45_0_1 (K .ret) y1 6) (fun (y1 : Int) (y2 : Bool) => u45_0_4 (K (.exit 3)) x17 x18 y1 y2 x20 x21) n x19 = u45_0_3 (loopT (runM Try.prog E45_0 sh45 c45_0_44) td45_44 K n) x17 x18 x19 x20 x21 := by
  intro n
  induction n with
  | zero => intros; rfl
  | succ n ih => intro x17 x18 x19 x20 x21; exact (congrArg (fun kn => S45_0_1 α x17 x18 x20 x19 kn (fun (y1 : Int) => u45_0_1 (K .ret) y1 6) (fun (y1 : Int) (y2 : Bool) => u45_0_4 (K (.exit 3)) x17 x18 y1 y2 x20 x21)) (funext fun x19 => ih x17 x18 x19 x20 x21)).trans (r45_0_1 α K (loopT (runM Try.prog E45_0 sh45 c45_0_44) td45_44 K n) x17 x18 x19 x20 x21).symm
theorem m45_0_1 : ∀ (α : Type) (K : Exit → St → Option α), F45_0_1 L45_0_1 α K = p45_0_3.unc fun σ => loopT (runM Try.prog E45_0 sh45 c45_0_44) td45_44 K fuel σ := fun α K => funext fun x17 => funext fun x18 => funext fun x19 => funext fun x20 => funext fun x21 => t45_0_1 α K fuel x17 x18 x19 x20 x21

noncomputable def c45_0_13g  : MCode := (.seq (.region r45_15 [] (some ⟨[1, 13, 14, 15, 16], true, [], []⟩)) (.seq (.cond (.tmp 16) .skip (.exit 0)) (.seq (.block 1 (.seq (.region r45_21 [] (some ⟨[1, 4, 5, 13, 14, 15], true, [], []⟩)) (.block 2 (.seq (.region r45_24 [] (some ⟨[1, 4, 5, 13, 14, 15, 20], true, [], []⟩)) (.cond (.tmp 20) (.seq (.region r45_27 [] (some ⟨[2, 3], true, [], []⟩)) .ret) (.seq (.region r45_29 [] (some ⟨[1, 4, 13, 14, 15, 25], true, [], []⟩)) (.cond (.tmp 25) (.seq (.region r45_32 [] (some ⟨[2, 3], true, [], []⟩)) .ret) .skip))))))) (.region r45_33 [] (some ⟨[1, 13, 14, 15], true, [], []⟩)))))
noncomputable def c45_0_13 : MCode := c45_0_13g 
theorem g45_0_13 : c45_0_13.Good Try.prog E45_0 sh45 := ⟨trivial, ⟨⟨trivial, trivial⟩, ⟨⟨trivial, ⟨trivial, ⟨⟨trivial, trivial⟩, ⟨trivial, ⟨⟨trivial, trivial⟩, trivial⟩⟩⟩⟩⟩, trivial⟩⟩⟩
--CODE 13 0
def S45_0_0g (vf100_0 : Tf100_0) (vf101_0 : Tf101_0) (α : Type) (x3 : Rows) (x4 : Int) (x6 : Rows) (x5 : Int) (kn : Int → Option α) (k1 : Int → Int → Option α) (k2 : Int → Bool → Option α) : Option α :=
  cK (decide (x5 < x4))
    (rowK x3 x5 [.str]
      (fun (x9 : ByteArray) => vf100_0 α x9
        (fun (x10 : Bool) => cK (!x10)
          (k1 x5 3)
          (gK (decide ((0 : Int) ≤ 0 ∧ 0 ≤ x5 ∧ x5 ≤ ((List.length x6 : Nat) : Int) ∧ allLen 1 x6 = true)) (vf101_0 α (List.drop 0 (List.take (Int.toNat x5) x6)) x9
            (fun (x11 : Bool) => cK x11
              (k1 x5 5)
              (kn (w64 (x5 + 1)))))))))
    (k2 x5 (decide (x5 < x4)))
noncomputable def S45_0_0 (α : Type) (x3 : Rows) (x4 : Int) (x6 : Rows) (x5 : Int) (kn : Int → Option α) (k1 : Int → Int → Option α) (k2 : Int → Bool → Option α) : Option α := S45_0_0g f100_0 f101_0 α x3 x4 x6 x5 kn k1 k2
noncomputable def R45_0_0 (α : Type) (x3 : Rows) (x4 : Int) (x6 : Rows) (k1 : Int → Int → Option α) (k2 : Int → Bool → Option α) : Nat → Int → Option α
  | 0, _ => none
  | n + 1, x5 => S45_0_0 α x3 x4 x6 x5 (R45_0_0 α x3 x4 x6 k1 k2 n) k1 k2
noncomputable def L45_0_0 (α : Type) (x3 : Rows) (x4 : Int) (x6 : Rows) (k1 : Int → Int → Option α) (k2 : Int → Bool → Option α) (x5 : Int) : Option α := R45_0_0 α x3 x4 x6 k1 k2 fuel x5
abbrev TL45_0_0 : Type 1 := (α : Type) → Rows → Int → Rows → (Int → Int → Option α) → (Int → Bool → Option α) → Int → Option α
def F45_0_0 (v : TL45_0_0) (α : Type) (K : Exit → St → Option α) : Rows → Int → Int → Rows → Rows → Option α := fun x3 x4 x5 x6 x7 => v α x3 x4 x6 (fun (y1 : Int) (y2 : Int) => u45_0_1 (K .ret) y1 y2) (fun (y1 : Int) (y2 : Bool) => u45_0_2 (K (.exit 0)) x3 x4 y1 y2 x6 x7) x5
theorem r45_0_0g (vf100_0 : Tf100_0) (vf101_0 : Tf101_0) (vf78_0 : Tf78_0)  (α : Type) (K : Exit → St → Option α) (Kn : St → Option α) (x3 : Rows) (x4 : Int) (x5 : Int) (x6 : Rows) (x7 : Rows) : u45_0_0 (fun σ => runM Try.prog (E45_0g vf100_0 vf101_0 vf78_0) sh45 (c45_0_13g ) (thenK (fun σ => tidyK td45_13 σ Kn) K) σ) x3 x4 x5 x6 x7 = S45_0_0g vf100_0 vf101_0 α x3 x4 x6 x5 (fun x5 => u45_0_0 Kn x3 x4 x5 x6 x7) (fun (y1 : Int) (y2 : Int) => u45_0_1 (K .ret) y1 y2) (fun (y1 : Int) (y2 : Bool) => u45_0_2 (K (.exit 0)) x3 x4 y1 y2 x6 x7) := by kernel_rfl
theorem r45_0_0 (α : Type) (K : Exit → St → Option α) (Kn : St → Option α) (x3 : Rows) (x4 : Int) (x5 : Int) (x6 : Rows) (x7 : Rows) : u45_0_0 (fun σ => runM Try.prog E45_0 sh45 c45_0_13 (thenK (fun σ => tidyK td45_13 σ Kn) K) σ) x3 x4 x5 x6 x7 = S45_0_0 α x3 x4 x6 x5 (fun x5 => u45_0_0 Kn x3 x4 x5 x6 x7) (fun (y1 : Int) (y2 : Int) => u45_0_1 (K .ret) y1 y2) (fun (y1 : Int) (y2 : Bool) => u45_0_2 (K (.exit 0)) x3 x4 y1 y2 x6 x7) := r45_0_0g f100_0 f101_0 f78_0 α K Kn x3 x4 x5 x6 x7
theorem t45_0_0 (α : Type) (K : Exit → St → Option α) : ∀ (n : Nat) (x3 : Rows) (x4 : Int) (x5 : Int) (x6 : Rows) (x7 : Rows), R45_0_0 α x3 x4 x6 (fun (y1 : Int) (y2 : Int) => u45_0_1 (K .ret) y1 y2) (fun (y1 : Int) (y2 : Bool) => u45_0_2 (K (.exit 0)) x3 x4 y1 y2 x6 x7) n x5 = u45_0_0 (loopT (runM Try.prog E45_0 sh45 c45_0_13) td45_13 K n) x3 x4 x5 x6 x7 := by
  intro n
  induction n with
  | zero => intros; rfl
  | succ n ih => intro x3 x4 x5 x6 x7; exact (congrArg (fun kn => S45_0_0 α x3 x4 x6 x5 kn (fun (y1 : Int) (y2 : Int) => u45_0_1 (K .ret) y1 y2) (fun (y1 : Int) (y2 : Bool) => u45_0_2 (K (.exit 0)) x3 x4 y1 y2 x6 x7)) (funext fun x5 => ih x3 x4 x5 x6 x7)).trans (r45_0_0 α K (loopT (runM Try.prog E45_0 sh45 c45_0_13) td45_13 K n) x3 x4 x5 x6 x7).symm
theorem m45_0_0 : ∀ (α : Type) (K : Exit → St → Option α), F45_0_0 L45_0_0 α K = p45_0_0.unc fun σ => loopT (runM Try.prog E45_0 sh45 c45_0_13) td45_13 K fuel σ := fun α K => funext fun x3 => funext fun x4 => funext fun x5 => funext fun x6 => funext fun x7 => t45_0_0 α K fuel x3 x4 x5 x6 x7

/-- etalon/grow.CheckChamber -/
abbrev Tf45_0 : Type 1 := (α : Type) → Rows → Rows → (Int → Int → Option α) → Option α
def f45_0g (vL45_0_0 : TL45_0_0) (vL45_0_1 : TL45_0_1) (α : Type) (x1 : Rows) (x2 : Rows) (k1 : Int → Int → Option α) : Option α :=
  cK (decide (8 < ((List.length x1 : Nat) : Int)))
    (k1 0 8)
    (vL45_0_0 α x1 ((List.length x1 : Nat) : Int) x1
      (fun (x12 : Int) (x13 : Int) => k1 x12 x13)
      (fun (x14 : Int) (x15 : Bool) => cK (decide (30 < ((List.length x2 : Nat) : Int)))
        (k1 0 8)
        (vL45_0_1 α x2 ((List.length x2 : Nat) : Int) x1
          (fun (x29 : Int) => k1 x29 6)
          (fun (x30 : Int) (x31 : Bool) => k1 0 0) 0)) 0)
noncomputable def f45_0 (α : Type) (x1 : Rows) (x2 : Rows) (k1 : Int → Int → Option α) : Option α := f45_0g L45_0_0 L45_0_1 α x1 x2 k1
def pa45_0 : PT (List DV) := pA [pV true [dL, dL]]
def Fn45_0 (v : Tf45_0) (α : Type) (k : List RV → Option α) : Rows → Rows → Option α := fun x1 x2 => v α x1 x2 (fun (y1 : Int) (y2 : Int) => ur45_0_0 k y1 y2)
noncomputable def cm45_0g (vL45_0_0 : TL45_0_0) (vL45_0_1 : TL45_0_1) : MCode := (.seq (.region r45_2 [] (some ⟨[1], true, [], []⟩)) (.seq (.seq (.region r45_5 [] (some ⟨[1, 11], true, [], []⟩)) (.cond (.tmp 11) (.seq (.region r45_8 [] (some ⟨[2, 3], true, [], []⟩)) .ret) .skip)) (.seq (.seq (.region r45_11 [] (some ⟨[1, 13, 14, 15], true, [], []⟩)) (.block 0 (.loop td45_13 [⟨p45_0_0, F45_0_0 vL45_0_0⟩] c45_0_13))) (.seq (.seq (.region r45_36 [] (some ⟨[1, 37], true, [], []⟩)) (.cond (.tmp 37) (.seq (.region r45_39 [] (some ⟨[2, 3], true, [], []⟩)) .ret) .skip)) (.seq (.seq (.region r45_42 [] (some ⟨[1, 39, 40, 41], true, [], []⟩)) (.block 3 (.loop td45_44 [⟨p45_0_3, F45_0_1 vL45_0_1⟩] c45_0_44))) (.seq (.region r45_60 [] (some ⟨[2, 3], true, [], []⟩)) .ret))))))
noncomputable def cm45_0 : MCode := cm45_0g L45_0_0 L45_0_1
theorem gm45_0 : cm45_0.Good Try.prog E45_0 sh45 := ⟨trivial, ⟨⟨trivial, ⟨⟨trivial, trivial⟩, trivial⟩⟩, ⟨⟨trivial, ⟨g45_0_13, m45_0_0, trivial⟩⟩, ⟨⟨trivial, ⟨⟨trivial, trivial⟩, trivial⟩⟩, ⟨⟨trivial, ⟨g45_0_44, m45_0_1, trivial⟩⟩, ⟨trivial, trivial⟩⟩⟩⟩⟩⟩
theorem fm45_0g (vf100_0 : Tf100_0) (vf101_0 : Tf101_0) (vf78_0 : Tf78_0) (vL45_0_0 : TL45_0_0) (vL45_0_1 : TL45_0_1) (α : Type) (k : List RV → Option α) : Fn45_0 (f45_0g vL45_0_0 vL45_0_1) α k = pa45_0.unc fun ds => fnM Try.prog (E45_0g vf100_0 vf101_0 vf78_0) sh45 (cm45_0g vL45_0_0 vL45_0_1) rs45 k ds := by kernel_rfl
theorem fm45_0 : ∀ (α : Type) (k : List RV → Option α), Fn45_0 f45_0 α k = pa45_0.unc fun ds => fnM Try.prog E45_0 sh45 cm45_0 rs45 k ds := fm45_0g f100_0 f101_0 f78_0 L45_0_0 L45_0_1

theorem is45 : FnIs Try.prog 45 nt45 tr45 tl45 cm45_0.erase rs45 := ⟨Try.f45, Try.func45, rfl, by kernel_rfl, by kernel_rfl, by kernel_rfl⟩
theorem io45_0 : InstOk Try.prog 45 nt45 ⟨pa45_0, Fn45_0 f45_0⟩ := inst_ok eo45_0 followsTry is45 ⟨⟨sh45, cm45_0, by kernel_rfl, gm45_0, fm45_0⟩⟩

/-! ### F104 (etalon/grow.chamber).broken -/
abbrev nt104 : Nat := 10
def sh104 : List (Nat × List Sh) := [(7, [.sl])]
def r104_2 : List AOper := [⟨(some 2), (.box (.tmp 0)), none⟩, ⟨(some 3), (.box (.tmp 1)), none⟩, ⟨(some 4), (.mv (.const (.int .i64 0))), none⟩]
def r104_4 : List AOper := [⟨(some 5), (.faddr 0 (.tmp 2)), none⟩, ⟨(some 6), (.faddr 1 (.tmp 5)), none⟩, ⟨(some 7), (.load false 1 (.tmp 6)), none⟩, ⟨(some 8), (.mkfn 128 [(.tmp 3)]), none⟩, ⟨(some 9), (.call 127 [(.tmp 7), (.tmp 8)]), none⟩, ⟨(some 4), (.mv (.tmp 9)), none⟩]
def tr104 : List (Nat × Tidy) := [(0, ⟨[2, 3], true, [], []⟩), (1, ⟨[4], true, [], []⟩)]
def tl104 : List (Nat × Tidy) := []
def rs104 : List AResV := [.tmp 4]
def pr104_0_0 : PT (List RV) := pRs [pR false [rD (dI .i64)]]
def ur104_0_0 {β : Type} (g : List RV → β) : Int → β := pr104_0_0.unc g

def E104_0g (vf127_0 : Tf127_0) : EnvK := EnvK.of [⟨127, nt127, [⟨pa127_0, Fn127_0 vf127_0⟩]⟩] noSeq
noncomputable def E104_0 : EnvK := E104_0g f127_0
theorem eo104_0 : E104_0.Ok Try.prog := EnvK.of_ok noSeq_ok ⟨⟨io127_0, trivial⟩, trivial⟩

/-- (etalon/grow.chamber).broken -/
abbrev Tf104_0 : Type 1 := (α : Type) → Rows → Rows → Int → (Int → Option α) → Option α
def f104_0g (vf127_0 : Tf127_0) (α : Type) (x1 : Rows) (x2 : Rows) (x3 : Int) (k1 : Int → Option α) : Option α :=
  vf127_0 α x2 x3
    (fun (x4 : Int) => k1 x4)
noncomputable def f104_0 (α : Type) (x1 : Rows) (x2 : Rows) (x3 : Int) (k1 : Int → Option α) : Option α := f104_0g f127_0 α x1 x2 x3 k1
def pa104_0 : PT (List DV) := pA [pV true [dL, dL], pV false [(dI .i64)]]
def Fn104_0 (v : Tf104_0) (α : Type) (k : List RV → Option α) : Rows → Rows → Int → Option α := fun x1 x2 x3 => v α x1 x2 x3 (fun (y1 : Int) => ur104_0_0 k y1)
noncomputable def cm104_0g  : MCode := (.seq (.region r104_2 [] (some ⟨[2, 3], true, [], []⟩)) (.seq (.region r104_4 [] (some ⟨[4], true, [], []⟩)) .ret))
noncomputable def cm104_0 : MCode := cm104_0g 
theorem gm104_0 : cm104_0.Good Try.prog E104_0 sh104 := ⟨trivial, ⟨trivial, trivial⟩⟩
theorem fm104_0g (vf127_0 : Tf127_0)  (α : Type) (k : List RV → Option α) : Fn104_0 (f104_0g vf127_0) α k = pa104_0.unc fun ds => fnM Try.prog (E104_0g vf127_0) sh104 (cm104_0g ) rs104 k ds := by kernel_rfl
theorem fm104_0 : ∀ (α : Type) (k : List RV → Option α), Fn104_0 f104_0 α k = pa104_0.unc fun ds => fnM Try.prog E104_0 sh104 cm104_0 rs104 k ds := fm104_0g f127_0

theorem is104 : FnIs Try.prog 104 nt104 tr104 tl104 cm104_0.erase rs104 := ⟨Try.f104, Try.func104, rfl, by kernel_rfl, by kernel_rfl, by kernel_rfl⟩
theorem io104_0 : InstOk Try.prog 104 nt104 ⟨pa104_0, Fn104_0 f104_0⟩ := inst_ok eo104_0 followsTry is104 ⟨⟨sh104, cm104_0, by kernel_rfl, gm104_0, fm104_0⟩⟩

/-! ### F103 etalon/grow.open -/
abbrev nt103 : Nat := 43
def sh103 : List (Nat × List Sh) := [(13, [.sl, .sl]), (25, [.sl]), (26, [.sl]), (30, [.sl]), (40, [.sl, .sl])]
def r103_2 : List AOper := [⟨(some 2), (.box (.tmp 0)), none⟩, ⟨(some 4), (.alloc [.nils, .nils]), none⟩, ⟨(some 5), (.mv (.const (.slice none 0 0))), none⟩, ⟨(some 6), (.mv (.const (.int .i64 0))), none⟩]
def r103_5 : List AOper := [⟨(some 13), (.load true 2 (.tmp 2)), none⟩, ⟨(some 14), (.call 45 [(.tmp 13)]), none⟩, ⟨(some 12), (.mv (.tmp 14)), none⟩, ⟨(some 15), (.extract 0 (.tmp 12)), none⟩, ⟨(some 16), (.extract 1 (.tmp 12)), none⟩, ⟨(some 7), (.mv (.tmp 15)), none⟩, ⟨(some 8), (.mv (.tmp 16)), none⟩]
def r103_7 : List AOper := [⟨(some 17), (.mv (.tmp 8)), none⟩, ⟨(some 18), (.bin .neq 32 (.tmp 17) (.const (.int .i64 0))), none⟩]
def r103_10 : List AOper := [⟨(some 19), (.build [.nils, .nils] []), none⟩, ⟨(some 20), (.mv (.tmp 8)), none⟩, ⟨none, (.store 2 (.tmp 4) (.tmp 19)), none⟩, ⟨(some 5), (.mv (.const (.slice none 0 0))), none⟩, ⟨(some 6), (.mv (.tmp 20)), none⟩]
def r103_12 : List AOper := [⟨(some 9), (.mv (.const (.slice none 0 0))), none⟩]
def r103_15 : List AOper := [⟨(some 21), (.mv (.tmp 1)), none⟩, ⟨(some 22), (.len (.tmp 21)), none⟩, ⟨(some 23), (.mv (.const (.int .i64 0))), none⟩]
def td103_17 : Option Tidy := (some ⟨[2, 4, 9, 21, 22, 23], true, [⟨false, 9, 0, 20009, 1⟩, ⟨false, 21, 0, 20021, 1⟩, ⟨true, 2, 0, 30200, 1⟩, ⟨true, 2, 1, 30201, 4⟩, ⟨true, 4, 0, 30400, 1⟩, ⟨true, 4, 1, 30401, 4⟩], []⟩)
def r103_19 : List AOper := [⟨(some 24), (.bin .lss 3 (.tmp 23) (.tmp 22)), none⟩]
def r103_25 : List AOper := [⟨(some 25), (.iaddr 1 none (.tmp 21) (.tmp 23)), none⟩, ⟨(some 26), (.load false 1 (.tmp 25)), none⟩, ⟨(some 11), (.mv (.tmp 26)), none⟩]
def r103_28 : List AOper := [⟨(some 27), (.mv (.tmp 11)), none⟩, ⟨(some 28), (.len (.tmp 27)), none⟩, ⟨(some 29), (.faddr 0 (.tmp 2)), none⟩, ⟨(some 30), (.load false 1 (.tmp 29)), none⟩, ⟨(some 31), (.len (.tmp 30)), none⟩, ⟨(some 32), (.bin .neq 3 (.tmp 28) (.tmp 31)), none⟩]
def r103_31 : List AOper := [⟨(some 33), (.build [.nils, .nils] []), none⟩, ⟨none, (.store 2 (.tmp 4) (.tmp 33)), none⟩, ⟨(some 5), (.mv (.const (.slice none 0 0))), none⟩, ⟨(some 6), (.mv (.const (.int .i64 12))), none⟩]
def r103_32 : List AOper := [⟨(some 34), (.mv (.tmp 9)), none⟩, ⟨(some 35), (.mv (.tmp 11)), none⟩, ⟨(some 36), (.call 126 [(.tmp 35)]), none⟩, ⟨(some 37), (.bslice 1 1 [(.v (.int .i64 0))] [(0, (.tmp 36))]), none⟩, ⟨(some 38), (.append 1 8 (.tmp 34) (.tmp 37)), none⟩, ⟨(some 9), (.mv (.tmp 38)), none⟩]
def r103_33 : List AOper := [⟨(some 39), (.bin .add 3 (.tmp 23) (.const (.int .i64 1))), none⟩, ⟨(some 23), (.mv (.tmp 39)), none⟩]
def r103_35 : List AOper := [⟨(some 40), (.load true 2 (.tmp 2)), none⟩, ⟨(some 41), (.build [.nils, .nils] [(0, 2, (.tmp 40))]), none⟩, ⟨(some 42), (.mv (.tmp 9)), none⟩, ⟨none, (.store 2 (.tmp 4) (.tmp 41)), none⟩, ⟨(some 5), (.mv (.tmp 42)), none⟩, ⟨(some 6), (.mv (.const (.int .i64 0))), none⟩]
def tr103 : List (Nat × Tidy) := [(0, ⟨[1, 2, 4], true, [⟨true, 4, 0, 30400, 1⟩, ⟨true, 4, 1, 30401, 4⟩], []⟩), (1, ⟨[1, 2, 4, 8], true, [⟨true, 4, 0, 30400, 1⟩, ⟨true, 4, 1, 30401, 4⟩], []⟩), (2, ⟨[1, 2, 4, 8, 18], true, [⟨true, 4, 0, 30400, 1⟩, ⟨true, 4, 1, 30401, 4⟩], []⟩), (3, ⟨[4, 5, 6], true, [⟨false, 5, 0, 20005, 1⟩, ⟨true, 4, 0, 30400, 1⟩, ⟨true, 4, 1, 30401, 4⟩], []⟩), (4, ⟨[1, 2, 4, 9], true, [⟨true, 4, 0, 30400, 1⟩, ⟨true, 4, 1, 30401, 4⟩], []⟩), (5, ⟨[2, 4, 9, 21, 22, 23], true, [⟨true, 4, 0, 30400, 1⟩, ⟨true, 4, 1, 30401, 4⟩], []⟩), (6, ⟨[2, 4, 9, 21, 22, 23, 24], true, [⟨true, 4, 0, 30400, 1⟩, ⟨true, 4, 1, 30401, 4⟩], []⟩), (7, ⟨[2, 4, 9, 11, 21, 22, 23], true, [⟨true, 4, 0, 30400, 1⟩, ⟨true, 4, 1, 30401, 4⟩], []⟩), (8, ⟨[2, 4, 9, 11, 21, 22, 23, 32], true, [⟨true, 4, 0, 30400, 1⟩, ⟨true, 4, 1, 30401, 4⟩], []⟩), (9, ⟨[4, 5, 6], true, [⟨false, 5, 0, 20005, 1⟩, ⟨true, 4, 0, 30400, 1⟩, ⟨true, 4, 1, 30401, 4⟩], []⟩), (10, ⟨[2, 4, 9, 21, 22, 23], true, [⟨true, 4, 0, 30400, 1⟩, ⟨true, 4, 1, 30401, 4⟩], []⟩), (11, ⟨[2, 4, 9, 21, 22, 23], true, [⟨true, 4, 0, 30400, 1⟩, ⟨true, 4, 1, 30401, 4⟩], []⟩), (12, ⟨[4, 5, 6], true, [⟨false, 5, 0, 20005, 1⟩, ⟨true, 4, 0, 30400, 1⟩, ⟨true, 4, 1, 30401, 4⟩], []⟩)]
def tl103 : List (Nat × Tidy) := [(6, ⟨[2, 4, 9, 21, 22, 23], true, [⟨false, 9, 0, 20009, 1⟩, ⟨false, 21, 0, 20021, 1⟩, ⟨true, 2, 0, 30200, 1⟩, ⟨true, 2, 1, 30201, 4⟩, ⟨true, 4, 0, 30400, 1⟩, ⟨true, 4, 1, 30401, 4⟩], []⟩)]
def rs103 : List AResV := [.cell 4 true 2, .tmp 5, .tmp 6]
def p103_0_0 : PT St := pS [sl 2 (aV false [(cPtr 2 0)]), sl 4 (aV false [(cPtr 4 0)]), sl 9 (aV false [(cRef 20009)]), sl 21 (aV false [(cD dL)]), sl 22 (aV false [(cD (dI .i64))]), sl 23 (aV false [(cD (dI .i64))])] [eBox 2 [(cD dL), (cD dL)], eBox 4 [(cRef 30400), (cRef 30401)], eOwn 30400 1, eOwn 30401 4, eOwn 20009 1]
def u103_0_0 {β : Type} (g : St → β) : Rows → Int → Int → Rows → Rows → Rows → Rows → Rows → β := p103_0_0.unc g

def p103_0_1 : PT St := pS [sl 4 (aV false [(cPtr 4 0)]), sl 5 (aV false [(cRef 20005)]), sl 6 (aV false [(cD (dI .i64))])] [eBox 4 [(cRef 30400), (cRef 30401)], eOwn 30400 1, eOwn 30401 4, eOwn 20005 1]
def u103_0_1 {β : Type} (g : St → β) : Int → Rows → Rows → Rows → β := p103_0_1.unc g

def p103_0_2 : PT St := pS [sl 2 (aV false [(cPtr 2 0)]), sl 4 (aV false [(cPtr 4 0)]), sl 9 (aV false [(cRef 20009)]), sl 21 (aV false [(cD dL)]), sl 22 (aV false [(cD (dI .i64))]), sl 23 (aV false [(cD (dI .i64))]), sl 24 (aV false [(cD dB)])] [eBox 2 [(cD dL), (cD dL)], eBox 4 [(cRef 30400), (cRef 30401)], eOwn 30400 1, eOwn 30401 4, eOwn 20009 1]
def u103_0_2 {β : Type} (g : St → β) : Rows → Int → Int → Bool → Rows → Rows → Rows → Rows → Rows → β := p103_0_2.unc g

def pr103_0_0 : PT (List RV) := pRs [pR true [rO 1, rO 4], pR false [rO 1], pR false [rD (dI .i64)]]
def ur103_0_0 {β : Type} (g : List RV → β) : Rows → Rows → Rows → Int → β := pr103_0_0.unc g

def pr103_0_1 : PT (List RV) := pRs [pR true [rD dL, rD dL], pR false [rO 1], pR false [rD (dI .i64)]]
def ur103_0_1 {β : Type} (g : List RV → β) : Rows → Rows → Rows → Int → β := pr103_0_1.unc g

def E103_0g (vf45_0 : Tf45_0) (vf126_0 : Tf126_0) : EnvK := EnvK.of [⟨45, nt45, [⟨pa45_0, Fn45_0 vf45_0⟩]⟩, ⟨126, nt126, [⟨pa126_0, Fn126_0 vf126_0⟩]⟩] noSeq
noncomputable def E103_0 : EnvK := E103_0g f45_0 f126_0
theorem eo103_0 : E103_0.Ok Try.prog := EnvK.of_ok noSeq_ok ⟨⟨io45_0, trivial⟩, ⟨io126_0, trivial⟩, trivial⟩

noncomputable def c103_0_17g  : MCode := (.seq (.region r103_19 [] (some ⟨[2, 4, 9, 21, 22, 23, 24], true, [⟨true, 4, 0, 30400, 1⟩, ⟨true, 4, 1, 30401, 4⟩], []⟩)) (.seq (.cond (.tmp 24) .skip (.exit 0)) (.seq (.block 1 (.seq (.region r103_25 [] (some ⟨[2, 4, 9, 11, 21, 22, 23], true, [⟨true, 4, 0, 30400, 1⟩, ⟨true, 4, 1, 30401, 4⟩], []⟩)) (.seq (.seq (.region r103_28 [] (some ⟨[2, 4, 9, 11, 21, 22, 23, 32], true, [⟨true, 4, 0, 30400, 1⟩, ⟨true, 4, 1, 30401, 4⟩], []⟩)) (.cond (.tmp 32) (.seq (.region r103_31 [] (some ⟨[4, 5, 6], true, [⟨false, 5, 0, 20005, 1⟩, ⟨true, 4, 0, 30400, 1⟩, ⟨true, 4, 1, 30401, 4⟩], []⟩)) .ret) .skip)) (.region r103_32 [] (some ⟨[2, 4, 9, 21, 22, 23], true, [⟨true, 4, 0, 30400, 1⟩, ⟨true, 4, 1, 30401, 4⟩], []⟩))))) (.region r103_33 [] (some ⟨[2, 4, 9, 21, 22, 23], true, [⟨true, 4, 0, 30400, 1⟩, ⟨true, 4, 1, 30401, 4⟩], []⟩)))))
noncomputable def c103_0_17 : MCode := c103_0_17g 
theorem g103_0_17 : c103_0_17.Good Try.prog E103_0 sh103 := ⟨trivial, ⟨⟨trivial, trivial⟩, ⟨⟨trivial, ⟨⟨trivial, ⟨⟨trivial, trivial⟩, trivial⟩⟩, trivial⟩⟩, trivial⟩⟩⟩
--CODE 17 0
def S103_0_0g (vf126_0 : Tf126_0) (α : Type) (x6 : Rows) (x7 : Int) (x9 : Rows) (x8 : Int) (x13 : Rows) (kn : Int → Rows → Option α) (k1 : Option α) (k2 : Int → Bool → Rows → Option α) : Option α :=
  cK (decide (x8 < x7))
    (rowK x6 x8 [.sl]
      (fun (x15 : Rows) => cK (((List.length x15 : Nat) : Int) != ((List.length x9 : Nat) : Int))
        (k1)
        (vf126_0 α x15
          (fun (x16 : Int) => gK (apOk 1 8 x13 [[DC.v (.int .i64 x16)]]) (kn (w64 (x8 + 1)) (x13 ++ [[DC.v (.int .i64 x16)]]))))))
    (k2 x8 (decide (x8 < x7)) x13)
noncomputable def S103_0_0 (α : Type) (x6 : Rows) (x7 : Int) (x9 : Rows) (x8 : Int) (x13 : Rows) (kn : Int → Rows → Option α) (k1 : Option α) (k2 : Int → Bool → Rows → Option α) : Option α := S103_0_0g f126_0 α x6 x7 x9 x8 x13 kn k1 k2
noncomputable def R103_0_0 (α : Type) (x6 : Rows) (x7 : Int) (x9 : Rows) (k1 : Option α) (k2 : Int → Bool → Rows → Option α) : Nat → Int → Rows → Option α
  | 0, _, _ => none
  | n + 1, x8, x13 => S103_0_0 α x6 x7 x9 x8 x13 (R103_0_0 α x6 x7 x9 k1 k2 n) k1 k2
noncomputable def L103_0_0 (α : Type) (x6 : Rows) (x7 : Int) (x9 : Rows) (k1 : Option α) (k2 : Int → Bool → Rows → Option α) (x8 : Int) (x13 : Rows) : Option α := R103_0_0 α x6 x7 x9 k1 k2 fuel x8 x13
abbrev TL103_0_0 : Type 1 := (α : Type) → Rows → Int → Rows → (Option α) → (Int → Bool → Rows → Option α) → Int → Rows → Option α
def F103_0_0 (v : TL103_0_0) (α : Type) (K : Exit → St → Option α) : Rows → Int → Int → Rows → Rows → Rows → Rows → Rows → Option α := fun x6 x7 x8 x9 x10 x11 x12 x13 => v α x6 x7 x9 (u103_0_1 (K .ret) 12 ([] : Rows) ([] : Rows) ([] : Rows)) (fun (y1 : Int) (y2 : Bool) (y3 : Rows) => u103_0_2 (K (.exit 0)) x6 x7 y1 y2 x9 x10 x11 x12 y3) x8 x13
theorem r103_0_0g (vf45_0 : Tf45_0) (vf126_0 : Tf126_0)  (α : Type) (K : Exit → St → Option α) (Kn : St → Option α) (x6 : Rows) (x7 : Int) (x8 : Int) (x9 : Rows) (x10 : Rows) (x11 : Rows) (x12 : Rows) (x13 : Rows) : u103_0_0 (fun σ => runM Try.prog (E103_0g vf45_0 vf126_0) sh103 (c103_0_17g ) (thenK (fun σ => tidyK td103_17 σ Kn) K) σ) x6 x7 x8 x9 x10 x11 x12 x13 = S103_0_0g vf126_0 α x6 x7 x9 x8 x13 (fun x8 x13 => u103_0_0 Kn x6 x7 x8 x9 x10 x11 x12 x13) (u103_0_1 (K .ret) 12 ([] : Rows) ([] : Rows) ([] : Rows)) (fun (y1 : Int) (y2 : Bool) (y3 : Rows) => u103_0_2 (K (.exit 0)) x6 x7 y1 y2 x9 x10 x11 x12 y3) := by kernel_rfl
theorem r103_0_0 (α : Type) (K : Exit → St → Option α) (Kn : St → Option α) (x6 : Rows) (x7 : Int) (x8 : Int) (x9 : Rows) (x10 : Rows) (x11 : Rows) (x12 : Rows) (x13 : Rows) : u103_0_0 (fun σ => runM Try.prog E103_0 sh103 c103_0_17 (thenK (fun σ => tidyK td103_17 σ Kn) K) σ) x6 x7 x8 x9 x10 x11 x12 x13 = S103_0_0 α x6 x7 x9 x8 x13 (fun x8 x13 => u103_0_0 Kn x6 x7 x8 x9 x10 x11 x12 x13) (u103_0_1 (K .ret) 12 ([] : Rows) ([] : Rows) ([] : Rows)) (fun (y1 : Int) (y2 : Bool) (y3 : Rows) => u103_0_2 (K (.exit 0)) x6 x7 y1 y2 x9 x10 x11 x12 y3) := r103_0_0g f45_0 f126_0 α K Kn x6 x7 x8 x9 x10 x11 x12 x13
theorem t103_0_0 (α : Type) (K : Exit → St → Option α) : ∀ (n : Nat) (x6 : Rows) (x7 : Int) (x8 : Int) (x9 : Rows) (x10 : Rows) (x11 : Rows) (x12 : Rows) (x13 : Rows), R103_0_0 α x6 x7 x9 (u103_0_1 (K .ret) 12 ([] : Rows) ([] : Rows) ([] : Rows)) (fun (y1 : Int) (y2 : Bool) (y3 : Rows) => u103_0_2 (K (.exit 0)) x6 x7 y1 y2 x9 x10 x11 x12 y3) n x8 x13 = u103_0_0 (loopT (runM Try.prog E103_0 sh103 c103_0_17) td103_17 K n) x6 x7 x8 x9 x10 x11 x12 x13 := by
  intro n
  induction n with
  | zero => intros; rfl
  | succ n ih => intro x6 x7 x8 x9 x10 x11 x12 x13; exact (congrArg (fun kn => S103_0_0 α x6 x7 x9 x8 x13 kn (u103_0_1 (K .ret) 12 ([] : Rows) ([] : Rows) ([] : Rows)) (fun (y1 : Int) (y2 : Bool) (y3 : Rows) => u103_0_2 (K (.exit 0)) x6 x7 y1 y2 x9 x10 x11 x12 y3)) (funext fun x8 => funext fun x13 => ih x6 x7 x8 x9 x10 x11 x12 x13)).trans (r103_0_0 α K (loopT (runM Try.prog E103_0 sh103 c103_0_17) td103_17 K n) x6 x7 x8 x9 x10 x11 x12 x13).symm
theorem m103_0_0 : ∀ (α : Type) (K : Exit → St → Option α), F103_0_0 L103_0_0 α K = p103_0_0.unc fun σ => loopT (runM Try.prog E103_0 sh103 c103_0_17) td103_17 K fuel σ := fun α K => funext fun x6 => funext fun x7 => funext fun x8 => funext fun x9 => funext fun x10 => funext fun x11 => funext fun x12 => funext fun x13 => t103_0_0 α K fuel x6 x7 x8 x9 x10 x11 x12 x13

/-- etalon/grow.open -/
abbrev Tf103_0 : Type 1 := (α : Type) → Rows → Rows → Rows → (Int → Option α) → (Rows → Rows → Rows → Option α) → Option α
def f103_0g (vL103_0_0 : TL103_0_0) (vf45_0 : Tf45_0) (α : Type) (x1 : Rows) (x2 : Rows) (x3 : Rows) (k1 : Int → Option α) (k2 : Rows → Rows → Rows → Option α) : Option α :=
  vf45_0 α x1 x2
    (fun (x4 : Int) (x5 : Int) => cK (x5 != 0)
      (k1 x5)
      (vL103_0_0 α x3 ((List.length x3 : Nat) : Int) x1
        (k1 12)
        (fun (x17 : Int) (x18 : Bool) (x19 : Rows) => k2 x1 x2 x19) 0 ([] : Rows)))
noncomputable def f103_0 (α : Type) (x1 : Rows) (x2 : Rows) (x3 : Rows) (k1 : Int → Option α) (k2 : Rows → Rows → Rows → Option α) : Option α := f103_0g L103_0_0 f45_0 α x1 x2 x3 k1 k2
def pa103_0 : PT (List DV) := pA [pV true [dL, dL], pV false [dL]]
def Fn103_0 (v : Tf103_0) (α : Type) (k : List RV → Option α) : Rows → Rows → Rows → Option α := fun x1 x2 x3 => v α x1 x2 x3 (fun (y1 : Int) => ur103_0_0 k ([] : Rows) ([] : Rows) ([] : Rows) y1) (fun (y1 : Rows) (y2 : Rows) (y3 : Rows) => ur103_0_1 k y1 y2 y3 0)
noncomputable def cm103_0g (vL103_0_0 : TL103_0_0) : MCode := (.seq (.region r103_2 [] (some ⟨[1, 2, 4], true, [⟨true, 4, 0, 30400, 1⟩, ⟨true, 4, 1, 30401, 4⟩], []⟩)) (.seq (.seq (.region r103_5 [] (some ⟨[1, 2, 4, 8], true, [⟨true, 4, 0, 30400, 1⟩, ⟨true, 4, 1, 30401, 4⟩], []⟩)) (.seq (.region r103_7 [] (some ⟨[1, 2, 4, 8, 18], true, [⟨true, 4, 0, 30400, 1⟩, ⟨true, 4, 1, 30401, 4⟩], []⟩)) (.cond (.tmp 18) (.seq (.region r103_10 [] (some ⟨[4, 5, 6], true, [⟨false, 5, 0, 20005, 1⟩, ⟨true, 4, 0, 30400, 1⟩, ⟨true, 4, 1, 30401, 4⟩], []⟩)) .ret) .skip))) (.seq (.region r103_12 [] (some ⟨[1, 2, 4, 9], true, [⟨true, 4, 0, 30400, 1⟩, ⟨true, 4, 1, 30401, 4⟩], []⟩)) (.seq (.seq (.region r103_15 [] (some ⟨[2, 4, 9, 21, 22, 23], true, [⟨true, 4, 0, 30400, 1⟩, ⟨true, 4, 1, 30401, 4⟩], []⟩)) (.block 0 (.loop td103_17 [⟨p103_0_0, F103_0_0 vL103_0_0⟩] c103_0_17))) (.seq (.region r103_35 [] (some ⟨[4, 5, 6], true, [⟨false, 5, 0, 20005, 1⟩, ⟨true, 4, 0, 30400, 1⟩, ⟨true, 4, 1, 30401, 4⟩], []⟩)) .ret)))))
noncomputable def cm103_0 : MCode := cm103_0g L103_0_0
theorem gm103_0 : cm103_0.Good Try.prog E103_0 sh103 := ⟨trivial, ⟨⟨trivial, ⟨trivial, ⟨⟨trivial, trivial⟩, trivial⟩⟩⟩, ⟨trivial, ⟨⟨trivial, ⟨g103_0_17, m103_0_0, trivial⟩⟩, ⟨trivial, trivial⟩⟩⟩⟩⟩
theorem fm103_0g (vf45_0 : Tf45_0) (vf126_0 : Tf126_0) (vL103_0_0 : TL103_0_0) (α : Type) (k : List RV → Option α) : Fn103_0 (f103_0g vL103_0_0 vf45_0) α k = pa103_0.unc fun ds => fnM Try.prog (E103_0g vf45_0 vf126_0) sh103 (cm103_0g vL103_0_0) rs103 k ds := by kernel_rfl
theorem fm103_0 : ∀ (α : Type) (k : List RV → Option α), Fn103_0 f103_0 α k = pa103_0.unc fun ds => fnM Try.prog E103_0 sh103 cm103_0 rs103 k ds := fm103_0g f45_0 f126_0 L103_0_0

theorem is103 : FnIs Try.prog 103 nt103 tr103 tl103 cm103_0.erase rs103 := ⟨Try.f103, Try.func103, rfl, by kernel_rfl, by kernel_rfl, by kernel_rfl⟩
theorem io103_0 : InstOk Try.prog 103 nt103 ⟨pa103_0, Fn103_0 f103_0⟩ := inst_ok eo103_0 followsTry is103 ⟨⟨sh103, cm103_0, by kernel_rfl, gm103_0, fm103_0⟩⟩

/-! ### F116 (etalon/grow.chamber).safe -/
abbrev nt116 : Nat := 9
def sh116 : List (Nat × List Sh) := [(5, [.sl, .sl])]
def r116_2 : List AOper := [⟨(some 2), (.box (.tmp 0)), none⟩, ⟨(some 4), (.mv (.const (.bool false))), none⟩]
def r116_4 : List AOper := [⟨(some 5), (.load true 2 (.tmp 2)), none⟩, ⟨(some 6), (.mv (.tmp 1)), none⟩, ⟨(some 7), (.call 104 [(.tmp 5), (.tmp 6)]), none⟩, ⟨(some 8), (.bin .lss 3 (.tmp 7) (.const (.int .i64 0))), none⟩, ⟨(some 4), (.mv (.tmp 8)), none⟩]
def tr116 : List (Nat × Tidy) := [(0, ⟨[1, 2], true, [], []⟩), (1, ⟨[4], true, [], []⟩)]
def tl116 : List (Nat × Tidy) := []
def rs116 : List AResV := [.tmp 4]
def pr116_0_0 : PT (List RV) := pRs [pR false [rD dB]]
def ur116_0_0 {β : Type} (g : List RV → β) : Bool → β := pr116_0_0.unc g

def E116_0g (vf104_0 : Tf104_0) : EnvK := EnvK.of [⟨104, nt104, [⟨pa104_0, Fn104_0 vf104_0⟩]⟩] noSeq
noncomputable def E116_0 : EnvK := E116_0g f104_0
theorem eo116_0 : E116_0.Ok Try.prog := EnvK.of_ok noSeq_ok ⟨⟨io104_0, trivial⟩, trivial⟩

/-- (etalon/grow.chamber).safe -/
abbrev Tf116_0 : Type 1 := (α : Type) → Rows → Rows → Int → (Bool → Option α) → Option α
def f116_0g (vf104_0 : Tf104_0) (α : Type) (x1 : Rows) (x2 : Rows) (x3 : Int) (k1 : Bool → Option α) : Option α :=
  vf104_0 α x1 x2 x3
    (fun (x4 : Int) => k1 (decide (x4 < 0)))
noncomputable def f116_0 (α : Type) (x1 : Rows) (x2 : Rows) (x3 : Int) (k1 : Bool → Option α) : Option α := f116_0g f104_0 α x1 x2 x3 k1
def pa116_0 : PT (List DV) := pA [pV true [dL, dL], pV false [(dI .i64)]]
def Fn116_0 (v : Tf116_0) (α : Type) (k : List RV → Option α) : Rows → Rows → Int → Option α := fun x1 x2 x3 => v α x1 x2 x3 (fun (y1 : Bool) => ur116_0_0 k y1)
noncomputable def cm116_0g  : MCode := (.seq (.region r116_2 [] (some ⟨[1, 2], true, [], []⟩)) (.seq (.region r116_4 [] (some ⟨[4], true, [], []⟩)) .ret))
noncomputable def cm116_0 : MCode := cm116_0g 
theorem gm116_0 : cm116_0.Good Try.prog E116_0 sh116 := ⟨trivial, ⟨trivial, trivial⟩⟩
theorem fm116_0g (vf104_0 : Tf104_0)  (α : Type) (k : List RV → Option α) : Fn116_0 (f116_0g vf104_0) α k = pa116_0.unc fun ds => fnM Try.prog (E116_0g vf104_0) sh116 (cm116_0g ) rs116 k ds := by kernel_rfl
theorem fm116_0 : ∀ (α : Type) (k : List RV → Option α), Fn116_0 f116_0 α k = pa116_0.unc fun ds => fnM Try.prog E116_0 sh116 cm116_0 rs116 k ds := fm116_0g f104_0

theorem is116 : FnIs Try.prog 116 nt116 tr116 tl116 cm116_0.erase rs116 := ⟨Try.f116, Try.func116, rfl, by kernel_rfl, by kernel_rfl, by kernel_rfl⟩
theorem io116_0 : InstOk Try.prog 116 nt116 ⟨pa116_0, Fn116_0 f116_0⟩ := inst_ok eo116_0 followsTry is116 ⟨⟨sh116, cm116_0, by kernel_rfl, gm116_0, fm116_0⟩⟩

/-! ### F49 etalon/grow.Switched -/
abbrev nt49 : Nat := 48
def sh49 : List (Nat × List Sh) := [(15, [.sl, .sl]), (27, [.sl]), (33, [.int .i64]), (34, [.int .i64]), (37, [.sl, .sl]), (45, [.sl])]
def r49_2 : List AOper := [⟨(some 3), (.box (.tmp 0)), none⟩, ⟨(some 6), (.mv (.const (.slice none 0 0))), none⟩, ⟨(some 7), (.mv (.const (.int .i64 0))), none⟩, ⟨(some 8), (.mv (.const (.int .i64 0))), none⟩]
def r49_4 : List AOper := [⟨(some 15), (.load true 2 (.tmp 3)), none⟩, ⟨(some 16), (.mv (.tmp 1)), none⟩, ⟨(some 17), (.bslice 1 1 [(.sl [])] [(0, (.tmp 16))]), none⟩, ⟨(some 18), (.call 103 [(.tmp 15), (.tmp 17)]), none⟩, ⟨(some 14), (.mv (.tmp 18)), none⟩, ⟨(some 19), (.extract 0 (.tmp 14)), none⟩, ⟨(some 20), (.extract 1 (.tmp 14)), none⟩, ⟨(some 21), (.extract 2 (.tmp 14)), none⟩, ⟨(some 9), (.alloc [.nils, .nils]), none⟩, ⟨none, (.store 2 (.tmp 9) (.tmp 19)), none⟩, ⟨(some 10), (.mv (.tmp 20)), none⟩, ⟨(some 11), (.mv (.tmp 21)), none⟩]
def r49_7 : List AOper := [⟨(some 22), (.mv (.tmp 11)), none⟩, ⟨(some 23), (.bin .neq 32 (.tmp 22) (.const (.int .i64 0))), none⟩]
def r49_10 : List AOper := [⟨(some 24), (.mv (.tmp 11)), none⟩, ⟨(some 6), (.mv (.const (.slice none 0 0))), none⟩, ⟨(some 7), (.mv (.const (.int .i64 0))), none⟩, ⟨(some 8), (.mv (.tmp 24)), none⟩]
def r49_13 : List AOper := [⟨(some 25), (.mv (.tmp 2)), none⟩, ⟨(some 26), (.faddr 0 (.tmp 3)), none⟩, ⟨(some 27), (.load false 1 (.tmp 26)), none⟩, ⟨(some 28), (.len (.tmp 27)), none⟩, ⟨(some 29), (.bin .sub 3 (.tmp 28) (.const (.int .i64 1))), none⟩, ⟨(some 30), (.call 78 [(.tmp 25), (.const (.int .i64 0)), (.tmp 29)]), none⟩, ⟨(some 31), (.pure (oB (.unOp .not 4 (.tmp 30)) 4)), none⟩]
def r49_16 : List AOper := [⟨(some 6), (.mv (.const (.slice none 0 0))), none⟩, ⟨(some 7), (.mv (.const (.int .i64 0))), none⟩, ⟨(some 8), (.mv (.const (.int .i64 6))), none⟩]
def r49_18 : List AOper := [⟨(some 32), (.mv (.tmp 10)), none⟩, ⟨(some 33), (.iaddr 1 none (.tmp 32) (.const (.int .i64 0))), none⟩, ⟨(some 34), (.load false 1 (.tmp 33)), none⟩, ⟨(some 35), (.mv (.tmp 2)), none⟩, ⟨(some 36), (.call 105 [(.tmp 34), (.tmp 35)]), none⟩, ⟨(some 12), (.mv (.tmp 36)), none⟩]
def r49_21 : List AOper := [⟨(some 37), (.load true 2 (.tmp 9)), none⟩, ⟨(some 38), (.mv (.tmp 12)), none⟩, ⟨(some 39), (.call 104 [(.tmp 37), (.tmp 38)]), none⟩, ⟨(some 13), (.mv (.tmp 39)), none⟩]
def r49_23 : List AOper := [⟨(some 40), (.mv (.tmp 13)), none⟩, ⟨(some 41), (.bin .geq 3 (.tmp 40) (.const (.int .i64 0))), none⟩]
def r49_26 : List AOper := [⟨(some 42), (.mv (.tmp 13)), none⟩, ⟨(some 6), (.mv (.const (.slice none 0 0))), none⟩, ⟨(some 7), (.mv (.tmp 42)), none⟩, ⟨(some 8), (.mv (.const (.int .i64 24))), none⟩]
def r49_28 : List AOper := [⟨(some 43), (.mv (.tmp 12)), none⟩, ⟨(some 44), (.faddr 0 (.tmp 3)), none⟩, ⟨(some 45), (.load false 1 (.tmp 44)), none⟩, ⟨(some 46), (.len (.tmp 45)), none⟩, ⟨(some 47), (.call 106 [(.tmp 43), (.tmp 46)]), none⟩, ⟨(some 6), (.mv (.tmp 47)), none⟩, ⟨(some 7), (.mv (.const (.int .i64 0))), none⟩, ⟨(some 8), (.mv (.const (.int .i64 0))), none⟩]
def tr49 : List (Nat × Tidy) := [(0, ⟨[1, 2, 3], true, [], []⟩), (1, ⟨[2, 3, 9, 10, 11], true, [], []⟩), (2, ⟨[2, 3, 9, 10, 11, 23], true, [], []⟩), (3, ⟨[6, 7, 8], true, [⟨false, 6, 0, 20006, 1⟩], []⟩), (4, ⟨[2, 3, 9, 10, 31], true, [], []⟩), (5, ⟨[6, 7, 8], true, [⟨false, 6, 0, 20006, 1⟩], []⟩), (6, ⟨[3, 9, 12], true, [], []⟩), (7, ⟨[3, 12, 13], true, [], []⟩), (8, ⟨[3, 12, 13, 41], true, [], []⟩), (9, ⟨[6, 7, 8], true, [⟨false, 6, 0, 20006, 1⟩], []⟩), (10, ⟨[6, 7, 8], true, [⟨false, 6, 0, 20006, 1⟩], []⟩)]
def tl49 : List (Nat × Tidy) := []
def rs49 : List AResV := [.tmp 6, .tmp 7, .tmp 8]
def p49_0_0 : PT St := pS [sl 1 (aV false [(cD dL)]), sl 2 (aV false [(cD (dI .i64))]), sl 3 (aV false [(cPtr 3 0)])] [eBox 3 [(cD dL), (cD dL)]]
def u49_0_0 {β : Type} (g : St → β) : Rows → Int → Rows → Rows → β := p49_0_0.unc g

def p49_0_1 : PT St := pS [sl 2 (aV false [(cD (dI .i64))]), sl 3 (aV false [(cPtr 3 0)]), sl 9 (aV false [(cPtr 9 0)]), sl 10 (aV false [(cRef 640018)]), sl 11 (aV false [(cD (dI .i64))])] [eBox 3 [(cD dL), (cD dL)], eBox 9 [(cRef 18), (cRef 10018)], eOwn 18 1, eOwn 10018 4, eOwn 640018 1]
def u49_0_1 {β : Type} (g : St → β) : Int → Int → Rows → Rows → Rows → Rows → Rows → β := p49_0_1.unc g

def p49_0_2 : PT St := pS [sl 2 (aV false [(cD (dI .i64))]), sl 3 (aV false [(cPtr 3 0)]), sl 9 (aV false [(cPtr 9 0)]), sl 10 (aV false [(cRef 640018)]), sl 11 (aV false [(cD (dI .i64))])] [eBox 3 [(cD dL), (cD dL)], eBox 9 [(cD dL), (cD dL)], eOwn 640018 1]
def u49_0_2 {β : Type} (g : St → β) : Int → Int → Rows → Rows → Rows → Rows → Rows → β := p49_0_2.unc g

def pr49_0_0 : PT (List RV) := pRs [pR false [rO 1], pR false [rD (dI .i64)], pR false [rD (dI .i64)]]
def ur49_0_0 {β : Type} (g : List RV → β) : Rows → Int → Int → β := pr49_0_0.unc g

def E49_0g (vf103_0 : Tf103_0) (vf78_0 : Tf78_0) (vf105_0 : Tf105_0) (vf104_0 : Tf104_0) (vf106_0 : Tf106_0) : EnvK := EnvK.of [⟨103, nt103, [⟨pa103_0, Fn103_0 vf103_0⟩]⟩, ⟨78, nt78, [⟨pa78_0, Fn78_0 vf78_0⟩]⟩, ⟨105, nt105, [⟨pa105_0, Fn105_0 vf105_0⟩]⟩, ⟨104, nt104, [⟨pa104_0, Fn104_0 vf104_0⟩]⟩, ⟨106, nt106, [⟨pa106_0, Fn106_0 vf106_0⟩]⟩] noSeq
noncomputable def E49_0 : EnvK := E49_0g f103_0 f78_0 f105_0 f104_0 f106_0
theorem eo49_0 : E49_0.Ok Try.prog := EnvK.of_ok noSeq_ok ⟨⟨io103_0, trivial⟩, ⟨io78_0, trivial⟩, ⟨io105_0, trivial⟩, ⟨io104_0, trivial⟩, ⟨io106_0, trivial⟩, trivial⟩

noncomputable def c49_0_3g  : MCode := (.region r49_4 [] (some ⟨[2, 3, 9, 10, 11], true, [], []⟩))
noncomputable def c49_0_3 : MCode := c49_0_3g 
theorem g49_0_3 : c49_0_3.Good Try.prog E49_0 sh49 := trivial
--CODE 3 0
abbrev TJ49_0_0 : Type 1 := (α : Type) → Rows → Rows → Rows → (Int → Option α) → (Rows → Rows → Rows → Option α) → Option α
def J49_0_0g (vf103_0 : Tf103_0) (α : Type) (x5 : Rows) (x7 : Rows) (x8 : Rows) (k1 : Int → Option α) (k2 : Rows → Rows → Rows → Option α) : Option α :=
  vf103_0 α x7 x8 [[DC.sl x5]]
    (fun (x10 : Int) => flatK [([] : Rows), ([] : Rows), ([] : Rows)]
      (k1 x10))
    (fun (x11 : Rows) (x12 : Rows) (x13 : Rows) => k2 x11 x12 x13)
noncomputable def J49_0_0 (α : Type) (x5 : Rows) (x7 : Rows) (x8 : Rows) (k1 : Int → Option α) (k2 : Rows → Rows → Rows → Option α) : Option α := J49_0_0g f103_0 α x5 x7 x8 k1 k2
def F49_0_0 (v : TJ49_0_0) (α : Type) (K : Exit → St → Option α) : Rows → Int → Rows → Rows → Option α := fun x5 x6 x7 x8 => v α x5 x7 x8 (fun (y1 : Int) => u49_0_1 (K .normal) x6 y1 x7 x8 ([] : Rows) ([] : Rows) ([] : Rows)) (fun (y1 : Rows) (y2 : Rows) (y3 : Rows) => u49_0_2 (K .normal) x6 0 x7 x8 y1 y2 y3) 
theorem m49_0_0g (vf103_0 : Tf103_0) (vf78_0 : Tf78_0) (vf105_0 : Tf105_0) (vf104_0 : Tf104_0) (vf106_0 : Tf106_0)  (α : Type) (K : Exit → St → Option α) : F49_0_0 (J49_0_0g vf103_0) α K = p49_0_0.unc fun σ => runM Try.prog (E49_0g vf103_0 vf78_0 vf105_0 vf104_0 vf106_0) sh49 (c49_0_3g ) K σ := by kernel_rfl
theorem m49_0_0 : ∀ (α : Type) (K : Exit → St → Option α), F49_0_0 J49_0_0 α K = p49_0_0.unc fun σ => runM Try.prog E49_0 sh49 c49_0_3 K σ := m49_0_0g f103_0 f78_0 f105_0 f104_0 f106_0

/-- etalon/grow.Switched -/
abbrev Tf49_0 : Type 1 := (α : Type) → Rows → Rows → Rows → Int → (Rows → Int → Int → Option α) → Option α
def f49_0g (vJ49_0_0 : TJ49_0_0) (vf104_0 : Tf104_0) (vf105_0 : Tf105_0) (vf106_0 : Tf106_0) (vf78_0 : Tf78_0) (α : Type) (x1 : Rows) (x2 : Rows) (x3 : Rows) (x4 : Int) (k1 : Rows → Int → Int → Option α) : Option α :=
  vJ49_0_0 α x3 x1 x2
    (fun (x14 : Int) => cK (x14 != 0)
      (k1 ([] : Rows) 0 x14)
      (vf78_0 α x4 0 (w64 (((List.length x1 : Nat) : Int) - 1))
        (fun (x19 : Bool) => cK (!x19)
          (k1 ([] : Rows) 0 6)
          (none))))
    (fun (x15 : Rows) (x16 : Rows) (x17 : Rows) => vf78_0 α x4 0 (w64 (((List.length x1 : Nat) : Int) - 1))
      (fun (x20 : Bool) => cK (!x20)
        (k1 ([] : Rows) 0 6)
        (ixK x17 0 1
          (ldK x17 0 0 [.int .i64]
            (fun (x21 : Int) => vf105_0 α x21 x4
              (fun (x22 : Int) => vf104_0 α x15 x16 x22
                (fun (x23 : Int) => cK (decide (0 ≤ x23))
                  (k1 ([] : Rows) x23 24)
                  (vf106_0 α x22 ((List.length x1 : Nat) : Int)
                    (fun (x24 : Rows) => k1 x24 0 0)))))))))
noncomputable def f49_0 (α : Type) (x1 : Rows) (x2 : Rows) (x3 : Rows) (x4 : Int) (k1 : Rows → Int → Int → Option α) : Option α := f49_0g J49_0_0 f104_0 f105_0 f106_0 f78_0 α x1 x2 x3 x4 k1
def pa49_0 : PT (List DV) := pA [pV true [dL, dL], pV false [dL], pV false [(dI .i64)]]
def Fn49_0 (v : Tf49_0) (α : Type) (k : List RV → Option α) : Rows → Rows → Rows → Int → Option α := fun x1 x2 x3 x4 => v α x1 x2 x3 x4 (fun (y1 : Rows) (y2 : Int) (y3 : Int) => ur49_0_0 k y1 y2 y3)
noncomputable def cm49_0g (vJ49_0_0 : TJ49_0_0) : MCode := (.seq (.region r49_2 [] (some ⟨[1, 2, 3], true, [], []⟩)) (.seq (.mark [⟨p49_0_0, F49_0_0 vJ49_0_0⟩] c49_0_3) (.seq (.seq (.region r49_7 [] (some ⟨[2, 3, 9, 10, 11, 23], true, [], []⟩)) (.cond (.tmp 23) (.seq (.region r49_10 [] (some ⟨[6, 7, 8], true, [⟨false, 6, 0, 20006, 1⟩], []⟩)) .ret) .skip)) (.seq (.seq (.region r49_13 [] (some ⟨[2, 3, 9, 10, 31], true, [], []⟩)) (.cond (.tmp 31) (.seq (.region r49_16 [] (some ⟨[6, 7, 8], true, [⟨false, 6, 0, 20006, 1⟩], []⟩)) .ret) .skip)) (.seq (.region r49_18 [] (some ⟨[3, 9, 12], true, [], []⟩)) (.seq (.seq (.region r49_21 [] (some ⟨[3, 12, 13], true, [], []⟩)) (.seq (.region r49_23 [] (some ⟨[3, 12, 13, 41], true, [], []⟩)) (.cond (.tmp 41) (.seq (.region r49_26 [] (some ⟨[6, 7, 8], true, [⟨false, 6, 0, 20006, 1⟩], []⟩)) .ret) .skip))) (.seq (.region r49_28 [] (some ⟨[6, 7, 8], true, [⟨false, 6, 0, 20006, 1⟩], []⟩)) .ret)))))))
noncomputable def cm49_0 : MCode := cm49_0g J49_0_0
theorem gm49_0 : cm49_0.Good Try.prog E49_0 sh49 := ⟨trivial, ⟨⟨g49_0_3, m49_0_0, trivial⟩, ⟨⟨trivial, ⟨⟨trivial, trivial⟩, trivial⟩⟩, ⟨⟨trivial, ⟨⟨trivial, trivial⟩, trivial⟩⟩, ⟨trivial, ⟨⟨trivial, ⟨trivial, ⟨⟨trivial, trivial⟩, trivial⟩⟩⟩, ⟨trivial, trivial⟩⟩⟩⟩⟩⟩⟩
theorem fm49_0g (vf103_0 : Tf103_0) (vf78_0 : Tf78_0) (vf105_0 : Tf105_0) (vf104_0 : Tf104_0) (vf106_0 : Tf106_0) (vJ49_0_0 : TJ49_0_0) (α : Type) (k : List RV → Option α) : Fn49_0 (f49_0g vJ49_0_0 vf104_0 vf105_0 vf106_0 vf78_0) α k = pa49_0.unc fun ds => fnM Try.prog (E49_0g vf103_0 vf78_0 vf105_0 vf104_0 vf106_0) sh49 (cm49_0g vJ49_0_0) rs49 k ds := by kernel_rfl
theorem fm49_0 : ∀ (α : Type) (k : List RV → Option α), Fn49_0 f49_0 α k = pa49_0.unc fun ds => fnM Try.prog E49_0 sh49 cm49_0 rs49 k ds := fm49_0g f103_0 f78_0 f105_0 f104_0 f106_0 J49_0_0

theorem is49 : FnIs Try.prog 49 nt49 tr49 tl49 cm49_0.erase rs49 := ⟨Try.f49, Try.func49, rfl, by kernel_rfl, by kernel_rfl, by kernel_rfl⟩
theorem io49_0 : InstOk Try.prog 49 nt49 ⟨pa49_0, Fn49_0 f49_0⟩ := inst_ok eo49_0 followsTry is49 ⟨⟨sh49, cm49_0, by kernel_rfl, gm49_0, fm49_0⟩⟩

/-! ### F47 etalon/grow.FirstBroken -/
abbrev nt47 : Nat := 29
def sh47 : List (Nat × List Sh) := [(11, [.sl, .sl]), (21, [.sl, .sl]), (23, [.int .i64]), (24, [.int .i64])]
def r47_2 : List AOper := [⟨(some 2), (.box (.tmp 0)), none⟩, ⟨(some 4), (.mv (.const (.int .i64 0))), none⟩, ⟨(some 5), (.mv (.const (.int .i64 0))), none⟩]
def r47_4 : List AOper := [⟨(some 11), (.load true 2 (.tmp 2)), none⟩, ⟨(some 12), (.mv (.tmp 1)), none⟩, ⟨(some 13), (.bslice 1 1 [(.sl [])] [(0, (.tmp 12))]), none⟩, ⟨(some 14), (.call 103 [(.tmp 11), (.tmp 13)]), none⟩, ⟨(some 10), (.mv (.tmp 14)), none⟩, ⟨(some 15), (.extract 0 (.tmp 10)), none⟩, ⟨(some 16), (.extract 1 (.tmp 10)), none⟩, ⟨(some 17), (.extract 2 (.tmp 10)), none⟩, ⟨(some 6), (.alloc [.nils, .nils]), none⟩, ⟨none, (.store 2 (.tmp 6) (.tmp 15)), none⟩, ⟨(some 7), (.mv (.tmp 16)), none⟩, ⟨(some 8), (.mv (.tmp 17)), none⟩]
def r47_7 : List AOper := [⟨(some 18), (.mv (.tmp 8)), none⟩, ⟨(some 19), (.bin .neq 32 (.tmp 18) (.const (.int .i64 0))), none⟩]
def r47_10 : List AOper := [⟨(some 20), (.mv (.tmp 8)), none⟩, ⟨(some 4), (.mv (.const (.int .i64 0))), none⟩, ⟨(some 5), (.mv (.tmp 20)), none⟩]
def r47_12 : List AOper := [⟨(some 21), (.load true 2 (.tmp 6)), none⟩, ⟨(some 22), (.mv (.tmp 7)), none⟩, ⟨(some 23), (.iaddr 1 none (.tmp 22) (.const (.int .i64 0))), none⟩, ⟨(some 24), (.load false 1 (.tmp 23)), none⟩, ⟨(some 25), (.call 104 [(.tmp 21), (.tmp 24)]), none⟩, ⟨(some 9), (.mv (.tmp 25)), none⟩]
def r47_15 : List AOper := [⟨(some 26), (.mv (.tmp 9)), none⟩, ⟨(some 27), (.bin .lss 3 (.tmp 26) (.const (.int .i64 0))), none⟩]
def r47_18 : List AOper := [⟨(some 4), (.mv (.const (.int .i64 0))), none⟩, ⟨(some 5), (.mv (.const (.int .i64 17))), none⟩]
def r47_20 : List AOper := [⟨(some 28), (.mv (.tmp 9)), none⟩, ⟨(some 4), (.mv (.tmp 28)), none⟩, ⟨(some 5), (.mv (.const (.int .i64 0))), none⟩]
def tr47 : List (Nat × Tidy) := [(0, ⟨[1, 2], true, [], []⟩), (1, ⟨[6, 7, 8], true, [], []⟩), (2, ⟨[6, 7, 8, 19], true, [], []⟩), (3, ⟨[4, 5], true, [], []⟩), (4, ⟨[9], true, [], []⟩), (5, ⟨[9, 27], true, [], []⟩), (6, ⟨[4, 5], true, [], []⟩), (7, ⟨[4, 5], true, [], []⟩)]
def tl47 : List (Nat × Tidy) := []
def rs47 : List AResV := [.tmp 4, .tmp 5]
def p47_0_0 : PT St := pS [sl 1 (aV false [(cD dL)]), sl 2 (aV false [(cPtr 2 0)])] [eBox 2 [(cD dL), (cD dL)]]
def u47_0_0 {β : Type} (g : St → β) : Rows → Rows → Rows → β := p47_0_0.unc g

def p47_0_1 : PT St := pS [sl 6 (aV false [(cPtr 6 0)]), sl 7 (aV false [(cRef 640014)]), sl 8 (aV false [(cD (dI .i64))])] [eBox 6 [(cRef 14), (cRef 10014)], eOwn 14 1, eOwn 10014 4, eOwn 640014 1]
def u47_0_1 {β : Type} (g : St → β) : Int → Rows → Rows → Rows → β := p47_0_1.unc g

def p47_0_2 : PT St := pS [sl 6 (aV false [(cPtr 6 0)]), sl 7 (aV false [(cRef 640014)]), sl 8 (aV false [(cD (dI .i64))])] [eBox 6 [(cD dL), (cD dL)], eOwn 640014 1]
def u47_0_2 {β : Type} (g : St → β) : Int → Rows → Rows → Rows → β := p47_0_2.unc g

def pr47_0_0 : PT (List RV) := pRs [pR false [rD (dI .i64)], pR false [rD (dI .i64)]]
def ur47_0_0 {β : Type} (g : List RV → β) : Int → Int → β := pr47_0_0.unc g

def E47_0g (vf103_0 : Tf103_0) (vf104_0 : Tf104_0) : EnvK := EnvK.of [⟨103, nt103, [⟨pa103_0, Fn103_0 vf103_0⟩]⟩, ⟨104, nt104, [⟨pa104_0, Fn104_0 vf104_0⟩]⟩] noSeq
noncomputable def E47_0 : EnvK := E47_0g f103_0 f104_0
theorem eo47_0 : E47_0.Ok Try.prog := EnvK.of_ok noSeq_ok ⟨⟨io103_0, trivial⟩, ⟨io104_0, trivial⟩, trivial⟩

noncomputable def c47_0_3g  : MCode := (.region r47_4 [] (some ⟨[6, 7, 8], true, [], []⟩))
noncomputable def c47_0_3 : MCode := c47_0_3g 
theorem g47_0_3 : c47_0_3.Good Try.prog E47_0 sh47 := trivial
--CODE 3 0
abbrev TJ47_0_0 : Type 1 := (α : Type) → Rows → Rows → Rows → (Int → Option α) → (Rows → Rows → Rows → Option α) → Option α
def J47_0_0g (vf103_0 : Tf103_0) (α : Type) (x4 : Rows) (x5 : Rows) (x6 : Rows) (k1 : Int → Option α) (k2 : Rows → Rows → Rows → Option α) : Option α :=
  vf103_0 α x5 x6 [[DC.sl x4]]
    (fun (x8 : Int) => flatK [([] : Rows), ([] : Rows), ([] : Rows)]
      (k1 x8))
    (fun (x9 : Rows) (x10 : Rows) (x11 : Rows) => k2 x9 x10 x11)
noncomputable def J47_0_0 (α : Type) (x4 : Rows) (x5 : Rows) (x6 : Rows) (k1 : Int → Option α) (k2 : Rows → Rows → Rows → Option α) : Option α := J47_0_0g f103_0 α x4 x5 x6 k1 k2
def F47_0_0 (v : TJ47_0_0) (α : Type) (K : Exit → St → Option α) : Rows → Rows → Rows → Option α := fun x4 x5 x6 => v α x4 x5 x6 (fun (y1 : Int) => u47_0_1 (K .normal) y1 ([] : Rows) ([] : Rows) ([] : Rows)) (fun (y1 : Rows) (y2 : Rows) (y3 : Rows) => u47_0_2 (K .normal) 0 y1 y2 y3) 
theorem m47_0_0g (vf103_0 : Tf103_0) (vf104_0 : Tf104_0)  (α : Type) (K : Exit → St → Option α) : F47_0_0 (J47_0_0g vf103_0) α K = p47_0_0.unc fun σ => runM Try.prog (E47_0g vf103_0 vf104_0) sh47 (c47_0_3g ) K σ := by kernel_rfl
theorem m47_0_0 : ∀ (α : Type) (K : Exit → St → Option α), F47_0_0 J47_0_0 α K = p47_0_0.unc fun σ => runM Try.prog E47_0 sh47 c47_0_3 K σ := m47_0_0g f103_0 f104_0

/-- etalon/grow.FirstBroken -/
abbrev Tf47_0 : Type 1 := (α : Type) → Rows → Rows → Rows → (Int → Int → Option α) → Option α
def f47_0g (vJ47_0_0 : TJ47_0_0) (vf104_0 : Tf104_0) (α : Type) (x1 : Rows) (x2 : Rows) (x3 : Rows) (k1 : Int → Int → Option α) : Option α :=
  vJ47_0_0 α x3 x1 x2
    (fun (x12 : Int) => cK (x12 != 0)
      (k1 0 x12)
      (none))
    (fun (x13 : Rows) (x14 : Rows) (x15 : Rows) => ixK x15 0 1
      (ldK x15 0 0 [.int .i64]
        (fun (x17 : Int) => vf104_0 α x13 x14 x17
          (fun (x18 : Int) => cK (decide (x18 < 0))
            (k1 0 17)
            (k1 x18 0)))))
noncomputable def f47_0 (α : Type) (x1 : Rows) (x2 : Rows) (x3 : Rows) (k1 : Int → Int → Option α) : Option α := f47_0g J47_0_0 f104_0 α x1 x2 x3 k1
def pa47_0 : PT (List DV) := pA [pV true [dL, dL], pV false [dL]]
def Fn47_0 (v : Tf47_0) (α : Type) (k : List RV → Option α) : Rows → Rows → Rows → Option α := fun x1 x2 x3 => v α x1 x2 x3 (fun (y1 : Int) (y2 : Int) => ur47_0_0 k y1 y2)
noncomputable def cm47_0g (vJ47_0_0 : TJ47_0_0) : MCode := (.seq (.region r47_2 [] (some ⟨[1, 2], true, [], []⟩)) (.seq (.mark [⟨p47_0_0, F47_0_0 vJ47_0_0⟩] c47_0_3) (.seq (.seq (.region r47_7 [] (some ⟨[6, 7, 8, 19], true, [], []⟩)) (.cond (.tmp 19) (.seq (.region r47_10 [] (some ⟨[4, 5], true, [], []⟩)) .ret) .skip)) (.seq (.region r47_12 [] (some ⟨[9], true, [], []⟩)) (.seq (.seq (.region r47_15 [] (some ⟨[9, 27], true, [], []⟩)) (.cond (.tmp 27) (.seq (.region r47_18 [] (some ⟨[4, 5], true, [], []⟩)) .ret) .skip)) (.seq (.region r47_20 [] (some ⟨[4, 5], true, [], []⟩)) .ret))))))
noncomputable def cm47_0 : MCode := cm47_0g J47_0_0
theorem gm47_0 : cm47_0.Good Try.prog E47_0 sh47 := ⟨trivial, ⟨⟨g47_0_3, m47_0_0, trivial⟩, ⟨⟨trivial, ⟨⟨trivial, trivial⟩, trivial⟩⟩, ⟨trivial, ⟨⟨trivial, ⟨⟨trivial, trivial⟩, trivial⟩⟩, ⟨trivial, trivial⟩⟩⟩⟩⟩⟩
theorem fm47_0g (vf103_0 : Tf103_0) (vf104_0 : Tf104_0) (vJ47_0_0 : TJ47_0_0) (α : Type) (k : List RV → Option α) : Fn47_0 (f47_0g vJ47_0_0 vf104_0) α k = pa47_0.unc fun ds => fnM Try.prog (E47_0g vf103_0 vf104_0) sh47 (cm47_0g vJ47_0_0) rs47 k ds := by kernel_rfl
theorem fm47_0 : ∀ (α : Type) (k : List RV → Option α), Fn47_0 f47_0 α k = pa47_0.unc fun ds => fnM Try.prog E47_0 sh47 cm47_0 rs47 k ds := fm47_0g f103_0 f104_0 J47_0_0

theorem is47 : FnIs Try.prog 47 nt47 tr47 tl47 cm47_0.erase rs47 := ⟨Try.f47, Try.func47, rfl, by kernel_rfl, by kernel_rfl, by kernel_rfl⟩
theorem io47_0 : InstOk Try.prog 47 nt47 ⟨pa47_0, Fn47_0 f47_0⟩ := inst_ok eo47_0 followsTry is47 ⟨⟨sh47, cm47_0, by kernel_rfl, gm47_0, fm47_0⟩⟩

/-! ### F9 etalon/etalonlaw08.GrowChambers -/
abbrev nt9 : Nat := 169
def sh9 : List (Nat × List Sh) := [(21, [.sl, .sl]), (30, [.sl, .sl]), (36, [.sl, .sl]), (44, [.sl, .sl]), (54, [.sl, .sl]), (68, [.sl, .sl]), (94, [.sl, .sl]), (122, [.sl]), (141, [.sl, .sl])]
def r9_2 : List AOper := [⟨(some 3), (.box (.tmp 0)), none⟩, ⟨(some 6), (.mv (.const (.bool false))), none⟩]
def r9_5 : List AOper := [⟨(some 19), (.call 14 []), none⟩, ⟨(some 20), (.pure (oB (.unOp .not 4 (.tmp 19)) 4)), none⟩]
def r9_8 : List AOper := [⟨(some 6), (.mv (.const (.bool false))), none⟩]
def r9_11 : List AOper := [⟨(some 21), (.load true 2 (.tmp 3)), none⟩, ⟨(some 22), (.call 44 [(.tmp 21)]), none⟩, ⟨(some 23), (.pure (oB (.unOp .not 4 (.tmp 22)) 4)), none⟩, ⟨(some 24), (.mv (.tmp 23)), none⟩, ⟨(some 25), (.mv (.tmp 1)), (some (24, false))⟩, ⟨(some 26), (.len (.tmp 25)), (some (24, false))⟩, ⟨(some 27), (.bin .gtr 3 (.tmp 26) (.const (.int .i64 12))), (some (24, false))⟩, ⟨(some 28), (.pick (.tmp 24) (.const (.bool true)) (.tmp 27)), none⟩]
def r9_14 : List AOper := [⟨(some 6), (.mv (.const (.bool true))), none⟩]
def r9_16 : List AOper := [⟨(some 30), (.load true 2 (.tmp 3)), none⟩, ⟨(some 31), (.call 46 [(.tmp 30)]), none⟩, ⟨(some 32), (.call 45 [(.tmp 31)]), none⟩, ⟨(some 29), (.mv (.tmp 32)), none⟩, ⟨(some 33), (.extract 0 (.tmp 29)), none⟩, ⟨(some 34), (.extract 1 (.tmp 29)), none⟩, ⟨(some 7), (.mv (.tmp 33)), none⟩, ⟨(some 8), (.mv (.tmp 34)), none⟩]
def r9_18 : List AOper := [⟨(some 36), (.load true 2 (.tmp 3)), none⟩, ⟨(some 37), (.call 46 [(.tmp 36)]), none⟩, ⟨(some 38), (.mv (.tmp 1)), none⟩, ⟨(some 39), (.call 48 [(.tmp 38)]), none⟩, ⟨(some 40), (.call 47 [(.tmp 37), (.tmp 39)]), none⟩, ⟨(some 35), (.mv (.tmp 40)), none⟩, ⟨(some 41), (.extract 0 (.tmp 35)), none⟩, ⟨(some 42), (.extract 1 (.tmp 35)), none⟩, ⟨(some 9), (.mv (.tmp 41)), none⟩, ⟨(some 10), (.mv (.tmp 42)), none⟩]
def r9_20 : List AOper := [⟨(some 44), (.load true 2 (.tmp 3)), none⟩, ⟨(some 45), (.call 46 [(.tmp 44)]), none⟩, ⟨(some 46), (.mv (.tmp 1)), none⟩, ⟨(some 47), (.call 48 [(.tmp 46)]), none⟩, ⟨(some 48), (.mv (.tmp 2)), none⟩, ⟨(some 49), (.call 49 [(.tmp 45), (.tmp 47), (.tmp 48)]), none⟩, ⟨(some 43), (.mv (.tmp 49)), none⟩, ⟨(some 50), (.extract 0 (.tmp 43)), none⟩, ⟨(some 51), (.extract 1 (.tmp 43)), none⟩, ⟨(some 52), (.extract 2 (.tmp 43)), none⟩, ⟨(some 11), (.mv (.tmp 50)), none⟩, ⟨(some 12), (.mv (.tmp 51)), none⟩, ⟨(some 13), (.mv (.tmp 52)), none⟩]
def r9_22 : List AOper := [⟨(some 54), (.load true 2 (.tmp 3)), none⟩, ⟨(some 55), (.call 50 [(.tmp 54)]), none⟩, ⟨(some 53), (.mv (.tmp 55)), none⟩, ⟨(some 56), (.extract 0 (.tmp 53)), none⟩, ⟨(some 57), (.extract 1 (.tmp 53)), none⟩, ⟨(some 14), (.mv (.tmp 56)), none⟩, ⟨(some 15), (.mv (.tmp 57)), none⟩]
def r9_25 : List AOper := [⟨(some 58), (.mv (.tmp 7)), none⟩, ⟨(some 59), (.mv (.tmp 14)), none⟩, ⟨(some 60), (.bin .neq 3 (.tmp 58) (.tmp 59)), none⟩, ⟨(some 61), (.mv (.tmp 60)), none⟩, ⟨(some 62), (.mv (.tmp 8)), (some (61, false))⟩, ⟨(some 63), (.mv (.tmp 15)), (some (61, false))⟩, ⟨(some 64), (.bin .neq 3 (.tmp 62) (.tmp 63)), (some (61, false))⟩, ⟨(some 65), (.pick (.tmp 61) (.const (.bool true)) (.tmp 64)), none⟩]
def r9_28 : List AOper := [⟨(some 6), (.mv (.const (.bool false))), none⟩]
def r9_31 : List AOper := [⟨(some 66), (.mv (.tmp 15)), none⟩, ⟨(some 67), (.bin .eql 3 (.tmp 66) (.const (.int .i64 0))), none⟩]
def r9_33 : List AOper := [⟨(some 68), (.load true 2 (.tmp 3)), none⟩, ⟨(some 69), (.mv (.tmp 1)), none⟩, ⟨(some 70), (.call 51 [(.tmp 68), (.tmp 69)]), none⟩, ⟨(some 15), (.mv (.tmp 70)), none⟩]
def r9_36 : List AOper := [⟨(some 71), (.mv (.tmp 15)), none⟩, ⟨(some 72), (.bin .neq 3 (.tmp 71) (.const (.int .i64 0))), none⟩]
def r9_39 : List AOper := [⟨(some 73), (.mv (.tmp 10)), none⟩, ⟨(some 74), (.mv (.tmp 15)), none⟩, ⟨(some 75), (.bin .eql 3 (.tmp 73) (.tmp 74)), none⟩, ⟨(some 76), (.mv (.tmp 75)), none⟩, ⟨(some 77), (.mv (.tmp 13)), (some (76, true))⟩, ⟨(some 78), (.mv (.tmp 15)), (some (76, true))⟩, ⟨(some 79), (.bin .eql 3 (.tmp 77) (.tmp 78)), (some (76, true))⟩, ⟨(some 80), (.pick (.tmp 76) (.tmp 79) (.const (.bool false))), none⟩, ⟨(some 81), (.mv (.tmp 80)), none⟩, ⟨(some 82), (.mv (.tmp 9)), (some (81, true))⟩, ⟨(some 83), (.bin .eql 3 (.tmp 82) (.const (.int .i64 0))), (some (81, true))⟩, ⟨(some 84), (.pick (.tmp 81) (.tmp 83) (.const (.bool false))), none⟩, ⟨(some 85), (.mv (.tmp 84)), none⟩, ⟨(some 86), (.mv (.tmp 11)), (some (85, true))⟩, ⟨(some 87), (.len (.tmp 86)), (some (85, true))⟩, ⟨(some 88), (.bin .eql 3 (.tmp 87) (.const (.int .i64 0))), (some (85, true))⟩, ⟨(some 89), (.pick (.tmp 85) (.tmp 88) (.const (.bool false))), none⟩, ⟨(some 90), (.mv (.tmp 89)), none⟩, ⟨(some 91), (.mv (.tmp 12)), (some (90, true))⟩, ⟨(some 92), (.bin .eql 3 (.tmp 91) (.const (.int .i64 0))), (some (90, true))⟩, ⟨(some 93), (.pick (.tmp 90) (.tmp 92) (.const (.bool false))), none⟩, ⟨(some 6), (.mv (.tmp 93)), none⟩]
def r9_42 : List AOper := [⟨(some 94), (.load true 2 (.tmp 3)), none⟩, ⟨(some 95), (.mv (.tmp 1)), none⟩, ⟨(some 96), (.call 52 [(.tmp 94), (.tmp 95)]), none⟩, ⟨(some 16), (.mv (.tmp 96)), none⟩]
def r9_44 : List AOper := [⟨(some 97), (.mv (.tmp 16)), none⟩, ⟨(some 98), (.bin .lss 3 (.tmp 97) (.const (.int .i64 0))), none⟩, ⟨(some 99), (.mv (.tmp 98)), none⟩, ⟨(some 100), (.mv (.tmp 10)), (some (99, true))⟩, ⟨(some 101), (.bin .neq 32 (.tmp 100) (.const (.int .i64 17))), (some (99, true))⟩, ⟨(some 102), (.mv (.tmp 101)), (some (99, true))⟩, ⟨(some 103), (.mv (.tmp 9)), (some (102, false))⟩, ⟨(some 104), (.bin .neq 3 (.tmp 103) (.const (.int .i64 0))), (some (102, false))⟩, ⟨(some 105), (.pick (.tmp 102) (.const (.bool true)) (.tmp 104)), (some (99, true))⟩, ⟨(some 106), (.pick (.tmp 99) (.tmp 105) (.const (.bool false))), none⟩, ⟨(some 107), (.mv (.tmp 106)), none⟩, ⟨(some 108), (.mv (.tmp 16)), (some (107, false))⟩, ⟨(some 109), (.bin .geq 3 (.tmp 108) (.const (.int .i64 0))), (some (107, false))⟩, ⟨(some 110), (.mv (.tmp 109)), (some (107, false))⟩, ⟨(some 111), (.mv (.tmp 10)), (some (110, true))⟩, ⟨(some 112), (.bin .neq 32 (.tmp 111) (.const (.int .i64 0))), (some (110, true))⟩, ⟨(some 113), (.mv (.tmp 112)), (some (110, true))⟩, ⟨(some 114), (.mv (.tmp 9)), (some (113, false))⟩, ⟨(some 115), (.mv (.tmp 16)), (some (113, false))⟩, ⟨(some 116), (.bin .neq 3 (.tmp 114) (.tmp 115)), (some (113, false))⟩, ⟨(some 117), (.pick (.tmp 113) (.const (.bool true)) (.tmp 116)), (some (110, true))⟩, ⟨(some 118), (.pick (.tmp 110) (.tmp 117) (.const (.bool false))), (some (107, false))⟩, ⟨(some 119), (.pick (.tmp 107) (.const (.bool true)) (.tmp 118)), none⟩]
def r9_47 : List AOper := [⟨(some 6), (.mv (.const (.bool false))), none⟩]
def r9_50 : List AOper := [⟨(some 120), (.mv (.tmp 2)), none⟩, ⟨(some 121), (.faddr 0 (.tmp 3)), none⟩, ⟨(some 122), (.load false 1 (.tmp 121)), none⟩, ⟨(some 123), (.len (.tmp 122)), none⟩, ⟨(some 124), (.bin .sub 3 (.tmp 123) (.const (.int .i64 1))), none⟩, ⟨(some 125), (.call 19 [(.tmp 120), (.const (.int .i64 0)), (.tmp 124)]), none⟩, ⟨(some 126), (.pure (oB (.unOp .not 4 (.tmp 125)) 4)), none⟩]
def r9_53 : List AOper := [⟨(some 127), (.mv (.tmp 13)), none⟩, ⟨(some 128), (.bin .eql 32 (.tmp 127) (.const (.int .i64 6))), none⟩, ⟨(some 129), (.mv (.tmp 128)), none⟩, ⟨(some 130), (.mv (.tmp 11)), (some (129, true))⟩, ⟨(some 131), (.len (.tmp 130)), (some (129, true))⟩, ⟨(some 132), (.bin .eql 3 (.tmp 131) (.const (.int .i64 0))), (some (129, true))⟩, ⟨(some 133), (.pick (.tmp 129) (.tmp 132) (.const (.bool false))), none⟩, ⟨(some 134), (.mv (.tmp 133)), none⟩, ⟨(some 135), (.mv (.tmp 12)), (some (134, true))⟩, ⟨(some 136), (.bin .eql 3 (.tmp 135) (.const (.int .i64 0))), (some (134, true))⟩, ⟨(some 137), (.pick (.tmp 134) (.tmp 136) (.const (.bool false))), none⟩, ⟨(some 6), (.mv (.tmp 137)), none⟩]
def r9_55 : List AOper := [⟨(some 138), (.mv (.tmp 1)), none⟩, ⟨(some 139), (.mv (.tmp 2)), none⟩, ⟨(some 140), (.call 53 [(.tmp 138), (.tmp 139)]), none⟩, ⟨(some 17), (.mv (.tmp 140)), none⟩]
def r9_58 : List AOper := [⟨(some 141), (.load true 2 (.tmp 3)), none⟩, ⟨(some 142), (.mv (.tmp 17)), none⟩, ⟨(some 143), (.call 52 [(.tmp 141), (.tmp 142)]), none⟩, ⟨(some 18), (.mv (.tmp 143)), none⟩]
def r9_60 : List AOper := [⟨(some 144), (.mv (.tmp 18)), none⟩, ⟨(some 145), (.bin .geq 3 (.tmp 144) (.const (.int .i64 0))), none⟩]
def r9_63 : List AOper := [⟨(some 146), (.mv (.tmp 13)), none⟩, ⟨(some 147), (.bin .eql 32 (.tmp 146) (.const (.int .i64 24))), none⟩, ⟨(some 148), (.mv (.tmp 147)), none⟩, ⟨(some 149), (.mv (.tmp 12)), (some (148, true))⟩, ⟨(some 150), (.mv (.tmp 18)), (some (148, true))⟩, ⟨(some 151), (.bin .eql 3 (.tmp 149) (.tmp 150)), (some (148, true))⟩, ⟨(some 152), (.pick (.tmp 148) (.tmp 151) (.const (.bool false))), none⟩, ⟨(some 153), (.mv (.tmp 152)), none⟩, ⟨(some 154), (.mv (.tmp 11)), (some (153, true))⟩, ⟨(some 155), (.len (.tmp 154)), (some (153, true))⟩, ⟨(some 156), (.bin .eql 3 (.tmp 155) (.const (.int .i64 0))), (some (153, true))⟩, ⟨(some 157), (.pick (.tmp 153) (.tmp 156) (.const (.bool false))), none⟩, ⟨(some 6), (.mv (.tmp 157)), none⟩]
def r9_65 : List AOper := [⟨(some 158), (.mv (.tmp 13)), none⟩, ⟨(some 159), (.bin .eql 32 (.tmp 158) (.const (.int .i64 0))), none⟩, ⟨(some 160), (.mv (.tmp 159)), none⟩, ⟨(some 161), (.mv (.tmp 12)), (some (160, true))⟩, ⟨(some 162), (.bin .eql 3 (.tmp 161) (.const (.int .i64 0))), (some (160, true))⟩, ⟨(some 163), (.pick (.tmp 160) (.tmp 162) (.const (.bool false))), none⟩, ⟨(some 164), (.mv (.tmp 163)), none⟩, ⟨(some 165), (.mv (.tmp 11)), (some (164, true))⟩, ⟨(some 166), (.mv (.tmp 17)), (some (164, true))⟩, ⟨(some 167), (.call 54 [(.tmp 165), (.tmp 166)]), (some (164, true))⟩, ⟨(some 168), (.pick (.tmp 164) (.tmp 167) (.const (.bool false))), none⟩, ⟨(some 6), (.mv (.tmp 168)), none⟩]
def tr9 : List (Nat × Tidy) := [(0, ⟨[1, 2, 3], true, [], []⟩), (1, ⟨[1, 2, 3, 20], true, [], []⟩), (2, ⟨[6], true, [], []⟩), (3, ⟨[1, 2, 3, 28], true, [], []⟩), (4, ⟨[6], true, [], []⟩), (5, ⟨[1, 2, 3, 7, 8], true, [], []⟩), (6, ⟨[1, 2, 3, 7, 8, 9, 10], true, [], []⟩), (7, ⟨[1, 2, 3, 7, 8, 9, 10, 11, 12, 13], true, [], []⟩), (8, ⟨[1, 2, 3, 7, 8, 9, 10, 11, 12, 13, 14, 15], true, [], []⟩), (9, ⟨[1, 2, 3, 9, 10, 11, 12, 13, 15, 65], true, [], []⟩), (10, ⟨[6], true, [], []⟩), (11, ⟨[1, 2, 3, 9, 10, 11, 12, 13, 15, 67], true, [], []⟩), (12, ⟨[1, 2, 3, 9, 10, 11, 12, 13, 15], true, [], []⟩), (13, ⟨[1, 2, 3, 9, 10, 11, 12, 13, 15, 72], true, [], []⟩), (14, ⟨[6], true, [], []⟩), (15, ⟨[1, 2, 3, 9, 10, 11, 12, 13, 16], true, [], []⟩), (16, ⟨[1, 2, 3, 11, 12, 13, 119], true, [], []⟩), (17, ⟨[6], true, [], []⟩), (18, ⟨[1, 2, 3, 11, 12, 13, 126], true, [], []⟩), (19, ⟨[6], true, [], []⟩), (20, ⟨[3, 11, 12, 13, 17], true, [], []⟩), (21, ⟨[11, 12, 13, 17, 18], true, [], []⟩), (22, ⟨[11, 12, 13, 17, 18, 145], true, [], []⟩), (23, ⟨[6], true, [], []⟩), (24, ⟨[6], true, [], []⟩)]
def tl9 : List (Nat × Tidy) := []
def rs9 : List AResV := [.tmp 6]
def p9_0_0 : PT St := pS [sl 1 (aV false [(cD dL)]), sl 2 (aV false [(cD (dI .i64))]), sl 3 (aV false [(cPtr 3 0)]), sl 9 (aV false [(cD (dI .i64))]), sl 10 (aV false [(cD (dI .i64))]), sl 11 (aV false [(cRef 49)]), sl 12 (aV false [(cD (dI .i64))]), sl 13 (aV false [(cD (dI .i64))]), sl 15 (aV false [(cD (dI .i64))]), sl 65 (aV false [(cD dB)])] [eBox 3 [(cD dL), (cD dL)], eOwn 49 1]
def u9_0_0 {β : Type} (g : St → β) : Rows → Int → Int → Int → Int → Int → Int → Bool → Rows → Rows → Rows → β := p9_0_0.unc g

def p9_0_1 : PT St := pS [sl 1 (aV false [(cD dL)]), sl 2 (aV false [(cD (dI .i64))]), sl 3 (aV false [(cPtr 3 0)]), sl 9 (aV false [(cD (dI .i64))]), sl 10 (aV false [(cD (dI .i64))]), sl 11 (aV false [(cRef 49)]), sl 12 (aV false [(cD (dI .i64))]), sl 13 (aV false [(cD (dI .i64))]), sl 15 (aV false [(cD (dI .i64))])] [eBox 3 [(cD dL), (cD dL)], eOwn 49 1]
def u9_0_1 {β : Type} (g : St → β) : Rows → Int → Int → Int → Int → Int → Int → Rows → Rows → Rows → β := p9_0_1.unc g

def p9_0_2 : PT St := pS [sl 1 (aV false [(cD dL)]), sl 2 (aV false [(cD (dI .i64))]), sl 3 (aV false [(cPtr 3 0)]), sl 9 (aV false [(cD (dI .i64))]), sl 10 (aV false [(cD (dI .i64))]), sl 11 (aV false [(cRef 49)]), sl 12 (aV false [(cD (dI .i64))]), sl 13 (aV false [(cD (dI .i64))]), sl 15 (aV false [(cD (dI .i64))]), sl 67 (aV false [(cD dB)])] [eBox 3 [(cD dL), (cD dL)], eOwn 49 1]
def u9_0_2 {β : Type} (g : St → β) : Rows → Int → Int → Int → Int → Int → Int → Bool → Rows → Rows → Rows → β := p9_0_2.unc g

def p9_0_3 : PT St := pS [sl 1 (aV false [(cD dL)]), sl 2 (aV false [(cD (dI .i64))]), sl 3 (aV false [(cPtr 3 0)]), sl 9 (aV false [(cD (dI .i64))]), sl 10 (aV false [(cD (dI .i64))]), sl 11 (aV false [(cRef 49)]), sl 12 (aV false [(cD (dI .i64))]), sl 13 (aV false [(cD (dI .i64))]), sl 16 (aV false [(cD (dI .i64))])] [eBox 3 [(cD dL), (cD dL)], eOwn 49 1]
def u9_0_3 {β : Type} (g : St → β) : Rows → Int → Int → Int → Int → Int → Int → Rows → Rows → Rows → β := p9_0_3.unc g

def p9_0_4 : PT St := pS [sl 1 (aV false [(cD dL)]), sl 2 (aV false [(cD (dI .i64))]), sl 3 (aV false [(cPtr 3 0)]), sl 11 (aV false [(cRef 49)]), sl 12 (aV false [(cD (dI .i64))]), sl 13 (aV false [(cD (dI .i64))]), sl 119 (aV false [(cD dB)])] [eBox 3 [(cD dL), (cD dL)], eOwn 49 1]
def u9_0_4 {β : Type} (g : St → β) : Rows → Int → Int → Int → Bool → Rows → Rows → Rows → β := p9_0_4.unc g

def pr9_0_0 : PT (List RV) := pRs [pR false [rD dB]]
def ur9_0_0 {β : Type} (g : List RV → β) : Bool → β := pr9_0_0.unc g

def E9_0g (vf14_0 : Tf14_0) (vf44_0 : Tf44_0) (vf46_0 : Tf46_0) (vf45_0 : Tf45_0) (vf48_0 : Tf48_0) (vf47_0 : Tf47_0) (vf49_0 : Tf49_0) (vf50_0 : Tf50_0) (vf51_0 : Tf51_0) (vf52_0 : Tf52_0) (vf19_0 : Tf19_0) (vf53_0 : Tf53_0) (vf54_0 : Tf54_0) : EnvK := EnvK.of [⟨14, nt14, [⟨pa14_0, Fn14_0 vf14_0⟩]⟩, ⟨44, nt44, [⟨pa44_0, Fn44_0 vf44_0⟩]⟩, ⟨46, nt46, [⟨pa46_0, Fn46_0 vf46_0⟩]⟩, ⟨45, nt45, [⟨pa45_0, Fn45_0 vf45_0⟩]⟩, ⟨48, nt48, [⟨pa48_0, Fn48_0 vf48_0⟩]⟩, ⟨47, nt47, [⟨pa47_0, Fn47_0 vf47_0⟩]⟩, ⟨49, nt49, [⟨pa49_0, Fn49_0 vf49_0⟩]⟩, ⟨50, nt50, [⟨pa50_0, Fn50_0 vf50_0⟩]⟩, ⟨51, nt51, [⟨pa51_0, Fn51_0 vf51_0⟩]⟩, ⟨52, nt52, [⟨pa52_0, Fn52_0 vf52_0⟩]⟩, ⟨19, nt19, [⟨pa19_0, Fn19_0 vf19_0⟩]⟩, ⟨53, nt53, [⟨pa53_0, Fn53_0 vf53_0⟩]⟩, ⟨54, nt54, [⟨pa54_0, Fn54_0 vf54_0⟩]⟩] noSeq
noncomputable def E9_0 : EnvK := E9_0g f14_0 f44_0 f46_0 f45_0 f48_0 f47_0 f49_0 f50_0 f51_0 f52_0 f19_0 f53_0 f54_0
theorem eo9_0 : E9_0.Ok Try.prog := EnvK.of_ok noSeq_ok ⟨⟨io14_0, trivial⟩, ⟨io44_0, trivial⟩, ⟨io46_0, trivial⟩, ⟨io45_0, trivial⟩, ⟨io48_0, trivial⟩, ⟨io47_0, trivial⟩, ⟨io49_0, trivial⟩, ⟨io50_0, trivial⟩, ⟨io51_0, trivial⟩, ⟨io52_0, trivial⟩, ⟨io19_0, trivial⟩, ⟨io53_0, trivial⟩, ⟨io54_0, trivial⟩, trivial⟩

noncomputable def c9_0_43g  : MCode := (.region r9_44 [] (some ⟨[1, 2, 3, 11, 12, 13, 119], true, [], []⟩))
noncomputable def c9_0_43 : MCode := c9_0_43g 
theorem g9_0_43 : c9_0_43.Good Try.prog E9_0 sh9 := trivial
--CODE 43 0
abbrev TJ9_0_1 : Type 1 := (α : Type) → Int → Int → Int → (Bool → Option α) → Option α
def J9_0_1g  (α : Type) (x42 : Int) (x43 : Int) (x46 : Int) (k1 : Bool → Option α) : Option α :=
  cK (decide (x46 < 0))
    (cK (x43 != 17)
      (k1 true)
      (cK (x42 != 0)
        (k1 true)
        (cK (decide (0 ≤ x46))
          (cK (x43 != 0)
            (k1 true)
            (k1 (x42 != x46)))
          (k1 false))))
    (cK (decide (0 ≤ x46))
      (cK (x43 != 0)
        (k1 true)
        (k1 (x42 != x46)))
      (k1 false))
noncomputable def J9_0_1 (α : Type) (x42 : Int) (x43 : Int) (x46 : Int) (k1 : Bool → Option α) : Option α := J9_0_1g  α x42 x43 x46 k1
def F9_0_1 (v : TJ9_0_1) (α : Type) (K : Exit → St → Option α) : Rows → Int → Int → Int → Int → Int → Int → Rows → Rows → Rows → Option α := fun x40 x41 x42 x43 x44 x45 x46 x47 x48 x49 => v α x42 x43 x46 (fun (y1 : Bool) => u9_0_4 (K .normal) x40 x41 x44 x45 y1 x47 x48 x49) 
theorem m9_0_1g (vf14_0 : Tf14_0) (vf44_0 : Tf44_0) (vf46_0 : Tf46_0) (vf45_0 : Tf45_0) (vf48_0 : Tf48_0) (vf47_0 : Tf47_0) (vf49_0 : Tf49_0) (vf50_0 : Tf50_0) (vf51_0 : Tf51_0) (vf52_0 : Tf52_0) (vf19_0 : Tf19_0) (vf53_0 : Tf53_0) (vf54_0 : Tf54_0)  (α : Type) (K : Exit → St → Option α) : F9_0_1 (J9_0_1g ) α K = p9_0_3.unc fun σ => runM Try.prog (E9_0g vf14_0 vf44_0 vf46_0 vf45_0 vf48_0 vf47_0 vf49_0 vf50_0 vf51_0 vf52_0 vf19_0 vf53_0 vf54_0) sh9 (c9_0_43g ) K σ := by kernel_rfl
theorem m9_0_1 : ∀ (α : Type) (K : Exit → St → Option α), F9_0_1 J9_0_1 α K = p9_0_3.unc fun σ => runM Try.prog E9_0 sh9 c9_0_43 K σ := m9_0_1g f14_0 f44_0 f46_0 f45_0 f48_0 f47_0 f49_0 f50_0 f51_0 f52_0 f19_0 f53_0 f54_0

noncomputable def c9_0_29g  : MCode := (.seq (.region r9_31 [] (some ⟨[1, 2, 3, 9, 10, 11, 12, 13, 15, 67], true, [], []⟩)) (.cond (.tmp 67) (.region r9_33 [] (some ⟨[1, 2, 3, 9, 10, 11, 12, 13, 15], true, [], []⟩)) .skip))
noncomputable def c9_0_29 : MCode := c9_0_29g 
theorem g9_0_29 : c9_0_29.Good Try.prog E9_0 sh9 := ⟨trivial, ⟨trivial, trivial⟩⟩
--CODE 29 0
abbrev TJ9_0_0 : Type 1 := (α : Type) → Rows → Int → Rows → Rows → (Int → Option α) → (Bool → Option α) → Option α
def J9_0_0g (vf51_0 : Tf51_0) (α : Type) (x23 : Rows) (x29 : Int) (x31 : Rows) (x32 : Rows) (k1 : Int → Option α) (k2 : Bool → Option α) : Option α :=
  cK (x29 == 0)
    (vf51_0 α x31 x32 x23
      (fun (x35 : Int) => k1 x35))
    (k2 (x29 == 0))
noncomputable def J9_0_0 (α : Type) (x23 : Rows) (x29 : Int) (x31 : Rows) (x32 : Rows) (k1 : Int → Option α) (k2 : Bool → Option α) : Option α := J9_0_0g f51_0 α x23 x29 x31 x32 k1 k2
def F9_0_0 (v : TJ9_0_0) (α : Type) (K : Exit → St → Option α) : Rows → Int → Int → Int → Int → Int → Int → Bool → Rows → Rows → Rows → Option α := fun x23 x24 x25 x26 x27 x28 x29 x30 x31 x32 x33 => v α x23 x29 x31 x32 (fun (y1 : Int) => u9_0_1 (K .normal) x23 x24 x25 x26 x27 x28 y1 x31 x32 x33) (fun (y1 : Bool) => u9_0_2 (K .normal) x23 x24 x25 x26 x27 x28 x29 y1 x31 x32 x33) 
theorem m9_0_0g (vf14_0 : Tf14_0) (vf44_0 : Tf44_0) (vf46_0 : Tf46_0) (vf45_0 : Tf45_0) (vf48_0 : Tf48_0) (vf47_0 : Tf47_0) (vf49_0 : Tf49_0) (vf50_0 : Tf50_0) (vf51_0 : Tf51_0) (vf52_0 : Tf52_0) (vf19_0 : Tf19_0) (vf53_0 : Tf53_0) (vf54_0 : Tf54_0)  (α : Type) (K : Exit → St → Option α) : F9_0_0 (J9_0_0g vf51_0) α K = p9_0_0.unc fun σ => runM Try.prog (E9_0g vf14_0 vf44_0 vf46_0 vf45_0 vf48_0 vf47_0 vf49_0 vf50_0 vf51_0 vf52_0 vf19_0 vf53_0 vf54_0) sh9 (c9_0_29g ) K σ := by kernel_rfl
theorem m9_0_0 : ∀ (α : Type) (K : Exit → St → Option α), F9_0_0 J9_0_0 α K = p9_0_0.unc fun σ => runM Try.prog E9_0 sh9 c9_0_29 K σ := m9_0_0g f14_0 f44_0 f46_0 f45_0 f48_0 f47_0 f49_0 f50_0 f51_0 f52_0 f19_0 f53_0 f54_0

/-- etalon/etalonlaw08.GrowChambers -/
abbrev Tf9_0 : Type 1 := (α : Type) → Rows → Rows → Rows → Int → (Bool → Option α) → Option α
def f9_0g (vJ9_0_0 : TJ9_0_0) (vJ9_0_1 : TJ9_0_1) (vf14_0 : Tf14_0) (vf19_0 : Tf19_0) (vf44_0 : Tf44_0) (vf45_0 : Tf45_0) (vf46_0 : Tf46_0) (vf47_0 : Tf47_0) (vf48_0 : Tf48_0) (vf49_0 : Tf49_0) (vf50_0 : Tf50_0) (vf52_0 : Tf52_0) (vf53_0 : Tf53_0) (vf54_0 : Tf54_0) (α : Type) (x1 : Rows) (x2 : Rows) (x3 : Rows) (x4 : Int) (k1 : Bool → Option α) : Option α :=
  vf14_0 α 
    (vf44_0 α x1 x2
      (fun (x5 : Bool) => cK (!x5)
        (k1 true)
        (cK (decide (12 < ((List.length x3 : Nat) : Int)))
          (k1 true)
          (vf46_0 α x1 x2
            (fun (x6 : Rows) (x7 : Rows) => vf45_0 α x6 x7
              (fun (x8 : Int) (x9 : Int) => vf46_0 α x1 x2
                (fun (x10 : Rows) (x11 : Rows) => vf48_0 α x3
                  (fun (x12 : Rows) => vf47_0 α x10 x11 x12
                    (fun (x13 : Int) (x14 : Int) => vf46_0 α x1 x2
                      (fun (x15 : Rows) (x16 : Rows) => vf48_0 α x3
                        (fun (x17 : Rows) => vf49_0 α x15 x16 x17 x4
                          (fun (x18 : Rows) (x19 : Int) (x20 : Int) => flatK [x18]
                            (vf50_0 α x1 x2
                              (fun (x21 : Int) (x22 : Int) => cK (x8 != x21)
                                (k1 false)
                                (cK (x9 != x22)
                                  (k1 false)
                                  (vJ9_0_0 α x3 x22 x1 x2
                                    (fun (x36 : Int) => cK (x36 != 0)
                                      (cK (x14 == x36)
                                        (cK (x20 == x36)
                                          (cK (x13 == 0)
                                            (cK (((List.length x18 : Nat) : Int) == 0)
                                              (k1 (x19 == 0))
                                              (k1 false))
                                            (k1 false))
                                          (k1 false))
                                        (k1 false))
                                      (vf52_0 α x1 x2 x3
                                        (fun (x39 : Int) => vJ9_0_1 α x13 x14 x39
                                          (fun (x51 : Bool) => cK x51
                                            (k1 false)
                                            (vf19_0 α x4 0 (w64 (((List.length x1 : Nat) : Int) - 1))
                                              (fun (x53 : Bool) => cK (!x53)
                                                (cK (x20 == 6)
                                                  (cK (((List.length x18 : Nat) : Int) == 0)
                                                    (k1 (x19 == 0))
                                                    (k1 false))
                                                  (k1 false))
                                                (vf53_0 α x3 x4
                                                  (fun (x54 : Rows) => vf52_0 α x1 x2 x54
                                                    (fun (x55 : Int) => cK (decide (0 ≤ x55))
                                                      (cK (x20 == 24)
                                                        (cK (x19 == x55)
                                                          (k1 (((List.length x18 : Nat) : Int) == 0))
                                                          (k1 false))
                                                        (k1 false))
                                                      (cK (x20 == 0)
                                                        (cK (x19 == 0)
                                                          (vf54_0 α x18 x54
                                                            (fun (x56 : Bool) => k1 x56))
                                                          (k1 false))
                                                        (k1 false)))))))))))
                                    (fun (x37 : Bool) => cK (x22 != 0)
                                      (cK (x14 == x22)
                                        (cK (x20 == x22)
                                          (cK (x13 == 0)
                                            (cK (((List.length x18 : Nat) : Int) == 0)
                                              (k1 (x19 == 0))
                                              (k1 false))
                                            (k1 false))
                                          (k1 false))
                                        (k1 false))
                                      (vf52_0 α x1 x2 x3
                                        (fun (x57 : Int) => vJ9_0_1 α x13 x14 x57
                                          (fun (x58 : Bool) => cK x58
                                            (k1 false)
                                            (vf19_0 α x4 0 (w64 (((List.length x1 : Nat) : Int) - 1))
                                              (fun (x60 : Bool) => cK (!x60)
                                                (cK (x20 == 6)
                                                  (cK (((List.length x18 : Nat) : Int) == 0)
                                                    (k1 (x19 == 0))
                                                    (k1 false))
                                                  (k1 false))
                                                (vf53_0 α x3 x4
                                                  (fun (x61 : Rows) => vf52_0 α x1 x2 x61
                                                    (fun (x62 : Int) => cK (decide (0 ≤ x62))
                                                      (cK (x20 == 24)
                                                        (cK (x19 == x62)
                                                          (k1 (((List.length x18 : Nat) : Int) == 0))
                                                          (k1 false))
                                                        (k1 false))
                                                      (cK (x20 == 0)
                                                        (cK (x19 == 0)
                                                          (vf54_0 α x18 x61
                                                            (fun (x63 : Bool) => k1 x63))
                                                          (k1 false))
                                                        (k1 false)))))))))))))))))))))))))))
noncomputable def f9_0 (α : Type) (x1 : Rows) (x2 : Rows) (x3 : Rows) (x4 : Int) (k1 : Bool → Option α) : Option α := f9_0g J9_0_0 J9_0_1 f14_0 f19_0 f44_0 f45_0 f46_0 f47_0 f48_0 f49_0 f50_0 f52_0 f53_0 f54_0 α x1 x2 x3 x4 k1
def pa9_0 : PT (List DV) := pA [pV true [dL, dL], pV false [dL], pV false [(dI .i64)]]
def Fn9_0 (v : Tf9_0) (α : Type) (k : List RV → Option α) : Rows → Rows → Rows → Int → Option α := fun x1 x2 x3 x4 => v α x1 x2 x3 x4 (fun (y1 : Bool) => ur9_0_0 k y1)
noncomputable def cm9_0g (vJ9_0_0 : TJ9_0_0) (vJ9_0_1 : TJ9_0_1) : MCode := (.seq (.region r9_2 [] (some ⟨[1, 2, 3], true, [], []⟩)) (.seq (.seq (.region r9_5 [] (some ⟨[1, 2, 3, 20], true, [], []⟩)) (.cond (.tmp 20) (.seq (.region r9_8 [] (some ⟨[6], true, [], []⟩)) .ret) .skip)) (.seq (.seq (.region r9_11 [] (some ⟨[1, 2, 3, 28], true, [], []⟩)) (.cond (.tmp 28) (.seq (.region r9_14 [] (some ⟨[6], true, [], []⟩)) .ret) .skip)) (.seq (.region r9_16 [] (some ⟨[1, 2, 3, 7, 8], true, [], []⟩)) (.seq (.region r9_18 [] (some ⟨[1, 2, 3, 7, 8, 9, 10], true, [], []⟩)) (.seq (.region r9_20 [] (some ⟨[1, 2, 3, 7, 8, 9, 10, 11, 12, 13], true, [], []⟩)) (.seq (.region r9_22 [] (some ⟨[1, 2, 3, 7, 8, 9, 10, 11, 12, 13, 14, 15], true, [], []⟩)) (.seq (.seq (.region r9_25 [] (some ⟨[1, 2, 3, 9, 10, 11, 12, 13, 15, 65], true, [], []⟩)) (.cond (.tmp 65) (.seq (.region r9_28 [] (some ⟨[6], true, [], []⟩)) .ret) .skip)) (.seq (.mark [⟨p9_0_0, F9_0_0 vJ9_0_0⟩] c9_0_29) (.seq (.seq (.region r9_36 [] (some ⟨[1, 2, 3, 9, 10, 11, 12, 13, 15, 72], true, [], []⟩)) (.cond (.tmp 72) (.seq (.region r9_39 [] (some ⟨[6], true, [], []⟩)) .ret) .skip)) (.seq (.seq (.region r9_42 [] (some ⟨[1, 2, 3, 9, 10, 11, 12, 13, 16], true, [], []⟩)) (.seq (.mark [⟨p9_0_3, F9_0_1 vJ9_0_1⟩] c9_0_43) (.cond (.tmp 119) (.seq (.region r9_47 [] (some ⟨[6], true, [], []⟩)) .ret) .skip))) (.seq (.seq (.region r9_50 [] (some ⟨[1, 2, 3, 11, 12, 13, 126], true, [], []⟩)) (.cond (.tmp 126) (.seq (.region r9_53 [] (some ⟨[6], true, [], []⟩)) .ret) .skip)) (.seq (.region r9_55 [] (some ⟨[3, 11, 12, 13, 17], true, [], []⟩)) (.seq (.seq (.region r9_58 [] (some ⟨[11, 12, 13, 17, 18], true, [], []⟩)) (.seq (.region r9_60 [] (some ⟨[11, 12, 13, 17, 18, 145], true, [], []⟩)) (.cond (.tmp 145) (.seq (.region r9_63 [] (some ⟨[6], true, [], []⟩)) .ret) .skip))) (.seq (.region r9_65 [] (some ⟨[6], true, [], []⟩)) .ret)))))))))))))))
noncomputable def cm9_0 : MCode := cm9_0g J9_0_0 J9_0_1
theorem gm9_0 : cm9_0.Good Try.prog E9_0 sh9 := ⟨trivial, ⟨⟨trivial, ⟨⟨trivial, trivial⟩, trivial⟩⟩, ⟨⟨trivial, ⟨⟨trivial, trivial⟩, trivial⟩⟩, ⟨trivial, ⟨trivial, ⟨trivial, ⟨trivial, ⟨⟨trivial, ⟨⟨trivial, trivial⟩, trivial⟩⟩, ⟨⟨g9_0_29, m9_0_0, trivial⟩, ⟨⟨trivial, ⟨⟨trivial, trivial⟩, trivial⟩⟩, ⟨⟨trivial, ⟨⟨g9_0_43, m9_0_1, trivial⟩, ⟨⟨trivial, trivial⟩, trivial⟩⟩⟩, ⟨⟨trivial, ⟨⟨trivial, trivial⟩, trivial⟩⟩, ⟨trivial, ⟨⟨trivial, ⟨trivial, ⟨⟨trivial, trivial⟩, trivial⟩⟩⟩, ⟨trivial, trivial⟩⟩⟩⟩⟩⟩⟩⟩⟩⟩⟩⟩⟩⟩⟩
theorem fm9_0g (vf14_0 : Tf14_0) (vf44_0 : Tf44_0) (vf46_0 : Tf46_0) (vf45_0 : Tf45_0) (vf48_0 : Tf48_0) (vf47_0 : Tf47_0) (vf49_0 : Tf49_0) (vf50_0 : Tf50_0) (vf51_0 : Tf51_0) (vf52_0 : Tf52_0) (vf19_0 : Tf19_0) (vf53_0 : Tf53_0) (vf54_0 : Tf54_0) (vJ9_0_0 : TJ9_0_0) (vJ9_0_1 : TJ9_0_1) (α : Type) (k : List RV → Option α) : Fn9_0 (f9_0g vJ9_0_0 vJ9_0_1 vf14_0 vf19_0 vf44_0 vf45_0 vf46_0 vf47_0 vf48_0 vf49_0 vf50_0 vf52_0 vf53_0 vf54_0) α k = pa9_0.unc fun ds => fnM Try.prog (E9_0g vf14_0 vf44_0 vf46_0 vf45_0 vf48_0 vf47_0 vf49_0 vf50_0 vf51_0 vf52_0 vf19_0 vf53_0 vf54_0) sh9 (cm9_0g vJ9_0_0 vJ9_0_1) rs9 k ds := by kernel_rfl
theorem fm9_0 : ∀ (α : Type) (k : List RV → Option α), Fn9_0 f9_0 α k = pa9_0.unc fun ds => fnM Try.prog E9_0 sh9 cm9_0 rs9 k ds := fm9_0g f14_0 f44_0 f46_0 f45_0 f48_0 f47_0 f49_0 f50_0 f51_0 f52_0 f19_0 f53_0 f54_0 J9_0_0 J9_0_1

theorem is9 : FnIs Try.prog 9 nt9 tr9 tl9 cm9_0.erase rs9 := ⟨Try.f9, Try.func9, rfl, by kernel_rfl, by kernel_rfl, by kernel_rfl⟩
theorem io9_0 : InstOk Try.prog 9 nt9 ⟨pa9_0, Fn9_0 f9_0⟩ := inst_ok eo9_0 followsTry is9 ⟨⟨sh9, cm9_0, by kernel_rfl, gm9_0, fm9_0⟩⟩


end Go.AM.K
