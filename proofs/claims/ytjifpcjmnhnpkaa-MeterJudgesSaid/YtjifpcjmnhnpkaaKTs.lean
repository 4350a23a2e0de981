/- Printed by KGen. -/
import Derived.Test.YtjifpcjmnhnpkaaKTu
import Derived.Test.YtjifpcjmnhnpkaaMC1
namespace Go.AM.K
open Go.Proofs
set_option maxRecDepth 100000
set_option linter.unusedVariables false

/-! ### F106 etalon/etalonref01.PartsOf -/
abbrev nt106 : Nat := 26
def sh106 : List (Nat × List Sh) := [(4, [.int .i64]), (6, [.int .i64]), (9, [.int .i64]), (11, [.int .i64]), (15, [.int .i64]), (17, [.int .i64]), (20, [.int .i64]), (22, [.int .i64])]
def r106_2 : List AOper := [oO 1 (.box (.tmp 0)), oO 2 (.alloc [(.d (.v (.int .i64 0))), (.d (.v (.int .i64 0))), (.d (.v (.int .i64 0))), (.d (.v (.int .i64 0)))])]
def r106_4 : List AOper := [oO 3 (.faddr 0 (.tmp 1)), oO 4 (.load false 1 (.tmp 3)), oO 5 (.faddr 2 (.tmp 1)), oO 6 (.load false 1 (.tmp 5)), oO 7 (.bin .sub 3 (.tmp 4) (.tmp 6)), oO 8 (.faddr 0 (.tmp 1)), oO 9 (.load false 1 (.tmp 8)), oO 10 (.faddr 2 (.tmp 1)), oO 11 (.load false 1 (.tmp 10)), oO 12 (.bin .add 3 (.tmp 9) (.tmp 11)), oO 13 (.build [(.d (.v (.int .i64 0))), (.d (.v (.int .i64 0)))] [(0, 1, (.tmp 7)), (1, 1, (.tmp 12))]), oO 14 (.faddr 1 (.tmp 1)), oO 15 (.load false 1 (.tmp 14)), oO 16 (.faddr 2 (.tmp 1)), oO 17 (.load false 1 (.tmp 16)), oO 18 (.bin .sub 3 (.tmp 15) (.tmp 17)), oO 19 (.faddr 1 (.tmp 1)), oO 20 (.load false 1 (.tmp 19)), oO 21 (.faddr 2 (.tmp 1)), oO 22 (.load false 1 (.tmp 21)), oO 23 (.bin .add 3 (.tmp 20) (.tmp 22)), oO 24 (.build [(.d (.v (.int .i64 0))), (.d (.v (.int .i64 0)))] [(0, 1, (.tmp 18)), (1, 1, (.tmp 23))]), oO 25 (.build [(.d (.v (.int .i64 0))), (.d (.v (.int .i64 0))), (.d (.v (.int .i64 0))), (.d (.v (.int .i64 0)))] [(0, 2, (.tmp 13)), (2, 2, (.tmp 24))]), ⟨none, (.store 4 (.tmp 2) (.tmp 25)), none⟩]
def tr106 : List (Nat × Tidy) := [(0, ⟨[1, 2], true, [], []⟩), (1, ⟨[2], true, [], []⟩)]
def tl106 : List (Nat × Tidy) := []
def rs106 : List AResV := [.cell 2 true 4]
def pr106_0_0 : PT (List RV) := pRs [pR true [rD (dI .i64), rD (dI .i64), rD (dI .i64), rD (dI .i64)]]
def ur106_0_0 {β : Type} (g : List RV → β) : Int → Int → Int → Int → β := pr106_0_0.unc g

def E106_0g  : EnvK := EnvK.of [] noSeq
noncomputable def E106_0 : EnvK := E106_0g 
theorem eo106_0 : E106_0.Ok Try.prog := EnvK.of_ok noSeq_ok trivial

/-- etalon/etalonref01.PartsOf -/
abbrev Tf106_0 : Type 1 := (α : Type) → Int → Int → Int → (Int → Int → Int → Int → Option α) → Option α
def f106_0g  (α : Type) (x1 : Int) (x2 : Int) (x3 : Int) (k1 : Int → Int → Int → Int → Option α) : Option α :=
 k1 (w64 (x1 - x3)) (w64 (x1 + x3)) (w64 (x2 - x3)) (w64 (x2 + x3))
noncomputable def f106_0 (α : Type) (x1 : Int) (x2 : Int) (x3 : Int) (k1 : Int → Int → Int → Int → Option α) : Option α := f106_0g  α x1 x2 x3 k1
def pa106_0 : PT (List DV) := pA [pV true [(dI .i64), (dI .i64), (dI .i64)]]
def Fn106_0 (v : Tf106_0) (α : Type) (k : List RV → Option α) : Int → Int → Int → Option α := fun x1 x2 x3 => v α x1 x2 x3 (fun (y1 : Int) (y2 : Int) (y3 : Int) (y4 : Int) => ur106_0_0 k y1 y2 y3 y4)
noncomputable def cm106_0g  : MCode := (.seq (.region r106_2 [] (some ⟨[1, 2], true, [], []⟩)) (.seq (.region r106_4 [] (some ⟨[2], true, [], []⟩)) .ret))
noncomputable def cm106_0 : MCode := cm106_0g 
theorem gm106_0 : cm106_0.Good Try.prog E106_0 sh106 := ⟨trivial, ⟨trivial, trivial⟩⟩
theorem fm106_0g   (α : Type) (k : List RV → Option α) : Fn106_0 (f106_0g ) α k = pa106_0.unc fun ds => fnM Try.prog (E106_0g ) sh106 (cm106_0g ) rs106 k ds := by kernel_rfl
theorem fm106_0 : ∀ (α : Type) (k : List RV → Option α), Fn106_0 f106_0 α k = pa106_0.unc fun ds => fnM Try.prog E106_0 sh106 cm106_0 rs106 k ds := fm106_0g 

theorem is106 : FnIs Try.prog 106 nt106 tr106 tl106 cm106_0.erase rs106 := ⟨Try.f106, Try.func106, rfl, by kernel_rfl, by kernel_rfl, by kernel_rfl⟩
theorem io106_0 : InstOk Try.prog 106 nt106 ⟨pa106_0, Fn106_0 f106_0⟩ := inst_ok eo106_0 followsTry is106 ⟨⟨sh106, cm106_0, by kernel_rfl, gm106_0, fm106_0⟩⟩

/-! ### F152 etalon/etalonbase.Root -/
abbrev nt152 : Nat := 22
def sh152 : List (Nat × List Sh) := []
def r152_2 : List AOper := [oO 2 (.mv (.const (.int .i64 0)))]
def r152_4 : List AOper := [oO 3 (.mv (.const (.int .i64 0))), oO 4 (.mv (.const (.int .i64 1073741824)))]
def td152_7 : Option Tidy := (some ⟨[0, 3, 4], true, [], []⟩)
def r152_10 : List AOper := [oM 5 4, oO 6 (.bin .gtr 3 (.tmp 5) (.const (.int .i64 0)))]
def r152_15 : List AOper := [oM 7 3, oM 8 4, oO 9 (.bin .add 3 (.tmp 7) (.tmp 8)), oM 10 3, oM 11 4, oO 12 (.bin .add 3 (.tmp 10) (.tmp 11)), oO 13 (.bin .mul 3 (.tmp 9) (.tmp 12)), oM 14 0, oO 15 (.bin .leq 3 (.tmp 13) (.tmp 14))]
def r152_17 : List AOper := [oM 16 3, oM 17 4, oO 18 (.bin .add 3 (.tmp 16) (.tmp 17)), oM 3 18]
def r152_18 : List AOper := [oM 19 4, oO 20 (.bin .quo 3 (.tmp 19) (.const (.int .i64 2))), oM 4 20]
def r152_20 : List AOper := [oM 21 3, oM 2 21]
def tr152 : List (Nat × Tidy) := [(0, ⟨[0], true, [], []⟩), (1, ⟨[0, 3, 4], true, [], []⟩), (2, ⟨[0, 3, 4, 6], true, [], []⟩), (3, ⟨[0, 3, 4, 15], true, [], []⟩), (4, ⟨[0, 3, 4], true, [], []⟩), (5, ⟨[0, 3, 4], true, [], []⟩), (6, ⟨[2], true, [], []⟩)]
def tl152 : List (Nat × Tidy) := [(2, ⟨[0, 3, 4], true, [], []⟩)]
def rs152 : List AResV := [.tmp 2]
def p152_0_0 : PT St := pS [sl 0 (aV false [(cD (dI .i64))]), sl 3 (aV false [(cD (dI .i64))]), sl 4 (aV false [(cD (dI .i64))])] []
def u152_0_0 {β : Type} (g : St → β) : Int → Int → Int → β := p152_0_0.unc g

def p152_0_1 : PT St := pS [sl 0 (aV false [(cD (dI .i64))]), sl 3 (aV false [(cD (dI .i64))]), sl 4 (aV false [(cD (dI .i64))]), sl 6 (aV false [(cD dB)])] []
def u152_0_1 {β : Type} (g : St → β) : Int → Int → Int → Bool → β := p152_0_1.unc g

def pr152_0_0 : PT (List RV) := pRs [pR false [rD (dI .i64)]]
def ur152_0_0 {β : Type} (g : List RV → β) : Int → β := pr152_0_0.unc g

def E152_0g  : EnvK := EnvK.of [] noSeq
noncomputable def E152_0 : EnvK := E152_0g 
theorem eo152_0 : E152_0.Ok Try.prog := EnvK.of_ok noSeq_ok trivial

noncomputable def c152_0_7g  : MCode := (.seq (.seq (.region r152_10 [] (some ⟨[0, 3, 4, 6], true, [], []⟩)) (.cond (.tmp 6) .skip (.exit 0))) (.block 1 (.seq (.seq (.region r152_15 [] (some ⟨[0, 3, 4, 15], true, [], []⟩)) (.cond (.tmp 15) (.region r152_17 [] (some ⟨[0, 3, 4], true, [], []⟩)) .skip)) (.region r152_18 [] (some ⟨[0, 3, 4], true, [], []⟩)))))
noncomputable def c152_0_7 : MCode := c152_0_7g 
theorem g152_0_7 : c152_0_7.Good Try.prog E152_0 sh152 := ⟨⟨trivial, ⟨trivial, trivial⟩⟩, ⟨⟨trivial, ⟨trivial, trivial⟩⟩, trivial⟩⟩
--CODE 7 0
def S152_0_0g  (α : Type) (x2 : Int) (x3 : Int) (x4 : Int) (kn : Int → Int → Option α) (k1 : Int → Int → Bool → Option α) : Option α :=
 cK (decide (0 < x4))
 (cK (decide ((w64 ((w64 (x3 + x4)) * (w64 (x3 + x4)))) ≤ x2))
 (kn (w64 (x3 + x4)) (w64 (Int.tdiv x4 2)))
 (kn x3 (w64 (Int.tdiv x4 2))))
 (k1 x3 x4 (decide (0 < x4)))
noncomputable def S152_0_0 (α : Type) (x2 : Int) (x3 : Int) (x4 : Int) (kn : Int → Int → Option α) (k1 : Int → Int → Bool → Option α) : Option α := S152_0_0g  α x2 x3 x4 kn k1
noncomputable def R152_0_0 (α : Type) (x2 : Int) (k1 : Int → Int → Bool → Option α) : Nat → Int → Int → Option α
 | 0, _, _ => none
 | n + 1, x3, x4 => S152_0_0 α x2 x3 x4 (R152_0_0 α x2 k1 n) k1
noncomputable def L152_0_0 (α : Type) (x2 : Int) (k1 : Int → Int → Bool → Option α) (x3 : Int) (x4 : Int) : Option α := R152_0_0 α x2 k1 fuel x3 x4
abbrev TL152_0_0 : Type 1 := (α : Type) → Int → (Int → Int → Bool → Option α) → Int → Int → Option α
def F152_0_0 (v : TL152_0_0) (α : Type) (K : Exit → St → Option α) : Int → Int → Int → Option α := fun x2 x3 x4 => v α x2 (fun (y1 : Int) (y2 : Int) (y3 : Bool) => u152_0_1 (K (.exit 0)) x2 y1 y2 y3) x3 x4
theorem r152_0_0g   (α : Type) (K : Exit → St → Option α) (Kn : St → Option α) (x2 : Int) (x3 : Int) (x4 : Int) : u152_0_0 (fun σ => runM Try.prog (E152_0g ) sh152 (c152_0_7g ) (thenK (fun σ => tidyK td152_7 σ Kn) K) σ) x2 x3 x4 = S152_0_0g  α x2 x3 x4 (fun x3 x4 => u152_0_0 Kn x2 x3 x4) (fun (y1 : Int) (y2 : Int) (y3 : Bool) => u152_0_1 (K (.exit 0)) x2 y1 y2 y3) := by kernel_rfl
theorem r152_0_0 (α : Type) (K : Exit → St → Option α) (Kn : St → Option α) (x2 : Int) (x3 : Int) (x4 : Int) : u152_0_0 (fun σ => runM Try.prog E152_0 sh152 c152_0_7 (thenK (fun σ => tidyK td152_7 σ Kn) K) σ) x2 x3 x4 = S152_0_0 α x2 x3 x4 (fun x3 x4 => u152_0_0 Kn x2 x3 x4) (fun (y1 : Int) (y2 : Int) (y3 : Bool) => u152_0_1 (K (.exit 0)) x2 y1 y2 y3) := r152_0_0g  α K Kn x2 x3 x4
theorem t152_0_0 (α : Type) (K : Exit → St → Option α) : ∀ (n : Nat) (x2 : Int) (x3 : Int) (x4 : Int), R152_0_0 α x2 (fun (y1 : Int) (y2 : Int) (y3 : Bool) => u152_0_1 (K (.exit 0)) x2 y1 y2 y3) n x3 x4 = u152_0_0 (loopT (runM Try.prog E152_0 sh152 c152_0_7) td152_7 K n) x2 x3 x4 := by
 intro n
 induction n with
 | zero => intros; rfl
 | succ n ih => intro x2 x3 x4; exact (congrArg (fun kn => S152_0_0 α x2 x3 x4 kn (fun (y1 : Int) (y2 : Int) (y3 : Bool) => u152_0_1 (K (.exit 0)) x2 y1 y2 y3)) (funext fun x3 => funext fun x4 => ih x2 x3 x4)).trans (r152_0_0 α K (loopT (runM Try.prog E152_0 sh152 c152_0_7) td152_7 K n) x2 x3 x4).symm
theorem m152_0_0 : ∀ (α : Type) (K : Exit → St → Option α), F152_0_0 L152_0_0 α K = p152_0_0.unc fun σ => loopT (runM Try.prog E152_0 sh152 c152_0_7) td152_7 K fuel σ := fun α K => funext fun x2 => funext fun x3 => funext fun x4 => t152_0_0 α K fuel x2 x3 x4

/-- etalon/etalonbase.Root -/
abbrev Tf152_0 : Type 1 := (α : Type) → Int → (Int → Option α) → Option α
def f152_0g (vL152_0_0 : TL152_0_0) (α : Type) (x1 : Int) (k1 : Int → Option α) : Option α :=
 vL152_0_0 α x1
 (fun (x6 : Int) (x7 : Int) (x8 : Bool) => k1 x6) 0 1073741824
noncomputable def f152_0 (α : Type) (x1 : Int) (k1 : Int → Option α) : Option α := f152_0g L152_0_0 α x1 k1
def pa152_0 : PT (List DV) := pA [pV false [(dI .i64)]]
def Fn152_0 (v : Tf152_0) (α : Type) (k : List RV → Option α) : Int → Option α := fun x1 => v α x1 (fun (y1 : Int) => ur152_0_0 k y1)
noncomputable def cm152_0g (vL152_0_0 : TL152_0_0) : MCode := (.seq (.region r152_2 [] (some ⟨[0], true, [], []⟩)) (.seq (.region r152_4 [] (some ⟨[0, 3, 4], true, [], []⟩)) (.seq (.block 0 (.loop td152_7 [⟨p152_0_0, F152_0_0 vL152_0_0⟩] c152_0_7)) (.seq (.region r152_20 [] (some ⟨[2], true, [], []⟩)) .ret))))
noncomputable def cm152_0 : MCode := cm152_0g L152_0_0
theorem gm152_0 : cm152_0.Good Try.prog E152_0 sh152 := ⟨trivial, ⟨trivial, ⟨⟨g152_0_7, m152_0_0, trivial⟩, ⟨trivial, trivial⟩⟩⟩⟩
theorem fm152_0g  (vL152_0_0 : TL152_0_0) (α : Type) (k : List RV → Option α) : Fn152_0 (f152_0g vL152_0_0) α k = pa152_0.unc fun ds => fnM Try.prog (E152_0g ) sh152 (cm152_0g vL152_0_0) rs152 k ds := by kernel_rfl
theorem fm152_0 : ∀ (α : Type) (k : List RV → Option α), Fn152_0 f152_0 α k = pa152_0.unc fun ds => fnM Try.prog E152_0 sh152 cm152_0 rs152 k ds := fm152_0g L152_0_0

theorem is152 : FnIs Try.prog 152 nt152 tr152 tl152 cm152_0.erase rs152 := ⟨Try.f152, Try.func152, rfl, by kernel_rfl, by kernel_rfl, by kernel_rfl⟩
theorem io152_0 : InstOk Try.prog 152 nt152 ⟨pa152_0, Fn152_0 f152_0⟩ := inst_ok eo152_0 followsTry is152 ⟨⟨sh152, cm152_0, by kernel_rfl, gm152_0, fm152_0⟩⟩

/-! ### F103 etalon/etalonref06.numbers -/
abbrev nt103 : Nat := 10
def sh103 : List (Nat × List Sh) := [(4, [.int .i64, .int .i64]), (6, [.int .i64, .int .i64]), (8, [.int .i64, .int .i64])]
def r103_2 : List AOper := [oO 1 (.box (.tmp 0)), oO 2 (.alloc [(.d (.v (.int .i64 0))), (.d (.v (.int .i64 0))), (.d (.v (.int .i64 0))), (.d (.v (.int .i64 0))), (.d (.v (.int .i64 0))), (.d (.v (.int .i64 0)))])]
def r103_4 : List AOper := [oO 3 (.faddr 4 (.tmp 1)), oO 4 (.load true 2 (.tmp 3)), oO 5 (.faddr 6 (.tmp 1)), oO 6 (.load true 2 (.tmp 5)), oO 7 (.faddr 8 (.tmp 1)), oO 8 (.load true 2 (.tmp 7)), oO 9 (.build [(.d (.v (.int .i64 0))), (.d (.v (.int .i64 0))), (.d (.v (.int .i64 0))), (.d (.v (.int .i64 0))), (.d (.v (.int .i64 0))), (.d (.v (.int .i64 0)))] [(0, 2, (.tmp 4)), (2, 2, (.tmp 6)), (4, 2, (.tmp 8))]), ⟨none, (.store 6 (.tmp 2) (.tmp 9)), none⟩]
def tr103 : List (Nat × Tidy) := [(0, ⟨[1, 2], true, [], []⟩), (1, ⟨[2], true, [], []⟩)]
def tl103 : List (Nat × Tidy) := []
def rs103 : List AResV := [.cell 2 true 6]
def pr103_0_0 : PT (List RV) := pRs [pR true [rD (dI .i64), rD (dI .i64), rD (dI .i64), rD (dI .i64), rD (dI .i64), rD (dI .i64)]]
def ur103_0_0 {β : Type} (g : List RV → β) : Int → Int → Int → Int → Int → Int → β := pr103_0_0.unc g

def E103_0g  : EnvK := EnvK.of [] noSeq
noncomputable def E103_0 : EnvK := E103_0g 
theorem eo103_0 : E103_0.Ok Try.prog := EnvK.of_ok noSeq_ok trivial

/-- etalon/etalonref06.numbers -/
abbrev Tf103_0 : Type 1 := (α : Type) → ByteArray → Int → Int → Int → Int → Int → Int → Int → Int → Int → (Int → Int → Int → Int → Int → Int → Option α) → Option α
def f103_0g  (α : Type) (x1 : ByteArray) (x2 : Int) (x3 : Int) (x4 : Int) (x5 : Int) (x6 : Int) (x7 : Int) (x8 : Int) (x9 : Int) (x10 : Int) (k1 : Int → Int → Int → Int → Int → Int → Option α) : Option α :=
 k1 x5 x6 x7 x8 x9 x10
noncomputable def f103_0 (α : Type) (x1 : ByteArray) (x2 : Int) (x3 : Int) (x4 : Int) (x5 : Int) (x6 : Int) (x7 : Int) (x8 : Int) (x9 : Int) (x10 : Int) (k1 : Int → Int → Int → Int → Int → Int → Option α) : Option α := f103_0g  α x1 x2 x3 x4 x5 x6 x7 x8 x9 x10 k1
def pa103_0 : PT (List DV) := pA [pV true [dS, (dI .i64), (dI .i64), (dI .i64), (dI .i64), (dI .i64), (dI .i64), (dI .i64), (dI .i64), (dI .i64)]]
def Fn103_0 (v : Tf103_0) (α : Type) (k : List RV → Option α) : ByteArray → Int → Int → Int → Int → Int → Int → Int → Int → Int → Option α := fun x1 x2 x3 x4 x5 x6 x7 x8 x9 x10 => v α x1 x2 x3 x4 x5 x6 x7 x8 x9 x10 (fun (y1 : Int) (y2 : Int) (y3 : Int) (y4 : Int) (y5 : Int) (y6 : Int) => ur103_0_0 k y1 y2 y3 y4 y5 y6)
noncomputable def cm103_0g  : MCode := (.seq (.region r103_2 [] (some ⟨[1, 2], true, [], []⟩)) (.seq (.region r103_4 [] (some ⟨[2], true, [], []⟩)) .ret))
noncomputable def cm103_0 : MCode := cm103_0g 
theorem gm103_0 : cm103_0.Good Try.prog E103_0 sh103 := ⟨trivial, ⟨trivial, trivial⟩⟩
theorem fm103_0g   (α : Type) (k : List RV → Option α) : Fn103_0 (f103_0g ) α k = pa103_0.unc fun ds => fnM Try.prog (E103_0g ) sh103 (cm103_0g ) rs103 k ds := by kernel_rfl
theorem fm103_0 : ∀ (α : Type) (k : List RV → Option α), Fn103_0 f103_0 α k = pa103_0.unc fun ds => fnM Try.prog E103_0 sh103 cm103_0 rs103 k ds := fm103_0g 

theorem is103 : FnIs Try.prog 103 nt103 tr103 tl103 cm103_0.erase rs103 := ⟨Try.f103, Try.func103, rfl, by kernel_rfl, by kernel_rfl, by kernel_rfl⟩
theorem io103_0 : InstOk Try.prog 103 nt103 ⟨pa103_0, Fn103_0 f103_0⟩ := inst_ok eo103_0 followsTry is103 ⟨⟨sh103, cm103_0, by kernel_rfl, gm103_0, fm103_0⟩⟩

/-! ### F123 etalon/etalonbase.IsName -/
abbrev nt123 : Nat := 55
def sh123 : List (Nat × List Sh) := []
def r123_2 : List AOper := [oO 2 (.mv (.const (.bool false)))]
def r123_5 : List AOper := [oM 6 0, oO 7 (.pure (oB (.call { callee := .builtin .len, args := #[(.tmp 6)], argTypes := #[9] }) 3)), oO 8 (.bin .lss 3 (.tmp 7) (.const (.int .i64 1))), oM 9 8, ⟨(some 10), (.mv (.tmp 0)), (some (9, false))⟩, ⟨(some 11), (.pure (oB (.call { callee := .builtin .len, args := #[(.tmp 10)], argTypes := #[9] }) 3)), (some (9, false))⟩, ⟨(some 12), (.bin .gtr 3 (.tmp 11) (.const (.int .i64 12))), (some (9, false))⟩, oO 13 (.pick (.tmp 9) (.const (.bool true)) (.tmp 12))]
def r123_8 : List AOper := [oO 2 (.mv (.const (.bool false)))]
def r123_11 : List AOper := [oO 3 (.mv (.const (.int .i64 0)))]
def td123_13 : Option Tidy := (some ⟨[0, 3], true, [], []⟩)
def r123_16 : List AOper := [oM 14 3, oM 15 0, oO 16 (.pure (oB (.call { callee := .builtin .len, args := #[(.tmp 15)], argTypes := #[9] }) 3)), oO 17 (.bin .lss 3 (.tmp 14) (.tmp 16))]
def r123_21 : List AOper := [oM 20 0, oM 21 3, oO 22 (.pure (oB (.index 9 (.tmp 20) (.tmp 21)) 5)), oM 4 22]
def r123_23 : List AOper := [oM 23 4, oO 24 (.bin .geq 5 (.tmp 23) (.const (.int .u8 97))), oM 25 24, ⟨(some 26), (.mv (.tmp 4)), (some (25, true))⟩, ⟨(some 27), (.bin .leq 5 (.tmp 26) (.const (.int .u8 122))), (some (25, true))⟩, oO 28 (.pick (.tmp 25) (.tmp 27) (.const (.bool false))), oM 29 28, ⟨(some 30), (.mv (.tmp 4)), (some (29, false))⟩, ⟨(some 31), (.bin .geq 5 (.tmp 30) (.const (.int .u8 65))), (some (29, false))⟩, ⟨(some 32), (.mv (.tmp 31)), (some (29, false))⟩, ⟨(some 33), (.mv (.tmp 4)), (some (32, true))⟩, ⟨(some 34), (.bin .leq 5 (.tmp 33) (.const (.int .u8 90))), (some (32, true))⟩, ⟨(some 35), (.pick (.tmp 32) (.tmp 34) (.const (.bool false))), (some (29, false))⟩, oO 36 (.pick (.tmp 29) (.const (.bool true)) (.tmp 35)), oM 5 36]
def r123_25 : List AOper := [oM 37 5, oO 38 (.pure (oB (.unOp .not 4 (.tmp 37)) 4)), oM 39 38, ⟨(some 40), (.mv (.tmp 3)), (some (39, true))⟩, ⟨(some 41), (.bin .eql 3 (.tmp 40) (.const (.int .i64 0))), (some (39, true))⟩, ⟨(some 42), (.mv (.tmp 41)), (some (39, true))⟩, ⟨(some 43), (.mv (.tmp 4)), (some (42, false))⟩, ⟨(some 44), (.bin .neq 5 (.tmp 43) (.const (.int .u8 45))), (some (42, false))⟩, ⟨(some 45), (.mv (.tmp 44)), (some (42, false))⟩, ⟨(some 46), (.mv (.tmp 4)), (some (45, true))⟩, ⟨(some 47), (.bin .lss 5 (.tmp 46) (.const (.int .u8 48))), (some (45, true))⟩, ⟨(some 48), (.mv (.tmp 47)), (some (45, true))⟩, ⟨(some 49), (.mv (.tmp 4)), (some (48, false))⟩, ⟨(some 50), (.bin .gtr 5 (.tmp 49) (.const (.int .u8 57))), (some (48, false))⟩, ⟨(some 51), (.pick (.tmp 48) (.const (.bool true)) (.tmp 50)), (some (45, true))⟩, ⟨(some 52), (.pick (.tmp 45) (.tmp 51) (.const (.bool false))), (some (42, false))⟩, ⟨(some 53), (.pick (.tmp 42) (.const (.bool true)) (.tmp 52)), (some (39, true))⟩, oO 54 (.pick (.tmp 39) (.tmp 53) (.const (.bool false)))]
def r123_28 : List AOper := [oO 2 (.mv (.const (.bool false)))]
def r123_29 : List AOper := [oM 18 3, oO 19 (.bin .add 3 (.tmp 18) (.const (.int .i64 1))), oM 3 19]
def r123_31 : List AOper := [oO 2 (.mv (.const (.bool true)))]
def tr123 : List (Nat × Tidy) := [(0, ⟨[0], true, [], []⟩), (1, ⟨[0, 13], true, [], []⟩), (2, ⟨[2], true, [], []⟩), (3, ⟨[0, 3], true, [], []⟩), (4, ⟨[0, 3, 17], true, [], []⟩), (6, ⟨[0, 3, 4], true, [], []⟩), (7, ⟨[0, 3, 4, 5], true, [], []⟩), (8, ⟨[0, 3, 54], true, [], []⟩), (9, ⟨[2], true, [], []⟩), (5, ⟨[0, 3], true, [], []⟩), (10, ⟨[2], true, [], []⟩)]
def tl123 : List (Nat × Tidy) := [(4, ⟨[0, 3], true, [], []⟩)]
def rs123 : List AResV := [.tmp 2]
def p123_0_0 : PT St := pS [sl 0 (aV false [(cD dS)]), sl 3 (aV false [(cD (dI .i64))]), sl 4 (aV false [(cD (dI .u8))])] []
def u123_0_0 {β : Type} (g : St → β) : ByteArray → Int → Int → β := p123_0_0.unc g

def p123_0_1 : PT St := pS [sl 0 (aV false [(cD dS)]), sl 3 (aV false [(cD (dI .i64))]), sl 4 (aV false [(cD (dI .u8))]), sl 5 (aV false [(cD dB)])] []
def u123_0_1 {β : Type} (g : St → β) : ByteArray → Int → Int → Bool → β := p123_0_1.unc g

def p123_0_2 : PT St := pS [sl 0 (aV false [(cD dS)]), sl 3 (aV false [(cD (dI .i64))]), sl 54 (aV false [(cD dB)])] []
def u123_0_2 {β : Type} (g : St → β) : ByteArray → Int → Bool → β := p123_0_2.unc g

def p123_0_3 : PT St := pS [sl 0 (aV false [(cD dS)]), sl 3 (aV false [(cD (dI .i64))])] []
def u123_0_3 {β : Type} (g : St → β) : ByteArray → Int → β := p123_0_3.unc g

def p123_0_4 : PT St := pS [sl 2 (aV false [(cD dB)])] []
def u123_0_4 {β : Type} (g : St → β) : Bool → β := p123_0_4.unc g

def p123_0_5 : PT St := pS [sl 0 (aV false [(cD dS)]), sl 3 (aV false [(cD (dI .i64))]), sl 17 (aV false [(cD dB)])] []
def u123_0_5 {β : Type} (g : St → β) : ByteArray → Int → Bool → β := p123_0_5.unc g

def pr123_0_0 : PT (List RV) := pRs [pR false [rD dB]]
def ur123_0_0 {β : Type} (g : List RV → β) : Bool → β := pr123_0_0.unc g

def E123_0g  : EnvK := EnvK.of [] noSeq
noncomputable def E123_0 : EnvK := E123_0g 
theorem eo123_0 : E123_0.Ok Try.prog := EnvK.of_ok noSeq_ok trivial

noncomputable def c123_0_24g  : MCode := (.region r123_25 [] (some ⟨[0, 3, 54], true, [], []⟩))
noncomputable def c123_0_24 : MCode := c123_0_24g 
theorem g123_0_24 : c123_0_24.Good Try.prog E123_0 sh123 := trivial
--CODE 24 0
abbrev TJ123_0_1 : Type 1 := (α : Type) → Int → Int → Bool → (Bool → Option α) → Option α
def J123_0_1g  (α : Type) (x13 : Int) (x14 : Int) (x15 : Bool) (k1 : Bool → Option α) : Option α :=
 cK (!x15)
 (cK (x13 == 0)
 (k1 true)
 (cK (x14 != 45)
 (cK (decide (x14 < 48))
 (k1 true)
 (k1 (decide (57 < x14))))
 (k1 false)))
 (k1 false)
noncomputable def J123_0_1 (α : Type) (x13 : Int) (x14 : Int) (x15 : Bool) (k1 : Bool → Option α) : Option α := J123_0_1g  α x13 x14 x15 k1
def F123_0_1 (v : TJ123_0_1) (α : Type) (K : Exit → St → Option α) : ByteArray → Int → Int → Bool → Option α := fun x12 x13 x14 x15 => v α x13 x14 x15 (fun (y1 : Bool) => u123_0_2 (K .normal) x12 x13 y1) 
theorem m123_0_1g   (α : Type) (K : Exit → St → Option α) : F123_0_1 (J123_0_1g ) α K = p123_0_1.unc fun σ => runM Try.prog (E123_0g ) sh123 (c123_0_24g ) K σ := by kernel_rfl
theorem m123_0_1 : ∀ (α : Type) (K : Exit → St → Option α), F123_0_1 J123_0_1 α K = p123_0_1.unc fun σ => runM Try.prog E123_0 sh123 c123_0_24 K σ := m123_0_1g 

noncomputable def c123_0_22g  : MCode := (.region r123_23 [] (some ⟨[0, 3, 4, 5], true, [], []⟩))
noncomputable def c123_0_22 : MCode := c123_0_22g 
theorem g123_0_22 : c123_0_22.Good Try.prog E123_0 sh123 := trivial
--CODE 22 0
abbrev TJ123_0_0 : Type 1 := (α : Type) → Int → (Bool → Option α) → Option α
def J123_0_0g  (α : Type) (x8 : Int) (k1 : Bool → Option α) : Option α :=
 cK (decide (97 ≤ x8))
 (cK (decide (x8 ≤ 122))
 (k1 true)
 (cK (decide (65 ≤ x8))
 (k1 (decide (x8 ≤ 90)))
 (k1 false)))
 (cK (decide (65 ≤ x8))
 (k1 (decide (x8 ≤ 90)))
 (k1 false))
noncomputable def J123_0_0 (α : Type) (x8 : Int) (k1 : Bool → Option α) : Option α := J123_0_0g  α x8 k1
def F123_0_0 (v : TJ123_0_0) (α : Type) (K : Exit → St → Option α) : ByteArray → Int → Int → Option α := fun x6 x7 x8 => v α x8 (fun (y1 : Bool) => u123_0_1 (K .normal) x6 x7 x8 y1) 
theorem m123_0_0g   (α : Type) (K : Exit → St → Option α) : F123_0_0 (J123_0_0g ) α K = p123_0_0.unc fun σ => runM Try.prog (E123_0g ) sh123 (c123_0_22g ) K σ := by kernel_rfl
theorem m123_0_0 : ∀ (α : Type) (K : Exit → St → Option α), F123_0_0 J123_0_0 α K = p123_0_0.unc fun σ => runM Try.prog E123_0 sh123 c123_0_22 K σ := m123_0_0g 

noncomputable def c123_0_13g (vJ123_0_0 : TJ123_0_0) (vJ123_0_1 : TJ123_0_1) : MCode := (.seq (.seq (.region r123_16 [] (some ⟨[0, 3, 17], true, [], []⟩)) (.cond (.tmp 17) .skip (.exit 0))) (.seq (.block 1 (.seq (.region r123_21 [] (some ⟨[0, 3, 4], true, [], []⟩)) (.seq (.mark [⟨p123_0_0, F123_0_0 vJ123_0_0⟩] c123_0_22) (.seq (.mark [⟨p123_0_1, F123_0_1 vJ123_0_1⟩] c123_0_24) (.cond (.tmp 54) (.seq (.region r123_28 [] (some ⟨[2], true, [], []⟩)) .ret) .skip))))) (.region r123_29 [] (some ⟨[0, 3], true, [], []⟩))))
noncomputable def c123_0_13 : MCode := c123_0_13g J123_0_0 J123_0_1
theorem g123_0_13 : c123_0_13.Good Try.prog E123_0 sh123 := ⟨⟨trivial, ⟨trivial, trivial⟩⟩, ⟨⟨trivial, ⟨⟨g123_0_22, m123_0_0, trivial⟩, ⟨⟨g123_0_24, m123_0_1, trivial⟩, ⟨⟨trivial, trivial⟩, trivial⟩⟩⟩⟩, trivial⟩⟩
--CODE 13 0
def S123_0_2g (vJ123_0_0 : TJ123_0_0) (vJ123_0_1 : TJ123_0_1) (α : Type) (x2 : ByteArray) (x3 : Int) (kn : Int → Option α) (k1 : Option α) (k2 : Int → Bool → Option α) : Option α :=
 cK (decide (x3 < ((ByteArray.size x2 : Nat) : Int)))
 (sixK x2 x3
 (fun (x5 : UInt8) => vJ123_0_0 α ((UInt8.toNat x5 : Nat) : Int)
 (fun (x10 : Bool) => vJ123_0_1 α x3 ((UInt8.toNat x5 : Nat) : Int) x10
 (fun (x17 : Bool) => cK x17
 (k1)
 (kn (w64 (x3 + 1)))))))
 (k2 x3 (decide (x3 < ((ByteArray.size x2 : Nat) : Int))))
noncomputable def S123_0_2 (α : Type) (x2 : ByteArray) (x3 : Int) (kn : Int → Option α) (k1 : Option α) (k2 : Int → Bool → Option α) : Option α := S123_0_2g J123_0_0 J123_0_1 α x2 x3 kn k1 k2
noncomputable def R123_0_2 (α : Type) (x2 : ByteArray) (k1 : Option α) (k2 : Int → Bool → Option α) : Nat → Int → Option α
 | 0, _ => none
 | n + 1, x3 => S123_0_2 α x2 x3 (R123_0_2 α x2 k1 k2 n) k1 k2
noncomputable def L123_0_2 (α : Type) (x2 : ByteArray) (k1 : Option α) (k2 : Int → Bool → Option α) (x3 : Int) : Option α := R123_0_2 α x2 k1 k2 fuel x3
abbrev TL123_0_2 : Type 1 := (α : Type) → ByteArray → (Option α) → (Int → Bool → Option α) → Int → Option α
def F123_0_2 (v : TL123_0_2) (α : Type) (K : Exit → St → Option α) : ByteArray → Int → Option α := fun x2 x3 => v α x2 (u123_0_4 (K .ret) false) (fun (y1 : Int) (y2 : Bool) => u123_0_5 (K (.exit 0)) x2 y1 y2) x3
theorem r123_0_2g  (vJ123_0_0 : TJ123_0_0) (vJ123_0_1 : TJ123_0_1) (α : Type) (K : Exit → St → Option α) (Kn : St → Option α) (x2 : ByteArray) (x3 : Int) : u123_0_3 (fun σ => runM Try.prog (E123_0g ) sh123 (c123_0_13g vJ123_0_0 vJ123_0_1) (thenK (fun σ => tidyK td123_13 σ Kn) K) σ) x2 x3 = S123_0_2g vJ123_0_0 vJ123_0_1 α x2 x3 (fun x3 => u123_0_3 Kn x2 x3) (u123_0_4 (K .ret) false) (fun (y1 : Int) (y2 : Bool) => u123_0_5 (K (.exit 0)) x2 y1 y2) := by kernel_rfl
theorem r123_0_2 (α : Type) (K : Exit → St → Option α) (Kn : St → Option α) (x2 : ByteArray) (x3 : Int) : u123_0_3 (fun σ => runM Try.prog E123_0 sh123 c123_0_13 (thenK (fun σ => tidyK td123_13 σ Kn) K) σ) x2 x3 = S123_0_2 α x2 x3 (fun x3 => u123_0_3 Kn x2 x3) (u123_0_4 (K .ret) false) (fun (y1 : Int) (y2 : Bool) => u123_0_5 (K (.exit 0)) x2 y1 y2) := r123_0_2g J123_0_0 J123_0_1 α K Kn x2 x3
theorem t123_0_2 (α : Type) (K : Exit → St → Option α) : ∀ (n : Nat) (x2 : ByteArray) (x3 : Int), R123_0_2 α x2 (u123_0_4 (K .ret) false) (fun (y1 : Int) (y2 : Bool) => u123_0_5 (K (.exit 0)) x2 y1 y2) n x3 = u123_0_3 (loopT (runM Try.prog E123_0 sh123 c123_0_13) td123_13 K n) x2 x3 := by
 intro n
 induction n with
 | zero => intros; rfl
 | succ n ih => intro x2 x3; exact (congrArg (fun kn => S123_0_2 α x2 x3 kn (u123_0_4 (K .ret) false) (fun (y1 : Int) (y2 : Bool) => u123_0_5 (K (.exit 0)) x2 y1 y2)) (funext fun x3 => ih x2 x3)).trans (r123_0_2 α K (loopT (runM Try.prog E123_0 sh123 c123_0_13) td123_13 K n) x2 x3).symm
theorem m123_0_2 : ∀ (α : Type) (K : Exit → St → Option α), F123_0_2 L123_0_2 α K = p123_0_3.unc fun σ => loopT (runM Try.prog E123_0 sh123 c123_0_13) td123_13 K fuel σ := fun α K => funext fun x2 => funext fun x3 => t123_0_2 α K fuel x2 x3

/-- etalon/etalonbase.IsName -/
abbrev Tf123_0 : Type 1 := (α : Type) → ByteArray → (Bool → Option α) → Option α
def f123_0g (vL123_0_2 : TL123_0_2) (α : Type) (x1 : ByteArray) (k1 : Bool → Option α) : Option α :=
 cK (decide (((ByteArray.size x1 : Nat) : Int) < 1))
 (k1 false)
 (cK (decide (12 < ((ByteArray.size x1 : Nat) : Int)))
 (k1 false)
 (vL123_0_2 α x1
 (k1 false)
 (fun (x19 : Int) (x20 : Bool) => k1 true) 0))
noncomputable def f123_0 (α : Type) (x1 : ByteArray) (k1 : Bool → Option α) : Option α := f123_0g L123_0_2 α x1 k1
def pa123_0 : PT (List DV) := pA [pV false [dS]]
def Fn123_0 (v : Tf123_0) (α : Type) (k : List RV → Option α) : ByteArray → Option α := fun x1 => v α x1 (fun (y1 : Bool) => ur123_0_0 k y1)
noncomputable def cm123_0g (vL123_0_2 : TL123_0_2) : MCode := (.seq (.region r123_2 [] (some ⟨[0], true, [], []⟩)) (.seq (.seq (.region r123_5 [] (some ⟨[0, 13], true, [], []⟩)) (.cond (.tmp 13) (.seq (.region r123_8 [] (some ⟨[2], true, [], []⟩)) .ret) .skip)) (.seq (.seq (.region r123_11 [] (some ⟨[0, 3], true, [], []⟩)) (.block 0 (.loop td123_13 [⟨p123_0_3, F123_0_2 vL123_0_2⟩] c123_0_13))) (.seq (.region r123_31 [] (some ⟨[2], true, [], []⟩)) .ret))))
noncomputable def cm123_0 : MCode := cm123_0g L123_0_2
theorem gm123_0 : cm123_0.Good Try.prog E123_0 sh123 := ⟨trivial, ⟨⟨trivial, ⟨⟨trivial, trivial⟩, trivial⟩⟩, ⟨⟨trivial, ⟨g123_0_13, m123_0_2, trivial⟩⟩, ⟨trivial, trivial⟩⟩⟩⟩
theorem fm123_0g  (vL123_0_2 : TL123_0_2) (α : Type) (k : List RV → Option α) : Fn123_0 (f123_0g vL123_0_2) α k = pa123_0.unc fun ds => fnM Try.prog (E123_0g ) sh123 (cm123_0g vL123_0_2) rs123 k ds := by kernel_rfl
theorem fm123_0 : ∀ (α : Type) (k : List RV → Option α), Fn123_0 f123_0 α k = pa123_0.unc fun ds => fnM Try.prog E123_0 sh123 cm123_0 rs123 k ds := fm123_0g L123_0_2

theorem is123 : FnIs Try.prog 123 nt123 tr123 tl123 cm123_0.erase rs123 := ⟨Try.f123, Try.func123, rfl, by kernel_rfl, by kernel_rfl, by kernel_rfl⟩
theorem io123_0 : InstOk Try.prog 123 nt123 ⟨pa123_0, Fn123_0 f123_0⟩ := inst_ok eo123_0 followsTry is123 ⟨⟨sh123, cm123_0, by kernel_rfl, gm123_0, fm123_0⟩⟩

/-! ### F78 etalon/meter.floor -/
abbrev nt78 : Nat := 23
def sh78 : List (Nat × List Sh) := []
def r78_2 : List AOper := [oO 4 (.mv (.const (.int .i64 0)))]
def r78_4 : List AOper := [oM 6 0, oM 7 1, oO 8 (.bin .quo 3 (.tmp 6) (.tmp 7)), oM 5 8]
def r78_7 : List AOper := [oM 9 0, oM 10 1, oO 11 (.bin .rem 3 (.tmp 9) (.tmp 10)), oO 12 (.bin .neq 3 (.tmp 11) (.const (.int .i64 0))), oM 13 12, ⟨(some 14), (.mv (.tmp 0)), (some (13, true))⟩, ⟨(some 15), (.bin .lss 3 (.tmp 14) (.const (.int .i64 0))), (some (13, true))⟩, ⟨(some 16), (.mv (.tmp 1)), (some (13, true))⟩, ⟨(some 17), (.bin .lss 3 (.tmp 16) (.const (.int .i64 0))), (some (13, true))⟩, ⟨(some 18), (.bin .neq 4 (.tmp 15) (.tmp 17)), (some (13, true))⟩, oO 19 (.pick (.tmp 13) (.tmp 18) (.const (.bool false)))]
def r78_9 : List AOper := [oM 20 5, oO 21 (.bin .sub 3 (.tmp 20) (.const (.int .i64 1))), oM 5 21]
def r78_11 : List AOper := [oM 22 5, oM 4 22]
def tr78 : List (Nat × Tidy) := [(0, ⟨[0, 1], true, [], []⟩), (1, ⟨[0, 1, 5], true, [], []⟩), (2, ⟨[5, 19], true, [], []⟩), (3, ⟨[5], true, [], []⟩), (4, ⟨[4], true, [], []⟩)]
def tl78 : List (Nat × Tidy) := []
def rs78 : List AResV := [.tmp 4]
def pr78_0_0 : PT (List RV) := pRs [pR false [rD (dI .i64)]]
def ur78_0_0 {β : Type} (g : List RV → β) : Int → β := pr78_0_0.unc g

def E78_0g  : EnvK := EnvK.of [] noSeq
noncomputable def E78_0 : EnvK := E78_0g 
theorem eo78_0 : E78_0.Ok Try.prog := EnvK.of_ok noSeq_ok trivial

/-- etalon/meter.floor -/
abbrev Tf78_0 : Type 1 := (α : Type) → Int → Int → (Int → Option α) → Option α
def f78_0g  (α : Type) (x1 : Int) (x2 : Int) (k1 : Int → Option α) : Option α :=
 gK (x2 != 0) (gK (x2 != 0) (cK ((Int.tmod x1 x2) != 0)
 (cK (!((decide (x1 < 0)) == (decide (x2 < 0))))
 (k1 (w64 ((w64 (Int.tdiv x1 x2)) - 1)))
 (k1 (w64 (Int.tdiv x1 x2))))
 (k1 (w64 (Int.tdiv x1 x2)))))
noncomputable def f78_0 (α : Type) (x1 : Int) (x2 : Int) (k1 : Int → Option α) : Option α := f78_0g  α x1 x2 k1
def pa78_0 : PT (List DV) := pA [pV false [(dI .i64)], pV false [(dI .i64)]]
def Fn78_0 (v : Tf78_0) (α : Type) (k : List RV → Option α) : Int → Int → Option α := fun x1 x2 => v α x1 x2 (fun (y1 : Int) => ur78_0_0 k y1)
noncomputable def cm78_0g  : MCode := (.seq (.region r78_2 [] (some ⟨[0, 1], true, [], []⟩)) (.seq (.region r78_4 [] (some ⟨[0, 1, 5], true, [], []⟩)) (.seq (.seq (.region r78_7 [] (some ⟨[5, 19], true, [], []⟩)) (.cond (.tmp 19) (.region r78_9 [] (some ⟨[5], true, [], []⟩)) .skip)) (.seq (.region r78_11 [] (some ⟨[4], true, [], []⟩)) .ret))))
noncomputable def cm78_0 : MCode := cm78_0g 
theorem gm78_0 : cm78_0.Good Try.prog E78_0 sh78 := ⟨trivial, ⟨trivial, ⟨⟨trivial, ⟨trivial, trivial⟩⟩, ⟨trivial, trivial⟩⟩⟩⟩
theorem fm78_0g   (α : Type) (k : List RV → Option α) : Fn78_0 (f78_0g ) α k = pa78_0.unc fun ds => fnM Try.prog (E78_0g ) sh78 (cm78_0g ) rs78 k ds := by kernel_rfl
theorem fm78_0 : ∀ (α : Type) (k : List RV → Option α), Fn78_0 f78_0 α k = pa78_0.unc fun ds => fnM Try.prog E78_0 sh78 cm78_0 rs78 k ds := fm78_0g 

theorem is78 : FnIs Try.prog 78 nt78 tr78 tl78 cm78_0.erase rs78 := ⟨Try.f78, Try.func78, rfl, by kernel_rfl, by kernel_rfl, by kernel_rfl⟩
theorem io78_0 : InstOk Try.prog 78 nt78 ⟨pa78_0, Fn78_0 f78_0⟩ := inst_ok eo78_0 followsTry is78 ⟨⟨sh78, cm78_0, by kernel_rfl, gm78_0, fm78_0⟩⟩

/-! ### F101 etalon/meter.degree -/
abbrev nt101 : Nat := 61
def sh101 : List (Nat × List Sh) := [(11, [.int .i64, .int .i64]), (13, [.int .i64, .int .i64]), (15, [.int .i64, .int .i64]), (21, [.int .i64]), (23, [.int .i64]), (27, [.int .i64]), (29, [.int .i64]), (33, [.int .i64]), (37, [.int .i64])]
def r101_2 : List AOper := [oO 1 (.box (.tmp 0)), oO 2 (.mv (.const (.int .i64 0))), oO 3 (.mv (.const (.int .i64 0)))]
def r101_4 : List AOper := [oO 4 (.mv (.const (.int .i64 0))), oO 5 (.mv (.const (.int .i64 0)))]
def r101_7 : List AOper := [oO 10 (.faddr 4 (.tmp 1)), oO 11 (.load true 2 (.tmp 10)), oO 12 (.faddr 6 (.tmp 1)), oO 13 (.load true 2 (.tmp 12)), oO 14 (.faddr 8 (.tmp 1)), oO 15 (.load true 2 (.tmp 14)), oO 16 (.build [(.d (.v (.int .i64 0))), (.d (.v (.int .i64 0))), (.d (.v (.int .i64 0))), (.d (.v (.int .i64 0))), (.d (.v (.int .i64 0))), (.d (.v (.int .i64 0)))] [(0, 2, (.tmp 11)), (2, 2, (.tmp 13)), (4, 2, (.tmp 15))]), oO 17 (.mv (.const (.int .i64 0)))]
def td101_9 : Option Tidy := (some ⟨[4, 5, 16, 17], true, [], []⟩)
def r101_11 : List AOper := [oO 18 (.bin .lss 3 (.tmp 17) (.const (.int .i64 3)))]
def r101_17 : List AOper := [oO 19 (.index true 3 2 (.tmp 16) (.tmp 17)), oO 7 (.alloc [(.d (.v (.int .i64 0))), (.d (.v (.int .i64 0)))]), ⟨none, (.store 2 (.tmp 7) (.tmp 19)), none⟩]
def r101_19 : List AOper := [oO 20 (.faddr 0 (.tmp 7)), oO 21 (.load false 1 (.tmp 20)), oO 22 (.faddr 0 (.tmp 7)), oO 23 (.load false 1 (.tmp 22)), oO 24 (.pure (oB (.unOp .neg 3 (.tmp 23)) 3)), oO 25 (.pure (oB (.call { callee := .builtin .max, args := #[(.tmp 21), (.tmp 24)], argTypes := #[3, 3] }) 3)), oO 26 (.faddr 1 (.tmp 7)), oO 27 (.load false 1 (.tmp 26)), oO 28 (.faddr 1 (.tmp 7)), oO 29 (.load false 1 (.tmp 28)), oO 30 (.pure (oB (.unOp .neg 3 (.tmp 29)) 3)), oO 31 (.pure (oB (.call { callee := .builtin .max, args := #[(.tmp 27), (.tmp 30)], argTypes := #[3, 3] }) 3)), oM 8 25, oM 9 31]
def r101_22 : List AOper := [oO 32 (.faddr 0 (.tmp 7)), oO 33 (.load false 1 (.tmp 32)), oO 34 (.bin .gtr 3 (.tmp 33) (.const (.int .i64 0))), oM 35 34, ⟨(some 36), (.faddr 1 (.tmp 7)), (some (35, false))⟩, ⟨(some 37), (.load false 1 (.tmp 36)), (some (35, false))⟩, ⟨(some 38), (.bin .lss 3 (.tmp 37) (.const (.int .i64 0))), (some (35, false))⟩, oO 39 (.pick (.tmp 35) (.const (.bool true)) (.tmp 38))]
def r101_24 : List AOper := [oM 40 4, oM 41 8, oM 42 9, oO 43 (.pure (oB (.call { callee := .builtin .min, args := #[(.tmp 41), (.tmp 42)], argTypes := #[3, 3] }) 3)), oM 44 8, oM 45 9, oO 46 (.pure (oB (.call { callee := .builtin .min, args := #[(.tmp 44), (.tmp 45)], argTypes := #[3, 3] }) 3)), oO 47 (.bin .mul 3 (.tmp 43) (.tmp 46)), oO 48 (.bin .add 3 (.tmp 40) (.tmp 47)), oM 4 48]
def r101_25 : List AOper := [oM 49 5, oM 50 8, oM 51 9, oO 52 (.pure (oB (.call { callee := .builtin .max, args := #[(.tmp 50), (.tmp 51)], argTypes := #[3, 3] }) 3)), oM 53 8, oM 54 9, oO 55 (.pure (oB (.call { callee := .builtin .max, args := #[(.tmp 53), (.tmp 54)], argTypes := #[3, 3] }) 3)), oO 56 (.bin .mul 3 (.tmp 52) (.tmp 55)), oO 57 (.bin .add 3 (.tmp 49) (.tmp 56)), oM 5 57]
def r101_26 : List AOper := [oO 58 (.bin .add 3 (.tmp 17) (.const (.int .i64 1))), oM 17 58]
def r101_28 : List AOper := [oM 59 4, oM 60 5, oM 2 59, oM 3 60]
def tr101 : List (Nat × Tidy) := [(0, ⟨[1], true, [], []⟩), (1, ⟨[1, 4, 5], true, [], []⟩), (2, ⟨[4, 5, 16, 17], true, [], []⟩), (3, ⟨[4, 5, 16, 17, 18], true, [], []⟩), (4, ⟨[4, 5, 7, 16, 17], true, [], []⟩), (5, ⟨[4, 5, 7, 8, 9, 16, 17], true, [], []⟩), (6, ⟨[4, 5, 8, 9, 16, 17, 39], true, [], []⟩), (7, ⟨[4, 5, 8, 9, 16, 17], true, [], []⟩), (8, ⟨[4, 5, 16, 17], true, [], []⟩), (9, ⟨[4, 5, 16, 17], true, [], []⟩), (10, ⟨[2, 3], true, [], []⟩)]
def tl101 : List (Nat × Tidy) := [(3, ⟨[4, 5, 16, 17], true, [], []⟩)]
def rs101 : List AResV := [.tmp 2, .tmp 3]
def p101_0_0 : PT St := pS [sl 4 (aV false [(cD (dI .i64))]), sl 5 (aV false [(cD (dI .i64))]), sl 16 (aV true [(cD (dI .i64)), (cD (dI .i64)), (cD (dI .i64)), (cD (dI .i64)), (cD (dI .i64)), (cD (dI .i64))]), sl 17 (aV false [(cD (dI .i64))]), sl 18 (aV false [(cD dB)])] []
def u101_0_0 {β : Type} (g : St → β) : Int → Int → Int → Int → Int → Int → Int → Int → Int → Bool → β := p101_0_0.unc g

def p101_0_1 : PT St := pS [sl 4 (aV false [(cD (dI .i64))]), sl 5 (aV false [(cD (dI .i64))]), sl 7 (aV false [(cPtr 7 0)]), sl 16 (aV true [(cD (dI .i64)), (cD (dI .i64)), (cD (dI .i64)), (cD (dI .i64)), (cD (dI .i64)), (cD (dI .i64))]), sl 17 (aV false [(cD (dI .i64))])] [eBox 7 [(cD (dI .i64)), (cD (dI .i64))]]
def u101_0_1 {β : Type} (g : St → β) : Int → Int → Int → Int → Int → Int → Int → Int → Int → Int → Int → β := p101_0_1.unc g

def p101_0_2 : PT St := pS [sl 4 (aV false [(cD (dI .i64))]), sl 5 (aV false [(cD (dI .i64))]), sl 7 (aV false [(cPtr 7 0)]), sl 8 (aV false [(cD (dI .i64))]), sl 9 (aV false [(cD (dI .i64))]), sl 16 (aV true [(cD (dI .i64)), (cD (dI .i64)), (cD (dI .i64)), (cD (dI .i64)), (cD (dI .i64)), (cD (dI .i64))]), sl 17 (aV false [(cD (dI .i64))])] [eBox 7 [(cD (dI .i64)), (cD (dI .i64))]]
def u101_0_2 {β : Type} (g : St → β) : Int → Int → Int → Int → Int → Int → Int → Int → Int → Int → Int → Int → Int → β := p101_0_2.unc g

def p101_0_3 : PT St := pS [sl 4 (aV false [(cD (dI .i64))]), sl 5 (aV false [(cD (dI .i64))]), sl 8 (aV false [(cD (dI .i64))]), sl 9 (aV false [(cD (dI .i64))]), sl 16 (aV true [(cD (dI .i64)), (cD (dI .i64)), (cD (dI .i64)), (cD (dI .i64)), (cD (dI .i64)), (cD (dI .i64))]), sl 17 (aV false [(cD (dI .i64))]), sl 39 (aV false [(cD dB)])] []
def u101_0_3 {β : Type} (g : St → β) : Int → Int → Int → Int → Int → Int → Int → Int → Int → Int → Int → Bool → β := p101_0_3.unc g

def p101_0_4 : PT St := pS [sl 4 (aV false [(cD (dI .i64))]), sl 5 (aV false [(cD (dI .i64))]), sl 8 (aV false [(cD (dI .i64))]), sl 9 (aV false [(cD (dI .i64))]), sl 16 (aV true [(cD (dI .i64)), (cD (dI .i64)), (cD (dI .i64)), (cD (dI .i64)), (cD (dI .i64)), (cD (dI .i64))]), sl 17 (aV false [(cD (dI .i64))])] []
def u101_0_4 {β : Type} (g : St → β) : Int → Int → Int → Int → Int → Int → Int → Int → Int → Int → Int → β := p101_0_4.unc g

def p101_0_5 : PT St := pS [sl 4 (aV false [(cD (dI .i64))]), sl 5 (aV false [(cD (dI .i64))]), sl 16 (aV true [(cD (dI .i64)), (cD (dI .i64)), (cD (dI .i64)), (cD (dI .i64)), (cD (dI .i64)), (cD (dI .i64))]), sl 17 (aV false [(cD (dI .i64))])] []
def u101_0_5 {β : Type} (g : St → β) : Int → Int → Int → Int → Int → Int → Int → Int → Int → β := p101_0_5.unc g

def pr101_0_0 : PT (List RV) := pRs [pR false [rD (dI .i64)], pR false [rD (dI .i64)]]
def ur101_0_0 {β : Type} (g : List RV → β) : Int → Int → β := pr101_0_0.unc g

def E101_0g  : EnvK := EnvK.of [] noSeq
noncomputable def E101_0 : EnvK := E101_0g 
theorem eo101_0 : E101_0.Ok Try.prog := EnvK.of_ok noSeq_ok trivial

noncomputable def c101_0_21g  : MCode := (.region r101_22 [] (some ⟨[4, 5, 8, 9, 16, 17, 39], true, [], []⟩))
noncomputable def c101_0_21 : MCode := c101_0_21g 
theorem g101_0_21 : c101_0_21.Good Try.prog E101_0 sh101 := trivial
--CODE 21 0
abbrev TJ101_0_1 : Type 1 := (α : Type) → Int → Int → (Bool → Option α) → Option α
def J101_0_1g  (α : Type) (x60 : Int) (x61 : Int) (k1 : Bool → Option α) : Option α :=
 cK (decide (0 < x60))
 (k1 true)
 (k1 (decide (x61 < 0)))
noncomputable def J101_0_1 (α : Type) (x60 : Int) (x61 : Int) (k1 : Bool → Option α) : Option α := J101_0_1g  α x60 x61 k1
def F101_0_1 (v : TJ101_0_1) (α : Type) (K : Exit → St → Option α) : Int → Int → Int → Int → Int → Int → Int → Int → Int → Int → Int → Int → Int → Option α := fun x49 x50 x51 x52 x53 x54 x55 x56 x57 x58 x59 x60 x61 => v α x60 x61 (fun (y1 : Bool) => u101_0_3 (K .normal) x49 x50 x51 x52 x53 x54 x55 x56 x57 x58 x59 y1) 
theorem m101_0_1g   (α : Type) (K : Exit → St → Option α) : F101_0_1 (J101_0_1g ) α K = p101_0_2.unc fun σ => runM Try.prog (E101_0g ) sh101 (c101_0_21g ) K σ := by kernel_rfl
theorem m101_0_1 : ∀ (α : Type) (K : Exit → St → Option α), F101_0_1 J101_0_1 α K = p101_0_2.unc fun σ => runM Try.prog E101_0 sh101 c101_0_21 K σ := m101_0_1g 

noncomputable def c101_0_20g (vJ101_0_1 : TJ101_0_1) : MCode := (.seq (.mark [⟨p101_0_2, F101_0_1 vJ101_0_1⟩] c101_0_21) (.cond (.tmp 39) (.region r101_24 [] (some ⟨[4, 5, 8, 9, 16, 17], true, [], []⟩)) .skip))
noncomputable def c101_0_20 : MCode := c101_0_20g J101_0_1
theorem g101_0_20 : c101_0_20.Good Try.prog E101_0 sh101 := ⟨⟨g101_0_21, m101_0_1, trivial⟩, ⟨trivial, trivial⟩⟩
--CODE 20 0
abbrev TJ101_0_2 : Type 1 := (α : Type) → Int → Int → Int → Int → Int → (Int → Option α) → (Bool → Option α) → Option α
def J101_0_2g (vJ101_0_1 : TJ101_0_1) (α : Type) (x35 : Int) (x37 : Int) (x38 : Int) (x46 : Int) (x47 : Int) (k1 : Int → Option α) (k2 : Bool → Option α) : Option α :=
 vJ101_0_1 α x46 x47
 (fun (x63 : Bool) => cK x63
 (k1 (w64 (x35 + (w64 ((if x38 < x37 then x38 else x37) * (if x38 < x37 then x38 else x37))))))
 (k2 x63))
noncomputable def J101_0_2 (α : Type) (x35 : Int) (x37 : Int) (x38 : Int) (x46 : Int) (x47 : Int) (k1 : Int → Option α) (k2 : Bool → Option α) : Option α := J101_0_2g J101_0_1 α x35 x37 x38 x46 x47 k1 k2
def F101_0_2 (v : TJ101_0_2) (α : Type) (K : Exit → St → Option α) : Int → Int → Int → Int → Int → Int → Int → Int → Int → Int → Int → Int → Int → Option α := fun x35 x36 x37 x38 x39 x40 x41 x42 x43 x44 x45 x46 x47 => v α x35 x37 x38 x46 x47 (fun (y1 : Int) => u101_0_4 (K .normal) y1 x36 x37 x38 x39 x40 x41 x42 x43 x44 x45) (fun (y1 : Bool) => u101_0_3 (K .normal) x35 x36 x37 x38 x39 x40 x41 x42 x43 x44 x45 y1) 
theorem m101_0_2g  (vJ101_0_1 : TJ101_0_1) (α : Type) (K : Exit → St → Option α) : F101_0_2 (J101_0_2g vJ101_0_1) α K = p101_0_2.unc fun σ => runM Try.prog (E101_0g ) sh101 (c101_0_20g vJ101_0_1) K σ := by kernel_rfl
theorem m101_0_2 : ∀ (α : Type) (K : Exit → St → Option α), F101_0_2 J101_0_2 α K = p101_0_2.unc fun σ => runM Try.prog E101_0 sh101 c101_0_20 K σ := m101_0_2g J101_0_1

noncomputable def c101_0_16g  : MCode := (.region r101_17 [] (some ⟨[4, 5, 7, 16, 17], true, [], []⟩))
noncomputable def c101_0_16 : MCode := c101_0_16g 
theorem g101_0_16 : c101_0_16.Good Try.prog E101_0 sh101 := trivial
--CODE 16 0
abbrev TJ101_0_0 : Type 1 := (α : Type) → Int → Int → Int → Int → Int → Int → Int → (Int → Int → Option α) → Option α
def J101_0_0g  (α : Type) (x23 : Int) (x24 : Int) (x25 : Int) (x26 : Int) (x27 : Int) (x28 : Int) (x29 : Int) (k1 : Int → Int → Option α) : Option α :=
 cK (x29 == 2)
 (k1 x27 x28)
 (cK (x29 == 1)
 (k1 x25 x26)
 (cK (x29 == 0)
 (k1 x23 x24)
 (none)))
noncomputable def J101_0_0 (α : Type) (x23 : Int) (x24 : Int) (x25 : Int) (x26 : Int) (x27 : Int) (x28 : Int) (x29 : Int) (k1 : Int → Int → Option α) : Option α := J101_0_0g  α x23 x24 x25 x26 x27 x28 x29 k1
def F101_0_0 (v : TJ101_0_0) (α : Type) (K : Exit → St → Option α) : Int → Int → Int → Int → Int → Int → Int → Int → Int → Bool → Option α := fun x21 x22 x23 x24 x25 x26 x27 x28 x29 x30 => v α x23 x24 x25 x26 x27 x28 x29 (fun (y1 : Int) (y2 : Int) => u101_0_1 (K .normal) x21 x22 x23 x24 x25 x26 x27 x28 x29 y1 y2) 
theorem m101_0_0g   (α : Type) (K : Exit → St → Option α) : F101_0_0 (J101_0_0g ) α K = p101_0_0.unc fun σ => runM Try.prog (E101_0g ) sh101 (c101_0_16g ) K σ := by kernel_rfl
theorem m101_0_0 : ∀ (α : Type) (K : Exit → St → Option α), F101_0_0 J101_0_0 α K = p101_0_0.unc fun σ => runM Try.prog E101_0 sh101 c101_0_16 K σ := m101_0_0g 

noncomputable def c101_0_9g (vJ101_0_0 : TJ101_0_0) (vJ101_0_2 : TJ101_0_2) : MCode := (.seq (.region r101_11 [] (some ⟨[4, 5, 16, 17, 18], true, [], []⟩)) (.seq (.cond (.tmp 18) .skip (.exit 0)) (.seq (.block 1 (.seq (.mark [⟨p101_0_0, F101_0_0 vJ101_0_0⟩] c101_0_16) (.seq (.region r101_19 [] (some ⟨[4, 5, 7, 8, 9, 16, 17], true, [], []⟩)) (.seq (.mark [⟨p101_0_2, F101_0_2 vJ101_0_2⟩] c101_0_20) (.region r101_25 [] (some ⟨[4, 5, 16, 17], true, [], []⟩)))))) (.region r101_26 [] (some ⟨[4, 5, 16, 17], true, [], []⟩)))))
noncomputable def c101_0_9 : MCode := c101_0_9g J101_0_0 J101_0_2
theorem g101_0_9 : c101_0_9.Good Try.prog E101_0 sh101 := ⟨trivial, ⟨⟨trivial, trivial⟩, ⟨⟨⟨g101_0_16, m101_0_0, trivial⟩, ⟨trivial, ⟨⟨g101_0_20, m101_0_2, trivial⟩, trivial⟩⟩⟩, trivial⟩⟩⟩
--CODE 9 0
def S101_0_3g (vJ101_0_0 : TJ101_0_0) (vJ101_0_2 : TJ101_0_2) (α : Type) (x13 : Int) (x14 : Int) (x15 : Int) (x16 : Int) (x17 : Int) (x18 : Int) (x11 : Int) (x12 : Int) (x19 : Int) (kn : Int → Int → Int → Option α) (k1 : Int → Int → Int → Bool → Option α) : Option α :=
 cK (decide (x19 < 3))
 (vJ101_0_0 α x13 x14 x15 x16 x17 x18 x19
 (fun (x32 : Int) (x33 : Int) => vJ101_0_2 α x11 (if (w64 (0 - x32)) > x32 then (w64 (0 - x32)) else x32) (if (w64 (0 - x33)) > x33 then (w64 (0 - x33)) else x33) x32 x33
 (fun (x65 : Int) => kn x65 (w64 (x12 + (w64 ((if (if (w64 (0 - x33)) > x33 then (w64 (0 - x33)) else x33) > (if (w64 (0 - x32)) > x32 then (w64 (0 - x32)) else x32) then (if (w64 (0 - x33)) > x33 then (w64 (0 - x33)) else x33) else (if (w64 (0 - x32)) > x32 then (w64 (0 - x32)) else x32)) * (if (if (w64 (0 - x33)) > x33 then (w64 (0 - x33)) else x33) > (if (w64 (0 - x32)) > x32 then (w64 (0 - x32)) else x32) then (if (w64 (0 - x33)) > x33 then (w64 (0 - x33)) else x33) else (if (w64 (0 - x32)) > x32 then (w64 (0 - x32)) else x32)))))) (w64 (x19 + 1)))
 (fun (x66 : Bool) => kn x11 (w64 (x12 + (w64 ((if (if (w64 (0 - x33)) > x33 then (w64 (0 - x33)) else x33) > (if (w64 (0 - x32)) > x32 then (w64 (0 - x32)) else x32) then (if (w64 (0 - x33)) > x33 then (w64 (0 - x33)) else x33) else (if (w64 (0 - x32)) > x32 then (w64 (0 - x32)) else x32)) * (if (if (w64 (0 - x33)) > x33 then (w64 (0 - x33)) else x33) > (if (w64 (0 - x32)) > x32 then (w64 (0 - x32)) else x32) then (if (w64 (0 - x33)) > x33 then (w64 (0 - x33)) else x33) else (if (w64 (0 - x32)) > x32 then (w64 (0 - x32)) else x32)))))) (w64 (x19 + 1)))))
 (k1 x11 x12 x19 (decide (x19 < 3)))
noncomputable def S101_0_3 (α : Type) (x13 : Int) (x14 : Int) (x15 : Int) (x16 : Int) (x17 : Int) (x18 : Int) (x11 : Int) (x12 : Int) (x19 : Int) (kn : Int → Int → Int → Option α) (k1 : Int → Int → Int → Bool → Option α) : Option α := S101_0_3g J101_0_0 J101_0_2 α x13 x14 x15 x16 x17 x18 x11 x12 x19 kn k1
noncomputable def R101_0_3 (α : Type) (x13 : Int) (x14 : Int) (x15 : Int) (x16 : Int) (x17 : Int) (x18 : Int) (k1 : Int → Int → Int → Bool → Option α) : Nat → Int → Int → Int → Option α
 | 0, _, _, _ => none
 | n + 1, x11, x12, x19 => S101_0_3 α x13 x14 x15 x16 x17 x18 x11 x12 x19 (R101_0_3 α x13 x14 x15 x16 x17 x18 k1 n) k1
noncomputable def L101_0_3 (α : Type) (x13 : Int) (x14 : Int) (x15 : Int) (x16 : Int) (x17 : Int) (x18 : Int) (k1 : Int → Int → Int → Bool → Option α) (x11 : Int) (x12 : Int) (x19 : Int) : Option α := R101_0_3 α x13 x14 x15 x16 x17 x18 k1 fuel x11 x12 x19
abbrev TL101_0_3 : Type 1 := (α : Type) → Int → Int → Int → Int → Int → Int → (Int → Int → Int → Bool → Option α) → Int → Int → Int → Option α
def F101_0_3 (v : TL101_0_3) (α : Type) (K : Exit → St → Option α) : Int → Int → Int → Int → Int → Int → Int → Int → Int → Option α := fun x11 x12 x13 x14 x15 x16 x17 x18 x19 => v α x13 x14 x15 x16 x17 x18 (fun (y1 : Int) (y2 : Int) (y3 : Int) (y4 : Bool) => u101_0_0 (K (.exit 0)) y1 y2 x13 x14 x15 x16 x17 x18 y3 y4) x11 x12 x19
theorem r101_0_3g  (vJ101_0_0 : TJ101_0_0) (vJ101_0_2 : TJ101_0_2) (α : Type) (K : Exit → St → Option α) (Kn : St → Option α) (x11 : Int) (x12 : Int) (x13 : Int) (x14 : Int) (x15 : Int) (x16 : Int) (x17 : Int) (x18 : Int) (x19 : Int) : u101_0_5 (fun σ => runM Try.prog (E101_0g ) sh101 (c101_0_9g vJ101_0_0 vJ101_0_2) (thenK (fun σ => tidyK td101_9 σ Kn) K) σ) x11 x12 x13 x14 x15 x16 x17 x18 x19 = S101_0_3g vJ101_0_0 vJ101_0_2 α x13 x14 x15 x16 x17 x18 x11 x12 x19 (fun x11 x12 x19 => u101_0_5 Kn x11 x12 x13 x14 x15 x16 x17 x18 x19) (fun (y1 : Int) (y2 : Int) (y3 : Int) (y4 : Bool) => u101_0_0 (K (.exit 0)) y1 y2 x13 x14 x15 x16 x17 x18 y3 y4) := by kernel_rfl
theorem r101_0_3 (α : Type) (K : Exit → St → Option α) (Kn : St → Option α) (x11 : Int) (x12 : Int) (x13 : Int) (x14 : Int) (x15 : Int) (x16 : Int) (x17 : Int) (x18 : Int) (x19 : Int) : u101_0_5 (fun σ => runM Try.prog E101_0 sh101 c101_0_9 (thenK (fun σ => tidyK td101_9 σ Kn) K) σ) x11 x12 x13 x14 x15 x16 x17 x18 x19 = S101_0_3 α x13 x14 x15 x16 x17 x18 x11 x12 x19 (fun x11 x12 x19 => u101_0_5 Kn x11 x12 x13 x14 x15 x16 x17 x18 x19) (fun (y1 : Int) (y2 : Int) (y3 : Int) (y4 : Bool) => u101_0_0 (K (.exit 0)) y1 y2 x13 x14 x15 x16 x17 x18 y3 y4) := r101_0_3g J101_0_0 J101_0_2 α K Kn x11 x12 x13 x14 x15 x16 x17 x18 x19
theorem t101_0_3 (α : Type) (K : Exit → St → Option α) : ∀ (n : Nat) (x11 : Int) (x12 : Int) (x13 : Int) (x14 : Int) (x15 : Int) (x16 : Int) (x17 : Int) (x18 : Int) (x19 : Int), R101_0_3 α x13 x14 x15 x16 x17 x18 (fun (y1 : Int) (y2 : Int) (y3 : Int) (y4 : Bool) => u101_0_0 (K (.exit 0)) y1 y2 x13 x14 x15 x16 x17 x18 y3 y4) n x11 x12 x19 = u101_0_5 (loopT (runM Try.prog E101_0 sh101 c101_0_9) td101_9 K n) x11 x12 x13 x14 x15 x16 x17 x18 x19 := by
 intro n
 induction n with
 | zero => intros; rfl
 | succ n ih => intro x11 x12 x13 x14 x15 x16 x17 x18 x19; exact (congrArg (fun kn => S101_0_3 α x13 x14 x15 x16 x17 x18 x11 x12 x19 kn (fun (y1 : Int) (y2 : Int) (y3 : Int) (y4 : Bool) => u101_0_0 (K (.exit 0)) y1 y2 x13 x14 x15 x16 x17 x18 y3 y4)) (funext fun x11 => funext fun x12 => funext fun x19 => ih x11 x12 x13 x14 x15 x16 x17 x18 x19)).trans (r101_0_3 α K (loopT (runM Try.prog E101_0 sh101 c101_0_9) td101_9 K n) x11 x12 x13 x14 x15 x16 x17 x18 x19).symm
theorem m101_0_3 : ∀ (α : Type) (K : Exit → St → Option α), F101_0_3 L101_0_3 α K = p101_0_5.unc fun σ => loopT (runM Try.prog E101_0 sh101 c101_0_9) td101_9 K fuel σ := fun α K => funext fun x11 => funext fun x12 => funext fun x13 => funext fun x14 => funext fun x15 => funext fun x16 => funext fun x17 => funext fun x18 => funext fun x19 => t101_0_3 α K fuel x11 x12 x13 x14 x15 x16 x17 x18 x19

/-- etalon/meter.degree -/
abbrev Tf101_0 : Type 1 := (α : Type) → ByteArray → Int → Int → Int → Int → Int → Int → Int → Int → Int → (Int → Int → Option α) → Option α
def f101_0g (vL101_0_3 : TL101_0_3) (α : Type) (x1 : ByteArray) (x2 : Int) (x3 : Int) (x4 : Int) (x5 : Int) (x6 : Int) (x7 : Int) (x8 : Int) (x9 : Int) (x10 : Int) (k1 : Int → Int → Option α) : Option α :=
 vL101_0_3 α x5 x6 x7 x8 x9 x10
 (fun (x68 : Int) (x69 : Int) (x70 : Int) (x71 : Bool) => k1 x68 x69) 0 0 0
noncomputable def f101_0 (α : Type) (x1 : ByteArray) (x2 : Int) (x3 : Int) (x4 : Int) (x5 : Int) (x6 : Int) (x7 : Int) (x8 : Int) (x9 : Int) (x10 : Int) (k1 : Int → Int → Option α) : Option α := f101_0g L101_0_3 α x1 x2 x3 x4 x5 x6 x7 x8 x9 x10 k1
def pa101_0 : PT (List DV) := pA [pV true [dS, (dI .i64), (dI .i64), (dI .i64), (dI .i64), (dI .i64), (dI .i64), (dI .i64), (dI .i64), (dI .i64)]]
def Fn101_0 (v : Tf101_0) (α : Type) (k : List RV → Option α) : ByteArray → Int → Int → Int → Int → Int → Int → Int → Int → Int → Option α := fun x1 x2 x3 x4 x5 x6 x7 x8 x9 x10 => v α x1 x2 x3 x4 x5 x6 x7 x8 x9 x10 (fun (y1 : Int) (y2 : Int) => ur101_0_0 k y1 y2)
noncomputable def cm101_0g (vL101_0_3 : TL101_0_3) : MCode := (.seq (.region r101_2 [] (some ⟨[1], true, [], []⟩)) (.seq (.region r101_4 [] (some ⟨[1, 4, 5], true, [], []⟩)) (.seq (.seq (.region r101_7 [] (some ⟨[4, 5, 16, 17], true, [], []⟩)) (.block 0 (.loop td101_9 [⟨p101_0_5, F101_0_3 vL101_0_3⟩] c101_0_9))) (.seq (.region r101_28 [] (some ⟨[2, 3], true, [], []⟩)) .ret))))
noncomputable def cm101_0 : MCode := cm101_0g L101_0_3
theorem gm101_0 : cm101_0.Good Try.prog E101_0 sh101 := ⟨trivial, ⟨trivial, ⟨⟨trivial, ⟨g101_0_9, m101_0_3, trivial⟩⟩, ⟨trivial, trivial⟩⟩⟩⟩
theorem fm101_0g  (vL101_0_3 : TL101_0_3) (α : Type) (k : List RV → Option α) : Fn101_0 (f101_0g vL101_0_3) α k = pa101_0.unc fun ds => fnM Try.prog (E101_0g ) sh101 (cm101_0g vL101_0_3) rs101 k ds := by kernel_rfl
theorem fm101_0 : ∀ (α : Type) (k : List RV → Option α), Fn101_0 f101_0 α k = pa101_0.unc fun ds => fnM Try.prog E101_0 sh101 cm101_0 rs101 k ds := fm101_0g L101_0_3

theorem is101 : FnIs Try.prog 101 nt101 tr101 tl101 cm101_0.erase rs101 := ⟨Try.f101, Try.func101, rfl, by kernel_rfl, by kernel_rfl, by kernel_rfl⟩
theorem io101_0 : InstOk Try.prog 101 nt101 ⟨pa101_0, Fn101_0 f101_0⟩ := inst_ok eo101_0 followsTry is101 ⟨⟨sh101, cm101_0, by kernel_rfl, gm101_0, fm101_0⟩⟩

/-! ### F99 etalon/etalonbase.Floor -/
abbrev nt99 : Nat := 16
def sh99 : List (Nat × List Sh) := []
def r99_2 : List AOper := [oO 4 (.mv (.const (.int .i64 0)))]
def r99_4 : List AOper := [oM 6 0, oM 7 1, oO 8 (.bin .quo 3 (.tmp 6) (.tmp 7)), oM 5 8]
def r99_7 : List AOper := [oM 9 0, oM 10 1, oO 11 (.bin .rem 3 (.tmp 9) (.tmp 10)), oO 12 (.bin .lss 3 (.tmp 11) (.const (.int .i64 0)))]
def r99_9 : List AOper := [oM 13 5, oO 14 (.bin .sub 3 (.tmp 13) (.const (.int .i64 1))), oM 5 14]
def r99_11 : List AOper := [oM 15 5, oM 4 15]
def tr99 : List (Nat × Tidy) := [(0, ⟨[0, 1], true, [], []⟩), (1, ⟨[0, 1, 5], true, [], []⟩), (2, ⟨[5, 12], true, [], []⟩), (3, ⟨[5], true, [], []⟩), (4, ⟨[4], true, [], []⟩)]
def tl99 : List (Nat × Tidy) := []
def rs99 : List AResV := [.tmp 4]
def pr99_0_0 : PT (List RV) := pRs [pR false [rD (dI .i64)]]
def ur99_0_0 {β : Type} (g : List RV → β) : Int → β := pr99_0_0.unc g

def E99_0g  : EnvK := EnvK.of [] noSeq
noncomputable def E99_0 : EnvK := E99_0g 
theorem eo99_0 : E99_0.Ok Try.prog := EnvK.of_ok noSeq_ok trivial

/-- etalon/etalonbase.Floor -/
abbrev Tf99_0 : Type 1 := (α : Type) → Int → Int → (Int → Option α) → Option α
def f99_0g  (α : Type) (x1 : Int) (x2 : Int) (k1 : Int → Option α) : Option α :=
 gK (x2 != 0) (gK (x2 != 0) (cK (decide ((Int.tmod x1 x2) < 0))
 (k1 (w64 ((w64 (Int.tdiv x1 x2)) - 1)))
 (k1 (w64 (Int.tdiv x1 x2)))))
noncomputable def f99_0 (α : Type) (x1 : Int) (x2 : Int) (k1 : Int → Option α) : Option α := f99_0g  α x1 x2 k1
def pa99_0 : PT (List DV) := pA [pV false [(dI .i64)], pV false [(dI .i64)]]
def Fn99_0 (v : Tf99_0) (α : Type) (k : List RV → Option α) : Int → Int → Option α := fun x1 x2 => v α x1 x2 (fun (y1 : Int) => ur99_0_0 k y1)
noncomputable def cm99_0g  : MCode := (.seq (.region r99_2 [] (some ⟨[0, 1], true, [], []⟩)) (.seq (.region r99_4 [] (some ⟨[0, 1, 5], true, [], []⟩)) (.seq (.seq (.region r99_7 [] (some ⟨[5, 12], true, [], []⟩)) (.cond (.tmp 12) (.region r99_9 [] (some ⟨[5], true, [], []⟩)) .skip)) (.seq (.region r99_11 [] (some ⟨[4], true, [], []⟩)) .ret))))
noncomputable def cm99_0 : MCode := cm99_0g 
theorem gm99_0 : cm99_0.Good Try.prog E99_0 sh99 := ⟨trivial, ⟨trivial, ⟨⟨trivial, ⟨trivial, trivial⟩⟩, ⟨trivial, trivial⟩⟩⟩⟩
theorem fm99_0g   (α : Type) (k : List RV → Option α) : Fn99_0 (f99_0g ) α k = pa99_0.unc fun ds => fnM Try.prog (E99_0g ) sh99 (cm99_0g ) rs99 k ds := by kernel_rfl
theorem fm99_0 : ∀ (α : Type) (k : List RV → Option α), Fn99_0 f99_0 α k = pa99_0.unc fun ds => fnM Try.prog E99_0 sh99 cm99_0 rs99 k ds := fm99_0g 

theorem is99 : FnIs Try.prog 99 nt99 tr99 tl99 cm99_0.erase rs99 := ⟨Try.f99, Try.func99, rfl, by kernel_rfl, by kernel_rfl, by kernel_rfl⟩
theorem io99_0 : InstOk Try.prog 99 nt99 ⟨pa99_0, Fn99_0 f99_0⟩ := inst_ok eo99_0 followsTry is99 ⟨⟨sh99, cm99_0, by kernel_rfl, gm99_0, fm99_0⟩⟩

/-! ### F31 etalon/etalonbase.Mod -/
abbrev nt31 : Nat := 14
def sh31 : List (Nat × List Sh) := []
def r31_2 : List AOper := [oO 4 (.mv (.const (.int .i64 0)))]
def r31_4 : List AOper := [oM 5 0, oM 6 1, oO 7 (.bin .rem 3 (.tmp 5) (.tmp 6)), oM 0 7]
def r31_7 : List AOper := [oM 8 0, oO 9 (.bin .lss 3 (.tmp 8) (.const (.int .i64 0)))]
def r31_9 : List AOper := [oM 10 0, oM 11 1, oO 12 (.bin .add 3 (.tmp 10) (.tmp 11)), oM 0 12]
def r31_11 : List AOper := [oM 13 0, oM 4 13]
def tr31 : List (Nat × Tidy) := [(0, ⟨[0, 1], true, [], []⟩), (1, ⟨[0, 1], true, [], []⟩), (2, ⟨[0, 1, 9], true, [], []⟩), (3, ⟨[0], true, [], []⟩), (4, ⟨[4], true, [], []⟩)]
def tl31 : List (Nat × Tidy) := []
def rs31 : List AResV := [.tmp 4]
def pr31_0_0 : PT (List RV) := pRs [pR false [rD (dI .i64)]]
def ur31_0_0 {β : Type} (g : List RV → β) : Int → β := pr31_0_0.unc g

def E31_0g  : EnvK := EnvK.of [] noSeq
noncomputable def E31_0 : EnvK := E31_0g 
theorem eo31_0 : E31_0.Ok Try.prog := EnvK.of_ok noSeq_ok trivial

/-- etalon/etalonbase.Mod -/
abbrev Tf31_0 : Type 1 := (α : Type) → Int → Int → (Int → Option α) → Option α
def f31_0g  (α : Type) (x1 : Int) (x2 : Int) (k1 : Int → Option α) : Option α :=
 gK (x2 != 0) (cK (decide ((Int.tmod x1 x2) < 0))
 (k1 (w64 ((Int.tmod x1 x2) + x2)))
 (k1 (Int.tmod x1 x2)))
noncomputable def f31_0 (α : Type) (x1 : Int) (x2 : Int) (k1 : Int → Option α) : Option α := f31_0g  α x1 x2 k1
def pa31_0 : PT (List DV) := pA [pV false [(dI .i64)], pV false [(dI .i64)]]
def Fn31_0 (v : Tf31_0) (α : Type) (k : List RV → Option α) : Int → Int → Option α := fun x1 x2 => v α x1 x2 (fun (y1 : Int) => ur31_0_0 k y1)
noncomputable def cm31_0g  : MCode := (.seq (.region r31_2 [] (some ⟨[0, 1], true, [], []⟩)) (.seq (.region r31_4 [] (some ⟨[0, 1], true, [], []⟩)) (.seq (.seq (.region r31_7 [] (some ⟨[0, 1, 9], true, [], []⟩)) (.cond (.tmp 9) (.region r31_9 [] (some ⟨[0], true, [], []⟩)) .skip)) (.seq (.region r31_11 [] (some ⟨[4], true, [], []⟩)) .ret))))
noncomputable def cm31_0 : MCode := cm31_0g 
theorem gm31_0 : cm31_0.Good Try.prog E31_0 sh31 := ⟨trivial, ⟨trivial, ⟨⟨trivial, ⟨trivial, trivial⟩⟩, ⟨trivial, trivial⟩⟩⟩⟩
theorem fm31_0g   (α : Type) (k : List RV → Option α) : Fn31_0 (f31_0g ) α k = pa31_0.unc fun ds => fnM Try.prog (E31_0g ) sh31 (cm31_0g ) rs31 k ds := by kernel_rfl
theorem fm31_0 : ∀ (α : Type) (k : List RV → Option α), Fn31_0 f31_0 α k = pa31_0.unc fun ds => fnM Try.prog E31_0 sh31 cm31_0 rs31 k ds := fm31_0g 

theorem is31 : FnIs Try.prog 31 nt31 tr31 tl31 cm31_0.erase rs31 := ⟨Try.f31, Try.func31, rfl, by kernel_rfl, by kernel_rfl, by kernel_rfl⟩
theorem io31_0 : InstOk Try.prog 31 nt31 ⟨pa31_0, Fn31_0 f31_0⟩ := inst_ok eo31_0 followsTry is31 ⟨⟨sh31, cm31_0, by kernel_rfl, gm31_0, fm31_0⟩⟩

/-! ### F29 etalon/etalonbase.Within -/
abbrev nt29 : Nat := 15
def sh29 : List (Nat × List Sh) := []
def r29_2 : List AOper := [oO 6 (.mv (.const (.bool false)))]
def r29_4 : List AOper := [oM 7 1, oM 8 0, oO 9 (.bin .leq 3 (.tmp 7) (.tmp 8)), oM 10 9, ⟨(some 11), (.mv (.tmp 0)), (some (10, true))⟩, ⟨(some 12), (.mv (.tmp 2)), (some (10, true))⟩, ⟨(some 13), (.bin .leq 3 (.tmp 11) (.tmp 12)), (some (10, true))⟩, oO 14 (.pick (.tmp 10) (.tmp 13) (.const (.bool false))), oM 6 14]
def tr29 : List (Nat × Tidy) := [(0, ⟨[0, 1, 2], true, [], []⟩), (1, ⟨[6], true, [], []⟩)]
def tl29 : List (Nat × Tidy) := []
def rs29 : List AResV := [.tmp 6]
def pr29_0_0 : PT (List RV) := pRs [pR false [rD dB]]
def ur29_0_0 {β : Type} (g : List RV → β) : Bool → β := pr29_0_0.unc g

def E29_0g  : EnvK := EnvK.of [] noSeq
noncomputable def E29_0 : EnvK := E29_0g 
theorem eo29_0 : E29_0.Ok Try.prog := EnvK.of_ok noSeq_ok trivial

/-- etalon/etalonbase.Within -/
abbrev Tf29_0 : Type 1 := (α : Type) → Int → Int → Int → (Bool → Option α) → Option α
def f29_0g  (α : Type) (x1 : Int) (x2 : Int) (x3 : Int) (k1 : Bool → Option α) : Option α :=
 cK (decide (x2 ≤ x1))
 (k1 (decide (x1 ≤ x3)))
 (k1 false)
noncomputable def f29_0 (α : Type) (x1 : Int) (x2 : Int) (x3 : Int) (k1 : Bool → Option α) : Option α := f29_0g  α x1 x2 x3 k1
def pa29_0 : PT (List DV) := pA [pV false [(dI .i64)], pV false [(dI .i64)], pV false [(dI .i64)]]
def Fn29_0 (v : Tf29_0) (α : Type) (k : List RV → Option α) : Int → Int → Int → Option α := fun x1 x2 x3 => v α x1 x2 x3 (fun (y1 : Bool) => ur29_0_0 k y1)
noncomputable def cm29_0g  : MCode := (.seq (.region r29_2 [] (some ⟨[0, 1, 2], true, [], []⟩)) (.seq (.region r29_4 [] (some ⟨[6], true, [], []⟩)) .ret))
noncomputable def cm29_0 : MCode := cm29_0g 
theorem gm29_0 : cm29_0.Good Try.prog E29_0 sh29 := ⟨trivial, ⟨trivial, trivial⟩⟩
theorem fm29_0g   (α : Type) (k : List RV → Option α) : Fn29_0 (f29_0g ) α k = pa29_0.unc fun ds => fnM Try.prog (E29_0g ) sh29 (cm29_0g ) rs29 k ds := by kernel_rfl
theorem fm29_0 : ∀ (α : Type) (k : List RV → Option α), Fn29_0 f29_0 α k = pa29_0.unc fun ds => fnM Try.prog E29_0 sh29 cm29_0 rs29 k ds := fm29_0g 

theorem is29 : FnIs Try.prog 29 nt29 tr29 tl29 cm29_0.erase rs29 := ⟨Try.f29, Try.func29, rfl, by kernel_rfl, by kernel_rfl, by kernel_rfl⟩
theorem io29_0 : InstOk Try.prog 29 nt29 ⟨pa29_0, Fn29_0 f29_0⟩ := inst_ok eo29_0 followsTry is29 ⟨⟨sh29, cm29_0, by kernel_rfl, gm29_0, fm29_0⟩⟩

/-! ### F98 etalon/meter.within -/
abbrev nt98 : Nat := 15
def sh98 : List (Nat × List Sh) := []
def r98_2 : List AOper := [oO 6 (.mv (.const (.bool false)))]
def r98_4 : List AOper := [oM 7 1, oM 8 0, oO 9 (.bin .leq 3 (.tmp 7) (.tmp 8)), oM 10 9, ⟨(some 11), (.mv (.tmp 0)), (some (10, true))⟩, ⟨(some 12), (.mv (.tmp 2)), (some (10, true))⟩, ⟨(some 13), (.bin .leq 3 (.tmp 11) (.tmp 12)), (some (10, true))⟩, oO 14 (.pick (.tmp 10) (.tmp 13) (.const (.bool false))), oM 6 14]
def tr98 : List (Nat × Tidy) := [(0, ⟨[0, 1, 2], true, [], []⟩), (1, ⟨[6], true, [], []⟩)]
def tl98 : List (Nat × Tidy) := []
def rs98 : List AResV := [.tmp 6]
def pr98_0_0 : PT (List RV) := pRs [pR false [rD dB]]
def ur98_0_0 {β : Type} (g : List RV → β) : Bool → β := pr98_0_0.unc g

def E98_0g  : EnvK := EnvK.of [] noSeq
noncomputable def E98_0 : EnvK := E98_0g 
theorem eo98_0 : E98_0.Ok Try.prog := EnvK.of_ok noSeq_ok trivial

/-- etalon/meter.within -/
abbrev Tf98_0 : Type 1 := (α : Type) → Int → Int → Int → (Bool → Option α) → Option α
def f98_0g  (α : Type) (x1 : Int) (x2 : Int) (x3 : Int) (k1 : Bool → Option α) : Option α :=
 cK (decide (x2 ≤ x1))
 (k1 (decide (x1 ≤ x3)))
 (k1 false)
noncomputable def f98_0 (α : Type) (x1 : Int) (x2 : Int) (x3 : Int) (k1 : Bool → Option α) : Option α := f98_0g  α x1 x2 x3 k1
def pa98_0 : PT (List DV) := pA [pV false [(dI .i64)], pV false [(dI .i64)], pV false [(dI .i64)]]
def Fn98_0 (v : Tf98_0) (α : Type) (k : List RV → Option α) : Int → Int → Int → Option α := fun x1 x2 x3 => v α x1 x2 x3 (fun (y1 : Bool) => ur98_0_0 k y1)
noncomputable def cm98_0g  : MCode := (.seq (.region r98_2 [] (some ⟨[0, 1, 2], true, [], []⟩)) (.seq (.region r98_4 [] (some ⟨[6], true, [], []⟩)) .ret))
noncomputable def cm98_0 : MCode := cm98_0g 
theorem gm98_0 : cm98_0.Good Try.prog E98_0 sh98 := ⟨trivial, ⟨trivial, trivial⟩⟩
theorem fm98_0g   (α : Type) (k : List RV → Option α) : Fn98_0 (f98_0g ) α k = pa98_0.unc fun ds => fnM Try.prog (E98_0g ) sh98 (cm98_0g ) rs98 k ds := by kernel_rfl
theorem fm98_0 : ∀ (α : Type) (k : List RV → Option α), Fn98_0 f98_0 α k = pa98_0.unc fun ds => fnM Try.prog E98_0 sh98 cm98_0 rs98 k ds := fm98_0g 

theorem is98 : FnIs Try.prog 98 nt98 tr98 tl98 cm98_0.erase rs98 := ⟨Try.f98, Try.func98, rfl, by kernel_rfl, by kernel_rfl, by kernel_rfl⟩
theorem io98_0 : InstOk Try.prog 98 nt98 ⟨pa98_0, Fn98_0 f98_0⟩ := inst_ok eo98_0 followsTry is98 ⟨⟨sh98, cm98_0, by kernel_rfl, gm98_0, fm98_0⟩⟩

/-! ### F121 etalon/meter.isName -/
abbrev nt121 : Nat := 54
def sh121 : List (Nat × List Sh) := [(12, [.int .u8]), (13, [.int .u8])]
def r121_2 : List AOper := [oO 2 (.mv (.const (.bool false)))]
def r121_5 : List AOper := [oM 6 0, oO 7 (.bytes (.tmp 6)), oO 8 (.len (.tmp 7)), oO 9 (.mv (.const (.int .i64 0)))]
def td121_7 : Option Tidy := (some ⟨[0, 7, 8, 9], true, [⟨false, 7, 0, 20007, 1⟩], []⟩)
def r121_9 : List AOper := [oO 10 (.bin .lss 3 (.tmp 9) (.tmp 8))]
def r121_15 : List AOper := [oM 11 9, oO 12 (.iaddr 1 none (.tmp 7) (.tmp 9)), oO 13 (.load false 1 (.tmp 12)), oM 3 11, oM 4 13]
def r121_17 : List AOper := [oM 14 4, oO 15 (.bin .geq 5 (.tmp 14) (.const (.int .u8 97))), oM 16 15, ⟨(some 17), (.mv (.tmp 4)), (some (16, true))⟩, ⟨(some 18), (.bin .leq 5 (.tmp 17) (.const (.int .u8 122))), (some (16, true))⟩, oO 19 (.pick (.tmp 16) (.tmp 18) (.const (.bool false))), oM 20 19, ⟨(some 21), (.mv (.tmp 4)), (some (20, false))⟩, ⟨(some 22), (.bin .geq 5 (.tmp 21) (.const (.int .u8 65))), (some (20, false))⟩, ⟨(some 23), (.mv (.tmp 22)), (some (20, false))⟩, ⟨(some 24), (.mv (.tmp 4)), (some (23, true))⟩, ⟨(some 25), (.bin .leq 5 (.tmp 24) (.const (.int .u8 90))), (some (23, true))⟩, ⟨(some 26), (.pick (.tmp 23) (.tmp 25) (.const (.bool false))), (some (20, false))⟩, oO 27 (.pick (.tmp 20) (.const (.bool true)) (.tmp 26)), oM 5 27]
def r121_19 : List AOper := [oM 28 5, oO 29 (.pure (oB (.unOp .not 4 (.tmp 28)) 4)), oM 30 29, ⟨(some 31), (.mv (.tmp 3)), (some (30, true))⟩, ⟨(some 32), (.bin .eql 3 (.tmp 31) (.const (.int .i64 0))), (some (30, true))⟩, ⟨(some 33), (.mv (.tmp 32)), (some (30, true))⟩, ⟨(some 34), (.mv (.tmp 4)), (some (33, false))⟩, ⟨(some 35), (.bin .neq 5 (.tmp 34) (.const (.int .u8 45))), (some (33, false))⟩, ⟨(some 36), (.mv (.tmp 35)), (some (33, false))⟩, ⟨(some 37), (.mv (.tmp 4)), (some (36, true))⟩, ⟨(some 38), (.bin .lss 5 (.tmp 37) (.const (.int .u8 48))), (some (36, true))⟩, ⟨(some 39), (.mv (.tmp 38)), (some (36, true))⟩, ⟨(some 40), (.mv (.tmp 4)), (some (39, false))⟩, ⟨(some 41), (.bin .gtr 5 (.tmp 40) (.const (.int .u8 57))), (some (39, false))⟩, ⟨(some 42), (.pick (.tmp 39) (.const (.bool true)) (.tmp 41)), (some (36, true))⟩, ⟨(some 43), (.pick (.tmp 36) (.tmp 42) (.const (.bool false))), (some (33, false))⟩, ⟨(some 44), (.pick (.tmp 33) (.const (.bool true)) (.tmp 43)), (some (30, true))⟩, oO 45 (.pick (.tmp 30) (.tmp 44) (.const (.bool false)))]
def r121_22 : List AOper := [oO 2 (.mv (.const (.bool false)))]
def r121_23 : List AOper := [oO 46 (.bin .add 3 (.tmp 9) (.const (.int .i64 1))), oM 9 46]
def r121_25 : List AOper := [oM 47 0, ⟨(some 48), (.bin .neq 9 (.tmp 47) (.const (.string ⟨#[]⟩))), none⟩, oM 49 48, ⟨(some 50), (.mv (.tmp 0)), (some (49, true))⟩, ⟨(some 51), (.pure (oB (.call { callee := .builtin .len, args := #[(.tmp 50)], argTypes := #[9] }) 3)), (some (49, true))⟩, ⟨(some 52), (.bin .leq 3 (.tmp 51) (.const (.int .i64 12))), (some (49, true))⟩, oO 53 (.pick (.tmp 49) (.tmp 52) (.const (.bool false))), oM 2 53]
def tr121 : List (Nat × Tidy) := [(0, ⟨[0], true, [], []⟩), (1, ⟨[0, 7, 8, 9], true, [], []⟩), (2, ⟨[0, 7, 8, 9, 10], true, [], []⟩), (3, ⟨[0, 3, 4, 7, 8, 9], true, [], []⟩), (4, ⟨[0, 3, 4, 5, 7, 8, 9], true, [], []⟩), (5, ⟨[0, 7, 8, 9, 45], true, [], []⟩), (6, ⟨[2], true, [], []⟩), (7, ⟨[0, 7, 8, 9], true, [], []⟩), (8, ⟨[2], true, [], []⟩)]
def tl121 : List (Nat × Tidy) := [(2, ⟨[0, 7, 8, 9], true, [⟨false, 7, 0, 20007, 1⟩], []⟩)]
def rs121 : List AResV := [.tmp 2]
def p121_0_0 : PT St := pS [sl 0 (aV false [(cD dS)]), sl 3 (aV false [(cD (dI .i64))]), sl 4 (aV false [(cD (dI .u8))]), sl 7 (aV false [(cRef 20007)]), sl 8 (aV false [(cD (dI .i64))]), sl 9 (aV false [(cD (dI .i64))])] [eOwn 20007 1]
def u121_0_0 {β : Type} (g : St → β) : ByteArray → Int → Int → Int → Int → Rows → β := p121_0_0.unc g

def p121_0_1 : PT St := pS [sl 0 (aV false [(cD dS)]), sl 3 (aV false [(cD (dI .i64))]), sl 4 (aV false [(cD (dI .u8))]), sl 5 (aV false [(cD dB)]), sl 7 (aV false [(cRef 20007)]), sl 8 (aV false [(cD (dI .i64))]), sl 9 (aV false [(cD (dI .i64))])] [eOwn 20007 1]
def u121_0_1 {β : Type} (g : St → β) : ByteArray → Int → Int → Bool → Int → Int → Rows → β := p121_0_1.unc g

def p121_0_2 : PT St := pS [sl 0 (aV false [(cD dS)]), sl 7 (aV false [(cRef 20007)]), sl 8 (aV false [(cD (dI .i64))]), sl 9 (aV false [(cD (dI .i64))]), sl 45 (aV false [(cD dB)])] [eOwn 20007 1]
def u121_0_2 {β : Type} (g : St → β) : ByteArray → Int → Int → Bool → Rows → β := p121_0_2.unc g

def p121_0_3 : PT St := pS [sl 0 (aV false [(cD dS)]), sl 7 (aV false [(cRef 20007)]), sl 8 (aV false [(cD (dI .i64))]), sl 9 (aV false [(cD (dI .i64))])] [eOwn 20007 1]
def u121_0_3 {β : Type} (g : St → β) : ByteArray → Int → Int → Rows → β := p121_0_3.unc g

def p121_0_4 : PT St := pS [sl 2 (aV false [(cD dB)])] []
def u121_0_4 {β : Type} (g : St → β) : Bool → β := p121_0_4.unc g

def p121_0_5 : PT St := pS [sl 0 (aV false [(cD dS)]), sl 7 (aV false [(cRef 20007)]), sl 8 (aV false [(cD (dI .i64))]), sl 9 (aV false [(cD (dI .i64))]), sl 10 (aV false [(cD dB)])] [eOwn 20007 1]
def u121_0_5 {β : Type} (g : St → β) : ByteArray → Int → Int → Bool → Rows → β := p121_0_5.unc g

def pr121_0_0 : PT (List RV) := pRs [pR false [rD dB]]
def ur121_0_0 {β : Type} (g : List RV → β) : Bool → β := pr121_0_0.unc g

def E121_0g  : EnvK := EnvK.of [] noSeq
noncomputable def E121_0 : EnvK := E121_0g 
theorem eo121_0 : E121_0.Ok Try.prog := EnvK.of_ok noSeq_ok trivial

noncomputable def c121_0_18g  : MCode := (.region r121_19 [] (some ⟨[0, 7, 8, 9, 45], true, [], []⟩))
noncomputable def c121_0_18 : MCode := c121_0_18g 
theorem g121_0_18 : c121_0_18.Good Try.prog E121_0 sh121 := trivial
--CODE 18 0
abbrev TJ121_0_1 : Type 1 := (α : Type) → Int → Int → Bool → (Bool → Option α) → Option α
def J121_0_1g  (α : Type) (x18 : Int) (x19 : Int) (x20 : Bool) (k1 : Bool → Option α) : Option α :=
 cK (!x20)
 (cK (x18 == 0)
 (k1 true)
 (cK (x19 != 45)
 (cK (decide (x19 < 48))
 (k1 true)
 (k1 (decide (57 < x19))))
 (k1 false)))
 (k1 false)
noncomputable def J121_0_1 (α : Type) (x18 : Int) (x19 : Int) (x20 : Bool) (k1 : Bool → Option α) : Option α := J121_0_1g  α x18 x19 x20 k1
def F121_0_1 (v : TJ121_0_1) (α : Type) (K : Exit → St → Option α) : ByteArray → Int → Int → Bool → Int → Int → Rows → Option α := fun x17 x18 x19 x20 x21 x22 x23 => v α x18 x19 x20 (fun (y1 : Bool) => u121_0_2 (K .normal) x17 x21 x22 y1 x23) 
theorem m121_0_1g   (α : Type) (K : Exit → St → Option α) : F121_0_1 (J121_0_1g ) α K = p121_0_1.unc fun σ => runM Try.prog (E121_0g ) sh121 (c121_0_18g ) K σ := by kernel_rfl
theorem m121_0_1 : ∀ (α : Type) (K : Exit → St → Option α), F121_0_1 J121_0_1 α K = p121_0_1.unc fun σ => runM Try.prog E121_0 sh121 c121_0_18 K σ := m121_0_1g 

noncomputable def c121_0_16g  : MCode := (.region r121_17 [] (some ⟨[0, 3, 4, 5, 7, 8, 9], true, [], []⟩))
noncomputable def c121_0_16 : MCode := c121_0_16g 
theorem g121_0_16 : c121_0_16.Good Try.prog E121_0 sh121 := trivial
--CODE 16 0
abbrev TJ121_0_0 : Type 1 := (α : Type) → Int → (Bool → Option α) → Option α
def J121_0_0g  (α : Type) (x10 : Int) (k1 : Bool → Option α) : Option α :=
 cK (decide (97 ≤ x10))
 (cK (decide (x10 ≤ 122))
 (k1 true)
 (cK (decide (65 ≤ x10))
 (k1 (decide (x10 ≤ 90)))
 (k1 false)))
 (cK (decide (65 ≤ x10))
 (k1 (decide (x10 ≤ 90)))
 (k1 false))
noncomputable def J121_0_0 (α : Type) (x10 : Int) (k1 : Bool → Option α) : Option α := J121_0_0g  α x10 k1
def F121_0_0 (v : TJ121_0_0) (α : Type) (K : Exit → St → Option α) : ByteArray → Int → Int → Int → Int → Rows → Option α := fun x8 x9 x10 x11 x12 x13 => v α x10 (fun (y1 : Bool) => u121_0_1 (K .normal) x8 x9 x10 y1 x11 x12 x13) 
theorem m121_0_0g   (α : Type) (K : Exit → St → Option α) : F121_0_0 (J121_0_0g ) α K = p121_0_0.unc fun σ => runM Try.prog (E121_0g ) sh121 (c121_0_16g ) K σ := by kernel_rfl
theorem m121_0_0 : ∀ (α : Type) (K : Exit → St → Option α), F121_0_0 J121_0_0 α K = p121_0_0.unc fun σ => runM Try.prog E121_0 sh121 c121_0_16 K σ := m121_0_0g 

noncomputable def c121_0_7g (vJ121_0_0 : TJ121_0_0) (vJ121_0_1 : TJ121_0_1) : MCode := (.seq (.region r121_9 [] (some ⟨[0, 7, 8, 9, 10], true, [], []⟩)) (.seq (.cond (.tmp 10) .skip (.exit 0)) (.seq (.block 1 (.seq (.region r121_15 [] (some ⟨[0, 3, 4, 7, 8, 9], true, [], []⟩)) (.seq (.mark [⟨p121_0_0, F121_0_0 vJ121_0_0⟩] c121_0_16) (.seq (.mark [⟨p121_0_1, F121_0_1 vJ121_0_1⟩] c121_0_18) (.cond (.tmp 45) (.seq (.region r121_22 [] (some ⟨[2], true, [], []⟩)) .ret) .skip))))) (.region r121_23 [] (some ⟨[0, 7, 8, 9], true, [], []⟩)))))
noncomputable def c121_0_7 : MCode := c121_0_7g J121_0_0 J121_0_1
theorem g121_0_7 : c121_0_7.Good Try.prog E121_0 sh121 := ⟨trivial, ⟨⟨trivial, trivial⟩, ⟨⟨trivial, ⟨⟨g121_0_16, m121_0_0, trivial⟩, ⟨⟨g121_0_18, m121_0_1, trivial⟩, ⟨⟨trivial, trivial⟩, trivial⟩⟩⟩⟩, trivial⟩⟩⟩
--CODE 7 0
def S121_0_2g (vJ121_0_0 : TJ121_0_0) (vJ121_0_1 : TJ121_0_1) (α : Type) (x3 : Int) (x5 : Rows) (x4 : Int) (kn : Int → Option α) (k1 : Option α) (k2 : Int → Bool → Option α) : Option α :=
 cK (decide (x4 < x3))
 (ixK x5 x4 1
 (ldK x5 (Int.toNat x4) 0 [.int .u8]
 (fun (x7 : Int) => vJ121_0_0 α x7
 (fun (x15 : Bool) => vJ121_0_1 α x4 x7 x15
 (fun (x25 : Bool) => cK x25
 (k1)
 (kn (w64 (x4 + 1))))))))
 (k2 x4 (decide (x4 < x3)))
noncomputable def S121_0_2 (α : Type) (x3 : Int) (x5 : Rows) (x4 : Int) (kn : Int → Option α) (k1 : Option α) (k2 : Int → Bool → Option α) : Option α := S121_0_2g J121_0_0 J121_0_1 α x3 x5 x4 kn k1 k2
noncomputable def R121_0_2 (α : Type) (x3 : Int) (x5 : Rows) (k1 : Option α) (k2 : Int → Bool → Option α) : Nat → Int → Option α
 | 0, _ => none
 | n + 1, x4 => S121_0_2 α x3 x5 x4 (R121_0_2 α x3 x5 k1 k2 n) k1 k2
noncomputable def L121_0_2 (α : Type) (x3 : Int) (x5 : Rows) (k1 : Option α) (k2 : Int → Bool → Option α) (x4 : Int) : Option α := R121_0_2 α x3 x5 k1 k2 fuel x4
abbrev TL121_0_2 : Type 1 := (α : Type) → Int → Rows → (Option α) → (Int → Bool → Option α) → Int → Option α
def F121_0_2 (v : TL121_0_2) (α : Type) (K : Exit → St → Option α) : ByteArray → Int → Int → Rows → Option α := fun x2 x3 x4 x5 => v α x3 x5 (u121_0_4 (K .ret) false) (fun (y1 : Int) (y2 : Bool) => u121_0_5 (K (.exit 0)) x2 x3 y1 y2 x5) x4
theorem r121_0_2g  (vJ121_0_0 : TJ121_0_0) (vJ121_0_1 : TJ121_0_1) (α : Type) (K : Exit → St → Option α) (Kn : St → Option α) (x2 : ByteArray) (x3 : Int) (x4 : Int) (x5 : Rows) : u121_0_3 (fun σ => runM Try.prog (E121_0g ) sh121 (c121_0_7g vJ121_0_0 vJ121_0_1) (thenK (fun σ => tidyK td121_7 σ Kn) K) σ) x2 x3 x4 x5 = S121_0_2g vJ121_0_0 vJ121_0_1 α x3 x5 x4 (fun x4 => u121_0_3 Kn x2 x3 x4 x5) (u121_0_4 (K .ret) false) (fun (y1 : Int) (y2 : Bool) => u121_0_5 (K (.exit 0)) x2 x3 y1 y2 x5) := by kernel_rfl
theorem r121_0_2 (α : Type) (K : Exit → St → Option α) (Kn : St → Option α) (x2 : ByteArray) (x3 : Int) (x4 : Int) (x5 : Rows) : u121_0_3 (fun σ => runM Try.prog E121_0 sh121 c121_0_7 (thenK (fun σ => tidyK td121_7 σ Kn) K) σ) x2 x3 x4 x5 = S121_0_2 α x3 x5 x4 (fun x4 => u121_0_3 Kn x2 x3 x4 x5) (u121_0_4 (K .ret) false) (fun (y1 : Int) (y2 : Bool) => u121_0_5 (K (.exit 0)) x2 x3 y1 y2 x5) := r121_0_2g J121_0_0 J121_0_1 α K Kn x2 x3 x4 x5
theorem t121_0_2 (α : Type) (K : Exit → St → Option α) : ∀ (n : Nat) (x2 : ByteArray) (x3 : Int) (x4 : Int) (x5 : Rows), R121_0_2 α x3 x5 (u121_0_4 (K .ret) false) (fun (y1 : Int) (y2 : Bool) => u121_0_5 (K (.exit 0)) x2 x3 y1 y2 x5) n x4 = u121_0_3 (loopT (runM Try.prog E121_0 sh121 c121_0_7) td121_7 K n) x2 x3 x4 x5 := by
 intro n
 induction n with
 | zero => intros; rfl
 | succ n ih => intro x2 x3 x4 x5; exact (congrArg (fun kn => S121_0_2 α x3 x5 x4 kn (u121_0_4 (K .ret) false) (fun (y1 : Int) (y2 : Bool) => u121_0_5 (K (.exit 0)) x2 x3 y1 y2 x5)) (funext fun x4 => ih x2 x3 x4 x5)).trans (r121_0_2 α K (loopT (runM Try.prog E121_0 sh121 c121_0_7) td121_7 K n) x2 x3 x4 x5).symm
theorem m121_0_2 : ∀ (α : Type) (K : Exit → St → Option α), F121_0_2 L121_0_2 α K = p121_0_3.unc fun σ => loopT (runM Try.prog E121_0 sh121 c121_0_7) td121_7 K fuel σ := fun α K => funext fun x2 => funext fun x3 => funext fun x4 => funext fun x5 => t121_0_2 α K fuel x2 x3 x4 x5

/-- etalon/meter.isName -/
abbrev Tf121_0 : Type 1 := (α : Type) → ByteArray → (Bool → Option α) → Option α
def f121_0g (vL121_0_2 : TL121_0_2) (α : Type) (x1 : ByteArray) (k1 : Bool → Option α) : Option α :=
 gK (decide (ByteArray.size x1 ≤ 9223372036854775807)) (vL121_0_2 α ((List.length (bytesR x1) : Nat) : Int) (bytesR x1)
 (k1 false)
 (fun (x27 : Int) (x28 : Bool) => cK (!(x1.toList == (⟨#[]⟩ : ByteArray).toList))
 (k1 (decide (((ByteArray.size x1 : Nat) : Int) ≤ 12)))
 (k1 false)) 0)
noncomputable def f121_0 (α : Type) (x1 : ByteArray) (k1 : Bool → Option α) : Option α := f121_0g L121_0_2 α x1 k1
def pa121_0 : PT (List DV) := pA [pV false [dS]]
def Fn121_0 (v : Tf121_0) (α : Type) (k : List RV → Option α) : ByteArray → Option α := fun x1 => v α x1 (fun (y1 : Bool) => ur121_0_0 k y1)
noncomputable def cm121_0g (vL121_0_2 : TL121_0_2) : MCode := (.seq (.region r121_2 [] (some ⟨[0], true, [], []⟩)) (.seq (.seq (.region r121_5 [] (some ⟨[0, 7, 8, 9], true, [], []⟩)) (.block 0 (.loop td121_7 [⟨p121_0_3, F121_0_2 vL121_0_2⟩] c121_0_7))) (.seq (.region r121_25 [] (some ⟨[2], true, [], []⟩)) .ret)))
noncomputable def cm121_0 : MCode := cm121_0g L121_0_2
theorem gm121_0 : cm121_0.Good Try.prog E121_0 sh121 := ⟨trivial, ⟨⟨trivial, ⟨g121_0_7, m121_0_2, trivial⟩⟩, ⟨trivial, trivial⟩⟩⟩
theorem fm121_0g  (vL121_0_2 : TL121_0_2) (α : Type) (k : List RV → Option α) : Fn121_0 (f121_0g vL121_0_2) α k = pa121_0.unc fun ds => fnM Try.prog (E121_0g ) sh121 (cm121_0g vL121_0_2) rs121 k ds := by kernel_rfl
theorem fm121_0 : ∀ (α : Type) (k : List RV → Option α), Fn121_0 f121_0 α k = pa121_0.unc fun ds => fnM Try.prog E121_0 sh121 cm121_0 rs121 k ds := fm121_0g L121_0_2

theorem is121 : FnIs Try.prog 121 nt121 tr121 tl121 cm121_0.erase rs121 := ⟨Try.f121, Try.func121, rfl, by kernel_rfl, by kernel_rfl, by kernel_rfl⟩
theorem io121_0 : InstOk Try.prog 121 nt121 ⟨pa121_0, Fn121_0 f121_0⟩ := inst_ok eo121_0 followsTry is121 ⟨⟨sh121, cm121_0, by kernel_rfl, gm121_0, fm121_0⟩⟩

/-! ### F153 etalon/etalonref01.isPart -/
abbrev nt153 : Nat := 5
def sh153 : List (Nat × List Sh) := []
def r153_2 : List AOper := [oO 2 (.mv (.const (.bool false)))]
def r153_4 : List AOper := [oM 3 0, oO 4 (.call 29 [(.tmp 3), (.const (.int .i64 (-67108864))), (.const (.int .i64 67108864))]), oM 2 4]
def tr153 : List (Nat × Tidy) := [(0, ⟨[0], true, [], []⟩), (1, ⟨[2], true, [], []⟩)]
def tl153 : List (Nat × Tidy) := []
def rs153 : List AResV := [.tmp 2]
def pr153_0_0 : PT (List RV) := pRs [pR false [rD dB]]
def ur153_0_0 {β : Type} (g : List RV → β) : Bool → β := pr153_0_0.unc g

def E153_0g (vf29_0 : Tf29_0) : EnvK := EnvK.of [⟨29, nt29, [⟨pa29_0, Fn29_0 vf29_0⟩]⟩] noSeq
noncomputable def E153_0 : EnvK := E153_0g f29_0
theorem eo153_0 : E153_0.Ok Try.prog := EnvK.of_ok noSeq_ok ⟨⟨io29_0, trivial⟩, trivial⟩

/-- etalon/etalonref01.isPart -/
abbrev Tf153_0 : Type 1 := (α : Type) → Int → (Bool → Option α) → Option α
def f153_0g (vf29_0 : Tf29_0) (α : Type) (x1 : Int) (k1 : Bool → Option α) : Option α :=
 vf29_0 α x1 (-67108864) 67108864
 (fun (x2 : Bool) => k1 x2)
noncomputable def f153_0 (α : Type) (x1 : Int) (k1 : Bool → Option α) : Option α := f153_0g f29_0 α x1 k1
def pa153_0 : PT (List DV) := pA [pV false [(dI .i64)]]
def Fn153_0 (v : Tf153_0) (α : Type) (k : List RV → Option α) : Int → Option α := fun x1 => v α x1 (fun (y1 : Bool) => ur153_0_0 k y1)
noncomputable def cm153_0g  : MCode := (.seq (.region r153_2 [] (some ⟨[0], true, [], []⟩)) (.seq (.region r153_4 [] (some ⟨[2], true, [], []⟩)) .ret))
noncomputable def cm153_0 : MCode := cm153_0g 
theorem gm153_0 : cm153_0.Good Try.prog E153_0 sh153 := ⟨trivial, ⟨trivial, trivial⟩⟩
theorem fm153_0g (vf29_0 : Tf29_0)  (α : Type) (k : List RV → Option α) : Fn153_0 (f153_0g vf29_0) α k = pa153_0.unc fun ds => fnM Try.prog (E153_0g vf29_0) sh153 (cm153_0g ) rs153 k ds := by kernel_rfl
theorem fm153_0 : ∀ (α : Type) (k : List RV → Option α), Fn153_0 f153_0 α k = pa153_0.unc fun ds => fnM Try.prog E153_0 sh153 cm153_0 rs153 k ds := fm153_0g f29_0

theorem is153 : FnIs Try.prog 153 nt153 tr153 tl153 cm153_0.erase rs153 := ⟨Try.f153, Try.func153, rfl, by kernel_rfl, by kernel_rfl, by kernel_rfl⟩
theorem io153_0 : InstOk Try.prog 153 nt153 ⟨pa153_0, Fn153_0 f153_0⟩ := inst_ok eo153_0 followsTry is153 ⟨⟨sh153, cm153_0, by kernel_rfl, gm153_0, fm153_0⟩⟩

/-! ### F144 etalon/etalonref01.rounded -/
abbrev nt144 : Nat := 26
def sh144 : List (Nat × List Sh) := []
def r144_2 : List AOper := [oO 4 (.mv (.const (.int .i64 0))), oO 5 (.mv (.const (.bool false)))]
def r144_4 : List AOper := [oM 8 0, oM 9 1, oO 10 (.call 99 [(.tmp 8), (.tmp 9)]), oM 6 10]
def r144_6 : List AOper := [oM 11 0, oM 12 6, oM 13 1, oO 14 (.bin .mul 3 (.tmp 12) (.tmp 13)), oO 15 (.bin .sub 3 (.tmp 11) (.tmp 14)), oM 7 15]
def r144_9 : List AOper := [oM 16 7, oM 17 1, oM 18 7, oO 19 (.bin .sub 3 (.tmp 17) (.tmp 18)), oO 20 (.bin .geq 3 (.tmp 16) (.tmp 19))]
def r144_12 : List AOper := [oM 21 6, oO 22 (.bin .add 3 (.tmp 21) (.const (.int .i64 1))), oM 4 22, oO 5 (.mv (.const (.bool true)))]
def r144_14 : List AOper := [oM 23 6, oM 24 7, oO 25 (.bin .neq 3 (.tmp 24) (.const (.int .i64 0))), oM 4 23, oM 5 25]
def tr144 : List (Nat × Tidy) := [(0, ⟨[0, 1], true, [], []⟩), (1, ⟨[0, 1, 6], true, [], []⟩), (2, ⟨[1, 6, 7], true, [], []⟩), (3, ⟨[6, 7, 20], true, [], []⟩), (4, ⟨[4, 5], true, [], []⟩), (5, ⟨[4, 5], true, [], []⟩)]
def tl144 : List (Nat × Tidy) := []
def rs144 : List AResV := [.tmp 4, .tmp 5]
def pr144_0_0 : PT (List RV) := pRs [pR false [rD (dI .i64)], pR false [rD dB]]
def ur144_0_0 {β : Type} (g : List RV → β) : Int → Bool → β := pr144_0_0.unc g

def E144_0g (vf99_0 : Tf99_0) : EnvK := EnvK.of [⟨99, nt99, [⟨pa99_0, Fn99_0 vf99_0⟩]⟩] noSeq
noncomputable def E144_0 : EnvK := E144_0g f99_0
theorem eo144_0 : E144_0.Ok Try.prog := EnvK.of_ok noSeq_ok ⟨⟨io99_0, trivial⟩, trivial⟩

/-- etalon/etalonref01.rounded -/
abbrev Tf144_0 : Type 1 := (α : Type) → Int → Int → (Int → Bool → Option α) → Option α
def f144_0g (vf99_0 : Tf99_0) (α : Type) (x1 : Int) (x2 : Int) (k1 : Int → Bool → Option α) : Option α :=
 vf99_0 α x1 x2
 (fun (x3 : Int) => cK (decide ((w64 (x2 - (w64 (x1 - (w64 (x3 * x2)))))) ≤ (w64 (x1 - (w64 (x3 * x2))))))
 (k1 (w64 (x3 + 1)) true)
 (k1 x3 ((w64 (x1 - (w64 (x3 * x2)))) != 0)))
noncomputable def f144_0 (α : Type) (x1 : Int) (x2 : Int) (k1 : Int → Bool → Option α) : Option α := f144_0g f99_0 α x1 x2 k1
def pa144_0 : PT (List DV) := pA [pV false [(dI .i64)], pV false [(dI .i64)]]
def Fn144_0 (v : Tf144_0) (α : Type) (k : List RV → Option α) : Int → Int → Option α := fun x1 x2 => v α x1 x2 (fun (y1 : Int) (y2 : Bool) => ur144_0_0 k y1 y2)
noncomputable def cm144_0g  : MCode := (.seq (.region r144_2 [] (some ⟨[0, 1], true, [], []⟩)) (.seq (.region r144_4 [] (some ⟨[0, 1, 6], true, [], []⟩)) (.seq (.region r144_6 [] (some ⟨[1, 6, 7], true, [], []⟩)) (.seq (.seq (.region r144_9 [] (some ⟨[6, 7, 20], true, [], []⟩)) (.cond (.tmp 20) (.seq (.region r144_12 [] (some ⟨[4, 5], true, [], []⟩)) .ret) .skip)) (.seq (.region r144_14 [] (some ⟨[4, 5], true, [], []⟩)) .ret)))))
noncomputable def cm144_0 : MCode := cm144_0g 
theorem gm144_0 : cm144_0.Good Try.prog E144_0 sh144 := ⟨trivial, ⟨trivial, ⟨trivial, ⟨⟨trivial, ⟨⟨trivial, trivial⟩, trivial⟩⟩, ⟨trivial, trivial⟩⟩⟩⟩⟩
theorem fm144_0g (vf99_0 : Tf99_0)  (α : Type) (k : List RV → Option α) : Fn144_0 (f144_0g vf99_0) α k = pa144_0.unc fun ds => fnM Try.prog (E144_0g vf99_0) sh144 (cm144_0g ) rs144 k ds := by kernel_rfl
theorem fm144_0 : ∀ (α : Type) (k : List RV → Option α), Fn144_0 f144_0 α k = pa144_0.unc fun ds => fnM Try.prog E144_0 sh144 cm144_0 rs144 k ds := fm144_0g f99_0

theorem is144 : FnIs Try.prog 144 nt144 tr144 tl144 cm144_0.erase rs144 := ⟨Try.f144, Try.func144, rfl, by kernel_rfl, by kernel_rfl, by kernel_rfl⟩
theorem io144_0 : InstOk Try.prog 144 nt144 ⟨pa144_0, Fn144_0 f144_0⟩ := inst_ok eo144_0 followsTry is144 ⟨⟨sh144, cm144_0, by kernel_rfl, gm144_0, fm144_0⟩⟩

/-! ### F143 etalon/etalonref01.Direction -/
abbrev nt143 : Nat := 105
def sh143 : List (Nat × List Sh) := [(24, [.int .i64]), (27, [.int .i64]), (36, [.int .i64]), (39, [.int .i64]), (47, [.int .i64]), (49, [.int .i64]), (58, [.int .i64, .int .i64]), (67, [.int .i64]), (69, [.int .i64]), (72, [.int .i64]), (74, [.int .i64]), (96, [.int .i64, .int .i64]), (101, [.int .i64, .int .i64]), (103, [.int .i64, .int .i64]), (104, [.int .i64, .int .i64])]
def r143_2 : List AOper := [oO 2 (.alloc [(.d (.v (.int .i64 0))), (.d (.v (.int .i64 0)))])]
def r143_4 : List AOper := [oM 16 0, oO 17 (.call 31 [(.tmp 16), (.const (.int .i64 4194304))]), oM 0 17]
def r143_7 : List AOper := [oM 18 0, oO 19 (.bin .geq 3 (.tmp 18) (.const (.int .i64 2097152)))]
def r143_10 : List AOper := [oM 20 0, oO 21 (.bin .sub 3 (.tmp 20) (.const (.int .i64 2097152))), oO 22 (.call 143 [(.tmp 21)]), oO 3 (.alloc [(.d (.v (.int .i64 0))), (.d (.v (.int .i64 0)))]), ⟨none, (.store 2 (.tmp 3) (.tmp 22)), none⟩]
def r143_12 : List AOper := [oO 23 (.iaddr 1 (some 2) (.tmp 3) (.const (.int .i64 0))), oO 24 (.load false 1 (.tmp 23)), oO 25 (.pure (oB (.unOp .neg 3 (.tmp 24)) 3)), oO 26 (.iaddr 1 (some 2) (.tmp 3) (.const (.int .i64 1))), oO 27 (.load false 1 (.tmp 26)), oO 28 (.pure (oB (.unOp .neg 3 (.tmp 27)) 3)), oO 29 (.build [(.d (.v (.int .i64 0))), (.d (.v (.int .i64 0)))] [(0, 1, (.tmp 25)), (1, 1, (.tmp 28))]), ⟨none, (.store 2 (.tmp 2) (.tmp 29)), none⟩]
def r143_15 : List AOper := [oM 30 0, oO 31 (.bin .geq 3 (.tmp 30) (.const (.int .i64 1048576)))]
def r143_18 : List AOper := [oM 32 0, oO 33 (.bin .sub 3 (.tmp 32) (.const (.int .i64 1048576))), oO 34 (.call 143 [(.tmp 33)]), oO 4 (.alloc [(.d (.v (.int .i64 0))), (.d (.v (.int .i64 0)))]), ⟨none, (.store 2 (.tmp 4) (.tmp 34)), none⟩]
def r143_20 : List AOper := [oO 35 (.iaddr 1 (some 2) (.tmp 4) (.const (.int .i64 1))), oO 36 (.load false 1 (.tmp 35)), oO 37 (.pure (oB (.unOp .neg 3 (.tmp 36)) 3)), oO 38 (.iaddr 1 (some 2) (.tmp 4) (.const (.int .i64 0))), oO 39 (.load false 1 (.tmp 38)), oO 40 (.build [(.d (.v (.int .i64 0))), (.d (.v (.int .i64 0)))] [(0, 1, (.tmp 37)), (1, 1, (.tmp 39))]), ⟨none, (.store 2 (.tmp 2) (.tmp 40)), none⟩]
def r143_23 : List AOper := [oM 41 0, oO 42 (.bin .gtr 3 (.tmp 41) (.const (.int .i64 524288)))]
def r143_26 : List AOper := [oM 43 0, oO 44 (.bin .sub 3 (.const (.int .i64 1048576)) (.tmp 43)), oO 45 (.call 143 [(.tmp 44)]), oO 5 (.alloc [(.d (.v (.int .i64 0))), (.d (.v (.int .i64 0)))]), ⟨none, (.store 2 (.tmp 5) (.tmp 45)), none⟩]
def r143_28 : List AOper := [oO 46 (.iaddr 1 (some 2) (.tmp 5) (.const (.int .i64 1))), oO 47 (.load false 1 (.tmp 46)), oO 48 (.iaddr 1 (some 2) (.tmp 5) (.const (.int .i64 0))), oO 49 (.load false 1 (.tmp 48)), oO 50 (.build [(.d (.v (.int .i64 0))), (.d (.v (.int .i64 0)))] [(0, 1, (.tmp 47)), (1, 1, (.tmp 49))]), ⟨none, (.store 2 (.tmp 2) (.tmp 50)), none⟩]
def r143_30 : List AOper := [oO 51 (.call 152 [(.const (.int .i64 2251799813685248))]), oM 6 51]
def r143_32 : List AOper := [oO 7 (.mv (.const (.int .i64 0))), oO 8 (.mv (.const (.int .i64 524288)))]
def r143_34 : List AOper := [oO 52 (.build [(.d (.v (.int .i64 0))), (.d (.v (.int .i64 0)))] [(0, 1, (.const (.int .i64 67108864))), (1, 1, (.const (.int .i64 0)))]), oM 53 6, oM 54 6, oO 55 (.build [(.d (.v (.int .i64 0))), (.d (.v (.int .i64 0)))] [(0, 1, (.tmp 53)), (1, 1, (.tmp 54))]), oO 9 (.alloc [(.d (.v (.int .i64 0))), (.d (.v (.int .i64 0)))]), oO 10 (.alloc [(.d (.v (.int .i64 0))), (.d (.v (.int .i64 0)))]), ⟨none, (.store 2 (.tmp 9) (.tmp 52)), none⟩, ⟨none, (.store 2 (.tmp 10) (.tmp 55)), none⟩]
def r143_37 : List AOper := [oM 56 0, oO 57 (.bin .eql 3 (.tmp 56) (.const (.int .i64 0)))]
def r143_40 : List AOper := [oO 58 (.load true 2 (.tmp 9)), ⟨none, (.store 2 (.tmp 2) (.tmp 58)), none⟩]
def td143_43 : Option Tidy := (some ⟨[0, 2, 7, 8, 9, 10], true, [], []⟩)
def r143_46 : List AOper := [oM 59 0, oM 60 8, oO 61 (.bin .neq 3 (.tmp 59) (.tmp 60))]
def r143_50 : List AOper := [oM 62 7, oM 63 8, oO 64 (.bin .add 3 (.tmp 62) (.tmp 63)), oO 65 (.bin .quo 3 (.tmp 64) (.const (.int .i64 2))), oM 11 65]
def r143_52 : List AOper := [oO 66 (.iaddr 1 (some 2) (.tmp 9) (.const (.int .i64 0))), oO 67 (.load false 1 (.tmp 66)), oO 68 (.iaddr 1 (some 2) (.tmp 10) (.const (.int .i64 0))), oO 69 (.load false 1 (.tmp 68)), oO 70 (.bin .add 3 (.tmp 67) (.tmp 69)), oO 71 (.iaddr 1 (some 2) (.tmp 9) (.const (.int .i64 1))), oO 72 (.load false 1 (.tmp 71)), oO 73 (.iaddr 1 (some 2) (.tmp 10) (.const (.int .i64 1))), oO 74 (.load false 1 (.tmp 73)), oO 75 (.bin .add 3 (.tmp 72) (.tmp 74)), oM 12 70, oM 13 75]
def r143_54 : List AOper := [oM 76 12, oM 77 12, oO 78 (.bin .mul 3 (.tmp 76) (.tmp 77)), oM 79 13, oM 80 13, oO 81 (.bin .mul 3 (.tmp 79) (.tmp 80)), oO 82 (.bin .add 3 (.tmp 78) (.tmp 81)), oO 83 (.call 152 [(.tmp 82)]), oM 14 83]
def r143_56 : List AOper := [oM 84 12, oO 85 (.bin .mul 3 (.tmp 84) (.const (.int .i64 67108864))), oM 86 14, oO 87 (.bin .quo 3 (.tmp 85) (.tmp 86)), oM 88 13, oO 89 (.bin .mul 3 (.tmp 88) (.const (.int .i64 67108864))), oM 90 14, oO 91 (.bin .quo 3 (.tmp 89) (.tmp 90)), oO 92 (.build [(.d (.v (.int .i64 0))), (.d (.v (.int .i64 0)))] [(0, 1, (.tmp 87)), (1, 1, (.tmp 91))]), oO 15 (.alloc [(.d (.v (.int .i64 0))), (.d (.v (.int .i64 0)))]), ⟨none, (.store 2 (.tmp 15) (.tmp 92)), none⟩]
def r143_59 : List AOper := [oM 93 11, oM 94 0, oO 95 (.bin .eql 3 (.tmp 93) (.tmp 94))]
def r143_62 : List AOper := [oO 96 (.load true 2 (.tmp 15)), ⟨none, (.store 2 (.tmp 2) (.tmp 96)), none⟩]
def r143_64 : List AOper := [oM 97 0, oM 98 11, oO 99 (.bin .gtr 3 (.tmp 97) (.tmp 98))]
def r143_66 : List AOper := [oM 100 11, oO 101 (.load true 2 (.tmp 15)), oM 7 100, ⟨none, (.store 2 (.tmp 9) (.tmp 101)), none⟩]
def r143_67 : List AOper := [oM 102 11, oO 103 (.load true 2 (.tmp 15)), oM 8 102, ⟨none, (.store 2 (.tmp 10) (.tmp 103)), none⟩]
def r143_69 : List AOper := [oO 104 (.load true 2 (.tmp 10)), ⟨none, (.store 2 (.tmp 2) (.tmp 104)), none⟩]
def tr143 : List (Nat × Tidy) := [(0, ⟨[0, 2], true, [], []⟩), (1, ⟨[0, 2], true, [], []⟩), (2, ⟨[0, 2, 19], true, [], []⟩), (3, ⟨[2, 3], true, [], []⟩), (4, ⟨[2], true, [], []⟩), (5, ⟨[0, 2, 31], true, [], []⟩), (6, ⟨[2, 4], true, [], []⟩), (7, ⟨[2], true, [], []⟩), (8, ⟨[0, 2, 42], true, [], []⟩), (9, ⟨[2, 5], true, [], []⟩), (10, ⟨[2], true, [], []⟩), (11, ⟨[0, 2, 6], true, [], []⟩), (12, ⟨[0, 2, 6, 7, 8], true, [], []⟩), (13, ⟨[0, 2, 7, 8, 9, 10], true, [], []⟩), (14, ⟨[0, 2, 7, 8, 9, 10, 57], true, [], []⟩), (15, ⟨[2], true, [], []⟩), (16, ⟨[0, 2, 7, 8, 9, 10, 61], true, [], []⟩), (17, ⟨[0, 2, 7, 8, 9, 10, 11], true, [], []⟩), (18, ⟨[0, 2, 7, 8, 9, 10, 11, 12, 13], true, [], []⟩), (19, ⟨[0, 2, 7, 8, 9, 10, 11, 12, 13, 14], true, [], []⟩), (20, ⟨[0, 2, 7, 8, 9, 10, 11, 15], true, [], []⟩), (21, ⟨[0, 2, 7, 8, 9, 10, 11, 15, 95], true, [], []⟩), (22, ⟨[2], true, [], []⟩), (23, ⟨[0, 2, 7, 8, 9, 10, 11, 15, 99], true, [], []⟩), (24, ⟨[0, 2, 7, 8, 9, 10], true, [], []⟩), (25, ⟨[0, 2, 7, 8, 9, 10], true, [], []⟩), (26, ⟨[2], true, [], []⟩)]
def tl143 : List (Nat × Tidy) := [(16, ⟨[0, 2, 7, 8, 9, 10], true, [], []⟩)]
def rs143 : List AResV := [.cell 2 true 2]
def p143_2_0 : PT St := pS [sl 0 (aV false [(cD (dI .i64))]), sl 2 (aV false [(cPtr 2 0)]), sl 7 (aV false [(cD (dI .i64))]), sl 8 (aV false [(cD (dI .i64))]), sl 9 (aV false [(cPtr 9 0)]), sl 10 (aV false [(cPtr 10 0)])] [eBox 2 [(cD (dI .i64)), (cD (dI .i64))], eBox 9 [(cD (dI .i64)), (cD (dI .i64))], eBox 10 [(cD (dI .i64)), (cD (dI .i64))]]
def u143_2_0 {β : Type} (g : St → β) : Int → Int → Int → Int → Int → Int → Int → Int → Int → β := p143_2_0.unc g

def p143_2_1 : PT St := pS [sl 2 (aV false [(cPtr 2 0)])] [eBox 2 [(cD (dI .i64)), (cD (dI .i64))]]
def u143_2_1 {β : Type} (g : St → β) : Int → Int → β := p143_2_1.unc g

def p143_2_2 : PT St := pS [sl 0 (aV false [(cD (dI .i64))]), sl 2 (aV false [(cPtr 2 0)]), sl 7 (aV false [(cD (dI .i64))]), sl 8 (aV false [(cD (dI .i64))]), sl 9 (aV false [(cPtr 9 0)]), sl 10 (aV false [(cPtr 10 0)]), sl 61 (aV false [(cD dB)])] [eBox 2 [(cD (dI .i64)), (cD (dI .i64))], eBox 9 [(cD (dI .i64)), (cD (dI .i64))], eBox 10 [(cD (dI .i64)), (cD (dI .i64))]]
def u143_2_2 {β : Type} (g : St → β) : Int → Int → Int → Bool → Int → Int → Int → Int → Int → Int → β := p143_2_2.unc g

def pr143_2_0 : PT (List RV) := pRs [pR true [rD (dI .i64), rD (dI .i64)]]
def ur143_2_0 {β : Type} (g : List RV → β) : Int → Int → β := pr143_2_0.unc g

def E143_2g (vf31_0 : Tf31_0) (vf152_0 : Tf152_0) : EnvK := EnvK.of [⟨31, nt31, [⟨pa31_0, Fn31_0 vf31_0⟩]⟩, ⟨152, nt152, [⟨pa152_0, Fn152_0 vf152_0⟩]⟩] noSeq
noncomputable def E143_2 : EnvK := E143_2g f31_0 f152_0
theorem eo143_2 : E143_2.Ok Try.prog := EnvK.of_ok noSeq_ok ⟨⟨io31_0, trivial⟩, ⟨io152_0, trivial⟩, trivial⟩

noncomputable def c143_2_43g  : MCode := (.seq (.seq (.region r143_46 [] (some ⟨[0, 2, 7, 8, 9, 10, 61], true, [], []⟩)) (.cond (.tmp 61) .skip (.exit 0))) (.block 1 (.seq (.region r143_50 [] (some ⟨[0, 2, 7, 8, 9, 10, 11], true, [], []⟩)) (.seq (.region r143_52 [] (some ⟨[0, 2, 7, 8, 9, 10, 11, 12, 13], true, [], []⟩)) (.seq (.region r143_54 [] (some ⟨[0, 2, 7, 8, 9, 10, 11, 12, 13, 14], true, [], []⟩)) (.seq (.region r143_56 [] (some ⟨[0, 2, 7, 8, 9, 10, 11, 15], true, [], []⟩)) (.seq (.seq (.region r143_59 [] (some ⟨[0, 2, 7, 8, 9, 10, 11, 15, 95], true, [], []⟩)) (.cond (.tmp 95) (.seq (.region r143_62 [] (some ⟨[2], true, [], []⟩)) .ret) .skip)) (.seq (.region r143_64 [] (some ⟨[0, 2, 7, 8, 9, 10, 11, 15, 99], true, [], []⟩)) (.cond (.tmp 99) (.region r143_66 [] (some ⟨[0, 2, 7, 8, 9, 10], true, [], []⟩)) (.region r143_67 [] (some ⟨[0, 2, 7, 8, 9, 10], true, [], []⟩)))))))))))
noncomputable def c143_2_43 : MCode := c143_2_43g 
theorem g143_2_43 : c143_2_43.Good Try.prog E143_2 sh143 := ⟨⟨trivial, ⟨trivial, trivial⟩⟩, ⟨trivial, ⟨trivial, ⟨trivial, ⟨trivial, ⟨⟨trivial, ⟨⟨trivial, trivial⟩, trivial⟩⟩, ⟨trivial, ⟨trivial, trivial⟩⟩⟩⟩⟩⟩⟩⟩
--CODE 43 0
def S143_2_0g (vf152_0 : Tf152_0) (α : Type) (x4 : Int) (x5 : Int) (x6 : Int) (x9 : Int) (x10 : Int) (x11 : Int) (x12 : Int) (kn : Int → Int → Int → Int → Int → Int → Option α) (k1 : Int → Int → Option α) (k2 : Int → Int → Bool → Int → Int → Int → Int → Option α) : Option α :=
 cK (x4 != x6)
 (vf152_0 α (w64 ((w64 ((w64 (x9 + x11)) * (w64 (x9 + x11)))) + (w64 ((w64 (x10 + x12)) * (w64 (x10 + x12))))))
 (fun (x14 : Int) => gK (x14 != 0) (gK (x14 != 0) (cK ((w64 (Int.tdiv (w64 (x5 + x6)) 2)) == x4)
 (k1 (w64 (Int.tdiv (w64 ((w64 (x9 + x11)) * 67108864)) x14)) (w64 (Int.tdiv (w64 ((w64 (x10 + x12)) * 67108864)) x14)))
 (cK (decide ((w64 (Int.tdiv (w64 (x5 + x6)) 2)) < x4))
 (kn (w64 (Int.tdiv (w64 (x5 + x6)) 2)) x6 (w64 (Int.tdiv (w64 ((w64 (x9 + x11)) * 67108864)) x14)) (w64 (Int.tdiv (w64 ((w64 (x10 + x12)) * 67108864)) x14)) x11 x12)
 (kn x5 (w64 (Int.tdiv (w64 (x5 + x6)) 2)) x9 x10 (w64 (Int.tdiv (w64 ((w64 (x9 + x11)) * 67108864)) x14)) (w64 (Int.tdiv (w64 ((w64 (x10 + x12)) * 67108864)) x14))))))))
 (k2 x5 x6 (x4 != x6) x9 x10 x11 x12)
noncomputable def S143_2_0 (α : Type) (x4 : Int) (x5 : Int) (x6 : Int) (x9 : Int) (x10 : Int) (x11 : Int) (x12 : Int) (kn : Int → Int → Int → Int → Int → Int → Option α) (k1 : Int → Int → Option α) (k2 : Int → Int → Bool → Int → Int → Int → Int → Option α) : Option α := S143_2_0g f152_0 α x4 x5 x6 x9 x10 x11 x12 kn k1 k2
noncomputable def R143_2_0 (α : Type) (x4 : Int) (k1 : Int → Int → Option α) (k2 : Int → Int → Bool → Int → Int → Int → Int → Option α) : Nat → Int → Int → Int → Int → Int → Int → Option α
 | 0, _, _, _, _, _, _ => none
 | n + 1, x5, x6, x9, x10, x11, x12 => S143_2_0 α x4 x5 x6 x9 x10 x11 x12 (R143_2_0 α x4 k1 k2 n) k1 k2
noncomputable def L143_2_0 (α : Type) (x4 : Int) (k1 : Int → Int → Option α) (k2 : Int → Int → Bool → Int → Int → Int → Int → Option α) (x5 : Int) (x6 : Int) (x9 : Int) (x10 : Int) (x11 : Int) (x12 : Int) : Option α := R143_2_0 α x4 k1 k2 fuel x5 x6 x9 x10 x11 x12
abbrev TL143_2_0 : Type 1 := (α : Type) → Int → (Int → Int → Option α) → (Int → Int → Bool → Int → Int → Int → Int → Option α) → Int → Int → Int → Int → Int → Int → Option α
def F143_2_0 (v : TL143_2_0) (α : Type) (K : Exit → St → Option α) : Int → Int → Int → Int → Int → Int → Int → Int → Int → Option α := fun x4 x5 x6 x7 x8 x9 x10 x11 x12 => v α x4 (fun (y1 : Int) (y2 : Int) => u143_2_1 (K .ret) y1 y2) (fun (y1 : Int) (y2 : Int) (y3 : Bool) (y4 : Int) (y5 : Int) (y6 : Int) (y7 : Int) => u143_2_2 (K (.exit 0)) x4 y1 y2 y3 x7 x8 y4 y5 y6 y7) x5 x6 x9 x10 x11 x12
theorem r143_2_0g (vf31_0 : Tf31_0) (vf152_0 : Tf152_0)  (α : Type) (K : Exit → St → Option α) (Kn : St → Option α) (x4 : Int) (x5 : Int) (x6 : Int) (x7 : Int) (x8 : Int) (x9 : Int) (x10 : Int) (x11 : Int) (x12 : Int) : u143_2_0 (fun σ => runM Try.prog (E143_2g vf31_0 vf152_0) sh143 (c143_2_43g ) (thenK (fun σ => tidyK td143_43 σ Kn) K) σ) x4 x5 x6 x7 x8 x9 x10 x11 x12 = S143_2_0g vf152_0 α x4 x5 x6 x9 x10 x11 x12 (fun x5 x6 x9 x10 x11 x12 => u143_2_0 Kn x4 x5 x6 x7 x8 x9 x10 x11 x12) (fun (y1 : Int) (y2 : Int) => u143_2_1 (K .ret) y1 y2) (fun (y1 : Int) (y2 : Int) (y3 : Bool) (y4 : Int) (y5 : Int) (y6 : Int) (y7 : Int) => u143_2_2 (K (.exit 0)) x4 y1 y2 y3 x7 x8 y4 y5 y6 y7) := by kernel_rfl
theorem r143_2_0 (α : Type) (K : Exit → St → Option α) (Kn : St → Option α) (x4 : Int) (x5 : Int) (x6 : Int) (x7 : Int) (x8 : Int) (x9 : Int) (x10 : Int) (x11 : Int) (x12 : Int) : u143_2_0 (fun σ => runM Try.prog E143_2 sh143 c143_2_43 (thenK (fun σ => tidyK td143_43 σ Kn) K) σ) x4 x5 x6 x7 x8 x9 x10 x11 x12 = S143_2_0 α x4 x5 x6 x9 x10 x11 x12 (fun x5 x6 x9 x10 x11 x12 => u143_2_0 Kn x4 x5 x6 x7 x8 x9 x10 x11 x12) (fun (y1 : Int) (y2 : Int) => u143_2_1 (K .ret) y1 y2) (fun (y1 : Int) (y2 : Int) (y3 : Bool) (y4 : Int) (y5 : Int) (y6 : Int) (y7 : Int) => u143_2_2 (K (.exit 0)) x4 y1 y2 y3 x7 x8 y4 y5 y6 y7) := r143_2_0g f31_0 f152_0 α K Kn x4 x5 x6 x7 x8 x9 x10 x11 x12
theorem t143_2_0 (α : Type) (K : Exit → St → Option α) : ∀ (n : Nat) (x4 : Int) (x5 : Int) (x6 : Int) (x7 : Int) (x8 : Int) (x9 : Int) (x10 : Int) (x11 : Int) (x12 : Int), R143_2_0 α x4 (fun (y1 : Int) (y2 : Int) => u143_2_1 (K .ret) y1 y2) (fun (y1 : Int) (y2 : Int) (y3 : Bool) (y4 : Int) (y5 : Int) (y6 : Int) (y7 : Int) => u143_2_2 (K (.exit 0)) x4 y1 y2 y3 x7 x8 y4 y5 y6 y7) n x5 x6 x9 x10 x11 x12 = u143_2_0 (loopT (runM Try.prog E143_2 sh143 c143_2_43) td143_43 K n) x4 x5 x6 x7 x8 x9 x10 x11 x12 := by
 intro n
 induction n with
 | zero => intros; rfl
 | succ n ih => intro x4 x5 x6 x7 x8 x9 x10 x11 x12; exact (congrArg (fun kn => S143_2_0 α x4 x5 x6 x9 x10 x11 x12 kn (fun (y1 : Int) (y2 : Int) => u143_2_1 (K .ret) y1 y2) (fun (y1 : Int) (y2 : Int) (y3 : Bool) (y4 : Int) (y5 : Int) (y6 : Int) (y7 : Int) => u143_2_2 (K (.exit 0)) x4 y1 y2 y3 x7 x8 y4 y5 y6 y7)) (funext fun x5 => funext fun x6 => funext fun x9 => funext fun x10 => funext fun x11 => funext fun x12 => ih x4 x5 x6 x7 x8 x9 x10 x11 x12)).trans (r143_2_0 α K (loopT (runM Try.prog E143_2 sh143 c143_2_43) td143_43 K n) x4 x5 x6 x7 x8 x9 x10 x11 x12).symm
theorem m143_2_0 : ∀ (α : Type) (K : Exit → St → Option α), F143_2_0 L143_2_0 α K = p143_2_0.unc fun σ => loopT (runM Try.prog E143_2 sh143 c143_2_43) td143_43 K fuel σ := fun α K => funext fun x4 => funext fun x5 => funext fun x6 => funext fun x7 => funext fun x8 => funext fun x9 => funext fun x10 => funext fun x11 => funext fun x12 => t143_2_0 α K fuel x4 x5 x6 x7 x8 x9 x10 x11 x12

/-- etalon/etalonref01.Direction -/
abbrev Tf143_2 : Type 1 := (α : Type) → Int → (Int → Int → Option α) → Option α
def f143_2g (vL143_2_0 : TL143_2_0) (vf152_0 : Tf152_0) (vf31_0 : Tf31_0) (α : Type) (x1 : Int) (k1 : Int → Int → Option α) : Option α :=
 vf31_0 α x1 4194304
 (fun (x2 : Int) => cK (decide (2097152 ≤ x2))
 (none)
 (cK (decide (1048576 ≤ x2))
 (none)
 (cK (decide (524288 < x2))
 (none)
 (vf152_0 α 2251799813685248
 (fun (x3 : Int) => cK (x2 == 0)
 (k1 67108864 0)
 (vL143_2_0 α x2
 (fun (x15 : Int) (x16 : Int) => k1 x15 x16)
 (fun (x17 : Int) (x18 : Int) (x19 : Bool) (x20 : Int) (x21 : Int) (x22 : Int) (x23 : Int) => k1 x22 x23) 0 524288 67108864 0 x3 x3))))))
noncomputable def f143_2 (α : Type) (x1 : Int) (k1 : Int → Int → Option α) : Option α := f143_2g L143_2_0 f152_0 f31_0 α x1 k1
def pa143_2 : PT (List DV) := pA [pV false [(dI .i64)]]
def Fn143_2 (v : Tf143_2) (α : Type) (k : List RV → Option α) : Int → Option α := fun x1 => v α x1 (fun (y1 : Int) (y2 : Int) => ur143_2_0 k y1 y2)
noncomputable def cm143_2g (vL143_2_0 : TL143_2_0) : MCode := (.seq (.region r143_2 [] (some ⟨[0, 2], true, [], []⟩)) (.seq (.region r143_4 [] (some ⟨[0, 2], true, [], []⟩)) (.seq (.seq (.region r143_7 [] (some ⟨[0, 2, 19], true, [], []⟩)) (.cond (.tmp 19) (.seq (.region r143_10 [] (some ⟨[2, 3], true, [], []⟩)) (.seq (.region r143_12 [] (some ⟨[2], true, [], []⟩)) .ret)) .skip)) (.seq (.seq (.region r143_15 [] (some ⟨[0, 2, 31], true, [], []⟩)) (.cond (.tmp 31) (.seq (.region r143_18 [] (some ⟨[2, 4], true, [], []⟩)) (.seq (.region r143_20 [] (some ⟨[2], true, [], []⟩)) .ret)) .skip)) (.seq (.seq (.region r143_23 [] (some ⟨[0, 2, 42], true, [], []⟩)) (.cond (.tmp 42) (.seq (.region r143_26 [] (some ⟨[2, 5], true, [], []⟩)) (.seq (.region r143_28 [] (some ⟨[2], true, [], []⟩)) .ret)) .skip)) (.seq (.region r143_30 [] (some ⟨[0, 2, 6], true, [], []⟩)) (.seq (.region r143_32 [] (some ⟨[0, 2, 6, 7, 8], true, [], []⟩)) (.seq (.region r143_34 [] (some ⟨[0, 2, 7, 8, 9, 10], true, [], []⟩)) (.seq (.seq (.region r143_37 [] (some ⟨[0, 2, 7, 8, 9, 10, 57], true, [], []⟩)) (.cond (.tmp 57) (.seq (.region r143_40 [] (some ⟨[2], true, [], []⟩)) .ret) .skip)) (.seq (.block 0 (.loop td143_43 [⟨p143_2_0, F143_2_0 vL143_2_0⟩] c143_2_43)) (.seq (.region r143_69 [] (some ⟨[2], true, [], []⟩)) .ret)))))))))))
noncomputable def cm143_2 : MCode := cm143_2g L143_2_0
theorem gm143_2 : cm143_2.Good Try.prog E143_2 sh143 := ⟨trivial, ⟨trivial, ⟨⟨trivial, ⟨⟨trivial, ⟨trivial, trivial⟩⟩, trivial⟩⟩, ⟨⟨trivial, ⟨⟨trivial, ⟨trivial, trivial⟩⟩, trivial⟩⟩, ⟨⟨trivial, ⟨⟨trivial, ⟨trivial, trivial⟩⟩, trivial⟩⟩, ⟨trivial, ⟨trivial, ⟨trivial, ⟨⟨trivial, ⟨⟨trivial, trivial⟩, trivial⟩⟩, ⟨⟨g143_2_43, m143_2_0, trivial⟩, ⟨trivial, trivial⟩⟩⟩⟩⟩⟩⟩⟩⟩⟩⟩
theorem fm143_2g (vf31_0 : Tf31_0) (vf152_0 : Tf152_0) (vL143_2_0 : TL143_2_0) (α : Type) (k : List RV → Option α) : Fn143_2 (f143_2g vL143_2_0 vf152_0 vf31_0) α k = pa143_2.unc fun ds => fnM Try.prog (E143_2g vf31_0 vf152_0) sh143 (cm143_2g vL143_2_0) rs143 k ds := by kernel_rfl
theorem fm143_2 : ∀ (α : Type) (k : List RV → Option α), Fn143_2 f143_2 α k = pa143_2.unc fun ds => fnM Try.prog E143_2 sh143 cm143_2 rs143 k ds := fm143_2g f31_0 f152_0 L143_2_0

theorem is143 : FnIs Try.prog 143 nt143 tr143 tl143 cm143_2.erase rs143 := ⟨Try.f143, Try.func143, rfl, by kernel_rfl, by kernel_rfl, by kernel_rfl⟩
theorem io143_2 : InstOk Try.prog 143 nt143 ⟨pa143_2, Fn143_2 f143_2⟩ := inst_ok eo143_2 followsTry is143 ⟨⟨sh143, cm143_2, by kernel_rfl, gm143_2, fm143_2⟩⟩

def p143_1_0 : PT St := pS [sl 0 (aV false [(cD (dI .i64))]), sl 2 (aV false [(cPtr 2 0)]), sl 7 (aV false [(cD (dI .i64))]), sl 8 (aV false [(cD (dI .i64))]), sl 9 (aV false [(cPtr 9 0)]), sl 10 (aV false [(cPtr 10 0)])] [eBox 2 [(cD (dI .i64)), (cD (dI .i64))], eBox 9 [(cD (dI .i64)), (cD (dI .i64))], eBox 10 [(cD (dI .i64)), (cD (dI .i64))]]
def u143_1_0 {β : Type} (g : St → β) : Int → Int → Int → Int → Int → Int → Int → Int → Int → β := p143_1_0.unc g

def p143_1_1 : PT St := pS [sl 2 (aV false [(cPtr 2 0)])] [eBox 2 [(cD (dI .i64)), (cD (dI .i64))]]
def u143_1_1 {β : Type} (g : St → β) : Int → Int → β := p143_1_1.unc g

def p143_1_2 : PT St := pS [sl 0 (aV false [(cD (dI .i64))]), sl 2 (aV false [(cPtr 2 0)]), sl 7 (aV false [(cD (dI .i64))]), sl 8 (aV false [(cD (dI .i64))]), sl 9 (aV false [(cPtr 9 0)]), sl 10 (aV false [(cPtr 10 0)]), sl 61 (aV false [(cD dB)])] [eBox 2 [(cD (dI .i64)), (cD (dI .i64))], eBox 9 [(cD (dI .i64)), (cD (dI .i64))], eBox 10 [(cD (dI .i64)), (cD (dI .i64))]]
def u143_1_2 {β : Type} (g : St → β) : Int → Int → Int → Bool → Int → Int → Int → Int → Int → Int → β := p143_1_2.unc g

def pr143_1_0 : PT (List RV) := pRs [pR true [rD (dI .i64), rD (dI .i64)]]
def ur143_1_0 {β : Type} (g : List RV → β) : Int → Int → β := pr143_1_0.unc g

def E143_1g (vf31_0 : Tf31_0) (vf143_2 : Tf143_2) (vf152_0 : Tf152_0) : EnvK := EnvK.of [⟨31, nt31, [⟨pa31_0, Fn31_0 vf31_0⟩]⟩, ⟨143, nt143, [⟨pa143_2, Fn143_2 vf143_2⟩]⟩, ⟨152, nt152, [⟨pa152_0, Fn152_0 vf152_0⟩]⟩] noSeq
noncomputable def E143_1 : EnvK := E143_1g f31_0 f143_2 f152_0
theorem eo143_1 : E143_1.Ok Try.prog := EnvK.of_ok noSeq_ok ⟨⟨io31_0, trivial⟩, ⟨io143_2, trivial⟩, ⟨io152_0, trivial⟩, trivial⟩

noncomputable def c143_1_43g  : MCode := (.seq (.seq (.region r143_46 [] (some ⟨[0, 2, 7, 8, 9, 10, 61], true, [], []⟩)) (.cond (.tmp 61) .skip (.exit 0))) (.block 1 (.seq (.region r143_50 [] (some ⟨[0, 2, 7, 8, 9, 10, 11], true, [], []⟩)) (.seq (.region r143_52 [] (some ⟨[0, 2, 7, 8, 9, 10, 11, 12, 13], true, [], []⟩)) (.seq (.region r143_54 [] (some ⟨[0, 2, 7, 8, 9, 10, 11, 12, 13, 14], true, [], []⟩)) (.seq (.region r143_56 [] (some ⟨[0, 2, 7, 8, 9, 10, 11, 15], true, [], []⟩)) (.seq (.seq (.region r143_59 [] (some ⟨[0, 2, 7, 8, 9, 10, 11, 15, 95], true, [], []⟩)) (.cond (.tmp 95) (.seq (.region r143_62 [] (some ⟨[2], true, [], []⟩)) .ret) .skip)) (.seq (.region r143_64 [] (some ⟨[0, 2, 7, 8, 9, 10, 11, 15, 99], true, [], []⟩)) (.cond (.tmp 99) (.region r143_66 [] (some ⟨[0, 2, 7, 8, 9, 10], true, [], []⟩)) (.region r143_67 [] (some ⟨[0, 2, 7, 8, 9, 10], true, [], []⟩)))))))))))
noncomputable def c143_1_43 : MCode := c143_1_43g 
theorem g143_1_43 : c143_1_43.Good Try.prog E143_1 sh143 := ⟨⟨trivial, ⟨trivial, trivial⟩⟩, ⟨trivial, ⟨trivial, ⟨trivial, ⟨trivial, ⟨⟨trivial, ⟨⟨trivial, trivial⟩, trivial⟩⟩, ⟨trivial, ⟨trivial, trivial⟩⟩⟩⟩⟩⟩⟩⟩
--CODE 43 0
def S143_1_0g (vf152_0 : Tf152_0) (α : Type) (x10 : Int) (x11 : Int) (x12 : Int) (x15 : Int) (x16 : Int) (x17 : Int) (x18 : Int) (kn : Int → Int → Int → Int → Int → Int → Option α) (k1 : Int → Int → Option α) (k2 : Int → Int → Bool → Int → Int → Int → Int → Option α) : Option α :=
 cK (x10 != x12)
 (vf152_0 α (w64 ((w64 ((w64 (x15 + x17)) * (w64 (x15 + x17)))) + (w64 ((w64 (x16 + x18)) * (w64 (x16 + x18))))))
 (fun (x20 : Int) => gK (x20 != 0) (gK (x20 != 0) (cK ((w64 (Int.tdiv (w64 (x11 + x12)) 2)) == x10)
 (k1 (w64 (Int.tdiv (w64 ((w64 (x15 + x17)) * 67108864)) x20)) (w64 (Int.tdiv (w64 ((w64 (x16 + x18)) * 67108864)) x20)))
 (cK (decide ((w64 (Int.tdiv (w64 (x11 + x12)) 2)) < x10))
 (kn (w64 (Int.tdiv (w64 (x11 + x12)) 2)) x12 (w64 (Int.tdiv (w64 ((w64 (x15 + x17)) * 67108864)) x20)) (w64 (Int.tdiv (w64 ((w64 (x16 + x18)) * 67108864)) x20)) x17 x18)
 (kn x11 (w64 (Int.tdiv (w64 (x11 + x12)) 2)) x15 x16 (w64 (Int.tdiv (w64 ((w64 (x15 + x17)) * 67108864)) x20)) (w64 (Int.tdiv (w64 ((w64 (x16 + x18)) * 67108864)) x20))))))))
 (k2 x11 x12 (x10 != x12) x15 x16 x17 x18)
noncomputable def S143_1_0 (α : Type) (x10 : Int) (x11 : Int) (x12 : Int) (x15 : Int) (x16 : Int) (x17 : Int) (x18 : Int) (kn : Int → Int → Int → Int → Int → Int → Option α) (k1 : Int → Int → Option α) (k2 : Int → Int → Bool → Int → Int → Int → Int → Option α) : Option α := S143_1_0g f152_0 α x10 x11 x12 x15 x16 x17 x18 kn k1 k2
noncomputable def R143_1_0 (α : Type) (x10 : Int) (k1 : Int → Int → Option α) (k2 : Int → Int → Bool → Int → Int → Int → Int → Option α) : Nat → Int → Int → Int → Int → Int → Int → Option α
 | 0, _, _, _, _, _, _ => none
 | n + 1, x11, x12, x15, x16, x17, x18 => S143_1_0 α x10 x11 x12 x15 x16 x17 x18 (R143_1_0 α x10 k1 k2 n) k1 k2
noncomputable def L143_1_0 (α : Type) (x10 : Int) (k1 : Int → Int → Option α) (k2 : Int → Int → Bool → Int → Int → Int → Int → Option α) (x11 : Int) (x12 : Int) (x15 : Int) (x16 : Int) (x17 : Int) (x18 : Int) : Option α := R143_1_0 α x10 k1 k2 fuel x11 x12 x15 x16 x17 x18
abbrev TL143_1_0 : Type 1 := (α : Type) → Int → (Int → Int → Option α) → (Int → Int → Bool → Int → Int → Int → Int → Option α) → Int → Int → Int → Int → Int → Int → Option α
def F143_1_0 (v : TL143_1_0) (α : Type) (K : Exit → St → Option α) : Int → Int → Int → Int → Int → Int → Int → Int → Int → Option α := fun x10 x11 x12 x13 x14 x15 x16 x17 x18 => v α x10 (fun (y1 : Int) (y2 : Int) => u143_1_1 (K .ret) y1 y2) (fun (y1 : Int) (y2 : Int) (y3 : Bool) (y4 : Int) (y5 : Int) (y6 : Int) (y7 : Int) => u143_1_2 (K (.exit 0)) x10 y1 y2 y3 x13 x14 y4 y5 y6 y7) x11 x12 x15 x16 x17 x18
theorem r143_1_0g (vf31_0 : Tf31_0) (vf143_2 : Tf143_2) (vf152_0 : Tf152_0)  (α : Type) (K : Exit → St → Option α) (Kn : St → Option α) (x10 : Int) (x11 : Int) (x12 : Int) (x13 : Int) (x14 : Int) (x15 : Int) (x16 : Int) (x17 : Int) (x18 : Int) : u143_1_0 (fun σ => runM Try.prog (E143_1g vf31_0 vf143_2 vf152_0) sh143 (c143_1_43g ) (thenK (fun σ => tidyK td143_43 σ Kn) K) σ) x10 x11 x12 x13 x14 x15 x16 x17 x18 = S143_1_0g vf152_0 α x10 x11 x12 x15 x16 x17 x18 (fun x11 x12 x15 x16 x17 x18 => u143_1_0 Kn x10 x11 x12 x13 x14 x15 x16 x17 x18) (fun (y1 : Int) (y2 : Int) => u143_1_1 (K .ret) y1 y2) (fun (y1 : Int) (y2 : Int) (y3 : Bool) (y4 : Int) (y5 : Int) (y6 : Int) (y7 : Int) => u143_1_2 (K (.exit 0)) x10 y1 y2 y3 x13 x14 y4 y5 y6 y7) := by kernel_rfl
theorem r143_1_0 (α : Type) (K : Exit → St → Option α) (Kn : St → Option α) (x10 : Int) (x11 : Int) (x12 : Int) (x13 : Int) (x14 : Int) (x15 : Int) (x16 : Int) (x17 : Int) (x18 : Int) : u143_1_0 (fun σ => runM Try.prog E143_1 sh143 c143_1_43 (thenK (fun σ => tidyK td143_43 σ Kn) K) σ) x10 x11 x12 x13 x14 x15 x16 x17 x18 = S143_1_0 α x10 x11 x12 x15 x16 x17 x18 (fun x11 x12 x15 x16 x17 x18 => u143_1_0 Kn x10 x11 x12 x13 x14 x15 x16 x17 x18) (fun (y1 : Int) (y2 : Int) => u143_1_1 (K .ret) y1 y2) (fun (y1 : Int) (y2 : Int) (y3 : Bool) (y4 : Int) (y5 : Int) (y6 : Int) (y7 : Int) => u143_1_2 (K (.exit 0)) x10 y1 y2 y3 x13 x14 y4 y5 y6 y7) := r143_1_0g f31_0 f143_2 f152_0 α K Kn x10 x11 x12 x13 x14 x15 x16 x17 x18
theorem t143_1_0 (α : Type) (K : Exit → St → Option α) : ∀ (n : Nat) (x10 : Int) (x11 : Int) (x12 : Int) (x13 : Int) (x14 : Int) (x15 : Int) (x16 : Int) (x17 : Int) (x18 : Int), R143_1_0 α x10 (fun (y1 : Int) (y2 : Int) => u143_1_1 (K .ret) y1 y2) (fun (y1 : Int) (y2 : Int) (y3 : Bool) (y4 : Int) (y5 : Int) (y6 : Int) (y7 : Int) => u143_1_2 (K (.exit 0)) x10 y1 y2 y3 x13 x14 y4 y5 y6 y7) n x11 x12 x15 x16 x17 x18 = u143_1_0 (loopT (runM Try.prog E143_1 sh143 c143_1_43) td143_43 K n) x10 x11 x12 x13 x14 x15 x16 x17 x18 := by
 intro n
 induction n with
 | zero => intros; rfl
 | succ n ih => intro x10 x11 x12 x13 x14 x15 x16 x17 x18; exact (congrArg (fun kn => S143_1_0 α x10 x11 x12 x15 x16 x17 x18 kn (fun (y1 : Int) (y2 : Int) => u143_1_1 (K .ret) y1 y2) (fun (y1 : Int) (y2 : Int) (y3 : Bool) (y4 : Int) (y5 : Int) (y6 : Int) (y7 : Int) => u143_1_2 (K (.exit 0)) x10 y1 y2 y3 x13 x14 y4 y5 y6 y7)) (funext fun x11 => funext fun x12 => funext fun x15 => funext fun x16 => funext fun x17 => funext fun x18 => ih x10 x11 x12 x13 x14 x15 x16 x17 x18)).trans (r143_1_0 α K (loopT (runM Try.prog E143_1 sh143 c143_1_43) td143_43 K n) x10 x11 x12 x13 x14 x15 x16 x17 x18).symm
theorem m143_1_0 : ∀ (α : Type) (K : Exit → St → Option α), F143_1_0 L143_1_0 α K = p143_1_0.unc fun σ => loopT (runM Try.prog E143_1 sh143 c143_1_43) td143_43 K fuel σ := fun α K => funext fun x10 => funext fun x11 => funext fun x12 => funext fun x13 => funext fun x14 => funext fun x15 => funext fun x16 => funext fun x17 => funext fun x18 => t143_1_0 α K fuel x10 x11 x12 x13 x14 x15 x16 x17 x18

/-- etalon/etalonref01.Direction -/
abbrev Tf143_1 : Type 1 := (α : Type) → Int → (Int → Int → Option α) → Option α
def f143_1g (vL143_1_0 : TL143_1_0) (vf143_2 : Tf143_2) (vf152_0 : Tf152_0) (vf31_0 : Tf31_0) (α : Type) (x1 : Int) (k1 : Int → Int → Option α) : Option α :=
 vf31_0 α x1 4194304
 (fun (x2 : Int) => cK (decide (2097152 ≤ x2))
 (vf143_2 α (w64 (x2 - 2097152))
 (fun (x3 : Int) (x4 : Int) => k1 (w64 (0 - x3)) (w64 (0 - x4))))
 (cK (decide (1048576 ≤ x2))
 (vf143_2 α (w64 (x2 - 1048576))
 (fun (x5 : Int) (x6 : Int) => k1 (w64 (0 - x6)) x5))
 (cK (decide (524288 < x2))
 (vf143_2 α (w64 (1048576 - x2))
 (fun (x7 : Int) (x8 : Int) => k1 x8 x7))
 (vf152_0 α 2251799813685248
 (fun (x9 : Int) => cK (x2 == 0)
 (k1 67108864 0)
 (vL143_1_0 α x2
 (fun (x21 : Int) (x22 : Int) => k1 x21 x22)
 (fun (x23 : Int) (x24 : Int) (x25 : Bool) (x26 : Int) (x27 : Int) (x28 : Int) (x29 : Int) => k1 x28 x29) 0 524288 67108864 0 x9 x9))))))
noncomputable def f143_1 (α : Type) (x1 : Int) (k1 : Int → Int → Option α) : Option α := f143_1g L143_1_0 f143_2 f152_0 f31_0 α x1 k1
def pa143_1 : PT (List DV) := pA [pV false [(dI .i64)]]
def Fn143_1 (v : Tf143_1) (α : Type) (k : List RV → Option α) : Int → Option α := fun x1 => v α x1 (fun (y1 : Int) (y2 : Int) => ur143_1_0 k y1 y2)
noncomputable def cm143_1g (vL143_1_0 : TL143_1_0) : MCode := (.seq (.region r143_2 [] (some ⟨[0, 2], true, [], []⟩)) (.seq (.region r143_4 [] (some ⟨[0, 2], true, [], []⟩)) (.seq (.seq (.region r143_7 [] (some ⟨[0, 2, 19], true, [], []⟩)) (.cond (.tmp 19) (.seq (.region r143_10 [] (some ⟨[2, 3], true, [], []⟩)) (.seq (.region r143_12 [] (some ⟨[2], true, [], []⟩)) .ret)) .skip)) (.seq (.seq (.region r143_15 [] (some ⟨[0, 2, 31], true, [], []⟩)) (.cond (.tmp 31) (.seq (.region r143_18 [] (some ⟨[2, 4], true, [], []⟩)) (.seq (.region r143_20 [] (some ⟨[2], true, [], []⟩)) .ret)) .skip)) (.seq (.seq (.region r143_23 [] (some ⟨[0, 2, 42], true, [], []⟩)) (.cond (.tmp 42) (.seq (.region r143_26 [] (some ⟨[2, 5], true, [], []⟩)) (.seq (.region r143_28 [] (some ⟨[2], true, [], []⟩)) .ret)) .skip)) (.seq (.region r143_30 [] (some ⟨[0, 2, 6], true, [], []⟩)) (.seq (.region r143_32 [] (some ⟨[0, 2, 6, 7, 8], true, [], []⟩)) (.seq (.region r143_34 [] (some ⟨[0, 2, 7, 8, 9, 10], true, [], []⟩)) (.seq (.seq (.region r143_37 [] (some ⟨[0, 2, 7, 8, 9, 10, 57], true, [], []⟩)) (.cond (.tmp 57) (.seq (.region r143_40 [] (some ⟨[2], true, [], []⟩)) .ret) .skip)) (.seq (.block 0 (.loop td143_43 [⟨p143_1_0, F143_1_0 vL143_1_0⟩] c143_1_43)) (.seq (.region r143_69 [] (some ⟨[2], true, [], []⟩)) .ret)))))))))))
noncomputable def cm143_1 : MCode := cm143_1g L143_1_0
theorem gm143_1 : cm143_1.Good Try.prog E143_1 sh143 := ⟨trivial, ⟨trivial, ⟨⟨trivial, ⟨⟨trivial, ⟨trivial, trivial⟩⟩, trivial⟩⟩, ⟨⟨trivial, ⟨⟨trivial, ⟨trivial, trivial⟩⟩, trivial⟩⟩, ⟨⟨trivial, ⟨⟨trivial, ⟨trivial, trivial⟩⟩, trivial⟩⟩, ⟨trivial, ⟨trivial, ⟨trivial, ⟨⟨trivial, ⟨⟨trivial, trivial⟩, trivial⟩⟩, ⟨⟨g143_1_43, m143_1_0, trivial⟩, ⟨trivial, trivial⟩⟩⟩⟩⟩⟩⟩⟩⟩⟩⟩
theorem fm143_1g (vf31_0 : Tf31_0) (vf143_2 : Tf143_2) (vf152_0 : Tf152_0) (vL143_1_0 : TL143_1_0) (α : Type) (k : List RV → Option α) : Fn143_1 (f143_1g vL143_1_0 vf143_2 vf152_0 vf31_0) α k = pa143_1.unc fun ds => fnM Try.prog (E143_1g vf31_0 vf143_2 vf152_0) sh143 (cm143_1g vL143_1_0) rs143 k ds := by kernel_rfl
theorem fm143_1 : ∀ (α : Type) (k : List RV → Option α), Fn143_1 f143_1 α k = pa143_1.unc fun ds => fnM Try.prog E143_1 sh143 cm143_1 rs143 k ds := fm143_1g f31_0 f143_2 f152_0 L143_1_0

theorem io143_1 : InstOk Try.prog 143 nt143 ⟨pa143_1, Fn143_1 f143_1⟩ := inst_ok eo143_1 followsTry is143 ⟨⟨sh143, cm143_1, by kernel_rfl, gm143_1, fm143_1⟩⟩

def p143_0_0 : PT St := pS [sl 0 (aV false [(cD (dI .i64))]), sl 2 (aV false [(cPtr 2 0)]), sl 7 (aV false [(cD (dI .i64))]), sl 8 (aV false [(cD (dI .i64))]), sl 9 (aV false [(cPtr 9 0)]), sl 10 (aV false [(cPtr 10 0)])] [eBox 2 [(cD (dI .i64)), (cD (dI .i64))], eBox 9 [(cD (dI .i64)), (cD (dI .i64))], eBox 10 [(cD (dI .i64)), (cD (dI .i64))]]
def u143_0_0 {β : Type} (g : St → β) : Int → Int → Int → Int → Int → Int → Int → Int → Int → β := p143_0_0.unc g

def p143_0_1 : PT St := pS [sl 2 (aV false [(cPtr 2 0)])] [eBox 2 [(cD (dI .i64)), (cD (dI .i64))]]
def u143_0_1 {β : Type} (g : St → β) : Int → Int → β := p143_0_1.unc g

def p143_0_2 : PT St := pS [sl 0 (aV false [(cD (dI .i64))]), sl 2 (aV false [(cPtr 2 0)]), sl 7 (aV false [(cD (dI .i64))]), sl 8 (aV false [(cD (dI .i64))]), sl 9 (aV false [(cPtr 9 0)]), sl 10 (aV false [(cPtr 10 0)]), sl 61 (aV false [(cD dB)])] [eBox 2 [(cD (dI .i64)), (cD (dI .i64))], eBox 9 [(cD (dI .i64)), (cD (dI .i64))], eBox 10 [(cD (dI .i64)), (cD (dI .i64))]]
def u143_0_2 {β : Type} (g : St → β) : Int → Int → Int → Bool → Int → Int → Int → Int → Int → Int → β := p143_0_2.unc g

def pr143_0_0 : PT (List RV) := pRs [pR true [rD (dI .i64), rD (dI .i64)]]
def ur143_0_0 {β : Type} (g : List RV → β) : Int → Int → β := pr143_0_0.unc g

def E143_0g (vf31_0 : Tf31_0) (vf143_1 : Tf143_1) (vf152_0 : Tf152_0) : EnvK := EnvK.of [⟨31, nt31, [⟨pa31_0, Fn31_0 vf31_0⟩]⟩, ⟨143, nt143, [⟨pa143_1, Fn143_1 vf143_1⟩]⟩, ⟨152, nt152, [⟨pa152_0, Fn152_0 vf152_0⟩]⟩] noSeq
noncomputable def E143_0 : EnvK := E143_0g f31_0 f143_1 f152_0
theorem eo143_0 : E143_0.Ok Try.prog := EnvK.of_ok noSeq_ok ⟨⟨io31_0, trivial⟩, ⟨io143_1, trivial⟩, ⟨io152_0, trivial⟩, trivial⟩

noncomputable def c143_0_43g  : MCode := (.seq (.seq (.region r143_46 [] (some ⟨[0, 2, 7, 8, 9, 10, 61], true, [], []⟩)) (.cond (.tmp 61) .skip (.exit 0))) (.block 1 (.seq (.region r143_50 [] (some ⟨[0, 2, 7, 8, 9, 10, 11], true, [], []⟩)) (.seq (.region r143_52 [] (some ⟨[0, 2, 7, 8, 9, 10, 11, 12, 13], true, [], []⟩)) (.seq (.region r143_54 [] (some ⟨[0, 2, 7, 8, 9, 10, 11, 12, 13, 14], true, [], []⟩)) (.seq (.region r143_56 [] (some ⟨[0, 2, 7, 8, 9, 10, 11, 15], true, [], []⟩)) (.seq (.seq (.region r143_59 [] (some ⟨[0, 2, 7, 8, 9, 10, 11, 15, 95], true, [], []⟩)) (.cond (.tmp 95) (.seq (.region r143_62 [] (some ⟨[2], true, [], []⟩)) .ret) .skip)) (.seq (.region r143_64 [] (some ⟨[0, 2, 7, 8, 9, 10, 11, 15, 99], true, [], []⟩)) (.cond (.tmp 99) (.region r143_66 [] (some ⟨[0, 2, 7, 8, 9, 10], true, [], []⟩)) (.region r143_67 [] (some ⟨[0, 2, 7, 8, 9, 10], true, [], []⟩)))))))))))
noncomputable def c143_0_43 : MCode := c143_0_43g 
theorem g143_0_43 : c143_0_43.Good Try.prog E143_0 sh143 := ⟨⟨trivial, ⟨trivial, trivial⟩⟩, ⟨trivial, ⟨trivial, ⟨trivial, ⟨trivial, ⟨⟨trivial, ⟨⟨trivial, trivial⟩, trivial⟩⟩, ⟨trivial, ⟨trivial, trivial⟩⟩⟩⟩⟩⟩⟩⟩
--CODE 43 0
def S143_0_0g (vf152_0 : Tf152_0) (α : Type) (x10 : Int) (x11 : Int) (x12 : Int) (x15 : Int) (x16 : Int) (x17 : Int) (x18 : Int) (kn : Int → Int → Int → Int → Int → Int → Option α) (k1 : Int → Int → Option α) (k2 : Int → Int → Bool → Int → Int → Int → Int → Option α) : Option α :=
 cK (x10 != x12)
 (vf152_0 α (w64 ((w64 ((w64 (x15 + x17)) * (w64 (x15 + x17)))) + (w64 ((w64 (x16 + x18)) * (w64 (x16 + x18))))))
 (fun (x20 : Int) => gK (x20 != 0) (gK (x20 != 0) (cK ((w64 (Int.tdiv (w64 (x11 + x12)) 2)) == x10)
 (k1 (w64 (Int.tdiv (w64 ((w64 (x15 + x17)) * 67108864)) x20)) (w64 (Int.tdiv (w64 ((w64 (x16 + x18)) * 67108864)) x20)))
 (cK (decide ((w64 (Int.tdiv (w64 (x11 + x12)) 2)) < x10))
 (kn (w64 (Int.tdiv (w64 (x11 + x12)) 2)) x12 (w64 (Int.tdiv (w64 ((w64 (x15 + x17)) * 67108864)) x20)) (w64 (Int.tdiv (w64 ((w64 (x16 + x18)) * 67108864)) x20)) x17 x18)
 (kn x11 (w64 (Int.tdiv (w64 (x11 + x12)) 2)) x15 x16 (w64 (Int.tdiv (w64 ((w64 (x15 + x17)) * 67108864)) x20)) (w64 (Int.tdiv (w64 ((w64 (x16 + x18)) * 67108864)) x20))))))))
 (k2 x11 x12 (x10 != x12) x15 x16 x17 x18)
noncomputable def S143_0_0 (α : Type) (x10 : Int) (x11 : Int) (x12 : Int) (x15 : Int) (x16 : Int) (x17 : Int) (x18 : Int) (kn : Int → Int → Int → Int → Int → Int → Option α) (k1 : Int → Int → Option α) (k2 : Int → Int → Bool → Int → Int → Int → Int → Option α) : Option α := S143_0_0g f152_0 α x10 x11 x12 x15 x16 x17 x18 kn k1 k2
noncomputable def R143_0_0 (α : Type) (x10 : Int) (k1 : Int → Int → Option α) (k2 : Int → Int → Bool → Int → Int → Int → Int → Option α) : Nat → Int → Int → Int → Int → Int → Int → Option α
 | 0, _, _, _, _, _, _ => none
 | n + 1, x11, x12, x15, x16, x17, x18 => S143_0_0 α x10 x11 x12 x15 x16 x17 x18 (R143_0_0 α x10 k1 k2 n) k1 k2
noncomputable def L143_0_0 (α : Type) (x10 : Int) (k1 : Int → Int → Option α) (k2 : Int → Int → Bool → Int → Int → Int → Int → Option α) (x11 : Int) (x12 : Int) (x15 : Int) (x16 : Int) (x17 : Int) (x18 : Int) : Option α := R143_0_0 α x10 k1 k2 fuel x11 x12 x15 x16 x17 x18
abbrev TL143_0_0 : Type 1 := (α : Type) → Int → (Int → Int → Option α) → (Int → Int → Bool → Int → Int → Int → Int → Option α) → Int → Int → Int → Int → Int → Int → Option α
def F143_0_0 (v : TL143_0_0) (α : Type) (K : Exit → St → Option α) : Int → Int → Int → Int → Int → Int → Int → Int → Int → Option α := fun x10 x11 x12 x13 x14 x15 x16 x17 x18 => v α x10 (fun (y1 : Int) (y2 : Int) => u143_0_1 (K .ret) y1 y2) (fun (y1 : Int) (y2 : Int) (y3 : Bool) (y4 : Int) (y5 : Int) (y6 : Int) (y7 : Int) => u143_0_2 (K (.exit 0)) x10 y1 y2 y3 x13 x14 y4 y5 y6 y7) x11 x12 x15 x16 x17 x18
theorem r143_0_0g (vf31_0 : Tf31_0) (vf143_1 : Tf143_1) (vf152_0 : Tf152_0)  (α : Type) (K : Exit → St → Option α) (Kn : St → Option α) (x10 : Int) (x11 : Int) (x12 : Int) (x13 : Int) (x14 : Int) (x15 : Int) (x16 : Int) (x17 : Int) (x18 : Int) : u143_0_0 (fun σ => runM Try.prog (E143_0g vf31_0 vf143_1 vf152_0) sh143 (c143_0_43g ) (thenK (fun σ => tidyK td143_43 σ Kn) K) σ) x10 x11 x12 x13 x14 x15 x16 x17 x18 = S143_0_0g vf152_0 α x10 x11 x12 x15 x16 x17 x18 (fun x11 x12 x15 x16 x17 x18 => u143_0_0 Kn x10 x11 x12 x13 x14 x15 x16 x17 x18) (fun (y1 : Int) (y2 : Int) => u143_0_1 (K .ret) y1 y2) (fun (y1 : Int) (y2 : Int) (y3 : Bool) (y4 : Int) (y5 : Int) (y6 : Int) (y7 : Int) => u143_0_2 (K (.exit 0)) x10 y1 y2 y3 x13 x14 y4 y5 y6 y7) := by kernel_rfl
theorem r143_0_0 (α : Type) (K : Exit → St → Option α) (Kn : St → Option α) (x10 : Int) (x11 : Int) (x12 : Int) (x13 : Int) (x14 : Int) (x15 : Int) (x16 : Int) (x17 : Int) (x18 : Int) : u143_0_0 (fun σ => runM Try.prog E143_0 sh143 c143_0_43 (thenK (fun σ => tidyK td143_43 σ Kn) K) σ) x10 x11 x12 x13 x14 x15 x16 x17 x18 = S143_0_0 α x10 x11 x12 x15 x16 x17 x18 (fun x11 x12 x15 x16 x17 x18 => u143_0_0 Kn x10 x11 x12 x13 x14 x15 x16 x17 x18) (fun (y1 : Int) (y2 : Int) => u143_0_1 (K .ret) y1 y2) (fun (y1 : Int) (y2 : Int) (y3 : Bool) (y4 : Int) (y5 : Int) (y6 : Int) (y7 : Int) => u143_0_2 (K (.exit 0)) x10 y1 y2 y3 x13 x14 y4 y5 y6 y7) := r143_0_0g f31_0 f143_1 f152_0 α K Kn x10 x11 x12 x13 x14 x15 x16 x17 x18
theorem t143_0_0 (α : Type) (K : Exit → St → Option α) : ∀ (n : Nat) (x10 : Int) (x11 : Int) (x12 : Int) (x13 : Int) (x14 : Int) (x15 : Int) (x16 : Int) (x17 : Int) (x18 : Int), R143_0_0 α x10 (fun (y1 : Int) (y2 : Int) => u143_0_1 (K .ret) y1 y2) (fun (y1 : Int) (y2 : Int) (y3 : Bool) (y4 : Int) (y5 : Int) (y6 : Int) (y7 : Int) => u143_0_2 (K (.exit 0)) x10 y1 y2 y3 x13 x14 y4 y5 y6 y7) n x11 x12 x15 x16 x17 x18 = u143_0_0 (loopT (runM Try.prog E143_0 sh143 c143_0_43) td143_43 K n) x10 x11 x12 x13 x14 x15 x16 x17 x18 := by
 intro n
 induction n with
 | zero => intros; rfl
 | succ n ih => intro x10 x11 x12 x13 x14 x15 x16 x17 x18; exact (congrArg (fun kn => S143_0_0 α x10 x11 x12 x15 x16 x17 x18 kn (fun (y1 : Int) (y2 : Int) => u143_0_1 (K .ret) y1 y2) (fun (y1 : Int) (y2 : Int) (y3 : Bool) (y4 : Int) (y5 : Int) (y6 : Int) (y7 : Int) => u143_0_2 (K (.exit 0)) x10 y1 y2 y3 x13 x14 y4 y5 y6 y7)) (funext fun x11 => funext fun x12 => funext fun x15 => funext fun x16 => funext fun x17 => funext fun x18 => ih x10 x11 x12 x13 x14 x15 x16 x17 x18)).trans (r143_0_0 α K (loopT (runM Try.prog E143_0 sh143 c143_0_43) td143_43 K n) x10 x11 x12 x13 x14 x15 x16 x17 x18).symm
theorem m143_0_0 : ∀ (α : Type) (K : Exit → St → Option α), F143_0_0 L143_0_0 α K = p143_0_0.unc fun σ => loopT (runM Try.prog E143_0 sh143 c143_0_43) td143_43 K fuel σ := fun α K => funext fun x10 => funext fun x11 => funext fun x12 => funext fun x13 => funext fun x14 => funext fun x15 => funext fun x16 => funext fun x17 => funext fun x18 => t143_0_0 α K fuel x10 x11 x12 x13 x14 x15 x16 x17 x18

/-- etalon/etalonref01.Direction -/
abbrev Tf143_0 : Type 1 := (α : Type) → Int → (Int → Int → Option α) → Option α
def f143_0g (vL143_0_0 : TL143_0_0) (vf143_1 : Tf143_1) (vf152_0 : Tf152_0) (vf31_0 : Tf31_0) (α : Type) (x1 : Int) (k1 : Int → Int → Option α) : Option α :=
 vf31_0 α x1 4194304
 (fun (x2 : Int) => cK (decide (2097152 ≤ x2))
 (vf143_1 α (w64 (x2 - 2097152))
 (fun (x3 : Int) (x4 : Int) => k1 (w64 (0 - x3)) (w64 (0 - x4))))
 (cK (decide (1048576 ≤ x2))
 (vf143_1 α (w64 (x2 - 1048576))
 (fun (x5 : Int) (x6 : Int) => k1 (w64 (0 - x6)) x5))
 (cK (decide (524288 < x2))
 (vf143_1 α (w64 (1048576 - x2))
 (fun (x7 : Int) (x8 : Int) => k1 x8 x7))
 (vf152_0 α 2251799813685248
 (fun (x9 : Int) => cK (x2 == 0)
 (k1 67108864 0)
 (vL143_0_0 α x2
 (fun (x21 : Int) (x22 : Int) => k1 x21 x22)
 (fun (x23 : Int) (x24 : Int) (x25 : Bool) (x26 : Int) (x27 : Int) (x28 : Int) (x29 : Int) => k1 x28 x29) 0 524288 67108864 0 x9 x9))))))
noncomputable def f143_0 (α : Type) (x1 : Int) (k1 : Int → Int → Option α) : Option α := f143_0g L143_0_0 f143_1 f152_0 f31_0 α x1 k1
def pa143_0 : PT (List DV) := pA [pV false [(dI .i64)]]
def Fn143_0 (v : Tf143_0) (α : Type) (k : List RV → Option α) : Int → Option α := fun x1 => v α x1 (fun (y1 : Int) (y2 : Int) => ur143_0_0 k y1 y2)
noncomputable def cm143_0g (vL143_0_0 : TL143_0_0) : MCode := (.seq (.region r143_2 [] (some ⟨[0, 2], true, [], []⟩)) (.seq (.region r143_4 [] (some ⟨[0, 2], true, [], []⟩)) (.seq (.seq (.region r143_7 [] (some ⟨[0, 2, 19], true, [], []⟩)) (.cond (.tmp 19) (.seq (.region r143_10 [] (some ⟨[2, 3], true, [], []⟩)) (.seq (.region r143_12 [] (some ⟨[2], true, [], []⟩)) .ret)) .skip)) (.seq (.seq (.region r143_15 [] (some ⟨[0, 2, 31], true, [], []⟩)) (.cond (.tmp 31) (.seq (.region r143_18 [] (some ⟨[2, 4], true, [], []⟩)) (.seq (.region r143_20 [] (some ⟨[2], true, [], []⟩)) .ret)) .skip)) (.seq (.seq (.region r143_23 [] (some ⟨[0, 2, 42], true, [], []⟩)) (.cond (.tmp 42) (.seq (.region r143_26 [] (some ⟨[2, 5], true, [], []⟩)) (.seq (.region r143_28 [] (some ⟨[2], true, [], []⟩)) .ret)) .skip)) (.seq (.region r143_30 [] (some ⟨[0, 2, 6], true, [], []⟩)) (.seq (.region r143_32 [] (some ⟨[0, 2, 6, 7, 8], true, [], []⟩)) (.seq (.region r143_34 [] (some ⟨[0, 2, 7, 8, 9, 10], true, [], []⟩)) (.seq (.seq (.region r143_37 [] (some ⟨[0, 2, 7, 8, 9, 10, 57], true, [], []⟩)) (.cond (.tmp 57) (.seq (.region r143_40 [] (some ⟨[2], true, [], []⟩)) .ret) .skip)) (.seq (.block 0 (.loop td143_43 [⟨p143_0_0, F143_0_0 vL143_0_0⟩] c143_0_43)) (.seq (.region r143_69 [] (some ⟨[2], true, [], []⟩)) .ret)))))))))))
noncomputable def cm143_0 : MCode := cm143_0g L143_0_0
theorem gm143_0 : cm143_0.Good Try.prog E143_0 sh143 := ⟨trivial, ⟨trivial, ⟨⟨trivial, ⟨⟨trivial, ⟨trivial, trivial⟩⟩, trivial⟩⟩, ⟨⟨trivial, ⟨⟨trivial, ⟨trivial, trivial⟩⟩, trivial⟩⟩, ⟨⟨trivial, ⟨⟨trivial, ⟨trivial, trivial⟩⟩, trivial⟩⟩, ⟨trivial, ⟨trivial, ⟨trivial, ⟨⟨trivial, ⟨⟨trivial, trivial⟩, trivial⟩⟩, ⟨⟨g143_0_43, m143_0_0, trivial⟩, ⟨trivial, trivial⟩⟩⟩⟩⟩⟩⟩⟩⟩⟩⟩
theorem fm143_0g (vf31_0 : Tf31_0) (vf143_1 : Tf143_1) (vf152_0 : Tf152_0) (vL143_0_0 : TL143_0_0) (α : Type) (k : List RV → Option α) : Fn143_0 (f143_0g vL143_0_0 vf143_1 vf152_0 vf31_0) α k = pa143_0.unc fun ds => fnM Try.prog (E143_0g vf31_0 vf143_1 vf152_0) sh143 (cm143_0g vL143_0_0) rs143 k ds := by kernel_rfl
theorem fm143_0 : ∀ (α : Type) (k : List RV → Option α), Fn143_0 f143_0 α k = pa143_0.unc fun ds => fnM Try.prog E143_0 sh143 cm143_0 rs143 k ds := fm143_0g f31_0 f143_1 f152_0 L143_0_0

theorem io143_0 : InstOk Try.prog 143 nt143 ⟨pa143_0, Fn143_0 f143_0⟩ := inst_ok eo143_0 followsTry is143 ⟨⟨sh143, cm143_0, by kernel_rfl, gm143_0, fm143_0⟩⟩

/-! ### F104 etalon/etalonref06.squares -/
abbrev nt104 : Nat := 58
def sh104 : List (Nat × List Sh) := [(10, [.str, .int .i64, .int .i64, .int .i64, .int .i64, .int .i64, .int .i64, .int .i64, .int .i64, .int .i64]), (19, [.int .i64]), (23, [.int .i64]), (28, [.int .i64]), (32, [.int .i64]), (37, [.int .i64]), (43, [.int .i64])]
def r104_2 : List AOper := [oO 1 (.box (.tmp 0)), oO 2 (.mv (.const (.int .i64 0))), oO 3 (.mv (.const (.int .i64 0)))]
def r104_4 : List AOper := [oO 4 (.mv (.const (.int .i64 0))), oO 5 (.mv (.const (.int .i64 0)))]
def r104_6 : List AOper := [oO 10 (.load true 10 (.tmp 1)), oO 11 (.call 103 [(.tmp 10)]), oO 6 (.alloc [(.d (.v (.int .i64 0))), (.d (.v (.int .i64 0))), (.d (.v (.int .i64 0))), (.d (.v (.int .i64 0))), (.d (.v (.int .i64 0))), (.d (.v (.int .i64 0)))]), ⟨none, (.store 6 (.tmp 6) (.tmp 11)), none⟩]
def r104_9 : List AOper := [oO 7 (.mv (.const (.int .i64 0)))]
def td104_11 : Option Tidy := (some ⟨[4, 5, 6, 7], true, [], []⟩)
def r104_14 : List AOper := [oM 12 7, oO 13 (.bin .lss 3 (.tmp 12) (.const (.int .i64 3)))]
def r104_19 : List AOper := [oM 16 7, oO 17 (.iaddr 2 (some 3) (.tmp 6) (.tmp 16)), oO 18 (.faddr 0 (.tmp 17)), oO 19 (.load false 1 (.tmp 18)), oM 20 7, oO 21 (.iaddr 2 (some 3) (.tmp 6) (.tmp 20)), oO 22 (.faddr 0 (.tmp 21)), oO 23 (.load false 1 (.tmp 22)), oO 24 (.bin .mul 3 (.tmp 19) (.tmp 23)), oM 25 7, oO 26 (.iaddr 2 (some 3) (.tmp 6) (.tmp 25)), oO 27 (.faddr 1 (.tmp 26)), oO 28 (.load false 1 (.tmp 27)), oM 29 7, oO 30 (.iaddr 2 (some 3) (.tmp 6) (.tmp 29)), oO 31 (.faddr 1 (.tmp 30)), oO 32 (.load false 1 (.tmp 31)), oO 33 (.bin .mul 3 (.tmp 28) (.tmp 32)), oM 8 24, oM 9 33]
def r104_22 : List AOper := [oM 34 7, oO 35 (.iaddr 2 (some 3) (.tmp 6) (.tmp 34)), oO 36 (.faddr 0 (.tmp 35)), oO 37 (.load false 1 (.tmp 36)), oO 38 (.bin .gtr 3 (.tmp 37) (.const (.int .i64 0))), oM 39 38, ⟨(some 40), (.mv (.tmp 7)), (some (39, false))⟩, ⟨(some 41), (.iaddr 2 (some 3) (.tmp 6) (.tmp 40)), (some (39, false))⟩, ⟨(some 42), (.faddr 1 (.tmp 41)), (some (39, false))⟩, ⟨(some 43), (.load false 1 (.tmp 42)), (some (39, false))⟩, ⟨(some 44), (.bin .lss 3 (.tmp 43) (.const (.int .i64 0))), (some (39, false))⟩, oO 45 (.pick (.tmp 39) (.const (.bool true)) (.tmp 44))]
def r104_24 : List AOper := [oM 46 4, oM 47 8, oM 48 9, oO 49 (.pure (oB (.call { callee := .builtin .min, args := #[(.tmp 47), (.tmp 48)], argTypes := #[3, 3] }) 3)), oO 50 (.bin .add 3 (.tmp 46) (.tmp 49)), oM 4 50]
def r104_25 : List AOper := [oM 51 5, oM 52 8, oM 53 9, oO 54 (.pure (oB (.call { callee := .builtin .max, args := #[(.tmp 52), (.tmp 53)], argTypes := #[3, 3] }) 3)), oO 55 (.bin .add 3 (.tmp 51) (.tmp 54)), oM 5 55]
def r104_26 : List AOper := [oM 14 7, oO 15 (.bin .add 3 (.tmp 14) (.const (.int .i64 1))), oM 7 15]
def r104_28 : List AOper := [oM 56 4, oM 57 5, oM 2 56, oM 3 57]
def tr104 : List (Nat × Tidy) := [(0, ⟨[1], true, [], []⟩), (1, ⟨[1, 4, 5], true, [], []⟩), (2, ⟨[4, 5, 6], true, [], []⟩), (3, ⟨[4, 5, 6, 7], true, [], []⟩), (4, ⟨[4, 5, 6, 7, 13], true, [], []⟩), (6, ⟨[4, 5, 6, 7, 8, 9], true, [], []⟩), (7, ⟨[4, 5, 6, 7, 8, 9, 45], true, [], []⟩), (8, ⟨[4, 5, 6, 7, 8, 9], true, [], []⟩), (9, ⟨[4, 5, 6, 7], true, [], []⟩), (5, ⟨[4, 5, 6, 7], true, [], []⟩), (10, ⟨[2, 3], true, [], []⟩)]
def tl104 : List (Nat × Tidy) := [(4, ⟨[4, 5, 6, 7], true, [], []⟩)]
def rs104 : List AResV := [.tmp 2, .tmp 3]
def p104_0_0 : PT St := pS [sl 4 (aV false [(cD (dI .i64))]), sl 5 (aV false [(cD (dI .i64))]), sl 6 (aV false [(cPtr 6 0)]), sl 7 (aV false [(cD (dI .i64))]), sl 13 (aV false [(cD dB)])] [eBox 6 [(cD (dI .i64)), (cD (dI .i64)), (cD (dI .i64)), (cD (dI .i64)), (cD (dI .i64)), (cD (dI .i64))]]
def u104_0_0 {β : Type} (g : St → β) : Int → Int → Int → Bool → Int → Int → Int → Int → Int → Int → β := p104_0_0.unc g

def p104_0_1 : PT St := pS [sl 4 (aV false [(cD (dI .i64))]), sl 5 (aV false [(cD (dI .i64))]), sl 6 (aV false [(cPtr 6 0)]), sl 7 (aV false [(cD (dI .i64))]), sl 8 (aV false [(cD (dI .i64))]), sl 9 (aV false [(cD (dI .i64))])] [eBox 6 [(cD (dI .i64)), (cD (dI .i64)), (cD (dI .i64)), (cD (dI .i64)), (cD (dI .i64)), (cD (dI .i64))]]
def u104_0_1 {β : Type} (g : St → β) : Int → Int → Int → Int → Int → Int → Int → Int → Int → Int → Int → β := p104_0_1.unc g

def p104_0_2 : PT St := pS [sl 4 (aV false [(cD (dI .i64))]), sl 5 (aV false [(cD (dI .i64))]), sl 6 (aV false [(cPtr 6 0)]), sl 7 (aV false [(cD (dI .i64))]), sl 8 (aV false [(cD (dI .i64))]), sl 9 (aV false [(cD (dI .i64))]), sl 45 (aV false [(cD dB)])] [eBox 6 [(cD (dI .i64)), (cD (dI .i64)), (cD (dI .i64)), (cD (dI .i64)), (cD (dI .i64)), (cD (dI .i64))]]
def u104_0_2 {β : Type} (g : St → β) : Int → Int → Int → Int → Int → Bool → Int → Int → Int → Int → Int → Int → β := p104_0_2.unc g

def p104_0_3 : PT St := pS [sl 4 (aV false [(cD (dI .i64))]), sl 5 (aV false [(cD (dI .i64))]), sl 6 (aV false [(cPtr 6 0)]), sl 7 (aV false [(cD (dI .i64))])] [eBox 6 [(cD (dI .i64)), (cD (dI .i64)), (cD (dI .i64)), (cD (dI .i64)), (cD (dI .i64)), (cD (dI .i64))]]
def u104_0_3 {β : Type} (g : St → β) : Int → Int → Int → Int → Int → Int → Int → Int → Int → β := p104_0_3.unc g

def pr104_0_0 : PT (List RV) := pRs [pR false [rD (dI .i64)], pR false [rD (dI .i64)]]
def ur104_0_0 {β : Type} (g : List RV → β) : Int → Int → β := pr104_0_0.unc g

def E104_0g (vf103_0 : Tf103_0) : EnvK := EnvK.of [⟨103, nt103, [⟨pa103_0, Fn103_0 vf103_0⟩]⟩] noSeq
noncomputable def E104_0 : EnvK := E104_0g f103_0
theorem eo104_0 : E104_0.Ok Try.prog := EnvK.of_ok noSeq_ok ⟨⟨io103_0, trivial⟩, trivial⟩

noncomputable def c104_0_21g  : MCode := (.region r104_22 [] (some ⟨[4, 5, 6, 7, 8, 9, 45], true, [], []⟩))
noncomputable def c104_0_21 : MCode := c104_0_21g 
theorem g104_0_21 : c104_0_21.Good Try.prog E104_0 sh104 := trivial
--CODE 21 0
abbrev TJ104_0_1 : Type 1 := (α : Type) → Int → Int → Int → Int → Int → Int → Int → (Bool → Option α) → Option α
def J104_0_1g  (α : Type) (x43 : Int) (x46 : Int) (x47 : Int) (x48 : Int) (x49 : Int) (x50 : Int) (x51 : Int) (k1 : Bool → Option α) : Option α :=
 cK (x43 == 2)
 (cK (decide (0 < x50))
 (k1 true)
 (cK (x43 == 2)
 (k1 (decide (x51 < 0)))
 (cK (x43 == 1)
 (k1 (decide (x49 < 0)))
 (cK (x43 == 0)
 (k1 (decide (x47 < 0)))
 (none)))))
 (cK (x43 == 1)
 (cK (decide (0 < x48))
 (k1 true)
 (cK (x43 == 2)
 (k1 (decide (x51 < 0)))
 (cK (x43 == 1)
 (k1 (decide (x49 < 0)))
 (cK (x43 == 0)
 (k1 (decide (x47 < 0)))
 (none)))))
 (cK (x43 == 0)
 (cK (decide (0 < x46))
 (k1 true)
 (cK (x43 == 2)
 (k1 (decide (x51 < 0)))
 (cK (x43 == 1)
 (k1 (decide (x49 < 0)))
 (cK (x43 == 0)
 (k1 (decide (x47 < 0)))
 (none)))))
 (none)))
noncomputable def J104_0_1 (α : Type) (x43 : Int) (x46 : Int) (x47 : Int) (x48 : Int) (x49 : Int) (x50 : Int) (x51 : Int) (k1 : Bool → Option α) : Option α := J104_0_1g  α x43 x46 x47 x48 x49 x50 x51 k1
def F104_0_1 (v : TJ104_0_1) (α : Type) (K : Exit → St → Option α) : Int → Int → Int → Int → Int → Int → Int → Int → Int → Int → Int → Option α := fun x41 x42 x43 x44 x45 x46 x47 x48 x49 x50 x51 => v α x43 x46 x47 x48 x49 x50 x51 (fun (y1 : Bool) => u104_0_2 (K .normal) x41 x42 x43 x44 x45 y1 x46 x47 x48 x49 x50 x51) 
theorem m104_0_1g (vf103_0 : Tf103_0)  (α : Type) (K : Exit → St → Option α) : F104_0_1 (J104_0_1g ) α K = p104_0_1.unc fun σ => runM Try.prog (E104_0g vf103_0) sh104 (c104_0_21g ) K σ := by kernel_rfl
theorem m104_0_1 : ∀ (α : Type) (K : Exit → St → Option α), F104_0_1 J104_0_1 α K = p104_0_1.unc fun σ => runM Try.prog E104_0 sh104 c104_0_21 K σ := m104_0_1g f103_0

noncomputable def c104_0_18g  : MCode := (.region r104_19 [] (some ⟨[4, 5, 6, 7, 8, 9], true, [], []⟩))
noncomputable def c104_0_18 : MCode := c104_0_18g 
theorem g104_0_18 : c104_0_18.Good Try.prog E104_0 sh104 := trivial
--CODE 18 0
abbrev TJ104_0_0 : Type 1 := (α : Type) → Int → Int → Int → Int → Int → Int → Int → (Int → Int → Option α) → Option α
def J104_0_0g  (α : Type) (x29 : Int) (x31 : Int) (x32 : Int) (x33 : Int) (x34 : Int) (x35 : Int) (x36 : Int) (k1 : Int → Int → Option α) : Option α :=
 cK (x29 == 2)
 (cK (x29 == 2)
 (cK (x29 == 2)
 (cK (x29 == 2)
 (k1 (w64 (x35 * x35)) (w64 (x36 * x36)))
 (cK (x29 == 1)
 (k1 (w64 (x35 * x35)) (w64 (x36 * x34)))
 (cK (x29 == 0)
 (k1 (w64 (x35 * x35)) (w64 (x36 * x32)))
 (none))))
 (cK (x29 == 1)
 (cK (x29 == 2)
 (k1 (w64 (x35 * x35)) (w64 (x34 * x36)))
 (cK (x29 == 1)
 (k1 (w64 (x35 * x35)) (w64 (x34 * x34)))
 (cK (x29 == 0)
 (k1 (w64 (x35 * x35)) (w64 (x34 * x32)))
 (none))))
 (cK (x29 == 0)
 (cK (x29 == 2)
 (k1 (w64 (x35 * x35)) (w64 (x32 * x36)))
 (cK (x29 == 1)
 (k1 (w64 (x35 * x35)) (w64 (x32 * x34)))
 (cK (x29 == 0)
 (k1 (w64 (x35 * x35)) (w64 (x32 * x32)))
 (none))))
 (none))))
 (cK (x29 == 1)
 (cK (x29 == 2)
 (cK (x29 == 2)
 (k1 (w64 (x35 * x33)) (w64 (x36 * x36)))
 (cK (x29 == 1)
 (k1 (w64 (x35 * x33)) (w64 (x36 * x34)))
 (cK (x29 == 0)
 (k1 (w64 (x35 * x33)) (w64 (x36 * x32)))
 (none))))
 (cK (x29 == 1)
 (cK (x29 == 2)
 (k1 (w64 (x35 * x33)) (w64 (x34 * x36)))
 (cK (x29 == 1)
 (k1 (w64 (x35 * x33)) (w64 (x34 * x34)))
 (cK (x29 == 0)
 (k1 (w64 (x35 * x33)) (w64 (x34 * x32)))
 (none))))
 (cK (x29 == 0)
 (cK (x29 == 2)
 (k1 (w64 (x35 * x33)) (w64 (x32 * x36)))
 (cK (x29 == 1)
 (k1 (w64 (x35 * x33)) (w64 (x32 * x34)))
 (cK (x29 == 0)
 (k1 (w64 (x35 * x33)) (w64 (x32 * x32)))
 (none))))
 (none))))
 (cK (x29 == 0)
 (cK (x29 == 2)
 (cK (x29 == 2)
 (k1 (w64 (x35 * x31)) (w64 (x36 * x36)))
 (cK (x29 == 1)
 (k1 (w64 (x35 * x31)) (w64 (x36 * x34)))
 (cK (x29 == 0)
 (k1 (w64 (x35 * x31)) (w64 (x36 * x32)))
 (none))))
 (cK (x29 == 1)
 (cK (x29 == 2)
 (k1 (w64 (x35 * x31)) (w64 (x34 * x36)))
 (cK (x29 == 1)
 (k1 (w64 (x35 * x31)) (w64 (x34 * x34)))
 (cK (x29 == 0)
 (k1 (w64 (x35 * x31)) (w64 (x34 * x32)))
 (none))))
 (cK (x29 == 0)
 (cK (x29 == 2)
 (k1 (w64 (x35 * x31)) (w64 (x32 * x36)))
 (cK (x29 == 1)
 (k1 (w64 (x35 * x31)) (w64 (x32 * x34)))
 (cK (x29 == 0)
 (k1 (w64 (x35 * x31)) (w64 (x32 * x32)))
 (none))))
 (none))))
 (none))))
 (cK (x29 == 1)
 (cK (x29 == 2)
 (cK (x29 == 2)
 (cK (x29 == 2)
 (k1 (w64 (x33 * x35)) (w64 (x36 * x36)))
 (cK (x29 == 1)
 (k1 (w64 (x33 * x35)) (w64 (x36 * x34)))
 (cK (x29 == 0)
 (k1 (w64 (x33 * x35)) (w64 (x36 * x32)))
 (none))))
 (cK (x29 == 1)
 (cK (x29 == 2)
 (k1 (w64 (x33 * x35)) (w64 (x34 * x36)))
 (cK (x29 == 1)
 (k1 (w64 (x33 * x35)) (w64 (x34 * x34)))
 (cK (x29 == 0)
 (k1 (w64 (x33 * x35)) (w64 (x34 * x32)))
 (none))))
 (cK (x29 == 0)
 (cK (x29 == 2)
 (k1 (w64 (x33 * x35)) (w64 (x32 * x36)))
 (cK (x29 == 1)
 (k1 (w64 (x33 * x35)) (w64 (x32 * x34)))
 (cK (x29 == 0)
 (k1 (w64 (x33 * x35)) (w64 (x32 * x32)))
 (none))))
 (none))))
 (cK (x29 == 1)
 (cK (x29 == 2)
 (cK (x29 == 2)
 (k1 (w64 (x33 * x33)) (w64 (x36 * x36)))
 (cK (x29 == 1)
 (k1 (w64 (x33 * x33)) (w64 (x36 * x34)))
 (cK (x29 == 0)
 (k1 (w64 (x33 * x33)) (w64 (x36 * x32)))
 (none))))
 (cK (x29 == 1)
 (cK (x29 == 2)
 (k1 (w64 (x33 * x33)) (w64 (x34 * x36)))
 (cK (x29 == 1)
 (k1 (w64 (x33 * x33)) (w64 (x34 * x34)))
 (cK (x29 == 0)
 (k1 (w64 (x33 * x33)) (w64 (x34 * x32)))
 (none))))
 (cK (x29 == 0)
 (cK (x29 == 2)
 (k1 (w64 (x33 * x33)) (w64 (x32 * x36)))
 (cK (x29 == 1)
 (k1 (w64 (x33 * x33)) (w64 (x32 * x34)))
 (cK (x29 == 0)
 (k1 (w64 (x33 * x33)) (w64 (x32 * x32)))
 (none))))
 (none))))
 (cK (x29 == 0)
 (cK (x29 == 2)
 (cK (x29 == 2)
 (k1 (w64 (x33 * x31)) (w64 (x36 * x36)))
 (cK (x29 == 1)
 (k1 (w64 (x33 * x31)) (w64 (x36 * x34)))
 (cK (x29 == 0)
 (k1 (w64 (x33 * x31)) (w64 (x36 * x32)))
 (none))))
 (cK (x29 == 1)
 (cK (x29 == 2)
 (k1 (w64 (x33 * x31)) (w64 (x34 * x36)))
 (cK (x29 == 1)
 (k1 (w64 (x33 * x31)) (w64 (x34 * x34)))
 (cK (x29 == 0)
 (k1 (w64 (x33 * x31)) (w64 (x34 * x32)))
 (none))))
 (cK (x29 == 0)
 (cK (x29 == 2)
 (k1 (w64 (x33 * x31)) (w64 (x32 * x36)))
 (cK (x29 == 1)
 (k1 (w64 (x33 * x31)) (w64 (x32 * x34)))
 (cK (x29 == 0)
 (k1 (w64 (x33 * x31)) (w64 (x32 * x32)))
 (none))))
 (none))))
 (none))))
 (cK (x29 == 0)
 (cK (x29 == 2)
 (cK (x29 == 2)
 (cK (x29 == 2)
 (k1 (w64 (x31 * x35)) (w64 (x36 * x36)))
 (cK (x29 == 1)
 (k1 (w64 (x31 * x35)) (w64 (x36 * x34)))
 (cK (x29 == 0)
 (k1 (w64 (x31 * x35)) (w64 (x36 * x32)))
 (none))))
 (cK (x29 == 1)
 (cK (x29 == 2)
 (k1 (w64 (x31 * x35)) (w64 (x34 * x36)))
 (cK (x29 == 1)
 (k1 (w64 (x31 * x35)) (w64 (x34 * x34)))
 (cK (x29 == 0)
 (k1 (w64 (x31 * x35)) (w64 (x34 * x32)))
 (none))))
 (cK (x29 == 0)
 (cK (x29 == 2)
 (k1 (w64 (x31 * x35)) (w64 (x32 * x36)))
 (cK (x29 == 1)
 (k1 (w64 (x31 * x35)) (w64 (x32 * x34)))
 (cK (x29 == 0)
 (k1 (w64 (x31 * x35)) (w64 (x32 * x32)))
 (none))))
 (none))))
 (cK (x29 == 1)
 (cK (x29 == 2)
 (cK (x29 == 2)
 (k1 (w64 (x31 * x33)) (w64 (x36 * x36)))
 (cK (x29 == 1)
 (k1 (w64 (x31 * x33)) (w64 (x36 * x34)))
 (cK (x29 == 0)
 (k1 (w64 (x31 * x33)) (w64 (x36 * x32)))
 (none))))
 (cK (x29 == 1)
 (cK (x29 == 2)
 (k1 (w64 (x31 * x33)) (w64 (x34 * x36)))
 (cK (x29 == 1)
 (k1 (w64 (x31 * x33)) (w64 (x34 * x34)))
 (cK (x29 == 0)
 (k1 (w64 (x31 * x33)) (w64 (x34 * x32)))
 (none))))
 (cK (x29 == 0)
 (cK (x29 == 2)
 (k1 (w64 (x31 * x33)) (w64 (x32 * x36)))
 (cK (x29 == 1)
 (k1 (w64 (x31 * x33)) (w64 (x32 * x34)))
 (cK (x29 == 0)
 (k1 (w64 (x31 * x33)) (w64 (x32 * x32)))
 (none))))
 (none))))
 (cK (x29 == 0)
 (cK (x29 == 2)
 (cK (x29 == 2)
 (k1 (w64 (x31 * x31)) (w64 (x36 * x36)))
 (cK (x29 == 1)
 (k1 (w64 (x31 * x31)) (w64 (x36 * x34)))
 (cK (x29 == 0)
 (k1 (w64 (x31 * x31)) (w64 (x36 * x32)))
 (none))))
 (cK (x29 == 1)
 (cK (x29 == 2)
 (k1 (w64 (x31 * x31)) (w64 (x34 * x36)))
 (cK (x29 == 1)
 (k1 (w64 (x31 * x31)) (w64 (x34 * x34)))
 (cK (x29 == 0)
 (k1 (w64 (x31 * x31)) (w64 (x34 * x32)))
 (none))))
 (cK (x29 == 0)
 (cK (x29 == 2)
 (k1 (w64 (x31 * x31)) (w64 (x32 * x36)))
 (cK (x29 == 1)
 (k1 (w64 (x31 * x31)) (w64 (x32 * x34)))
 (cK (x29 == 0)
 (k1 (w64 (x31 * x31)) (w64 (x32 * x32)))
 (none))))
 (none))))
 (none))))
 (none)))
noncomputable def J104_0_0 (α : Type) (x29 : Int) (x31 : Int) (x32 : Int) (x33 : Int) (x34 : Int) (x35 : Int) (x36 : Int) (k1 : Int → Int → Option α) : Option α := J104_0_0g  α x29 x31 x32 x33 x34 x35 x36 k1
def F104_0_0 (v : TJ104_0_0) (α : Type) (K : Exit → St → Option α) : Int → Int → Int → Bool → Int → Int → Int → Int → Int → Int → Option α := fun x27 x28 x29 x30 x31 x32 x33 x34 x35 x36 => v α x29 x31 x32 x33 x34 x35 x36 (fun (y1 : Int) (y2 : Int) => u104_0_1 (K .normal) x27 x28 x29 y1 y2 x31 x32 x33 x34 x35 x36) 
theorem m104_0_0g (vf103_0 : Tf103_0)  (α : Type) (K : Exit → St → Option α) : F104_0_0 (J104_0_0g ) α K = p104_0_0.unc fun σ => runM Try.prog (E104_0g vf103_0) sh104 (c104_0_18g ) K σ := by kernel_rfl
theorem m104_0_0 : ∀ (α : Type) (K : Exit → St → Option α), F104_0_0 J104_0_0 α K = p104_0_0.unc fun σ => runM Try.prog E104_0 sh104 c104_0_18 K σ := m104_0_0g f103_0

noncomputable def c104_0_11g (vJ104_0_0 : TJ104_0_0) (vJ104_0_1 : TJ104_0_1) : MCode := (.seq (.seq (.region r104_14 [] (some ⟨[4, 5, 6, 7, 13], true, [], []⟩)) (.cond (.tmp 13) .skip (.exit 0))) (.seq (.block 1 (.seq (.mark [⟨p104_0_0, F104_0_0 vJ104_0_0⟩] c104_0_18) (.seq (.seq (.mark [⟨p104_0_1, F104_0_1 vJ104_0_1⟩] c104_0_21) (.cond (.tmp 45) (.region r104_24 [] (some ⟨[4, 5, 6, 7, 8, 9], true, [], []⟩)) .skip)) (.region r104_25 [] (some ⟨[4, 5, 6, 7], true, [], []⟩))))) (.region r104_26 [] (some ⟨[4, 5, 6, 7], true, [], []⟩))))
noncomputable def c104_0_11 : MCode := c104_0_11g J104_0_0 J104_0_1
theorem g104_0_11 : c104_0_11.Good Try.prog E104_0 sh104 := ⟨⟨trivial, ⟨trivial, trivial⟩⟩, ⟨⟨⟨g104_0_18, m104_0_0, trivial⟩, ⟨⟨⟨g104_0_21, m104_0_1, trivial⟩, ⟨trivial, trivial⟩⟩, trivial⟩⟩, trivial⟩⟩
--CODE 11 0
def S104_0_2g (vJ104_0_0 : TJ104_0_0) (vJ104_0_1 : TJ104_0_1) (α : Type) (x20 : Int) (x21 : Int) (x22 : Int) (x23 : Int) (x24 : Int) (x25 : Int) (x17 : Int) (x18 : Int) (x19 : Int) (kn : Int → Int → Int → Option α) (k1 : Int → Int → Int → Bool → Option α) : Option α :=
 cK (decide (x19 < 3))
 (vJ104_0_0 α x19 x20 x21 x22 x23 x24 x25
 (fun (x38 : Int) (x39 : Int) => vJ104_0_1 α x19 x20 x21 x22 x23 x24 x25
 (fun (x53 : Bool) => cK x53
 (kn (w64 (x17 + (if x39 < x38 then x39 else x38))) (w64 (x18 + (if x39 > x38 then x39 else x38))) (w64 (x19 + 1)))
 (kn x17 (w64 (x18 + (if x39 > x38 then x39 else x38))) (w64 (x19 + 1))))))
 (k1 x17 x18 x19 (decide (x19 < 3)))
noncomputable def S104_0_2 (α : Type) (x20 : Int) (x21 : Int) (x22 : Int) (x23 : Int) (x24 : Int) (x25 : Int) (x17 : Int) (x18 : Int) (x19 : Int) (kn : Int → Int → Int → Option α) (k1 : Int → Int → Int → Bool → Option α) : Option α := S104_0_2g J104_0_0 J104_0_1 α x20 x21 x22 x23 x24 x25 x17 x18 x19 kn k1
noncomputable def R104_0_2 (α : Type) (x20 : Int) (x21 : Int) (x22 : Int) (x23 : Int) (x24 : Int) (x25 : Int) (k1 : Int → Int → Int → Bool → Option α) : Nat → Int → Int → Int → Option α
 | 0, _, _, _ => none
 | n + 1, x17, x18, x19 => S104_0_2 α x20 x21 x22 x23 x24 x25 x17 x18 x19 (R104_0_2 α x20 x21 x22 x23 x24 x25 k1 n) k1
noncomputable def L104_0_2 (α : Type) (x20 : Int) (x21 : Int) (x22 : Int) (x23 : Int) (x24 : Int) (x25 : Int) (k1 : Int → Int → Int → Bool → Option α) (x17 : Int) (x18 : Int) (x19 : Int) : Option α := R104_0_2 α x20 x21 x22 x23 x24 x25 k1 fuel x17 x18 x19
abbrev TL104_0_2 : Type 1 := (α : Type) → Int → Int → Int → Int → Int → Int → (Int → Int → Int → Bool → Option α) → Int → Int → Int → Option α
def F104_0_2 (v : TL104_0_2) (α : Type) (K : Exit → St → Option α) : Int → Int → Int → Int → Int → Int → Int → Int → Int → Option α := fun x17 x18 x19 x20 x21 x22 x23 x24 x25 => v α x20 x21 x22 x23 x24 x25 (fun (y1 : Int) (y2 : Int) (y3 : Int) (y4 : Bool) => u104_0_0 (K (.exit 0)) y1 y2 y3 y4 x20 x21 x22 x23 x24 x25) x17 x18 x19
theorem r104_0_2g (vf103_0 : Tf103_0) (vJ104_0_0 : TJ104_0_0) (vJ104_0_1 : TJ104_0_1) (α : Type) (K : Exit → St → Option α) (Kn : St → Option α) (x17 : Int) (x18 : Int) (x19 : Int) (x20 : Int) (x21 : Int) (x22 : Int) (x23 : Int) (x24 : Int) (x25 : Int) : u104_0_3 (fun σ => runM Try.prog (E104_0g vf103_0) sh104 (c104_0_11g vJ104_0_0 vJ104_0_1) (thenK (fun σ => tidyK td104_11 σ Kn) K) σ) x17 x18 x19 x20 x21 x22 x23 x24 x25 = S104_0_2g vJ104_0_0 vJ104_0_1 α x20 x21 x22 x23 x24 x25 x17 x18 x19 (fun x17 x18 x19 => u104_0_3 Kn x17 x18 x19 x20 x21 x22 x23 x24 x25) (fun (y1 : Int) (y2 : Int) (y3 : Int) (y4 : Bool) => u104_0_0 (K (.exit 0)) y1 y2 y3 y4 x20 x21 x22 x23 x24 x25) := by kernel_rfl
theorem r104_0_2 (α : Type) (K : Exit → St → Option α) (Kn : St → Option α) (x17 : Int) (x18 : Int) (x19 : Int) (x20 : Int) (x21 : Int) (x22 : Int) (x23 : Int) (x24 : Int) (x25 : Int) : u104_0_3 (fun σ => runM Try.prog E104_0 sh104 c104_0_11 (thenK (fun σ => tidyK td104_11 σ Kn) K) σ) x17 x18 x19 x20 x21 x22 x23 x24 x25 = S104_0_2 α x20 x21 x22 x23 x24 x25 x17 x18 x19 (fun x17 x18 x19 => u104_0_3 Kn x17 x18 x19 x20 x21 x22 x23 x24 x25) (fun (y1 : Int) (y2 : Int) (y3 : Int) (y4 : Bool) => u104_0_0 (K (.exit 0)) y1 y2 y3 y4 x20 x21 x22 x23 x24 x25) := r104_0_2g f103_0 J104_0_0 J104_0_1 α K Kn x17 x18 x19 x20 x21 x22 x23 x24 x25
theorem t104_0_2 (α : Type) (K : Exit → St → Option α) : ∀ (n : Nat) (x17 : Int) (x18 : Int) (x19 : Int) (x20 : Int) (x21 : Int) (x22 : Int) (x23 : Int) (x24 : Int) (x25 : Int), R104_0_2 α x20 x21 x22 x23 x24 x25 (fun (y1 : Int) (y2 : Int) (y3 : Int) (y4 : Bool) => u104_0_0 (K (.exit 0)) y1 y2 y3 y4 x20 x21 x22 x23 x24 x25) n x17 x18 x19 = u104_0_3 (loopT (runM Try.prog E104_0 sh104 c104_0_11) td104_11 K n) x17 x18 x19 x20 x21 x22 x23 x24 x25 := by
 intro n
 induction n with
 | zero => intros; rfl
 | succ n ih => intro x17 x18 x19 x20 x21 x22 x23 x24 x25; exact (congrArg (fun kn => S104_0_2 α x20 x21 x22 x23 x24 x25 x17 x18 x19 kn (fun (y1 : Int) (y2 : Int) (y3 : Int) (y4 : Bool) => u104_0_0 (K (.exit 0)) y1 y2 y3 y4 x20 x21 x22 x23 x24 x25)) (funext fun x17 => funext fun x18 => funext fun x19 => ih x17 x18 x19 x20 x21 x22 x23 x24 x25)).trans (r104_0_2 α K (loopT (runM Try.prog E104_0 sh104 c104_0_11) td104_11 K n) x17 x18 x19 x20 x21 x22 x23 x24 x25).symm
theorem m104_0_2 : ∀ (α : Type) (K : Exit → St → Option α), F104_0_2 L104_0_2 α K = p104_0_3.unc fun σ => loopT (runM Try.prog E104_0 sh104 c104_0_11) td104_11 K fuel σ := fun α K => funext fun x17 => funext fun x18 => funext fun x19 => funext fun x20 => funext fun x21 => funext fun x22 => funext fun x23 => funext fun x24 => funext fun x25 => t104_0_2 α K fuel x17 x18 x19 x20 x21 x22 x23 x24 x25

/-- etalon/etalonref06.squares -/
abbrev Tf104_0 : Type 1 := (α : Type) → ByteArray → Int → Int → Int → Int → Int → Int → Int → Int → Int → (Int → Int → Option α) → Option α
def f104_0g (vL104_0_2 : TL104_0_2) (vf103_0 : Tf103_0) (α : Type) (x1 : ByteArray) (x2 : Int) (x3 : Int) (x4 : Int) (x5 : Int) (x6 : Int) (x7 : Int) (x8 : Int) (x9 : Int) (x10 : Int) (k1 : Int → Int → Option α) : Option α :=
 vf103_0 α x1 x2 x3 x4 x5 x6 x7 x8 x9 x10
 (fun (x11 : Int) (x12 : Int) (x13 : Int) (x14 : Int) (x15 : Int) (x16 : Int) => vL104_0_2 α x11 x12 x13 x14 x15 x16
 (fun (x55 : Int) (x56 : Int) (x57 : Int) (x58 : Bool) => k1 x55 x56) 0 0 0)
noncomputable def f104_0 (α : Type) (x1 : ByteArray) (x2 : Int) (x3 : Int) (x4 : Int) (x5 : Int) (x6 : Int) (x7 : Int) (x8 : Int) (x9 : Int) (x10 : Int) (k1 : Int → Int → Option α) : Option α := f104_0g L104_0_2 f103_0 α x1 x2 x3 x4 x5 x6 x7 x8 x9 x10 k1
def pa104_0 : PT (List DV) := pA [pV true [dS, (dI .i64), (dI .i64), (dI .i64), (dI .i64), (dI .i64), (dI .i64), (dI .i64), (dI .i64), (dI .i64)]]
def Fn104_0 (v : Tf104_0) (α : Type) (k : List RV → Option α) : ByteArray → Int → Int → Int → Int → Int → Int → Int → Int → Int → Option α := fun x1 x2 x3 x4 x5 x6 x7 x8 x9 x10 => v α x1 x2 x3 x4 x5 x6 x7 x8 x9 x10 (fun (y1 : Int) (y2 : Int) => ur104_0_0 k y1 y2)
noncomputable def cm104_0g (vL104_0_2 : TL104_0_2) : MCode := (.seq (.region r104_2 [] (some ⟨[1], true, [], []⟩)) (.seq (.region r104_4 [] (some ⟨[1, 4, 5], true, [], []⟩)) (.seq (.region r104_6 [] (some ⟨[4, 5, 6], true, [], []⟩)) (.seq (.seq (.region r104_9 [] (some ⟨[4, 5, 6, 7], true, [], []⟩)) (.block 0 (.loop td104_11 [⟨p104_0_3, F104_0_2 vL104_0_2⟩] c104_0_11))) (.seq (.region r104_28 [] (some ⟨[2, 3], true, [], []⟩)) .ret)))))
noncomputable def cm104_0 : MCode := cm104_0g L104_0_2
theorem gm104_0 : cm104_0.Good Try.prog E104_0 sh104 := ⟨trivial, ⟨trivial, ⟨trivial, ⟨⟨trivial, ⟨g104_0_11, m104_0_2, trivial⟩⟩, ⟨trivial, trivial⟩⟩⟩⟩⟩
theorem fm104_0g (vf103_0 : Tf103_0) (vL104_0_2 : TL104_0_2) (α : Type) (k : List RV → Option α) : Fn104_0 (f104_0g vL104_0_2 vf103_0) α k = pa104_0.unc fun ds => fnM Try.prog (E104_0g vf103_0) sh104 (cm104_0g vL104_0_2) rs104 k ds := by kernel_rfl
theorem fm104_0 : ∀ (α : Type) (k : List RV → Option α), Fn104_0 f104_0 α k = pa104_0.unc fun ds => fnM Try.prog E104_0 sh104 cm104_0 rs104 k ds := fm104_0g f103_0 L104_0_2

theorem is104 : FnIs Try.prog 104 nt104 tr104 tl104 cm104_0.erase rs104 := ⟨Try.f104, Try.func104, rfl, by kernel_rfl, by kernel_rfl, by kernel_rfl⟩
theorem io104_0 : InstOk Try.prog 104 nt104 ⟨pa104_0, Fn104_0 f104_0⟩ := inst_ok eo104_0 followsTry is104 ⟨⟨sh104, cm104_0, by kernel_rfl, gm104_0, fm104_0⟩⟩


end Go.AM.K
