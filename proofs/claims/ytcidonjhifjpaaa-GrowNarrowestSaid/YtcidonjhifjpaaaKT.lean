/- Printed by KGen. -/
import Derived.Test.YtcidonjhifjpaaaAcC
namespace Go.AM.K
open Go.Proofs
set_option maxRecDepth 100000
set_option linter.unusedVariables false

theorem followsTry : Try.prog.follows .mixedOrders = true := by kernel_rfl

/-! ### F36 etalon/etalonbase.Ranges -/
abbrev nt36 : Nat := 26
def sh36 : List (Nat × List Sh) := [(19, [.int .i64, .int .i64]), (20, [.int .i64, .int .i64]), (23, [.int .i64, .int .i64]), (24, [.int .i64, .int .i64])]
def r36_2 : List AOper := [⟨(some 4), (.mv (.const (.bool false))), none⟩]
def r36_5 : List AOper := [⟨(some 6), (.mv (.tmp 0)), none⟩, ⟨(some 7), (.len (.tmp 6)), none⟩, ⟨(some 8), (.mv (.tmp 1)), none⟩, ⟨(some 9), (.len (.tmp 8)), none⟩, ⟨(some 10), (.bin .neq 3 (.tmp 7) (.tmp 9)), none⟩]
def r36_8 : List AOper := [⟨(some 4), (.mv (.const (.bool false))), none⟩]
def r36_11 : List AOper := [⟨(some 5), (.mv (.const (.int .i64 0))), none⟩]
def td36_13 : Option Tidy := (some ⟨[0, 1, 5], true, [], []⟩)
def r36_16 : List AOper := [⟨(some 11), (.mv (.tmp 5)), none⟩, ⟨(some 12), (.mv (.tmp 0)), none⟩, ⟨(some 13), (.len (.tmp 12)), none⟩, ⟨(some 14), (.bin .lss 3 (.tmp 11) (.tmp 13)), none⟩]
def r36_21 : List AOper := [⟨(some 17), (.mv (.tmp 0)), none⟩, ⟨(some 18), (.mv (.tmp 5)), none⟩, ⟨(some 19), (.iaddr 2 none (.tmp 17) (.tmp 18)), none⟩, ⟨(some 20), (.load true 2 (.tmp 19)), none⟩, ⟨(some 21), (.mv (.tmp 1)), none⟩, ⟨(some 22), (.mv (.tmp 5)), none⟩, ⟨(some 23), (.iaddr 2 none (.tmp 21) (.tmp 22)), none⟩, ⟨(some 24), (.load true 2 (.tmp 23)), none⟩, ⟨(some 25), (.bin .neq 23 (.tmp 20) (.tmp 24)), none⟩]
def r36_24 : List AOper := [⟨(some 4), (.mv (.const (.bool false))), none⟩]
def r36_25 : List AOper := [⟨(some 15), (.mv (.tmp 5)), none⟩, ⟨(some 16), (.bin .add 3 (.tmp 15) (.const (.int .i64 1))), none⟩, ⟨(some 5), (.mv (.tmp 16)), none⟩]
def r36_27 : List AOper := [⟨(some 4), (.mv (.const (.bool true))), none⟩]
def tr36 : List (Nat × Tidy) := [(0, ⟨[0, 1], true, [], []⟩), (1, ⟨[0, 1, 10], true, [], []⟩), (2, ⟨[4], true, [], []⟩), (3, ⟨[0, 1, 5], true, [], []⟩), (4, ⟨[0, 1, 5, 14], true, [], []⟩), (6, ⟨[0, 1, 5, 25], true, [], []⟩), (7, ⟨[4], true, [], []⟩), (5, ⟨[0, 1, 5], true, [], []⟩), (8, ⟨[4], true, [], []⟩)]
def tl36 : List (Nat × Tidy) := [(4, ⟨[0, 1, 5], true, [], []⟩)]
def rs36 : List AResV := [.tmp 4]
def p36_0_0 : PT St := pS [sl 0 (aV false [(cD dL)]), sl 1 (aV false [(cD dL)]), sl 5 (aV false [(cD (dI .i64))])] []
def u36_0_0 {β : Type} (g : St → β) : Rows → Rows → Int → β := p36_0_0.unc g

def p36_0_1 : PT St := pS [sl 4 (aV false [(cD dB)])] []
def u36_0_1 {β : Type} (g : St → β) : Bool → β := p36_0_1.unc g

def p36_0_2 : PT St := pS [sl 0 (aV false [(cD dL)]), sl 1 (aV false [(cD dL)]), sl 5 (aV false [(cD (dI .i64))]), sl 14 (aV false [(cD dB)])] []
def u36_0_2 {β : Type} (g : St → β) : Rows → Rows → Int → Bool → β := p36_0_2.unc g

def pr36_0_0 : PT (List RV) := pRs [pR false [rD dB]]
def ur36_0_0 {β : Type} (g : List RV → β) : Bool → β := pr36_0_0.unc g

def E36_0g  : EnvK := EnvK.of [] noSeq
noncomputable def E36_0 : EnvK := E36_0g 
theorem eo36_0 : E36_0.Ok Try.prog := EnvK.of_ok noSeq_ok trivial

noncomputable def c36_0_13g  : MCode := (.seq (.seq (.region r36_16 [] (some ⟨[0, 1, 5, 14], true, [], []⟩)) (.cond (.tmp 14) .skip (.exit 0))) (.seq (.block 1 (.seq (.region r36_21 [] (some ⟨[0, 1, 5, 25], true, [], []⟩)) (.cond (.tmp 25) (.seq (.region r36_24 [] (some ⟨[4], true, [], []⟩)) .ret) .skip))) (.region r36_25 [] (some ⟨[0, 1, 5], true, [], []⟩))))
noncomputable def c36_0_13 : MCode := c36_0_13g 
theorem g36_0_13 : c36_0_13.Good Try.prog E36_0 sh36 := ⟨⟨trivial, ⟨trivial, trivial⟩⟩, ⟨⟨trivial, ⟨⟨trivial, trivial⟩, trivial⟩⟩, trivial⟩⟩
--CODE 13 0
def S36_0_0g  (α : Type) (x3 : Rows) (x4 : Rows) (x5 : Int) (kn : Int → Option α) (k1 : Option α) (k2 : Int → Bool → Option α) : Option α :=
  cK (decide (x5 < ((List.length x3 : Nat) : Int)))
    (rowK x3 x5 [.int .i64, .int .i64]
      (fun (x6 : Int) (x7 : Int) => rowK x4 x5 [.int .i64, .int .i64]
        (fun (x8 : Int) (x9 : Int) => cK (!((x6 == x8) && ((x7 == x9) && true)))
          (k1)
          (kn (w64 (x5 + 1))))))
    (k2 x5 (decide (x5 < ((List.length x3 : Nat) : Int))))
noncomputable def S36_0_0 (α : Type) (x3 : Rows) (x4 : Rows) (x5 : Int) (kn : Int → Option α) (k1 : Option α) (k2 : Int → Bool → Option α) : Option α := S36_0_0g  α x3 x4 x5 kn k1 k2
noncomputable def R36_0_0 (α : Type) (x3 : Rows) (x4 : Rows) (k1 : Option α) (k2 : Int → Bool → Option α) : Nat → Int → Option α
  | 0, _ => none
  | n + 1, x5 => S36_0_0 α x3 x4 x5 (R36_0_0 α x3 x4 k1 k2 n) k1 k2
noncomputable def L36_0_0 (α : Type) (x3 : Rows) (x4 : Rows) (k1 : Option α) (k2 : Int → Bool → Option α) (x5 : Int) : Option α := R36_0_0 α x3 x4 k1 k2 fuel x5
abbrev TL36_0_0 : Type 1 := (α : Type) → Rows → Rows → (Option α) → (Int → Bool → Option α) → Int → Option α
def F36_0_0 (v : TL36_0_0) (α : Type) (K : Exit → St → Option α) : Rows → Rows → Int → Option α := fun x3 x4 x5 => v α x3 x4 (u36_0_1 (K .ret) false) (fun (y1 : Int) (y2 : Bool) => u36_0_2 (K (.exit 0)) x3 x4 y1 y2) x5
theorem r36_0_0g   (α : Type) (K : Exit → St → Option α) (Kn : St → Option α) (x3 : Rows) (x4 : Rows) (x5 : Int) : u36_0_0 (fun σ => runM Try.prog (E36_0g ) sh36 (c36_0_13g ) (thenK (fun σ => tidyK td36_13 σ Kn) K) σ) x3 x4 x5 = S36_0_0g  α x3 x4 x5 (fun x5 => u36_0_0 Kn x3 x4 x5) (u36_0_1 (K .ret) false) (fun (y1 : Int) (y2 : Bool) => u36_0_2 (K (.exit 0)) x3 x4 y1 y2) := by kernel_rfl
theorem r36_0_0 (α : Type) (K : Exit → St → Option α) (Kn : St → Option α) (x3 : Rows) (x4 : Rows) (x5 : Int) : u36_0_0 (fun σ => runM Try.prog E36_0 sh36 c36_0_13 (thenK (fun σ => tidyK td36_13 σ Kn) K) σ) x3 x4 x5 = S36_0_0 α x3 x4 x5 (fun x5 => u36_0_0 Kn x3 x4 x5) (u36_0_1 (K .ret) false) (fun (y1 : Int) (y2 : Bool) => u36_0_2 (K (.exit 0)) x3 x4 y1 y2) := r36_0_0g  α K Kn x3 x4 x5
theorem t36_0_0 (α : Type) (K : Exit → St → Option α) : ∀ (n : Nat) (x3 : Rows) (x4 : Rows) (x5 : Int), R36_0_0 α x3 x4 (u36_0_1 (K .ret) false) (fun (y1 : Int) (y2 : Bool) => u36_0_2 (K (.exit 0)) x3 x4 y1 y2) n x5 = u36_0_0 (loopT (runM Try.prog E36_0 sh36 c36_0_13) td36_13 K n) x3 x4 x5 := by
  intro n
  induction n with
  | zero => intros; rfl
  | succ n ih => intro x3 x4 x5; exact (congrArg (fun kn => S36_0_0 α x3 x4 x5 kn (u36_0_1 (K .ret) false) (fun (y1 : Int) (y2 : Bool) => u36_0_2 (K (.exit 0)) x3 x4 y1 y2)) (funext fun x5 => ih x3 x4 x5)).trans (r36_0_0 α K (loopT (runM Try.prog E36_0 sh36 c36_0_13) td36_13 K n) x3 x4 x5).symm
theorem m36_0_0 : ∀ (α : Type) (K : Exit → St → Option α), F36_0_0 L36_0_0 α K = p36_0_0.unc fun σ => loopT (runM Try.prog E36_0 sh36 c36_0_13) td36_13 K fuel σ := fun α K => funext fun x3 => funext fun x4 => funext fun x5 => t36_0_0 α K fuel x3 x4 x5

/-- etalon/etalonbase.Ranges -/
abbrev Tf36_0 : Type 1 := (α : Type) → Rows → Rows → (Bool → Option α) → Option α
def f36_0g (vL36_0_0 : TL36_0_0) (α : Type) (x1 : Rows) (x2 : Rows) (k1 : Bool → Option α) : Option α :=
  cK (((List.length x1 : Nat) : Int) != ((List.length x2 : Nat) : Int))
    (k1 false)
    (vL36_0_0 α x1 x2
      (k1 false)
      (fun (x10 : Int) (x11 : Bool) => k1 true) 0)
noncomputable def f36_0 (α : Type) (x1 : Rows) (x2 : Rows) (k1 : Bool → Option α) : Option α := f36_0g L36_0_0 α x1 x2 k1
def pa36_0 : PT (List DV) := pA [pV false [dL], pV false [dL]]
def Fn36_0 (v : Tf36_0) (α : Type) (k : List RV → Option α) : Rows → Rows → Option α := fun x1 x2 => v α x1 x2 (fun (y1 : Bool) => ur36_0_0 k y1)
noncomputable def cm36_0g (vL36_0_0 : TL36_0_0) : MCode := (.seq (.region r36_2 [] (some ⟨[0, 1], true, [], []⟩)) (.seq (.seq (.region r36_5 [] (some ⟨[0, 1, 10], true, [], []⟩)) (.cond (.tmp 10) (.seq (.region r36_8 [] (some ⟨[4], true, [], []⟩)) .ret) .skip)) (.seq (.seq (.region r36_11 [] (some ⟨[0, 1, 5], true, [], []⟩)) (.block 0 (.loop td36_13 [⟨p36_0_0, F36_0_0 vL36_0_0⟩] c36_0_13))) (.seq (.region r36_27 [] (some ⟨[4], true, [], []⟩)) .ret))))
noncomputable def cm36_0 : MCode := cm36_0g L36_0_0
theorem gm36_0 : cm36_0.Good Try.prog E36_0 sh36 := ⟨trivial, ⟨⟨trivial, ⟨⟨trivial, trivial⟩, trivial⟩⟩, ⟨⟨trivial, ⟨g36_0_13, m36_0_0, trivial⟩⟩, ⟨trivial, trivial⟩⟩⟩⟩
theorem fm36_0g  (vL36_0_0 : TL36_0_0) (α : Type) (k : List RV → Option α) : Fn36_0 (f36_0g vL36_0_0) α k = pa36_0.unc fun ds => fnM Try.prog (E36_0g ) sh36 (cm36_0g vL36_0_0) rs36 k ds := by kernel_rfl
theorem fm36_0 : ∀ (α : Type) (k : List RV → Option α), Fn36_0 f36_0 α k = pa36_0.unc fun ds => fnM Try.prog E36_0 sh36 cm36_0 rs36 k ds := fm36_0g L36_0_0

theorem is36 : FnIs Try.prog 36 nt36 tr36 tl36 cm36_0.erase rs36 := ⟨Try.f36, Try.func36, rfl, by kernel_rfl, by kernel_rfl, by kernel_rfl⟩
theorem io36_0 : InstOk Try.prog 36 nt36 ⟨pa36_0, Fn36_0 f36_0⟩ := inst_ok eo36_0 followsTry is36 ⟨⟨sh36, cm36_0, by kernel_rfl, gm36_0, fm36_0⟩⟩

/-! ### F96 etalon/etalonref08.told -/
abbrev nt96 : Nat := 30
def sh96 : List (Nat × List Sh) := [(11, [.sl]), (13, [.int .i64, .int .i64]), (14, [.int .i64, .int .i64]), (16, [.int .i64]), (18, [.int .i64]), (20, [.int .i64]), (24, [.int .i64]), (26, [.int .i64])]
def r96_2 : List AOper := [⟨(some 2), (.box (.tmp 0)), none⟩, ⟨(some 4), (.mv (.const (.int .i64 0))), none⟩, ⟨(some 5), (.alloc [(.d (.v (.int .i64 0))), (.d (.v (.int .i64 0)))]), none⟩]
def r96_5 : List AOper := [⟨(some 7), (.mv (.tmp 1)), none⟩, ⟨(some 8), (.bin .lss 3 (.tmp 7) (.const (.int .i64 0))), none⟩]
def r96_8 : List AOper := [⟨(some 9), (.build [(.d (.v (.int .i64 0))), (.d (.v (.int .i64 0)))] []), none⟩, ⟨(some 4), (.mv (.const (.int .i64 0))), none⟩, ⟨none, (.store 2 (.tmp 5) (.tmp 9)), none⟩]
def r96_10 : List AOper := [⟨(some 10), (.faddr 3 (.tmp 2)), none⟩, ⟨(some 11), (.load false 1 (.tmp 10)), none⟩, ⟨(some 12), (.mv (.tmp 1)), none⟩, ⟨(some 13), (.iaddr 2 none (.tmp 11) (.tmp 12)), none⟩, ⟨(some 14), (.load true 2 (.tmp 13)), none⟩, ⟨(some 6), (.alloc [(.d (.v (.int .i64 0))), (.d (.v (.int .i64 0)))]), none⟩, ⟨none, (.store 2 (.tmp 6) (.tmp 14)), none⟩]
def r96_12 : List AOper := [⟨(some 15), (.faddr 0 (.tmp 6)), none⟩, ⟨(some 16), (.load false 1 (.tmp 15)), none⟩, ⟨(some 17), (.faddr 1 (.tmp 6)), none⟩, ⟨(some 18), (.load false 1 (.tmp 17)), none⟩, ⟨(some 19), (.faddr 2 (.tmp 2)), none⟩, ⟨(some 20), (.load false 1 (.tmp 19)), none⟩, ⟨(some 21), (.bin .sub 3 (.tmp 18) (.tmp 20)), none⟩, ⟨(some 22), (.bin .mul 3 (.const (.int .i64 1000)) (.tmp 21)), none⟩, ⟨(some 23), (.faddr 1 (.tmp 6)), none⟩, ⟨(some 24), (.load false 1 (.tmp 23)), none⟩, ⟨(some 25), (.faddr 2 (.tmp 2)), none⟩, ⟨(some 26), (.load false 1 (.tmp 25)), none⟩, ⟨(some 27), (.bin .add 3 (.tmp 24) (.tmp 26)), none⟩, ⟨(some 28), (.bin .mul 3 (.const (.int .i64 1000)) (.tmp 27)), none⟩, ⟨(some 29), (.build [(.d (.v (.int .i64 0))), (.d (.v (.int .i64 0)))] [(0, 1, (.tmp 22)), (1, 1, (.tmp 28))]), none⟩, ⟨(some 4), (.mv (.tmp 16)), none⟩, ⟨none, (.store 2 (.tmp 5) (.tmp 29)), none⟩]
def tr96 : List (Nat × Tidy) := [(0, ⟨[1, 2, 5], true, [], []⟩), (1, ⟨[1, 2, 5, 8], true, [], []⟩), (2, ⟨[4, 5], true, [], []⟩), (3, ⟨[2, 5, 6], true, [], []⟩), (4, ⟨[4, 5], true, [], []⟩)]
def tl96 : List (Nat × Tidy) := []
def rs96 : List AResV := [.tmp 4, .cell 5 true 2]
def pr96_0_0 : PT (List RV) := pRs [pR false [rD (dI .i64)], pR true [rD (dI .i64), rD (dI .i64)]]
def ur96_0_0 {β : Type} (g : List RV → β) : Int → Int → Int → β := pr96_0_0.unc g

def E96_0g  : EnvK := EnvK.of [] noSeq
noncomputable def E96_0 : EnvK := E96_0g 
theorem eo96_0 : E96_0.Ok Try.prog := EnvK.of_ok noSeq_ok trivial

/-- etalon/etalonref08.told -/
abbrev Tf96_0 : Type 1 := (α : Type) → Int → Int → Int → Rows → Int → (Int → Int → Int → Option α) → Option α
def f96_0g  (α : Type) (x1 : Int) (x2 : Int) (x3 : Int) (x4 : Rows) (x5 : Int) (k1 : Int → Int → Int → Option α) : Option α :=
  cK (decide (x5 < 0))
    (k1 0 0 0)
    (rowK x4 x5 [.int .i64, .int .i64]
      (fun (x6 : Int) (x7 : Int) => k1 x6 (w64 (1000 * (w64 (x7 - x3)))) (w64 (1000 * (w64 (x7 + x3))))))
noncomputable def f96_0 (α : Type) (x1 : Int) (x2 : Int) (x3 : Int) (x4 : Rows) (x5 : Int) (k1 : Int → Int → Int → Option α) : Option α := f96_0g  α x1 x2 x3 x4 x5 k1
def pa96_0 : PT (List DV) := pA [pV true [(dI .i64), (dI .i64), (dI .i64), dL], pV false [(dI .i64)]]
def Fn96_0 (v : Tf96_0) (α : Type) (k : List RV → Option α) : Int → Int → Int → Rows → Int → Option α := fun x1 x2 x3 x4 x5 => v α x1 x2 x3 x4 x5 (fun (y1 : Int) (y2 : Int) (y3 : Int) => ur96_0_0 k y1 y2 y3)
noncomputable def cm96_0g  : MCode := (.seq (.region r96_2 [] (some ⟨[1, 2, 5], true, [], []⟩)) (.seq (.seq (.region r96_5 [] (some ⟨[1, 2, 5, 8], true, [], []⟩)) (.cond (.tmp 8) (.seq (.region r96_8 [] (some ⟨[4, 5], true, [], []⟩)) .ret) .skip)) (.seq (.region r96_10 [] (some ⟨[2, 5, 6], true, [], []⟩)) (.seq (.region r96_12 [] (some ⟨[4, 5], true, [], []⟩)) .ret))))
noncomputable def cm96_0 : MCode := cm96_0g 
theorem gm96_0 : cm96_0.Good Try.prog E96_0 sh96 := ⟨trivial, ⟨⟨trivial, ⟨⟨trivial, trivial⟩, trivial⟩⟩, ⟨trivial, ⟨trivial, trivial⟩⟩⟩⟩
theorem fm96_0g   (α : Type) (k : List RV → Option α) : Fn96_0 (f96_0g ) α k = pa96_0.unc fun ds => fnM Try.prog (E96_0g ) sh96 (cm96_0g ) rs96 k ds := by kernel_rfl
theorem fm96_0 : ∀ (α : Type) (k : List RV → Option α), Fn96_0 f96_0 α k = pa96_0.unc fun ds => fnM Try.prog E96_0 sh96 cm96_0 rs96 k ds := fm96_0g 

theorem is96 : FnIs Try.prog 96 nt96 tr96 tl96 cm96_0.erase rs96 := ⟨Try.f96, Try.func96, rfl, by kernel_rfl, by kernel_rfl, by kernel_rfl⟩
theorem io96_0 : InstOk Try.prog 96 nt96 ⟨pa96_0, Fn96_0 f96_0⟩ := inst_ok eo96_0 followsTry is96 ⟨⟨sh96, cm96_0, by kernel_rfl, gm96_0, fm96_0⟩⟩

/-! ### F31 etalon/etalonlaw08.few -/
abbrev nt31 : Nat := 19
def sh31 : List (Nat × List Sh) := [(4, [.sl]), (9, [.sl]), (14, [.sl])]
def r31_2 : List AOper := [⟨(some 1), (.box (.tmp 0)), none⟩, ⟨(some 2), (.mv (.const (.bool false))), none⟩]
def r31_4 : List AOper := [⟨(some 3), (.faddr 3 (.tmp 1)), none⟩, ⟨(some 4), (.load false 1 (.tmp 3)), none⟩, ⟨(some 5), (.len (.tmp 4)), none⟩, ⟨(some 6), (.bin .leq 3 (.tmp 5) (.const (.int .i64 12))), none⟩, ⟨(some 7), (.mv (.tmp 6)), none⟩, ⟨(some 8), (.faddr 3 (.tmp 1)), (some (7, false))⟩, ⟨(some 9), (.load false 1 (.tmp 8)), (some (7, false))⟩, ⟨(some 10), (.len (.tmp 9)), (some (7, false))⟩, ⟨(some 11), (.bin .gtr 3 (.tmp 10) (.const (.int .i64 40))), (some (7, false))⟩, ⟨(some 12), (.mv (.tmp 11)), (some (7, false))⟩, ⟨(some 13), (.faddr 3 (.tmp 1)), (some (12, true))⟩, ⟨(some 14), (.load false 1 (.tmp 13)), (some (12, true))⟩, ⟨(some 15), (.len (.tmp 14)), (some (12, true))⟩, ⟨(some 16), (.bin .leq 3 (.tmp 15) (.const (.int .i64 42))), (some (12, true))⟩, ⟨(some 17), (.pick (.tmp 12) (.tmp 16) (.const (.bool false))), (some (7, false))⟩, ⟨(some 18), (.pick (.tmp 7) (.const (.bool true)) (.tmp 17)), none⟩, ⟨(some 2), (.mv (.tmp 18)), none⟩]
def tr31 : List (Nat × Tidy) := [(0, ⟨[1], true, [], []⟩), (1, ⟨[2], true, [], []⟩)]
def tl31 : List (Nat × Tidy) := []
def rs31 : List AResV := [.tmp 2]
def pr31_0_0 : PT (List RV) := pRs [pR false [rD dB]]
def ur31_0_0 {β : Type} (g : List RV → β) : Bool → β := pr31_0_0.unc g

def E31_0g  : EnvK := EnvK.of [] noSeq
noncomputable def E31_0 : EnvK := E31_0g 
theorem eo31_0 : E31_0.Ok Try.prog := EnvK.of_ok noSeq_ok trivial

/-- etalon/etalonlaw08.few -/
abbrev Tf31_0 : Type 1 := (α : Type) → Int → Int → Int → Rows → (Bool → Option α) → Option α
def f31_0g  (α : Type) (x1 : Int) (x2 : Int) (x3 : Int) (x4 : Rows) (k1 : Bool → Option α) : Option α :=
  cK (decide (((List.length x4 : Nat) : Int) ≤ 12))
    (k1 true)
    (cK (decide (40 < ((List.length x4 : Nat) : Int)))
      (k1 (decide (((List.length x4 : Nat) : Int) ≤ 42)))
      (k1 false))
noncomputable def f31_0 (α : Type) (x1 : Int) (x2 : Int) (x3 : Int) (x4 : Rows) (k1 : Bool → Option α) : Option α := f31_0g  α x1 x2 x3 x4 k1
def pa31_0 : PT (List DV) := pA [pV true [(dI .i64), (dI .i64), (dI .i64), dL]]
def Fn31_0 (v : Tf31_0) (α : Type) (k : List RV → Option α) : Int → Int → Int → Rows → Option α := fun x1 x2 x3 x4 => v α x1 x2 x3 x4 (fun (y1 : Bool) => ur31_0_0 k y1)
noncomputable def cm31_0g  : MCode := (.seq (.region r31_2 [] (some ⟨[1], true, [], []⟩)) (.seq (.region r31_4 [] (some ⟨[2], true, [], []⟩)) .ret))
noncomputable def cm31_0 : MCode := cm31_0g 
theorem gm31_0 : cm31_0.Good Try.prog E31_0 sh31 := ⟨trivial, ⟨trivial, trivial⟩⟩
theorem fm31_0g   (α : Type) (k : List RV → Option α) : Fn31_0 (f31_0g ) α k = pa31_0.unc fun ds => fnM Try.prog (E31_0g ) sh31 (cm31_0g ) rs31 k ds := by kernel_rfl
theorem fm31_0 : ∀ (α : Type) (k : List RV → Option α), Fn31_0 f31_0 α k = pa31_0.unc fun ds => fnM Try.prog E31_0 sh31 cm31_0 rs31 k ds := fm31_0g 

theorem is31 : FnIs Try.prog 31 nt31 tr31 tl31 cm31_0.erase rs31 := ⟨Try.f31, Try.func31, rfl, by kernel_rfl, by kernel_rfl, by kernel_rfl⟩
theorem io31_0 : InstOk Try.prog 31 nt31 ⟨pa31_0, Fn31_0 f31_0⟩ := inst_ok eo31_0 followsTry is31 ⟨⟨sh31, cm31_0, by kernel_rfl, gm31_0, fm31_0⟩⟩

/-! ### F94 etalon/etalonbase.Floor -/
abbrev nt94 : Nat := 16
def sh94 : List (Nat × List Sh) := []
def r94_2 : List AOper := [⟨(some 4), (.mv (.const (.int .i64 0))), none⟩]
def r94_4 : List AOper := [⟨(some 6), (.mv (.tmp 0)), none⟩, ⟨(some 7), (.mv (.tmp 1)), none⟩, ⟨(some 8), (.bin .quo 3 (.tmp 6) (.tmp 7)), none⟩, ⟨(some 5), (.mv (.tmp 8)), none⟩]
def r94_7 : List AOper := [⟨(some 9), (.mv (.tmp 0)), none⟩, ⟨(some 10), (.mv (.tmp 1)), none⟩, ⟨(some 11), (.bin .rem 3 (.tmp 9) (.tmp 10)), none⟩, ⟨(some 12), (.bin .lss 3 (.tmp 11) (.const (.int .i64 0))), none⟩]
def r94_9 : List AOper := [⟨(some 13), (.mv (.tmp 5)), none⟩, ⟨(some 14), (.bin .sub 3 (.tmp 13) (.const (.int .i64 1))), none⟩, ⟨(some 5), (.mv (.tmp 14)), none⟩]
def r94_11 : List AOper := [⟨(some 15), (.mv (.tmp 5)), none⟩, ⟨(some 4), (.mv (.tmp 15)), none⟩]
def tr94 : List (Nat × Tidy) := [(0, ⟨[0, 1], true, [], []⟩), (1, ⟨[0, 1, 5], true, [], []⟩), (2, ⟨[5, 12], true, [], []⟩), (3, ⟨[5], true, [], []⟩), (4, ⟨[4], true, [], []⟩)]
def tl94 : List (Nat × Tidy) := []
def rs94 : List AResV := [.tmp 4]
def pr94_0_0 : PT (List RV) := pRs [pR false [rD (dI .i64)]]
def ur94_0_0 {β : Type} (g : List RV → β) : Int → β := pr94_0_0.unc g

def E94_0g  : EnvK := EnvK.of [] noSeq
noncomputable def E94_0 : EnvK := E94_0g 
theorem eo94_0 : E94_0.Ok Try.prog := EnvK.of_ok noSeq_ok trivial

/-- etalon/etalonbase.Floor -/
abbrev Tf94_0 : Type 1 := (α : Type) → Int → Int → (Int → Option α) → Option α
def f94_0g  (α : Type) (x1 : Int) (x2 : Int) (k1 : Int → Option α) : Option α :=
  gK (x2 != 0) (gK (x2 != 0) (cK (decide ((Int.tmod x1 x2) < 0))
    (k1 (w64 ((w64 (Int.tdiv x1 x2)) - 1)))
    (k1 (w64 (Int.tdiv x1 x2)))))
noncomputable def f94_0 (α : Type) (x1 : Int) (x2 : Int) (k1 : Int → Option α) : Option α := f94_0g  α x1 x2 k1
def pa94_0 : PT (List DV) := pA [pV false [(dI .i64)], pV false [(dI .i64)]]
def Fn94_0 (v : Tf94_0) (α : Type) (k : List RV → Option α) : Int → Int → Option α := fun x1 x2 => v α x1 x2 (fun (y1 : Int) => ur94_0_0 k y1)
noncomputable def cm94_0g  : MCode := (.seq (.region r94_2 [] (some ⟨[0, 1], true, [], []⟩)) (.seq (.region r94_4 [] (some ⟨[0, 1, 5], true, [], []⟩)) (.seq (.seq (.region r94_7 [] (some ⟨[5, 12], true, [], []⟩)) (.cond (.tmp 12) (.region r94_9 [] (some ⟨[5], true, [], []⟩)) .skip)) (.seq (.region r94_11 [] (some ⟨[4], true, [], []⟩)) .ret))))
noncomputable def cm94_0 : MCode := cm94_0g 
theorem gm94_0 : cm94_0.Good Try.prog E94_0 sh94 := ⟨trivial, ⟨trivial, ⟨⟨trivial, ⟨trivial, trivial⟩⟩, ⟨trivial, trivial⟩⟩⟩⟩
theorem fm94_0g   (α : Type) (k : List RV → Option α) : Fn94_0 (f94_0g ) α k = pa94_0.unc fun ds => fnM Try.prog (E94_0g ) sh94 (cm94_0g ) rs94 k ds := by kernel_rfl
theorem fm94_0 : ∀ (α : Type) (k : List RV → Option α), Fn94_0 f94_0 α k = pa94_0.unc fun ds => fnM Try.prog E94_0 sh94 cm94_0 rs94 k ds := fm94_0g 

theorem is94 : FnIs Try.prog 94 nt94 tr94 tl94 cm94_0.erase rs94 := ⟨Try.f94, Try.func94, rfl, by kernel_rfl, by kernel_rfl, by kernel_rfl⟩
theorem io94_0 : InstOk Try.prog 94 nt94 ⟨pa94_0, Fn94_0 f94_0⟩ := inst_ok eo94_0 followsTry is94 ⟨⟨sh94, cm94_0, by kernel_rfl, gm94_0, fm94_0⟩⟩

/-! ### F92 etalon/grow.up -/
abbrev nt92 : Nat := 11
def sh92 : List (Nat × List Sh) := []
def r92_2 : List AOper := [⟨(some 4), (.mv (.const (.int .i64 0))), none⟩]
def r92_4 : List AOper := [⟨(some 5), (.mv (.tmp 0)), none⟩, ⟨(some 6), (.mv (.tmp 1)), none⟩, ⟨(some 7), (.bin .add 3 (.tmp 5) (.tmp 6)), none⟩, ⟨(some 8), (.bin .sub 3 (.tmp 7) (.const (.int .i64 1))), none⟩, ⟨(some 9), (.mv (.tmp 1)), none⟩, ⟨(some 10), (.bin .quo 3 (.tmp 8) (.tmp 9)), none⟩, ⟨(some 4), (.mv (.tmp 10)), none⟩]
def tr92 : List (Nat × Tidy) := [(0, ⟨[0, 1], true, [], []⟩), (1, ⟨[4], true, [], []⟩)]
def tl92 : List (Nat × Tidy) := []
def rs92 : List AResV := [.tmp 4]
def pr92_0_0 : PT (List RV) := pRs [pR false [rD (dI .i64)]]
def ur92_0_0 {β : Type} (g : List RV → β) : Int → β := pr92_0_0.unc g

def E92_0g  : EnvK := EnvK.of [] noSeq
noncomputable def E92_0 : EnvK := E92_0g 
theorem eo92_0 : E92_0.Ok Try.prog := EnvK.of_ok noSeq_ok trivial

/-- etalon/grow.up -/
abbrev Tf92_0 : Type 1 := (α : Type) → Int → Int → (Int → Option α) → Option α
def f92_0g  (α : Type) (x1 : Int) (x2 : Int) (k1 : Int → Option α) : Option α :=
  gK (x2 != 0) (k1 (w64 (Int.tdiv (w64 ((w64 (x1 + x2)) - 1)) x2)))
noncomputable def f92_0 (α : Type) (x1 : Int) (x2 : Int) (k1 : Int → Option α) : Option α := f92_0g  α x1 x2 k1
def pa92_0 : PT (List DV) := pA [pV false [(dI .i64)], pV false [(dI .i64)]]
def Fn92_0 (v : Tf92_0) (α : Type) (k : List RV → Option α) : Int → Int → Option α := fun x1 x2 => v α x1 x2 (fun (y1 : Int) => ur92_0_0 k y1)
noncomputable def cm92_0g  : MCode := (.seq (.region r92_2 [] (some ⟨[0, 1], true, [], []⟩)) (.seq (.region r92_4 [] (some ⟨[4], true, [], []⟩)) .ret))
noncomputable def cm92_0 : MCode := cm92_0g 
theorem gm92_0 : cm92_0.Good Try.prog E92_0 sh92 := ⟨trivial, ⟨trivial, trivial⟩⟩
theorem fm92_0g   (α : Type) (k : List RV → Option α) : Fn92_0 (f92_0g ) α k = pa92_0.unc fun ds => fnM Try.prog (E92_0g ) sh92 (cm92_0g ) rs92 k ds := by kernel_rfl
theorem fm92_0 : ∀ (α : Type) (k : List RV → Option α), Fn92_0 f92_0 α k = pa92_0.unc fun ds => fnM Try.prog E92_0 sh92 cm92_0 rs92 k ds := fm92_0g 

theorem is92 : FnIs Try.prog 92 nt92 tr92 tl92 cm92_0.erase rs92 := ⟨Try.f92, Try.func92, rfl, by kernel_rfl, by kernel_rfl, by kernel_rfl⟩
theorem io92_0 : InstOk Try.prog 92 nt92 ⟨pa92_0, Fn92_0 f92_0⟩ := inst_ok eo92_0 followsTry is92 ⟨⟨sh92, cm92_0, by kernel_rfl, gm92_0, fm92_0⟩⟩

/-! ### F91 etalon/grow.down -/
abbrev nt91 : Nat := 8
def sh91 : List (Nat × List Sh) := []
def r91_2 : List AOper := [⟨(some 4), (.mv (.const (.int .i64 0))), none⟩]
def r91_4 : List AOper := [⟨(some 5), (.mv (.tmp 0)), none⟩, ⟨(some 6), (.mv (.tmp 1)), none⟩, ⟨(some 7), (.bin .quo 3 (.tmp 5) (.tmp 6)), none⟩, ⟨(some 4), (.mv (.tmp 7)), none⟩]
def tr91 : List (Nat × Tidy) := [(0, ⟨[0, 1], true, [], []⟩), (1, ⟨[4], true, [], []⟩)]
def tl91 : List (Nat × Tidy) := []
def rs91 : List AResV := [.tmp 4]
def pr91_0_0 : PT (List RV) := pRs [pR false [rD (dI .i64)]]
def ur91_0_0 {β : Type} (g : List RV → β) : Int → β := pr91_0_0.unc g

def E91_0g  : EnvK := EnvK.of [] noSeq
noncomputable def E91_0 : EnvK := E91_0g 
theorem eo91_0 : E91_0.Ok Try.prog := EnvK.of_ok noSeq_ok trivial

/-- etalon/grow.down -/
abbrev Tf91_0 : Type 1 := (α : Type) → Int → Int → (Int → Option α) → Option α
def f91_0g  (α : Type) (x1 : Int) (x2 : Int) (k1 : Int → Option α) : Option α :=
  gK (x2 != 0) (k1 (w64 (Int.tdiv x1 x2)))
noncomputable def f91_0 (α : Type) (x1 : Int) (x2 : Int) (k1 : Int → Option α) : Option α := f91_0g  α x1 x2 k1
def pa91_0 : PT (List DV) := pA [pV false [(dI .i64)], pV false [(dI .i64)]]
def Fn91_0 (v : Tf91_0) (α : Type) (k : List RV → Option α) : Int → Int → Option α := fun x1 x2 => v α x1 x2 (fun (y1 : Int) => ur91_0_0 k y1)
noncomputable def cm91_0g  : MCode := (.seq (.region r91_2 [] (some ⟨[0, 1], true, [], []⟩)) (.seq (.region r91_4 [] (some ⟨[4], true, [], []⟩)) .ret))
noncomputable def cm91_0 : MCode := cm91_0g 
theorem gm91_0 : cm91_0.Good Try.prog E91_0 sh91 := ⟨trivial, ⟨trivial, trivial⟩⟩
theorem fm91_0g   (α : Type) (k : List RV → Option α) : Fn91_0 (f91_0g ) α k = pa91_0.unc fun ds => fnM Try.prog (E91_0g ) sh91 (cm91_0g ) rs91 k ds := by kernel_rfl
theorem fm91_0 : ∀ (α : Type) (k : List RV → Option α), Fn91_0 f91_0 α k = pa91_0.unc fun ds => fnM Try.prog E91_0 sh91 cm91_0 rs91 k ds := fm91_0g 

theorem is91 : FnIs Try.prog 91 nt91 tr91 tl91 cm91_0.erase rs91 := ⟨Try.f91, Try.func91, rfl, by kernel_rfl, by kernel_rfl, by kernel_rfl⟩
theorem io91_0 : InstOk Try.prog 91 nt91 ⟨pa91_0, Fn91_0 f91_0⟩ := inst_ok eo91_0 followsTry is91 ⟨⟨sh91, cm91_0, by kernel_rfl, gm91_0, fm91_0⟩⟩

/-! ### F88 etalon/grow.first -/
abbrev nt88 : Nat := 15
def sh88 : List (Nat × List Sh) := [(9, [.int .i64]), (10, [.int .i64])]
def r88_2 : List AOper := [⟨(some 2), (.mv (.const (.int .i64 0))), none⟩]
def r88_5 : List AOper := [⟨(some 5), (.mv (.tmp 0)), none⟩, ⟨(some 6), (.len (.tmp 5)), none⟩, ⟨(some 7), (.mv (.const (.int .i64 0))), none⟩]
def td88_7 : Option Tidy := (some ⟨[5, 6, 7], true, [⟨false, 5, 0, 20005, 1⟩], []⟩)
def r88_9 : List AOper := [⟨(some 8), (.bin .lss 3 (.tmp 7) (.tmp 6)), none⟩]
def r88_15 : List AOper := [⟨(some 9), (.iaddr 1 none (.tmp 5) (.tmp 7)), none⟩, ⟨(some 10), (.load false 1 (.tmp 9)), none⟩, ⟨(some 4), (.mv (.tmp 10)), none⟩]
def r88_17 : List AOper := [⟨(some 11), (.mv (.tmp 4)), none⟩, ⟨(some 12), (.bin .neq 32 (.tmp 11) (.const (.int .i64 0))), none⟩]
def r88_20 : List AOper := [⟨(some 13), (.mv (.tmp 4)), none⟩, ⟨(some 2), (.mv (.tmp 13)), none⟩]
def r88_21 : List AOper := [⟨(some 14), (.bin .add 3 (.tmp 7) (.const (.int .i64 1))), none⟩, ⟨(some 7), (.mv (.tmp 14)), none⟩]
def r88_23 : List AOper := [⟨(some 2), (.mv (.const (.int .i64 0))), none⟩]
def tr88 : List (Nat × Tidy) := [(0, ⟨[0], true, [], []⟩), (1, ⟨[5, 6, 7], true, [], []⟩), (2, ⟨[5, 6, 7, 8], true, [], []⟩), (3, ⟨[4, 5, 6, 7], true, [], []⟩), (4, ⟨[4, 5, 6, 7, 12], true, [], []⟩), (5, ⟨[2], true, [], []⟩), (6, ⟨[5, 6, 7], true, [], []⟩), (7, ⟨[2], true, [], []⟩)]
def tl88 : List (Nat × Tidy) := [(2, ⟨[5, 6, 7], true, [⟨false, 5, 0, 20005, 1⟩], []⟩)]
def rs88 : List AResV := [.tmp 2]
def p88_0_0 : PT St := pS [sl 5 (aV false [(cD dL)]), sl 6 (aV false [(cD (dI .i64))]), sl 7 (aV false [(cD (dI .i64))])] []
def u88_0_0 {β : Type} (g : St → β) : Rows → Int → Int → β := p88_0_0.unc g

def p88_0_1 : PT St := pS [sl 2 (aV false [(cD (dI .i64))])] []
def u88_0_1 {β : Type} (g : St → β) : Int → β := p88_0_1.unc g

def p88_0_2 : PT St := pS [sl 5 (aV false [(cD dL)]), sl 6 (aV false [(cD (dI .i64))]), sl 7 (aV false [(cD (dI .i64))]), sl 8 (aV false [(cD dB)])] []
def u88_0_2 {β : Type} (g : St → β) : Rows → Int → Int → Bool → β := p88_0_2.unc g

def pr88_0_0 : PT (List RV) := pRs [pR false [rD (dI .i64)]]
def ur88_0_0 {β : Type} (g : List RV → β) : Int → β := pr88_0_0.unc g

def E88_0g  : EnvK := EnvK.of [] noSeq
noncomputable def E88_0 : EnvK := E88_0g 
theorem eo88_0 : E88_0.Ok Try.prog := EnvK.of_ok noSeq_ok trivial

noncomputable def c88_0_7g  : MCode := (.seq (.region r88_9 [] (some ⟨[5, 6, 7, 8], true, [], []⟩)) (.seq (.cond (.tmp 8) .skip (.exit 0)) (.seq (.block 1 (.seq (.region r88_15 [] (some ⟨[4, 5, 6, 7], true, [], []⟩)) (.seq (.region r88_17 [] (some ⟨[4, 5, 6, 7, 12], true, [], []⟩)) (.cond (.tmp 12) (.seq (.region r88_20 [] (some ⟨[2], true, [], []⟩)) .ret) .skip)))) (.region r88_21 [] (some ⟨[5, 6, 7], true, [], []⟩)))))
noncomputable def c88_0_7 : MCode := c88_0_7g 
theorem g88_0_7 : c88_0_7.Good Try.prog E88_0 sh88 := ⟨trivial, ⟨⟨trivial, trivial⟩, ⟨⟨trivial, ⟨trivial, ⟨⟨trivial, trivial⟩, trivial⟩⟩⟩, trivial⟩⟩⟩
--CODE 7 0
def S88_0_0g  (α : Type) (x2 : Rows) (x3 : Int) (x4 : Int) (kn : Int → Option α) (k1 : Int → Option α) (k2 : Int → Bool → Option α) : Option α :=
  cK (decide (x4 < x3))
    (rowK x2 x4 [.int .i64]
      (fun (x5 : Int) => cK (x5 != 0)
        (k1 x5)
        (kn (w64 (x4 + 1)))))
    (k2 x4 (decide (x4 < x3)))
noncomputable def S88_0_0 (α : Type) (x2 : Rows) (x3 : Int) (x4 : Int) (kn : Int → Option α) (k1 : Int → Option α) (k2 : Int → Bool → Option α) : Option α := S88_0_0g  α x2 x3 x4 kn k1 k2
noncomputable def R88_0_0 (α : Type) (x2 : Rows) (x3 : Int) (k1 : Int → Option α) (k2 : Int → Bool → Option α) : Nat → Int → Option α
  | 0, _ => none
  | n + 1, x4 => S88_0_0 α x2 x3 x4 (R88_0_0 α x2 x3 k1 k2 n) k1 k2
noncomputable def L88_0_0 (α : Type) (x2 : Rows) (x3 : Int) (k1 : Int → Option α) (k2 : Int → Bool → Option α) (x4 : Int) : Option α := R88_0_0 α x2 x3 k1 k2 fuel x4
abbrev TL88_0_0 : Type 1 := (α : Type) → Rows → Int → (Int → Option α) → (Int → Bool → Option α) → Int → Option α
def F88_0_0 (v : TL88_0_0) (α : Type) (K : Exit → St → Option α) : Rows → Int → Int → Option α := fun x2 x3 x4 => v α x2 x3 (fun (y1 : Int) => u88_0_1 (K .ret) y1) (fun (y1 : Int) (y2 : Bool) => u88_0_2 (K (.exit 0)) x2 x3 y1 y2) x4
theorem r88_0_0g   (α : Type) (K : Exit → St → Option α) (Kn : St → Option α) (x2 : Rows) (x3 : Int) (x4 : Int) : u88_0_0 (fun σ => runM Try.prog (E88_0g ) sh88 (c88_0_7g ) (thenK (fun σ => tidyK td88_7 σ Kn) K) σ) x2 x3 x4 = S88_0_0g  α x2 x3 x4 (fun x4 => u88_0_0 Kn x2 x3 x4) (fun (y1 : Int) => u88_0_1 (K .ret) y1) (fun (y1 : Int) (y2 : Bool) => u88_0_2 (K (.exit 0)) x2 x3 y1 y2) := by kernel_rfl
theorem r88_0_0 (α : Type) (K : Exit → St → Option α) (Kn : St → Option α) (x2 : Rows) (x3 : Int) (x4 : Int) : u88_0_0 (fun σ => runM Try.prog E88_0 sh88 c88_0_7 (thenK (fun σ => tidyK td88_7 σ Kn) K) σ) x2 x3 x4 = S88_0_0 α x2 x3 x4 (fun x4 => u88_0_0 Kn x2 x3 x4) (fun (y1 : Int) => u88_0_1 (K .ret) y1) (fun (y1 : Int) (y2 : Bool) => u88_0_2 (K (.exit 0)) x2 x3 y1 y2) := r88_0_0g  α K Kn x2 x3 x4
theorem t88_0_0 (α : Type) (K : Exit → St → Option α) : ∀ (n : Nat) (x2 : Rows) (x3 : Int) (x4 : Int), R88_0_0 α x2 x3 (fun (y1 : Int) => u88_0_1 (K .ret) y1) (fun (y1 : Int) (y2 : Bool) => u88_0_2 (K (.exit 0)) x2 x3 y1 y2) n x4 = u88_0_0 (loopT (runM Try.prog E88_0 sh88 c88_0_7) td88_7 K n) x2 x3 x4 := by
  intro n
  induction n with
  | zero => intros; rfl
  | succ n ih => intro x2 x3 x4; exact (congrArg (fun kn => S88_0_0 α x2 x3 x4 kn (fun (y1 : Int) => u88_0_1 (K .ret) y1) (fun (y1 : Int) (y2 : Bool) => u88_0_2 (K (.exit 0)) x2 x3 y1 y2)) (funext fun x4 => ih x2 x3 x4)).trans (r88_0_0 α K (loopT (runM Try.prog E88_0 sh88 c88_0_7) td88_7 K n) x2 x3 x4).symm
theorem m88_0_0 : ∀ (α : Type) (K : Exit → St → Option α), F88_0_0 L88_0_0 α K = p88_0_0.unc fun σ => loopT (runM Try.prog E88_0 sh88 c88_0_7) td88_7 K fuel σ := fun α K => funext fun x2 => funext fun x3 => funext fun x4 => t88_0_0 α K fuel x2 x3 x4

/-- etalon/grow.first -/
abbrev Tf88_0 : Type 1 := (α : Type) → Rows → (Int → Option α) → Option α
def f88_0g (vL88_0_0 : TL88_0_0) (α : Type) (x1 : Rows) (k1 : Int → Option α) : Option α :=
  vL88_0_0 α x1 ((List.length x1 : Nat) : Int)
    (fun (x6 : Int) => k1 x6)
    (fun (x7 : Int) (x8 : Bool) => k1 0) 0
noncomputable def f88_0 (α : Type) (x1 : Rows) (k1 : Int → Option α) : Option α := f88_0g L88_0_0 α x1 k1
def pa88_0 : PT (List DV) := pA [pV false [dL]]
def Fn88_0 (v : Tf88_0) (α : Type) (k : List RV → Option α) : Rows → Option α := fun x1 => v α x1 (fun (y1 : Int) => ur88_0_0 k y1)
noncomputable def cm88_0g (vL88_0_0 : TL88_0_0) : MCode := (.seq (.region r88_2 [] (some ⟨[0], true, [], []⟩)) (.seq (.seq (.region r88_5 [] (some ⟨[5, 6, 7], true, [], []⟩)) (.block 0 (.loop td88_7 [⟨p88_0_0, F88_0_0 vL88_0_0⟩] c88_0_7))) (.seq (.region r88_23 [] (some ⟨[2], true, [], []⟩)) .ret)))
noncomputable def cm88_0 : MCode := cm88_0g L88_0_0
theorem gm88_0 : cm88_0.Good Try.prog E88_0 sh88 := ⟨trivial, ⟨⟨trivial, ⟨g88_0_7, m88_0_0, trivial⟩⟩, ⟨trivial, trivial⟩⟩⟩
theorem fm88_0g  (vL88_0_0 : TL88_0_0) (α : Type) (k : List RV → Option α) : Fn88_0 (f88_0g vL88_0_0) α k = pa88_0.unc fun ds => fnM Try.prog (E88_0g ) sh88 (cm88_0g vL88_0_0) rs88 k ds := by kernel_rfl
theorem fm88_0 : ∀ (α : Type) (k : List RV → Option α), Fn88_0 f88_0 α k = pa88_0.unc fun ds => fnM Try.prog E88_0 sh88 cm88_0 rs88 k ds := fm88_0g L88_0_0

theorem is88 : FnIs Try.prog 88 nt88 tr88 tl88 cm88_0.erase rs88 := ⟨Try.f88, Try.func88, rfl, by kernel_rfl, by kernel_rfl, by kernel_rfl⟩
theorem io88_0 : InstOk Try.prog 88 nt88 ⟨pa88_0, Fn88_0 f88_0⟩ := inst_ok eo88_0 followsTry is88 ⟨⟨sh88, cm88_0, by kernel_rfl, gm88_0, fm88_0⟩⟩

/-! ### F77 (etalon/grow.known).shrunk -/
abbrev nt77 : Nat := 29
def sh77 : List (Nat × List Sh) := [(9, [.int .i64]), (14, [.int .i64]), (16, [.int .i64]), (22, [.int .i64]), (24, [.int .i64])]
def r77_2 : List AOper := [⟨(some 3), (.box (.tmp 0)), none⟩, ⟨(some 4), (.box (.tmp 1)), none⟩, ⟨(some 6), (.alloc [(.d (.v (.int .i64 0))), (.d (.v (.int .i64 0)))]), none⟩]
def r77_4 : List AOper := [⟨(some 8), (.faddr 0 (.tmp 3)), none⟩, ⟨(some 9), (.load false 1 (.tmp 8)), none⟩, ⟨(some 10), (.mv (.tmp 2)), none⟩, ⟨(some 11), (.bin .sub 3 (.tmp 9) (.tmp 10)), none⟩, ⟨(some 7), (.mv (.tmp 11)), none⟩]
def r77_6 : List AOper := [⟨(some 12), (.faddr 1 (.tmp 3)), none⟩, ⟨(some 13), (.faddr 0 (.tmp 12)), none⟩, ⟨(some 14), (.load false 1 (.tmp 13)), none⟩, ⟨(some 15), (.faddr 1 (.tmp 4)), none⟩, ⟨(some 16), (.load false 1 (.tmp 15)), none⟩, ⟨(some 17), (.mv (.tmp 7)), none⟩, ⟨(some 18), (.bin .mul 3 (.tmp 16) (.tmp 17)), none⟩, ⟨(some 19), (.bin .sub 3 (.tmp 14) (.tmp 18)), none⟩, ⟨(some 20), (.faddr 1 (.tmp 3)), none⟩, ⟨(some 21), (.faddr 1 (.tmp 20)), none⟩, ⟨(some 22), (.load false 1 (.tmp 21)), none⟩, ⟨(some 23), (.faddr 0 (.tmp 4)), none⟩, ⟨(some 24), (.load false 1 (.tmp 23)), none⟩, ⟨(some 25), (.mv (.tmp 7)), none⟩, ⟨(some 26), (.bin .mul 3 (.tmp 24) (.tmp 25)), none⟩, ⟨(some 27), (.bin .sub 3 (.tmp 22) (.tmp 26)), none⟩, ⟨(some 28), (.build [(.d (.v (.int .i64 0))), (.d (.v (.int .i64 0)))] [(0, 1, (.tmp 19)), (1, 1, (.tmp 27))]), none⟩, ⟨none, (.store 2 (.tmp 6) (.tmp 28)), none⟩]
def tr77 : List (Nat × Tidy) := [(0, ⟨[2, 3, 4, 6], true, [], []⟩), (1, ⟨[3, 4, 6, 7], true, [], []⟩), (2, ⟨[6], true, [], []⟩)]
def tl77 : List (Nat × Tidy) := []
def rs77 : List AResV := [.cell 6 true 2]
def pr77_0_0 : PT (List RV) := pRs [pR true [rD (dI .i64), rD (dI .i64)]]
def ur77_0_0 {β : Type} (g : List RV → β) : Int → Int → β := pr77_0_0.unc g

def E77_0g  : EnvK := EnvK.of [] noSeq
noncomputable def E77_0 : EnvK := E77_0g 
theorem eo77_0 : E77_0.Ok Try.prog := EnvK.of_ok noSeq_ok trivial

/-- (etalon/grow.known).shrunk -/
abbrev Tf77_0 : Type 1 := (α : Type) → Int → Int → Int → Int → Int → Int → (Int → Int → Option α) → Option α
def f77_0g  (α : Type) (x1 : Int) (x2 : Int) (x3 : Int) (x4 : Int) (x5 : Int) (x6 : Int) (k1 : Int → Int → Option α) : Option α :=
  k1 (w64 (x2 - (w64 (x5 * (w64 (x1 - x6)))))) (w64 (x3 - (w64 (x4 * (w64 (x1 - x6))))))
noncomputable def f77_0 (α : Type) (x1 : Int) (x2 : Int) (x3 : Int) (x4 : Int) (x5 : Int) (x6 : Int) (k1 : Int → Int → Option α) : Option α := f77_0g  α x1 x2 x3 x4 x5 x6 k1
def pa77_0 : PT (List DV) := pA [pV true [(dI .i64), (dI .i64), (dI .i64)], pV true [(dI .i64), (dI .i64)], pV false [(dI .i64)]]
def Fn77_0 (v : Tf77_0) (α : Type) (k : List RV → Option α) : Int → Int → Int → Int → Int → Int → Option α := fun x1 x2 x3 x4 x5 x6 => v α x1 x2 x3 x4 x5 x6 (fun (y1 : Int) (y2 : Int) => ur77_0_0 k y1 y2)
noncomputable def cm77_0g  : MCode := (.seq (.region r77_2 [] (some ⟨[2, 3, 4, 6], true, [], []⟩)) (.seq (.region r77_4 [] (some ⟨[3, 4, 6, 7], true, [], []⟩)) (.seq (.region r77_6 [] (some ⟨[6], true, [], []⟩)) .ret)))
noncomputable def cm77_0 : MCode := cm77_0g 
theorem gm77_0 : cm77_0.Good Try.prog E77_0 sh77 := ⟨trivial, ⟨trivial, ⟨trivial, trivial⟩⟩⟩
theorem fm77_0g   (α : Type) (k : List RV → Option α) : Fn77_0 (f77_0g ) α k = pa77_0.unc fun ds => fnM Try.prog (E77_0g ) sh77 (cm77_0g ) rs77 k ds := by kernel_rfl
theorem fm77_0 : ∀ (α : Type) (k : List RV → Option α), Fn77_0 f77_0 α k = pa77_0.unc fun ds => fnM Try.prog E77_0 sh77 cm77_0 rs77 k ds := fm77_0g 

theorem is77 : FnIs Try.prog 77 nt77 tr77 tl77 cm77_0.erase rs77 := ⟨Try.f77, Try.func77, rfl, by kernel_rfl, by kernel_rfl, by kernel_rfl⟩
theorem io77_0 : InstOk Try.prog 77 nt77 ⟨pa77_0, Fn77_0 f77_0⟩ := inst_ok eo77_0 followsTry is77 ⟨⟨sh77, cm77_0, by kernel_rfl, gm77_0, fm77_0⟩⟩

/-! ### F76 etalon/grow.empty -/
abbrev nt76 : Nat := 8
def sh76 : List (Nat × List Sh) := [(4, [.int .i64]), (6, [.int .i64])]
def r76_2 : List AOper := [⟨(some 1), (.box (.tmp 0)), none⟩, ⟨(some 2), (.mv (.const (.bool false))), none⟩]
def r76_4 : List AOper := [⟨(some 3), (.faddr 0 (.tmp 1)), none⟩, ⟨(some 4), (.load false 1 (.tmp 3)), none⟩, ⟨(some 5), (.faddr 1 (.tmp 1)), none⟩, ⟨(some 6), (.load false 1 (.tmp 5)), none⟩, ⟨(some 7), (.bin .gtr 3 (.tmp 4) (.tmp 6)), none⟩, ⟨(some 2), (.mv (.tmp 7)), none⟩]
def tr76 : List (Nat × Tidy) := [(0, ⟨[1], true, [], []⟩), (1, ⟨[2], true, [], []⟩)]
def tl76 : List (Nat × Tidy) := []
def rs76 : List AResV := [.tmp 2]
def pr76_0_0 : PT (List RV) := pRs [pR false [rD dB]]
def ur76_0_0 {β : Type} (g : List RV → β) : Bool → β := pr76_0_0.unc g

def E76_0g  : EnvK := EnvK.of [] noSeq
noncomputable def E76_0 : EnvK := E76_0g 
theorem eo76_0 : E76_0.Ok Try.prog := EnvK.of_ok noSeq_ok trivial

/-- etalon/grow.empty -/
abbrev Tf76_0 : Type 1 := (α : Type) → Int → Int → (Bool → Option α) → Option α
def f76_0g  (α : Type) (x1 : Int) (x2 : Int) (k1 : Bool → Option α) : Option α :=
  k1 (decide (x2 < x1))
noncomputable def f76_0 (α : Type) (x1 : Int) (x2 : Int) (k1 : Bool → Option α) : Option α := f76_0g  α x1 x2 k1
def pa76_0 : PT (List DV) := pA [pV true [(dI .i64), (dI .i64)]]
def Fn76_0 (v : Tf76_0) (α : Type) (k : List RV → Option α) : Int → Int → Option α := fun x1 x2 => v α x1 x2 (fun (y1 : Bool) => ur76_0_0 k y1)
noncomputable def cm76_0g  : MCode := (.seq (.region r76_2 [] (some ⟨[1], true, [], []⟩)) (.seq (.region r76_4 [] (some ⟨[2], true, [], []⟩)) .ret))
noncomputable def cm76_0 : MCode := cm76_0g 
theorem gm76_0 : cm76_0.Good Try.prog E76_0 sh76 := ⟨trivial, ⟨trivial, trivial⟩⟩
theorem fm76_0g   (α : Type) (k : List RV → Option α) : Fn76_0 (f76_0g ) α k = pa76_0.unc fun ds => fnM Try.prog (E76_0g ) sh76 (cm76_0g ) rs76 k ds := by kernel_rfl
theorem fm76_0 : ∀ (α : Type) (k : List RV → Option α), Fn76_0 f76_0 α k = pa76_0.unc fun ds => fnM Try.prog E76_0 sh76 cm76_0 rs76 k ds := fm76_0g 

theorem is76 : FnIs Try.prog 76 nt76 tr76 tl76 cm76_0.erase rs76 := ⟨Try.f76, Try.func76, rfl, by kernel_rfl, by kernel_rfl, by kernel_rfl⟩
theorem io76_0 : InstOk Try.prog 76 nt76 ⟨pa76_0, Fn76_0 f76_0⟩ := inst_ok eo76_0 followsTry is76 ⟨⟨sh76, cm76_0, by kernel_rfl, gm76_0, fm76_0⟩⟩

/-! ### F74 etalon/grow.common -/
abbrev nt74 : Nat := 16
def sh74 : List (Nat × List Sh) := [(6, [.int .i64]), (8, [.int .i64]), (11, [.int .i64]), (13, [.int .i64])]
def r74_2 : List AOper := [⟨(some 2), (.box (.tmp 0)), none⟩, ⟨(some 3), (.box (.tmp 1)), none⟩, ⟨(some 4), (.alloc [(.d (.v (.int .i64 0))), (.d (.v (.int .i64 0)))]), none⟩]
def r74_4 : List AOper := [⟨(some 5), (.faddr 0 (.tmp 2)), none⟩, ⟨(some 6), (.load false 1 (.tmp 5)), none⟩, ⟨(some 7), (.faddr 0 (.tmp 3)), none⟩, ⟨(some 8), (.load false 1 (.tmp 7)), none⟩, ⟨(some 9), (.pure (oB (.call { callee := .builtin .max, args := #[(.tmp 6), (.tmp 8)], argTypes := #[3, 3] }) 3)), none⟩, ⟨(some 10), (.faddr 1 (.tmp 2)), none⟩, ⟨(some 11), (.load false 1 (.tmp 10)), none⟩, ⟨(some 12), (.faddr 1 (.tmp 3)), none⟩, ⟨(some 13), (.load false 1 (.tmp 12)), none⟩, ⟨(some 14), (.pure (oB (.call { callee := .builtin .min, args := #[(.tmp 11), (.tmp 13)], argTypes := #[3, 3] }) 3)), none⟩, ⟨(some 15), (.build [(.d (.v (.int .i64 0))), (.d (.v (.int .i64 0)))] [(0, 1, (.tmp 9)), (1, 1, (.tmp 14))]), none⟩, ⟨none, (.store 2 (.tmp 4) (.tmp 15)), none⟩]
def tr74 : List (Nat × Tidy) := [(0, ⟨[2, 3, 4], true, [], []⟩), (1, ⟨[4], true, [], []⟩)]
def tl74 : List (Nat × Tidy) := []
def rs74 : List AResV := [.cell 4 true 2]
def pr74_0_0 : PT (List RV) := pRs [pR true [rD (dI .i64), rD (dI .i64)]]
def ur74_0_0 {β : Type} (g : List RV → β) : Int → Int → β := pr74_0_0.unc g

def E74_0g  : EnvK := EnvK.of [] noSeq
noncomputable def E74_0 : EnvK := E74_0g 
theorem eo74_0 : E74_0.Ok Try.prog := EnvK.of_ok noSeq_ok trivial

/-- etalon/grow.common -/
abbrev Tf74_0 : Type 1 := (α : Type) → Int → Int → Int → Int → (Int → Int → Option α) → Option α
def f74_0g  (α : Type) (x1 : Int) (x2 : Int) (x3 : Int) (x4 : Int) (k1 : Int → Int → Option α) : Option α :=
  k1 (if x3 > x1 then x3 else x1) (if x4 < x2 then x4 else x2)
noncomputable def f74_0 (α : Type) (x1 : Int) (x2 : Int) (x3 : Int) (x4 : Int) (k1 : Int → Int → Option α) : Option α := f74_0g  α x1 x2 x3 x4 k1
def pa74_0 : PT (List DV) := pA [pV true [(dI .i64), (dI .i64)], pV true [(dI .i64), (dI .i64)]]
def Fn74_0 (v : Tf74_0) (α : Type) (k : List RV → Option α) : Int → Int → Int → Int → Option α := fun x1 x2 x3 x4 => v α x1 x2 x3 x4 (fun (y1 : Int) (y2 : Int) => ur74_0_0 k y1 y2)
noncomputable def cm74_0g  : MCode := (.seq (.region r74_2 [] (some ⟨[2, 3, 4], true, [], []⟩)) (.seq (.region r74_4 [] (some ⟨[4], true, [], []⟩)) .ret))
noncomputable def cm74_0 : MCode := cm74_0g 
theorem gm74_0 : cm74_0.Good Try.prog E74_0 sh74 := ⟨trivial, ⟨trivial, trivial⟩⟩
theorem fm74_0g   (α : Type) (k : List RV → Option α) : Fn74_0 (f74_0g ) α k = pa74_0.unc fun ds => fnM Try.prog (E74_0g ) sh74 (cm74_0g ) rs74 k ds := by kernel_rfl
theorem fm74_0 : ∀ (α : Type) (k : List RV → Option α), Fn74_0 f74_0 α k = pa74_0.unc fun ds => fnM Try.prog E74_0 sh74 cm74_0 rs74 k ds := fm74_0g 

theorem is74 : FnIs Try.prog 74 nt74 tr74 tl74 cm74_0.erase rs74 := ⟨Try.f74, Try.func74, rfl, by kernel_rfl, by kernel_rfl, by kernel_rfl⟩
theorem io74_0 : InstOk Try.prog 74 nt74 ⟨pa74_0, Fn74_0 f74_0⟩ := inst_ok eo74_0 followsTry is74 ⟨⟨sh74, cm74_0, by kernel_rfl, gm74_0, fm74_0⟩⟩

/-! ### F75 (etalon/grow.known).grown -/
abbrev nt75 : Nat := 29
def sh75 : List (Nat × List Sh) := [(10, [.int .i64]), (14, [.int .i64]), (16, [.int .i64]), (22, [.int .i64]), (24, [.int .i64])]
def r75_2 : List AOper := [⟨(some 3), (.box (.tmp 0)), none⟩, ⟨(some 4), (.box (.tmp 1)), none⟩, ⟨(some 6), (.alloc [(.d (.v (.int .i64 0))), (.d (.v (.int .i64 0)))]), none⟩]
def r75_4 : List AOper := [⟨(some 8), (.mv (.tmp 2)), none⟩, ⟨(some 9), (.faddr 0 (.tmp 3)), none⟩, ⟨(some 10), (.load false 1 (.tmp 9)), none⟩, ⟨(some 11), (.bin .sub 3 (.tmp 8) (.tmp 10)), none⟩, ⟨(some 7), (.mv (.tmp 11)), none⟩]
def r75_6 : List AOper := [⟨(some 12), (.faddr 1 (.tmp 3)), none⟩, ⟨(some 13), (.faddr 0 (.tmp 12)), none⟩, ⟨(some 14), (.load false 1 (.tmp 13)), none⟩, ⟨(some 15), (.faddr 0 (.tmp 4)), none⟩, ⟨(some 16), (.load false 1 (.tmp 15)), none⟩, ⟨(some 17), (.mv (.tmp 7)), none⟩, ⟨(some 18), (.bin .mul 3 (.tmp 16) (.tmp 17)), none⟩, ⟨(some 19), (.bin .add 3 (.tmp 14) (.tmp 18)), none⟩, ⟨(some 20), (.faddr 1 (.tmp 3)), none⟩, ⟨(some 21), (.faddr 1 (.tmp 20)), none⟩, ⟨(some 22), (.load false 1 (.tmp 21)), none⟩, ⟨(some 23), (.faddr 1 (.tmp 4)), none⟩, ⟨(some 24), (.load false 1 (.tmp 23)), none⟩, ⟨(some 25), (.mv (.tmp 7)), none⟩, ⟨(some 26), (.bin .mul 3 (.tmp 24) (.tmp 25)), none⟩, ⟨(some 27), (.bin .add 3 (.tmp 22) (.tmp 26)), none⟩, ⟨(some 28), (.build [(.d (.v (.int .i64 0))), (.d (.v (.int .i64 0)))] [(0, 1, (.tmp 19)), (1, 1, (.tmp 27))]), none⟩, ⟨none, (.store 2 (.tmp 6) (.tmp 28)), none⟩]
def tr75 : List (Nat × Tidy) := [(0, ⟨[2, 3, 4, 6], true, [], []⟩), (1, ⟨[3, 4, 6, 7], true, [], []⟩), (2, ⟨[6], true, [], []⟩)]
def tl75 : List (Nat × Tidy) := []
def rs75 : List AResV := [.cell 6 true 2]
def pr75_0_0 : PT (List RV) := pRs [pR true [rD (dI .i64), rD (dI .i64)]]
def ur75_0_0 {β : Type} (g : List RV → β) : Int → Int → β := pr75_0_0.unc g

def E75_0g  : EnvK := EnvK.of [] noSeq
noncomputable def E75_0 : EnvK := E75_0g 
theorem eo75_0 : E75_0.Ok Try.prog := EnvK.of_ok noSeq_ok trivial

/-- (etalon/grow.known).grown -/
abbrev Tf75_0 : Type 1 := (α : Type) → Int → Int → Int → Int → Int → Int → (Int → Int → Option α) → Option α
def f75_0g  (α : Type) (x1 : Int) (x2 : Int) (x3 : Int) (x4 : Int) (x5 : Int) (x6 : Int) (k1 : Int → Int → Option α) : Option α :=
  k1 (w64 (x2 + (w64 (x4 * (w64 (x6 - x1)))))) (w64 (x3 + (w64 (x5 * (w64 (x6 - x1))))))
noncomputable def f75_0 (α : Type) (x1 : Int) (x2 : Int) (x3 : Int) (x4 : Int) (x5 : Int) (x6 : Int) (k1 : Int → Int → Option α) : Option α := f75_0g  α x1 x2 x3 x4 x5 x6 k1
def pa75_0 : PT (List DV) := pA [pV true [(dI .i64), (dI .i64), (dI .i64)], pV true [(dI .i64), (dI .i64)], pV false [(dI .i64)]]
def Fn75_0 (v : Tf75_0) (α : Type) (k : List RV → Option α) : Int → Int → Int → Int → Int → Int → Option α := fun x1 x2 x3 x4 x5 x6 => v α x1 x2 x3 x4 x5 x6 (fun (y1 : Int) (y2 : Int) => ur75_0_0 k y1 y2)
noncomputable def cm75_0g  : MCode := (.seq (.region r75_2 [] (some ⟨[2, 3, 4, 6], true, [], []⟩)) (.seq (.region r75_4 [] (some ⟨[3, 4, 6, 7], true, [], []⟩)) (.seq (.region r75_6 [] (some ⟨[6], true, [], []⟩)) .ret)))
noncomputable def cm75_0 : MCode := cm75_0g 
theorem gm75_0 : cm75_0.Good Try.prog E75_0 sh75 := ⟨trivial, ⟨trivial, ⟨trivial, trivial⟩⟩⟩
theorem fm75_0g   (α : Type) (k : List RV → Option α) : Fn75_0 (f75_0g ) α k = pa75_0.unc fun ds => fnM Try.prog (E75_0g ) sh75 (cm75_0g ) rs75 k ds := by kernel_rfl
theorem fm75_0 : ∀ (α : Type) (k : List RV → Option α), Fn75_0 f75_0 α k = pa75_0.unc fun ds => fnM Try.prog E75_0 sh75 cm75_0 rs75 k ds := fm75_0g 

theorem is75 : FnIs Try.prog 75 nt75 tr75 tl75 cm75_0.erase rs75 := ⟨Try.f75, Try.func75, rfl, by kernel_rfl, by kernel_rfl, by kernel_rfl⟩
theorem io75_0 : InstOk Try.prog 75 nt75 ⟨pa75_0, Fn75_0 f75_0⟩ := inst_ok eo75_0 followsTry is75 ⟨⟨sh75, cm75_0, by kernel_rfl, gm75_0, fm75_0⟩⟩

/-! ### F73 etalon/grow.allowed -/
abbrev nt73 : Nat := 36
def sh73 : List (Nat × List Sh) := [(9, [.sl]), (13, [.int .i64, .int .i64]), (14, [.int .i64, .int .i64]), (17, [.int .i64]), (19, [.int .i64]), (21, [.int .i64]), (25, [.int .i64]), (27, [.int .i64])]
def r73_2 : List AOper := [⟨(some 1), (.box (.tmp 0)), none⟩, ⟨(some 2), (.mv (.const (.slice none 0 0))), none⟩]
def r73_4 : List AOper := [⟨(some 6), (.build [(.d (.v (.int .i64 0))), (.d (.v (.int .i64 0))), (.d (.v (.int .i64 0)))] []), none⟩, ⟨(some 7), (.bslice 3 1 [(.v (.int .i64 0)), (.v (.int .i64 0)), (.v (.int .i64 0))] [(0, (.tmp 6))]), none⟩, ⟨(some 3), (.mv (.tmp 7)), none⟩]
def r73_7 : List AOper := [⟨(some 8), (.faddr 3 (.tmp 1)), none⟩, ⟨(some 9), (.load false 1 (.tmp 8)), none⟩, ⟨(some 10), (.len (.tmp 9)), none⟩, ⟨(some 11), (.mv (.const (.int .i64 0))), none⟩]
def td73_9 : Option Tidy := (some ⟨[1, 3, 9, 10, 11], true, [⟨false, 3, 0, 20003, 3⟩, ⟨false, 9, 0, 20009, 2⟩, ⟨true, 1, 3, 30103, 2⟩], []⟩)
def r73_11 : List AOper := [⟨(some 12), (.bin .lss 3 (.tmp 11) (.tmp 10)), none⟩]
def r73_17 : List AOper := [⟨(some 13), (.iaddr 2 none (.tmp 9) (.tmp 11)), none⟩, ⟨(some 14), (.load true 2 (.tmp 13)), none⟩, ⟨(some 5), (.alloc [(.d (.v (.int .i64 0))), (.d (.v (.int .i64 0)))]), none⟩, ⟨none, (.store 2 (.tmp 5) (.tmp 14)), none⟩]
def r73_18 : List AOper := [⟨(some 15), (.mv (.tmp 3)), none⟩, ⟨(some 16), (.faddr 0 (.tmp 5)), none⟩, ⟨(some 17), (.load false 1 (.tmp 16)), none⟩, ⟨(some 18), (.faddr 1 (.tmp 5)), none⟩, ⟨(some 19), (.load false 1 (.tmp 18)), none⟩, ⟨(some 20), (.faddr 2 (.tmp 1)), none⟩, ⟨(some 21), (.load false 1 (.tmp 20)), none⟩, ⟨(some 22), (.bin .sub 3 (.tmp 19) (.tmp 21)), none⟩, ⟨(some 23), (.bin .mul 3 (.const (.int .i64 1000)) (.tmp 22)), none⟩, ⟨(some 24), (.faddr 1 (.tmp 5)), none⟩, ⟨(some 25), (.load false 1 (.tmp 24)), none⟩, ⟨(some 26), (.faddr 2 (.tmp 1)), none⟩, ⟨(some 27), (.load false 1 (.tmp 26)), none⟩, ⟨(some 28), (.bin .add 3 (.tmp 25) (.tmp 27)), none⟩, ⟨(some 29), (.bin .mul 3 (.const (.int .i64 1000)) (.tmp 28)), none⟩, ⟨(some 30), (.build [(.d (.v (.int .i64 0))), (.d (.v (.int .i64 0)))] [(0, 1, (.tmp 23)), (1, 1, (.tmp 29))]), none⟩, ⟨(some 31), (.build [(.d (.v (.int .i64 0))), (.d (.v (.int .i64 0))), (.d (.v (.int .i64 0)))] [(0, 1, (.tmp 17)), (1, 2, (.tmp 30))]), none⟩, ⟨(some 32), (.bslice 3 1 [(.v (.int .i64 0)), (.v (.int .i64 0)), (.v (.int .i64 0))] [(0, (.tmp 31))]), none⟩, ⟨(some 33), (.append 3 24 (.tmp 15) (.tmp 32)), none⟩, ⟨(some 3), (.mv (.tmp 33)), none⟩]
def r73_19 : List AOper := [⟨(some 34), (.bin .add 3 (.tmp 11) (.const (.int .i64 1))), none⟩, ⟨(some 11), (.mv (.tmp 34)), none⟩]
def r73_21 : List AOper := [⟨(some 35), (.mv (.tmp 3)), none⟩, ⟨(some 2), (.mv (.tmp 35)), none⟩]
def tr73 : List (Nat × Tidy) := [(0, ⟨[1], true, [], []⟩), (1, ⟨[1, 3], true, [], []⟩), (2, ⟨[1, 3, 9, 10, 11], true, [], []⟩), (3, ⟨[1, 3, 9, 10, 11, 12], true, [], []⟩), (4, ⟨[1, 3, 5, 9, 10, 11], true, [], []⟩), (5, ⟨[1, 3, 9, 10, 11], true, [], []⟩), (6, ⟨[1, 3, 9, 10, 11], true, [], []⟩), (7, ⟨[2], true, [⟨false, 2, 0, 20002, 3⟩], []⟩)]
def tl73 : List (Nat × Tidy) := [(3, ⟨[1, 3, 9, 10, 11], true, [⟨false, 3, 0, 20003, 3⟩, ⟨false, 9, 0, 20009, 2⟩, ⟨true, 1, 3, 30103, 2⟩], []⟩)]
def rs73 : List AResV := [.tmp 2]
def p73_0_0 : PT St := pS [sl 1 (aV false [(cPtr 1 0)]), sl 3 (aV false [(cRef 20003)]), sl 9 (aV false [(cD dL)]), sl 10 (aV false [(cD (dI .i64))]), sl 11 (aV false [(cD (dI .i64))])] [eBox 1 [(cD (dI .i64)), (cD (dI .i64)), (cD (dI .i64)), (cD dL)], eOwn 20003 3]
def u73_0_0 {β : Type} (g : St → β) : Rows → Int → Int → Int → Int → Int → Rows → Rows → β := p73_0_0.unc g

def p73_0_1 : PT St := pS [sl 1 (aV false [(cPtr 1 0)]), sl 3 (aV false [(cRef 20003)]), sl 9 (aV false [(cD dL)]), sl 10 (aV false [(cD (dI .i64))]), sl 11 (aV false [(cD (dI .i64))]), sl 12 (aV false [(cD dB)])] [eBox 1 [(cD (dI .i64)), (cD (dI .i64)), (cD (dI .i64)), (cD dL)], eOwn 20003 3]
def u73_0_1 {β : Type} (g : St → β) : Rows → Int → Int → Bool → Int → Int → Int → Rows → Rows → β := p73_0_1.unc g

def pr73_0_0 : PT (List RV) := pRs [pR false [rO 3]]
def ur73_0_0 {β : Type} (g : List RV → β) : Rows → β := pr73_0_0.unc g

def E73_0g  : EnvK := EnvK.of [] noSeq
noncomputable def E73_0 : EnvK := E73_0g 
theorem eo73_0 : E73_0.Ok Try.prog := EnvK.of_ok noSeq_ok trivial

noncomputable def c73_0_9g  : MCode := (.seq (.region r73_11 [] (some ⟨[1, 3, 9, 10, 11, 12], true, [], []⟩)) (.seq (.cond (.tmp 12) .skip (.exit 0)) (.seq (.block 1 (.seq (.region r73_17 [] (some ⟨[1, 3, 5, 9, 10, 11], true, [], []⟩)) (.region r73_18 [] (some ⟨[1, 3, 9, 10, 11], true, [], []⟩)))) (.region r73_19 [] (some ⟨[1, 3, 9, 10, 11], true, [], []⟩)))))
noncomputable def c73_0_9 : MCode := c73_0_9g 
theorem g73_0_9 : c73_0_9.Good Try.prog E73_0 sh73 := ⟨trivial, ⟨⟨trivial, trivial⟩, ⟨⟨trivial, trivial⟩, trivial⟩⟩⟩
--CODE 9 0
def S73_0_0g  (α : Type) (x5 : Rows) (x6 : Int) (x10 : Int) (x7 : Int) (x12 : Rows) (kn : Int → Rows → Option α) (k1 : Int → Bool → Rows → Option α) : Option α :=
  cK (decide (x7 < x6))
    (rowK x5 x7 [.int .i64, .int .i64]
      (fun (x13 : Int) (x14 : Int) => gK (apOk 3 24 x12 [[DC.v (.int .i64 x13), DC.v (.int .i64 (w64 (1000 * (w64 (x14 - x10))))), DC.v (.int .i64 (w64 (1000 * (w64 (x14 + x10)))))]]) (kn (w64 (x7 + 1)) (x12 ++ [[DC.v (.int .i64 x13), DC.v (.int .i64 (w64 (1000 * (w64 (x14 - x10))))), DC.v (.int .i64 (w64 (1000 * (w64 (x14 + x10)))))]]))))
    (k1 x7 (decide (x7 < x6)) x12)
noncomputable def S73_0_0 (α : Type) (x5 : Rows) (x6 : Int) (x10 : Int) (x7 : Int) (x12 : Rows) (kn : Int → Rows → Option α) (k1 : Int → Bool → Rows → Option α) : Option α := S73_0_0g  α x5 x6 x10 x7 x12 kn k1
noncomputable def R73_0_0 (α : Type) (x5 : Rows) (x6 : Int) (x10 : Int) (k1 : Int → Bool → Rows → Option α) : Nat → Int → Rows → Option α
  | 0, _, _ => none
  | n + 1, x7, x12 => S73_0_0 α x5 x6 x10 x7 x12 (R73_0_0 α x5 x6 x10 k1 n) k1
noncomputable def L73_0_0 (α : Type) (x5 : Rows) (x6 : Int) (x10 : Int) (k1 : Int → Bool → Rows → Option α) (x7 : Int) (x12 : Rows) : Option α := R73_0_0 α x5 x6 x10 k1 fuel x7 x12
abbrev TL73_0_0 : Type 1 := (α : Type) → Rows → Int → Int → (Int → Bool → Rows → Option α) → Int → Rows → Option α
def F73_0_0 (v : TL73_0_0) (α : Type) (K : Exit → St → Option α) : Rows → Int → Int → Int → Int → Int → Rows → Rows → Option α := fun x5 x6 x7 x8 x9 x10 x11 x12 => v α x5 x6 x10 (fun (y1 : Int) (y2 : Bool) (y3 : Rows) => u73_0_1 (K (.exit 0)) x5 x6 y1 y2 x8 x9 x10 x11 y3) x7 x12
theorem r73_0_0g   (α : Type) (K : Exit → St → Option α) (Kn : St → Option α) (x5 : Rows) (x6 : Int) (x7 : Int) (x8 : Int) (x9 : Int) (x10 : Int) (x11 : Rows) (x12 : Rows) : u73_0_0 (fun σ => runM Try.prog (E73_0g ) sh73 (c73_0_9g ) (thenK (fun σ => tidyK td73_9 σ Kn) K) σ) x5 x6 x7 x8 x9 x10 x11 x12 = S73_0_0g  α x5 x6 x10 x7 x12 (fun x7 x12 => u73_0_0 Kn x5 x6 x7 x8 x9 x10 x11 x12) (fun (y1 : Int) (y2 : Bool) (y3 : Rows) => u73_0_1 (K (.exit 0)) x5 x6 y1 y2 x8 x9 x10 x11 y3) := by kernel_rfl
theorem r73_0_0 (α : Type) (K : Exit → St → Option α) (Kn : St → Option α) (x5 : Rows) (x6 : Int) (x7 : Int) (x8 : Int) (x9 : Int) (x10 : Int) (x11 : Rows) (x12 : Rows) : u73_0_0 (fun σ => runM Try.prog E73_0 sh73 c73_0_9 (thenK (fun σ => tidyK td73_9 σ Kn) K) σ) x5 x6 x7 x8 x9 x10 x11 x12 = S73_0_0 α x5 x6 x10 x7 x12 (fun x7 x12 => u73_0_0 Kn x5 x6 x7 x8 x9 x10 x11 x12) (fun (y1 : Int) (y2 : Bool) (y3 : Rows) => u73_0_1 (K (.exit 0)) x5 x6 y1 y2 x8 x9 x10 x11 y3) := r73_0_0g  α K Kn x5 x6 x7 x8 x9 x10 x11 x12
theorem t73_0_0 (α : Type) (K : Exit → St → Option α) : ∀ (n : Nat) (x5 : Rows) (x6 : Int) (x7 : Int) (x8 : Int) (x9 : Int) (x10 : Int) (x11 : Rows) (x12 : Rows), R73_0_0 α x5 x6 x10 (fun (y1 : Int) (y2 : Bool) (y3 : Rows) => u73_0_1 (K (.exit 0)) x5 x6 y1 y2 x8 x9 x10 x11 y3) n x7 x12 = u73_0_0 (loopT (runM Try.prog E73_0 sh73 c73_0_9) td73_9 K n) x5 x6 x7 x8 x9 x10 x11 x12 := by
  intro n
  induction n with
  | zero => intros; rfl
  | succ n ih => intro x5 x6 x7 x8 x9 x10 x11 x12; exact (congrArg (fun kn => S73_0_0 α x5 x6 x10 x7 x12 kn (fun (y1 : Int) (y2 : Bool) (y3 : Rows) => u73_0_1 (K (.exit 0)) x5 x6 y1 y2 x8 x9 x10 x11 y3)) (funext fun x7 => funext fun x12 => ih x5 x6 x7 x8 x9 x10 x11 x12)).trans (r73_0_0 α K (loopT (runM Try.prog E73_0 sh73 c73_0_9) td73_9 K n) x5 x6 x7 x8 x9 x10 x11 x12).symm
theorem m73_0_0 : ∀ (α : Type) (K : Exit → St → Option α), F73_0_0 L73_0_0 α K = p73_0_0.unc fun σ => loopT (runM Try.prog E73_0 sh73 c73_0_9) td73_9 K fuel σ := fun α K => funext fun x5 => funext fun x6 => funext fun x7 => funext fun x8 => funext fun x9 => funext fun x10 => funext fun x11 => funext fun x12 => t73_0_0 α K fuel x5 x6 x7 x8 x9 x10 x11 x12

/-- etalon/grow.allowed -/
abbrev Tf73_0 : Type 1 := (α : Type) → Int → Int → Int → Rows → (Rows → Option α) → Option α
def f73_0g (vL73_0_0 : TL73_0_0) (α : Type) (x1 : Int) (x2 : Int) (x3 : Int) (x4 : Rows) (k1 : Rows → Option α) : Option α :=
  vL73_0_0 α x4 ((List.length x4 : Nat) : Int) x3
    (fun (x15 : Int) (x16 : Bool) (x17 : Rows) => k1 x17) 0 [[DC.v (.int .i64 0), DC.v (.int .i64 0), DC.v (.int .i64 0)]]
noncomputable def f73_0 (α : Type) (x1 : Int) (x2 : Int) (x3 : Int) (x4 : Rows) (k1 : Rows → Option α) : Option α := f73_0g L73_0_0 α x1 x2 x3 x4 k1
def pa73_0 : PT (List DV) := pA [pV true [(dI .i64), (dI .i64), (dI .i64), dL]]
def Fn73_0 (v : Tf73_0) (α : Type) (k : List RV → Option α) : Int → Int → Int → Rows → Option α := fun x1 x2 x3 x4 => v α x1 x2 x3 x4 (fun (y1 : Rows) => ur73_0_0 k y1)
noncomputable def cm73_0g (vL73_0_0 : TL73_0_0) : MCode := (.seq (.region r73_2 [] (some ⟨[1], true, [], []⟩)) (.seq (.region r73_4 [] (some ⟨[1, 3], true, [], []⟩)) (.seq (.seq (.region r73_7 [] (some ⟨[1, 3, 9, 10, 11], true, [], []⟩)) (.block 0 (.loop td73_9 [⟨p73_0_0, F73_0_0 vL73_0_0⟩] c73_0_9))) (.seq (.region r73_21 [] (some ⟨[2], true, [⟨false, 2, 0, 20002, 3⟩], []⟩)) .ret))))
noncomputable def cm73_0 : MCode := cm73_0g L73_0_0
theorem gm73_0 : cm73_0.Good Try.prog E73_0 sh73 := ⟨trivial, ⟨trivial, ⟨⟨trivial, ⟨g73_0_9, m73_0_0, trivial⟩⟩, ⟨trivial, trivial⟩⟩⟩⟩
theorem fm73_0g  (vL73_0_0 : TL73_0_0) (α : Type) (k : List RV → Option α) : Fn73_0 (f73_0g vL73_0_0) α k = pa73_0.unc fun ds => fnM Try.prog (E73_0g ) sh73 (cm73_0g vL73_0_0) rs73 k ds := by kernel_rfl
theorem fm73_0 : ∀ (α : Type) (k : List RV → Option α), Fn73_0 f73_0 α k = pa73_0.unc fun ds => fnM Try.prog E73_0 sh73 cm73_0 rs73 k ds := fm73_0g L73_0_0

theorem is73 : FnIs Try.prog 73 nt73 tr73 tl73 cm73_0.erase rs73 := ⟨Try.f73, Try.func73, rfl, by kernel_rfl, by kernel_rfl, by kernel_rfl⟩
theorem io73_0 : InstOk Try.prog 73 nt73 ⟨pa73_0, Fn73_0 f73_0⟩ := inst_ok eo73_0 followsTry is73 ⟨⟨sh73, cm73_0, by kernel_rfl, gm73_0, fm73_0⟩⟩

/-! ### F78 etalon/grow.within -/
abbrev nt78 : Nat := 15
def sh78 : List (Nat × List Sh) := []
def r78_2 : List AOper := [⟨(some 6), (.mv (.const (.bool false))), none⟩]
def r78_4 : List AOper := [⟨(some 7), (.mv (.tmp 1)), none⟩, ⟨(some 8), (.mv (.tmp 0)), none⟩, ⟨(some 9), (.bin .leq 3 (.tmp 7) (.tmp 8)), none⟩, ⟨(some 10), (.mv (.tmp 9)), none⟩, ⟨(some 11), (.mv (.tmp 0)), (some (10, true))⟩, ⟨(some 12), (.mv (.tmp 2)), (some (10, true))⟩, ⟨(some 13), (.bin .leq 3 (.tmp 11) (.tmp 12)), (some (10, true))⟩, ⟨(some 14), (.pick (.tmp 10) (.tmp 13) (.const (.bool false))), none⟩, ⟨(some 6), (.mv (.tmp 14)), none⟩]
def tr78 : List (Nat × Tidy) := [(0, ⟨[0, 1, 2], true, [], []⟩), (1, ⟨[6], true, [], []⟩)]
def tl78 : List (Nat × Tidy) := []
def rs78 : List AResV := [.tmp 6]
def pr78_0_0 : PT (List RV) := pRs [pR false [rD dB]]
def ur78_0_0 {β : Type} (g : List RV → β) : Bool → β := pr78_0_0.unc g

def E78_0g  : EnvK := EnvK.of [] noSeq
noncomputable def E78_0 : EnvK := E78_0g 
theorem eo78_0 : E78_0.Ok Try.prog := EnvK.of_ok noSeq_ok trivial

/-- etalon/grow.within -/
abbrev Tf78_0 : Type 1 := (α : Type) → Int → Int → Int → (Bool → Option α) → Option α
def f78_0g  (α : Type) (x1 : Int) (x2 : Int) (x3 : Int) (k1 : Bool → Option α) : Option α :=
  cK (decide (x2 ≤ x1))
    (k1 (decide (x1 ≤ x3)))
    (k1 false)
noncomputable def f78_0 (α : Type) (x1 : Int) (x2 : Int) (x3 : Int) (k1 : Bool → Option α) : Option α := f78_0g  α x1 x2 x3 k1
def pa78_0 : PT (List DV) := pA [pV false [(dI .i64)], pV false [(dI .i64)], pV false [(dI .i64)]]
def Fn78_0 (v : Tf78_0) (α : Type) (k : List RV → Option α) : Int → Int → Int → Option α := fun x1 x2 x3 => v α x1 x2 x3 (fun (y1 : Bool) => ur78_0_0 k y1)
noncomputable def cm78_0g  : MCode := (.seq (.region r78_2 [] (some ⟨[0, 1, 2], true, [], []⟩)) (.seq (.region r78_4 [] (some ⟨[6], true, [], []⟩)) .ret))
noncomputable def cm78_0 : MCode := cm78_0g 
theorem gm78_0 : cm78_0.Good Try.prog E78_0 sh78 := ⟨trivial, ⟨trivial, trivial⟩⟩
theorem fm78_0g   (α : Type) (k : List RV → Option α) : Fn78_0 (f78_0g ) α k = pa78_0.unc fun ds => fnM Try.prog (E78_0g ) sh78 (cm78_0g ) rs78 k ds := by kernel_rfl
theorem fm78_0 : ∀ (α : Type) (k : List RV → Option α), Fn78_0 f78_0 α k = pa78_0.unc fun ds => fnM Try.prog E78_0 sh78 cm78_0 rs78 k ds := fm78_0g 

theorem is78 : FnIs Try.prog 78 nt78 tr78 tl78 cm78_0.erase rs78 := ⟨Try.f78, Try.func78, rfl, by kernel_rfl, by kernel_rfl, by kernel_rfl⟩
theorem io78_0 : InstOk Try.prog 78 nt78 ⟨pa78_0, Fn78_0 f78_0⟩ := inst_ok eo78_0 followsTry is78 ⟨⟨sh78, cm78_0, by kernel_rfl, gm78_0, fm78_0⟩⟩

/-! ### F17 etalon/etalonref08.CopyTrack -/
abbrev nt17 : Nat := 9
def sh17 : List (Nat × List Sh) := [(5, [.sl]), (8, [.int .i64, .int .i64, .int .i64, .sl])]
def r17_2 : List AOper := [⟨(some 1), (.box (.tmp 0)), none⟩, ⟨(some 2), (.alloc [(.d (.v (.int .i64 0))), (.d (.v (.int .i64 0))), (.d (.v (.int .i64 0))), .nils]), none⟩]
def r17_4 : List AOper := [⟨(some 3), (.bslice 2 0 [(.v (.int .i64 0)), (.v (.int .i64 0))] []), none⟩, ⟨(some 4), (.faddr 3 (.tmp 1)), none⟩, ⟨(some 5), (.load false 1 (.tmp 4)), none⟩, ⟨(some 6), (.append 2 16 (.tmp 3) (.tmp 5)), none⟩, ⟨(some 7), (.faddr 3 (.tmp 1)), none⟩, ⟨none, (.store 1 (.tmp 7) (.tmp 6)), none⟩]
def r17_6 : List AOper := [⟨(some 8), (.load true 4 (.tmp 1)), none⟩, ⟨none, (.store 4 (.tmp 2) (.tmp 8)), none⟩]
def tr17 : List (Nat × Tidy) := [(0, ⟨[1, 2], true, [⟨true, 2, 3, 30203, 2⟩], []⟩), (1, ⟨[1, 2], true, [⟨true, 2, 3, 30203, 2⟩], []⟩), (2, ⟨[2], true, [⟨true, 2, 3, 30203, 2⟩], []⟩)]
def tl17 : List (Nat × Tidy) := []
def rs17 : List AResV := [.cell 2 true 4]
def pr17_0_0 : PT (List RV) := pRs [pR true [rD (dI .i64), rD (dI .i64), rD (dI .i64), rO 2]]
def ur17_0_0 {β : Type} (g : List RV → β) : Int → Int → Int → Rows → β := pr17_0_0.unc g

def E17_0g  : EnvK := EnvK.of [] noSeq
noncomputable def E17_0 : EnvK := E17_0g 
theorem eo17_0 : E17_0.Ok Try.prog := EnvK.of_ok noSeq_ok trivial

/-- etalon/etalonref08.CopyTrack -/
abbrev Tf17_0 : Type 1 := (α : Type) → Int → Int → Int → Rows → (Int → Int → Int → Rows → Option α) → Option α
def f17_0g  (α : Type) (x1 : Int) (x2 : Int) (x3 : Int) (x4 : Rows) (k1 : Int → Int → Int → Rows → Option α) : Option α :=
  gK (apOk 2 16 [] x4) (k1 x1 x2 x3 ([] ++ x4))
noncomputable def f17_0 (α : Type) (x1 : Int) (x2 : Int) (x3 : Int) (x4 : Rows) (k1 : Int → Int → Int → Rows → Option α) : Option α := f17_0g  α x1 x2 x3 x4 k1
def pa17_0 : PT (List DV) := pA [pV true [(dI .i64), (dI .i64), (dI .i64), dL]]
def Fn17_0 (v : Tf17_0) (α : Type) (k : List RV → Option α) : Int → Int → Int → Rows → Option α := fun x1 x2 x3 x4 => v α x1 x2 x3 x4 (fun (y1 : Int) (y2 : Int) (y3 : Int) (y4 : Rows) => ur17_0_0 k y1 y2 y3 y4)
noncomputable def cm17_0g  : MCode := (.seq (.region r17_2 [] (some ⟨[1, 2], true, [⟨true, 2, 3, 30203, 2⟩], []⟩)) (.seq (.region r17_4 [] (some ⟨[1, 2], true, [⟨true, 2, 3, 30203, 2⟩], []⟩)) (.seq (.region r17_6 [] (some ⟨[2], true, [⟨true, 2, 3, 30203, 2⟩], []⟩)) .ret)))
noncomputable def cm17_0 : MCode := cm17_0g 
theorem gm17_0 : cm17_0.Good Try.prog E17_0 sh17 := ⟨trivial, ⟨trivial, ⟨trivial, trivial⟩⟩⟩
theorem fm17_0g   (α : Type) (k : List RV → Option α) : Fn17_0 (f17_0g ) α k = pa17_0.unc fun ds => fnM Try.prog (E17_0g ) sh17 (cm17_0g ) rs17 k ds := by kernel_rfl
theorem fm17_0 : ∀ (α : Type) (k : List RV → Option α), Fn17_0 f17_0 α k = pa17_0.unc fun ds => fnM Try.prog E17_0 sh17 cm17_0 rs17 k ds := fm17_0g 

theorem is17 : FnIs Try.prog 17 nt17 tr17 tl17 cm17_0.erase rs17 := ⟨Try.f17, Try.func17, rfl, by kernel_rfl, by kernel_rfl, by kernel_rfl⟩
theorem io17_0 : InstOk Try.prog 17 nt17 ⟨pa17_0, Fn17_0 f17_0⟩ := inst_ok eo17_0 followsTry is17 ⟨⟨sh17, cm17_0, by kernel_rfl, gm17_0, fm17_0⟩⟩

/-! ### F19 etalon/etalonbase.Within -/
abbrev nt19 : Nat := 15
def sh19 : List (Nat × List Sh) := []
def r19_2 : List AOper := [⟨(some 6), (.mv (.const (.bool false))), none⟩]
def r19_4 : List AOper := [⟨(some 7), (.mv (.tmp 1)), none⟩, ⟨(some 8), (.mv (.tmp 0)), none⟩, ⟨(some 9), (.bin .leq 3 (.tmp 7) (.tmp 8)), none⟩, ⟨(some 10), (.mv (.tmp 9)), none⟩, ⟨(some 11), (.mv (.tmp 0)), (some (10, true))⟩, ⟨(some 12), (.mv (.tmp 2)), (some (10, true))⟩, ⟨(some 13), (.bin .leq 3 (.tmp 11) (.tmp 12)), (some (10, true))⟩, ⟨(some 14), (.pick (.tmp 10) (.tmp 13) (.const (.bool false))), none⟩, ⟨(some 6), (.mv (.tmp 14)), none⟩]
def tr19 : List (Nat × Tidy) := [(0, ⟨[0, 1, 2], true, [], []⟩), (1, ⟨[6], true, [], []⟩)]
def tl19 : List (Nat × Tidy) := []
def rs19 : List AResV := [.tmp 6]
def pr19_0_0 : PT (List RV) := pRs [pR false [rD dB]]
def ur19_0_0 {β : Type} (g : List RV → β) : Bool → β := pr19_0_0.unc g

def E19_0g  : EnvK := EnvK.of [] noSeq
noncomputable def E19_0 : EnvK := E19_0g 
theorem eo19_0 : E19_0.Ok Try.prog := EnvK.of_ok noSeq_ok trivial

/-- etalon/etalonbase.Within -/
abbrev Tf19_0 : Type 1 := (α : Type) → Int → Int → Int → (Bool → Option α) → Option α
def f19_0g  (α : Type) (x1 : Int) (x2 : Int) (x3 : Int) (k1 : Bool → Option α) : Option α :=
  cK (decide (x2 ≤ x1))
    (k1 (decide (x1 ≤ x3)))
    (k1 false)
noncomputable def f19_0 (α : Type) (x1 : Int) (x2 : Int) (x3 : Int) (k1 : Bool → Option α) : Option α := f19_0g  α x1 x2 x3 k1
def pa19_0 : PT (List DV) := pA [pV false [(dI .i64)], pV false [(dI .i64)], pV false [(dI .i64)]]
def Fn19_0 (v : Tf19_0) (α : Type) (k : List RV → Option α) : Int → Int → Int → Option α := fun x1 x2 x3 => v α x1 x2 x3 (fun (y1 : Bool) => ur19_0_0 k y1)
noncomputable def cm19_0g  : MCode := (.seq (.region r19_2 [] (some ⟨[0, 1, 2], true, [], []⟩)) (.seq (.region r19_4 [] (some ⟨[6], true, [], []⟩)) .ret))
noncomputable def cm19_0 : MCode := cm19_0g 
theorem gm19_0 : cm19_0.Good Try.prog E19_0 sh19 := ⟨trivial, ⟨trivial, trivial⟩⟩
theorem fm19_0g   (α : Type) (k : List RV → Option α) : Fn19_0 (f19_0g ) α k = pa19_0.unc fun ds => fnM Try.prog (E19_0g ) sh19 (cm19_0g ) rs19 k ds := by kernel_rfl
theorem fm19_0 : ∀ (α : Type) (k : List RV → Option α), Fn19_0 f19_0 α k = pa19_0.unc fun ds => fnM Try.prog E19_0 sh19 cm19_0 rs19 k ds := fm19_0g 

theorem is19 : FnIs Try.prog 19 nt19 tr19 tl19 cm19_0.erase rs19 := ⟨Try.f19, Try.func19, rfl, by kernel_rfl, by kernel_rfl, by kernel_rfl⟩
theorem io19_0 : InstOk Try.prog 19 nt19 ⟨pa19_0, Fn19_0 f19_0⟩ := inst_ok eo19_0 followsTry is19 ⟨⟨sh19, cm19_0, by kernel_rfl, gm19_0, fm19_0⟩⟩

/-! ### F97 etalon/etalonref08.Contradicts -/
abbrev nt97 : Nat := 51
def sh97 : List (Nat × List Sh) := [(12, [.int .i64, .int .i64, .int .i64, .sl]), (18, [.int .i64, .int .i64, .int .i64, .sl]), (24, [.int .i64]), (30, [.int .i64]), (34, [.int .i64]), (38, [.int .i64]), (44, [.int .i64]), (48, [.int .i64])]
def r97_2 : List AOper := [⟨(some 3), (.box (.tmp 0)), none⟩, ⟨(some 6), (.mv (.const (.bool false))), none⟩]
def r97_4 : List AOper := [⟨(some 12), (.load true 4 (.tmp 3)), none⟩, ⟨(some 13), (.mv (.tmp 1)), none⟩, ⟨(some 14), (.call 96 [(.tmp 12), (.tmp 13)]), none⟩, ⟨(some 11), (.mv (.tmp 14)), none⟩, ⟨(some 15), (.extract 0 (.tmp 11)), none⟩, ⟨(some 16), (.extract 1 (.tmp 11)), none⟩, ⟨(some 8), (.alloc [(.d (.v (.int .i64 0))), (.d (.v (.int .i64 0)))]), none⟩, ⟨(some 7), (.mv (.tmp 15)), none⟩, ⟨none, (.store 2 (.tmp 8) (.tmp 16)), none⟩]
def r97_6 : List AOper := [⟨(some 18), (.load true 4 (.tmp 3)), none⟩, ⟨(some 19), (.mv (.tmp 2)), none⟩, ⟨(some 20), (.call 96 [(.tmp 18), (.tmp 19)]), none⟩, ⟨(some 17), (.mv (.tmp 20)), none⟩, ⟨(some 21), (.extract 0 (.tmp 17)), none⟩, ⟨(some 22), (.extract 1 (.tmp 17)), none⟩, ⟨(some 10), (.alloc [(.d (.v (.int .i64 0))), (.d (.v (.int .i64 0)))]), none⟩, ⟨(some 9), (.mv (.tmp 21)), none⟩, ⟨none, (.store 2 (.tmp 10) (.tmp 22)), none⟩]
def r97_8 : List AOper := [⟨(some 23), (.faddr 1 (.tmp 8)), none⟩, ⟨(some 24), (.load false 1 (.tmp 23)), none⟩, ⟨(some 25), (.mv (.tmp 9)), none⟩, ⟨(some 26), (.mv (.tmp 7)), none⟩, ⟨(some 27), (.bin .sub 3 (.tmp 25) (.tmp 26)), none⟩, ⟨(some 28), (.faddr 0 (.tmp 3)), none⟩, ⟨(some 29), (.faddr 1 (.tmp 28)), none⟩, ⟨(some 30), (.load false 1 (.tmp 29)), none⟩, ⟨(some 31), (.bin .mul 3 (.tmp 27) (.tmp 30)), none⟩, ⟨(some 32), (.bin .add 3 (.tmp 24) (.tmp 31)), none⟩, ⟨(some 33), (.faddr 0 (.tmp 10)), none⟩, ⟨(some 34), (.load false 1 (.tmp 33)), none⟩, ⟨(some 35), (.bin .lss 3 (.tmp 32) (.tmp 34)), none⟩, ⟨(some 36), (.mv (.tmp 35)), none⟩, ⟨(some 37), (.faddr 0 (.tmp 8)), (some (36, false))⟩, ⟨(some 38), (.load false 1 (.tmp 37)), (some (36, false))⟩, ⟨(some 39), (.mv (.tmp 9)), (some (36, false))⟩, ⟨(some 40), (.mv (.tmp 7)), (some (36, false))⟩, ⟨(some 41), (.bin .sub 3 (.tmp 39) (.tmp 40)), (some (36, false))⟩, ⟨(some 42), (.faddr 0 (.tmp 3)), (some (36, false))⟩, ⟨(some 43), (.faddr 0 (.tmp 42)), (some (36, false))⟩, ⟨(some 44), (.load false 1 (.tmp 43)), (some (36, false))⟩, ⟨(some 45), (.bin .mul 3 (.tmp 41) (.tmp 44)), (some (36, false))⟩, ⟨(some 46), (.bin .add 3 (.tmp 38) (.tmp 45)), (some (36, false))⟩, ⟨(some 47), (.faddr 1 (.tmp 10)), (some (36, false))⟩, ⟨(some 48), (.load false 1 (.tmp 47)), (some (36, false))⟩, ⟨(some 49), (.bin .gtr 3 (.tmp 46) (.tmp 48)), (some (36, false))⟩, ⟨(some 50), (.pick (.tmp 36) (.const (.bool true)) (.tmp 49)), none⟩, ⟨(some 6), (.mv (.tmp 50)), none⟩]
def tr97 : List (Nat × Tidy) := [(0, ⟨[1, 2, 3], true, [], []⟩), (1, ⟨[2, 3, 7, 8], true, [], []⟩), (2, ⟨[3, 7, 8, 9, 10], true, [], []⟩), (3, ⟨[6], true, [], []⟩)]
def tl97 : List (Nat × Tidy) := []
def rs97 : List AResV := [.tmp 6]
def pr97_0_0 : PT (List RV) := pRs [pR false [rD dB]]
def ur97_0_0 {β : Type} (g : List RV → β) : Bool → β := pr97_0_0.unc g

def E97_0g (vf96_0 : Tf96_0) : EnvK := EnvK.of [⟨96, nt96, [⟨pa96_0, Fn96_0 vf96_0⟩]⟩] noSeq
noncomputable def E97_0 : EnvK := E97_0g f96_0
theorem eo97_0 : E97_0.Ok Try.prog := EnvK.of_ok noSeq_ok ⟨⟨io96_0, trivial⟩, trivial⟩

/-- etalon/etalonref08.Contradicts -/
abbrev Tf97_0 : Type 1 := (α : Type) → Int → Int → Int → Rows → Int → Int → (Bool → Option α) → Option α
def f97_0g (vf96_0 : Tf96_0) (α : Type) (x1 : Int) (x2 : Int) (x3 : Int) (x4 : Rows) (x5 : Int) (x6 : Int) (k1 : Bool → Option α) : Option α :=
  vf96_0 α x1 x2 x3 x4 x5
    (fun (x7 : Int) (x8 : Int) (x9 : Int) => vf96_0 α x1 x2 x3 x4 x6
      (fun (x10 : Int) (x11 : Int) (x12 : Int) => cK (decide ((w64 (x9 + (w64 ((w64 (x10 - x7)) * x2)))) < x11))
        (k1 true)
        (k1 (decide (x12 < (w64 (x8 + (w64 ((w64 (x10 - x7)) * x1)))))))))
noncomputable def f97_0 (α : Type) (x1 : Int) (x2 : Int) (x3 : Int) (x4 : Rows) (x5 : Int) (x6 : Int) (k1 : Bool → Option α) : Option α := f97_0g f96_0 α x1 x2 x3 x4 x5 x6 k1
def pa97_0 : PT (List DV) := pA [pV true [(dI .i64), (dI .i64), (dI .i64), dL], pV false [(dI .i64)], pV false [(dI .i64)]]
def Fn97_0 (v : Tf97_0) (α : Type) (k : List RV → Option α) : Int → Int → Int → Rows → Int → Int → Option α := fun x1 x2 x3 x4 x5 x6 => v α x1 x2 x3 x4 x5 x6 (fun (y1 : Bool) => ur97_0_0 k y1)
noncomputable def cm97_0g  : MCode := (.seq (.region r97_2 [] (some ⟨[1, 2, 3], true, [], []⟩)) (.seq (.region r97_4 [] (some ⟨[2, 3, 7, 8], true, [], []⟩)) (.seq (.region r97_6 [] (some ⟨[3, 7, 8, 9, 10], true, [], []⟩)) (.seq (.region r97_8 [] (some ⟨[6], true, [], []⟩)) .ret))))
noncomputable def cm97_0 : MCode := cm97_0g 
theorem gm97_0 : cm97_0.Good Try.prog E97_0 sh97 := ⟨trivial, ⟨trivial, ⟨trivial, ⟨trivial, trivial⟩⟩⟩⟩
theorem fm97_0g (vf96_0 : Tf96_0)  (α : Type) (k : List RV → Option α) : Fn97_0 (f97_0g vf96_0) α k = pa97_0.unc fun ds => fnM Try.prog (E97_0g vf96_0) sh97 (cm97_0g ) rs97 k ds := by kernel_rfl
theorem fm97_0 : ∀ (α : Type) (k : List RV → Option α), Fn97_0 f97_0 α k = pa97_0.unc fun ds => fnM Try.prog E97_0 sh97 cm97_0 rs97 k ds := fm97_0g f96_0

theorem is97 : FnIs Try.prog 97 nt97 tr97 tl97 cm97_0.erase rs97 := ⟨Try.f97, Try.func97, rfl, by kernel_rfl, by kernel_rfl, by kernel_rfl⟩
theorem io97_0 : InstOk Try.prog 97 nt97 ⟨pa97_0, Fn97_0 f97_0⟩ := inst_ok eo97_0 followsTry is97 ⟨⟨sh97, cm97_0, by kernel_rfl, gm97_0, fm97_0⟩⟩

/-! ### F95 etalon/etalonbase.Ceil -/
abbrev nt95 : Nat := 10
def sh95 : List (Nat × List Sh) := []
def r95_2 : List AOper := [⟨(some 4), (.mv (.const (.int .i64 0))), none⟩]
def r95_4 : List AOper := [⟨(some 5), (.mv (.tmp 0)), none⟩, ⟨(some 6), (.pure (oB (.unOp .neg 3 (.tmp 5)) 3)), none⟩, ⟨(some 7), (.mv (.tmp 1)), none⟩, ⟨(some 8), (.call 94 [(.tmp 6), (.tmp 7)]), none⟩, ⟨(some 9), (.pure (oB (.unOp .neg 3 (.tmp 8)) 3)), none⟩, ⟨(some 4), (.mv (.tmp 9)), none⟩]
def tr95 : List (Nat × Tidy) := [(0, ⟨[0, 1], true, [], []⟩), (1, ⟨[4], true, [], []⟩)]
def tl95 : List (Nat × Tidy) := []
def rs95 : List AResV := [.tmp 4]
def pr95_0_0 : PT (List RV) := pRs [pR false [rD (dI .i64)]]
def ur95_0_0 {β : Type} (g : List RV → β) : Int → β := pr95_0_0.unc g

def E95_0g (vf94_0 : Tf94_0) : EnvK := EnvK.of [⟨94, nt94, [⟨pa94_0, Fn94_0 vf94_0⟩]⟩] noSeq
noncomputable def E95_0 : EnvK := E95_0g f94_0
theorem eo95_0 : E95_0.Ok Try.prog := EnvK.of_ok noSeq_ok ⟨⟨io94_0, trivial⟩, trivial⟩

/-- etalon/etalonbase.Ceil -/
abbrev Tf95_0 : Type 1 := (α : Type) → Int → Int → (Int → Option α) → Option α
def f95_0g (vf94_0 : Tf94_0) (α : Type) (x1 : Int) (x2 : Int) (k1 : Int → Option α) : Option α :=
  vf94_0 α (w64 (0 - x1)) x2
    (fun (x3 : Int) => k1 (w64 (0 - x3)))
noncomputable def f95_0 (α : Type) (x1 : Int) (x2 : Int) (k1 : Int → Option α) : Option α := f95_0g f94_0 α x1 x2 k1
def pa95_0 : PT (List DV) := pA [pV false [(dI .i64)], pV false [(dI .i64)]]
def Fn95_0 (v : Tf95_0) (α : Type) (k : List RV → Option α) : Int → Int → Option α := fun x1 x2 => v α x1 x2 (fun (y1 : Int) => ur95_0_0 k y1)
noncomputable def cm95_0g  : MCode := (.seq (.region r95_2 [] (some ⟨[0, 1], true, [], []⟩)) (.seq (.region r95_4 [] (some ⟨[4], true, [], []⟩)) .ret))
noncomputable def cm95_0 : MCode := cm95_0g 
theorem gm95_0 : cm95_0.Good Try.prog E95_0 sh95 := ⟨trivial, ⟨trivial, trivial⟩⟩
theorem fm95_0g (vf94_0 : Tf94_0)  (α : Type) (k : List RV → Option α) : Fn95_0 (f95_0g vf94_0) α k = pa95_0.unc fun ds => fnM Try.prog (E95_0g vf94_0) sh95 (cm95_0g ) rs95 k ds := by kernel_rfl
theorem fm95_0 : ∀ (α : Type) (k : List RV → Option α), Fn95_0 f95_0 α k = pa95_0.unc fun ds => fnM Try.prog E95_0 sh95 cm95_0 rs95 k ds := fm95_0g f94_0

theorem is95 : FnIs Try.prog 95 nt95 tr95 tl95 cm95_0.erase rs95 := ⟨Try.f95, Try.func95, rfl, by kernel_rfl, by kernel_rfl, by kernel_rfl⟩
theorem io95_0 : InstOk Try.prog 95 nt95 ⟨pa95_0, Fn95_0 f95_0⟩ := inst_ok eo95_0 followsTry is95 ⟨⟨sh95, cm95_0, by kernel_rfl, gm95_0, fm95_0⟩⟩

/-! ### F18 etalon/etalonlaw08.keeps -/
abbrev nt18 : Nat := 77
def sh18 : List (Nat × List Sh) := [(13, [.sl]), (23, [.sl]), (25, [.int .i64, .int .i64]), (26, [.int .i64, .int .i64]), (28, [.int .i64]), (33, [.int .i64]), (34, [.int .i64]), (36, [.int .i64]), (38, [.int .i64]), (42, [.int .i64]), (44, [.int .i64]), (52, [.int .i64]), (53, [.int .i64]), (58, [.int .i64]), (65, [.int .i64]), (72, [.int .i64]), (75, [.int .i64]), (76, [.int .i64])]
def r18_2 : List AOper := [⟨(some 2), (.box (.tmp 0)), none⟩, ⟨(some 4), (.mv (.const (.bool false))), none⟩]
def r18_5 : List AOper := [⟨(some 10), (.mv (.tmp 1)), none⟩, ⟨(some 11), (.len (.tmp 10)), none⟩, ⟨(some 12), (.faddr 3 (.tmp 2)), none⟩, ⟨(some 13), (.load false 1 (.tmp 12)), none⟩, ⟨(some 14), (.len (.tmp 13)), none⟩, ⟨(some 15), (.bin .neq 3 (.tmp 11) (.tmp 14)), none⟩]
def r18_8 : List AOper := [⟨(some 4), (.mv (.const (.bool false))), none⟩]
def r18_10 : List AOper := [⟨(some 5), (.mv (.const (.int .i64 0))), none⟩, ⟨(some 6), (.mv (.const (.int .i64 0))), none⟩]
def r18_13 : List AOper := [⟨(some 7), (.mv (.const (.int .i64 0))), none⟩]
def td18_15 : Option Tidy := (some ⟨[1, 2, 5, 6, 7], true, [⟨true, 2, 3, 30203, 2⟩], []⟩)
def r18_18 : List AOper := [⟨(some 16), (.mv (.tmp 7)), none⟩, ⟨(some 17), (.mv (.tmp 1)), none⟩, ⟨(some 18), (.len (.tmp 17)), none⟩, ⟨(some 19), (.bin .lss 3 (.tmp 16) (.tmp 18)), none⟩]
def r18_23 : List AOper := [⟨(some 22), (.faddr 3 (.tmp 2)), none⟩, ⟨(some 23), (.load false 1 (.tmp 22)), none⟩, ⟨(some 24), (.mv (.tmp 7)), none⟩, ⟨(some 25), (.iaddr 2 none (.tmp 23) (.tmp 24)), none⟩, ⟨(some 26), (.load true 2 (.tmp 25)), none⟩, ⟨(some 8), (.alloc [(.d (.v (.int .i64 0))), (.d (.v (.int .i64 0)))]), none⟩, ⟨none, (.store 2 (.tmp 8) (.tmp 26)), none⟩]
def r18_25 : List AOper := [⟨(some 27), (.faddr 0 (.tmp 8)), none⟩, ⟨(some 28), (.load false 1 (.tmp 27)), none⟩, ⟨(some 29), (.mv (.tmp 5)), none⟩, ⟨(some 30), (.bin .sub 3 (.tmp 28) (.tmp 29)), none⟩, ⟨(some 9), (.mv (.tmp 30)), none⟩]
def r18_28 : List AOper := [⟨(some 31), (.mv (.tmp 1)), none⟩, ⟨(some 32), (.mv (.tmp 7)), none⟩, ⟨(some 33), (.iaddr 1 none (.tmp 31) (.tmp 32)), none⟩, ⟨(some 34), (.load false 1 (.tmp 33)), none⟩, ⟨(some 35), (.faddr 1 (.tmp 8)), none⟩, ⟨(some 36), (.load false 1 (.tmp 35)), none⟩, ⟨(some 37), (.faddr 2 (.tmp 2)), none⟩, ⟨(some 38), (.load false 1 (.tmp 37)), none⟩, ⟨(some 39), (.bin .sub 3 (.tmp 36) (.tmp 38)), none⟩, ⟨(some 40), (.bin .mul 3 (.const (.int .i64 1000)) (.tmp 39)), none⟩, ⟨(some 41), (.faddr 1 (.tmp 8)), none⟩, ⟨(some 42), (.load false 1 (.tmp 41)), none⟩, ⟨(some 43), (.faddr 2 (.tmp 2)), none⟩, ⟨(some 44), (.load false 1 (.tmp 43)), none⟩, ⟨(some 45), (.bin .add 3 (.tmp 42) (.tmp 44)), none⟩, ⟨(some 46), (.bin .mul 3 (.const (.int .i64 1000)) (.tmp 45)), none⟩, ⟨(some 47), (.call 19 [(.tmp 34), (.tmp 40), (.tmp 46)]), none⟩, ⟨(some 48), (.pure (oB (.unOp .not 4 (.tmp 47)) 4)), none⟩, ⟨(some 49), (.mv (.tmp 48)), none⟩, ⟨(some 50), (.mv (.tmp 1)), (some (49, false))⟩, ⟨(some 51), (.mv (.tmp 7)), (some (49, false))⟩, ⟨(some 52), (.iaddr 1 none (.tmp 50) (.tmp 51)), (some (49, false))⟩, ⟨(some 53), (.load false 1 (.tmp 52)), (some (49, false))⟩, ⟨(some 54), (.mv (.tmp 6)), (some (49, false))⟩, ⟨(some 55), (.mv (.tmp 9)), (some (49, false))⟩, ⟨(some 56), (.faddr 0 (.tmp 2)), (some (49, false))⟩, ⟨(some 57), (.faddr 0 (.tmp 56)), (some (49, false))⟩, ⟨(some 58), (.load false 1 (.tmp 57)), (some (49, false))⟩, ⟨(some 59), (.bin .mul 3 (.tmp 55) (.tmp 58)), (some (49, false))⟩, ⟨(some 60), (.bin .add 3 (.tmp 54) (.tmp 59)), (some (49, false))⟩, ⟨(some 61), (.mv (.tmp 6)), (some (49, false))⟩, ⟨(some 62), (.mv (.tmp 9)), (some (49, false))⟩, ⟨(some 63), (.faddr 0 (.tmp 2)), (some (49, false))⟩, ⟨(some 64), (.faddr 1 (.tmp 63)), (some (49, false))⟩, ⟨(some 65), (.load false 1 (.tmp 64)), (some (49, false))⟩, ⟨(some 66), (.bin .mul 3 (.tmp 62) (.tmp 65)), (some (49, false))⟩, ⟨(some 67), (.bin .add 3 (.tmp 61) (.tmp 66)), (some (49, false))⟩, ⟨(some 68), (.call 19 [(.tmp 53), (.tmp 60), (.tmp 67)]), (some (49, false))⟩, ⟨(some 69), (.pure (oB (.unOp .not 4 (.tmp 68)) 4)), (some (49, false))⟩, ⟨(some 70), (.pick (.tmp 49) (.const (.bool true)) (.tmp 69)), none⟩]
def r18_31 : List AOper := [⟨(some 4), (.mv (.const (.bool false))), none⟩]
def r18_32 : List AOper := [⟨(some 71), (.faddr 0 (.tmp 8)), none⟩, ⟨(some 72), (.load false 1 (.tmp 71)), none⟩, ⟨(some 73), (.mv (.tmp 1)), none⟩, ⟨(some 74), (.mv (.tmp 7)), none⟩, ⟨(some 75), (.iaddr 1 none (.tmp 73) (.tmp 74)), none⟩, ⟨(some 76), (.load false 1 (.tmp 75)), none⟩, ⟨(some 5), (.mv (.tmp 72)), none⟩, ⟨(some 6), (.mv (.tmp 76)), none⟩]
def r18_33 : List AOper := [⟨(some 20), (.mv (.tmp 7)), none⟩, ⟨(some 21), (.bin .add 3 (.tmp 20) (.const (.int .i64 1))), none⟩, ⟨(some 7), (.mv (.tmp 21)), none⟩]
def r18_35 : List AOper := [⟨(some 4), (.mv (.const (.bool true))), none⟩]
def tr18 : List (Nat × Tidy) := [(0, ⟨[1, 2], true, [], []⟩), (1, ⟨[1, 2, 15], true, [], []⟩), (2, ⟨[4], true, [], []⟩), (3, ⟨[1, 2, 5, 6], true, [], []⟩), (4, ⟨[1, 2, 5, 6, 7], true, [], []⟩), (5, ⟨[1, 2, 5, 6, 7, 19], true, [], []⟩), (7, ⟨[1, 2, 5, 6, 7, 8], true, [], []⟩), (8, ⟨[1, 2, 6, 7, 8, 9], true, [], []⟩), (9, ⟨[1, 2, 7, 8, 70], true, [], []⟩), (10, ⟨[4], true, [], []⟩), (11, ⟨[1, 2, 5, 6, 7], true, [], []⟩), (6, ⟨[1, 2, 5, 6, 7], true, [], []⟩), (12, ⟨[4], true, [], []⟩)]
def tl18 : List (Nat × Tidy) := [(5, ⟨[1, 2, 5, 6, 7], true, [⟨true, 2, 3, 30203, 2⟩], []⟩)]
def rs18 : List AResV := [.tmp 4]
def p18_0_0 : PT St := pS [sl 1 (aV false [(cD dL)]), sl 2 (aV false [(cPtr 2 0)]), sl 5 (aV false [(cD (dI .i64))]), sl 6 (aV false [(cD (dI .i64))]), sl 7 (aV false [(cD (dI .i64))])] [eBox 2 [(cD (dI .i64)), (cD (dI .i64)), (cD (dI .i64)), (cD dL)]]
def u18_0_0 {β : Type} (g : St → β) : Rows → Int → Int → Int → Int → Int → Int → Rows → β := p18_0_0.unc g

def p18_0_1 : PT St := pS [sl 4 (aV false [(cD dB)])] []
def u18_0_1 {β : Type} (g : St → β) : Bool → β := p18_0_1.unc g

def p18_0_2 : PT St := pS [sl 1 (aV false [(cD dL)]), sl 2 (aV false [(cPtr 2 0)]), sl 5 (aV false [(cD (dI .i64))]), sl 6 (aV false [(cD (dI .i64))]), sl 7 (aV false [(cD (dI .i64))]), sl 19 (aV false [(cD dB)])] [eBox 2 [(cD (dI .i64)), (cD (dI .i64)), (cD (dI .i64)), (cD dL)]]
def u18_0_2 {β : Type} (g : St → β) : Rows → Int → Int → Int → Bool → Int → Int → Int → Rows → β := p18_0_2.unc g

def pr18_0_0 : PT (List RV) := pRs [pR false [rD dB]]
def ur18_0_0 {β : Type} (g : List RV → β) : Bool → β := pr18_0_0.unc g

def E18_0g (vf19_0 : Tf19_0) : EnvK := EnvK.of [⟨19, nt19, [⟨pa19_0, Fn19_0 vf19_0⟩]⟩] noSeq
noncomputable def E18_0 : EnvK := E18_0g f19_0
theorem eo18_0 : E18_0.Ok Try.prog := EnvK.of_ok noSeq_ok ⟨⟨io19_0, trivial⟩, trivial⟩

noncomputable def c18_0_15g  : MCode := (.seq (.seq (.region r18_18 [] (some ⟨[1, 2, 5, 6, 7, 19], true, [], []⟩)) (.cond (.tmp 19) .skip (.exit 0))) (.seq (.block 1 (.seq (.region r18_23 [] (some ⟨[1, 2, 5, 6, 7, 8], true, [], []⟩)) (.seq (.region r18_25 [] (some ⟨[1, 2, 6, 7, 8, 9], true, [], []⟩)) (.seq (.seq (.region r18_28 [] (some ⟨[1, 2, 7, 8, 70], true, [], []⟩)) (.cond (.tmp 70) (.seq (.region r18_31 [] (some ⟨[4], true, [], []⟩)) .ret) .skip)) (.region r18_32 [] (some ⟨[1, 2, 5, 6, 7], true, [], []⟩)))))) (.region r18_33 [] (some ⟨[1, 2, 5, 6, 7], true, [], []⟩))))
noncomputable def c18_0_15 : MCode := c18_0_15g 
theorem g18_0_15 : c18_0_15.Good Try.prog E18_0 sh18 := ⟨⟨trivial, ⟨trivial, trivial⟩⟩, ⟨⟨trivial, ⟨trivial, ⟨⟨trivial, ⟨⟨trivial, trivial⟩, trivial⟩⟩, trivial⟩⟩⟩, trivial⟩⟩
--CODE 15 0
def S18_0_0g (vf19_0 : Tf19_0) (α : Type) (x6 : Rows) (x10 : Int) (x11 : Int) (x12 : Int) (x13 : Rows) (x7 : Int) (x8 : Int) (x9 : Int) (kn : Int → Int → Int → Option α) (k1 : Option α) (k2 : Int → Int → Int → Bool → Option α) : Option α :=
  cK (decide (x9 < ((List.length x6 : Nat) : Int)))
    (rowK x13 x9 [.int .i64, .int .i64]
      (fun (x14 : Int) (x15 : Int) => rowK x6 x9 [.int .i64]
        (fun (x16 : Int) => vf19_0 α x16 (w64 (1000 * (w64 (x15 - x12)))) (w64 (1000 * (w64 (x15 + x12))))
          (fun (x17 : Bool) => cK (!x17)
            (k1)
            (rowK x6 x9 [.int .i64]
              (fun (x18 : Int) => vf19_0 α x18 (w64 (x8 + (w64 ((w64 (x14 - x7)) * x10)))) (w64 (x8 + (w64 ((w64 (x14 - x7)) * x11))))
                (fun (x19 : Bool) => cK (!x19)
                  (k1)
                  (rowK x6 x9 [.int .i64]
                    (fun (x20 : Int) => kn x14 x20 (w64 (x9 + 1)))))))))))
    (k2 x7 x8 x9 (decide (x9 < ((List.length x6 : Nat) : Int))))
noncomputable def S18_0_0 (α : Type) (x6 : Rows) (x10 : Int) (x11 : Int) (x12 : Int) (x13 : Rows) (x7 : Int) (x8 : Int) (x9 : Int) (kn : Int → Int → Int → Option α) (k1 : Option α) (k2 : Int → Int → Int → Bool → Option α) : Option α := S18_0_0g f19_0 α x6 x10 x11 x12 x13 x7 x8 x9 kn k1 k2
noncomputable def R18_0_0 (α : Type) (x6 : Rows) (x10 : Int) (x11 : Int) (x12 : Int) (x13 : Rows) (k1 : Option α) (k2 : Int → Int → Int → Bool → Option α) : Nat → Int → Int → Int → Option α
  | 0, _, _, _ => none
  | n + 1, x7, x8, x9 => S18_0_0 α x6 x10 x11 x12 x13 x7 x8 x9 (R18_0_0 α x6 x10 x11 x12 x13 k1 k2 n) k1 k2
noncomputable def L18_0_0 (α : Type) (x6 : Rows) (x10 : Int) (x11 : Int) (x12 : Int) (x13 : Rows) (k1 : Option α) (k2 : Int → Int → Int → Bool → Option α) (x7 : Int) (x8 : Int) (x9 : Int) : Option α := R18_0_0 α x6 x10 x11 x12 x13 k1 k2 fuel x7 x8 x9
abbrev TL18_0_0 : Type 1 := (α : Type) → Rows → Int → Int → Int → Rows → (Option α) → (Int → Int → Int → Bool → Option α) → Int → Int → Int → Option α
def F18_0_0 (v : TL18_0_0) (α : Type) (K : Exit → St → Option α) : Rows → Int → Int → Int → Int → Int → Int → Rows → Option α := fun x6 x7 x8 x9 x10 x11 x12 x13 => v α x6 x10 x11 x12 x13 (u18_0_1 (K .ret) false) (fun (y1 : Int) (y2 : Int) (y3 : Int) (y4 : Bool) => u18_0_2 (K (.exit 0)) x6 y1 y2 y3 y4 x10 x11 x12 x13) x7 x8 x9
theorem r18_0_0g (vf19_0 : Tf19_0)  (α : Type) (K : Exit → St → Option α) (Kn : St → Option α) (x6 : Rows) (x7 : Int) (x8 : Int) (x9 : Int) (x10 : Int) (x11 : Int) (x12 : Int) (x13 : Rows) : u18_0_0 (fun σ => runM Try.prog (E18_0g vf19_0) sh18 (c18_0_15g ) (thenK (fun σ => tidyK td18_15 σ Kn) K) σ) x6 x7 x8 x9 x10 x11 x12 x13 = S18_0_0g vf19_0 α x6 x10 x11 x12 x13 x7 x8 x9 (fun x7 x8 x9 => u18_0_0 Kn x6 x7 x8 x9 x10 x11 x12 x13) (u18_0_1 (K .ret) false) (fun (y1 : Int) (y2 : Int) (y3 : Int) (y4 : Bool) => u18_0_2 (K (.exit 0)) x6 y1 y2 y3 y4 x10 x11 x12 x13) := by kernel_rfl
theorem r18_0_0 (α : Type) (K : Exit → St → Option α) (Kn : St → Option α) (x6 : Rows) (x7 : Int) (x8 : Int) (x9 : Int) (x10 : Int) (x11 : Int) (x12 : Int) (x13 : Rows) : u18_0_0 (fun σ => runM Try.prog E18_0 sh18 c18_0_15 (thenK (fun σ => tidyK td18_15 σ Kn) K) σ) x6 x7 x8 x9 x10 x11 x12 x13 = S18_0_0 α x6 x10 x11 x12 x13 x7 x8 x9 (fun x7 x8 x9 => u18_0_0 Kn x6 x7 x8 x9 x10 x11 x12 x13) (u18_0_1 (K .ret) false) (fun (y1 : Int) (y2 : Int) (y3 : Int) (y4 : Bool) => u18_0_2 (K (.exit 0)) x6 y1 y2 y3 y4 x10 x11 x12 x13) := r18_0_0g f19_0 α K Kn x6 x7 x8 x9 x10 x11 x12 x13
theorem t18_0_0 (α : Type) (K : Exit → St → Option α) : ∀ (n : Nat) (x6 : Rows) (x7 : Int) (x8 : Int) (x9 : Int) (x10 : Int) (x11 : Int) (x12 : Int) (x13 : Rows), R18_0_0 α x6 x10 x11 x12 x13 (u18_0_1 (K .ret) false) (fun (y1 : Int) (y2 : Int) (y3 : Int) (y4 : Bool) => u18_0_2 (K (.exit 0)) x6 y1 y2 y3 y4 x10 x11 x12 x13) n x7 x8 x9 = u18_0_0 (loopT (runM Try.prog E18_0 sh18 c18_0_15) td18_15 K n) x6 x7 x8 x9 x10 x11 x12 x13 := by
  intro n
  induction n with
  | zero => intros; rfl
  | succ n ih => intro x6 x7 x8 x9 x10 x11 x12 x13; exact (congrArg (fun kn => S18_0_0 α x6 x10 x11 x12 x13 x7 x8 x9 kn (u18_0_1 (K .ret) false) (fun (y1 : Int) (y2 : Int) (y3 : Int) (y4 : Bool) => u18_0_2 (K (.exit 0)) x6 y1 y2 y3 y4 x10 x11 x12 x13)) (funext fun x7 => funext fun x8 => funext fun x9 => ih x6 x7 x8 x9 x10 x11 x12 x13)).trans (r18_0_0 α K (loopT (runM Try.prog E18_0 sh18 c18_0_15) td18_15 K n) x6 x7 x8 x9 x10 x11 x12 x13).symm
theorem m18_0_0 : ∀ (α : Type) (K : Exit → St → Option α), F18_0_0 L18_0_0 α K = p18_0_0.unc fun σ => loopT (runM Try.prog E18_0 sh18 c18_0_15) td18_15 K fuel σ := fun α K => funext fun x6 => funext fun x7 => funext fun x8 => funext fun x9 => funext fun x10 => funext fun x11 => funext fun x12 => funext fun x13 => t18_0_0 α K fuel x6 x7 x8 x9 x10 x11 x12 x13

/-- etalon/etalonlaw08.keeps -/
abbrev Tf18_0 : Type 1 := (α : Type) → Int → Int → Int → Rows → Rows → (Bool → Option α) → Option α
def f18_0g (vL18_0_0 : TL18_0_0) (α : Type) (x1 : Int) (x2 : Int) (x3 : Int) (x4 : Rows) (x5 : Rows) (k1 : Bool → Option α) : Option α :=
  cK (((List.length x5 : Nat) : Int) != ((List.length x4 : Nat) : Int))
    (k1 false)
    (vL18_0_0 α x5 x1 x2 x3 x4
      (k1 false)
      (fun (x21 : Int) (x22 : Int) (x23 : Int) (x24 : Bool) => k1 true) 0 0 0)
noncomputable def f18_0 (α : Type) (x1 : Int) (x2 : Int) (x3 : Int) (x4 : Rows) (x5 : Rows) (k1 : Bool → Option α) : Option α := f18_0g L18_0_0 α x1 x2 x3 x4 x5 k1
def pa18_0 : PT (List DV) := pA [pV true [(dI .i64), (dI .i64), (dI .i64), dL], pV false [dL]]
def Fn18_0 (v : Tf18_0) (α : Type) (k : List RV → Option α) : Int → Int → Int → Rows → Rows → Option α := fun x1 x2 x3 x4 x5 => v α x1 x2 x3 x4 x5 (fun (y1 : Bool) => ur18_0_0 k y1)
noncomputable def cm18_0g (vL18_0_0 : TL18_0_0) : MCode := (.seq (.region r18_2 [] (some ⟨[1, 2], true, [], []⟩)) (.seq (.seq (.region r18_5 [] (some ⟨[1, 2, 15], true, [], []⟩)) (.cond (.tmp 15) (.seq (.region r18_8 [] (some ⟨[4], true, [], []⟩)) .ret) .skip)) (.seq (.region r18_10 [] (some ⟨[1, 2, 5, 6], true, [], []⟩)) (.seq (.seq (.region r18_13 [] (some ⟨[1, 2, 5, 6, 7], true, [], []⟩)) (.block 0 (.loop td18_15 [⟨p18_0_0, F18_0_0 vL18_0_0⟩] c18_0_15))) (.seq (.region r18_35 [] (some ⟨[4], true, [], []⟩)) .ret)))))
noncomputable def cm18_0 : MCode := cm18_0g L18_0_0
theorem gm18_0 : cm18_0.Good Try.prog E18_0 sh18 := ⟨trivial, ⟨⟨trivial, ⟨⟨trivial, trivial⟩, trivial⟩⟩, ⟨trivial, ⟨⟨trivial, ⟨g18_0_15, m18_0_0, trivial⟩⟩, ⟨trivial, trivial⟩⟩⟩⟩⟩
theorem fm18_0g (vf19_0 : Tf19_0) (vL18_0_0 : TL18_0_0) (α : Type) (k : List RV → Option α) : Fn18_0 (f18_0g vL18_0_0) α k = pa18_0.unc fun ds => fnM Try.prog (E18_0g vf19_0) sh18 (cm18_0g vL18_0_0) rs18 k ds := by kernel_rfl
theorem fm18_0 : ∀ (α : Type) (k : List RV → Option α), Fn18_0 f18_0 α k = pa18_0.unc fun ds => fnM Try.prog E18_0 sh18 cm18_0 rs18 k ds := fm18_0g f19_0 L18_0_0

theorem is18 : FnIs Try.prog 18 nt18 tr18 tl18 cm18_0.erase rs18 := ⟨Try.f18, Try.func18, rfl, by kernel_rfl, by kernel_rfl, by kernel_rfl⟩
theorem io18_0 : InstOk Try.prog 18 nt18 ⟨pa18_0, Fn18_0 f18_0⟩ := inst_ok eo18_0 followsTry is18 ⟨⟨sh18, cm18_0, by kernel_rfl, gm18_0, fm18_0⟩⟩

/-! ### F132 etalon/grow.inside -/
abbrev nt132 : Nat := 19
def sh132 : List (Nat × List Sh) := [(8, [.int .i64]), (14, [.int .i64])]
def r132_2 : List AOper := [⟨(some 3), (.box (.tmp 0)), none⟩, ⟨(some 6), (.mv (.const (.bool false))), none⟩]
def r132_4 : List AOper := [⟨(some 7), (.faddr 0 (.tmp 3)), none⟩, ⟨(some 8), (.load false 1 (.tmp 7)), none⟩, ⟨(some 9), (.mv (.tmp 1)), none⟩, ⟨(some 10), (.mv (.tmp 2)), none⟩, ⟨(some 11), (.call 78 [(.tmp 8), (.tmp 9), (.tmp 10)]), none⟩, ⟨(some 12), (.mv (.tmp 11)), none⟩, ⟨(some 13), (.faddr 1 (.tmp 3)), (some (12, true))⟩, ⟨(some 14), (.load false 1 (.tmp 13)), (some (12, true))⟩, ⟨(some 15), (.mv (.tmp 1)), (some (12, true))⟩, ⟨(some 16), (.mv (.tmp 2)), (some (12, true))⟩, ⟨(some 17), (.call 78 [(.tmp 14), (.tmp 15), (.tmp 16)]), (some (12, true))⟩, ⟨(some 18), (.pick (.tmp 12) (.tmp 17) (.const (.bool false))), none⟩, ⟨(some 6), (.mv (.tmp 18)), none⟩]
def tr132 : List (Nat × Tidy) := [(0, ⟨[1, 2, 3], true, [], []⟩), (1, ⟨[6], true, [], []⟩)]
def tl132 : List (Nat × Tidy) := []
def rs132 : List AResV := [.tmp 6]
def pr132_0_0 : PT (List RV) := pRs [pR false [rD dB]]
def ur132_0_0 {β : Type} (g : List RV → β) : Bool → β := pr132_0_0.unc g

def E132_0g (vf78_0 : Tf78_0) : EnvK := EnvK.of [⟨78, nt78, [⟨pa78_0, Fn78_0 vf78_0⟩]⟩] noSeq
noncomputable def E132_0 : EnvK := E132_0g f78_0
theorem eo132_0 : E132_0.Ok Try.prog := EnvK.of_ok noSeq_ok ⟨⟨io78_0, trivial⟩, trivial⟩

/-- etalon/grow.inside -/
abbrev Tf132_0 : Type 1 := (α : Type) → Int → Int → Int → Int → (Bool → Option α) → Option α
def f132_0g (vf78_0 : Tf78_0) (α : Type) (x1 : Int) (x2 : Int) (x3 : Int) (x4 : Int) (k1 : Bool → Option α) : Option α :=
  vf78_0 α x1 x3 x4
    (fun (x5 : Bool) => cK x5
      (vf78_0 α x2 x3 x4
        (fun (x6 : Bool) => k1 x6))
      (k1 false))
noncomputable def f132_0 (α : Type) (x1 : Int) (x2 : Int) (x3 : Int) (x4 : Int) (k1 : Bool → Option α) : Option α := f132_0g f78_0 α x1 x2 x3 x4 k1
def pa132_0 : PT (List DV) := pA [pV true [(dI .i64), (dI .i64)], pV false [(dI .i64)], pV false [(dI .i64)]]
def Fn132_0 (v : Tf132_0) (α : Type) (k : List RV → Option α) : Int → Int → Int → Int → Option α := fun x1 x2 x3 x4 => v α x1 x2 x3 x4 (fun (y1 : Bool) => ur132_0_0 k y1)
noncomputable def cm132_0g  : MCode := (.seq (.region r132_2 [] (some ⟨[1, 2, 3], true, [], []⟩)) (.seq (.region r132_4 [] (some ⟨[6], true, [], []⟩)) .ret))
noncomputable def cm132_0 : MCode := cm132_0g 
theorem gm132_0 : cm132_0.Good Try.prog E132_0 sh132 := ⟨trivial, ⟨trivial, trivial⟩⟩
theorem fm132_0g (vf78_0 : Tf78_0)  (α : Type) (k : List RV → Option α) : Fn132_0 (f132_0g vf78_0) α k = pa132_0.unc fun ds => fnM Try.prog (E132_0g vf78_0) sh132 (cm132_0g ) rs132 k ds := by kernel_rfl
theorem fm132_0 : ∀ (α : Type) (k : List RV → Option α), Fn132_0 f132_0 α k = pa132_0.unc fun ds => fnM Try.prog E132_0 sh132 cm132_0 rs132 k ds := fm132_0g f78_0

theorem is132 : FnIs Try.prog 132 nt132 tr132 tl132 cm132_0.erase rs132 := ⟨Try.f132, Try.func132, rfl, by kernel_rfl, by kernel_rfl, by kernel_rfl⟩
theorem io132_0 : InstOk Try.prog 132 nt132 ⟨pa132_0, Fn132_0 f132_0⟩ := inst_ok eo132_0 followsTry is132 ⟨⟨sh132, cm132_0, by kernel_rfl, gm132_0, fm132_0⟩⟩

/-! ### F93 etalon/etalonref08.rangeErr -/
abbrev nt93 : Nat := 26
def sh93 : List (Nat × List Sh) := [(8, [.int .i64]), (15, [.int .i64]), (22, [.int .i64]), (24, [.int .i64])]
def r93_2 : List AOper := [⟨(some 3), (.box (.tmp 0)), none⟩, ⟨(some 6), (.mv (.const (.int .i64 0))), none⟩]
def r93_5 : List AOper := [⟨(some 7), (.faddr 0 (.tmp 3)), none⟩, ⟨(some 8), (.load false 1 (.tmp 7)), none⟩, ⟨(some 9), (.mv (.tmp 1)), none⟩, ⟨(some 10), (.mv (.tmp 2)), none⟩, ⟨(some 11), (.call 19 [(.tmp 8), (.tmp 9), (.tmp 10)]), none⟩, ⟨(some 12), (.pure (oB (.unOp .not 4 (.tmp 11)) 4)), none⟩, ⟨(some 13), (.mv (.tmp 12)), none⟩, ⟨(some 14), (.faddr 1 (.tmp 3)), (some (13, false))⟩, ⟨(some 15), (.load false 1 (.tmp 14)), (some (13, false))⟩, ⟨(some 16), (.mv (.tmp 1)), (some (13, false))⟩, ⟨(some 17), (.mv (.tmp 2)), (some (13, false))⟩, ⟨(some 18), (.call 19 [(.tmp 15), (.tmp 16), (.tmp 17)]), (some (13, false))⟩, ⟨(some 19), (.pure (oB (.unOp .not 4 (.tmp 18)) 4)), (some (13, false))⟩, ⟨(some 20), (.pick (.tmp 13) (.const (.bool true)) (.tmp 19)), none⟩]
def r93_8 : List AOper := [⟨(some 6), (.mv (.const (.int .i64 2))), none⟩]
def r93_11 : List AOper := [⟨(some 21), (.faddr 0 (.tmp 3)), none⟩, ⟨(some 22), (.load false 1 (.tmp 21)), none⟩, ⟨(some 23), (.faddr 1 (.tmp 3)), none⟩, ⟨(some 24), (.load false 1 (.tmp 23)), none⟩, ⟨(some 25), (.bin .gtr 3 (.tmp 22) (.tmp 24)), none⟩]
def r93_14 : List AOper := [⟨(some 6), (.mv (.const (.int .i64 10))), none⟩]
def r93_16 : List AOper := [⟨(some 6), (.mv (.const (.int .i64 0))), none⟩]
def tr93 : List (Nat × Tidy) := [(0, ⟨[1, 2, 3], true, [], []⟩), (1, ⟨[3, 20], true, [], []⟩), (2, ⟨[6], true, [], []⟩), (3, ⟨[25], true, [], []⟩), (4, ⟨[6], true, [], []⟩), (5, ⟨[6], true, [], []⟩)]
def tl93 : List (Nat × Tidy) := []
def rs93 : List AResV := [.tmp 6]
def pr93_0_0 : PT (List RV) := pRs [pR false [rD (dI .i64)]]
def ur93_0_0 {β : Type} (g : List RV → β) : Int → β := pr93_0_0.unc g

def E93_0g (vf19_0 : Tf19_0) : EnvK := EnvK.of [⟨19, nt19, [⟨pa19_0, Fn19_0 vf19_0⟩]⟩] noSeq
noncomputable def E93_0 : EnvK := E93_0g f19_0
theorem eo93_0 : E93_0.Ok Try.prog := EnvK.of_ok noSeq_ok ⟨⟨io19_0, trivial⟩, trivial⟩

/-- etalon/etalonref08.rangeErr -/
abbrev Tf93_0 : Type 1 := (α : Type) → Int → Int → Int → Int → (Int → Option α) → Option α
def f93_0g (vf19_0 : Tf19_0) (α : Type) (x1 : Int) (x2 : Int) (x3 : Int) (x4 : Int) (k1 : Int → Option α) : Option α :=
  vf19_0 α x1 x3 x4
    (fun (x5 : Bool) => cK (!x5)
      (k1 2)
      (vf19_0 α x2 x3 x4
        (fun (x6 : Bool) => cK (!x6)
          (k1 2)
          (cK (decide (x2 < x1))
            (k1 10)
            (k1 0)))))
noncomputable def f93_0 (α : Type) (x1 : Int) (x2 : Int) (x3 : Int) (x4 : Int) (k1 : Int → Option α) : Option α := f93_0g f19_0 α x1 x2 x3 x4 k1
def pa93_0 : PT (List DV) := pA [pV true [(dI .i64), (dI .i64)], pV false [(dI .i64)], pV false [(dI .i64)]]
def Fn93_0 (v : Tf93_0) (α : Type) (k : List RV → Option α) : Int → Int → Int → Int → Option α := fun x1 x2 x3 x4 => v α x1 x2 x3 x4 (fun (y1 : Int) => ur93_0_0 k y1)
noncomputable def cm93_0g  : MCode := (.seq (.region r93_2 [] (some ⟨[1, 2, 3], true, [], []⟩)) (.seq (.seq (.region r93_5 [] (some ⟨[3, 20], true, [], []⟩)) (.cond (.tmp 20) (.seq (.region r93_8 [] (some ⟨[6], true, [], []⟩)) .ret) .skip)) (.seq (.seq (.region r93_11 [] (some ⟨[25], true, [], []⟩)) (.cond (.tmp 25) (.seq (.region r93_14 [] (some ⟨[6], true, [], []⟩)) .ret) .skip)) (.seq (.region r93_16 [] (some ⟨[6], true, [], []⟩)) .ret))))
noncomputable def cm93_0 : MCode := cm93_0g 
theorem gm93_0 : cm93_0.Good Try.prog E93_0 sh93 := ⟨trivial, ⟨⟨trivial, ⟨⟨trivial, trivial⟩, trivial⟩⟩, ⟨⟨trivial, ⟨⟨trivial, trivial⟩, trivial⟩⟩, ⟨trivial, trivial⟩⟩⟩⟩
theorem fm93_0g (vf19_0 : Tf19_0)  (α : Type) (k : List RV → Option α) : Fn93_0 (f93_0g vf19_0) α k = pa93_0.unc fun ds => fnM Try.prog (E93_0g vf19_0) sh93 (cm93_0g ) rs93 k ds := by kernel_rfl
theorem fm93_0 : ∀ (α : Type) (k : List RV → Option α), Fn93_0 f93_0 α k = pa93_0.unc fun ds => fnM Try.prog E93_0 sh93 cm93_0 rs93 k ds := fm93_0g f19_0

theorem is93 : FnIs Try.prog 93 nt93 tr93 tl93 cm93_0.erase rs93 := ⟨Try.f93, Try.func93, rfl, by kernel_rfl, by kernel_rfl, by kernel_rfl⟩
theorem io93_0 : InstOk Try.prog 93 nt93 ⟨pa93_0, Fn93_0 f93_0⟩ := inst_ok eo93_0 followsTry is93 ⟨⟨sh93, cm93_0, by kernel_rfl, gm93_0, fm93_0⟩⟩

/-! ### F35 etalon/etalonref08.Contradiction -/
abbrev nt35 : Nat := 30
def sh35 : List (Nat × List Sh) := [(8, [.sl]), (17, [.sl]), (22, [.int .i64, .int .i64, .int .i64, .sl])]
def r35_2 : List AOper := [⟨(some 1), (.box (.tmp 0)), none⟩, ⟨(some 2), (.alloc [(.d (.v (.int .i64 0))), (.d (.v (.int .i64 0)))]), none⟩, ⟨(some 3), (.mv (.const (.bool false))), none⟩]
def r35_5 : List AOper := [⟨(some 4), (.mv (.const (.int .i64 (-1)))), none⟩]
def td35_7 : Option Tidy := (some ⟨[1, 2, 4], true, [⟨true, 1, 3, 30103, 2⟩], []⟩)
def r35_10 : List AOper := [⟨(some 6), (.mv (.tmp 4)), none⟩, ⟨(some 7), (.faddr 3 (.tmp 1)), none⟩, ⟨(some 8), (.load false 1 (.tmp 7)), none⟩, ⟨(some 9), (.len (.tmp 8)), none⟩, ⟨(some 10), (.bin .lss 3 (.tmp 6) (.tmp 9)), none⟩]
def r35_15 : List AOper := [⟨(some 13), (.mv (.tmp 4)), none⟩, ⟨(some 14), (.bin .add 3 (.tmp 13) (.const (.int .i64 1))), none⟩, ⟨(some 5), (.mv (.tmp 14)), none⟩]
def td35_17 : Option Tidy := (some ⟨[1, 2, 4, 5], true, [⟨true, 1, 3, 30103, 2⟩], []⟩)
def r35_20 : List AOper := [⟨(some 15), (.mv (.tmp 5)), none⟩, ⟨(some 16), (.faddr 3 (.tmp 1)), none⟩, ⟨(some 17), (.load false 1 (.tmp 16)), none⟩, ⟨(some 18), (.len (.tmp 17)), none⟩, ⟨(some 19), (.bin .lss 3 (.tmp 15) (.tmp 18)), none⟩]
def r35_25 : List AOper := [⟨(some 22), (.load true 4 (.tmp 1)), none⟩, ⟨(some 23), (.mv (.tmp 4)), none⟩, ⟨(some 24), (.mv (.tmp 5)), none⟩, ⟨(some 25), (.call 97 [(.tmp 22), (.tmp 23), (.tmp 24)]), none⟩]
def r35_28 : List AOper := [⟨(some 26), (.mv (.tmp 4)), none⟩, ⟨(some 27), (.mv (.tmp 5)), none⟩, ⟨(some 28), (.build [(.d (.v (.int .i64 0))), (.d (.v (.int .i64 0)))] [(0, 1, (.tmp 26)), (1, 1, (.tmp 27))]), none⟩, ⟨none, (.store 2 (.tmp 2) (.tmp 28)), none⟩, ⟨(some 3), (.mv (.const (.bool true))), none⟩]
def r35_29 : List AOper := [⟨(some 20), (.mv (.tmp 5)), none⟩, ⟨(some 21), (.bin .add 3 (.tmp 20) (.const (.int .i64 1))), none⟩, ⟨(some 5), (.mv (.tmp 21)), none⟩]
def r35_30 : List AOper := [⟨(some 11), (.mv (.tmp 4)), none⟩, ⟨(some 12), (.bin .add 3 (.tmp 11) (.const (.int .i64 1))), none⟩, ⟨(some 4), (.mv (.tmp 12)), none⟩]
def r35_32 : List AOper := [⟨(some 29), (.build [(.d (.v (.int .i64 0))), (.d (.v (.int .i64 0)))] []), none⟩, ⟨none, (.store 2 (.tmp 2) (.tmp 29)), none⟩, ⟨(some 3), (.mv (.const (.bool false))), none⟩]
def tr35 : List (Nat × Tidy) := [(0, ⟨[1, 2], true, [], []⟩), (1, ⟨[1, 2, 4], true, [], []⟩), (2, ⟨[1, 2, 4, 10], true, [], []⟩), (4, ⟨[1, 2, 4, 5], true, [], []⟩), (5, ⟨[1, 2, 4, 5, 19], true, [], []⟩), (7, ⟨[1, 2, 4, 5, 25], true, [], []⟩), (8, ⟨[2, 3], true, [], []⟩), (6, ⟨[1, 2, 4, 5], true, [], []⟩), (3, ⟨[1, 2, 4], true, [], []⟩), (9, ⟨[2, 3], true, [], []⟩)]
def tl35 : List (Nat × Tidy) := [(2, ⟨[1, 2, 4], true, [⟨true, 1, 3, 30103, 2⟩], []⟩), (5, ⟨[1, 2, 4, 5], true, [⟨true, 1, 3, 30103, 2⟩], []⟩)]
def rs35 : List AResV := [.cell 2 true 2, .tmp 3]
def p35_0_0 : PT St := pS [sl 1 (aV false [(cPtr 1 0)]), sl 2 (aV false [(cPtr 2 0)]), sl 4 (aV false [(cD (dI .i64))]), sl 5 (aV false [(cD (dI .i64))])] [eBox 1 [(cD (dI .i64)), (cD (dI .i64)), (cD (dI .i64)), (cD dL)], eBox 2 [(cD (dI .i64)), (cD (dI .i64))]]
def u35_0_0 {β : Type} (g : St → β) : Int → Int → Int → Int → Int → Rows → Int → Int → β := p35_0_0.unc g

def p35_0_1 : PT St := pS [sl 2 (aV false [(cPtr 2 0)]), sl 3 (aV false [(cD dB)])] [eBox 2 [(cD (dI .i64)), (cD (dI .i64))]]
def u35_0_1 {β : Type} (g : St → β) : Bool → Int → Int → β := p35_0_1.unc g

def p35_0_2 : PT St := pS [sl 1 (aV false [(cPtr 1 0)]), sl 2 (aV false [(cPtr 2 0)]), sl 4 (aV false [(cD (dI .i64))]), sl 5 (aV false [(cD (dI .i64))]), sl 19 (aV false [(cD dB)])] [eBox 1 [(cD (dI .i64)), (cD (dI .i64)), (cD (dI .i64)), (cD dL)], eBox 2 [(cD (dI .i64)), (cD (dI .i64))]]
def u35_0_2 {β : Type} (g : St → β) : Int → Int → Bool → Int → Int → Int → Rows → Int → Int → β := p35_0_2.unc g

def p35_0_3 : PT St := pS [sl 1 (aV false [(cPtr 1 0)]), sl 2 (aV false [(cPtr 2 0)]), sl 4 (aV false [(cD (dI .i64))])] [eBox 1 [(cD (dI .i64)), (cD (dI .i64)), (cD (dI .i64)), (cD dL)], eBox 2 [(cD (dI .i64)), (cD (dI .i64))]]
def u35_0_3 {β : Type} (g : St → β) : Int → Int → Int → Int → Rows → Int → Int → β := p35_0_3.unc g

def p35_0_4 : PT St := pS [sl 1 (aV false [(cPtr 1 0)]), sl 2 (aV false [(cPtr 2 0)]), sl 4 (aV false [(cD (dI .i64))]), sl 10 (aV false [(cD dB)])] [eBox 1 [(cD (dI .i64)), (cD (dI .i64)), (cD (dI .i64)), (cD dL)], eBox 2 [(cD (dI .i64)), (cD (dI .i64))]]
def u35_0_4 {β : Type} (g : St → β) : Int → Bool → Int → Int → Int → Rows → Int → Int → β := p35_0_4.unc g

def pr35_0_0 : PT (List RV) := pRs [pR true [rD (dI .i64), rD (dI .i64)], pR false [rD dB]]
def ur35_0_0 {β : Type} (g : List RV → β) : Int → Int → Bool → β := pr35_0_0.unc g

def E35_0g (vf97_0 : Tf97_0) : EnvK := EnvK.of [⟨97, nt97, [⟨pa97_0, Fn97_0 vf97_0⟩]⟩] noSeq
noncomputable def E35_0 : EnvK := E35_0g f97_0
theorem eo35_0 : E35_0.Ok Try.prog := EnvK.of_ok noSeq_ok ⟨⟨io97_0, trivial⟩, trivial⟩

noncomputable def c35_0_17g  : MCode := (.seq (.seq (.region r35_20 [] (some ⟨[1, 2, 4, 5, 19], true, [], []⟩)) (.cond (.tmp 19) .skip (.exit 2))) (.seq (.block 3 (.seq (.region r35_25 [] (some ⟨[1, 2, 4, 5, 25], true, [], []⟩)) (.cond (.tmp 25) (.seq (.region r35_28 [] (some ⟨[2, 3], true, [], []⟩)) .ret) .skip))) (.region r35_29 [] (some ⟨[1, 2, 4, 5], true, [], []⟩))))
noncomputable def c35_0_17 : MCode := c35_0_17g 
theorem g35_0_17 : c35_0_17.Good Try.prog E35_0 sh35 := ⟨⟨trivial, ⟨trivial, trivial⟩⟩, ⟨⟨trivial, ⟨⟨trivial, trivial⟩, trivial⟩⟩, trivial⟩⟩
--CODE 17 0
def S35_0_0g (vf97_0 : Tf97_0) (α : Type) (x12 : Int) (x14 : Int) (x15 : Int) (x16 : Int) (x17 : Rows) (x13 : Int) (kn : Int → Option α) (k1 : Int → Option α) (k2 : Int → Bool → Option α) : Option α :=
  cK (decide (x13 < ((List.length x17 : Nat) : Int)))
    (vf97_0 α x14 x15 x16 x17 x12 x13
      (fun (x20 : Bool) => cK x20
        (k1 x13)
        (kn (w64 (x13 + 1)))))
    (k2 x13 (decide (x13 < ((List.length x17 : Nat) : Int))))
noncomputable def S35_0_0 (α : Type) (x12 : Int) (x14 : Int) (x15 : Int) (x16 : Int) (x17 : Rows) (x13 : Int) (kn : Int → Option α) (k1 : Int → Option α) (k2 : Int → Bool → Option α) : Option α := S35_0_0g f97_0 α x12 x14 x15 x16 x17 x13 kn k1 k2
noncomputable def R35_0_0 (α : Type) (x12 : Int) (x14 : Int) (x15 : Int) (x16 : Int) (x17 : Rows) (k1 : Int → Option α) (k2 : Int → Bool → Option α) : Nat → Int → Option α
  | 0, _ => none
  | n + 1, x13 => S35_0_0 α x12 x14 x15 x16 x17 x13 (R35_0_0 α x12 x14 x15 x16 x17 k1 k2 n) k1 k2
noncomputable def L35_0_0 (α : Type) (x12 : Int) (x14 : Int) (x15 : Int) (x16 : Int) (x17 : Rows) (k1 : Int → Option α) (k2 : Int → Bool → Option α) (x13 : Int) : Option α := R35_0_0 α x12 x14 x15 x16 x17 k1 k2 fuel x13
abbrev TL35_0_0 : Type 1 := (α : Type) → Int → Int → Int → Int → Rows → (Int → Option α) → (Int → Bool → Option α) → Int → Option α
def F35_0_0 (v : TL35_0_0) (α : Type) (K : Exit → St → Option α) : Int → Int → Int → Int → Int → Rows → Int → Int → Option α := fun x12 x13 x14 x15 x16 x17 x18 x19 => v α x12 x14 x15 x16 x17 (fun (y1 : Int) => u35_0_1 (K .ret) true x12 y1) (fun (y1 : Int) (y2 : Bool) => u35_0_2 (K (.exit 2)) x12 y1 y2 x14 x15 x16 x17 x18 x19) x13
theorem r35_0_0g (vf97_0 : Tf97_0)  (α : Type) (K : Exit → St → Option α) (Kn : St → Option α) (x12 : Int) (x13 : Int) (x14 : Int) (x15 : Int) (x16 : Int) (x17 : Rows) (x18 : Int) (x19 : Int) : u35_0_0 (fun σ => runM Try.prog (E35_0g vf97_0) sh35 (c35_0_17g ) (thenK (fun σ => tidyK td35_17 σ Kn) K) σ) x12 x13 x14 x15 x16 x17 x18 x19 = S35_0_0g vf97_0 α x12 x14 x15 x16 x17 x13 (fun x13 => u35_0_0 Kn x12 x13 x14 x15 x16 x17 x18 x19) (fun (y1 : Int) => u35_0_1 (K .ret) true x12 y1) (fun (y1 : Int) (y2 : Bool) => u35_0_2 (K (.exit 2)) x12 y1 y2 x14 x15 x16 x17 x18 x19) := by kernel_rfl
theorem r35_0_0 (α : Type) (K : Exit → St → Option α) (Kn : St → Option α) (x12 : Int) (x13 : Int) (x14 : Int) (x15 : Int) (x16 : Int) (x17 : Rows) (x18 : Int) (x19 : Int) : u35_0_0 (fun σ => runM Try.prog E35_0 sh35 c35_0_17 (thenK (fun σ => tidyK td35_17 σ Kn) K) σ) x12 x13 x14 x15 x16 x17 x18 x19 = S35_0_0 α x12 x14 x15 x16 x17 x13 (fun x13 => u35_0_0 Kn x12 x13 x14 x15 x16 x17 x18 x19) (fun (y1 : Int) => u35_0_1 (K .ret) true x12 y1) (fun (y1 : Int) (y2 : Bool) => u35_0_2 (K (.exit 2)) x12 y1 y2 x14 x15 x16 x17 x18 x19) := r35_0_0g f97_0 α K Kn x12 x13 x14 x15 x16 x17 x18 x19
theorem t35_0_0 (α : Type) (K : Exit → St → Option α) : ∀ (n : Nat) (x12 : Int) (x13 : Int) (x14 : Int) (x15 : Int) (x16 : Int) (x17 : Rows) (x18 : Int) (x19 : Int), R35_0_0 α x12 x14 x15 x16 x17 (fun (y1 : Int) => u35_0_1 (K .ret) true x12 y1) (fun (y1 : Int) (y2 : Bool) => u35_0_2 (K (.exit 2)) x12 y1 y2 x14 x15 x16 x17 x18 x19) n x13 = u35_0_0 (loopT (runM Try.prog E35_0 sh35 c35_0_17) td35_17 K n) x12 x13 x14 x15 x16 x17 x18 x19 := by
  intro n
  induction n with
  | zero => intros; rfl
  | succ n ih => intro x12 x13 x14 x15 x16 x17 x18 x19; exact (congrArg (fun kn => S35_0_0 α x12 x14 x15 x16 x17 x13 kn (fun (y1 : Int) => u35_0_1 (K .ret) true x12 y1) (fun (y1 : Int) (y2 : Bool) => u35_0_2 (K (.exit 2)) x12 y1 y2 x14 x15 x16 x17 x18 x19)) (funext fun x13 => ih x12 x13 x14 x15 x16 x17 x18 x19)).trans (r35_0_0 α K (loopT (runM Try.prog E35_0 sh35 c35_0_17) td35_17 K n) x12 x13 x14 x15 x16 x17 x18 x19).symm
theorem m35_0_0 : ∀ (α : Type) (K : Exit → St → Option α), F35_0_0 L35_0_0 α K = p35_0_0.unc fun σ => loopT (runM Try.prog E35_0 sh35 c35_0_17) td35_17 K fuel σ := fun α K => funext fun x12 => funext fun x13 => funext fun x14 => funext fun x15 => funext fun x16 => funext fun x17 => funext fun x18 => funext fun x19 => t35_0_0 α K fuel x12 x13 x14 x15 x16 x17 x18 x19

noncomputable def c35_0_7g (vL35_0_0 : TL35_0_0) : MCode := (.seq (.seq (.region r35_10 [] (some ⟨[1, 2, 4, 10], true, [], []⟩)) (.cond (.tmp 10) .skip (.exit 0))) (.seq (.block 1 (.seq (.region r35_15 [] (some ⟨[1, 2, 4, 5], true, [], []⟩)) (.block 2 (.loop td35_17 [⟨p35_0_0, F35_0_0 vL35_0_0⟩] c35_0_17)))) (.region r35_30 [] (some ⟨[1, 2, 4], true, [], []⟩))))
noncomputable def c35_0_7 : MCode := c35_0_7g L35_0_0
theorem g35_0_7 : c35_0_7.Good Try.prog E35_0 sh35 := ⟨⟨trivial, ⟨trivial, trivial⟩⟩, ⟨⟨trivial, ⟨g35_0_17, m35_0_0, trivial⟩⟩, trivial⟩⟩
--CODE 7 0
def S35_0_1g (vL35_0_0 : TL35_0_0) (α : Type) (x6 : Int) (x7 : Int) (x8 : Int) (x9 : Rows) (x5 : Int) (kn : Int → Option α) (k1 : Int → Int → Option α) (k2 : Int → Bool → Option α) : Option α :=
  cK (decide (x5 < ((List.length x9 : Nat) : Int)))
    (vL35_0_0 α x5 x6 x7 x8 x9
      (fun (x21 : Int) => k1 x5 x21)
      (fun (x22 : Int) (x23 : Bool) => kn (w64 (x5 + 1))) (w64 (x5 + 1)))
    (k2 x5 (decide (x5 < ((List.length x9 : Nat) : Int))))
noncomputable def S35_0_1 (α : Type) (x6 : Int) (x7 : Int) (x8 : Int) (x9 : Rows) (x5 : Int) (kn : Int → Option α) (k1 : Int → Int → Option α) (k2 : Int → Bool → Option α) : Option α := S35_0_1g L35_0_0 α x6 x7 x8 x9 x5 kn k1 k2
noncomputable def R35_0_1 (α : Type) (x6 : Int) (x7 : Int) (x8 : Int) (x9 : Rows) (k1 : Int → Int → Option α) (k2 : Int → Bool → Option α) : Nat → Int → Option α
  | 0, _ => none
  | n + 1, x5 => S35_0_1 α x6 x7 x8 x9 x5 (R35_0_1 α x6 x7 x8 x9 k1 k2 n) k1 k2
noncomputable def L35_0_1 (α : Type) (x6 : Int) (x7 : Int) (x8 : Int) (x9 : Rows) (k1 : Int → Int → Option α) (k2 : Int → Bool → Option α) (x5 : Int) : Option α := R35_0_1 α x6 x7 x8 x9 k1 k2 fuel x5
abbrev TL35_0_1 : Type 1 := (α : Type) → Int → Int → Int → Rows → (Int → Int → Option α) → (Int → Bool → Option α) → Int → Option α
def F35_0_1 (v : TL35_0_1) (α : Type) (K : Exit → St → Option α) : Int → Int → Int → Int → Rows → Int → Int → Option α := fun x5 x6 x7 x8 x9 x10 x11 => v α x6 x7 x8 x9 (fun (y1 : Int) (y2 : Int) => u35_0_1 (K .ret) true y1 y2) (fun (y1 : Int) (y2 : Bool) => u35_0_4 (K (.exit 0)) y1 y2 x6 x7 x8 x9 x10 x11) x5
theorem r35_0_1g (vf97_0 : Tf97_0) (vL35_0_0 : TL35_0_0) (α : Type) (K : Exit → St → Option α) (Kn : St → Option α) (x5 : Int) (x6 : Int) (x7 : Int) (x8 : Int) (x9 : Rows) (x10 : Int) (x11 : Int) : u35_0_3 (fun σ => runM Try.prog (E35_0g vf97_0) sh35 (c35_0_7g vL35_0_0) (thenK (fun σ => tidyK td35_7 σ Kn) K) σ) x5 x6 x7 x8 x9 x10 x11 = S35_0_1g vL35_0_0 α x6 x7 x8 x9 x5 (fun x5 => u35_0_3 Kn x5 x6 x7 x8 x9 x10 x11) (fun (y1 : Int) (y2 : Int) => u35_0_1 (K .ret) true y1 y2) (fun (y1 : Int) (y2 : Bool) => u35_0_4 (K (.exit 0)) y1 y2 x6 x7 x8 x9 x10 x11) := by kernel_rfl
theorem r35_0_1 (α : Type) (K : Exit → St → Option α) (Kn : St → Option α) (x5 : Int) (x6 : Int) (x7 : Int) (x8 : Int) (x9 : Rows) (x10 : Int) (x11 : Int) : u35_0_3 (fun σ => runM Try.prog E35_0 sh35 c35_0_7 (thenK (fun σ => tidyK td35_7 σ Kn) K) σ) x5 x6 x7 x8 x9 x10 x11 = S35_0_1 α x6 x7 x8 x9 x5 (fun x5 => u35_0_3 Kn x5 x6 x7 x8 x9 x10 x11) (fun (y1 : Int) (y2 : Int) => u35_0_1 (K .ret) true y1 y2) (fun (y1 : Int) (y2 : Bool) => u35_0_4 (K (.exit 0)) y1 y2 x6 x7 x8 x9 x10 x11) := r35_0_1g f97_0 L35_0_0 α K Kn x5 x6 x7 x8 x9 x10 x11
theorem t35_0_1 (α : Type) (K : Exit → St → Option α) : ∀ (n : Nat) (x5 : Int) (x6 : Int) (x7 : Int) (x8 : Int) (x9 : Rows) (x10 : Int) (x11 : Int), R35_0_1 α x6 x7 x8 x9 (fun (y1 : Int) (y2 : Int) => u35_0_1 (K .ret) true y1 y2) (fun (y1 : Int) (y2 : Bool) => u35_0_4 (K (.exit 0)) y1 y2 x6 x7 x8 x9 x10 x11) n x5 = u35_0_3 (loopT (runM Try.prog E35_0 sh35 c35_0_7) td35_7 K n) x5 x6 x7 x8 x9 x10 x11 := by
  intro n
  induction n with
  | zero => intros; rfl
  | succ n ih => intro x5 x6 x7 x8 x9 x10 x11; exact (congrArg (fun kn => S35_0_1 α x6 x7 x8 x9 x5 kn (fun (y1 : Int) (y2 : Int) => u35_0_1 (K .ret) true y1 y2) (fun (y1 : Int) (y2 : Bool) => u35_0_4 (K (.exit 0)) y1 y2 x6 x7 x8 x9 x10 x11)) (funext fun x5 => ih x5 x6 x7 x8 x9 x10 x11)).trans (r35_0_1 α K (loopT (runM Try.prog E35_0 sh35 c35_0_7) td35_7 K n) x5 x6 x7 x8 x9 x10 x11).symm
theorem m35_0_1 : ∀ (α : Type) (K : Exit → St → Option α), F35_0_1 L35_0_1 α K = p35_0_3.unc fun σ => loopT (runM Try.prog E35_0 sh35 c35_0_7) td35_7 K fuel σ := fun α K => funext fun x5 => funext fun x6 => funext fun x7 => funext fun x8 => funext fun x9 => funext fun x10 => funext fun x11 => t35_0_1 α K fuel x5 x6 x7 x8 x9 x10 x11

/-- etalon/etalonref08.Contradiction -/
abbrev Tf35_0 : Type 1 := (α : Type) → Int → Int → Int → Rows → (Int → Int → Bool → Option α) → Option α
def f35_0g (vL35_0_1 : TL35_0_1) (α : Type) (x1 : Int) (x2 : Int) (x3 : Int) (x4 : Rows) (k1 : Int → Int → Bool → Option α) : Option α :=
  vL35_0_1 α x1 x2 x3 x4
    (fun (x24 : Int) (x25 : Int) => k1 x24 x25 true)
    (fun (x26 : Int) (x27 : Bool) => k1 0 0 false) (-1)
noncomputable def f35_0 (α : Type) (x1 : Int) (x2 : Int) (x3 : Int) (x4 : Rows) (k1 : Int → Int → Bool → Option α) : Option α := f35_0g L35_0_1 α x1 x2 x3 x4 k1
def pa35_0 : PT (List DV) := pA [pV true [(dI .i64), (dI .i64), (dI .i64), dL]]
def Fn35_0 (v : Tf35_0) (α : Type) (k : List RV → Option α) : Int → Int → Int → Rows → Option α := fun x1 x2 x3 x4 => v α x1 x2 x3 x4 (fun (y1 : Int) (y2 : Int) (y3 : Bool) => ur35_0_0 k y1 y2 y3)
noncomputable def cm35_0g (vL35_0_1 : TL35_0_1) : MCode := (.seq (.region r35_2 [] (some ⟨[1, 2], true, [], []⟩)) (.seq (.seq (.region r35_5 [] (some ⟨[1, 2, 4], true, [], []⟩)) (.block 0 (.loop td35_7 [⟨p35_0_3, F35_0_1 vL35_0_1⟩] c35_0_7))) (.seq (.region r35_32 [] (some ⟨[2, 3], true, [], []⟩)) .ret)))
noncomputable def cm35_0 : MCode := cm35_0g L35_0_1
theorem gm35_0 : cm35_0.Good Try.prog E35_0 sh35 := ⟨trivial, ⟨⟨trivial, ⟨g35_0_7, m35_0_1, trivial⟩⟩, ⟨trivial, trivial⟩⟩⟩
theorem fm35_0g (vf97_0 : Tf97_0) (vL35_0_1 : TL35_0_1) (α : Type) (k : List RV → Option α) : Fn35_0 (f35_0g vL35_0_1) α k = pa35_0.unc fun ds => fnM Try.prog (E35_0g vf97_0) sh35 (cm35_0g vL35_0_1) rs35 k ds := by kernel_rfl
theorem fm35_0 : ∀ (α : Type) (k : List RV → Option α), Fn35_0 f35_0 α k = pa35_0.unc fun ds => fnM Try.prog E35_0 sh35 cm35_0 rs35 k ds := fm35_0g f97_0 L35_0_1

theorem is35 : FnIs Try.prog 35 nt35 tr35 tl35 cm35_0.erase rs35 := ⟨Try.f35, Try.func35, rfl, by kernel_rfl, by kernel_rfl, by kernel_rfl⟩
theorem io35_0 : InstOk Try.prog 35 nt35 ⟨pa35_0, Fn35_0 f35_0⟩ := inst_ok eo35_0 followsTry is35 ⟨⟨sh35, cm35_0, by kernel_rfl, gm35_0, fm35_0⟩⟩

/-! ### F28 etalon/etalonref08.SecondsErr -/
abbrev nt28 : Nat := 5
def sh28 : List (Nat × List Sh) := [(3, [.int .i64, .int .i64])]
def r28_2 : List AOper := [⟨(some 1), (.box (.tmp 0)), none⟩, ⟨(some 2), (.mv (.const (.int .i64 0))), none⟩]
def r28_4 : List AOper := [⟨(some 3), (.load true 2 (.tmp 1)), none⟩, ⟨(some 4), (.call 93 [(.tmp 3), (.const (.int .i64 0)), (.const (.int .i64 100000))]), none⟩, ⟨(some 2), (.mv (.tmp 4)), none⟩]
def tr28 : List (Nat × Tidy) := [(0, ⟨[1], true, [], []⟩), (1, ⟨[2], true, [], []⟩)]
def tl28 : List (Nat × Tidy) := []
def rs28 : List AResV := [.tmp 2]
def pr28_0_0 : PT (List RV) := pRs [pR false [rD (dI .i64)]]
def ur28_0_0 {β : Type} (g : List RV → β) : Int → β := pr28_0_0.unc g

def E28_0g (vf93_0 : Tf93_0) : EnvK := EnvK.of [⟨93, nt93, [⟨pa93_0, Fn93_0 vf93_0⟩]⟩] noSeq
noncomputable def E28_0 : EnvK := E28_0g f93_0
theorem eo28_0 : E28_0.Ok Try.prog := EnvK.of_ok noSeq_ok ⟨⟨io93_0, trivial⟩, trivial⟩

/-- etalon/etalonref08.SecondsErr -/
abbrev Tf28_0 : Type 1 := (α : Type) → Int → Int → (Int → Option α) → Option α
def f28_0g (vf93_0 : Tf93_0) (α : Type) (x1 : Int) (x2 : Int) (k1 : Int → Option α) : Option α :=
  vf93_0 α x1 x2 0 100000
    (fun (x3 : Int) => k1 x3)
noncomputable def f28_0 (α : Type) (x1 : Int) (x2 : Int) (k1 : Int → Option α) : Option α := f28_0g f93_0 α x1 x2 k1
def pa28_0 : PT (List DV) := pA [pV true [(dI .i64), (dI .i64)]]
def Fn28_0 (v : Tf28_0) (α : Type) (k : List RV → Option α) : Int → Int → Option α := fun x1 x2 => v α x1 x2 (fun (y1 : Int) => ur28_0_0 k y1)
noncomputable def cm28_0g  : MCode := (.seq (.region r28_2 [] (some ⟨[1], true, [], []⟩)) (.seq (.region r28_4 [] (some ⟨[2], true, [], []⟩)) .ret))
noncomputable def cm28_0 : MCode := cm28_0g 
theorem gm28_0 : cm28_0.Good Try.prog E28_0 sh28 := ⟨trivial, ⟨trivial, trivial⟩⟩
theorem fm28_0g (vf93_0 : Tf93_0)  (α : Type) (k : List RV → Option α) : Fn28_0 (f28_0g vf93_0) α k = pa28_0.unc fun ds => fnM Try.prog (E28_0g vf93_0) sh28 (cm28_0g ) rs28 k ds := by kernel_rfl
theorem fm28_0 : ∀ (α : Type) (k : List RV → Option α), Fn28_0 f28_0 α k = pa28_0.unc fun ds => fnM Try.prog E28_0 sh28 cm28_0 rs28 k ds := fm28_0g f93_0

theorem is28 : FnIs Try.prog 28 nt28 tr28 tl28 cm28_0.erase rs28 := ⟨Try.f28, Try.func28, rfl, by kernel_rfl, by kernel_rfl, by kernel_rfl⟩
theorem io28_0 : InstOk Try.prog 28 nt28 ⟨pa28_0, Fn28_0 f28_0⟩ := inst_ok eo28_0 followsTry is28 ⟨⟨sh28, cm28_0, by kernel_rfl, gm28_0, fm28_0⟩⟩

/-! ### F117 etalon/grow.ordered -/
abbrev nt117 : Nat := 19
def sh117 : List (Nat × List Sh) := [(8, [.int .i64, .int .i64]), (15, [.int .i64]), (17, [.int .i64])]
def r117_2 : List AOper := [⟨(some 3), (.box (.tmp 0)), none⟩, ⟨(some 6), (.mv (.const (.int .i64 0))), none⟩]
def r117_6 : List AOper := [⟨(some 8), (.load true 2 (.tmp 3)), none⟩, ⟨(some 9), (.mv (.tmp 1)), none⟩, ⟨(some 10), (.mv (.tmp 2)), none⟩, ⟨(some 11), (.call 132 [(.tmp 8), (.tmp 9), (.tmp 10)]), none⟩, ⟨(some 12), (.pure (oB (.unOp .not 4 (.tmp 11)) 4)), none⟩, ⟨(some 7), (.mv (.tmp 12)), none⟩]
def r117_9 : List AOper := [⟨(some 6), (.mv (.const (.int .i64 2))), none⟩]
def r117_11 : List AOper := [⟨(some 14), (.faddr 0 (.tmp 3)), none⟩, ⟨(some 15), (.load false 1 (.tmp 14)), none⟩, ⟨(some 16), (.faddr 1 (.tmp 3)), none⟩, ⟨(some 17), (.load false 1 (.tmp 16)), none⟩, ⟨(some 18), (.bin .gtr 3 (.tmp 15) (.tmp 17)), none⟩, ⟨(some 13), (.mv (.tmp 18)), none⟩]
def r117_14 : List AOper := [⟨(some 6), (.mv (.const (.int .i64 10))), none⟩]
def r117_16 : List AOper := [⟨(some 6), (.mv (.const (.int .i64 0))), none⟩]
def tr117 : List (Nat × Tidy) := [(0, ⟨[1, 2, 3], true, [], []⟩), (1, ⟨[3, 7], true, [], []⟩), (2, ⟨[6], true, [], []⟩), (3, ⟨[13], true, [], []⟩), (4, ⟨[6], true, [], []⟩), (5, ⟨[6], true, [], []⟩)]
def tl117 : List (Nat × Tidy) := []
def rs117 : List AResV := [.tmp 6]
def pr117_0_0 : PT (List RV) := pRs [pR false [rD (dI .i64)]]
def ur117_0_0 {β : Type} (g : List RV → β) : Int → β := pr117_0_0.unc g

def E117_0g (vf132_0 : Tf132_0) : EnvK := EnvK.of [⟨132, nt132, [⟨pa132_0, Fn132_0 vf132_0⟩]⟩] noSeq
noncomputable def E117_0 : EnvK := E117_0g f132_0
theorem eo117_0 : E117_0.Ok Try.prog := EnvK.of_ok noSeq_ok ⟨⟨io132_0, trivial⟩, trivial⟩

/-- etalon/grow.ordered -/
abbrev Tf117_0 : Type 1 := (α : Type) → Int → Int → Int → Int → (Int → Option α) → Option α
def f117_0g (vf132_0 : Tf132_0) (α : Type) (x1 : Int) (x2 : Int) (x3 : Int) (x4 : Int) (k1 : Int → Option α) : Option α :=
  vf132_0 α x1 x2 x3 x4
    (fun (x5 : Bool) => cK (!x5)
      (k1 2)
      (cK (decide (x2 < x1))
        (k1 10)
        (k1 0)))
noncomputable def f117_0 (α : Type) (x1 : Int) (x2 : Int) (x3 : Int) (x4 : Int) (k1 : Int → Option α) : Option α := f117_0g f132_0 α x1 x2 x3 x4 k1
def pa117_0 : PT (List DV) := pA [pV true [(dI .i64), (dI .i64)], pV false [(dI .i64)], pV false [(dI .i64)]]
def Fn117_0 (v : Tf117_0) (α : Type) (k : List RV → Option α) : Int → Int → Int → Int → Option α := fun x1 x2 x3 x4 => v α x1 x2 x3 x4 (fun (y1 : Int) => ur117_0_0 k y1)
noncomputable def cm117_0g  : MCode := (.seq (.region r117_2 [] (some ⟨[1, 2, 3], true, [], []⟩)) (.seq (.block 0 (.seq (.region r117_6 [] (some ⟨[3, 7], true, [], []⟩)) (.cond (.tmp 7) (.seq (.region r117_9 [] (some ⟨[6], true, [], []⟩)) .ret) (.seq (.region r117_11 [] (some ⟨[13], true, [], []⟩)) (.cond (.tmp 13) (.seq (.region r117_14 [] (some ⟨[6], true, [], []⟩)) .ret) .skip))))) (.seq (.region r117_16 [] (some ⟨[6], true, [], []⟩)) .ret)))
noncomputable def cm117_0 : MCode := cm117_0g 
theorem gm117_0 : cm117_0.Good Try.prog E117_0 sh117 := ⟨trivial, ⟨⟨trivial, ⟨⟨trivial, trivial⟩, ⟨trivial, ⟨⟨trivial, trivial⟩, trivial⟩⟩⟩⟩, ⟨trivial, trivial⟩⟩⟩
theorem fm117_0g (vf132_0 : Tf132_0)  (α : Type) (k : List RV → Option α) : Fn117_0 (f117_0g vf132_0) α k = pa117_0.unc fun ds => fnM Try.prog (E117_0g vf132_0) sh117 (cm117_0g ) rs117 k ds := by kernel_rfl
theorem fm117_0 : ∀ (α : Type) (k : List RV → Option α), Fn117_0 f117_0 α k = pa117_0.unc fun ds => fnM Try.prog E117_0 sh117 cm117_0 rs117 k ds := fm117_0g f132_0

theorem is117 : FnIs Try.prog 117 nt117 tr117 tl117 cm117_0.erase rs117 := ⟨Try.f117, Try.func117, rfl, by kernel_rfl, by kernel_rfl, by kernel_rfl⟩
theorem io117_0 : InstOk Try.prog 117 nt117 ⟨pa117_0, Fn117_0 f117_0⟩ := inst_ok eo117_0 followsTry is117 ⟨⟨sh117, cm117_0, by kernel_rfl, gm117_0, fm117_0⟩⟩

/-! ### F27 etalon/etalonref08.RateErr -/
abbrev nt27 : Nat := 5
def sh27 : List (Nat × List Sh) := [(3, [.int .i64, .int .i64])]
def r27_2 : List AOper := [⟨(some 1), (.box (.tmp 0)), none⟩, ⟨(some 2), (.mv (.const (.int .i64 0))), none⟩]
def r27_4 : List AOper := [⟨(some 3), (.load true 2 (.tmp 1)), none⟩, ⟨(some 4), (.call 93 [(.tmp 3), (.const (.int .i64 1)), (.const (.int .i64 1000000))]), none⟩, ⟨(some 2), (.mv (.tmp 4)), none⟩]
def tr27 : List (Nat × Tidy) := [(0, ⟨[1], true, [], []⟩), (1, ⟨[2], true, [], []⟩)]
def tl27 : List (Nat × Tidy) := []
def rs27 : List AResV := [.tmp 2]
def pr27_0_0 : PT (List RV) := pRs [pR false [rD (dI .i64)]]
def ur27_0_0 {β : Type} (g : List RV → β) : Int → β := pr27_0_0.unc g

def E27_0g (vf93_0 : Tf93_0) : EnvK := EnvK.of [⟨93, nt93, [⟨pa93_0, Fn93_0 vf93_0⟩]⟩] noSeq
noncomputable def E27_0 : EnvK := E27_0g f93_0
theorem eo27_0 : E27_0.Ok Try.prog := EnvK.of_ok noSeq_ok ⟨⟨io93_0, trivial⟩, trivial⟩

/-- etalon/etalonref08.RateErr -/
abbrev Tf27_0 : Type 1 := (α : Type) → Int → Int → (Int → Option α) → Option α
def f27_0g (vf93_0 : Tf93_0) (α : Type) (x1 : Int) (x2 : Int) (k1 : Int → Option α) : Option α :=
  vf93_0 α x1 x2 1 1000000
    (fun (x3 : Int) => k1 x3)
noncomputable def f27_0 (α : Type) (x1 : Int) (x2 : Int) (k1 : Int → Option α) : Option α := f27_0g f93_0 α x1 x2 k1
def pa27_0 : PT (List DV) := pA [pV true [(dI .i64), (dI .i64)]]
def Fn27_0 (v : Tf27_0) (α : Type) (k : List RV → Option α) : Int → Int → Option α := fun x1 x2 => v α x1 x2 (fun (y1 : Int) => ur27_0_0 k y1)
noncomputable def cm27_0g  : MCode := (.seq (.region r27_2 [] (some ⟨[1], true, [], []⟩)) (.seq (.region r27_4 [] (some ⟨[2], true, [], []⟩)) .ret))
noncomputable def cm27_0 : MCode := cm27_0g 
theorem gm27_0 : cm27_0.Good Try.prog E27_0 sh27 := ⟨trivial, ⟨trivial, trivial⟩⟩
theorem fm27_0g (vf93_0 : Tf93_0)  (α : Type) (k : List RV → Option α) : Fn27_0 (f27_0g vf93_0) α k = pa27_0.unc fun ds => fnM Try.prog (E27_0g vf93_0) sh27 (cm27_0g ) rs27 k ds := by kernel_rfl
theorem fm27_0 : ∀ (α : Type) (k : List RV → Option α), Fn27_0 f27_0 α k = pa27_0.unc fun ds => fnM Try.prog E27_0 sh27 cm27_0 rs27 k ds := fm27_0g f93_0

theorem is27 : FnIs Try.prog 27 nt27 tr27 tl27 cm27_0.erase rs27 := ⟨Try.f27, Try.func27, rfl, by kernel_rfl, by kernel_rfl, by kernel_rfl⟩
theorem io27_0 : InstOk Try.prog 27 nt27 ⟨pa27_0, Fn27_0 f27_0⟩ := inst_ok eo27_0 followsTry is27 ⟨⟨sh27, cm27_0, by kernel_rfl, gm27_0, fm27_0⟩⟩

/-! ### F34 etalon/etalonref08.Tracked -/
abbrev nt34 : Nat := 109
def sh34 : List (Nat × List Sh) := [(14, [.int .i64, .int .i64, .int .i64, .sl]), (21, [.sl]), (27, [.int .i64, .int .i64, .int .i64, .sl]), (34, [.sl]), (40, [.int .i64, .int .i64, .int .i64, .sl]), (49, [.int .i64]), (51, [.int .i64]), (57, [.int .i64]), (62, [.int .i64]), (64, [.int .i64]), (70, [.int .i64]), (77, [.int .i64]), (79, [.int .i64]), (85, [.int .i64]), (90, [.int .i64]), (92, [.int .i64]), (98, [.int .i64]), (105, [.int .i64, .int .i64])]
def r34_2 : List AOper := [⟨(some 1), (.box (.tmp 0)), none⟩, ⟨(some 2), (.mv (.const (.slice none 0 0))), none⟩, ⟨(some 3), (.mv (.const (.bool false))), none⟩]
def r34_5 : List AOper := [⟨(some 14), (.load true 4 (.tmp 1)), none⟩, ⟨(some 15), (.call 35 [(.tmp 14)]), none⟩, ⟨(some 13), (.mv (.tmp 15)), none⟩, ⟨(some 16), (.extract 0 (.tmp 13)), none⟩, ⟨(some 17), (.extract 1 (.tmp 13)), none⟩, ⟨(some 4), (.alloc [(.d (.v (.int .i64 0))), (.d (.v (.int .i64 0)))]), none⟩, ⟨none, (.store 2 (.tmp 4) (.tmp 16)), none⟩, ⟨(some 5), (.mv (.tmp 17)), none⟩]
def r34_7 : List AOper := [⟨(some 18), (.mv (.tmp 5)), none⟩]
def r34_10 : List AOper := [⟨(some 2), (.mv (.const (.slice none 0 0))), none⟩, ⟨(some 3), (.mv (.const (.bool false))), none⟩]
def r34_12 : List AOper := [⟨(some 6), (.mv (.const (.slice none 0 0))), none⟩]
def r34_15 : List AOper := [⟨(some 7), (.mv (.const (.int .i64 0))), none⟩]
def td34_17 : Option Tidy := (some ⟨[1, 6, 7], true, [⟨false, 6, 0, 20006, 2⟩, ⟨true, 1, 3, 30103, 2⟩], []⟩)
def r34_20 : List AOper := [⟨(some 19), (.mv (.tmp 7)), none⟩, ⟨(some 20), (.faddr 3 (.tmp 1)), none⟩, ⟨(some 21), (.load false 1 (.tmp 20)), none⟩, ⟨(some 22), (.len (.tmp 21)), none⟩, ⟨(some 23), (.bin .lss 3 (.tmp 19) (.tmp 22)), none⟩]
def r34_25 : List AOper := [⟨(some 27), (.load true 4 (.tmp 1)), none⟩, ⟨(some 28), (.mv (.tmp 7)), none⟩, ⟨(some 29), (.call 96 [(.tmp 27), (.tmp 28)]), none⟩, ⟨(some 26), (.mv (.tmp 29)), none⟩, ⟨(some 30), (.extract 0 (.tmp 26)), none⟩, ⟨(some 31), (.extract 1 (.tmp 26)), none⟩, ⟨(some 9), (.alloc [(.d (.v (.int .i64 0))), (.d (.v (.int .i64 0)))]), none⟩, ⟨(some 8), (.mv (.tmp 30)), none⟩, ⟨none, (.store 2 (.tmp 9) (.tmp 31)), none⟩]
def r34_28 : List AOper := [⟨(some 10), (.mv (.const (.int .i64 (-1)))), none⟩]
def td34_30 : Option Tidy := (some ⟨[1, 6, 7, 8, 9, 10], true, [⟨false, 6, 0, 20006, 2⟩, ⟨true, 1, 3, 30103, 2⟩], []⟩)
def r34_33 : List AOper := [⟨(some 32), (.mv (.tmp 10)), none⟩, ⟨(some 33), (.faddr 3 (.tmp 1)), none⟩, ⟨(some 34), (.load false 1 (.tmp 33)), none⟩, ⟨(some 35), (.len (.tmp 34)), none⟩, ⟨(some 36), (.bin .lss 3 (.tmp 32) (.tmp 35)), none⟩]
def r34_38 : List AOper := [⟨(some 40), (.load true 4 (.tmp 1)), none⟩, ⟨(some 41), (.mv (.tmp 10)), none⟩, ⟨(some 42), (.call 96 [(.tmp 40), (.tmp 41)]), none⟩, ⟨(some 39), (.mv (.tmp 42)), none⟩, ⟨(some 43), (.extract 0 (.tmp 39)), none⟩, ⟨(some 44), (.extract 1 (.tmp 39)), none⟩, ⟨(some 12), (.alloc [(.d (.v (.int .i64 0))), (.d (.v (.int .i64 0)))]), none⟩, ⟨(some 11), (.mv (.tmp 43)), none⟩, ⟨none, (.store 2 (.tmp 12) (.tmp 44)), none⟩]
def r34_40 : List AOper := [⟨(some 45), (.mv (.tmp 11)), none⟩, ⟨(some 46), (.mv (.tmp 8)), none⟩, ⟨(some 47), (.bin .leq 3 (.tmp 45) (.tmp 46)), none⟩]
def r34_42 : List AOper := [⟨(some 48), (.faddr 0 (.tmp 9)), none⟩, ⟨(some 49), (.load false 1 (.tmp 48)), none⟩, ⟨(some 50), (.faddr 0 (.tmp 12)), none⟩, ⟨(some 51), (.load false 1 (.tmp 50)), none⟩, ⟨(some 52), (.mv (.tmp 8)), none⟩, ⟨(some 53), (.mv (.tmp 11)), none⟩, ⟨(some 54), (.bin .sub 3 (.tmp 52) (.tmp 53)), none⟩, ⟨(some 55), (.faddr 0 (.tmp 1)), none⟩, ⟨(some 56), (.faddr 0 (.tmp 55)), none⟩, ⟨(some 57), (.load false 1 (.tmp 56)), none⟩, ⟨(some 58), (.bin .mul 3 (.tmp 54) (.tmp 57)), none⟩, ⟨(some 59), (.bin .add 3 (.tmp 51) (.tmp 58)), none⟩, ⟨(some 60), (.pure (oB (.call { callee := .builtin .max, args := #[(.tmp 49), (.tmp 59)], argTypes := #[3, 3] }) 3)), none⟩, ⟨(some 61), (.faddr 1 (.tmp 9)), none⟩, ⟨(some 62), (.load false 1 (.tmp 61)), none⟩, ⟨(some 63), (.faddr 1 (.tmp 12)), none⟩, ⟨(some 64), (.load false 1 (.tmp 63)), none⟩, ⟨(some 65), (.mv (.tmp 8)), none⟩, ⟨(some 66), (.mv (.tmp 11)), none⟩, ⟨(some 67), (.bin .sub 3 (.tmp 65) (.tmp 66)), none⟩, ⟨(some 68), (.faddr 0 (.tmp 1)), none⟩, ⟨(some 69), (.faddr 1 (.tmp 68)), none⟩, ⟨(some 70), (.load false 1 (.tmp 69)), none⟩, ⟨(some 71), (.bin .mul 3 (.tmp 67) (.tmp 70)), none⟩, ⟨(some 72), (.bin .add 3 (.tmp 64) (.tmp 71)), none⟩, ⟨(some 73), (.pure (oB (.call { callee := .builtin .min, args := #[(.tmp 62), (.tmp 72)], argTypes := #[3, 3] }) 3)), none⟩, ⟨(some 74), (.faddr 0 (.tmp 9)), none⟩, ⟨none, (.store 1 (.tmp 74) (.tmp 60)), none⟩, ⟨(some 75), (.faddr 1 (.tmp 9)), none⟩, ⟨none, (.store 1 (.tmp 75) (.tmp 73)), none⟩]
def r34_43 : List AOper := [⟨(some 76), (.faddr 0 (.tmp 9)), none⟩, ⟨(some 77), (.load false 1 (.tmp 76)), none⟩, ⟨(some 78), (.faddr 0 (.tmp 12)), none⟩, ⟨(some 79), (.load false 1 (.tmp 78)), none⟩, ⟨(some 80), (.mv (.tmp 11)), none⟩, ⟨(some 81), (.mv (.tmp 8)), none⟩, ⟨(some 82), (.bin .sub 3 (.tmp 80) (.tmp 81)), none⟩, ⟨(some 83), (.faddr 0 (.tmp 1)), none⟩, ⟨(some 84), (.faddr 1 (.tmp 83)), none⟩, ⟨(some 85), (.load false 1 (.tmp 84)), none⟩, ⟨(some 86), (.bin .mul 3 (.tmp 82) (.tmp 85)), none⟩, ⟨(some 87), (.bin .sub 3 (.tmp 79) (.tmp 86)), none⟩, ⟨(some 88), (.pure (oB (.call { callee := .builtin .max, args := #[(.tmp 77), (.tmp 87)], argTypes := #[3, 3] }) 3)), none⟩, ⟨(some 89), (.faddr 1 (.tmp 9)), none⟩, ⟨(some 90), (.load false 1 (.tmp 89)), none⟩, ⟨(some 91), (.faddr 1 (.tmp 12)), none⟩, ⟨(some 92), (.load false 1 (.tmp 91)), none⟩, ⟨(some 93), (.mv (.tmp 11)), none⟩, ⟨(some 94), (.mv (.tmp 8)), none⟩, ⟨(some 95), (.bin .sub 3 (.tmp 93) (.tmp 94)), none⟩, ⟨(some 96), (.faddr 0 (.tmp 1)), none⟩, ⟨(some 97), (.faddr 0 (.tmp 96)), none⟩, ⟨(some 98), (.load false 1 (.tmp 97)), none⟩, ⟨(some 99), (.bin .mul 3 (.tmp 95) (.tmp 98)), none⟩, ⟨(some 100), (.bin .sub 3 (.tmp 92) (.tmp 99)), none⟩, ⟨(some 101), (.pure (oB (.call { callee := .builtin .min, args := #[(.tmp 90), (.tmp 100)], argTypes := #[3, 3] }) 3)), none⟩, ⟨(some 102), (.faddr 0 (.tmp 9)), none⟩, ⟨none, (.store 1 (.tmp 102) (.tmp 88)), none⟩, ⟨(some 103), (.faddr 1 (.tmp 9)), none⟩, ⟨none, (.store 1 (.tmp 103) (.tmp 101)), none⟩]
def r34_44 : List AOper := [⟨(some 37), (.mv (.tmp 10)), none⟩, ⟨(some 38), (.bin .add 3 (.tmp 37) (.const (.int .i64 1))), none⟩, ⟨(some 10), (.mv (.tmp 38)), none⟩]
def r34_45 : List AOper := [⟨(some 104), (.mv (.tmp 6)), none⟩, ⟨(some 105), (.load true 2 (.tmp 9)), none⟩, ⟨(some 106), (.bslice 2 1 [(.v (.int .i64 0)), (.v (.int .i64 0))] [(0, (.tmp 105))]), none⟩, ⟨(some 107), (.append 2 16 (.tmp 104) (.tmp 106)), none⟩, ⟨(some 6), (.mv (.tmp 107)), none⟩]
def r34_46 : List AOper := [⟨(some 24), (.mv (.tmp 7)), none⟩, ⟨(some 25), (.bin .add 3 (.tmp 24) (.const (.int .i64 1))), none⟩, ⟨(some 7), (.mv (.tmp 25)), none⟩]
def r34_48 : List AOper := [⟨(some 108), (.mv (.tmp 6)), none⟩, ⟨(some 2), (.mv (.tmp 108)), none⟩, ⟨(some 3), (.mv (.const (.bool true))), none⟩]
def tr34 : List (Nat × Tidy) := [(0, ⟨[1], true, [], []⟩), (1, ⟨[1, 5], true, [], []⟩), (2, ⟨[1, 18], true, [], []⟩), (3, ⟨[2, 3], true, [⟨false, 2, 0, 20002, 2⟩], []⟩), (4, ⟨[1, 6], true, [], []⟩), (5, ⟨[1, 6, 7], true, [], []⟩), (6, ⟨[1, 6, 7, 23], true, [], []⟩), (8, ⟨[1, 6, 7, 8, 9], true, [], []⟩), (9, ⟨[1, 6, 7, 8, 9, 10], true, [], []⟩), (10, ⟨[1, 6, 7, 8, 9, 10, 36], true, [], []⟩), (12, ⟨[1, 6, 7, 8, 9, 10, 11, 12], true, [], []⟩), (13, ⟨[1, 6, 7, 8, 9, 10, 11, 12, 47], true, [], []⟩), (14, ⟨[1, 6, 7, 8, 9, 10], true, [], []⟩), (15, ⟨[1, 6, 7, 8, 9, 10], true, [], []⟩), (11, ⟨[1, 6, 7, 8, 9, 10], true, [], []⟩), (16, ⟨[1, 6, 7], true, [], []⟩), (7, ⟨[1, 6, 7], true, [], []⟩), (17, ⟨[2, 3], true, [⟨false, 2, 0, 20002, 2⟩], []⟩)]
def tl34 : List (Nat × Tidy) := [(6, ⟨[1, 6, 7], true, [⟨false, 6, 0, 20006, 2⟩, ⟨true, 1, 3, 30103, 2⟩], []⟩), (10, ⟨[1, 6, 7, 8, 9, 10], true, [⟨false, 6, 0, 20006, 2⟩, ⟨true, 1, 3, 30103, 2⟩], []⟩)]
def rs34 : List AResV := [.tmp 2, .tmp 3]
def p34_0_0 : PT St := pS [sl 1 (aV false [(cPtr 1 0)]), sl 6 (aV false [(cRef 20006)]), sl 7 (aV false [(cD (dI .i64))]), sl 8 (aV false [(cD (dI .i64))]), sl 9 (aV false [(cPtr 9 0)]), sl 10 (aV false [(cD (dI .i64))])] [eBox 1 [(cD (dI .i64)), (cD (dI .i64)), (cD (dI .i64)), (cD dL)], eOwn 20006 2, eBox 9 [(cD (dI .i64)), (cD (dI .i64))]]
def u34_0_0 {β : Type} (g : St → β) : Int → Int → Int → Int → Int → Int → Rows → Rows → Int → Int → β := p34_0_0.unc g

def p34_0_1 : PT St := pS [sl 1 (aV false [(cPtr 1 0)]), sl 6 (aV false [(cRef 20006)]), sl 7 (aV false [(cD (dI .i64))]), sl 8 (aV false [(cD (dI .i64))]), sl 9 (aV false [(cPtr 9 0)]), sl 10 (aV false [(cD (dI .i64))]), sl 36 (aV false [(cD dB)])] [eBox 1 [(cD (dI .i64)), (cD (dI .i64)), (cD (dI .i64)), (cD dL)], eOwn 20006 2, eBox 9 [(cD (dI .i64)), (cD (dI .i64))]]
def u34_0_1 {β : Type} (g : St → β) : Int → Int → Int → Bool → Int → Int → Int → Rows → Rows → Int → Int → β := p34_0_1.unc g

def p34_0_2 : PT St := pS [sl 1 (aV false [(cPtr 1 0)]), sl 6 (aV false [(cRef 20006)]), sl 7 (aV false [(cD (dI .i64))])] [eBox 1 [(cD (dI .i64)), (cD (dI .i64)), (cD (dI .i64)), (cD dL)], eOwn 20006 2]
def u34_0_2 {β : Type} (g : St → β) : Int → Int → Int → Int → Rows → Rows → β := p34_0_2.unc g

def p34_0_3 : PT St := pS [sl 1 (aV false [(cPtr 1 0)]), sl 6 (aV false [(cRef 20006)]), sl 7 (aV false [(cD (dI .i64))]), sl 23 (aV false [(cD dB)])] [eBox 1 [(cD (dI .i64)), (cD (dI .i64)), (cD (dI .i64)), (cD dL)], eOwn 20006 2]
def u34_0_3 {β : Type} (g : St → β) : Int → Bool → Int → Int → Int → Rows → Rows → β := p34_0_3.unc g

def pr34_0_0 : PT (List RV) := pRs [pR false [rO 2], pR false [rD dB]]
def ur34_0_0 {β : Type} (g : List RV → β) : Rows → Bool → β := pr34_0_0.unc g

def E34_0g (vf35_0 : Tf35_0) (vf96_0 : Tf96_0) : EnvK := EnvK.of [⟨35, nt35, [⟨pa35_0, Fn35_0 vf35_0⟩]⟩, ⟨96, nt96, [⟨pa96_0, Fn96_0 vf96_0⟩]⟩] noSeq
noncomputable def E34_0 : EnvK := E34_0g f35_0 f96_0
theorem eo34_0 : E34_0.Ok Try.prog := EnvK.of_ok noSeq_ok ⟨⟨io35_0, trivial⟩, ⟨io96_0, trivial⟩, trivial⟩

noncomputable def c34_0_30g  : MCode := (.seq (.seq (.region r34_33 [] (some ⟨[1, 6, 7, 8, 9, 10, 36], true, [], []⟩)) (.cond (.tmp 36) .skip (.exit 2))) (.seq (.block 3 (.seq (.region r34_38 [] (some ⟨[1, 6, 7, 8, 9, 10, 11, 12], true, [], []⟩)) (.seq (.region r34_40 [] (some ⟨[1, 6, 7, 8, 9, 10, 11, 12, 47], true, [], []⟩)) (.cond (.tmp 47) (.region r34_42 [(16, 27), (22, 27)] (some ⟨[1, 6, 7, 8, 9, 10], true, [], []⟩)) (.region r34_43 [(16, 27), (22, 27)] (some ⟨[1, 6, 7, 8, 9, 10], true, [], []⟩)))))) (.region r34_44 [] (some ⟨[1, 6, 7, 8, 9, 10], true, [], []⟩))))
noncomputable def c34_0_30 : MCode := c34_0_30g 
theorem g34_0_30 : c34_0_30.Good Try.prog E34_0 sh34 := ⟨⟨trivial, ⟨trivial, trivial⟩⟩, ⟨⟨trivial, ⟨trivial, ⟨trivial, trivial⟩⟩⟩, trivial⟩⟩
--CODE 30 0
def S34_0_0g (vf96_0 : Tf96_0) (α : Type) (x18 : Int) (x20 : Int) (x21 : Int) (x22 : Int) (x23 : Rows) (x19 : Int) (x25 : Int) (x26 : Int) (kn : Int → Int → Int → Option α) (k1 : Int → Bool → Int → Int → Option α) : Option α :=
  cK (decide (x19 < ((List.length x23 : Nat) : Int)))
    (vf96_0 α x20 x21 x22 x23 x19
      (fun (x27 : Int) (x28 : Int) (x29 : Int) => cK (decide (x27 ≤ x18))
        (kn (w64 (x19 + 1)) (if (w64 (x28 + (w64 ((w64 (x18 - x27)) * x20)))) > x25 then (w64 (x28 + (w64 ((w64 (x18 - x27)) * x20)))) else x25) (if (w64 (x29 + (w64 ((w64 (x18 - x27)) * x21)))) < x26 then (w64 (x29 + (w64 ((w64 (x18 - x27)) * x21)))) else x26))
        (kn (w64 (x19 + 1)) (if (w64 (x28 - (w64 ((w64 (x27 - x18)) * x21)))) > x25 then (w64 (x28 - (w64 ((w64 (x27 - x18)) * x21)))) else x25) (if (w64 (x29 - (w64 ((w64 (x27 - x18)) * x20)))) < x26 then (w64 (x29 - (w64 ((w64 (x27 - x18)) * x20)))) else x26))))
    (k1 x19 (decide (x19 < ((List.length x23 : Nat) : Int))) x25 x26)
noncomputable def S34_0_0 (α : Type) (x18 : Int) (x20 : Int) (x21 : Int) (x22 : Int) (x23 : Rows) (x19 : Int) (x25 : Int) (x26 : Int) (kn : Int → Int → Int → Option α) (k1 : Int → Bool → Int → Int → Option α) : Option α := S34_0_0g f96_0 α x18 x20 x21 x22 x23 x19 x25 x26 kn k1
noncomputable def R34_0_0 (α : Type) (x18 : Int) (x20 : Int) (x21 : Int) (x22 : Int) (x23 : Rows) (k1 : Int → Bool → Int → Int → Option α) : Nat → Int → Int → Int → Option α
  | 0, _, _, _ => none
  | n + 1, x19, x25, x26 => S34_0_0 α x18 x20 x21 x22 x23 x19 x25 x26 (R34_0_0 α x18 x20 x21 x22 x23 k1 n) k1
noncomputable def L34_0_0 (α : Type) (x18 : Int) (x20 : Int) (x21 : Int) (x22 : Int) (x23 : Rows) (k1 : Int → Bool → Int → Int → Option α) (x19 : Int) (x25 : Int) (x26 : Int) : Option α := R34_0_0 α x18 x20 x21 x22 x23 k1 fuel x19 x25 x26
abbrev TL34_0_0 : Type 1 := (α : Type) → Int → Int → Int → Int → Rows → (Int → Bool → Int → Int → Option α) → Int → Int → Int → Option α
def F34_0_0 (v : TL34_0_0) (α : Type) (K : Exit → St → Option α) : Int → Int → Int → Int → Int → Int → Rows → Rows → Int → Int → Option α := fun x17 x18 x19 x20 x21 x22 x23 x24 x25 x26 => v α x18 x20 x21 x22 x23 (fun (y1 : Int) (y2 : Bool) (y3 : Int) (y4 : Int) => u34_0_1 (K (.exit 2)) x17 x18 y1 y2 x20 x21 x22 x23 x24 y3 y4) x19 x25 x26
theorem r34_0_0g (vf35_0 : Tf35_0) (vf96_0 : Tf96_0)  (α : Type) (K : Exit → St → Option α) (Kn : St → Option α) (x17 : Int) (x18 : Int) (x19 : Int) (x20 : Int) (x21 : Int) (x22 : Int) (x23 : Rows) (x24 : Rows) (x25 : Int) (x26 : Int) : u34_0_0 (fun σ => runM Try.prog (E34_0g vf35_0 vf96_0) sh34 (c34_0_30g ) (thenK (fun σ => tidyK td34_30 σ Kn) K) σ) x17 x18 x19 x20 x21 x22 x23 x24 x25 x26 = S34_0_0g vf96_0 α x18 x20 x21 x22 x23 x19 x25 x26 (fun x19 x25 x26 => u34_0_0 Kn x17 x18 x19 x20 x21 x22 x23 x24 x25 x26) (fun (y1 : Int) (y2 : Bool) (y3 : Int) (y4 : Int) => u34_0_1 (K (.exit 2)) x17 x18 y1 y2 x20 x21 x22 x23 x24 y3 y4) := by kernel_rfl
theorem r34_0_0 (α : Type) (K : Exit → St → Option α) (Kn : St → Option α) (x17 : Int) (x18 : Int) (x19 : Int) (x20 : Int) (x21 : Int) (x22 : Int) (x23 : Rows) (x24 : Rows) (x25 : Int) (x26 : Int) : u34_0_0 (fun σ => runM Try.prog E34_0 sh34 c34_0_30 (thenK (fun σ => tidyK td34_30 σ Kn) K) σ) x17 x18 x19 x20 x21 x22 x23 x24 x25 x26 = S34_0_0 α x18 x20 x21 x22 x23 x19 x25 x26 (fun x19 x25 x26 => u34_0_0 Kn x17 x18 x19 x20 x21 x22 x23 x24 x25 x26) (fun (y1 : Int) (y2 : Bool) (y3 : Int) (y4 : Int) => u34_0_1 (K (.exit 2)) x17 x18 y1 y2 x20 x21 x22 x23 x24 y3 y4) := r34_0_0g f35_0 f96_0 α K Kn x17 x18 x19 x20 x21 x22 x23 x24 x25 x26
theorem t34_0_0 (α : Type) (K : Exit → St → Option α) : ∀ (n : Nat) (x17 : Int) (x18 : Int) (x19 : Int) (x20 : Int) (x21 : Int) (x22 : Int) (x23 : Rows) (x24 : Rows) (x25 : Int) (x26 : Int), R34_0_0 α x18 x20 x21 x22 x23 (fun (y1 : Int) (y2 : Bool) (y3 : Int) (y4 : Int) => u34_0_1 (K (.exit 2)) x17 x18 y1 y2 x20 x21 x22 x23 x24 y3 y4) n x19 x25 x26 = u34_0_0 (loopT (runM Try.prog E34_0 sh34 c34_0_30) td34_30 K n) x17 x18 x19 x20 x21 x22 x23 x24 x25 x26 := by
  intro n
  induction n with
  | zero => intros; rfl
  | succ n ih => intro x17 x18 x19 x20 x21 x22 x23 x24 x25 x26; exact (congrArg (fun kn => S34_0_0 α x18 x20 x21 x22 x23 x19 x25 x26 kn (fun (y1 : Int) (y2 : Bool) (y3 : Int) (y4 : Int) => u34_0_1 (K (.exit 2)) x17 x18 y1 y2 x20 x21 x22 x23 x24 y3 y4)) (funext fun x19 => funext fun x25 => funext fun x26 => ih x17 x18 x19 x20 x21 x22 x23 x24 x25 x26)).trans (r34_0_0 α K (loopT (runM Try.prog E34_0 sh34 c34_0_30) td34_30 K n) x17 x18 x19 x20 x21 x22 x23 x24 x25 x26).symm
theorem m34_0_0 : ∀ (α : Type) (K : Exit → St → Option α), F34_0_0 L34_0_0 α K = p34_0_0.unc fun σ => loopT (runM Try.prog E34_0 sh34 c34_0_30) td34_30 K fuel σ := fun α K => funext fun x17 => funext fun x18 => funext fun x19 => funext fun x20 => funext fun x21 => funext fun x22 => funext fun x23 => funext fun x24 => funext fun x25 => funext fun x26 => t34_0_0 α K fuel x17 x18 x19 x20 x21 x22 x23 x24 x25 x26

noncomputable def c34_0_17g (vL34_0_0 : TL34_0_0) : MCode := (.seq (.seq (.region r34_20 [] (some ⟨[1, 6, 7, 23], true, [], []⟩)) (.cond (.tmp 23) .skip (.exit 0))) (.seq (.block 1 (.seq (.region r34_25 [] (some ⟨[1, 6, 7, 8, 9], true, [], []⟩)) (.seq (.seq (.region r34_28 [] (some ⟨[1, 6, 7, 8, 9, 10], true, [], []⟩)) (.block 2 (.loop td34_30 [⟨p34_0_0, F34_0_0 vL34_0_0⟩] c34_0_30))) (.region r34_45 [] (some ⟨[1, 6, 7], true, [], []⟩))))) (.region r34_46 [] (some ⟨[1, 6, 7], true, [], []⟩))))
noncomputable def c34_0_17 : MCode := c34_0_17g L34_0_0
theorem g34_0_17 : c34_0_17.Good Try.prog E34_0 sh34 := ⟨⟨trivial, ⟨trivial, trivial⟩⟩, ⟨⟨trivial, ⟨⟨trivial, ⟨g34_0_30, m34_0_0, trivial⟩⟩, trivial⟩⟩, trivial⟩⟩
--CODE 17 0
def S34_0_1g (vL34_0_0 : TL34_0_0) (vf96_0 : Tf96_0) (α : Type) (x9 : Int) (x10 : Int) (x11 : Int) (x12 : Rows) (x8 : Int) (x13 : Rows) (kn : Int → Rows → Option α) (k1 : Int → Bool → Rows → Option α) : Option α :=
  cK (decide (x8 < ((List.length x12 : Nat) : Int)))
    (vf96_0 α x9 x10 x11 x12 x8
      (fun (x14 : Int) (x15 : Int) (x16 : Int) => vL34_0_0 α x14 x9 x10 x11 x12
        (fun (x30 : Int) (x31 : Bool) (x32 : Int) (x33 : Int) => gK (apOk 2 16 x13 [[DC.v (.int .i64 x32), DC.v (.int .i64 x33)]]) (kn (w64 (x8 + 1)) (x13 ++ [[DC.v (.int .i64 x32), DC.v (.int .i64 x33)]]))) (-1) x15 x16))
    (k1 x8 (decide (x8 < ((List.length x12 : Nat) : Int))) x13)
noncomputable def S34_0_1 (α : Type) (x9 : Int) (x10 : Int) (x11 : Int) (x12 : Rows) (x8 : Int) (x13 : Rows) (kn : Int → Rows → Option α) (k1 : Int → Bool → Rows → Option α) : Option α := S34_0_1g L34_0_0 f96_0 α x9 x10 x11 x12 x8 x13 kn k1
noncomputable def R34_0_1 (α : Type) (x9 : Int) (x10 : Int) (x11 : Int) (x12 : Rows) (k1 : Int → Bool → Rows → Option α) : Nat → Int → Rows → Option α
  | 0, _, _ => none
  | n + 1, x8, x13 => S34_0_1 α x9 x10 x11 x12 x8 x13 (R34_0_1 α x9 x10 x11 x12 k1 n) k1
noncomputable def L34_0_1 (α : Type) (x9 : Int) (x10 : Int) (x11 : Int) (x12 : Rows) (k1 : Int → Bool → Rows → Option α) (x8 : Int) (x13 : Rows) : Option α := R34_0_1 α x9 x10 x11 x12 k1 fuel x8 x13
abbrev TL34_0_1 : Type 1 := (α : Type) → Int → Int → Int → Rows → (Int → Bool → Rows → Option α) → Int → Rows → Option α
def F34_0_1 (v : TL34_0_1) (α : Type) (K : Exit → St → Option α) : Int → Int → Int → Int → Rows → Rows → Option α := fun x8 x9 x10 x11 x12 x13 => v α x9 x10 x11 x12 (fun (y1 : Int) (y2 : Bool) (y3 : Rows) => u34_0_3 (K (.exit 0)) y1 y2 x9 x10 x11 x12 y3) x8 x13
theorem r34_0_1g (vf35_0 : Tf35_0) (vf96_0 : Tf96_0) (vL34_0_0 : TL34_0_0) (α : Type) (K : Exit → St → Option α) (Kn : St → Option α) (x8 : Int) (x9 : Int) (x10 : Int) (x11 : Int) (x12 : Rows) (x13 : Rows) : u34_0_2 (fun σ => runM Try.prog (E34_0g vf35_0 vf96_0) sh34 (c34_0_17g vL34_0_0) (thenK (fun σ => tidyK td34_17 σ Kn) K) σ) x8 x9 x10 x11 x12 x13 = S34_0_1g vL34_0_0 vf96_0 α x9 x10 x11 x12 x8 x13 (fun x8 x13 => u34_0_2 Kn x8 x9 x10 x11 x12 x13) (fun (y1 : Int) (y2 : Bool) (y3 : Rows) => u34_0_3 (K (.exit 0)) y1 y2 x9 x10 x11 x12 y3) := by kernel_rfl
theorem r34_0_1 (α : Type) (K : Exit → St → Option α) (Kn : St → Option α) (x8 : Int) (x9 : Int) (x10 : Int) (x11 : Int) (x12 : Rows) (x13 : Rows) : u34_0_2 (fun σ => runM Try.prog E34_0 sh34 c34_0_17 (thenK (fun σ => tidyK td34_17 σ Kn) K) σ) x8 x9 x10 x11 x12 x13 = S34_0_1 α x9 x10 x11 x12 x8 x13 (fun x8 x13 => u34_0_2 Kn x8 x9 x10 x11 x12 x13) (fun (y1 : Int) (y2 : Bool) (y3 : Rows) => u34_0_3 (K (.exit 0)) y1 y2 x9 x10 x11 x12 y3) := r34_0_1g f35_0 f96_0 L34_0_0 α K Kn x8 x9 x10 x11 x12 x13
theorem t34_0_1 (α : Type) (K : Exit → St → Option α) : ∀ (n : Nat) (x8 : Int) (x9 : Int) (x10 : Int) (x11 : Int) (x12 : Rows) (x13 : Rows), R34_0_1 α x9 x10 x11 x12 (fun (y1 : Int) (y2 : Bool) (y3 : Rows) => u34_0_3 (K (.exit 0)) y1 y2 x9 x10 x11 x12 y3) n x8 x13 = u34_0_2 (loopT (runM Try.prog E34_0 sh34 c34_0_17) td34_17 K n) x8 x9 x10 x11 x12 x13 := by
  intro n
  induction n with
  | zero => intros; rfl
  | succ n ih => intro x8 x9 x10 x11 x12 x13; exact (congrArg (fun kn => S34_0_1 α x9 x10 x11 x12 x8 x13 kn (fun (y1 : Int) (y2 : Bool) (y3 : Rows) => u34_0_3 (K (.exit 0)) y1 y2 x9 x10 x11 x12 y3)) (funext fun x8 => funext fun x13 => ih x8 x9 x10 x11 x12 x13)).trans (r34_0_1 α K (loopT (runM Try.prog E34_0 sh34 c34_0_17) td34_17 K n) x8 x9 x10 x11 x12 x13).symm
theorem m34_0_1 : ∀ (α : Type) (K : Exit → St → Option α), F34_0_1 L34_0_1 α K = p34_0_2.unc fun σ => loopT (runM Try.prog E34_0 sh34 c34_0_17) td34_17 K fuel σ := fun α K => funext fun x8 => funext fun x9 => funext fun x10 => funext fun x11 => funext fun x12 => funext fun x13 => t34_0_1 α K fuel x8 x9 x10 x11 x12 x13

/-- etalon/etalonref08.Tracked -/
abbrev Tf34_0 : Type 1 := (α : Type) → Int → Int → Int → Rows → (Rows → Bool → Option α) → Option α
def f34_0g (vL34_0_1 : TL34_0_1) (vf35_0 : Tf35_0) (α : Type) (x1 : Int) (x2 : Int) (x3 : Int) (x4 : Rows) (k1 : Rows → Bool → Option α) : Option α :=
  vf35_0 α x1 x2 x3 x4
    (fun (x5 : Int) (x6 : Int) (x7 : Bool) => cK x7
      (k1 [] false)
      (vL34_0_1 α x1 x2 x3 x4
        (fun (x34 : Int) (x35 : Bool) (x36 : Rows) => k1 x36 true) 0 []))
noncomputable def f34_0 (α : Type) (x1 : Int) (x2 : Int) (x3 : Int) (x4 : Rows) (k1 : Rows → Bool → Option α) : Option α := f34_0g L34_0_1 f35_0 α x1 x2 x3 x4 k1
def pa34_0 : PT (List DV) := pA [pV true [(dI .i64), (dI .i64), (dI .i64), dL]]
def Fn34_0 (v : Tf34_0) (α : Type) (k : List RV → Option α) : Int → Int → Int → Rows → Option α := fun x1 x2 x3 x4 => v α x1 x2 x3 x4 (fun (y1 : Rows) (y2 : Bool) => ur34_0_0 k y1 y2)
noncomputable def cm34_0g (vL34_0_1 : TL34_0_1) : MCode := (.seq (.region r34_2 [] (some ⟨[1], true, [], []⟩)) (.seq (.seq (.region r34_5 [] (some ⟨[1, 5], true, [], []⟩)) (.seq (.region r34_7 [] (some ⟨[1, 18], true, [], []⟩)) (.cond (.tmp 18) (.seq (.region r34_10 [] (some ⟨[2, 3], true, [⟨false, 2, 0, 20002, 2⟩], []⟩)) .ret) .skip))) (.seq (.region r34_12 [] (some ⟨[1, 6], true, [], []⟩)) (.seq (.seq (.region r34_15 [] (some ⟨[1, 6, 7], true, [], []⟩)) (.block 0 (.loop td34_17 [⟨p34_0_2, F34_0_1 vL34_0_1⟩] c34_0_17))) (.seq (.region r34_48 [] (some ⟨[2, 3], true, [⟨false, 2, 0, 20002, 2⟩], []⟩)) .ret)))))
noncomputable def cm34_0 : MCode := cm34_0g L34_0_1
theorem gm34_0 : cm34_0.Good Try.prog E34_0 sh34 := ⟨trivial, ⟨⟨trivial, ⟨trivial, ⟨⟨trivial, trivial⟩, trivial⟩⟩⟩, ⟨trivial, ⟨⟨trivial, ⟨g34_0_17, m34_0_1, trivial⟩⟩, ⟨trivial, trivial⟩⟩⟩⟩⟩
theorem fm34_0g (vf35_0 : Tf35_0) (vf96_0 : Tf96_0) (vL34_0_1 : TL34_0_1) (α : Type) (k : List RV → Option α) : Fn34_0 (f34_0g vL34_0_1 vf35_0) α k = pa34_0.unc fun ds => fnM Try.prog (E34_0g vf35_0 vf96_0) sh34 (cm34_0g vL34_0_1) rs34 k ds := by kernel_rfl
theorem fm34_0 : ∀ (α : Type) (k : List RV → Option α), Fn34_0 f34_0 α k = pa34_0.unc fun ds => fnM Try.prog E34_0 sh34 cm34_0 rs34 k ds := fm34_0g f35_0 f96_0 L34_0_1

theorem is34 : FnIs Try.prog 34 nt34 tr34 tl34 cm34_0.erase rs34 := ⟨Try.f34, Try.func34, rfl, by kernel_rfl, by kernel_rfl, by kernel_rfl⟩
theorem io34_0 : InstOk Try.prog 34 nt34 ⟨pa34_0, Fn34_0 f34_0⟩ := inst_ok eo34_0 followsTry is34 ⟨⟨sh34, cm34_0, by kernel_rfl, gm34_0, fm34_0⟩⟩

/-! ### F90 etalon/grow.secondsErr -/
abbrev nt90 : Nat := 5
def sh90 : List (Nat × List Sh) := [(3, [.int .i64, .int .i64])]
def r90_2 : List AOper := [⟨(some 1), (.box (.tmp 0)), none⟩, ⟨(some 2), (.mv (.const (.int .i64 0))), none⟩]
def r90_4 : List AOper := [⟨(some 3), (.load true 2 (.tmp 1)), none⟩, ⟨(some 4), (.call 117 [(.tmp 3), (.const (.int .i64 0)), (.const (.int .i64 100000))]), none⟩, ⟨(some 2), (.mv (.tmp 4)), none⟩]
def tr90 : List (Nat × Tidy) := [(0, ⟨[1], true, [], []⟩), (1, ⟨[2], true, [], []⟩)]
def tl90 : List (Nat × Tidy) := []
def rs90 : List AResV := [.tmp 2]
def pr90_0_0 : PT (List RV) := pRs [pR false [rD (dI .i64)]]
def ur90_0_0 {β : Type} (g : List RV → β) : Int → β := pr90_0_0.unc g

def E90_0g (vf117_0 : Tf117_0) : EnvK := EnvK.of [⟨117, nt117, [⟨pa117_0, Fn117_0 vf117_0⟩]⟩] noSeq
noncomputable def E90_0 : EnvK := E90_0g f117_0
theorem eo90_0 : E90_0.Ok Try.prog := EnvK.of_ok noSeq_ok ⟨⟨io117_0, trivial⟩, trivial⟩

/-- etalon/grow.secondsErr -/
abbrev Tf90_0 : Type 1 := (α : Type) → Int → Int → (Int → Option α) → Option α
def f90_0g (vf117_0 : Tf117_0) (α : Type) (x1 : Int) (x2 : Int) (k1 : Int → Option α) : Option α :=
  vf117_0 α x1 x2 0 100000
    (fun (x3 : Int) => k1 x3)
noncomputable def f90_0 (α : Type) (x1 : Int) (x2 : Int) (k1 : Int → Option α) : Option α := f90_0g f117_0 α x1 x2 k1
def pa90_0 : PT (List DV) := pA [pV true [(dI .i64), (dI .i64)]]
def Fn90_0 (v : Tf90_0) (α : Type) (k : List RV → Option α) : Int → Int → Option α := fun x1 x2 => v α x1 x2 (fun (y1 : Int) => ur90_0_0 k y1)
noncomputable def cm90_0g  : MCode := (.seq (.region r90_2 [] (some ⟨[1], true, [], []⟩)) (.seq (.region r90_4 [] (some ⟨[2], true, [], []⟩)) .ret))
noncomputable def cm90_0 : MCode := cm90_0g 
theorem gm90_0 : cm90_0.Good Try.prog E90_0 sh90 := ⟨trivial, ⟨trivial, trivial⟩⟩
theorem fm90_0g (vf117_0 : Tf117_0)  (α : Type) (k : List RV → Option α) : Fn90_0 (f90_0g vf117_0) α k = pa90_0.unc fun ds => fnM Try.prog (E90_0g vf117_0) sh90 (cm90_0g ) rs90 k ds := by kernel_rfl
theorem fm90_0 : ∀ (α : Type) (k : List RV → Option α), Fn90_0 f90_0 α k = pa90_0.unc fun ds => fnM Try.prog E90_0 sh90 cm90_0 rs90 k ds := fm90_0g f117_0

theorem is90 : FnIs Try.prog 90 nt90 tr90 tl90 cm90_0.erase rs90 := ⟨Try.f90, Try.func90, rfl, by kernel_rfl, by kernel_rfl, by kernel_rfl⟩
theorem io90_0 : InstOk Try.prog 90 nt90 ⟨pa90_0, Fn90_0 f90_0⟩ := inst_ok eo90_0 followsTry is90 ⟨⟨sh90, cm90_0, by kernel_rfl, gm90_0, fm90_0⟩⟩

/-! ### F89 etalon/grow.rateErr -/
abbrev nt89 : Nat := 5
def sh89 : List (Nat × List Sh) := [(3, [.int .i64, .int .i64])]
def r89_2 : List AOper := [⟨(some 1), (.box (.tmp 0)), none⟩, ⟨(some 2), (.mv (.const (.int .i64 0))), none⟩]
def r89_4 : List AOper := [⟨(some 3), (.load true 2 (.tmp 1)), none⟩, ⟨(some 4), (.call 117 [(.tmp 3), (.const (.int .i64 1)), (.const (.int .i64 1000000))]), none⟩, ⟨(some 2), (.mv (.tmp 4)), none⟩]
def tr89 : List (Nat × Tidy) := [(0, ⟨[1], true, [], []⟩), (1, ⟨[2], true, [], []⟩)]
def tl89 : List (Nat × Tidy) := []
def rs89 : List AResV := [.tmp 2]
def pr89_0_0 : PT (List RV) := pRs [pR false [rD (dI .i64)]]
def ur89_0_0 {β : Type} (g : List RV → β) : Int → β := pr89_0_0.unc g

def E89_0g (vf117_0 : Tf117_0) : EnvK := EnvK.of [⟨117, nt117, [⟨pa117_0, Fn117_0 vf117_0⟩]⟩] noSeq
noncomputable def E89_0 : EnvK := E89_0g f117_0
theorem eo89_0 : E89_0.Ok Try.prog := EnvK.of_ok noSeq_ok ⟨⟨io117_0, trivial⟩, trivial⟩

/-- etalon/grow.rateErr -/
abbrev Tf89_0 : Type 1 := (α : Type) → Int → Int → (Int → Option α) → Option α
def f89_0g (vf117_0 : Tf117_0) (α : Type) (x1 : Int) (x2 : Int) (k1 : Int → Option α) : Option α :=
  vf117_0 α x1 x2 1 1000000
    (fun (x3 : Int) => k1 x3)
noncomputable def f89_0 (α : Type) (x1 : Int) (x2 : Int) (k1 : Int → Option α) : Option α := f89_0g f117_0 α x1 x2 k1
def pa89_0 : PT (List DV) := pA [pV true [(dI .i64), (dI .i64)]]
def Fn89_0 (v : Tf89_0) (α : Type) (k : List RV → Option α) : Int → Int → Option α := fun x1 x2 => v α x1 x2 (fun (y1 : Int) => ur89_0_0 k y1)
noncomputable def cm89_0g  : MCode := (.seq (.region r89_2 [] (some ⟨[1], true, [], []⟩)) (.seq (.region r89_4 [] (some ⟨[2], true, [], []⟩)) .ret))
noncomputable def cm89_0 : MCode := cm89_0g 
theorem gm89_0 : cm89_0.Good Try.prog E89_0 sh89 := ⟨trivial, ⟨trivial, trivial⟩⟩
theorem fm89_0g (vf117_0 : Tf117_0)  (α : Type) (k : List RV → Option α) : Fn89_0 (f89_0g vf117_0) α k = pa89_0.unc fun ds => fnM Try.prog (E89_0g vf117_0) sh89 (cm89_0g ) rs89 k ds := by kernel_rfl
theorem fm89_0 : ∀ (α : Type) (k : List RV → Option α), Fn89_0 f89_0 α k = pa89_0.unc fun ds => fnM Try.prog E89_0 sh89 cm89_0 rs89 k ds := fm89_0g f117_0

theorem is89 : FnIs Try.prog 89 nt89 tr89 tl89 cm89_0.erase rs89 := ⟨Try.f89, Try.func89, rfl, by kernel_rfl, by kernel_rfl, by kernel_rfl⟩
theorem io89_0 : InstOk Try.prog 89 nt89 ⟨pa89_0, Fn89_0 f89_0⟩ := inst_ok eo89_0 followsTry is89 ⟨⟨sh89, cm89_0, by kernel_rfl, gm89_0, fm89_0⟩⟩

/-! ### F15 etalon/etalonref08.CheckTrack -/
abbrev nt15 : Nat := 59
def sh15 : List (Nat × List Sh) := [(8, [.int .i64, .int .i64]), (14, [.int .i64]), (18, [.sl]), (23, [.sl]), (29, [.sl]), (31, [.int .i64, .int .i64]), (32, [.int .i64, .int .i64]), (34, [.int .i64]), (39, [.int .i64]), (48, [.int .i64]), (50, [.sl]), (53, [.int .i64, .int .i64]), (55, [.int .i64])]
def r15_2 : List AOper := [⟨(some 1), (.box (.tmp 0)), none⟩, ⟨(some 2), (.mv (.const (.int .i64 0))), none⟩, ⟨(some 3), (.mv (.const (.int .i64 0))), none⟩]
def r15_5 : List AOper := [⟨(some 7), (.faddr 0 (.tmp 1)), none⟩, ⟨(some 8), (.load true 2 (.tmp 7)), none⟩, ⟨(some 9), (.call 27 [(.tmp 8)]), none⟩, ⟨(some 4), (.mv (.tmp 9)), none⟩]
def r15_7 : List AOper := [⟨(some 10), (.mv (.tmp 4)), none⟩, ⟨(some 11), (.bin .neq 3 (.tmp 10) (.const (.int .i64 0))), none⟩]
def r15_10 : List AOper := [⟨(some 12), (.mv (.tmp 4)), none⟩, ⟨(some 2), (.mv (.const (.int .i64 0))), none⟩, ⟨(some 3), (.mv (.tmp 12)), none⟩]
def r15_13 : List AOper := [⟨(some 13), (.faddr 2 (.tmp 1)), none⟩, ⟨(some 14), (.load false 1 (.tmp 13)), none⟩, ⟨(some 15), (.call 19 [(.tmp 14), (.const (.int .i64 0)), (.const (.int .i64 1000000))]), none⟩, ⟨(some 16), (.pure (oB (.unOp .not 4 (.tmp 15)) 4)), none⟩]
def r15_16 : List AOper := [⟨(some 2), (.mv (.const (.int .i64 0))), none⟩, ⟨(some 3), (.mv (.const (.int .i64 2))), none⟩]
def r15_19 : List AOper := [⟨(some 17), (.faddr 3 (.tmp 1)), none⟩, ⟨(some 18), (.load false 1 (.tmp 17)), none⟩, ⟨(some 19), (.len (.tmp 18)), none⟩, ⟨(some 20), (.bin .gtr 3 (.tmp 19) (.const (.int .i64 40))), none⟩]
def r15_22 : List AOper := [⟨(some 2), (.mv (.const (.int .i64 0))), none⟩, ⟨(some 3), (.mv (.const (.int .i64 8))), none⟩]
def r15_25 : List AOper := [⟨(some 5), (.mv (.const (.int .i64 0))), none⟩]
def td15_27 : Option Tidy := (some ⟨[1, 5], true, [⟨true, 1, 3, 30103, 2⟩], []⟩)
def r15_30 : List AOper := [⟨(some 21), (.mv (.tmp 5)), none⟩, ⟨(some 22), (.faddr 3 (.tmp 1)), none⟩, ⟨(some 23), (.load false 1 (.tmp 22)), none⟩, ⟨(some 24), (.len (.tmp 23)), none⟩, ⟨(some 25), (.bin .lss 3 (.tmp 21) (.tmp 24)), none⟩]
def r15_35 : List AOper := [⟨(some 28), (.faddr 3 (.tmp 1)), none⟩, ⟨(some 29), (.load false 1 (.tmp 28)), none⟩, ⟨(some 30), (.mv (.tmp 5)), none⟩, ⟨(some 31), (.iaddr 2 none (.tmp 29) (.tmp 30)), none⟩, ⟨(some 32), (.load true 2 (.tmp 31)), none⟩, ⟨(some 6), (.alloc [(.d (.v (.int .i64 0))), (.d (.v (.int .i64 0)))]), none⟩, ⟨none, (.store 2 (.tmp 6) (.tmp 32)), none⟩]
def r15_38 : List AOper := [⟨(some 33), (.faddr 0 (.tmp 6)), none⟩, ⟨(some 34), (.load false 1 (.tmp 33)), none⟩, ⟨(some 35), (.call 19 [(.tmp 34), (.const (.int .i64 1)), (.const (.int .i64 100000))]), none⟩, ⟨(some 36), (.pure (oB (.unOp .not 4 (.tmp 35)) 4)), none⟩, ⟨(some 37), (.mv (.tmp 36)), none⟩, ⟨(some 38), (.faddr 1 (.tmp 6)), (some (37, false))⟩, ⟨(some 39), (.load false 1 (.tmp 38)), (some (37, false))⟩, ⟨(some 40), (.call 19 [(.tmp 39), (.const (.int .i64 0)), (.const (.int .i64 1000000))]), (some (37, false))⟩, ⟨(some 41), (.pure (oB (.unOp .not 4 (.tmp 40)) 4)), (some (37, false))⟩, ⟨(some 42), (.pick (.tmp 37) (.const (.bool true)) (.tmp 41)), none⟩]
def r15_41 : List AOper := [⟨(some 43), (.mv (.tmp 5)), none⟩, ⟨(some 2), (.mv (.tmp 43)), none⟩, ⟨(some 3), (.mv (.const (.int .i64 2))), none⟩]
def r15_43 : List AOper := [⟨(some 44), (.mv (.tmp 5)), none⟩, ⟨(some 45), (.bin .gtr 3 (.tmp 44) (.const (.int .i64 0))), none⟩, ⟨(some 46), (.mv (.tmp 45)), none⟩, ⟨(some 47), (.faddr 0 (.tmp 6)), (some (46, true))⟩, ⟨(some 48), (.load false 1 (.tmp 47)), (some (46, true))⟩, ⟨(some 49), (.faddr 3 (.tmp 1)), (some (46, true))⟩, ⟨(some 50), (.load false 1 (.tmp 49)), (some (46, true))⟩, ⟨(some 51), (.mv (.tmp 5)), (some (46, true))⟩, ⟨(some 52), (.bin .sub 3 (.tmp 51) (.const (.int .i64 1))), (some (46, true))⟩, ⟨(some 53), (.iaddr 2 none (.tmp 50) (.tmp 52)), (some (46, true))⟩, ⟨(some 54), (.faddr 0 (.tmp 53)), (some (46, true))⟩, ⟨(some 55), (.load false 1 (.tmp 54)), (some (46, true))⟩, ⟨(some 56), (.bin .leq 3 (.tmp 48) (.tmp 55)), (some (46, true))⟩, ⟨(some 57), (.pick (.tmp 46) (.tmp 56) (.const (.bool false))), none⟩]
def r15_46 : List AOper := [⟨(some 58), (.mv (.tmp 5)), none⟩, ⟨(some 2), (.mv (.tmp 58)), none⟩, ⟨(some 3), (.mv (.const (.int .i64 10))), none⟩]
def r15_47 : List AOper := [⟨(some 26), (.mv (.tmp 5)), none⟩, ⟨(some 27), (.bin .add 3 (.tmp 26) (.const (.int .i64 1))), none⟩, ⟨(some 5), (.mv (.tmp 27)), none⟩]
def r15_49 : List AOper := [⟨(some 2), (.mv (.const (.int .i64 0))), none⟩, ⟨(some 3), (.mv (.const (.int .i64 0))), none⟩]
def tr15 : List (Nat × Tidy) := [(0, ⟨[1], true, [], []⟩), (1, ⟨[1, 4], true, [], []⟩), (2, ⟨[1, 4, 11], true, [], []⟩), (3, ⟨[2, 3], true, [], []⟩), (4, ⟨[1, 16], true, [], []⟩), (5, ⟨[2, 3], true, [], []⟩), (6, ⟨[1, 20], true, [], []⟩), (7, ⟨[2, 3], true, [], []⟩), (8, ⟨[1, 5], true, [], []⟩), (9, ⟨[1, 5, 25], true, [], []⟩), (11, ⟨[1, 5, 6], true, [], []⟩), (12, ⟨[1, 5, 6, 42], true, [], []⟩), (13, ⟨[2, 3], true, [], []⟩), (14, ⟨[1, 5, 57], true, [], []⟩), (15, ⟨[2, 3], true, [], []⟩), (10, ⟨[1, 5], true, [], []⟩), (16, ⟨[2, 3], true, [], []⟩)]
def tl15 : List (Nat × Tidy) := [(9, ⟨[1, 5], true, [⟨true, 1, 3, 30103, 2⟩], []⟩)]
def rs15 : List AResV := [.tmp 2, .tmp 3]
def p15_0_0 : PT St := pS [sl 1 (aV false [(cPtr 1 0)]), sl 5 (aV false [(cD (dI .i64))])] [eBox 1 [(cD (dI .i64)), (cD (dI .i64)), (cD (dI .i64)), (cD dL)]]
def u15_0_0 {β : Type} (g : St → β) : Int → Int → Int → Int → Rows → β := p15_0_0.unc g

def p15_0_1 : PT St := pS [sl 2 (aV false [(cD (dI .i64))]), sl 3 (aV false [(cD (dI .i64))])] []
def u15_0_1 {β : Type} (g : St → β) : Int → Int → β := p15_0_1.unc g

def p15_0_2 : PT St := pS [sl 1 (aV false [(cPtr 1 0)]), sl 5 (aV false [(cD (dI .i64))]), sl 25 (aV false [(cD dB)])] [eBox 1 [(cD (dI .i64)), (cD (dI .i64)), (cD (dI .i64)), (cD dL)]]
def u15_0_2 {β : Type} (g : St → β) : Int → Bool → Int → Int → Int → Rows → β := p15_0_2.unc g

def pr15_0_0 : PT (List RV) := pRs [pR false [rD (dI .i64)], pR false [rD (dI .i64)]]
def ur15_0_0 {β : Type} (g : List RV → β) : Int → Int → β := pr15_0_0.unc g

def E15_0g (vf27_0 : Tf27_0) (vf19_0 : Tf19_0) : EnvK := EnvK.of [⟨27, nt27, [⟨pa27_0, Fn27_0 vf27_0⟩]⟩, ⟨19, nt19, [⟨pa19_0, Fn19_0 vf19_0⟩]⟩] noSeq
noncomputable def E15_0 : EnvK := E15_0g f27_0 f19_0
theorem eo15_0 : E15_0.Ok Try.prog := EnvK.of_ok noSeq_ok ⟨⟨io27_0, trivial⟩, ⟨io19_0, trivial⟩, trivial⟩

noncomputable def c15_0_27g  : MCode := (.seq (.seq (.region r15_30 [] (some ⟨[1, 5, 25], true, [], []⟩)) (.cond (.tmp 25) .skip (.exit 0))) (.seq (.block 1 (.seq (.region r15_35 [] (some ⟨[1, 5, 6], true, [], []⟩)) (.seq (.seq (.region r15_38 [] (some ⟨[1, 5, 6, 42], true, [], []⟩)) (.cond (.tmp 42) (.seq (.region r15_41 [] (some ⟨[2, 3], true, [], []⟩)) .ret) .skip)) (.seq (.region r15_43 [] (some ⟨[1, 5, 57], true, [], []⟩)) (.cond (.tmp 57) (.seq (.region r15_46 [] (some ⟨[2, 3], true, [], []⟩)) .ret) .skip))))) (.region r15_47 [] (some ⟨[1, 5], true, [], []⟩))))
noncomputable def c15_0_27 : MCode := c15_0_27g 
theorem g15_0_27 : c15_0_27.Good Try.prog E15_0 sh15 := ⟨⟨trivial, ⟨trivial, trivial⟩⟩, ⟨⟨trivial, ⟨⟨trivial, ⟨⟨trivial, trivial⟩, trivial⟩⟩, ⟨trivial, ⟨⟨trivial, trivial⟩, trivial⟩⟩⟩⟩, trivial⟩⟩
--CODE 27 0
def S15_0_0g (vf19_0 : Tf19_0) (α : Type) (x11 : Rows) (x7 : Int) (kn : Int → Option α) (k1 : Int → Int → Option α) (k2 : Int → Bool → Option α) : Option α :=
  cK (decide (x7 < ((List.length x11 : Nat) : Int)))
    (rowK x11 x7 [.int .i64, .int .i64]
      (fun (x12 : Int) (x13 : Int) => vf19_0 α x12 1 100000
        (fun (x14 : Bool) => cK (!x14)
          (k1 x7 2)
          (vf19_0 α x13 0 1000000
            (fun (x15 : Bool) => cK (!x15)
              (k1 x7 2)
              (cK (decide (0 < x7))
                (rowK x11 (w64 (x7 - 1)) [.int .i64, .int .i64]
                  (fun (x16 : Int) (x17 : Int) => cK (decide (x12 ≤ x16))
                    (k1 x7 10)
                    (kn (w64 (x7 + 1)))))
                (kn (w64 (x7 + 1)))))))))
    (k2 x7 (decide (x7 < ((List.length x11 : Nat) : Int))))
noncomputable def S15_0_0 (α : Type) (x11 : Rows) (x7 : Int) (kn : Int → Option α) (k1 : Int → Int → Option α) (k2 : Int → Bool → Option α) : Option α := S15_0_0g f19_0 α x11 x7 kn k1 k2
noncomputable def R15_0_0 (α : Type) (x11 : Rows) (k1 : Int → Int → Option α) (k2 : Int → Bool → Option α) : Nat → Int → Option α
  | 0, _ => none
  | n + 1, x7 => S15_0_0 α x11 x7 (R15_0_0 α x11 k1 k2 n) k1 k2
noncomputable def L15_0_0 (α : Type) (x11 : Rows) (k1 : Int → Int → Option α) (k2 : Int → Bool → Option α) (x7 : Int) : Option α := R15_0_0 α x11 k1 k2 fuel x7
abbrev TL15_0_0 : Type 1 := (α : Type) → Rows → (Int → Int → Option α) → (Int → Bool → Option α) → Int → Option α
def F15_0_0 (v : TL15_0_0) (α : Type) (K : Exit → St → Option α) : Int → Int → Int → Int → Rows → Option α := fun x7 x8 x9 x10 x11 => v α x11 (fun (y1 : Int) (y2 : Int) => u15_0_1 (K .ret) y1 y2) (fun (y1 : Int) (y2 : Bool) => u15_0_2 (K (.exit 0)) y1 y2 x8 x9 x10 x11) x7
theorem r15_0_0g (vf27_0 : Tf27_0) (vf19_0 : Tf19_0)  (α : Type) (K : Exit → St → Option α) (Kn : St → Option α) (x7 : Int) (x8 : Int) (x9 : Int) (x10 : Int) (x11 : Rows) : u15_0_0 (fun σ => runM Try.prog (E15_0g vf27_0 vf19_0) sh15 (c15_0_27g ) (thenK (fun σ => tidyK td15_27 σ Kn) K) σ) x7 x8 x9 x10 x11 = S15_0_0g vf19_0 α x11 x7 (fun x7 => u15_0_0 Kn x7 x8 x9 x10 x11) (fun (y1 : Int) (y2 : Int) => u15_0_1 (K .ret) y1 y2) (fun (y1 : Int) (y2 : Bool) => u15_0_2 (K (.exit 0)) y1 y2 x8 x9 x10 x11) := by kernel_rfl
theorem r15_0_0 (α : Type) (K : Exit → St → Option α) (Kn : St → Option α) (x7 : Int) (x8 : Int) (x9 : Int) (x10 : Int) (x11 : Rows) : u15_0_0 (fun σ => runM Try.prog E15_0 sh15 c15_0_27 (thenK (fun σ => tidyK td15_27 σ Kn) K) σ) x7 x8 x9 x10 x11 = S15_0_0 α x11 x7 (fun x7 => u15_0_0 Kn x7 x8 x9 x10 x11) (fun (y1 : Int) (y2 : Int) => u15_0_1 (K .ret) y1 y2) (fun (y1 : Int) (y2 : Bool) => u15_0_2 (K (.exit 0)) y1 y2 x8 x9 x10 x11) := r15_0_0g f27_0 f19_0 α K Kn x7 x8 x9 x10 x11
theorem t15_0_0 (α : Type) (K : Exit → St → Option α) : ∀ (n : Nat) (x7 : Int) (x8 : Int) (x9 : Int) (x10 : Int) (x11 : Rows), R15_0_0 α x11 (fun (y1 : Int) (y2 : Int) => u15_0_1 (K .ret) y1 y2) (fun (y1 : Int) (y2 : Bool) => u15_0_2 (K (.exit 0)) y1 y2 x8 x9 x10 x11) n x7 = u15_0_0 (loopT (runM Try.prog E15_0 sh15 c15_0_27) td15_27 K n) x7 x8 x9 x10 x11 := by
  intro n
  induction n with
  | zero => intros; rfl
  | succ n ih => intro x7 x8 x9 x10 x11; exact (congrArg (fun kn => S15_0_0 α x11 x7 kn (fun (y1 : Int) (y2 : Int) => u15_0_1 (K .ret) y1 y2) (fun (y1 : Int) (y2 : Bool) => u15_0_2 (K (.exit 0)) y1 y2 x8 x9 x10 x11)) (funext fun x7 => ih x7 x8 x9 x10 x11)).trans (r15_0_0 α K (loopT (runM Try.prog E15_0 sh15 c15_0_27) td15_27 K n) x7 x8 x9 x10 x11).symm
theorem m15_0_0 : ∀ (α : Type) (K : Exit → St → Option α), F15_0_0 L15_0_0 α K = p15_0_0.unc fun σ => loopT (runM Try.prog E15_0 sh15 c15_0_27) td15_27 K fuel σ := fun α K => funext fun x7 => funext fun x8 => funext fun x9 => funext fun x10 => funext fun x11 => t15_0_0 α K fuel x7 x8 x9 x10 x11

/-- etalon/etalonref08.CheckTrack -/
abbrev Tf15_0 : Type 1 := (α : Type) → Int → Int → Int → Rows → (Int → Int → Option α) → Option α
def f15_0g (vL15_0_0 : TL15_0_0) (vf19_0 : Tf19_0) (vf27_0 : Tf27_0) (α : Type) (x1 : Int) (x2 : Int) (x3 : Int) (x4 : Rows) (k1 : Int → Int → Option α) : Option α :=
  vf27_0 α x1 x2
    (fun (x5 : Int) => cK (x5 != 0)
      (k1 0 x5)
      (vf19_0 α x3 0 1000000
        (fun (x6 : Bool) => cK (!x6)
          (k1 0 2)
          (cK (decide (40 < ((List.length x4 : Nat) : Int)))
            (k1 0 8)
            (vL15_0_0 α x4
              (fun (x18 : Int) (x19 : Int) => k1 x18 x19)
              (fun (x20 : Int) (x21 : Bool) => k1 0 0) 0)))))
noncomputable def f15_0 (α : Type) (x1 : Int) (x2 : Int) (x3 : Int) (x4 : Rows) (k1 : Int → Int → Option α) : Option α := f15_0g L15_0_0 f19_0 f27_0 α x1 x2 x3 x4 k1
def pa15_0 : PT (List DV) := pA [pV true [(dI .i64), (dI .i64), (dI .i64), dL]]
def Fn15_0 (v : Tf15_0) (α : Type) (k : List RV → Option α) : Int → Int → Int → Rows → Option α := fun x1 x2 x3 x4 => v α x1 x2 x3 x4 (fun (y1 : Int) (y2 : Int) => ur15_0_0 k y1 y2)
noncomputable def cm15_0g (vL15_0_0 : TL15_0_0) : MCode := (.seq (.region r15_2 [] (some ⟨[1], true, [], []⟩)) (.seq (.seq (.region r15_5 [] (some ⟨[1, 4], true, [], []⟩)) (.seq (.region r15_7 [] (some ⟨[1, 4, 11], true, [], []⟩)) (.cond (.tmp 11) (.seq (.region r15_10 [] (some ⟨[2, 3], true, [], []⟩)) .ret) .skip))) (.seq (.seq (.region r15_13 [] (some ⟨[1, 16], true, [], []⟩)) (.cond (.tmp 16) (.seq (.region r15_16 [] (some ⟨[2, 3], true, [], []⟩)) .ret) .skip)) (.seq (.seq (.region r15_19 [] (some ⟨[1, 20], true, [], []⟩)) (.cond (.tmp 20) (.seq (.region r15_22 [] (some ⟨[2, 3], true, [], []⟩)) .ret) .skip)) (.seq (.seq (.region r15_25 [] (some ⟨[1, 5], true, [], []⟩)) (.block 0 (.loop td15_27 [⟨p15_0_0, F15_0_0 vL15_0_0⟩] c15_0_27))) (.seq (.region r15_49 [] (some ⟨[2, 3], true, [], []⟩)) .ret))))))
noncomputable def cm15_0 : MCode := cm15_0g L15_0_0
theorem gm15_0 : cm15_0.Good Try.prog E15_0 sh15 := ⟨trivial, ⟨⟨trivial, ⟨trivial, ⟨⟨trivial, trivial⟩, trivial⟩⟩⟩, ⟨⟨trivial, ⟨⟨trivial, trivial⟩, trivial⟩⟩, ⟨⟨trivial, ⟨⟨trivial, trivial⟩, trivial⟩⟩, ⟨⟨trivial, ⟨g15_0_27, m15_0_0, trivial⟩⟩, ⟨trivial, trivial⟩⟩⟩⟩⟩⟩
theorem fm15_0g (vf27_0 : Tf27_0) (vf19_0 : Tf19_0) (vL15_0_0 : TL15_0_0) (α : Type) (k : List RV → Option α) : Fn15_0 (f15_0g vL15_0_0 vf19_0 vf27_0) α k = pa15_0.unc fun ds => fnM Try.prog (E15_0g vf27_0 vf19_0) sh15 (cm15_0g vL15_0_0) rs15 k ds := by kernel_rfl
theorem fm15_0 : ∀ (α : Type) (k : List RV → Option α), Fn15_0 f15_0 α k = pa15_0.unc fun ds => fnM Try.prog E15_0 sh15 cm15_0 rs15 k ds := fm15_0g f27_0 f19_0 L15_0_0

theorem is15 : FnIs Try.prog 15 nt15 tr15 tl15 cm15_0.erase rs15 := ⟨Try.f15, Try.func15, rfl, by kernel_rfl, by kernel_rfl, by kernel_rfl⟩
theorem io15_0 : InstOk Try.prog 15 nt15 ⟨pa15_0, Fn15_0 f15_0⟩ := inst_ok eo15_0 followsTry is15 ⟨⟨sh15, cm15_0, by kernel_rfl, gm15_0, fm15_0⟩⟩

/-! ### F32 etalon/grow.CheckTrack -/
abbrev nt32 : Nat := 60
def sh32 : List (Nat × List Sh) := [(8, [.int .i64, .int .i64]), (15, [.int .i64]), (20, [.sl]), (24, [.sl]), (29, [.int .i64, .int .i64]), (30, [.int .i64, .int .i64]), (33, [.int .i64]), (38, [.int .i64]), (48, [.int .i64]), (50, [.sl]), (53, [.int .i64, .int .i64]), (55, [.int .i64])]
def r32_2 : List AOper := [⟨(some 1), (.box (.tmp 0)), none⟩, ⟨(some 2), (.mv (.const (.int .i64 0))), none⟩, ⟨(some 3), (.mv (.const (.int .i64 0))), none⟩]
def r32_5 : List AOper := [⟨(some 7), (.faddr 0 (.tmp 1)), none⟩, ⟨(some 8), (.load true 2 (.tmp 7)), none⟩, ⟨(some 9), (.call 89 [(.tmp 8)]), none⟩, ⟨(some 4), (.mv (.tmp 9)), none⟩]
def r32_7 : List AOper := [⟨(some 10), (.mv (.tmp 4)), none⟩, ⟨(some 11), (.bin .neq 32 (.tmp 10) (.const (.int .i64 0))), none⟩]
def r32_10 : List AOper := [⟨(some 12), (.mv (.tmp 4)), none⟩, ⟨(some 2), (.mv (.const (.int .i64 0))), none⟩, ⟨(some 3), (.mv (.tmp 12)), none⟩]
def r32_14 : List AOper := [⟨(some 14), (.faddr 2 (.tmp 1)), none⟩, ⟨(some 15), (.load false 1 (.tmp 14)), none⟩, ⟨(some 16), (.call 78 [(.tmp 15), (.const (.int .i64 0)), (.const (.int .i64 1000000))]), none⟩, ⟨(some 17), (.pure (oB (.unOp .not 4 (.tmp 16)) 4)), none⟩, ⟨(some 13), (.mv (.tmp 17)), none⟩]
def r32_17 : List AOper := [⟨(some 2), (.mv (.const (.int .i64 0))), none⟩, ⟨(some 3), (.mv (.const (.int .i64 2))), none⟩]
def r32_19 : List AOper := [⟨(some 19), (.faddr 3 (.tmp 1)), none⟩, ⟨(some 20), (.load false 1 (.tmp 19)), none⟩, ⟨(some 21), (.len (.tmp 20)), none⟩, ⟨(some 22), (.bin .gtr 3 (.tmp 21) (.const (.int .i64 40))), none⟩, ⟨(some 18), (.mv (.tmp 22)), none⟩]
def r32_22 : List AOper := [⟨(some 2), (.mv (.const (.int .i64 0))), none⟩, ⟨(some 3), (.mv (.const (.int .i64 8))), none⟩]
def r32_25 : List AOper := [⟨(some 23), (.faddr 3 (.tmp 1)), none⟩, ⟨(some 24), (.load false 1 (.tmp 23)), none⟩, ⟨(some 25), (.len (.tmp 24)), none⟩, ⟨(some 26), (.mv (.const (.int .i64 0))), none⟩]
def td32_27 : Option Tidy := (some ⟨[1, 24, 25, 26], true, [⟨false, 24, 0, 20024, 2⟩, ⟨true, 1, 3, 30103, 2⟩], []⟩)
def r32_29 : List AOper := [⟨(some 27), (.bin .lss 3 (.tmp 26) (.tmp 25)), none⟩]
def r32_35 : List AOper := [⟨(some 28), (.mv (.tmp 26)), none⟩, ⟨(some 29), (.iaddr 2 none (.tmp 24) (.tmp 26)), none⟩, ⟨(some 30), (.load true 2 (.tmp 29)), none⟩, ⟨(some 6), (.alloc [(.d (.v (.int .i64 0))), (.d (.v (.int .i64 0)))]), none⟩, ⟨(some 5), (.mv (.tmp 28)), none⟩, ⟨none, (.store 2 (.tmp 6) (.tmp 30)), none⟩]
def r32_38 : List AOper := [⟨(some 32), (.faddr 0 (.tmp 6)), none⟩, ⟨(some 33), (.load false 1 (.tmp 32)), none⟩, ⟨(some 34), (.call 78 [(.tmp 33), (.const (.int .i64 1)), (.const (.int .i64 100000))]), none⟩, ⟨(some 35), (.pure (oB (.unOp .not 4 (.tmp 34)) 4)), none⟩, ⟨(some 36), (.mv (.tmp 35)), none⟩, ⟨(some 37), (.faddr 1 (.tmp 6)), (some (36, false))⟩, ⟨(some 38), (.load false 1 (.tmp 37)), (some (36, false))⟩, ⟨(some 39), (.call 78 [(.tmp 38), (.const (.int .i64 0)), (.const (.int .i64 1000000))]), (some (36, false))⟩, ⟨(some 40), (.pure (oB (.unOp .not 4 (.tmp 39)) 4)), (some (36, false))⟩, ⟨(some 41), (.pick (.tmp 36) (.const (.bool true)) (.tmp 40)), none⟩, ⟨(some 31), (.mv (.tmp 41)), none⟩]
def r32_41 : List AOper := [⟨(some 42), (.mv (.tmp 5)), none⟩, ⟨(some 2), (.mv (.tmp 42)), none⟩, ⟨(some 3), (.mv (.const (.int .i64 2))), none⟩]
def r32_43 : List AOper := [⟨(some 44), (.mv (.tmp 5)), none⟩, ⟨(some 45), (.bin .gtr 3 (.tmp 44) (.const (.int .i64 0))), none⟩, ⟨(some 46), (.mv (.tmp 45)), none⟩, ⟨(some 47), (.faddr 0 (.tmp 6)), (some (46, true))⟩, ⟨(some 48), (.load false 1 (.tmp 47)), (some (46, true))⟩, ⟨(some 49), (.faddr 3 (.tmp 1)), (some (46, true))⟩, ⟨(some 50), (.load false 1 (.tmp 49)), (some (46, true))⟩, ⟨(some 51), (.mv (.tmp 5)), (some (46, true))⟩, ⟨(some 52), (.bin .sub 3 (.tmp 51) (.const (.int .i64 1))), (some (46, true))⟩, ⟨(some 53), (.iaddr 2 none (.tmp 50) (.tmp 52)), (some (46, true))⟩, ⟨(some 54), (.faddr 0 (.tmp 53)), (some (46, true))⟩, ⟨(some 55), (.load false 1 (.tmp 54)), (some (46, true))⟩, ⟨(some 56), (.bin .leq 3 (.tmp 48) (.tmp 55)), (some (46, true))⟩, ⟨(some 57), (.pick (.tmp 46) (.tmp 56) (.const (.bool false))), none⟩, ⟨(some 43), (.mv (.tmp 57)), none⟩]
def r32_46 : List AOper := [⟨(some 58), (.mv (.tmp 5)), none⟩, ⟨(some 2), (.mv (.tmp 58)), none⟩, ⟨(some 3), (.mv (.const (.int .i64 10))), none⟩]
def r32_47 : List AOper := [⟨(some 59), (.bin .add 3 (.tmp 26) (.const (.int .i64 1))), none⟩, ⟨(some 26), (.mv (.tmp 59)), none⟩]
def r32_49 : List AOper := [⟨(some 2), (.mv (.const (.int .i64 0))), none⟩, ⟨(some 3), (.mv (.const (.int .i64 0))), none⟩]
def tr32 : List (Nat × Tidy) := [(0, ⟨[1], true, [], []⟩), (1, ⟨[1, 4], true, [], []⟩), (2, ⟨[1, 4, 11], true, [], []⟩), (3, ⟨[2, 3], true, [], []⟩), (4, ⟨[1, 13], true, [], []⟩), (5, ⟨[2, 3], true, [], []⟩), (6, ⟨[1, 18], true, [], []⟩), (7, ⟨[2, 3], true, [], []⟩), (8, ⟨[1, 24, 25, 26], true, [], []⟩), (9, ⟨[1, 24, 25, 26, 27], true, [], []⟩), (10, ⟨[1, 5, 6, 24, 25, 26], true, [], []⟩), (11, ⟨[1, 5, 6, 24, 25, 26, 31], true, [], []⟩), (12, ⟨[2, 3], true, [], []⟩), (13, ⟨[1, 5, 24, 25, 26, 43], true, [], []⟩), (14, ⟨[2, 3], true, [], []⟩), (15, ⟨[1, 24, 25, 26], true, [], []⟩), (16, ⟨[2, 3], true, [], []⟩)]
def tl32 : List (Nat × Tidy) := [(9, ⟨[1, 24, 25, 26], true, [⟨false, 24, 0, 20024, 2⟩, ⟨true, 1, 3, 30103, 2⟩], []⟩)]
def rs32 : List AResV := [.tmp 2, .tmp 3]
def p32_0_0 : PT St := pS [sl 1 (aV false [(cPtr 1 0)]), sl 5 (aV false [(cD (dI .i64))]), sl 6 (aV false [(cPtr 6 0)]), sl 24 (aV false [(cD dL)]), sl 25 (aV false [(cD (dI .i64))]), sl 26 (aV false [(cD (dI .i64))])] [eBox 1 [(cD (dI .i64)), (cD (dI .i64)), (cD (dI .i64)), (cD dL)], eBox 6 [(cD (dI .i64)), (cD (dI .i64))]]
def u32_0_0 {β : Type} (g : St → β) : Int → Rows → Int → Int → Int → Int → Int → Rows → Int → Int → β := p32_0_0.unc g

def p32_0_1 : PT St := pS [sl 1 (aV false [(cPtr 1 0)]), sl 5 (aV false [(cD (dI .i64))]), sl 6 (aV false [(cPtr 6 0)]), sl 24 (aV false [(cD dL)]), sl 25 (aV false [(cD (dI .i64))]), sl 26 (aV false [(cD (dI .i64))]), sl 31 (aV false [(cD dB)])] [eBox 1 [(cD (dI .i64)), (cD (dI .i64)), (cD (dI .i64)), (cD dL)], eBox 6 [(cD (dI .i64)), (cD (dI .i64))]]
def u32_0_1 {β : Type} (g : St → β) : Int → Rows → Int → Int → Bool → Int → Int → Int → Rows → Int → Int → β := p32_0_1.unc g

def p32_0_2 : PT St := pS [sl 1 (aV false [(cPtr 1 0)]), sl 24 (aV false [(cD dL)]), sl 25 (aV false [(cD (dI .i64))]), sl 26 (aV false [(cD (dI .i64))])] [eBox 1 [(cD (dI .i64)), (cD (dI .i64)), (cD (dI .i64)), (cD dL)]]
def u32_0_2 {β : Type} (g : St → β) : Rows → Int → Int → Int → Int → Int → Rows → β := p32_0_2.unc g

def p32_0_3 : PT St := pS [sl 2 (aV false [(cD (dI .i64))]), sl 3 (aV false [(cD (dI .i64))])] []
def u32_0_3 {β : Type} (g : St → β) : Int → Int → β := p32_0_3.unc g

def p32_0_4 : PT St := pS [sl 1 (aV false [(cPtr 1 0)]), sl 24 (aV false [(cD dL)]), sl 25 (aV false [(cD (dI .i64))]), sl 26 (aV false [(cD (dI .i64))]), sl 27 (aV false [(cD dB)])] [eBox 1 [(cD (dI .i64)), (cD (dI .i64)), (cD (dI .i64)), (cD dL)]]
def u32_0_4 {β : Type} (g : St → β) : Rows → Int → Int → Bool → Int → Int → Int → Rows → β := p32_0_4.unc g

def pr32_0_0 : PT (List RV) := pRs [pR false [rD (dI .i64)], pR false [rD (dI .i64)]]
def ur32_0_0 {β : Type} (g : List RV → β) : Int → Int → β := pr32_0_0.unc g

def E32_0g (vf89_0 : Tf89_0) (vf78_0 : Tf78_0) : EnvK := EnvK.of [⟨89, nt89, [⟨pa89_0, Fn89_0 vf89_0⟩]⟩, ⟨78, nt78, [⟨pa78_0, Fn78_0 vf78_0⟩]⟩] noSeq
noncomputable def E32_0 : EnvK := E32_0g f89_0 f78_0
theorem eo32_0 : E32_0.Ok Try.prog := EnvK.of_ok noSeq_ok ⟨⟨io89_0, trivial⟩, ⟨io78_0, trivial⟩, trivial⟩

noncomputable def c32_0_37g  : MCode := (.region r32_38 [] (some ⟨[1, 5, 6, 24, 25, 26, 31], true, [], []⟩))
noncomputable def c32_0_37 : MCode := c32_0_37g 
theorem g32_0_37 : c32_0_37.Good Try.prog E32_0 sh32 := trivial
--CODE 37 0
abbrev TJ32_0_0 : Type 1 := (α : Type) → Int → Int → (Bool → Option α) → Option α
def J32_0_0g (vf78_0 : Tf78_0) (α : Type) (x24 : Int) (x25 : Int) (k1 : Bool → Option α) : Option α :=
  vf78_0 α x24 1 100000
    (fun (x26 : Bool) => cK (!x26)
      (k1 true)
      (vf78_0 α x25 0 1000000
        (fun (x27 : Bool) => k1 (!x27))))
noncomputable def J32_0_0 (α : Type) (x24 : Int) (x25 : Int) (k1 : Bool → Option α) : Option α := J32_0_0g f78_0 α x24 x25 k1
def F32_0_0 (v : TJ32_0_0) (α : Type) (K : Exit → St → Option α) : Int → Rows → Int → Int → Int → Int → Int → Rows → Int → Int → Option α := fun x16 x17 x18 x19 x20 x21 x22 x23 x24 x25 => v α x24 x25 (fun (y1 : Bool) => u32_0_1 (K .normal) x16 x17 x18 x19 y1 x20 x21 x22 x23 x24 x25) 
theorem m32_0_0g (vf89_0 : Tf89_0) (vf78_0 : Tf78_0)  (α : Type) (K : Exit → St → Option α) : F32_0_0 (J32_0_0g vf78_0) α K = p32_0_0.unc fun σ => runM Try.prog (E32_0g vf89_0 vf78_0) sh32 (c32_0_37g ) K σ := by kernel_rfl
theorem m32_0_0 : ∀ (α : Type) (K : Exit → St → Option α), F32_0_0 J32_0_0 α K = p32_0_0.unc fun σ => runM Try.prog E32_0 sh32 c32_0_37 K σ := m32_0_0g f89_0 f78_0

noncomputable def c32_0_27g (vJ32_0_0 : TJ32_0_0) : MCode := (.seq (.region r32_29 [] (some ⟨[1, 24, 25, 26, 27], true, [], []⟩)) (.seq (.cond (.tmp 27) .skip (.exit 1)) (.seq (.block 2 (.seq (.region r32_35 [] (some ⟨[1, 5, 6, 24, 25, 26], true, [], []⟩)) (.block 3 (.seq (.mark [⟨p32_0_0, F32_0_0 vJ32_0_0⟩] c32_0_37) (.cond (.tmp 31) (.seq (.region r32_41 [] (some ⟨[2, 3], true, [], []⟩)) .ret) (.seq (.region r32_43 [] (some ⟨[1, 5, 24, 25, 26, 43], true, [], []⟩)) (.cond (.tmp 43) (.seq (.region r32_46 [] (some ⟨[2, 3], true, [], []⟩)) .ret) .skip))))))) (.region r32_47 [] (some ⟨[1, 24, 25, 26], true, [], []⟩)))))
noncomputable def c32_0_27 : MCode := c32_0_27g J32_0_0
theorem g32_0_27 : c32_0_27.Good Try.prog E32_0 sh32 := ⟨trivial, ⟨⟨trivial, trivial⟩, ⟨⟨trivial, ⟨⟨g32_0_37, m32_0_0, trivial⟩, ⟨⟨trivial, trivial⟩, ⟨trivial, ⟨⟨trivial, trivial⟩, trivial⟩⟩⟩⟩⟩, trivial⟩⟩⟩
--CODE 27 0
def S32_0_1g (vJ32_0_0 : TJ32_0_0) (α : Type) (x7 : Rows) (x8 : Int) (x13 : Rows) (x9 : Int) (kn : Int → Option α) (k1 : Int → Int → Option α) (k2 : Int → Bool → Option α) : Option α :=
  cK (decide (x9 < x8))
    (rowK x7 x9 [.int .i64, .int .i64]
      (fun (x14 : Int) (x15 : Int) => vJ32_0_0 α x14 x15
        (fun (x28 : Bool) => cK x28
          (k1 x9 2)
          (cK (decide (0 < x9))
            (rowK x13 (w64 (x9 - 1)) [.int .i64, .int .i64]
              (fun (x29 : Int) (x30 : Int) => cK (decide (x14 ≤ x29))
                (k1 x9 10)
                (kn (w64 (x9 + 1)))))
            (kn (w64 (x9 + 1)))))))
    (k2 x9 (decide (x9 < x8)))
noncomputable def S32_0_1 (α : Type) (x7 : Rows) (x8 : Int) (x13 : Rows) (x9 : Int) (kn : Int → Option α) (k1 : Int → Int → Option α) (k2 : Int → Bool → Option α) : Option α := S32_0_1g J32_0_0 α x7 x8 x13 x9 kn k1 k2
noncomputable def R32_0_1 (α : Type) (x7 : Rows) (x8 : Int) (x13 : Rows) (k1 : Int → Int → Option α) (k2 : Int → Bool → Option α) : Nat → Int → Option α
  | 0, _ => none
  | n + 1, x9 => S32_0_1 α x7 x8 x13 x9 (R32_0_1 α x7 x8 x13 k1 k2 n) k1 k2
noncomputable def L32_0_1 (α : Type) (x7 : Rows) (x8 : Int) (x13 : Rows) (k1 : Int → Int → Option α) (k2 : Int → Bool → Option α) (x9 : Int) : Option α := R32_0_1 α x7 x8 x13 k1 k2 fuel x9
abbrev TL32_0_1 : Type 1 := (α : Type) → Rows → Int → Rows → (Int → Int → Option α) → (Int → Bool → Option α) → Int → Option α
def F32_0_1 (v : TL32_0_1) (α : Type) (K : Exit → St → Option α) : Rows → Int → Int → Int → Int → Int → Rows → Option α := fun x7 x8 x9 x10 x11 x12 x13 => v α x7 x8 x13 (fun (y1 : Int) (y2 : Int) => u32_0_3 (K .ret) y1 y2) (fun (y1 : Int) (y2 : Bool) => u32_0_4 (K (.exit 1)) x7 x8 y1 y2 x10 x11 x12 x13) x9
theorem r32_0_1g (vf89_0 : Tf89_0) (vf78_0 : Tf78_0) (vJ32_0_0 : TJ32_0_0) (α : Type) (K : Exit → St → Option α) (Kn : St → Option α) (x7 : Rows) (x8 : Int) (x9 : Int) (x10 : Int) (x11 : Int) (x12 : Int) (x13 : Rows) : u32_0_2 (fun σ => runM Try.prog (E32_0g vf89_0 vf78_0) sh32 (c32_0_27g vJ32_0_0) (thenK (fun σ => tidyK td32_27 σ Kn) K) σ) x7 x8 x9 x10 x11 x12 x13 = S32_0_1g vJ32_0_0 α x7 x8 x13 x9 (fun x9 => u32_0_2 Kn x7 x8 x9 x10 x11 x12 x13) (fun (y1 : Int) (y2 : Int) => u32_0_3 (K .ret) y1 y2) (fun (y1 : Int) (y2 : Bool) => u32_0_4 (K (.exit 1)) x7 x8 y1 y2 x10 x11 x12 x13) := by kernel_rfl
theorem r32_0_1 (α : Type) (K : Exit → St → Option α) (Kn : St → Option α) (x7 : Rows) (x8 : Int) (x9 : Int) (x10 : Int) (x11 : Int) (x12 : Int) (x13 : Rows) : u32_0_2 (fun σ => runM Try.prog E32_0 sh32 c32_0_27 (thenK (fun σ => tidyK td32_27 σ Kn) K) σ) x7 x8 x9 x10 x11 x12 x13 = S32_0_1 α x7 x8 x13 x9 (fun x9 => u32_0_2 Kn x7 x8 x9 x10 x11 x12 x13) (fun (y1 : Int) (y2 : Int) => u32_0_3 (K .ret) y1 y2) (fun (y1 : Int) (y2 : Bool) => u32_0_4 (K (.exit 1)) x7 x8 y1 y2 x10 x11 x12 x13) := r32_0_1g f89_0 f78_0 J32_0_0 α K Kn x7 x8 x9 x10 x11 x12 x13
theorem t32_0_1 (α : Type) (K : Exit → St → Option α) : ∀ (n : Nat) (x7 : Rows) (x8 : Int) (x9 : Int) (x10 : Int) (x11 : Int) (x12 : Int) (x13 : Rows), R32_0_1 α x7 x8 x13 (fun (y1 : Int) (y2 : Int) => u32_0_3 (K .ret) y1 y2) (fun (y1 : Int) (y2 : Bool) => u32_0_4 (K (.exit 1)) x7 x8 y1 y2 x10 x11 x12 x13) n x9 = u32_0_2 (loopT (runM Try.prog E32_0 sh32 c32_0_27) td32_27 K n) x7 x8 x9 x10 x11 x12 x13 := by
  intro n
  induction n with
  | zero => intros; rfl
  | succ n ih => intro x7 x8 x9 x10 x11 x12 x13; exact (congrArg (fun kn => S32_0_1 α x7 x8 x13 x9 kn (fun (y1 : Int) (y2 : Int) => u32_0_3 (K .ret) y1 y2) (fun (y1 : Int) (y2 : Bool) => u32_0_4 (K (.exit 1)) x7 x8 y1 y2 x10 x11 x12 x13)) (funext fun x9 => ih x7 x8 x9 x10 x11 x12 x13)).trans (r32_0_1 α K (loopT (runM Try.prog E32_0 sh32 c32_0_27) td32_27 K n) x7 x8 x9 x10 x11 x12 x13).symm
theorem m32_0_1 : ∀ (α : Type) (K : Exit → St → Option α), F32_0_1 L32_0_1 α K = p32_0_2.unc fun σ => loopT (runM Try.prog E32_0 sh32 c32_0_27) td32_27 K fuel σ := fun α K => funext fun x7 => funext fun x8 => funext fun x9 => funext fun x10 => funext fun x11 => funext fun x12 => funext fun x13 => t32_0_1 α K fuel x7 x8 x9 x10 x11 x12 x13

/-- etalon/grow.CheckTrack -/
abbrev Tf32_0 : Type 1 := (α : Type) → Int → Int → Int → Rows → (Int → Int → Option α) → Option α
def f32_0g (vL32_0_1 : TL32_0_1) (vf78_0 : Tf78_0) (vf89_0 : Tf89_0) (α : Type) (x1 : Int) (x2 : Int) (x3 : Int) (x4 : Rows) (k1 : Int → Int → Option α) : Option α :=
  vf89_0 α x1 x2
    (fun (x5 : Int) => cK (x5 != 0)
      (k1 0 x5)
      (vf78_0 α x3 0 1000000
        (fun (x6 : Bool) => cK (!x6)
          (k1 0 2)
          (cK (decide (40 < ((List.length x4 : Nat) : Int)))
            (k1 0 8)
            (vL32_0_1 α x4 ((List.length x4 : Nat) : Int) x4
              (fun (x31 : Int) (x32 : Int) => k1 x31 x32)
              (fun (x33 : Int) (x34 : Bool) => k1 0 0) 0)))))
noncomputable def f32_0 (α : Type) (x1 : Int) (x2 : Int) (x3 : Int) (x4 : Rows) (k1 : Int → Int → Option α) : Option α := f32_0g L32_0_1 f78_0 f89_0 α x1 x2 x3 x4 k1
def pa32_0 : PT (List DV) := pA [pV true [(dI .i64), (dI .i64), (dI .i64), dL]]
def Fn32_0 (v : Tf32_0) (α : Type) (k : List RV → Option α) : Int → Int → Int → Rows → Option α := fun x1 x2 x3 x4 => v α x1 x2 x3 x4 (fun (y1 : Int) (y2 : Int) => ur32_0_0 k y1 y2)
noncomputable def cm32_0g (vL32_0_1 : TL32_0_1) : MCode := (.seq (.region r32_2 [] (some ⟨[1], true, [], []⟩)) (.seq (.seq (.region r32_5 [] (some ⟨[1, 4], true, [], []⟩)) (.seq (.region r32_7 [] (some ⟨[1, 4, 11], true, [], []⟩)) (.cond (.tmp 11) (.seq (.region r32_10 [] (some ⟨[2, 3], true, [], []⟩)) .ret) .skip))) (.seq (.block 0 (.seq (.region r32_14 [] (some ⟨[1, 13], true, [], []⟩)) (.cond (.tmp 13) (.seq (.region r32_17 [] (some ⟨[2, 3], true, [], []⟩)) .ret) (.seq (.region r32_19 [] (some ⟨[1, 18], true, [], []⟩)) (.cond (.tmp 18) (.seq (.region r32_22 [] (some ⟨[2, 3], true, [], []⟩)) .ret) .skip))))) (.seq (.seq (.region r32_25 [] (some ⟨[1, 24, 25, 26], true, [], []⟩)) (.block 1 (.loop td32_27 [⟨p32_0_2, F32_0_1 vL32_0_1⟩] c32_0_27))) (.seq (.region r32_49 [] (some ⟨[2, 3], true, [], []⟩)) .ret)))))
noncomputable def cm32_0 : MCode := cm32_0g L32_0_1
theorem gm32_0 : cm32_0.Good Try.prog E32_0 sh32 := ⟨trivial, ⟨⟨trivial, ⟨trivial, ⟨⟨trivial, trivial⟩, trivial⟩⟩⟩, ⟨⟨trivial, ⟨⟨trivial, trivial⟩, ⟨trivial, ⟨⟨trivial, trivial⟩, trivial⟩⟩⟩⟩, ⟨⟨trivial, ⟨g32_0_27, m32_0_1, trivial⟩⟩, ⟨trivial, trivial⟩⟩⟩⟩⟩
theorem fm32_0g (vf89_0 : Tf89_0) (vf78_0 : Tf78_0) (vL32_0_1 : TL32_0_1) (α : Type) (k : List RV → Option α) : Fn32_0 (f32_0g vL32_0_1 vf78_0 vf89_0) α k = pa32_0.unc fun ds => fnM Try.prog (E32_0g vf89_0 vf78_0) sh32 (cm32_0g vL32_0_1) rs32 k ds := by kernel_rfl
theorem fm32_0 : ∀ (α : Type) (k : List RV → Option α), Fn32_0 f32_0 α k = pa32_0.unc fun ds => fnM Try.prog E32_0 sh32 cm32_0 rs32 k ds := fm32_0g f89_0 f78_0 L32_0_1

theorem is32 : FnIs Try.prog 32 nt32 tr32 tl32 cm32_0.erase rs32 := ⟨Try.f32, Try.func32, rfl, by kernel_rfl, by kernel_rfl, by kernel_rfl⟩
theorem io32_0 : InstOk Try.prog 32 nt32 ⟨pa32_0, Fn32_0 f32_0⟩ := inst_ok eo32_0 followsTry is32 ⟨⟨sh32, cm32_0, by kernel_rfl, gm32_0, fm32_0⟩⟩

/-! ### F33 etalon/grow.Contradiction -/
abbrev nt33 : Nat := 59
def sh33 : List (Nat × List Sh) := [(11, [.int .i64, .int .i64, .int .i64, .sl]), (19, [.int .i64, .int .i64, .int .i64, .sl]), (26, [.int .i64, .int .i64, .int .i64]), (27, [.int .i64, .int .i64, .int .i64]), (36, [.int .i64, .int .i64, .int .i64]), (38, [.int .i64, .int .i64]), (41, [.int .i64, .int .i64, .int .i64]), (43, [.int .i64]), (47, [.int .i64, .int .i64, .int .i64]), (49, [.int .i64, .int .i64])]
def r33_2 : List AOper := [⟨(some 1), (.box (.tmp 0)), none⟩, ⟨(some 2), (.alloc [(.d (.v (.int .i64 0))), (.d (.v (.int .i64 0)))]), none⟩, ⟨(some 3), (.mv (.const (.int .i64 0))), none⟩]
def r33_5 : List AOper := [⟨(some 11), (.load true 4 (.tmp 1)), none⟩, ⟨(some 12), (.call 32 [(.tmp 11)]), none⟩, ⟨(some 10), (.mv (.tmp 12)), none⟩, ⟨(some 13), (.extract 0 (.tmp 10)), none⟩, ⟨(some 14), (.extract 1 (.tmp 10)), none⟩, ⟨(some 4), (.mv (.tmp 13)), none⟩, ⟨(some 5), (.mv (.tmp 14)), none⟩]
def r33_7 : List AOper := [⟨(some 15), (.mv (.tmp 5)), none⟩, ⟨(some 16), (.bin .neq 32 (.tmp 15) (.const (.int .i64 0))), none⟩]
def r33_10 : List AOper := [⟨(some 17), (.build [(.d (.v (.int .i64 0))), (.d (.v (.int .i64 0)))] []), none⟩, ⟨(some 18), (.mv (.tmp 5)), none⟩, ⟨none, (.store 2 (.tmp 2) (.tmp 17)), none⟩, ⟨(some 3), (.mv (.tmp 18)), none⟩]
def r33_12 : List AOper := [⟨(some 19), (.load true 4 (.tmp 1)), none⟩, ⟨(some 20), (.call 73 [(.tmp 19)]), none⟩, ⟨(some 6), (.mv (.tmp 20)), none⟩]
def r33_15 : List AOper := [⟨(some 21), (.mv (.tmp 6)), none⟩, ⟨(some 22), (.len (.tmp 21)), none⟩, ⟨(some 23), (.mv (.const (.int .i64 0))), none⟩]
def td33_17 : Option Tidy := (some ⟨[1, 2, 6, 21, 22, 23], true, [⟨false, 6, 0, 20006, 3⟩, ⟨false, 21, 0, 20021, 3⟩, ⟨true, 1, 3, 30103, 2⟩], []⟩)
def r33_19 : List AOper := [⟨(some 24), (.bin .lss 3 (.tmp 23) (.tmp 22)), none⟩]
def r33_25 : List AOper := [⟨(some 25), (.mv (.tmp 23)), none⟩, ⟨(some 26), (.iaddr 3 none (.tmp 21) (.tmp 23)), none⟩, ⟨(some 27), (.load true 3 (.tmp 26)), none⟩, ⟨(some 8), (.alloc [(.d (.v (.int .i64 0))), (.d (.v (.int .i64 0))), (.d (.v (.int .i64 0)))]), none⟩, ⟨(some 7), (.mv (.tmp 25)), none⟩, ⟨none, (.store 3 (.tmp 8) (.tmp 27)), none⟩]
def r33_27 : List AOper := [⟨(some 28), (.mv (.tmp 7)), none⟩, ⟨(some 29), (.bin .add 3 (.tmp 28) (.const (.int .i64 1))), none⟩, ⟨(some 9), (.mv (.tmp 29)), none⟩]
def td33_29 : Option Tidy := (some ⟨[1, 2, 6, 7, 8, 9, 21, 22, 23], true, [⟨false, 6, 0, 20006, 3⟩, ⟨false, 21, 0, 20021, 3⟩, ⟨true, 1, 3, 30103, 2⟩], []⟩)
def r33_32 : List AOper := [⟨(some 30), (.mv (.tmp 9)), none⟩, ⟨(some 31), (.mv (.tmp 6)), none⟩, ⟨(some 32), (.len (.tmp 31)), none⟩, ⟨(some 33), (.bin .lss 3 (.tmp 30) (.tmp 32)), none⟩]
def r33_37 : List AOper := [⟨(some 36), (.load true 3 (.tmp 8)), none⟩, ⟨(some 37), (.faddr 0 (.tmp 1)), none⟩, ⟨(some 38), (.load true 2 (.tmp 37)), none⟩, ⟨(some 39), (.mv (.tmp 6)), none⟩, ⟨(some 40), (.mv (.tmp 9)), none⟩, ⟨(some 41), (.iaddr 3 none (.tmp 39) (.tmp 40)), none⟩, ⟨(some 42), (.faddr 0 (.tmp 41)), none⟩, ⟨(some 43), (.load false 1 (.tmp 42)), none⟩, ⟨(some 44), (.call 75 [(.tmp 36), (.tmp 38), (.tmp 43)]), none⟩, ⟨(some 45), (.mv (.tmp 6)), none⟩, ⟨(some 46), (.mv (.tmp 9)), none⟩, ⟨(some 47), (.iaddr 3 none (.tmp 45) (.tmp 46)), none⟩, ⟨(some 48), (.faddr 1 (.tmp 47)), none⟩, ⟨(some 49), (.load true 2 (.tmp 48)), none⟩, ⟨(some 50), (.call 74 [(.tmp 44), (.tmp 49)]), none⟩, ⟨(some 51), (.call 76 [(.tmp 50)]), none⟩]
def r33_40 : List AOper := [⟨(some 52), (.mv (.tmp 7)), none⟩, ⟨(some 53), (.bin .sub 3 (.tmp 52) (.const (.int .i64 1))), none⟩, ⟨(some 54), (.mv (.tmp 9)), none⟩, ⟨(some 55), (.bin .sub 3 (.tmp 54) (.const (.int .i64 1))), none⟩, ⟨(some 56), (.build [(.d (.v (.int .i64 0))), (.d (.v (.int .i64 0)))] [(0, 1, (.tmp 53)), (1, 1, (.tmp 55))]), none⟩, ⟨none, (.store 2 (.tmp 2) (.tmp 56)), none⟩, ⟨(some 3), (.mv (.const (.int .i64 0))), none⟩]
def r33_41 : List AOper := [⟨(some 34), (.mv (.tmp 9)), none⟩, ⟨(some 35), (.bin .add 3 (.tmp 34) (.const (.int .i64 1))), none⟩, ⟨(some 9), (.mv (.tmp 35)), none⟩]
def r33_42 : List AOper := [⟨(some 57), (.bin .add 3 (.tmp 23) (.const (.int .i64 1))), none⟩, ⟨(some 23), (.mv (.tmp 57)), none⟩]
def r33_44 : List AOper := [⟨(some 58), (.build [(.d (.v (.int .i64 0))), (.d (.v (.int .i64 0)))] []), none⟩, ⟨none, (.store 2 (.tmp 2) (.tmp 58)), none⟩, ⟨(some 3), (.mv (.const (.int .i64 17))), none⟩]
def tr33 : List (Nat × Tidy) := [(0, ⟨[1, 2], true, [], []⟩), (1, ⟨[1, 2, 5], true, [], []⟩), (2, ⟨[1, 2, 5, 16], true, [], []⟩), (3, ⟨[2, 3], true, [], []⟩), (4, ⟨[1, 2, 6], true, [], []⟩), (5, ⟨[1, 2, 6, 21, 22, 23], true, [], []⟩), (6, ⟨[1, 2, 6, 21, 22, 23, 24], true, [], []⟩), (7, ⟨[1, 2, 6, 7, 8, 21, 22, 23], true, [], []⟩), (8, ⟨[1, 2, 6, 7, 8, 9, 21, 22, 23], true, [], []⟩), (9, ⟨[1, 2, 6, 7, 8, 9, 21, 22, 23, 33], true, [], []⟩), (11, ⟨[1, 2, 6, 7, 8, 9, 21, 22, 23, 51], true, [], []⟩), (12, ⟨[2, 3], true, [], []⟩), (10, ⟨[1, 2, 6, 7, 8, 9, 21, 22, 23], true, [], []⟩), (13, ⟨[1, 2, 6, 21, 22, 23], true, [], []⟩), (14, ⟨[2, 3], true, [], []⟩)]
def tl33 : List (Nat × Tidy) := [(6, ⟨[1, 2, 6, 21, 22, 23], true, [⟨false, 6, 0, 20006, 3⟩, ⟨false, 21, 0, 20021, 3⟩, ⟨true, 1, 3, 30103, 2⟩], []⟩), (9, ⟨[1, 2, 6, 7, 8, 9, 21, 22, 23], true, [⟨false, 6, 0, 20006, 3⟩, ⟨false, 21, 0, 20021, 3⟩, ⟨true, 1, 3, 30103, 2⟩], []⟩)]
def rs33 : List AResV := [.cell 2 true 2, .tmp 3]
def p33_0_0 : PT St := pS [sl 1 (aV false [(cPtr 1 0)]), sl 2 (aV false [(cPtr 2 0)]), sl 6 (aV false [(cRef 20021)]), sl 7 (aV false [(cD (dI .i64))]), sl 8 (aV false [(cPtr 8 0)]), sl 9 (aV false [(cD (dI .i64))]), sl 21 (aV false [(cRef 20021)]), sl 22 (aV false [(cD (dI .i64))]), sl 23 (aV false [(cD (dI .i64))])] [eBox 1 [(cD (dI .i64)), (cD (dI .i64)), (cD (dI .i64)), (cD dL)], eBox 2 [(cD (dI .i64)), (cD (dI .i64))], eOwn 20021 3, eBox 8 [(cD (dI .i64)), (cD (dI .i64)), (cD (dI .i64))]]
def u33_0_0 {β : Type} (g : St → β) : Int → Int → Int → Int → Int → Int → Int → Rows → Int → Int → Rows → Int → Int → Int → β := p33_0_0.unc g

def p33_0_1 : PT St := pS [sl 2 (aV false [(cPtr 2 0)]), sl 3 (aV false [(cD (dI .i64))])] [eBox 2 [(cD (dI .i64)), (cD (dI .i64))]]
def u33_0_1 {β : Type} (g : St → β) : Int → Int → Int → β := p33_0_1.unc g

def p33_0_2 : PT St := pS [sl 1 (aV false [(cPtr 1 0)]), sl 2 (aV false [(cPtr 2 0)]), sl 6 (aV false [(cRef 20021)]), sl 7 (aV false [(cD (dI .i64))]), sl 8 (aV false [(cPtr 8 0)]), sl 9 (aV false [(cD (dI .i64))]), sl 21 (aV false [(cRef 20021)]), sl 22 (aV false [(cD (dI .i64))]), sl 23 (aV false [(cD (dI .i64))]), sl 33 (aV false [(cD dB)])] [eBox 1 [(cD (dI .i64)), (cD (dI .i64)), (cD (dI .i64)), (cD dL)], eBox 2 [(cD (dI .i64)), (cD (dI .i64))], eOwn 20021 3, eBox 8 [(cD (dI .i64)), (cD (dI .i64)), (cD (dI .i64))]]
def u33_0_2 {β : Type} (g : St → β) : Int → Int → Int → Int → Bool → Int → Int → Int → Rows → Int → Int → Rows → Int → Int → Int → β := p33_0_2.unc g

def p33_0_3 : PT St := pS [sl 1 (aV false [(cPtr 1 0)]), sl 2 (aV false [(cPtr 2 0)]), sl 6 (aV false [(cRef 20021)]), sl 21 (aV false [(cRef 20021)]), sl 22 (aV false [(cD (dI .i64))]), sl 23 (aV false [(cD (dI .i64))])] [eBox 1 [(cD (dI .i64)), (cD (dI .i64)), (cD (dI .i64)), (cD dL)], eBox 2 [(cD (dI .i64)), (cD (dI .i64))], eOwn 20021 3]
def u33_0_3 {β : Type} (g : St → β) : Int → Int → Int → Int → Int → Rows → Int → Int → Rows → β := p33_0_3.unc g

def p33_0_4 : PT St := pS [sl 1 (aV false [(cPtr 1 0)]), sl 2 (aV false [(cPtr 2 0)]), sl 6 (aV false [(cRef 20021)]), sl 21 (aV false [(cRef 20021)]), sl 22 (aV false [(cD (dI .i64))]), sl 23 (aV false [(cD (dI .i64))]), sl 24 (aV false [(cD dB)])] [eBox 1 [(cD (dI .i64)), (cD (dI .i64)), (cD (dI .i64)), (cD dL)], eBox 2 [(cD (dI .i64)), (cD (dI .i64))], eOwn 20021 3]
def u33_0_4 {β : Type} (g : St → β) : Int → Int → Bool → Int → Int → Int → Rows → Int → Int → Rows → β := p33_0_4.unc g

def pr33_0_0 : PT (List RV) := pRs [pR true [rD (dI .i64), rD (dI .i64)], pR false [rD (dI .i64)]]
def ur33_0_0 {β : Type} (g : List RV → β) : Int → Int → Int → β := pr33_0_0.unc g

def E33_0g (vf32_0 : Tf32_0) (vf73_0 : Tf73_0) (vf75_0 : Tf75_0) (vf74_0 : Tf74_0) (vf76_0 : Tf76_0) : EnvK := EnvK.of [⟨32, nt32, [⟨pa32_0, Fn32_0 vf32_0⟩]⟩, ⟨73, nt73, [⟨pa73_0, Fn73_0 vf73_0⟩]⟩, ⟨75, nt75, [⟨pa75_0, Fn75_0 vf75_0⟩]⟩, ⟨74, nt74, [⟨pa74_0, Fn74_0 vf74_0⟩]⟩, ⟨76, nt76, [⟨pa76_0, Fn76_0 vf76_0⟩]⟩] noSeq
noncomputable def E33_0 : EnvK := E33_0g f32_0 f73_0 f75_0 f74_0 f76_0
theorem eo33_0 : E33_0.Ok Try.prog := EnvK.of_ok noSeq_ok ⟨⟨io32_0, trivial⟩, ⟨io73_0, trivial⟩, ⟨io75_0, trivial⟩, ⟨io74_0, trivial⟩, ⟨io76_0, trivial⟩, trivial⟩

noncomputable def c33_0_29g  : MCode := (.seq (.seq (.region r33_32 [] (some ⟨[1, 2, 6, 7, 8, 9, 21, 22, 23, 33], true, [], []⟩)) (.cond (.tmp 33) .skip (.exit 2))) (.seq (.block 3 (.seq (.region r33_37 [(8, 11), (8, 13)] (some ⟨[1, 2, 6, 7, 8, 9, 21, 22, 23, 51], true, [], []⟩)) (.cond (.tmp 51) (.seq (.region r33_40 [] (some ⟨[2, 3], true, [], []⟩)) .ret) .skip))) (.region r33_41 [] (some ⟨[1, 2, 6, 7, 8, 9, 21, 22, 23], true, [], []⟩))))
noncomputable def c33_0_29 : MCode := c33_0_29g 
theorem g33_0_29 : c33_0_29.Good Try.prog E33_0 sh33 := ⟨⟨trivial, ⟨trivial, trivial⟩⟩, ⟨⟨trivial, ⟨⟨trivial, trivial⟩, trivial⟩⟩, trivial⟩⟩
--CODE 29 0
def S33_0_0g (vf74_0 : Tf74_0) (vf75_0 : Tf75_0) (vf76_0 : Tf76_0) (α : Type) (x20 : Int) (x24 : Int) (x25 : Int) (x30 : Rows) (x31 : Int) (x32 : Int) (x33 : Int) (x21 : Int) (kn : Int → Option α) (k1 : Int → Int → Option α) (k2 : Int → Bool → Option α) : Option α :=
  cK (decide (x21 < ((List.length x30 : Nat) : Int)))
    (ixK x30 x21 3
      (ldK x30 (Int.toNat x21) 0 [.int .i64]
        (fun (x34 : Int) => vf75_0 α x31 x32 x33 x24 x25 x34
          (fun (x35 : Int) (x36 : Int) => ixK x30 x21 3
            (ldK x30 (Int.toNat x21) 1 [.int .i64, .int .i64]
              (fun (x37 : Int) (x38 : Int) => vf74_0 α x35 x36 x37 x38
                (fun (x39 : Int) (x40 : Int) => vf76_0 α x39 x40
                  (fun (x41 : Bool) => cK x41
                    (k1 (w64 (x20 - 1)) (w64 (x21 - 1)))
                    (kn (w64 (x21 + 1)))))))))))
    (k2 x21 (decide (x21 < ((List.length x30 : Nat) : Int))))
noncomputable def S33_0_0 (α : Type) (x20 : Int) (x24 : Int) (x25 : Int) (x30 : Rows) (x31 : Int) (x32 : Int) (x33 : Int) (x21 : Int) (kn : Int → Option α) (k1 : Int → Int → Option α) (k2 : Int → Bool → Option α) : Option α := S33_0_0g f74_0 f75_0 f76_0 α x20 x24 x25 x30 x31 x32 x33 x21 kn k1 k2
noncomputable def R33_0_0 (α : Type) (x20 : Int) (x24 : Int) (x25 : Int) (x30 : Rows) (x31 : Int) (x32 : Int) (x33 : Int) (k1 : Int → Int → Option α) (k2 : Int → Bool → Option α) : Nat → Int → Option α
  | 0, _ => none
  | n + 1, x21 => S33_0_0 α x20 x24 x25 x30 x31 x32 x33 x21 (R33_0_0 α x20 x24 x25 x30 x31 x32 x33 k1 k2 n) k1 k2
noncomputable def L33_0_0 (α : Type) (x20 : Int) (x24 : Int) (x25 : Int) (x30 : Rows) (x31 : Int) (x32 : Int) (x33 : Int) (k1 : Int → Int → Option α) (k2 : Int → Bool → Option α) (x21 : Int) : Option α := R33_0_0 α x20 x24 x25 x30 x31 x32 x33 k1 k2 fuel x21
abbrev TL33_0_0 : Type 1 := (α : Type) → Int → Int → Int → Rows → Int → Int → Int → (Int → Int → Option α) → (Int → Bool → Option α) → Int → Option α
def F33_0_0 (v : TL33_0_0) (α : Type) (K : Exit → St → Option α) : Int → Int → Int → Int → Int → Int → Int → Rows → Int → Int → Rows → Int → Int → Int → Option α := fun x20 x21 x22 x23 x24 x25 x26 x27 x28 x29 x30 x31 x32 x33 => v α x20 x24 x25 x30 x31 x32 x33 (fun (y1 : Int) (y2 : Int) => u33_0_1 (K .ret) 0 y1 y2) (fun (y1 : Int) (y2 : Bool) => u33_0_2 (K (.exit 2)) x20 y1 x22 x23 y2 x24 x25 x26 x27 x28 x29 x30 x31 x32 x33) x21
theorem r33_0_0g (vf32_0 : Tf32_0) (vf73_0 : Tf73_0) (vf75_0 : Tf75_0) (vf74_0 : Tf74_0) (vf76_0 : Tf76_0)  (α : Type) (K : Exit → St → Option α) (Kn : St → Option α) (x20 : Int) (x21 : Int) (x22 : Int) (x23 : Int) (x24 : Int) (x25 : Int) (x26 : Int) (x27 : Rows) (x28 : Int) (x29 : Int) (x30 : Rows) (x31 : Int) (x32 : Int) (x33 : Int) : u33_0_0 (fun σ => runM Try.prog (E33_0g vf32_0 vf73_0 vf75_0 vf74_0 vf76_0) sh33 (c33_0_29g ) (thenK (fun σ => tidyK td33_29 σ Kn) K) σ) x20 x21 x22 x23 x24 x25 x26 x27 x28 x29 x30 x31 x32 x33 = S33_0_0g vf74_0 vf75_0 vf76_0 α x20 x24 x25 x30 x31 x32 x33 x21 (fun x21 => u33_0_0 Kn x20 x21 x22 x23 x24 x25 x26 x27 x28 x29 x30 x31 x32 x33) (fun (y1 : Int) (y2 : Int) => u33_0_1 (K .ret) 0 y1 y2) (fun (y1 : Int) (y2 : Bool) => u33_0_2 (K (.exit 2)) x20 y1 x22 x23 y2 x24 x25 x26 x27 x28 x29 x30 x31 x32 x33) := by kernel_rfl
theorem r33_0_0 (α : Type) (K : Exit → St → Option α) (Kn : St → Option α) (x20 : Int) (x21 : Int) (x22 : Int) (x23 : Int) (x24 : Int) (x25 : Int) (x26 : Int) (x27 : Rows) (x28 : Int) (x29 : Int) (x30 : Rows) (x31 : Int) (x32 : Int) (x33 : Int) : u33_0_0 (fun σ => runM Try.prog E33_0 sh33 c33_0_29 (thenK (fun σ => tidyK td33_29 σ Kn) K) σ) x20 x21 x22 x23 x24 x25 x26 x27 x28 x29 x30 x31 x32 x33 = S33_0_0 α x20 x24 x25 x30 x31 x32 x33 x21 (fun x21 => u33_0_0 Kn x20 x21 x22 x23 x24 x25 x26 x27 x28 x29 x30 x31 x32 x33) (fun (y1 : Int) (y2 : Int) => u33_0_1 (K .ret) 0 y1 y2) (fun (y1 : Int) (y2 : Bool) => u33_0_2 (K (.exit 2)) x20 y1 x22 x23 y2 x24 x25 x26 x27 x28 x29 x30 x31 x32 x33) := r33_0_0g f32_0 f73_0 f75_0 f74_0 f76_0 α K Kn x20 x21 x22 x23 x24 x25 x26 x27 x28 x29 x30 x31 x32 x33
theorem t33_0_0 (α : Type) (K : Exit → St → Option α) : ∀ (n : Nat) (x20 : Int) (x21 : Int) (x22 : Int) (x23 : Int) (x24 : Int) (x25 : Int) (x26 : Int) (x27 : Rows) (x28 : Int) (x29 : Int) (x30 : Rows) (x31 : Int) (x32 : Int) (x33 : Int), R33_0_0 α x20 x24 x25 x30 x31 x32 x33 (fun (y1 : Int) (y2 : Int) => u33_0_1 (K .ret) 0 y1 y2) (fun (y1 : Int) (y2 : Bool) => u33_0_2 (K (.exit 2)) x20 y1 x22 x23 y2 x24 x25 x26 x27 x28 x29 x30 x31 x32 x33) n x21 = u33_0_0 (loopT (runM Try.prog E33_0 sh33 c33_0_29) td33_29 K n) x20 x21 x22 x23 x24 x25 x26 x27 x28 x29 x30 x31 x32 x33 := by
  intro n
  induction n with
  | zero => intros; rfl
  | succ n ih => intro x20 x21 x22 x23 x24 x25 x26 x27 x28 x29 x30 x31 x32 x33; exact (congrArg (fun kn => S33_0_0 α x20 x24 x25 x30 x31 x32 x33 x21 kn (fun (y1 : Int) (y2 : Int) => u33_0_1 (K .ret) 0 y1 y2) (fun (y1 : Int) (y2 : Bool) => u33_0_2 (K (.exit 2)) x20 y1 x22 x23 y2 x24 x25 x26 x27 x28 x29 x30 x31 x32 x33)) (funext fun x21 => ih x20 x21 x22 x23 x24 x25 x26 x27 x28 x29 x30 x31 x32 x33)).trans (r33_0_0 α K (loopT (runM Try.prog E33_0 sh33 c33_0_29) td33_29 K n) x20 x21 x22 x23 x24 x25 x26 x27 x28 x29 x30 x31 x32 x33).symm
theorem m33_0_0 : ∀ (α : Type) (K : Exit → St → Option α), F33_0_0 L33_0_0 α K = p33_0_0.unc fun σ => loopT (runM Try.prog E33_0 sh33 c33_0_29) td33_29 K fuel σ := fun α K => funext fun x20 => funext fun x21 => funext fun x22 => funext fun x23 => funext fun x24 => funext fun x25 => funext fun x26 => funext fun x27 => funext fun x28 => funext fun x29 => funext fun x30 => funext fun x31 => funext fun x32 => funext fun x33 => t33_0_0 α K fuel x20 x21 x22 x23 x24 x25 x26 x27 x28 x29 x30 x31 x32 x33

noncomputable def c33_0_17g (vL33_0_0 : TL33_0_0) : MCode := (.seq (.region r33_19 [] (some ⟨[1, 2, 6, 21, 22, 23, 24], true, [], []⟩)) (.seq (.cond (.tmp 24) .skip (.exit 0)) (.seq (.block 1 (.seq (.region r33_25 [] (some ⟨[1, 2, 6, 7, 8, 21, 22, 23], true, [], []⟩)) (.seq (.region r33_27 [] (some ⟨[1, 2, 6, 7, 8, 9, 21, 22, 23], true, [], []⟩)) (.block 2 (.loop td33_29 [⟨p33_0_0, F33_0_0 vL33_0_0⟩] c33_0_29))))) (.region r33_42 [] (some ⟨[1, 2, 6, 21, 22, 23], true, [], []⟩)))))
noncomputable def c33_0_17 : MCode := c33_0_17g L33_0_0
theorem g33_0_17 : c33_0_17.Good Try.prog E33_0 sh33 := ⟨trivial, ⟨⟨trivial, trivial⟩, ⟨⟨trivial, ⟨trivial, ⟨g33_0_29, m33_0_0, trivial⟩⟩⟩, trivial⟩⟩⟩
--CODE 17 0
def S33_0_1g (vL33_0_0 : TL33_0_0) (α : Type) (x8 : Int) (x10 : Int) (x11 : Int) (x16 : Rows) (x9 : Int) (kn : Int → Option α) (k1 : Int → Int → Option α) (k2 : Int → Bool → Option α) : Option α :=
  cK (decide (x9 < x8))
    (ixK x16 x9 3
      (ldK x16 (Int.toNat x9) 0 [.int .i64, .int .i64, .int .i64]
        (fun (x17 : Int) (x18 : Int) (x19 : Int) => vL33_0_0 α x9 x10 x11 x16 x17 x18 x19
          (fun (x42 : Int) (x43 : Int) => k1 x42 x43)
          (fun (x44 : Int) (x45 : Bool) => kn (w64 (x9 + 1))) (w64 (x9 + 1)))))
    (k2 x9 (decide (x9 < x8)))
noncomputable def S33_0_1 (α : Type) (x8 : Int) (x10 : Int) (x11 : Int) (x16 : Rows) (x9 : Int) (kn : Int → Option α) (k1 : Int → Int → Option α) (k2 : Int → Bool → Option α) : Option α := S33_0_1g L33_0_0 α x8 x10 x11 x16 x9 kn k1 k2
noncomputable def R33_0_1 (α : Type) (x8 : Int) (x10 : Int) (x11 : Int) (x16 : Rows) (k1 : Int → Int → Option α) (k2 : Int → Bool → Option α) : Nat → Int → Option α
  | 0, _ => none
  | n + 1, x9 => S33_0_1 α x8 x10 x11 x16 x9 (R33_0_1 α x8 x10 x11 x16 k1 k2 n) k1 k2
noncomputable def L33_0_1 (α : Type) (x8 : Int) (x10 : Int) (x11 : Int) (x16 : Rows) (k1 : Int → Int → Option α) (k2 : Int → Bool → Option α) (x9 : Int) : Option α := R33_0_1 α x8 x10 x11 x16 k1 k2 fuel x9
abbrev TL33_0_1 : Type 1 := (α : Type) → Int → Int → Int → Rows → (Int → Int → Option α) → (Int → Bool → Option α) → Int → Option α
def F33_0_1 (v : TL33_0_1) (α : Type) (K : Exit → St → Option α) : Int → Int → Int → Int → Int → Rows → Int → Int → Rows → Option α := fun x8 x9 x10 x11 x12 x13 x14 x15 x16 => v α x8 x10 x11 x16 (fun (y1 : Int) (y2 : Int) => u33_0_1 (K .ret) 0 y1 y2) (fun (y1 : Int) (y2 : Bool) => u33_0_4 (K (.exit 0)) x8 y1 y2 x10 x11 x12 x13 x14 x15 x16) x9
theorem r33_0_1g (vf32_0 : Tf32_0) (vf73_0 : Tf73_0) (vf75_0 : Tf75_0) (vf74_0 : Tf74_0) (vf76_0 : Tf76_0) (vL33_0_0 : TL33_0_0) (α : Type) (K : Exit → St → Option α) (Kn : St → Option α) (x8 : Int) (x9 : Int) (x10 : Int) (x11 : Int) (x12 : Int) (x13 : Rows) (x14 : Int) (x15 : Int) (x16 : Rows) : u33_0_3 (fun σ => runM Try.prog (E33_0g vf32_0 vf73_0 vf75_0 vf74_0 vf76_0) sh33 (c33_0_17g vL33_0_0) (thenK (fun σ => tidyK td33_17 σ Kn) K) σ) x8 x9 x10 x11 x12 x13 x14 x15 x16 = S33_0_1g vL33_0_0 α x8 x10 x11 x16 x9 (fun x9 => u33_0_3 Kn x8 x9 x10 x11 x12 x13 x14 x15 x16) (fun (y1 : Int) (y2 : Int) => u33_0_1 (K .ret) 0 y1 y2) (fun (y1 : Int) (y2 : Bool) => u33_0_4 (K (.exit 0)) x8 y1 y2 x10 x11 x12 x13 x14 x15 x16) := by kernel_rfl
theorem r33_0_1 (α : Type) (K : Exit → St → Option α) (Kn : St → Option α) (x8 : Int) (x9 : Int) (x10 : Int) (x11 : Int) (x12 : Int) (x13 : Rows) (x14 : Int) (x15 : Int) (x16 : Rows) : u33_0_3 (fun σ => runM Try.prog E33_0 sh33 c33_0_17 (thenK (fun σ => tidyK td33_17 σ Kn) K) σ) x8 x9 x10 x11 x12 x13 x14 x15 x16 = S33_0_1 α x8 x10 x11 x16 x9 (fun x9 => u33_0_3 Kn x8 x9 x10 x11 x12 x13 x14 x15 x16) (fun (y1 : Int) (y2 : Int) => u33_0_1 (K .ret) 0 y1 y2) (fun (y1 : Int) (y2 : Bool) => u33_0_4 (K (.exit 0)) x8 y1 y2 x10 x11 x12 x13 x14 x15 x16) := r33_0_1g f32_0 f73_0 f75_0 f74_0 f76_0 L33_0_0 α K Kn x8 x9 x10 x11 x12 x13 x14 x15 x16
theorem t33_0_1 (α : Type) (K : Exit → St → Option α) : ∀ (n : Nat) (x8 : Int) (x9 : Int) (x10 : Int) (x11 : Int) (x12 : Int) (x13 : Rows) (x14 : Int) (x15 : Int) (x16 : Rows), R33_0_1 α x8 x10 x11 x16 (fun (y1 : Int) (y2 : Int) => u33_0_1 (K .ret) 0 y1 y2) (fun (y1 : Int) (y2 : Bool) => u33_0_4 (K (.exit 0)) x8 y1 y2 x10 x11 x12 x13 x14 x15 x16) n x9 = u33_0_3 (loopT (runM Try.prog E33_0 sh33 c33_0_17) td33_17 K n) x8 x9 x10 x11 x12 x13 x14 x15 x16 := by
  intro n
  induction n with
  | zero => intros; rfl
  | succ n ih => intro x8 x9 x10 x11 x12 x13 x14 x15 x16; exact (congrArg (fun kn => S33_0_1 α x8 x10 x11 x16 x9 kn (fun (y1 : Int) (y2 : Int) => u33_0_1 (K .ret) 0 y1 y2) (fun (y1 : Int) (y2 : Bool) => u33_0_4 (K (.exit 0)) x8 y1 y2 x10 x11 x12 x13 x14 x15 x16)) (funext fun x9 => ih x8 x9 x10 x11 x12 x13 x14 x15 x16)).trans (r33_0_1 α K (loopT (runM Try.prog E33_0 sh33 c33_0_17) td33_17 K n) x8 x9 x10 x11 x12 x13 x14 x15 x16).symm
theorem m33_0_1 : ∀ (α : Type) (K : Exit → St → Option α), F33_0_1 L33_0_1 α K = p33_0_3.unc fun σ => loopT (runM Try.prog E33_0 sh33 c33_0_17) td33_17 K fuel σ := fun α K => funext fun x8 => funext fun x9 => funext fun x10 => funext fun x11 => funext fun x12 => funext fun x13 => funext fun x14 => funext fun x15 => funext fun x16 => t33_0_1 α K fuel x8 x9 x10 x11 x12 x13 x14 x15 x16

/-- etalon/grow.Contradiction -/
abbrev Tf33_0 : Type 1 := (α : Type) → Int → Int → Int → Rows → (Int → Int → Int → Option α) → Option α
def f33_0g (vL33_0_1 : TL33_0_1) (vf32_0 : Tf32_0) (vf73_0 : Tf73_0) (α : Type) (x1 : Int) (x2 : Int) (x3 : Int) (x4 : Rows) (k1 : Int → Int → Int → Option α) : Option α :=
  vf32_0 α x1 x2 x3 x4
    (fun (x5 : Int) (x6 : Int) => cK (x6 != 0)
      (k1 0 0 x6)
      (vf73_0 α x1 x2 x3 x4
        (fun (x7 : Rows) => vL33_0_1 α ((List.length x7 : Nat) : Int) x1 x2 x7
          (fun (x46 : Int) (x47 : Int) => k1 x46 x47 0)
          (fun (x48 : Int) (x49 : Bool) => k1 0 0 17) 0)))
noncomputable def f33_0 (α : Type) (x1 : Int) (x2 : Int) (x3 : Int) (x4 : Rows) (k1 : Int → Int → Int → Option α) : Option α := f33_0g L33_0_1 f32_0 f73_0 α x1 x2 x3 x4 k1
def pa33_0 : PT (List DV) := pA [pV true [(dI .i64), (dI .i64), (dI .i64), dL]]
def Fn33_0 (v : Tf33_0) (α : Type) (k : List RV → Option α) : Int → Int → Int → Rows → Option α := fun x1 x2 x3 x4 => v α x1 x2 x3 x4 (fun (y1 : Int) (y2 : Int) (y3 : Int) => ur33_0_0 k y1 y2 y3)
noncomputable def cm33_0g (vL33_0_1 : TL33_0_1) : MCode := (.seq (.region r33_2 [] (some ⟨[1, 2], true, [], []⟩)) (.seq (.seq (.region r33_5 [] (some ⟨[1, 2, 5], true, [], []⟩)) (.seq (.region r33_7 [] (some ⟨[1, 2, 5, 16], true, [], []⟩)) (.cond (.tmp 16) (.seq (.region r33_10 [] (some ⟨[2, 3], true, [], []⟩)) .ret) .skip))) (.seq (.region r33_12 [] (some ⟨[1, 2, 6], true, [], []⟩)) (.seq (.seq (.region r33_15 [] (some ⟨[1, 2, 6, 21, 22, 23], true, [], []⟩)) (.block 0 (.loop td33_17 [⟨p33_0_3, F33_0_1 vL33_0_1⟩] c33_0_17))) (.seq (.region r33_44 [] (some ⟨[2, 3], true, [], []⟩)) .ret)))))
noncomputable def cm33_0 : MCode := cm33_0g L33_0_1
theorem gm33_0 : cm33_0.Good Try.prog E33_0 sh33 := ⟨trivial, ⟨⟨trivial, ⟨trivial, ⟨⟨trivial, trivial⟩, trivial⟩⟩⟩, ⟨trivial, ⟨⟨trivial, ⟨g33_0_17, m33_0_1, trivial⟩⟩, ⟨trivial, trivial⟩⟩⟩⟩⟩
theorem fm33_0g (vf32_0 : Tf32_0) (vf73_0 : Tf73_0) (vf75_0 : Tf75_0) (vf74_0 : Tf74_0) (vf76_0 : Tf76_0) (vL33_0_1 : TL33_0_1) (α : Type) (k : List RV → Option α) : Fn33_0 (f33_0g vL33_0_1 vf32_0 vf73_0) α k = pa33_0.unc fun ds => fnM Try.prog (E33_0g vf32_0 vf73_0 vf75_0 vf74_0 vf76_0) sh33 (cm33_0g vL33_0_1) rs33 k ds := by kernel_rfl
theorem fm33_0 : ∀ (α : Type) (k : List RV → Option α), Fn33_0 f33_0 α k = pa33_0.unc fun ds => fnM Try.prog E33_0 sh33 cm33_0 rs33 k ds := fm33_0g f32_0 f73_0 f75_0 f74_0 f76_0 L33_0_1

theorem is33 : FnIs Try.prog 33 nt33 tr33 tl33 cm33_0.erase rs33 := ⟨Try.f33, Try.func33, rfl, by kernel_rfl, by kernel_rfl, by kernel_rfl⟩
theorem io33_0 : InstOk Try.prog 33 nt33 ⟨pa33_0, Fn33_0 f33_0⟩ := inst_ok eo33_0 followsTry is33 ⟨⟨sh33, cm33_0, by kernel_rfl, gm33_0, fm33_0⟩⟩

/-! ### F16 etalon/grow.Tracked -/
abbrev nt16 : Nat := 101
def sh16 : List (Nat × List Sh) := [(13, [.int .i64, .int .i64, .int .i64, .sl]), (20, [.int .i64, .int .i64, .int .i64, .sl]), (32, [.int .i64, .int .i64, .int .i64]), (34, [.int .i64, .int .i64]), (38, [.int .i64, .int .i64, .int .i64]), (39, [.int .i64, .int .i64, .int .i64]), (41, [.int .i64, .int .i64]), (44, [.int .i64, .int .i64, .int .i64]), (46, [.int .i64]), (49, [.int .i64, .int .i64, .int .i64]), (53, [.int .i64, .int .i64, .int .i64]), (55, [.int .i64, .int .i64]), (68, [.int .i64, .int .i64, .int .i64]), (70, [.int .i64, .int .i64]), (74, [.int .i64, .int .i64, .int .i64]), (75, [.int .i64, .int .i64, .int .i64]), (77, [.int .i64, .int .i64]), (80, [.int .i64, .int .i64, .int .i64]), (82, [.int .i64]), (85, [.int .i64, .int .i64, .int .i64]), (92, [.int .i64, .int .i64, .int .i64]), (93, [.int .i64, .int .i64, .int .i64]), (96, [.int .i64, .int .i64])]
def r16_2 : List AOper := [⟨(some 1), (.box (.tmp 0)), none⟩, ⟨(some 2), (.mv (.const (.slice none 0 0))), none⟩, ⟨(some 3), (.mv (.const (.int .i64 0))), none⟩]
def r16_5 : List AOper := [⟨(some 13), (.load true 4 (.tmp 1)), none⟩, ⟨(some 14), (.call 32 [(.tmp 13)]), none⟩, ⟨(some 12), (.mv (.tmp 14)), none⟩, ⟨(some 15), (.extract 0 (.tmp 12)), none⟩, ⟨(some 16), (.extract 1 (.tmp 12)), none⟩, ⟨(some 4), (.mv (.tmp 15)), none⟩, ⟨(some 5), (.mv (.tmp 16)), none⟩]
def r16_7 : List AOper := [⟨(some 17), (.mv (.tmp 5)), none⟩, ⟨(some 18), (.bin .neq 32 (.tmp 17) (.const (.int .i64 0))), none⟩]
def r16_10 : List AOper := [⟨(some 19), (.mv (.tmp 5)), none⟩, ⟨(some 2), (.mv (.const (.slice none 0 0))), none⟩, ⟨(some 3), (.mv (.tmp 19)), none⟩]
def r16_12 : List AOper := [⟨(some 20), (.load true 4 (.tmp 1)), none⟩, ⟨(some 21), (.call 73 [(.tmp 20)]), none⟩, ⟨(some 6), (.mv (.tmp 21)), none⟩]
def r16_15 : List AOper := [⟨(some 7), (.mv (.const (.int .i64 1))), none⟩]
def td16_17 : Option Tidy := (some ⟨[1, 6, 7], true, [⟨false, 6, 0, 20006, 3⟩, ⟨true, 1, 3, 30103, 2⟩], []⟩)
def r16_20 : List AOper := [⟨(some 22), (.mv (.tmp 7)), none⟩, ⟨(some 23), (.mv (.tmp 6)), none⟩, ⟨(some 24), (.len (.tmp 23)), none⟩, ⟨(some 25), (.bin .lss 3 (.tmp 22) (.tmp 24)), none⟩]
def r16_25 : List AOper := [⟨(some 28), (.mv (.tmp 6)), none⟩, ⟨(some 29), (.mv (.tmp 7)), none⟩, ⟨(some 30), (.mv (.tmp 6)), none⟩, ⟨(some 31), (.mv (.tmp 7)), none⟩, ⟨(some 32), (.iaddr 3 none (.tmp 30) (.tmp 31)), none⟩, ⟨(some 33), (.faddr 1 (.tmp 32)), none⟩, ⟨(some 34), (.load true 2 (.tmp 33)), none⟩, ⟨(some 35), (.mv (.tmp 6)), none⟩, ⟨(some 36), (.mv (.tmp 7)), none⟩, ⟨(some 37), (.bin .sub 3 (.tmp 36) (.const (.int .i64 1))), none⟩, ⟨(some 38), (.iaddr 3 none (.tmp 35) (.tmp 37)), none⟩, ⟨(some 39), (.load true 3 (.tmp 38)), none⟩, ⟨(some 40), (.faddr 0 (.tmp 1)), none⟩, ⟨(some 41), (.load true 2 (.tmp 40)), none⟩, ⟨(some 42), (.mv (.tmp 6)), none⟩, ⟨(some 43), (.mv (.tmp 7)), none⟩, ⟨(some 44), (.iaddr 3 none (.tmp 42) (.tmp 43)), none⟩, ⟨(some 45), (.faddr 0 (.tmp 44)), none⟩, ⟨(some 46), (.load false 1 (.tmp 45)), none⟩, ⟨(some 47), (.call 75 [(.tmp 39), (.tmp 41), (.tmp 46)]), none⟩, ⟨(some 48), (.call 74 [(.tmp 34), (.tmp 47)]), none⟩, ⟨(some 49), (.iaddr 3 none (.tmp 28) (.tmp 29)), none⟩, ⟨(some 50), (.faddr 1 (.tmp 49)), none⟩, ⟨none, (.store 2 (.tmp 50) (.tmp 48)), none⟩]
def r16_27 : List AOper := [⟨(some 51), (.mv (.tmp 6)), none⟩, ⟨(some 52), (.mv (.tmp 7)), none⟩, ⟨(some 53), (.iaddr 3 none (.tmp 51) (.tmp 52)), none⟩, ⟨(some 54), (.faddr 1 (.tmp 53)), none⟩, ⟨(some 55), (.load true 2 (.tmp 54)), none⟩, ⟨(some 56), (.call 76 [(.tmp 55)]), none⟩]
def r16_30 : List AOper := [⟨(some 2), (.mv (.const (.slice none 0 0))), none⟩, ⟨(some 3), (.mv (.const (.int .i64 17))), none⟩]
def r16_31 : List AOper := [⟨(some 26), (.mv (.tmp 7)), none⟩, ⟨(some 27), (.bin .add 3 (.tmp 26) (.const (.int .i64 1))), none⟩, ⟨(some 7), (.mv (.tmp 27)), none⟩]
def r16_34 : List AOper := [⟨(some 57), (.mv (.tmp 6)), none⟩, ⟨(some 58), (.len (.tmp 57)), none⟩, ⟨(some 59), (.bin .sub 3 (.tmp 58) (.const (.int .i64 2))), none⟩, ⟨(some 8), (.mv (.tmp 59)), none⟩]
def td16_36 : Option Tidy := (some ⟨[1, 6, 8], true, [⟨false, 6, 0, 20006, 3⟩, ⟨true, 1, 3, 30103, 2⟩], []⟩)
def r16_39 : List AOper := [⟨(some 60), (.mv (.tmp 8)), none⟩, ⟨(some 61), (.bin .geq 3 (.tmp 60) (.const (.int .i64 0))), none⟩]
def r16_43 : List AOper := [⟨(some 64), (.mv (.tmp 6)), none⟩, ⟨(some 65), (.mv (.tmp 8)), none⟩, ⟨(some 66), (.mv (.tmp 6)), none⟩, ⟨(some 67), (.mv (.tmp 8)), none⟩, ⟨(some 68), (.iaddr 3 none (.tmp 66) (.tmp 67)), none⟩, ⟨(some 69), (.faddr 1 (.tmp 68)), none⟩, ⟨(some 70), (.load true 2 (.tmp 69)), none⟩, ⟨(some 71), (.mv (.tmp 6)), none⟩, ⟨(some 72), (.mv (.tmp 8)), none⟩, ⟨(some 73), (.bin .add 3 (.tmp 72) (.const (.int .i64 1))), none⟩, ⟨(some 74), (.iaddr 3 none (.tmp 71) (.tmp 73)), none⟩, ⟨(some 75), (.load true 3 (.tmp 74)), none⟩, ⟨(some 76), (.faddr 0 (.tmp 1)), none⟩, ⟨(some 77), (.load true 2 (.tmp 76)), none⟩, ⟨(some 78), (.mv (.tmp 6)), none⟩, ⟨(some 79), (.mv (.tmp 8)), none⟩, ⟨(some 80), (.iaddr 3 none (.tmp 78) (.tmp 79)), none⟩, ⟨(some 81), (.faddr 0 (.tmp 80)), none⟩, ⟨(some 82), (.load false 1 (.tmp 81)), none⟩, ⟨(some 83), (.call 77 [(.tmp 75), (.tmp 77), (.tmp 82)]), none⟩, ⟨(some 84), (.call 74 [(.tmp 70), (.tmp 83)]), none⟩, ⟨(some 85), (.iaddr 3 none (.tmp 64) (.tmp 65)), none⟩, ⟨(some 86), (.faddr 1 (.tmp 85)), none⟩, ⟨none, (.store 2 (.tmp 86) (.tmp 84)), none⟩]
def r16_44 : List AOper := [⟨(some 62), (.mv (.tmp 8)), none⟩, ⟨(some 63), (.bin .sub 3 (.tmp 62) (.const (.int .i64 1))), none⟩, ⟨(some 8), (.mv (.tmp 63)), none⟩]
def r16_46 : List AOper := [⟨(some 9), (.mv (.const (.slice none 0 0))), none⟩]
def r16_49 : List AOper := [⟨(some 87), (.mv (.tmp 6)), none⟩, ⟨(some 88), (.slice 3 false (.tmp 87) (some (.const (.int .i64 1))) none), none⟩, ⟨(some 89), (.len (.tmp 88)), none⟩, ⟨(some 90), (.mv (.const (.int .i64 0))), none⟩]
def td16_51 : Option Tidy := (some ⟨[9, 88, 89, 90], true, [⟨false, 9, 0, 20009, 2⟩, ⟨false, 88, 0, 20088, 3⟩, ⟨true, 1, 3, 30103, 2⟩], []⟩)
def r16_53 : List AOper := [⟨(some 91), (.bin .lss 3 (.tmp 90) (.tmp 89)), none⟩]
def r16_59 : List AOper := [⟨(some 92), (.iaddr 3 none (.tmp 88) (.tmp 90)), none⟩, ⟨(some 93), (.load true 3 (.tmp 92)), none⟩, ⟨(some 11), (.alloc [(.d (.v (.int .i64 0))), (.d (.v (.int .i64 0))), (.d (.v (.int .i64 0)))]), none⟩, ⟨none, (.store 3 (.tmp 11) (.tmp 93)), none⟩]
def r16_60 : List AOper := [⟨(some 94), (.mv (.tmp 9)), none⟩, ⟨(some 95), (.faddr 1 (.tmp 11)), none⟩, ⟨(some 96), (.load true 2 (.tmp 95)), none⟩, ⟨(some 97), (.bslice 2 1 [(.v (.int .i64 0)), (.v (.int .i64 0))] [(0, (.tmp 96))]), none⟩, ⟨(some 98), (.append 2 16 (.tmp 94) (.tmp 97)), none⟩, ⟨(some 9), (.mv (.tmp 98)), none⟩]
def r16_61 : List AOper := [⟨(some 99), (.bin .add 3 (.tmp 90) (.const (.int .i64 1))), none⟩, ⟨(some 90), (.mv (.tmp 99)), none⟩]
def r16_63 : List AOper := [⟨(some 100), (.mv (.tmp 9)), none⟩, ⟨(some 2), (.mv (.tmp 100)), none⟩, ⟨(some 3), (.mv (.const (.int .i64 0))), none⟩]
def tr16 : List (Nat × Tidy) := [(0, ⟨[1], true, [], []⟩), (1, ⟨[1, 5], true, [], []⟩), (2, ⟨[1, 5, 18], true, [], []⟩), (3, ⟨[2, 3], true, [⟨false, 2, 0, 20002, 2⟩], []⟩), (4, ⟨[1, 6], true, [], []⟩), (5, ⟨[1, 6, 7], true, [], []⟩), (6, ⟨[1, 6, 7, 25], true, [], []⟩), (8, ⟨[1, 6, 7], true, [], []⟩), (9, ⟨[1, 6, 7, 56], true, [], []⟩), (10, ⟨[2, 3], true, [⟨false, 2, 0, 20002, 2⟩], []⟩), (7, ⟨[1, 6, 7], true, [], []⟩), (11, ⟨[1, 6, 8], true, [], []⟩), (12, ⟨[1, 6, 8, 61], true, [], []⟩), (14, ⟨[1, 6, 8], true, [], []⟩), (13, ⟨[1, 6, 8], true, [], []⟩), (15, ⟨[6, 9], true, [], []⟩), (16, ⟨[9, 88, 89, 90], true, [], []⟩), (17, ⟨[9, 88, 89, 90, 91], true, [], []⟩), (18, ⟨[9, 11, 88, 89, 90], true, [], []⟩), (19, ⟨[9, 88, 89, 90], true, [], []⟩), (20, ⟨[9, 88, 89, 90], true, [], []⟩), (21, ⟨[2, 3], true, [⟨false, 2, 0, 20002, 2⟩], []⟩)]
def tl16 : List (Nat × Tidy) := [(6, ⟨[1, 6, 7], true, [⟨false, 6, 0, 20006, 3⟩, ⟨true, 1, 3, 30103, 2⟩], []⟩), (12, ⟨[1, 6, 8], true, [⟨false, 6, 0, 20006, 3⟩, ⟨true, 1, 3, 30103, 2⟩], []⟩), (17, ⟨[9, 88, 89, 90], true, [⟨false, 9, 0, 20009, 2⟩, ⟨false, 88, 0, 20088, 3⟩, ⟨true, 1, 3, 30103, 2⟩], []⟩)]
def rs16 : List AResV := [.tmp 2, .tmp 3]
def p16_0_0 : PT St := pS [sl 1 (aV false [(cPtr 1 0)]), sl 6 (aV false [(cRef 20006)]), sl 7 (aV false [(cD (dI .i64))])] [eBox 1 [(cD (dI .i64)), (cD (dI .i64)), (cD (dI .i64)), (cD dL)], eOwn 20006 3]
def u16_0_0 {β : Type} (g : St → β) : Int → Int → Int → Int → Rows → Rows → β := p16_0_0.unc g

def p16_0_1 : PT St := pS [sl 2 (aV false [(cRef 20002)]), sl 3 (aV false [(cD (dI .i64))])] [eOwn 20002 2]
def u16_0_1 {β : Type} (g : St → β) : Int → Rows → β := p16_0_1.unc g

def p16_0_2 : PT St := pS [sl 1 (aV false [(cPtr 1 0)]), sl 6 (aV false [(cRef 20006)]), sl 7 (aV false [(cD (dI .i64))]), sl 25 (aV false [(cD dB)])] [eBox 1 [(cD (dI .i64)), (cD (dI .i64)), (cD (dI .i64)), (cD dL)], eOwn 20006 3]
def u16_0_2 {β : Type} (g : St → β) : Int → Bool → Int → Int → Int → Rows → Rows → β := p16_0_2.unc g

def p16_0_3 : PT St := pS [sl 1 (aV false [(cPtr 1 0)]), sl 6 (aV false [(cRef 20006)]), sl 8 (aV false [(cD (dI .i64))])] [eBox 1 [(cD (dI .i64)), (cD (dI .i64)), (cD (dI .i64)), (cD dL)], eOwn 20006 3]
def u16_0_3 {β : Type} (g : St → β) : Int → Int → Int → Int → Rows → Rows → β := p16_0_3.unc g

def p16_0_4 : PT St := pS [sl 1 (aV false [(cPtr 1 0)]), sl 6 (aV false [(cRef 20006)]), sl 8 (aV false [(cD (dI .i64))]), sl 61 (aV false [(cD dB)])] [eBox 1 [(cD (dI .i64)), (cD (dI .i64)), (cD (dI .i64)), (cD dL)], eOwn 20006 3]
def u16_0_4 {β : Type} (g : St → β) : Int → Bool → Int → Int → Int → Rows → Rows → β := p16_0_4.unc g

def p16_0_5 : PT St := pS [sl 9 (aV false [(cRef 20009)]), sl 88 (aV false [(cD dL)]), sl 89 (aV false [(cD (dI .i64))]), sl 90 (aV false [(cD (dI .i64))])] [eOwn 20009 2]
def u16_0_5 {β : Type} (g : St → β) : Rows → Int → Int → Rows → β := p16_0_5.unc g

def p16_0_6 : PT St := pS [sl 9 (aV false [(cRef 20009)]), sl 88 (aV false [(cD dL)]), sl 89 (aV false [(cD (dI .i64))]), sl 90 (aV false [(cD (dI .i64))]), sl 91 (aV false [(cD dB)])] [eOwn 20009 2]
def u16_0_6 {β : Type} (g : St → β) : Rows → Int → Int → Bool → Rows → β := p16_0_6.unc g

def pr16_0_0 : PT (List RV) := pRs [pR false [rO 2], pR false [rD (dI .i64)]]
def ur16_0_0 {β : Type} (g : List RV → β) : Rows → Int → β := pr16_0_0.unc g

def E16_0g (vf32_0 : Tf32_0) (vf73_0 : Tf73_0) (vf75_0 : Tf75_0) (vf74_0 : Tf74_0) (vf76_0 : Tf76_0) (vf77_0 : Tf77_0) : EnvK := EnvK.of [⟨32, nt32, [⟨pa32_0, Fn32_0 vf32_0⟩]⟩, ⟨73, nt73, [⟨pa73_0, Fn73_0 vf73_0⟩]⟩, ⟨75, nt75, [⟨pa75_0, Fn75_0 vf75_0⟩]⟩, ⟨74, nt74, [⟨pa74_0, Fn74_0 vf74_0⟩]⟩, ⟨76, nt76, [⟨pa76_0, Fn76_0 vf76_0⟩]⟩, ⟨77, nt77, [⟨pa77_0, Fn77_0 vf77_0⟩]⟩] noSeq
noncomputable def E16_0 : EnvK := E16_0g f32_0 f73_0 f75_0 f74_0 f76_0 f77_0
theorem eo16_0 : E16_0.Ok Try.prog := EnvK.of_ok noSeq_ok ⟨⟨io32_0, trivial⟩, ⟨io73_0, trivial⟩, ⟨io75_0, trivial⟩, ⟨io74_0, trivial⟩, ⟨io76_0, trivial⟩, ⟨io77_0, trivial⟩, trivial⟩

noncomputable def c16_0_51g  : MCode := (.seq (.region r16_53 [] (some ⟨[9, 88, 89, 90, 91], true, [], []⟩)) (.seq (.cond (.tmp 91) .skip (.exit 4)) (.seq (.block 5 (.seq (.region r16_59 [] (some ⟨[9, 11, 88, 89, 90], true, [], []⟩)) (.region r16_60 [] (some ⟨[9, 88, 89, 90], true, [], []⟩)))) (.region r16_61 [] (some ⟨[9, 88, 89, 90], true, [], []⟩)))))
noncomputable def c16_0_51 : MCode := c16_0_51g 
theorem g16_0_51 : c16_0_51.Good Try.prog E16_0 sh16 := ⟨trivial, ⟨⟨trivial, trivial⟩, ⟨⟨trivial, trivial⟩, trivial⟩⟩⟩
--CODE 51 0
def S16_0_2g  (α : Type) (x49 : Rows) (x50 : Int) (x51 : Int) (x52 : Rows) (kn : Int → Rows → Option α) (k1 : Int → Bool → Rows → Option α) : Option α :=
  cK (decide (x51 < x50))
    (rowK x49 x51 [.int .i64, .int .i64, .int .i64]
      (fun (x53 : Int) (x54 : Int) (x55 : Int) => gK (apOk 2 16 x52 [[DC.v (.int .i64 x54), DC.v (.int .i64 x55)]]) (kn (w64 (x51 + 1)) (x52 ++ [[DC.v (.int .i64 x54), DC.v (.int .i64 x55)]]))))
    (k1 x51 (decide (x51 < x50)) x52)
noncomputable def S16_0_2 (α : Type) (x49 : Rows) (x50 : Int) (x51 : Int) (x52 : Rows) (kn : Int → Rows → Option α) (k1 : Int → Bool → Rows → Option α) : Option α := S16_0_2g  α x49 x50 x51 x52 kn k1
noncomputable def R16_0_2 (α : Type) (x49 : Rows) (x50 : Int) (k1 : Int → Bool → Rows → Option α) : Nat → Int → Rows → Option α
  | 0, _, _ => none
  | n + 1, x51, x52 => S16_0_2 α x49 x50 x51 x52 (R16_0_2 α x49 x50 k1 n) k1
noncomputable def L16_0_2 (α : Type) (x49 : Rows) (x50 : Int) (k1 : Int → Bool → Rows → Option α) (x51 : Int) (x52 : Rows) : Option α := R16_0_2 α x49 x50 k1 fuel x51 x52
abbrev TL16_0_2 : Type 1 := (α : Type) → Rows → Int → (Int → Bool → Rows → Option α) → Int → Rows → Option α
def F16_0_2 (v : TL16_0_2) (α : Type) (K : Exit → St → Option α) : Rows → Int → Int → Rows → Option α := fun x49 x50 x51 x52 => v α x49 x50 (fun (y1 : Int) (y2 : Bool) (y3 : Rows) => u16_0_6 (K (.exit 4)) x49 x50 y1 y2 y3) x51 x52
theorem r16_0_2g (vf32_0 : Tf32_0) (vf73_0 : Tf73_0) (vf75_0 : Tf75_0) (vf74_0 : Tf74_0) (vf76_0 : Tf76_0) (vf77_0 : Tf77_0)  (α : Type) (K : Exit → St → Option α) (Kn : St → Option α) (x49 : Rows) (x50 : Int) (x51 : Int) (x52 : Rows) : u16_0_5 (fun σ => runM Try.prog (E16_0g vf32_0 vf73_0 vf75_0 vf74_0 vf76_0 vf77_0) sh16 (c16_0_51g ) (thenK (fun σ => tidyK td16_51 σ Kn) K) σ) x49 x50 x51 x52 = S16_0_2g  α x49 x50 x51 x52 (fun x51 x52 => u16_0_5 Kn x49 x50 x51 x52) (fun (y1 : Int) (y2 : Bool) (y3 : Rows) => u16_0_6 (K (.exit 4)) x49 x50 y1 y2 y3) := by kernel_rfl
theorem r16_0_2 (α : Type) (K : Exit → St → Option α) (Kn : St → Option α) (x49 : Rows) (x50 : Int) (x51 : Int) (x52 : Rows) : u16_0_5 (fun σ => runM Try.prog E16_0 sh16 c16_0_51 (thenK (fun σ => tidyK td16_51 σ Kn) K) σ) x49 x50 x51 x52 = S16_0_2 α x49 x50 x51 x52 (fun x51 x52 => u16_0_5 Kn x49 x50 x51 x52) (fun (y1 : Int) (y2 : Bool) (y3 : Rows) => u16_0_6 (K (.exit 4)) x49 x50 y1 y2 y3) := r16_0_2g f32_0 f73_0 f75_0 f74_0 f76_0 f77_0 α K Kn x49 x50 x51 x52
theorem t16_0_2 (α : Type) (K : Exit → St → Option α) : ∀ (n : Nat) (x49 : Rows) (x50 : Int) (x51 : Int) (x52 : Rows), R16_0_2 α x49 x50 (fun (y1 : Int) (y2 : Bool) (y3 : Rows) => u16_0_6 (K (.exit 4)) x49 x50 y1 y2 y3) n x51 x52 = u16_0_5 (loopT (runM Try.prog E16_0 sh16 c16_0_51) td16_51 K n) x49 x50 x51 x52 := by
  intro n
  induction n with
  | zero => intros; rfl
  | succ n ih => intro x49 x50 x51 x52; exact (congrArg (fun kn => S16_0_2 α x49 x50 x51 x52 kn (fun (y1 : Int) (y2 : Bool) (y3 : Rows) => u16_0_6 (K (.exit 4)) x49 x50 y1 y2 y3)) (funext fun x51 => funext fun x52 => ih x49 x50 x51 x52)).trans (r16_0_2 α K (loopT (runM Try.prog E16_0 sh16 c16_0_51) td16_51 K n) x49 x50 x51 x52).symm
theorem m16_0_2 : ∀ (α : Type) (K : Exit → St → Option α), F16_0_2 L16_0_2 α K = p16_0_5.unc fun σ => loopT (runM Try.prog E16_0 sh16 c16_0_51) td16_51 K fuel σ := fun α K => funext fun x49 => funext fun x50 => funext fun x51 => funext fun x52 => t16_0_2 α K fuel x49 x50 x51 x52

noncomputable def c16_0_36g  : MCode := (.seq (.seq (.region r16_39 [] (some ⟨[1, 6, 8, 61], true, [], []⟩)) (.cond (.tmp 61) .skip (.exit 2))) (.seq (.block 3 (.region r16_43 [(4, 19), (6, 19)] (some ⟨[1, 6, 8], true, [], []⟩))) (.region r16_44 [] (some ⟨[1, 6, 8], true, [], []⟩))))
noncomputable def c16_0_36 : MCode := c16_0_36g 
theorem g16_0_36 : c16_0_36.Good Try.prog E16_0 sh16 := ⟨⟨trivial, ⟨trivial, trivial⟩⟩, ⟨trivial, trivial⟩⟩
--CODE 36 0
def S16_0_1g (vf74_0 : Tf74_0) (vf77_0 : Tf77_0) (α : Type) (x31 : Int) (x32 : Int) (x30 : Int) (x35 : Rows) (kn : Int → Rows → Option α) (k1 : Int → Bool → Rows → Option α) : Option α :=
  cK (decide (0 ≤ x30))
    (ixK x35 x30 3
      (ldK x35 (Int.toNat x30) 1 [.int .i64, .int .i64]
        (fun (x36 : Int) (x37 : Int) => ixK x35 (w64 (x30 + 1)) 3
          (ldK x35 (Int.toNat (w64 (x30 + 1))) 0 [.int .i64, .int .i64, .int .i64]
            (fun (x38 : Int) (x39 : Int) (x40 : Int) => ixK x35 x30 3
              (ldK x35 (Int.toNat x30) 0 [.int .i64]
                (fun (x41 : Int) => vf77_0 α x38 x39 x40 x31 x32 x41
                  (fun (x42 : Int) (x43 : Int) => vf74_0 α x36 x37 x42 x43
                    (fun (x44 : Int) (x45 : Int) => ixK x35 x30 3
                      (stK x35 (Int.toNat x30) 1 2
                        (kn (w64 (x30 - 1)) (List.set x35 (Int.toNat x30) (splice (rowAt x35 (Int.toNat x30)) 1 [DC.v (.int .i64 x44), DC.v (.int .i64 x45)])))))))))))))
    (k1 x30 (decide (0 ≤ x30)) x35)
noncomputable def S16_0_1 (α : Type) (x31 : Int) (x32 : Int) (x30 : Int) (x35 : Rows) (kn : Int → Rows → Option α) (k1 : Int → Bool → Rows → Option α) : Option α := S16_0_1g f74_0 f77_0 α x31 x32 x30 x35 kn k1
noncomputable def R16_0_1 (α : Type) (x31 : Int) (x32 : Int) (k1 : Int → Bool → Rows → Option α) : Nat → Int → Rows → Option α
  | 0, _, _ => none
  | n + 1, x30, x35 => S16_0_1 α x31 x32 x30 x35 (R16_0_1 α x31 x32 k1 n) k1
noncomputable def L16_0_1 (α : Type) (x31 : Int) (x32 : Int) (k1 : Int → Bool → Rows → Option α) (x30 : Int) (x35 : Rows) : Option α := R16_0_1 α x31 x32 k1 fuel x30 x35
abbrev TL16_0_1 : Type 1 := (α : Type) → Int → Int → (Int → Bool → Rows → Option α) → Int → Rows → Option α
def F16_0_1 (v : TL16_0_1) (α : Type) (K : Exit → St → Option α) : Int → Int → Int → Int → Rows → Rows → Option α := fun x30 x31 x32 x33 x34 x35 => v α x31 x32 (fun (y1 : Int) (y2 : Bool) (y3 : Rows) => u16_0_4 (K (.exit 2)) y1 y2 x31 x32 x33 x34 y3) x30 x35
theorem r16_0_1g (vf32_0 : Tf32_0) (vf73_0 : Tf73_0) (vf75_0 : Tf75_0) (vf74_0 : Tf74_0) (vf76_0 : Tf76_0) (vf77_0 : Tf77_0)  (α : Type) (K : Exit → St → Option α) (Kn : St → Option α) (x30 : Int) (x31 : Int) (x32 : Int) (x33 : Int) (x34 : Rows) (x35 : Rows) : u16_0_3 (fun σ => runM Try.prog (E16_0g vf32_0 vf73_0 vf75_0 vf74_0 vf76_0 vf77_0) sh16 (c16_0_36g ) (thenK (fun σ => tidyK td16_36 σ Kn) K) σ) x30 x31 x32 x33 x34 x35 = S16_0_1g vf74_0 vf77_0 α x31 x32 x30 x35 (fun x30 x35 => u16_0_3 Kn x30 x31 x32 x33 x34 x35) (fun (y1 : Int) (y2 : Bool) (y3 : Rows) => u16_0_4 (K (.exit 2)) y1 y2 x31 x32 x33 x34 y3) := by kernel_rfl
theorem r16_0_1 (α : Type) (K : Exit → St → Option α) (Kn : St → Option α) (x30 : Int) (x31 : Int) (x32 : Int) (x33 : Int) (x34 : Rows) (x35 : Rows) : u16_0_3 (fun σ => runM Try.prog E16_0 sh16 c16_0_36 (thenK (fun σ => tidyK td16_36 σ Kn) K) σ) x30 x31 x32 x33 x34 x35 = S16_0_1 α x31 x32 x30 x35 (fun x30 x35 => u16_0_3 Kn x30 x31 x32 x33 x34 x35) (fun (y1 : Int) (y2 : Bool) (y3 : Rows) => u16_0_4 (K (.exit 2)) y1 y2 x31 x32 x33 x34 y3) := r16_0_1g f32_0 f73_0 f75_0 f74_0 f76_0 f77_0 α K Kn x30 x31 x32 x33 x34 x35
theorem t16_0_1 (α : Type) (K : Exit → St → Option α) : ∀ (n : Nat) (x30 : Int) (x31 : Int) (x32 : Int) (x33 : Int) (x34 : Rows) (x35 : Rows), R16_0_1 α x31 x32 (fun (y1 : Int) (y2 : Bool) (y3 : Rows) => u16_0_4 (K (.exit 2)) y1 y2 x31 x32 x33 x34 y3) n x30 x35 = u16_0_3 (loopT (runM Try.prog E16_0 sh16 c16_0_36) td16_36 K n) x30 x31 x32 x33 x34 x35 := by
  intro n
  induction n with
  | zero => intros; rfl
  | succ n ih => intro x30 x31 x32 x33 x34 x35; exact (congrArg (fun kn => S16_0_1 α x31 x32 x30 x35 kn (fun (y1 : Int) (y2 : Bool) (y3 : Rows) => u16_0_4 (K (.exit 2)) y1 y2 x31 x32 x33 x34 y3)) (funext fun x30 => funext fun x35 => ih x30 x31 x32 x33 x34 x35)).trans (r16_0_1 α K (loopT (runM Try.prog E16_0 sh16 c16_0_36) td16_36 K n) x30 x31 x32 x33 x34 x35).symm
theorem m16_0_1 : ∀ (α : Type) (K : Exit → St → Option α), F16_0_1 L16_0_1 α K = p16_0_3.unc fun σ => loopT (runM Try.prog E16_0 sh16 c16_0_36) td16_36 K fuel σ := fun α K => funext fun x30 => funext fun x31 => funext fun x32 => funext fun x33 => funext fun x34 => funext fun x35 => t16_0_1 α K fuel x30 x31 x32 x33 x34 x35

noncomputable def c16_0_17g  : MCode := (.seq (.seq (.region r16_20 [] (some ⟨[1, 6, 7, 25], true, [], []⟩)) (.cond (.tmp 25) .skip (.exit 0))) (.seq (.block 1 (.seq (.region r16_25 [(4, 19), (6, 19)] (some ⟨[1, 6, 7], true, [], []⟩)) (.seq (.region r16_27 [] (some ⟨[1, 6, 7, 56], true, [], []⟩)) (.cond (.tmp 56) (.seq (.region r16_30 [] (some ⟨[2, 3], true, [⟨false, 2, 0, 20002, 2⟩], []⟩)) .ret) .skip)))) (.region r16_31 [] (some ⟨[1, 6, 7], true, [], []⟩))))
noncomputable def c16_0_17 : MCode := c16_0_17g 
theorem g16_0_17 : c16_0_17.Good Try.prog E16_0 sh16 := ⟨⟨trivial, ⟨trivial, trivial⟩⟩, ⟨⟨trivial, ⟨trivial, ⟨⟨trivial, trivial⟩, trivial⟩⟩⟩, trivial⟩⟩
--CODE 17 0
def S16_0_0g (vf74_0 : Tf74_0) (vf75_0 : Tf75_0) (vf76_0 : Tf76_0) (α : Type) (x9 : Int) (x10 : Int) (x8 : Int) (x13 : Rows) (kn : Int → Rows → Option α) (k1 : Option α) (k2 : Int → Bool → Rows → Option α) : Option α :=
  cK (decide (x8 < ((List.length x13 : Nat) : Int)))
    (ixK x13 x8 3
      (ldK x13 (Int.toNat x8) 1 [.int .i64, .int .i64]
        (fun (x14 : Int) (x15 : Int) => ixK x13 (w64 (x8 - 1)) 3
          (ldK x13 (Int.toNat (w64 (x8 - 1))) 0 [.int .i64, .int .i64, .int .i64]
            (fun (x16 : Int) (x17 : Int) (x18 : Int) => ixK x13 x8 3
              (ldK x13 (Int.toNat x8) 0 [.int .i64]
                (fun (x19 : Int) => vf75_0 α x16 x17 x18 x9 x10 x19
                  (fun (x20 : Int) (x21 : Int) => vf74_0 α x14 x15 x20 x21
                    (fun (x22 : Int) (x23 : Int) => ixK x13 x8 3
                      (stK x13 (Int.toNat x8) 1 2
                        (ixK (List.set x13 (Int.toNat x8) (splice (rowAt x13 (Int.toNat x8)) 1 [DC.v (.int .i64 x22), DC.v (.int .i64 x23)])) x8 3
                          (ldK (List.set x13 (Int.toNat x8) (splice (rowAt x13 (Int.toNat x8)) 1 [DC.v (.int .i64 x22), DC.v (.int .i64 x23)])) (Int.toNat x8) 1 [.int .i64, .int .i64]
                            (fun (x24 : Int) (x25 : Int) => vf76_0 α x24 x25
                              (fun (x26 : Bool) => cK x26
                                (k1)
                                (kn (w64 (x8 + 1)) (List.set x13 (Int.toNat x8) (splice (rowAt x13 (Int.toNat x8)) 1 [DC.v (.int .i64 x22), DC.v (.int .i64 x23)])))))))))))))))))
    (k2 x8 (decide (x8 < ((List.length x13 : Nat) : Int))) x13)
noncomputable def S16_0_0 (α : Type) (x9 : Int) (x10 : Int) (x8 : Int) (x13 : Rows) (kn : Int → Rows → Option α) (k1 : Option α) (k2 : Int → Bool → Rows → Option α) : Option α := S16_0_0g f74_0 f75_0 f76_0 α x9 x10 x8 x13 kn k1 k2
noncomputable def R16_0_0 (α : Type) (x9 : Int) (x10 : Int) (k1 : Option α) (k2 : Int → Bool → Rows → Option α) : Nat → Int → Rows → Option α
  | 0, _, _ => none
  | n + 1, x8, x13 => S16_0_0 α x9 x10 x8 x13 (R16_0_0 α x9 x10 k1 k2 n) k1 k2
noncomputable def L16_0_0 (α : Type) (x9 : Int) (x10 : Int) (k1 : Option α) (k2 : Int → Bool → Rows → Option α) (x8 : Int) (x13 : Rows) : Option α := R16_0_0 α x9 x10 k1 k2 fuel x8 x13
abbrev TL16_0_0 : Type 1 := (α : Type) → Int → Int → (Option α) → (Int → Bool → Rows → Option α) → Int → Rows → Option α
def F16_0_0 (v : TL16_0_0) (α : Type) (K : Exit → St → Option α) : Int → Int → Int → Int → Rows → Rows → Option α := fun x8 x9 x10 x11 x12 x13 => v α x9 x10 (u16_0_1 (K .ret) 17 []) (fun (y1 : Int) (y2 : Bool) (y3 : Rows) => u16_0_2 (K (.exit 0)) y1 y2 x9 x10 x11 x12 y3) x8 x13
theorem r16_0_0g (vf32_0 : Tf32_0) (vf73_0 : Tf73_0) (vf75_0 : Tf75_0) (vf74_0 : Tf74_0) (vf76_0 : Tf76_0) (vf77_0 : Tf77_0)  (α : Type) (K : Exit → St → Option α) (Kn : St → Option α) (x8 : Int) (x9 : Int) (x10 : Int) (x11 : Int) (x12 : Rows) (x13 : Rows) : u16_0_0 (fun σ => runM Try.prog (E16_0g vf32_0 vf73_0 vf75_0 vf74_0 vf76_0 vf77_0) sh16 (c16_0_17g ) (thenK (fun σ => tidyK td16_17 σ Kn) K) σ) x8 x9 x10 x11 x12 x13 = S16_0_0g vf74_0 vf75_0 vf76_0 α x9 x10 x8 x13 (fun x8 x13 => u16_0_0 Kn x8 x9 x10 x11 x12 x13) (u16_0_1 (K .ret) 17 []) (fun (y1 : Int) (y2 : Bool) (y3 : Rows) => u16_0_2 (K (.exit 0)) y1 y2 x9 x10 x11 x12 y3) := by kernel_rfl
theorem r16_0_0 (α : Type) (K : Exit → St → Option α) (Kn : St → Option α) (x8 : Int) (x9 : Int) (x10 : Int) (x11 : Int) (x12 : Rows) (x13 : Rows) : u16_0_0 (fun σ => runM Try.prog E16_0 sh16 c16_0_17 (thenK (fun σ => tidyK td16_17 σ Kn) K) σ) x8 x9 x10 x11 x12 x13 = S16_0_0 α x9 x10 x8 x13 (fun x8 x13 => u16_0_0 Kn x8 x9 x10 x11 x12 x13) (u16_0_1 (K .ret) 17 []) (fun (y1 : Int) (y2 : Bool) (y3 : Rows) => u16_0_2 (K (.exit 0)) y1 y2 x9 x10 x11 x12 y3) := r16_0_0g f32_0 f73_0 f75_0 f74_0 f76_0 f77_0 α K Kn x8 x9 x10 x11 x12 x13
theorem t16_0_0 (α : Type) (K : Exit → St → Option α) : ∀ (n : Nat) (x8 : Int) (x9 : Int) (x10 : Int) (x11 : Int) (x12 : Rows) (x13 : Rows), R16_0_0 α x9 x10 (u16_0_1 (K .ret) 17 []) (fun (y1 : Int) (y2 : Bool) (y3 : Rows) => u16_0_2 (K (.exit 0)) y1 y2 x9 x10 x11 x12 y3) n x8 x13 = u16_0_0 (loopT (runM Try.prog E16_0 sh16 c16_0_17) td16_17 K n) x8 x9 x10 x11 x12 x13 := by
  intro n
  induction n with
  | zero => intros; rfl
  | succ n ih => intro x8 x9 x10 x11 x12 x13; exact (congrArg (fun kn => S16_0_0 α x9 x10 x8 x13 kn (u16_0_1 (K .ret) 17 []) (fun (y1 : Int) (y2 : Bool) (y3 : Rows) => u16_0_2 (K (.exit 0)) y1 y2 x9 x10 x11 x12 y3)) (funext fun x8 => funext fun x13 => ih x8 x9 x10 x11 x12 x13)).trans (r16_0_0 α K (loopT (runM Try.prog E16_0 sh16 c16_0_17) td16_17 K n) x8 x9 x10 x11 x12 x13).symm
theorem m16_0_0 : ∀ (α : Type) (K : Exit → St → Option α), F16_0_0 L16_0_0 α K = p16_0_0.unc fun σ => loopT (runM Try.prog E16_0 sh16 c16_0_17) td16_17 K fuel σ := fun α K => funext fun x8 => funext fun x9 => funext fun x10 => funext fun x11 => funext fun x12 => funext fun x13 => t16_0_0 α K fuel x8 x9 x10 x11 x12 x13

/-- etalon/grow.Tracked -/
abbrev Tf16_0 : Type 1 := (α : Type) → Int → Int → Int → Rows → (Rows → Int → Option α) → Option α
def f16_0g (vL16_0_0 : TL16_0_0) (vL16_0_1 : TL16_0_1) (vL16_0_2 : TL16_0_2) (vf32_0 : Tf32_0) (vf73_0 : Tf73_0) (α : Type) (x1 : Int) (x2 : Int) (x3 : Int) (x4 : Rows) (k1 : Rows → Int → Option α) : Option α :=
  vf32_0 α x1 x2 x3 x4
    (fun (x5 : Int) (x6 : Int) => cK (x6 != 0)
      (k1 [] x6)
      (vf73_0 α x1 x2 x3 x4
        (fun (x7 : Rows) => vL16_0_0 α x1 x2
          (k1 [] 17)
          (fun (x27 : Int) (x28 : Bool) (x29 : Rows) => vL16_0_1 α x1 x2
            (fun (x46 : Int) (x47 : Bool) (x48 : Rows) => gK (decide ((0 : Int) ≤ 1 ∧ 1 ≤ ((List.length x48 : Nat) : Int) ∧ ((List.length x48 : Nat) : Int) ≤ ((List.length x48 : Nat) : Int))) (vL16_0_2 α (List.drop 1 (List.take (Int.toNat ((List.length x48 : Nat) : Int)) x48)) ((List.length (List.drop 1 (List.take (Int.toNat ((List.length x48 : Nat) : Int)) x48)) : Nat) : Int)
              (fun (x56 : Int) (x57 : Bool) (x58 : Rows) => k1 x58 0) 0 [])) (w64 (((List.length x29 : Nat) : Int) - 2)) x29) 1 x7)))
noncomputable def f16_0 (α : Type) (x1 : Int) (x2 : Int) (x3 : Int) (x4 : Rows) (k1 : Rows → Int → Option α) : Option α := f16_0g L16_0_0 L16_0_1 L16_0_2 f32_0 f73_0 α x1 x2 x3 x4 k1
def pa16_0 : PT (List DV) := pA [pV true [(dI .i64), (dI .i64), (dI .i64), dL]]
def Fn16_0 (v : Tf16_0) (α : Type) (k : List RV → Option α) : Int → Int → Int → Rows → Option α := fun x1 x2 x3 x4 => v α x1 x2 x3 x4 (fun (y1 : Rows) (y2 : Int) => ur16_0_0 k y1 y2)
noncomputable def cm16_0g (vL16_0_0 : TL16_0_0) (vL16_0_1 : TL16_0_1) (vL16_0_2 : TL16_0_2) : MCode := (.seq (.region r16_2 [] (some ⟨[1], true, [], []⟩)) (.seq (.seq (.region r16_5 [] (some ⟨[1, 5], true, [], []⟩)) (.seq (.region r16_7 [] (some ⟨[1, 5, 18], true, [], []⟩)) (.cond (.tmp 18) (.seq (.region r16_10 [] (some ⟨[2, 3], true, [⟨false, 2, 0, 20002, 2⟩], []⟩)) .ret) .skip))) (.seq (.region r16_12 [] (some ⟨[1, 6], true, [], []⟩)) (.seq (.seq (.region r16_15 [] (some ⟨[1, 6, 7], true, [], []⟩)) (.block 0 (.loop td16_17 [⟨p16_0_0, F16_0_0 vL16_0_0⟩] c16_0_17))) (.seq (.seq (.region r16_34 [] (some ⟨[1, 6, 8], true, [], []⟩)) (.block 2 (.loop td16_36 [⟨p16_0_3, F16_0_1 vL16_0_1⟩] c16_0_36))) (.seq (.region r16_46 [] (some ⟨[6, 9], true, [], []⟩)) (.seq (.seq (.region r16_49 [] (some ⟨[9, 88, 89, 90], true, [], []⟩)) (.block 4 (.loop td16_51 [⟨p16_0_5, F16_0_2 vL16_0_2⟩] c16_0_51))) (.seq (.region r16_63 [] (some ⟨[2, 3], true, [⟨false, 2, 0, 20002, 2⟩], []⟩)) .ret))))))))
noncomputable def cm16_0 : MCode := cm16_0g L16_0_0 L16_0_1 L16_0_2
theorem gm16_0 : cm16_0.Good Try.prog E16_0 sh16 := ⟨trivial, ⟨⟨trivial, ⟨trivial, ⟨⟨trivial, trivial⟩, trivial⟩⟩⟩, ⟨trivial, ⟨⟨trivial, ⟨g16_0_17, m16_0_0, trivial⟩⟩, ⟨⟨trivial, ⟨g16_0_36, m16_0_1, trivial⟩⟩, ⟨trivial, ⟨⟨trivial, ⟨g16_0_51, m16_0_2, trivial⟩⟩, ⟨trivial, trivial⟩⟩⟩⟩⟩⟩⟩⟩
theorem fm16_0g (vf32_0 : Tf32_0) (vf73_0 : Tf73_0) (vf75_0 : Tf75_0) (vf74_0 : Tf74_0) (vf76_0 : Tf76_0) (vf77_0 : Tf77_0) (vL16_0_0 : TL16_0_0) (vL16_0_1 : TL16_0_1) (vL16_0_2 : TL16_0_2) (α : Type) (k : List RV → Option α) : Fn16_0 (f16_0g vL16_0_0 vL16_0_1 vL16_0_2 vf32_0 vf73_0) α k = pa16_0.unc fun ds => fnM Try.prog (E16_0g vf32_0 vf73_0 vf75_0 vf74_0 vf76_0 vf77_0) sh16 (cm16_0g vL16_0_0 vL16_0_1 vL16_0_2) rs16 k ds := by kernel_rfl
theorem fm16_0 : ∀ (α : Type) (k : List RV → Option α), Fn16_0 f16_0 α k = pa16_0.unc fun ds => fnM Try.prog E16_0 sh16 cm16_0 rs16 k ds := fm16_0g f32_0 f73_0 f75_0 f74_0 f76_0 f77_0 L16_0_0 L16_0_1 L16_0_2

theorem is16 : FnIs Try.prog 16 nt16 tr16 tl16 cm16_0.erase rs16 := ⟨Try.f16, Try.func16, rfl, by kernel_rfl, by kernel_rfl, by kernel_rfl⟩
theorem io16_0 : InstOk Try.prog 16 nt16 ⟨pa16_0, Fn16_0 f16_0⟩ := inst_ok eo16_0 followsTry is16 ⟨⟨sh16, cm16_0, by kernel_rfl, gm16_0, fm16_0⟩⟩

/-! ### F7 etalon/etalonlaw08.GrowTracks -/
abbrev nt7 : Nat := 117
def sh7 : List (Nat × List Sh) := [(17, [.int .i64, .int .i64, .int .i64, .sl]), (21, [.int .i64, .int .i64, .int .i64, .sl]), (27, [.int .i64, .int .i64, .int .i64, .sl]), (33, [.int .i64, .int .i64, .int .i64, .sl]), (39, [.int .i64, .int .i64, .int .i64, .sl]), (67, [.int .i64, .int .i64]), (72, [.int .i64, .int .i64, .int .i64, .sl]), (77, [.int .i64, .int .i64, .int .i64, .sl]), (97, [.int .i64, .int .i64]), (98, [.int .i64, .int .i64]), (113, [.int .i64, .int .i64])]
def r7_2 : List AOper := [⟨(some 1), (.box (.tmp 0)), none⟩, ⟨(some 2), (.mv (.const (.bool false))), none⟩]
def r7_5 : List AOper := [⟨(some 15), (.call 14 []), none⟩, ⟨(some 16), (.pure (oB (.unOp .not 4 (.tmp 15)) 4)), none⟩]
def r7_8 : List AOper := [⟨(some 2), (.mv (.const (.bool false))), none⟩]
def r7_11 : List AOper := [⟨(some 17), (.load true 4 (.tmp 1)), none⟩, ⟨(some 18), (.call 31 [(.tmp 17)]), none⟩, ⟨(some 19), (.pure (oB (.unOp .not 4 (.tmp 18)) 4)), none⟩]
def r7_14 : List AOper := [⟨(some 2), (.mv (.const (.bool true))), none⟩]
def r7_16 : List AOper := [⟨(some 21), (.load true 4 (.tmp 1)), none⟩, ⟨(some 22), (.call 17 [(.tmp 21)]), none⟩, ⟨(some 23), (.call 32 [(.tmp 22)]), none⟩, ⟨(some 20), (.mv (.tmp 23)), none⟩, ⟨(some 24), (.extract 0 (.tmp 20)), none⟩, ⟨(some 25), (.extract 1 (.tmp 20)), none⟩, ⟨(some 3), (.mv (.tmp 24)), none⟩, ⟨(some 4), (.mv (.tmp 25)), none⟩]
def r7_18 : List AOper := [⟨(some 27), (.load true 4 (.tmp 1)), none⟩, ⟨(some 28), (.call 17 [(.tmp 27)]), none⟩, ⟨(some 29), (.call 16 [(.tmp 28)]), none⟩, ⟨(some 26), (.mv (.tmp 29)), none⟩, ⟨(some 30), (.extract 0 (.tmp 26)), none⟩, ⟨(some 31), (.extract 1 (.tmp 26)), none⟩, ⟨(some 5), (.mv (.tmp 30)), none⟩, ⟨(some 6), (.mv (.tmp 31)), none⟩]
def r7_20 : List AOper := [⟨(some 33), (.load true 4 (.tmp 1)), none⟩, ⟨(some 34), (.call 17 [(.tmp 33)]), none⟩, ⟨(some 35), (.call 33 [(.tmp 34)]), none⟩, ⟨(some 32), (.mv (.tmp 35)), none⟩, ⟨(some 36), (.extract 0 (.tmp 32)), none⟩, ⟨(some 37), (.extract 1 (.tmp 32)), none⟩, ⟨(some 7), (.alloc [(.d (.v (.int .i64 0))), (.d (.v (.int .i64 0)))]), none⟩, ⟨none, (.store 2 (.tmp 7) (.tmp 36)), none⟩, ⟨(some 8), (.mv (.tmp 37)), none⟩]
def r7_22 : List AOper := [⟨(some 39), (.load true 4 (.tmp 1)), none⟩, ⟨(some 40), (.call 15 [(.tmp 39)]), none⟩, ⟨(some 38), (.mv (.tmp 40)), none⟩, ⟨(some 41), (.extract 0 (.tmp 38)), none⟩, ⟨(some 42), (.extract 1 (.tmp 38)), none⟩, ⟨(some 9), (.mv (.tmp 41)), none⟩, ⟨(some 10), (.mv (.tmp 42)), none⟩]
def r7_25 : List AOper := [⟨(some 43), (.mv (.tmp 3)), none⟩, ⟨(some 44), (.mv (.tmp 9)), none⟩, ⟨(some 45), (.bin .neq 3 (.tmp 43) (.tmp 44)), none⟩, ⟨(some 46), (.mv (.tmp 45)), none⟩, ⟨(some 47), (.mv (.tmp 4)), (some (46, false))⟩, ⟨(some 48), (.mv (.tmp 10)), (some (46, false))⟩, ⟨(some 49), (.bin .neq 3 (.tmp 47) (.tmp 48)), (some (46, false))⟩, ⟨(some 50), (.pick (.tmp 46) (.const (.bool true)) (.tmp 49)), none⟩]
def r7_28 : List AOper := [⟨(some 2), (.mv (.const (.bool false))), none⟩]
def r7_31 : List AOper := [⟨(some 51), (.mv (.tmp 10)), none⟩, ⟨(some 52), (.bin .neq 3 (.tmp 51) (.const (.int .i64 0))), none⟩]
def r7_34 : List AOper := [⟨(some 53), (.mv (.tmp 6)), none⟩, ⟨(some 54), (.mv (.tmp 10)), none⟩, ⟨(some 55), (.bin .eql 3 (.tmp 53) (.tmp 54)), none⟩, ⟨(some 56), (.mv (.tmp 55)), none⟩, ⟨(some 57), (.mv (.tmp 8)), (some (56, true))⟩, ⟨(some 58), (.mv (.tmp 10)), (some (56, true))⟩, ⟨(some 59), (.bin .eql 3 (.tmp 57) (.tmp 58)), (some (56, true))⟩, ⟨(some 60), (.pick (.tmp 56) (.tmp 59) (.const (.bool false))), none⟩, ⟨(some 61), (.mv (.tmp 60)), none⟩, ⟨(some 62), (.mv (.tmp 5)), (some (61, true))⟩, ⟨(some 63), (.len (.tmp 62)), (some (61, true))⟩, ⟨(some 64), (.bin .eql 3 (.tmp 63) (.const (.int .i64 0))), (some (61, true))⟩, ⟨(some 65), (.pick (.tmp 61) (.tmp 64) (.const (.bool false))), none⟩, ⟨(some 66), (.mv (.tmp 65)), none⟩, ⟨(some 67), (.load true 2 (.tmp 7)), (some (66, true))⟩, ⟨(some 68), (.build [(.d (.v (.int .i64 0))), (.d (.v (.int .i64 0)))] []), (some (66, true))⟩, ⟨(some 69), (.bin .eql 63 (.tmp 67) (.tmp 68)), (some (66, true))⟩, ⟨(some 70), (.pick (.tmp 66) (.tmp 69) (.const (.bool false))), none⟩, ⟨(some 2), (.mv (.tmp 70)), none⟩]
def r7_36 : List AOper := [⟨(some 72), (.load true 4 (.tmp 1)), none⟩, ⟨(some 73), (.call 34 [(.tmp 72)]), none⟩, ⟨(some 71), (.mv (.tmp 73)), none⟩, ⟨(some 74), (.extract 0 (.tmp 71)), none⟩, ⟨(some 75), (.extract 1 (.tmp 71)), none⟩, ⟨(some 11), (.mv (.tmp 74)), none⟩, ⟨(some 12), (.mv (.tmp 75)), none⟩]
def r7_38 : List AOper := [⟨(some 77), (.load true 4 (.tmp 1)), none⟩, ⟨(some 78), (.call 35 [(.tmp 77)]), none⟩, ⟨(some 76), (.mv (.tmp 78)), none⟩, ⟨(some 79), (.extract 0 (.tmp 76)), none⟩, ⟨(some 80), (.extract 1 (.tmp 76)), none⟩, ⟨(some 13), (.alloc [(.d (.v (.int .i64 0))), (.d (.v (.int .i64 0)))]), none⟩, ⟨none, (.store 2 (.tmp 13) (.tmp 79)), none⟩, ⟨(some 14), (.mv (.tmp 80)), none⟩]
def r7_41 : List AOper := [⟨(some 81), (.mv (.tmp 12)), none⟩, ⟨(some 82), (.mv (.tmp 14)), none⟩, ⟨(some 83), (.bin .eql 4 (.tmp 81) (.tmp 82)), none⟩]
def r7_44 : List AOper := [⟨(some 2), (.mv (.const (.bool false))), none⟩]
def r7_47 : List AOper := [⟨(some 84), (.mv (.tmp 14)), none⟩]
def r7_50 : List AOper := [⟨(some 85), (.mv (.tmp 6)), none⟩, ⟨(some 86), (.bin .eql 32 (.tmp 85) (.const (.int .i64 17))), none⟩, ⟨(some 87), (.mv (.tmp 86)), none⟩, ⟨(some 88), (.mv (.tmp 5)), (some (87, true))⟩, ⟨(some 89), (.len (.tmp 88)), (some (87, true))⟩, ⟨(some 90), (.bin .eql 3 (.tmp 89) (.const (.int .i64 0))), (some (87, true))⟩, ⟨(some 91), (.pick (.tmp 87) (.tmp 90) (.const (.bool false))), none⟩, ⟨(some 92), (.mv (.tmp 91)), none⟩, ⟨(some 93), (.mv (.tmp 8)), (some (92, true))⟩, ⟨(some 94), (.bin .eql 32 (.tmp 93) (.const (.int .i64 0))), (some (92, true))⟩, ⟨(some 95), (.pick (.tmp 92) (.tmp 94) (.const (.bool false))), none⟩, ⟨(some 96), (.mv (.tmp 95)), none⟩, ⟨(some 97), (.load true 2 (.tmp 7)), (some (96, true))⟩, ⟨(some 98), (.load true 2 (.tmp 13)), (some (96, true))⟩, ⟨(some 99), (.bin .eql 63 (.tmp 97) (.tmp 98)), (some (96, true))⟩, ⟨(some 100), (.pick (.tmp 96) (.tmp 99) (.const (.bool false))), none⟩, ⟨(some 2), (.mv (.tmp 100)), none⟩]
def r7_52 : List AOper := [⟨(some 101), (.mv (.tmp 6)), none⟩, ⟨(some 102), (.bin .eql 32 (.tmp 101) (.const (.int .i64 0))), none⟩, ⟨(some 103), (.mv (.tmp 102)), none⟩, ⟨(some 104), (.mv (.tmp 5)), (some (103, true))⟩, ⟨(some 105), (.mv (.tmp 11)), (some (103, true))⟩, ⟨(some 106), (.call 36 [(.tmp 104), (.tmp 105)]), (some (103, true))⟩, ⟨(some 107), (.pick (.tmp 103) (.tmp 106) (.const (.bool false))), none⟩, ⟨(some 108), (.mv (.tmp 107)), none⟩, ⟨(some 109), (.mv (.tmp 8)), (some (108, true))⟩, ⟨(some 110), (.bin .eql 32 (.tmp 109) (.const (.int .i64 17))), (some (108, true))⟩, ⟨(some 111), (.pick (.tmp 108) (.tmp 110) (.const (.bool false))), none⟩, ⟨(some 112), (.mv (.tmp 111)), none⟩, ⟨(some 113), (.load true 2 (.tmp 7)), (some (112, true))⟩, ⟨(some 114), (.build [(.d (.v (.int .i64 0))), (.d (.v (.int .i64 0)))] []), (some (112, true))⟩, ⟨(some 115), (.bin .eql 63 (.tmp 113) (.tmp 114)), (some (112, true))⟩, ⟨(some 116), (.pick (.tmp 112) (.tmp 115) (.const (.bool false))), none⟩, ⟨(some 2), (.mv (.tmp 116)), none⟩]
def tr7 : List (Nat × Tidy) := [(0, ⟨[1], true, [], []⟩), (1, ⟨[1, 16], true, [], []⟩), (2, ⟨[2], true, [], []⟩), (3, ⟨[1, 19], true, [], []⟩), (4, ⟨[2], true, [], []⟩), (5, ⟨[1, 3, 4], true, [], []⟩), (6, ⟨[1, 3, 4, 5, 6], true, [], []⟩), (7, ⟨[1, 3, 4, 5, 6, 7, 8], true, [], []⟩), (8, ⟨[1, 3, 4, 5, 6, 7, 8, 9, 10], true, [], []⟩), (9, ⟨[1, 5, 6, 7, 8, 10, 50], true, [], []⟩), (10, ⟨[2], true, [], []⟩), (11, ⟨[1, 5, 6, 7, 8, 10, 52], true, [], []⟩), (12, ⟨[2], true, [], []⟩), (13, ⟨[1, 5, 6, 7, 8, 11, 12], true, [], []⟩), (14, ⟨[5, 6, 7, 8, 11, 12, 13, 14], true, [], []⟩), (15, ⟨[5, 6, 7, 8, 11, 13, 14, 83], true, [], []⟩), (16, ⟨[2], true, [], []⟩), (17, ⟨[5, 6, 7, 8, 11, 13, 84], true, [], []⟩), (18, ⟨[2], true, [], []⟩), (19, ⟨[2], true, [], []⟩)]
def tl7 : List (Nat × Tidy) := []
def rs7 : List AResV := [.tmp 2]
def pr7_0_0 : PT (List RV) := pRs [pR false [rD dB]]
def ur7_0_0 {β : Type} (g : List RV → β) : Bool → β := pr7_0_0.unc g

def E7_0g (vf14_0 : Tf14_0) (vf31_0 : Tf31_0) (vf17_0 : Tf17_0) (vf32_0 : Tf32_0) (vf16_0 : Tf16_0) (vf33_0 : Tf33_0) (vf15_0 : Tf15_0) (vf34_0 : Tf34_0) (vf35_0 : Tf35_0) (vf36_0 : Tf36_0) : EnvK := EnvK.of [⟨14, nt14, [⟨pa14_0, Fn14_0 vf14_0⟩]⟩, ⟨31, nt31, [⟨pa31_0, Fn31_0 vf31_0⟩]⟩, ⟨17, nt17, [⟨pa17_0, Fn17_0 vf17_0⟩]⟩, ⟨32, nt32, [⟨pa32_0, Fn32_0 vf32_0⟩]⟩, ⟨16, nt16, [⟨pa16_0, Fn16_0 vf16_0⟩]⟩, ⟨33, nt33, [⟨pa33_0, Fn33_0 vf33_0⟩]⟩, ⟨15, nt15, [⟨pa15_0, Fn15_0 vf15_0⟩]⟩, ⟨34, nt34, [⟨pa34_0, Fn34_0 vf34_0⟩]⟩, ⟨35, nt35, [⟨pa35_0, Fn35_0 vf35_0⟩]⟩, ⟨36, nt36, [⟨pa36_0, Fn36_0 vf36_0⟩]⟩] noSeq
noncomputable def E7_0 : EnvK := E7_0g f14_0 f31_0 f17_0 f32_0 f16_0 f33_0 f15_0 f34_0 f35_0 f36_0
theorem eo7_0 : E7_0.Ok Try.prog := EnvK.of_ok noSeq_ok ⟨⟨io14_0, trivial⟩, ⟨io31_0, trivial⟩, ⟨io17_0, trivial⟩, ⟨io32_0, trivial⟩, ⟨io16_0, trivial⟩, ⟨io33_0, trivial⟩, ⟨io15_0, trivial⟩, ⟨io34_0, trivial⟩, ⟨io35_0, trivial⟩, ⟨io36_0, trivial⟩, trivial⟩

/-- etalon/etalonlaw08.GrowTracks -/
abbrev Tf7_0 : Type 1 := (α : Type) → Int → Int → Int → Rows → (Bool → Option α) → Option α
def f7_0g (vf14_0 : Tf14_0) (vf15_0 : Tf15_0) (vf16_0 : Tf16_0) (vf17_0 : Tf17_0) (vf31_0 : Tf31_0) (vf32_0 : Tf32_0) (vf33_0 : Tf33_0) (vf34_0 : Tf34_0) (vf35_0 : Tf35_0) (vf36_0 : Tf36_0) (α : Type) (x1 : Int) (x2 : Int) (x3 : Int) (x4 : Rows) (k1 : Bool → Option α) : Option α :=
  vf14_0 α 
    (vf31_0 α x1 x2 x3 x4
      (fun (x5 : Bool) => cK (!x5)
        (k1 true)
        (vf17_0 α x1 x2 x3 x4
          (fun (x6 : Int) (x7 : Int) (x8 : Int) (x9 : Rows) => vf32_0 α x6 x7 x8 x9
            (fun (x10 : Int) (x11 : Int) => vf17_0 α x1 x2 x3 x4
              (fun (x12 : Int) (x13 : Int) (x14 : Int) (x15 : Rows) => vf16_0 α x12 x13 x14 x15
                (fun (x16 : Rows) (x17 : Int) => flatK [x16]
                  (vf17_0 α x1 x2 x3 x4
                    (fun (x18 : Int) (x19 : Int) (x20 : Int) (x21 : Rows) => vf33_0 α x18 x19 x20 x21
                      (fun (x22 : Int) (x23 : Int) (x24 : Int) => vf15_0 α x1 x2 x3 x4
                        (fun (x25 : Int) (x26 : Int) => cK (x10 != x25)
                          (k1 false)
                          (cK (x11 != x26)
                            (k1 false)
                            (cK (x26 != 0)
                              (cK (x17 == x26)
                                (cK (x24 == x26)
                                  (cK (((List.length x16 : Nat) : Int) == 0)
                                    (k1 ((x22 == 0) && ((x23 == 0) && true)))
                                    (k1 false))
                                  (k1 false))
                                (k1 false))
                              (vf34_0 α x1 x2 x3 x4
                                (fun (x27 : Rows) (x28 : Bool) => vf35_0 α x1 x2 x3 x4
                                  (fun (x29 : Int) (x30 : Int) (x31 : Bool) => cK (x28 == x31)
                                    (k1 false)
                                    (cK x31
                                      (cK (x17 == 17)
                                        (cK (((List.length x16 : Nat) : Int) == 0)
                                          (cK (x24 == 0)
                                            (k1 ((x22 == x29) && ((x23 == x30) && true)))
                                            (k1 false))
                                          (k1 false))
                                        (k1 false))
                                      (cK (x17 == 0)
                                        (vf36_0 α x16 x27
                                          (fun (x32 : Bool) => cK x32
                                            (cK (x24 == 17)
                                              (k1 ((x22 == 0) && ((x23 == 0) && true)))
                                              (k1 false))
                                            (k1 false)))
                                        (k1 false)))))))))))))))))))
noncomputable def f7_0 (α : Type) (x1 : Int) (x2 : Int) (x3 : Int) (x4 : Rows) (k1 : Bool → Option α) : Option α := f7_0g f14_0 f15_0 f16_0 f17_0 f31_0 f32_0 f33_0 f34_0 f35_0 f36_0 α x1 x2 x3 x4 k1
def pa7_0 : PT (List DV) := pA [pV true [(dI .i64), (dI .i64), (dI .i64), dL]]
def Fn7_0 (v : Tf7_0) (α : Type) (k : List RV → Option α) : Int → Int → Int → Rows → Option α := fun x1 x2 x3 x4 => v α x1 x2 x3 x4 (fun (y1 : Bool) => ur7_0_0 k y1)
noncomputable def cm7_0g  : MCode := (.seq (.region r7_2 [] (some ⟨[1], true, [], []⟩)) (.seq (.seq (.region r7_5 [] (some ⟨[1, 16], true, [], []⟩)) (.cond (.tmp 16) (.seq (.region r7_8 [] (some ⟨[2], true, [], []⟩)) .ret) .skip)) (.seq (.seq (.region r7_11 [] (some ⟨[1, 19], true, [], []⟩)) (.cond (.tmp 19) (.seq (.region r7_14 [] (some ⟨[2], true, [], []⟩)) .ret) .skip)) (.seq (.region r7_16 [] (some ⟨[1, 3, 4], true, [], []⟩)) (.seq (.region r7_18 [] (some ⟨[1, 3, 4, 5, 6], true, [], []⟩)) (.seq (.region r7_20 [] (some ⟨[1, 3, 4, 5, 6, 7, 8], true, [], []⟩)) (.seq (.region r7_22 [] (some ⟨[1, 3, 4, 5, 6, 7, 8, 9, 10], true, [], []⟩)) (.seq (.seq (.region r7_25 [] (some ⟨[1, 5, 6, 7, 8, 10, 50], true, [], []⟩)) (.cond (.tmp 50) (.seq (.region r7_28 [] (some ⟨[2], true, [], []⟩)) .ret) .skip)) (.seq (.seq (.region r7_31 [] (some ⟨[1, 5, 6, 7, 8, 10, 52], true, [], []⟩)) (.cond (.tmp 52) (.seq (.region r7_34 [] (some ⟨[2], true, [], []⟩)) .ret) .skip)) (.seq (.region r7_36 [] (some ⟨[1, 5, 6, 7, 8, 11, 12], true, [], []⟩)) (.seq (.region r7_38 [] (some ⟨[5, 6, 7, 8, 11, 12, 13, 14], true, [], []⟩)) (.seq (.seq (.region r7_41 [] (some ⟨[5, 6, 7, 8, 11, 13, 14, 83], true, [], []⟩)) (.cond (.tmp 83) (.seq (.region r7_44 [] (some ⟨[2], true, [], []⟩)) .ret) .skip)) (.seq (.seq (.region r7_47 [] (some ⟨[5, 6, 7, 8, 11, 13, 84], true, [], []⟩)) (.cond (.tmp 84) (.seq (.region r7_50 [] (some ⟨[2], true, [], []⟩)) .ret) .skip)) (.seq (.region r7_52 [] (some ⟨[2], true, [], []⟩)) .ret))))))))))))))
noncomputable def cm7_0 : MCode := cm7_0g 
theorem gm7_0 : cm7_0.Good Try.prog E7_0 sh7 := ⟨trivial, ⟨⟨trivial, ⟨⟨trivial, trivial⟩, trivial⟩⟩, ⟨⟨trivial, ⟨⟨trivial, trivial⟩, trivial⟩⟩, ⟨trivial, ⟨trivial, ⟨trivial, ⟨trivial, ⟨⟨trivial, ⟨⟨trivial, trivial⟩, trivial⟩⟩, ⟨⟨trivial, ⟨⟨trivial, trivial⟩, trivial⟩⟩, ⟨trivial, ⟨trivial, ⟨⟨trivial, ⟨⟨trivial, trivial⟩, trivial⟩⟩, ⟨⟨trivial, ⟨⟨trivial, trivial⟩, trivial⟩⟩, ⟨trivial, trivial⟩⟩⟩⟩⟩⟩⟩⟩⟩⟩⟩⟩⟩⟩
theorem fm7_0g (vf14_0 : Tf14_0) (vf31_0 : Tf31_0) (vf17_0 : Tf17_0) (vf32_0 : Tf32_0) (vf16_0 : Tf16_0) (vf33_0 : Tf33_0) (vf15_0 : Tf15_0) (vf34_0 : Tf34_0) (vf35_0 : Tf35_0) (vf36_0 : Tf36_0)  (α : Type) (k : List RV → Option α) : Fn7_0 (f7_0g vf14_0 vf15_0 vf16_0 vf17_0 vf31_0 vf32_0 vf33_0 vf34_0 vf35_0 vf36_0) α k = pa7_0.unc fun ds => fnM Try.prog (E7_0g vf14_0 vf31_0 vf17_0 vf32_0 vf16_0 vf33_0 vf15_0 vf34_0 vf35_0 vf36_0) sh7 (cm7_0g ) rs7 k ds := by kernel_rfl
theorem fm7_0 : ∀ (α : Type) (k : List RV → Option α), Fn7_0 f7_0 α k = pa7_0.unc fun ds => fnM Try.prog E7_0 sh7 cm7_0 rs7 k ds := fm7_0g f14_0 f31_0 f17_0 f32_0 f16_0 f33_0 f15_0 f34_0 f35_0 f36_0

theorem is7 : FnIs Try.prog 7 nt7 tr7 tl7 cm7_0.erase rs7 := ⟨Try.f7, Try.func7, rfl, by kernel_rfl, by kernel_rfl, by kernel_rfl⟩
theorem io7_0 : InstOk Try.prog 7 nt7 ⟨pa7_0, Fn7_0 f7_0⟩ := inst_ok eo7_0 followsTry is7 ⟨⟨sh7, cm7_0, by kernel_rfl, gm7_0, fm7_0⟩⟩

/-! ### F3 etalon/etalonlaw08.GrowNarrowest -/
abbrev nt3 : Nat := 111
def sh3 : List (Nat × List Sh) := [(16, [.sl]), (25, [.int .i64, .int .i64, .int .i64, .sl]), (32, [.int .i64, .int .i64, .int .i64, .sl]), (42, [.int .i64, .int .i64, .int .i64, .sl]), (50, [.sl]), (62, [.int .i64, .int .i64]), (64, [.int .i64]), (70, [.int .i64, .int .i64]), (72, [.int .i64]), (75, [.int .i64, .int .i64, .int .i64, .sl]), (80, [.int .i64, .int .i64, .int .i64, .sl]), (85, [.int .i64, .int .i64, .int .i64, .sl]), (97, [.int .i64]), (98, [.int .i64]), (101, [.int .i64, .int .i64]), (103, [.int .i64]), (106, [.int .i64, .int .i64]), (108, [.int .i64])]
def r3_2 : List AOper := [⟨(some 2), (.box (.tmp 0)), none⟩, ⟨(some 4), (.mv (.const (.bool false))), none⟩]
def r3_5 : List AOper := [⟨(some 13), (.call 14 []), none⟩, ⟨(some 14), (.pure (oB (.unOp .not 4 (.tmp 13)) 4)), none⟩]
def r3_8 : List AOper := [⟨(some 4), (.mv (.const (.bool false))), none⟩]
def r3_11 : List AOper := [⟨(some 15), (.faddr 3 (.tmp 2)), none⟩, ⟨(some 16), (.load false 1 (.tmp 15)), none⟩, ⟨(some 17), (.len (.tmp 16)), none⟩, ⟨(some 18), (.bin .gtr 3 (.tmp 17) (.const (.int .i64 12))), none⟩, ⟨(some 19), (.mv (.tmp 18)), none⟩, ⟨(some 20), (.mv (.tmp 1)), (some (19, false))⟩, ⟨(some 21), (.len (.tmp 20)), (some (19, false))⟩, ⟨(some 22), (.bin .gtr 3 (.tmp 21) (.const (.int .i64 12))), (some (19, false))⟩, ⟨(some 23), (.pick (.tmp 19) (.const (.bool true)) (.tmp 22)), none⟩]
def r3_14 : List AOper := [⟨(some 4), (.mv (.const (.bool true))), none⟩]
def r3_17 : List AOper := [⟨(some 25), (.load true 4 (.tmp 2)), none⟩, ⟨(some 26), (.call 15 [(.tmp 25)]), none⟩, ⟨(some 24), (.mv (.tmp 26)), none⟩, ⟨(some 27), (.extract 0 (.tmp 24)), none⟩, ⟨(some 28), (.extract 1 (.tmp 24)), none⟩, ⟨(some 5), (.mv (.tmp 27)), none⟩, ⟨(some 6), (.mv (.tmp 28)), none⟩]
def r3_19 : List AOper := [⟨(some 29), (.mv (.tmp 6)), none⟩, ⟨(some 30), (.bin .neq 3 (.tmp 29) (.const (.int .i64 0))), none⟩]
def r3_22 : List AOper := [⟨(some 4), (.mv (.const (.bool true))), none⟩]
def r3_24 : List AOper := [⟨(some 32), (.load true 4 (.tmp 2)), none⟩, ⟨(some 33), (.call 17 [(.tmp 32)]), none⟩, ⟨(some 34), (.call 16 [(.tmp 33)]), none⟩, ⟨(some 31), (.mv (.tmp 34)), none⟩, ⟨(some 35), (.extract 0 (.tmp 31)), none⟩, ⟨(some 36), (.extract 1 (.tmp 31)), none⟩, ⟨(some 7), (.mv (.tmp 35)), none⟩, ⟨(some 8), (.mv (.tmp 36)), none⟩]
def r3_27 : List AOper := [⟨(some 37), (.mv (.tmp 8)), none⟩, ⟨(some 38), (.bin .neq 32 (.tmp 37) (.const (.int .i64 0))), none⟩]
def r3_30 : List AOper := [⟨(some 39), (.mv (.tmp 8)), none⟩, ⟨(some 40), (.bin .eql 32 (.tmp 39) (.const (.int .i64 17))), none⟩, ⟨(some 41), (.mv (.tmp 40)), none⟩, ⟨(some 42), (.load true 4 (.tmp 2)), (some (41, true))⟩, ⟨(some 43), (.mv (.tmp 1)), (some (41, true))⟩, ⟨(some 44), (.call 18 [(.tmp 42), (.tmp 43)]), (some (41, true))⟩, ⟨(some 45), (.pure (oB (.unOp .not 4 (.tmp 44)) 4)), (some (41, true))⟩, ⟨(some 46), (.pick (.tmp 41) (.tmp 45) (.const (.bool false))), none⟩, ⟨(some 4), (.mv (.tmp 46)), none⟩]
def r3_33 : List AOper := [⟨(some 47), (.mv (.tmp 7)), none⟩, ⟨(some 48), (.len (.tmp 47)), none⟩, ⟨(some 49), (.faddr 3 (.tmp 2)), none⟩, ⟨(some 50), (.load false 1 (.tmp 49)), none⟩, ⟨(some 51), (.len (.tmp 50)), none⟩, ⟨(some 52), (.bin .neq 3 (.tmp 48) (.tmp 51)), none⟩]
def r3_36 : List AOper := [⟨(some 4), (.mv (.const (.bool false))), none⟩]
def r3_38 : List AOper := [⟨(some 9), (.mv (.const (.slice none 0 0))), none⟩, ⟨(some 10), (.mv (.const (.slice none 0 0))), none⟩]
def r3_41 : List AOper := [⟨(some 11), (.mv (.const (.int .i64 0))), none⟩]
def td3_43 : Option Tidy := (some ⟨[1, 2, 7, 9, 10, 11], true, [⟨false, 7, 0, 20007, 2⟩, ⟨false, 9, 0, 20009, 1⟩, ⟨false, 10, 0, 20010, 1⟩, ⟨true, 2, 3, 30203, 2⟩], []⟩)
def r3_46 : List AOper := [⟨(some 53), (.mv (.tmp 11)), none⟩, ⟨(some 54), (.mv (.tmp 7)), none⟩, ⟨(some 55), (.len (.tmp 54)), none⟩, ⟨(some 56), (.bin .lss 3 (.tmp 53) (.tmp 55)), none⟩]
def r3_50 : List AOper := [⟨(some 59), (.mv (.tmp 9)), none⟩, ⟨(some 60), (.mv (.tmp 7)), none⟩, ⟨(some 61), (.mv (.tmp 11)), none⟩, ⟨(some 62), (.iaddr 2 none (.tmp 60) (.tmp 61)), none⟩, ⟨(some 63), (.faddr 0 (.tmp 62)), none⟩, ⟨(some 64), (.load false 1 (.tmp 63)), none⟩, ⟨(some 65), (.bslice 1 1 [(.v (.int .i64 0))] [(0, (.tmp 64))]), none⟩, ⟨(some 66), (.append 1 8 (.tmp 59) (.tmp 65)), none⟩, ⟨(some 67), (.mv (.tmp 10)), none⟩, ⟨(some 68), (.mv (.tmp 7)), none⟩, ⟨(some 69), (.mv (.tmp 11)), none⟩, ⟨(some 70), (.iaddr 2 none (.tmp 68) (.tmp 69)), none⟩, ⟨(some 71), (.faddr 1 (.tmp 70)), none⟩, ⟨(some 72), (.load false 1 (.tmp 71)), none⟩, ⟨(some 73), (.bslice 1 1 [(.v (.int .i64 0))] [(0, (.tmp 72))]), none⟩, ⟨(some 74), (.append 1 8 (.tmp 67) (.tmp 73)), none⟩, ⟨(some 9), (.mv (.tmp 66)), none⟩, ⟨(some 10), (.mv (.tmp 74)), none⟩]
def r3_51 : List AOper := [⟨(some 57), (.mv (.tmp 11)), none⟩, ⟨(some 58), (.bin .add 3 (.tmp 57) (.const (.int .i64 1))), none⟩, ⟨(some 11), (.mv (.tmp 58)), none⟩]
def r3_54 : List AOper := [⟨(some 75), (.load true 4 (.tmp 2)), none⟩, ⟨(some 76), (.mv (.tmp 9)), none⟩, ⟨(some 77), (.call 18 [(.tmp 75), (.tmp 76)]), none⟩, ⟨(some 78), (.pure (oB (.unOp .not 4 (.tmp 77)) 4)), none⟩, ⟨(some 79), (.mv (.tmp 78)), none⟩, ⟨(some 80), (.load true 4 (.tmp 2)), (some (79, false))⟩, ⟨(some 81), (.mv (.tmp 10)), (some (79, false))⟩, ⟨(some 82), (.call 18 [(.tmp 80), (.tmp 81)]), (some (79, false))⟩, ⟨(some 83), (.pure (oB (.unOp .not 4 (.tmp 82)) 4)), (some (79, false))⟩, ⟨(some 84), (.pick (.tmp 79) (.const (.bool true)) (.tmp 83)), none⟩]
def r3_57 : List AOper := [⟨(some 4), (.mv (.const (.bool false))), none⟩]
def r3_60 : List AOper := [⟨(some 85), (.load true 4 (.tmp 2)), none⟩, ⟨(some 86), (.mv (.tmp 1)), none⟩, ⟨(some 87), (.call 18 [(.tmp 85), (.tmp 86)]), none⟩, ⟨(some 88), (.pure (oB (.unOp .not 4 (.tmp 87)) 4)), none⟩]
def r3_63 : List AOper := [⟨(some 4), (.mv (.const (.bool true))), none⟩]
def r3_66 : List AOper := [⟨(some 12), (.mv (.const (.int .i64 0))), none⟩]
def td3_68 : Option Tidy := (some ⟨[1, 7, 12], true, [⟨false, 7, 0, 20007, 2⟩, ⟨true, 2, 3, 30203, 2⟩], []⟩)
def r3_71 : List AOper := [⟨(some 89), (.mv (.tmp 12)), none⟩, ⟨(some 90), (.mv (.tmp 7)), none⟩, ⟨(some 91), (.len (.tmp 90)), none⟩, ⟨(some 92), (.bin .lss 3 (.tmp 89) (.tmp 91)), none⟩]
def r3_76 : List AOper := [⟨(some 95), (.mv (.tmp 1)), none⟩, ⟨(some 96), (.mv (.tmp 12)), none⟩, ⟨(some 97), (.iaddr 1 none (.tmp 95) (.tmp 96)), none⟩, ⟨(some 98), (.load false 1 (.tmp 97)), none⟩, ⟨(some 99), (.mv (.tmp 7)), none⟩, ⟨(some 100), (.mv (.tmp 12)), none⟩, ⟨(some 101), (.iaddr 2 none (.tmp 99) (.tmp 100)), none⟩, ⟨(some 102), (.faddr 0 (.tmp 101)), none⟩, ⟨(some 103), (.load false 1 (.tmp 102)), none⟩, ⟨(some 104), (.mv (.tmp 7)), none⟩, ⟨(some 105), (.mv (.tmp 12)), none⟩, ⟨(some 106), (.iaddr 2 none (.tmp 104) (.tmp 105)), none⟩, ⟨(some 107), (.faddr 1 (.tmp 106)), none⟩, ⟨(some 108), (.load false 1 (.tmp 107)), none⟩, ⟨(some 109), (.call 19 [(.tmp 98), (.tmp 103), (.tmp 108)]), none⟩, ⟨(some 110), (.pure (oB (.unOp .not 4 (.tmp 109)) 4)), none⟩]
def r3_79 : List AOper := [⟨(some 4), (.mv (.const (.bool false))), none⟩]
def r3_80 : List AOper := [⟨(some 93), (.mv (.tmp 12)), none⟩, ⟨(some 94), (.bin .add 3 (.tmp 93) (.const (.int .i64 1))), none⟩, ⟨(some 12), (.mv (.tmp 94)), none⟩]
def r3_82 : List AOper := [⟨(some 4), (.mv (.const (.bool true))), none⟩]
def tr3 : List (Nat × Tidy) := [(0, ⟨[1, 2], true, [], []⟩), (1, ⟨[1, 2, 14], true, [], []⟩), (2, ⟨[4], true, [], []⟩), (3, ⟨[1, 2, 23], true, [], []⟩), (4, ⟨[4], true, [], []⟩), (5, ⟨[1, 2, 6], true, [], []⟩), (6, ⟨[1, 2, 30], true, [], []⟩), (7, ⟨[4], true, [], []⟩), (8, ⟨[1, 2, 7, 8], true, [], []⟩), (9, ⟨[1, 2, 7, 8, 38], true, [], []⟩), (10, ⟨[4], true, [], []⟩), (11, ⟨[1, 2, 7, 52], true, [], []⟩), (12, ⟨[4], true, [], []⟩), (13, ⟨[1, 2, 7, 9, 10], true, [], []⟩), (14, ⟨[1, 2, 7, 9, 10, 11], true, [], []⟩), (15, ⟨[1, 2, 7, 9, 10, 11, 56], true, [], []⟩), (17, ⟨[1, 2, 7, 9, 10, 11], true, [], []⟩), (16, ⟨[1, 2, 7, 9, 10, 11], true, [], []⟩), (18, ⟨[1, 2, 7, 84], true, [], []⟩), (19, ⟨[4], true, [], []⟩), (20, ⟨[1, 7, 88], true, [], []⟩), (21, ⟨[4], true, [], []⟩), (22, ⟨[1, 7, 12], true, [], []⟩), (23, ⟨[1, 7, 12, 92], true, [], []⟩), (25, ⟨[1, 7, 12, 110], true, [], []⟩), (26, ⟨[4], true, [], []⟩), (24, ⟨[1, 7, 12], true, [], []⟩), (27, ⟨[4], true, [], []⟩)]
def tl3 : List (Nat × Tidy) := [(15, ⟨[1, 2, 7, 9, 10, 11], true, [⟨false, 7, 0, 20007, 2⟩, ⟨false, 9, 0, 20009, 1⟩, ⟨false, 10, 0, 20010, 1⟩, ⟨true, 2, 3, 30203, 2⟩], []⟩), (23, ⟨[1, 7, 12], true, [⟨false, 7, 0, 20007, 2⟩, ⟨true, 2, 3, 30203, 2⟩], []⟩)]
def rs3 : List AResV := [.tmp 4]
def p3_0_0 : PT St := pS [sl 1 (aV false [(cD dL)]), sl 2 (aV false [(cPtr 2 0)]), sl 7 (aV false [(cRef 20007)]), sl 9 (aV false [(cRef 20009)]), sl 10 (aV false [(cRef 20010)]), sl 11 (aV false [(cD (dI .i64))])] [eBox 2 [(cD (dI .i64)), (cD (dI .i64)), (cD (dI .i64)), (cD dL)], eOwn 20007 2, eOwn 20009 1, eOwn 20010 1]
def u3_0_0 {β : Type} (g : St → β) : Rows → Int → Int → Int → Int → Rows → Rows → Rows → Rows → β := p3_0_0.unc g

def p3_0_1 : PT St := pS [sl 1 (aV false [(cD dL)]), sl 2 (aV false [(cPtr 2 0)]), sl 7 (aV false [(cRef 20007)]), sl 9 (aV false [(cRef 20009)]), sl 10 (aV false [(cRef 20010)]), sl 11 (aV false [(cD (dI .i64))]), sl 56 (aV false [(cD dB)])] [eBox 2 [(cD (dI .i64)), (cD (dI .i64)), (cD (dI .i64)), (cD dL)], eOwn 20007 2, eOwn 20009 1, eOwn 20010 1]
def u3_0_1 {β : Type} (g : St → β) : Rows → Int → Bool → Int → Int → Int → Rows → Rows → Rows → Rows → β := p3_0_1.unc g

def p3_0_2 : PT St := pS [sl 1 (aV false [(cD dL)]), sl 7 (aV false [(cRef 20007)]), sl 12 (aV false [(cD (dI .i64))])] [eOwn 20007 2]
def u3_0_2 {β : Type} (g : St → β) : Rows → Int → Rows → β := p3_0_2.unc g

def p3_0_3 : PT St := pS [sl 4 (aV false [(cD dB)])] []
def u3_0_3 {β : Type} (g : St → β) : Bool → β := p3_0_3.unc g

def p3_0_4 : PT St := pS [sl 1 (aV false [(cD dL)]), sl 7 (aV false [(cRef 20007)]), sl 12 (aV false [(cD (dI .i64))]), sl 92 (aV false [(cD dB)])] [eOwn 20007 2]
def u3_0_4 {β : Type} (g : St → β) : Rows → Int → Bool → Rows → β := p3_0_4.unc g

def pr3_0_0 : PT (List RV) := pRs [pR false [rD dB]]
def ur3_0_0 {β : Type} (g : List RV → β) : Bool → β := pr3_0_0.unc g

def E3_0g (vf14_0 : Tf14_0) (vf15_0 : Tf15_0) (vf17_0 : Tf17_0) (vf16_0 : Tf16_0) (vf18_0 : Tf18_0) (vf19_0 : Tf19_0) : EnvK := EnvK.of [⟨14, nt14, [⟨pa14_0, Fn14_0 vf14_0⟩]⟩, ⟨15, nt15, [⟨pa15_0, Fn15_0 vf15_0⟩]⟩, ⟨17, nt17, [⟨pa17_0, Fn17_0 vf17_0⟩]⟩, ⟨16, nt16, [⟨pa16_0, Fn16_0 vf16_0⟩]⟩, ⟨18, nt18, [⟨pa18_0, Fn18_0 vf18_0⟩]⟩, ⟨19, nt19, [⟨pa19_0, Fn19_0 vf19_0⟩]⟩] noSeq
noncomputable def E3_0 : EnvK := E3_0g f14_0 f15_0 f17_0 f16_0 f18_0 f19_0
theorem eo3_0 : E3_0.Ok Try.prog := EnvK.of_ok noSeq_ok ⟨⟨io14_0, trivial⟩, ⟨io15_0, trivial⟩, ⟨io17_0, trivial⟩, ⟨io16_0, trivial⟩, ⟨io18_0, trivial⟩, ⟨io19_0, trivial⟩, trivial⟩

noncomputable def c3_0_68g  : MCode := (.seq (.seq (.region r3_71 [] (some ⟨[1, 7, 12, 92], true, [], []⟩)) (.cond (.tmp 92) .skip (.exit 2))) (.seq (.block 3 (.seq (.region r3_76 [] (some ⟨[1, 7, 12, 110], true, [], []⟩)) (.cond (.tmp 110) (.seq (.region r3_79 [] (some ⟨[4], true, [], []⟩)) .ret) .skip))) (.region r3_80 [] (some ⟨[1, 7, 12], true, [], []⟩))))
noncomputable def c3_0_68 : MCode := c3_0_68g 
theorem g3_0_68 : c3_0_68.Good Try.prog E3_0 sh3 := ⟨⟨trivial, ⟨trivial, trivial⟩⟩, ⟨⟨trivial, ⟨⟨trivial, trivial⟩, trivial⟩⟩, trivial⟩⟩
--CODE 68 0
def S3_0_1g (vf19_0 : Tf19_0) (α : Type) (x33 : Rows) (x35 : Rows) (x34 : Int) (kn : Int → Option α) (k1 : Option α) (k2 : Int → Bool → Option α) : Option α :=
  cK (decide (x34 < ((List.length x35 : Nat) : Int)))
    (rowK x33 x34 [.int .i64]
      (fun (x36 : Int) => ixK x35 x34 2
        (ldK x35 (Int.toNat x34) 0 [.int .i64]
          (fun (x37 : Int) => ixK x35 x34 2
            (ldK x35 (Int.toNat x34) 1 [.int .i64]
              (fun (x38 : Int) => vf19_0 α x36 x37 x38
                (fun (x39 : Bool) => cK (!x39)
                  (k1)
                  (kn (w64 (x34 + 1))))))))))
    (k2 x34 (decide (x34 < ((List.length x35 : Nat) : Int))))
noncomputable def S3_0_1 (α : Type) (x33 : Rows) (x35 : Rows) (x34 : Int) (kn : Int → Option α) (k1 : Option α) (k2 : Int → Bool → Option α) : Option α := S3_0_1g f19_0 α x33 x35 x34 kn k1 k2
noncomputable def R3_0_1 (α : Type) (x33 : Rows) (x35 : Rows) (k1 : Option α) (k2 : Int → Bool → Option α) : Nat → Int → Option α
  | 0, _ => none
  | n + 1, x34 => S3_0_1 α x33 x35 x34 (R3_0_1 α x33 x35 k1 k2 n) k1 k2
noncomputable def L3_0_1 (α : Type) (x33 : Rows) (x35 : Rows) (k1 : Option α) (k2 : Int → Bool → Option α) (x34 : Int) : Option α := R3_0_1 α x33 x35 k1 k2 fuel x34
abbrev TL3_0_1 : Type 1 := (α : Type) → Rows → Rows → (Option α) → (Int → Bool → Option α) → Int → Option α
def F3_0_1 (v : TL3_0_1) (α : Type) (K : Exit → St → Option α) : Rows → Int → Rows → Option α := fun x33 x34 x35 => v α x33 x35 (u3_0_3 (K .ret) false) (fun (y1 : Int) (y2 : Bool) => u3_0_4 (K (.exit 2)) x33 y1 y2 x35) x34
theorem r3_0_1g (vf14_0 : Tf14_0) (vf15_0 : Tf15_0) (vf17_0 : Tf17_0) (vf16_0 : Tf16_0) (vf18_0 : Tf18_0) (vf19_0 : Tf19_0)  (α : Type) (K : Exit → St → Option α) (Kn : St → Option α) (x33 : Rows) (x34 : Int) (x35 : Rows) : u3_0_2 (fun σ => runM Try.prog (E3_0g vf14_0 vf15_0 vf17_0 vf16_0 vf18_0 vf19_0) sh3 (c3_0_68g ) (thenK (fun σ => tidyK td3_68 σ Kn) K) σ) x33 x34 x35 = S3_0_1g vf19_0 α x33 x35 x34 (fun x34 => u3_0_2 Kn x33 x34 x35) (u3_0_3 (K .ret) false) (fun (y1 : Int) (y2 : Bool) => u3_0_4 (K (.exit 2)) x33 y1 y2 x35) := by kernel_rfl
theorem r3_0_1 (α : Type) (K : Exit → St → Option α) (Kn : St → Option α) (x33 : Rows) (x34 : Int) (x35 : Rows) : u3_0_2 (fun σ => runM Try.prog E3_0 sh3 c3_0_68 (thenK (fun σ => tidyK td3_68 σ Kn) K) σ) x33 x34 x35 = S3_0_1 α x33 x35 x34 (fun x34 => u3_0_2 Kn x33 x34 x35) (u3_0_3 (K .ret) false) (fun (y1 : Int) (y2 : Bool) => u3_0_4 (K (.exit 2)) x33 y1 y2 x35) := r3_0_1g f14_0 f15_0 f17_0 f16_0 f18_0 f19_0 α K Kn x33 x34 x35
theorem t3_0_1 (α : Type) (K : Exit → St → Option α) : ∀ (n : Nat) (x33 : Rows) (x34 : Int) (x35 : Rows), R3_0_1 α x33 x35 (u3_0_3 (K .ret) false) (fun (y1 : Int) (y2 : Bool) => u3_0_4 (K (.exit 2)) x33 y1 y2 x35) n x34 = u3_0_2 (loopT (runM Try.prog E3_0 sh3 c3_0_68) td3_68 K n) x33 x34 x35 := by
  intro n
  induction n with
  | zero => intros; rfl
  | succ n ih => intro x33 x34 x35; exact (congrArg (fun kn => S3_0_1 α x33 x35 x34 kn (u3_0_3 (K .ret) false) (fun (y1 : Int) (y2 : Bool) => u3_0_4 (K (.exit 2)) x33 y1 y2 x35)) (funext fun x34 => ih x33 x34 x35)).trans (r3_0_1 α K (loopT (runM Try.prog E3_0 sh3 c3_0_68) td3_68 K n) x33 x34 x35).symm
theorem m3_0_1 : ∀ (α : Type) (K : Exit → St → Option α), F3_0_1 L3_0_1 α K = p3_0_2.unc fun σ => loopT (runM Try.prog E3_0 sh3 c3_0_68) td3_68 K fuel σ := fun α K => funext fun x33 => funext fun x34 => funext fun x35 => t3_0_1 α K fuel x33 x34 x35

noncomputable def c3_0_43g  : MCode := (.seq (.seq (.region r3_46 [] (some ⟨[1, 2, 7, 9, 10, 11, 56], true, [], []⟩)) (.cond (.tmp 56) .skip (.exit 0))) (.seq (.block 1 (.region r3_50 [(6, 11), (7, 11), (6, 13), (7, 13), (3, 14), (5, 14), (6, 14), (7, 14)] (some ⟨[1, 2, 7, 9, 10, 11], true, [], []⟩))) (.region r3_51 [] (some ⟨[1, 2, 7, 9, 10, 11], true, [], []⟩))))
noncomputable def c3_0_43 : MCode := c3_0_43g 
theorem g3_0_43 : c3_0_43.Good Try.prog E3_0 sh3 := ⟨⟨trivial, ⟨trivial, trivial⟩⟩, ⟨trivial, trivial⟩⟩
--CODE 43 0
def S3_0_0g  (α : Type) (x21 : Rows) (x16 : Int) (x22 : Rows) (x23 : Rows) (kn : Int → Rows → Rows → Option α) (k1 : Int → Bool → Rows → Rows → Option α) : Option α :=
  cK (decide (x16 < ((List.length x21 : Nat) : Int)))
    (ixK x21 x16 2
      (ldK x21 (Int.toNat x16) 0 [.int .i64]
        (fun (x24 : Int) => gK (apOk 1 8 x22 [[DC.v (.int .i64 x24)]]) (ixK x21 x16 2
          (ldK x21 (Int.toNat x16) 1 [.int .i64]
            (fun (x25 : Int) => gK (apOk 1 8 x23 [[DC.v (.int .i64 x25)]]) (kn (w64 (x16 + 1)) (x22 ++ [[DC.v (.int .i64 x24)]]) (x23 ++ [[DC.v (.int .i64 x25)]]))))))))
    (k1 x16 (decide (x16 < ((List.length x21 : Nat) : Int))) x22 x23)
noncomputable def S3_0_0 (α : Type) (x21 : Rows) (x16 : Int) (x22 : Rows) (x23 : Rows) (kn : Int → Rows → Rows → Option α) (k1 : Int → Bool → Rows → Rows → Option α) : Option α := S3_0_0g  α x21 x16 x22 x23 kn k1
noncomputable def R3_0_0 (α : Type) (x21 : Rows) (k1 : Int → Bool → Rows → Rows → Option α) : Nat → Int → Rows → Rows → Option α
  | 0, _, _, _ => none
  | n + 1, x16, x22, x23 => S3_0_0 α x21 x16 x22 x23 (R3_0_0 α x21 k1 n) k1
noncomputable def L3_0_0 (α : Type) (x21 : Rows) (k1 : Int → Bool → Rows → Rows → Option α) (x16 : Int) (x22 : Rows) (x23 : Rows) : Option α := R3_0_0 α x21 k1 fuel x16 x22 x23
abbrev TL3_0_0 : Type 1 := (α : Type) → Rows → (Int → Bool → Rows → Rows → Option α) → Int → Rows → Rows → Option α
def F3_0_0 (v : TL3_0_0) (α : Type) (K : Exit → St → Option α) : Rows → Int → Int → Int → Int → Rows → Rows → Rows → Rows → Option α := fun x15 x16 x17 x18 x19 x20 x21 x22 x23 => v α x21 (fun (y1 : Int) (y2 : Bool) (y3 : Rows) (y4 : Rows) => u3_0_1 (K (.exit 0)) x15 y1 y2 x17 x18 x19 x20 x21 y3 y4) x16 x22 x23
theorem r3_0_0g (vf14_0 : Tf14_0) (vf15_0 : Tf15_0) (vf17_0 : Tf17_0) (vf16_0 : Tf16_0) (vf18_0 : Tf18_0) (vf19_0 : Tf19_0)  (α : Type) (K : Exit → St → Option α) (Kn : St → Option α) (x15 : Rows) (x16 : Int) (x17 : Int) (x18 : Int) (x19 : Int) (x20 : Rows) (x21 : Rows) (x22 : Rows) (x23 : Rows) : u3_0_0 (fun σ => runM Try.prog (E3_0g vf14_0 vf15_0 vf17_0 vf16_0 vf18_0 vf19_0) sh3 (c3_0_43g ) (thenK (fun σ => tidyK td3_43 σ Kn) K) σ) x15 x16 x17 x18 x19 x20 x21 x22 x23 = S3_0_0g  α x21 x16 x22 x23 (fun x16 x22 x23 => u3_0_0 Kn x15 x16 x17 x18 x19 x20 x21 x22 x23) (fun (y1 : Int) (y2 : Bool) (y3 : Rows) (y4 : Rows) => u3_0_1 (K (.exit 0)) x15 y1 y2 x17 x18 x19 x20 x21 y3 y4) := by kernel_rfl
theorem r3_0_0 (α : Type) (K : Exit → St → Option α) (Kn : St → Option α) (x15 : Rows) (x16 : Int) (x17 : Int) (x18 : Int) (x19 : Int) (x20 : Rows) (x21 : Rows) (x22 : Rows) (x23 : Rows) : u3_0_0 (fun σ => runM Try.prog E3_0 sh3 c3_0_43 (thenK (fun σ => tidyK td3_43 σ Kn) K) σ) x15 x16 x17 x18 x19 x20 x21 x22 x23 = S3_0_0 α x21 x16 x22 x23 (fun x16 x22 x23 => u3_0_0 Kn x15 x16 x17 x18 x19 x20 x21 x22 x23) (fun (y1 : Int) (y2 : Bool) (y3 : Rows) (y4 : Rows) => u3_0_1 (K (.exit 0)) x15 y1 y2 x17 x18 x19 x20 x21 y3 y4) := r3_0_0g f14_0 f15_0 f17_0 f16_0 f18_0 f19_0 α K Kn x15 x16 x17 x18 x19 x20 x21 x22 x23
theorem t3_0_0 (α : Type) (K : Exit → St → Option α) : ∀ (n : Nat) (x15 : Rows) (x16 : Int) (x17 : Int) (x18 : Int) (x19 : Int) (x20 : Rows) (x21 : Rows) (x22 : Rows) (x23 : Rows), R3_0_0 α x21 (fun (y1 : Int) (y2 : Bool) (y3 : Rows) (y4 : Rows) => u3_0_1 (K (.exit 0)) x15 y1 y2 x17 x18 x19 x20 x21 y3 y4) n x16 x22 x23 = u3_0_0 (loopT (runM Try.prog E3_0 sh3 c3_0_43) td3_43 K n) x15 x16 x17 x18 x19 x20 x21 x22 x23 := by
  intro n
  induction n with
  | zero => intros; rfl
  | succ n ih => intro x15 x16 x17 x18 x19 x20 x21 x22 x23; exact (congrArg (fun kn => S3_0_0 α x21 x16 x22 x23 kn (fun (y1 : Int) (y2 : Bool) (y3 : Rows) (y4 : Rows) => u3_0_1 (K (.exit 0)) x15 y1 y2 x17 x18 x19 x20 x21 y3 y4)) (funext fun x16 => funext fun x22 => funext fun x23 => ih x15 x16 x17 x18 x19 x20 x21 x22 x23)).trans (r3_0_0 α K (loopT (runM Try.prog E3_0 sh3 c3_0_43) td3_43 K n) x15 x16 x17 x18 x19 x20 x21 x22 x23).symm
theorem m3_0_0 : ∀ (α : Type) (K : Exit → St → Option α), F3_0_0 L3_0_0 α K = p3_0_0.unc fun σ => loopT (runM Try.prog E3_0 sh3 c3_0_43) td3_43 K fuel σ := fun α K => funext fun x15 => funext fun x16 => funext fun x17 => funext fun x18 => funext fun x19 => funext fun x20 => funext fun x21 => funext fun x22 => funext fun x23 => t3_0_0 α K fuel x15 x16 x17 x18 x19 x20 x21 x22 x23

/-- etalon/etalonlaw08.GrowNarrowest -/
abbrev Tf3_0 : Type 1 := (α : Type) → Int → Int → Int → Rows → Rows → (Bool → Option α) → Option α
def f3_0g (vL3_0_0 : TL3_0_0) (vL3_0_1 : TL3_0_1) (vf14_0 : Tf14_0) (vf15_0 : Tf15_0) (vf16_0 : Tf16_0) (vf17_0 : Tf17_0) (vf18_0 : Tf18_0) (α : Type) (x1 : Int) (x2 : Int) (x3 : Int) (x4 : Rows) (x5 : Rows) (k1 : Bool → Option α) : Option α :=
  vf14_0 α 
    (cK (decide (12 < ((List.length x4 : Nat) : Int)))
      (k1 true)
      (cK (decide (12 < ((List.length x5 : Nat) : Int)))
        (k1 true)
        (vf15_0 α x1 x2 x3 x4
          (fun (x6 : Int) (x7 : Int) => cK (x7 != 0)
            (k1 true)
            (vf17_0 α x1 x2 x3 x4
              (fun (x8 : Int) (x9 : Int) (x10 : Int) (x11 : Rows) => vf16_0 α x8 x9 x10 x11
                (fun (x12 : Rows) (x13 : Int) => flatK [x12]
                  (cK (x13 != 0)
                    (cK (x13 == 17)
                      (vf18_0 α x1 x2 x3 x4 x5
                        (fun (x14 : Bool) => k1 (!x14)))
                      (k1 false))
                    (cK (((List.length x12 : Nat) : Int) != ((List.length x4 : Nat) : Int))
                      (k1 false)
                      (vL3_0_0 α x12
                        (fun (x26 : Int) (x27 : Bool) (x28 : Rows) (x29 : Rows) => vf18_0 α x1 x2 x3 x4 x28
                          (fun (x30 : Bool) => cK (!x30)
                            (k1 false)
                            (vf18_0 α x1 x2 x3 x4 x29
                              (fun (x31 : Bool) => cK (!x31)
                                (k1 false)
                                (vf18_0 α x1 x2 x3 x4 x5
                                  (fun (x32 : Bool) => cK (!x32)
                                    (k1 true)
                                    (vL3_0_1 α x5 x12
                                      (k1 false)
                                      (fun (x40 : Int) (x41 : Bool) => k1 true) 0))))))) 0 [] []))))))))))
noncomputable def f3_0 (α : Type) (x1 : Int) (x2 : Int) (x3 : Int) (x4 : Rows) (x5 : Rows) (k1 : Bool → Option α) : Option α := f3_0g L3_0_0 L3_0_1 f14_0 f15_0 f16_0 f17_0 f18_0 α x1 x2 x3 x4 x5 k1
def pa3_0 : PT (List DV) := pA [pV true [(dI .i64), (dI .i64), (dI .i64), dL], pV false [dL]]
def Fn3_0 (v : Tf3_0) (α : Type) (k : List RV → Option α) : Int → Int → Int → Rows → Rows → Option α := fun x1 x2 x3 x4 x5 => v α x1 x2 x3 x4 x5 (fun (y1 : Bool) => ur3_0_0 k y1)
noncomputable def cm3_0g (vL3_0_0 : TL3_0_0) (vL3_0_1 : TL3_0_1) : MCode := (.seq (.region r3_2 [] (some ⟨[1, 2], true, [], []⟩)) (.seq (.seq (.region r3_5 [] (some ⟨[1, 2, 14], true, [], []⟩)) (.cond (.tmp 14) (.seq (.region r3_8 [] (some ⟨[4], true, [], []⟩)) .ret) .skip)) (.seq (.seq (.region r3_11 [] (some ⟨[1, 2, 23], true, [], []⟩)) (.cond (.tmp 23) (.seq (.region r3_14 [] (some ⟨[4], true, [], []⟩)) .ret) .skip)) (.seq (.seq (.region r3_17 [] (some ⟨[1, 2, 6], true, [], []⟩)) (.seq (.region r3_19 [] (some ⟨[1, 2, 30], true, [], []⟩)) (.cond (.tmp 30) (.seq (.region r3_22 [] (some ⟨[4], true, [], []⟩)) .ret) .skip))) (.seq (.region r3_24 [] (some ⟨[1, 2, 7, 8], true, [], []⟩)) (.seq (.seq (.region r3_27 [] (some ⟨[1, 2, 7, 8, 38], true, [], []⟩)) (.cond (.tmp 38) (.seq (.region r3_30 [] (some ⟨[4], true, [], []⟩)) .ret) .skip)) (.seq (.seq (.region r3_33 [] (some ⟨[1, 2, 7, 52], true, [], []⟩)) (.cond (.tmp 52) (.seq (.region r3_36 [] (some ⟨[4], true, [], []⟩)) .ret) .skip)) (.seq (.region r3_38 [] (some ⟨[1, 2, 7, 9, 10], true, [], []⟩)) (.seq (.seq (.region r3_41 [] (some ⟨[1, 2, 7, 9, 10, 11], true, [], []⟩)) (.block 0 (.loop td3_43 [⟨p3_0_0, F3_0_0 vL3_0_0⟩] c3_0_43))) (.seq (.seq (.region r3_54 [] (some ⟨[1, 2, 7, 84], true, [], []⟩)) (.cond (.tmp 84) (.seq (.region r3_57 [] (some ⟨[4], true, [], []⟩)) .ret) .skip)) (.seq (.seq (.region r3_60 [] (some ⟨[1, 7, 88], true, [], []⟩)) (.cond (.tmp 88) (.seq (.region r3_63 [] (some ⟨[4], true, [], []⟩)) .ret) .skip)) (.seq (.seq (.region r3_66 [] (some ⟨[1, 7, 12], true, [], []⟩)) (.block 2 (.loop td3_68 [⟨p3_0_2, F3_0_1 vL3_0_1⟩] c3_0_68))) (.seq (.region r3_82 [] (some ⟨[4], true, [], []⟩)) .ret)))))))))))))
noncomputable def cm3_0 : MCode := cm3_0g L3_0_0 L3_0_1
theorem gm3_0 : cm3_0.Good Try.prog E3_0 sh3 := ⟨trivial, ⟨⟨trivial, ⟨⟨trivial, trivial⟩, trivial⟩⟩, ⟨⟨trivial, ⟨⟨trivial, trivial⟩, trivial⟩⟩, ⟨⟨trivial, ⟨trivial, ⟨⟨trivial, trivial⟩, trivial⟩⟩⟩, ⟨trivial, ⟨⟨trivial, ⟨⟨trivial, trivial⟩, trivial⟩⟩, ⟨⟨trivial, ⟨⟨trivial, trivial⟩, trivial⟩⟩, ⟨trivial, ⟨⟨trivial, ⟨g3_0_43, m3_0_0, trivial⟩⟩, ⟨⟨trivial, ⟨⟨trivial, trivial⟩, trivial⟩⟩, ⟨⟨trivial, ⟨⟨trivial, trivial⟩, trivial⟩⟩, ⟨⟨trivial, ⟨g3_0_68, m3_0_1, trivial⟩⟩, ⟨trivial, trivial⟩⟩⟩⟩⟩⟩⟩⟩⟩⟩⟩⟩⟩
theorem fm3_0g (vf14_0 : Tf14_0) (vf15_0 : Tf15_0) (vf17_0 : Tf17_0) (vf16_0 : Tf16_0) (vf18_0 : Tf18_0) (vf19_0 : Tf19_0) (vL3_0_0 : TL3_0_0) (vL3_0_1 : TL3_0_1) (α : Type) (k : List RV → Option α) : Fn3_0 (f3_0g vL3_0_0 vL3_0_1 vf14_0 vf15_0 vf16_0 vf17_0 vf18_0) α k = pa3_0.unc fun ds => fnM Try.prog (E3_0g vf14_0 vf15_0 vf17_0 vf16_0 vf18_0 vf19_0) sh3 (cm3_0g vL3_0_0 vL3_0_1) rs3 k ds := by kernel_rfl
theorem fm3_0 : ∀ (α : Type) (k : List RV → Option α), Fn3_0 f3_0 α k = pa3_0.unc fun ds => fnM Try.prog E3_0 sh3 cm3_0 rs3 k ds := fm3_0g f14_0 f15_0 f17_0 f16_0 f18_0 f19_0 L3_0_0 L3_0_1

theorem is3 : FnIs Try.prog 3 nt3 tr3 tl3 cm3_0.erase rs3 := ⟨Try.f3, Try.func3, rfl, by kernel_rfl, by kernel_rfl, by kernel_rfl⟩
theorem io3_0 : InstOk Try.prog 3 nt3 ⟨pa3_0, Fn3_0 f3_0⟩ := inst_ok eo3_0 followsTry is3 ⟨⟨sh3, cm3_0, by kernel_rfl, gm3_0, fm3_0⟩⟩


end Go.AM.K
