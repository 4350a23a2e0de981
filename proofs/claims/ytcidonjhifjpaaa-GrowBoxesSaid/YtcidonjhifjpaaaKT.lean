/- Printed by KGen. -/
import Derived.Test.YtcidonjhifjpaaaAcC
namespace Go.AM.K
open Go.Proofs
set_option maxRecDepth 100000
set_option linter.unusedVariables false

theorem followsTry : Try.prog.follows .mixedOrders = true := by kernel_rfl

/-! ### F92 etalon/grow.up -/
abbrev nt92 : Nat := 11
def sh92 : List (Nat × List Sh) := []
def r92_2 : List AOper := [⟨(some 4), (.mv (.const (.int .i64 0))), none⟩]
def r92_4 : List AOper := [⟨(some 5), (.mv (.tmp 0)), none⟩, ⟨(some 6), (.mv (.tmp 1)), none⟩, ⟨(some 7), (.bin .add 3 (.tmp 5) (.tmp 6)), none⟩, ⟨(some 8), (.bin .sub 3 (.tmp 7) (.const (.int .i64 1))), none⟩, ⟨(some 9), (.mv (.tmp 1)), none⟩, ⟨(some 10), (.bin .quo 3 (.tmp 8) (.tmp 9)), none⟩, ⟨(some 4), (.mv (.tmp 10)), none⟩]
def tr92 : List (Nat × Tidy) := [(0, ⟨[0, 1], true, [], []⟩), (1, ⟨[4], true, [], []⟩)]
def tl92 : List (Nat × Tidy) := []
def rs92 : List AResV := [.tmp 4]
def pr92_0_0 : PT (List RV) := pRs [pR false [rD (dI .i64)]]
def ur92_0_0 {β : Type} (g : List RV → β) : Int → β := pr92_0_0.unc g

def E92_0g  : EnvK := EnvK.of [] noSeq
noncomputable def E92_0 : EnvK := E92_0g 
theorem eo92_0 : E92_0.Ok Try.prog := EnvK.of_ok noSeq_ok trivial

/-- etalon/grow.up -/
abbrev Tf92_0 : Type 1 := (α : Type) → Int → Int → (Int → Option α) → Option α
def f92_0g  (α : Type) (x1 : Int) (x2 : Int) (k1 : Int → Option α) : Option α :=
  gK (x2 != 0) (k1 (w64 (Int.tdiv (w64 ((w64 (x1 + x2)) - 1)) x2)))
noncomputable def f92_0 (α : Type) (x1 : Int) (x2 : Int) (k1 : Int → Option α) : Option α := f92_0g  α x1 x2 k1
def pa92_0 : PT (List DV) := pA [pV false [(dI .i64)], pV false [(dI .i64)]]
def Fn92_0 (v : Tf92_0) (α : Type) (k : List RV → Option α) : Int → Int → Option α := fun x1 x2 => v α x1 x2 (fun (y1 : Int) => ur92_0_0 k y1)
noncomputable def cm92_0g  : MCode := (.seq (.region r92_2 [] (some ⟨[0, 1], true, [], []⟩)) (.seq (.region r92_4 [] (some ⟨[4], true, [], []⟩)) .ret))
noncomputable def cm92_0 : MCode := cm92_0g 
theorem gm92_0 : cm92_0.Good Try.prog E92_0 sh92 := ⟨trivial, ⟨trivial, trivial⟩⟩
theorem fm92_0g   (α : Type) (k : List RV → Option α) : Fn92_0 (f92_0g ) α k = pa92_0.unc fun ds => fnM Try.prog (E92_0g ) sh92 (cm92_0g ) rs92 k ds := by kernel_rfl
theorem fm92_0 : ∀ (α : Type) (k : List RV → Option α), Fn92_0 f92_0 α k = pa92_0.unc fun ds => fnM Try.prog E92_0 sh92 cm92_0 rs92 k ds := fm92_0g 

theorem is92 : FnIs Try.prog 92 nt92 tr92 tl92 cm92_0.erase rs92 := ⟨Try.f92, Try.func92, rfl, by kernel_rfl, by kernel_rfl, by kernel_rfl⟩
theorem io92_0 : InstOk Try.prog 92 nt92 ⟨pa92_0, Fn92_0 f92_0⟩ := inst_ok eo92_0 followsTry is92 ⟨⟨sh92, cm92_0, by kernel_rfl, gm92_0, fm92_0⟩⟩

/-! ### F91 etalon/grow.down -/
abbrev nt91 : Nat := 8
def sh91 : List (Nat × List Sh) := []
def r91_2 : List AOper := [⟨(some 4), (.mv (.const (.int .i64 0))), none⟩]
def r91_4 : List AOper := [⟨(some 5), (.mv (.tmp 0)), none⟩, ⟨(some 6), (.mv (.tmp 1)), none⟩, ⟨(some 7), (.bin .quo 3 (.tmp 5) (.tmp 6)), none⟩, ⟨(some 4), (.mv (.tmp 7)), none⟩]
def tr91 : List (Nat × Tidy) := [(0, ⟨[0, 1], true, [], []⟩), (1, ⟨[4], true, [], []⟩)]
def tl91 : List (Nat × Tidy) := []
def rs91 : List AResV := [.tmp 4]
def pr91_0_0 : PT (List RV) := pRs [pR false [rD (dI .i64)]]
def ur91_0_0 {β : Type} (g : List RV → β) : Int → β := pr91_0_0.unc g

def E91_0g  : EnvK := EnvK.of [] noSeq
noncomputable def E91_0 : EnvK := E91_0g 
theorem eo91_0 : E91_0.Ok Try.prog := EnvK.of_ok noSeq_ok trivial

/-- etalon/grow.down -/
abbrev Tf91_0 : Type 1 := (α : Type) → Int → Int → (Int → Option α) → Option α
def f91_0g  (α : Type) (x1 : Int) (x2 : Int) (k1 : Int → Option α) : Option α :=
  gK (x2 != 0) (k1 (w64 (Int.tdiv x1 x2)))
noncomputable def f91_0 (α : Type) (x1 : Int) (x2 : Int) (k1 : Int → Option α) : Option α := f91_0g  α x1 x2 k1
def pa91_0 : PT (List DV) := pA [pV false [(dI .i64)], pV false [(dI .i64)]]
def Fn91_0 (v : Tf91_0) (α : Type) (k : List RV → Option α) : Int → Int → Option α := fun x1 x2 => v α x1 x2 (fun (y1 : Int) => ur91_0_0 k y1)
noncomputable def cm91_0g  : MCode := (.seq (.region r91_2 [] (some ⟨[0, 1], true, [], []⟩)) (.seq (.region r91_4 [] (some ⟨[4], true, [], []⟩)) .ret))
noncomputable def cm91_0 : MCode := cm91_0g 
theorem gm91_0 : cm91_0.Good Try.prog E91_0 sh91 := ⟨trivial, ⟨trivial, trivial⟩⟩
theorem fm91_0g   (α : Type) (k : List RV → Option α) : Fn91_0 (f91_0g ) α k = pa91_0.unc fun ds => fnM Try.prog (E91_0g ) sh91 (cm91_0g ) rs91 k ds := by kernel_rfl
theorem fm91_0 : ∀ (α : Type) (k : List RV → Option α), Fn91_0 f91_0 α k = pa91_0.unc fun ds => fnM Try.prog E91_0 sh91 cm91_0 rs91 k ds := fm91_0g 

theorem is91 : FnIs Try.prog 91 nt91 tr91 tl91 cm91_0.erase rs91 := ⟨Try.f91, Try.func91, rfl, by kernel_rfl, by kernel_rfl, by kernel_rfl⟩
theorem io91_0 : InstOk Try.prog 91 nt91 ⟨pa91_0, Fn91_0 f91_0⟩ := inst_ok eo91_0 followsTry is91 ⟨⟨sh91, cm91_0, by kernel_rfl, gm91_0, fm91_0⟩⟩

/-! ### F88 etalon/grow.first -/
abbrev nt88 : Nat := 15
def sh88 : List (Nat × List Sh) := [(9, [.int .i64]), (10, [.int .i64])]
def r88_2 : List AOper := [⟨(some 2), (.mv (.const (.int .i64 0))), none⟩]
def r88_5 : List AOper := [⟨(some 5), (.mv (.tmp 0)), none⟩, ⟨(some 6), (.len (.tmp 5)), none⟩, ⟨(some 7), (.mv (.const (.int .i64 0))), none⟩]
def td88_7 : Option Tidy := (some ⟨[5, 6, 7], true, [⟨false, 5, 0, 20005, 1⟩], []⟩)
def r88_9 : List AOper := [⟨(some 8), (.bin .lss 3 (.tmp 7) (.tmp 6)), none⟩]
def r88_15 : List AOper := [⟨(some 9), (.iaddr 1 none (.tmp 5) (.tmp 7)), none⟩, ⟨(some 10), (.load false 1 (.tmp 9)), none⟩, ⟨(some 4), (.mv (.tmp 10)), none⟩]
def r88_17 : List AOper := [⟨(some 11), (.mv (.tmp 4)), none⟩, ⟨(some 12), (.bin .neq 32 (.tmp 11) (.const (.int .i64 0))), none⟩]
def r88_20 : List AOper := [⟨(some 13), (.mv (.tmp 4)), none⟩, ⟨(some 2), (.mv (.tmp 13)), none⟩]
def r88_21 : List AOper := [⟨(some 14), (.bin .add 3 (.tmp 7) (.const (.int .i64 1))), none⟩, ⟨(some 7), (.mv (.tmp 14)), none⟩]
def r88_23 : List AOper := [⟨(some 2), (.mv (.const (.int .i64 0))), none⟩]
def tr88 : List (Nat × Tidy) := [(0, ⟨[0], true, [], []⟩), (1, ⟨[5, 6, 7], true, [], []⟩), (2, ⟨[5, 6, 7, 8], true, [], []⟩), (3, ⟨[4, 5, 6, 7], true, [], []⟩), (4, ⟨[4, 5, 6, 7, 12], true, [], []⟩), (5, ⟨[2], true, [], []⟩), (6, ⟨[5, 6, 7], true, [], []⟩), (7, ⟨[2], true, [], []⟩)]
def tl88 : List (Nat × Tidy) := [(2, ⟨[5, 6, 7], true, [⟨false, 5, 0, 20005, 1⟩], []⟩)]
def rs88 : List AResV := [.tmp 2]
def p88_0_0 : PT St := pS [sl 5 (aV false [(cD dL)]), sl 6 (aV false [(cD (dI .i64))]), sl 7 (aV false [(cD (dI .i64))])] []
def u88_0_0 {β : Type} (g : St → β) : Rows → Int → Int → β := p88_0_0.unc g

def p88_0_1 : PT St := pS [sl 2 (aV false [(cD (dI .i64))])] []
def u88_0_1 {β : Type} (g : St → β) : Int → β := p88_0_1.unc g

def p88_0_2 : PT St := pS [sl 5 (aV false [(cD dL)]), sl 6 (aV false [(cD (dI .i64))]), sl 7 (aV false [(cD (dI .i64))]), sl 8 (aV false [(cD dB)])] []
def u88_0_2 {β : Type} (g : St → β) : Rows → Int → Int → Bool → β := p88_0_2.unc g

def pr88_0_0 : PT (List RV) := pRs [pR false [rD (dI .i64)]]
def ur88_0_0 {β : Type} (g : List RV → β) : Int → β := pr88_0_0.unc g

def E88_0g  : EnvK := EnvK.of [] noSeq
noncomputable def E88_0 : EnvK := E88_0g 
theorem eo88_0 : E88_0.Ok Try.prog := EnvK.of_ok noSeq_ok trivial

noncomputable def c88_0_7g  : MCode := (.seq (.region r88_9 [] (some ⟨[5, 6, 7, 8], true, [], []⟩)) (.seq (.cond (.tmp 8) .skip (.exit 0)) (.seq (.block 1 (.seq (.region r88_15 [] (some ⟨[4, 5, 6, 7], true, [], []⟩)) (.seq (.region r88_17 [] (some ⟨[4, 5, 6, 7, 12], true, [], []⟩)) (.cond (.tmp 12) (.seq (.region r88_20 [] (some ⟨[2], true, [], []⟩)) .ret) .skip)))) (.region r88_21 [] (some ⟨[5, 6, 7], true, [], []⟩)))))
noncomputable def c88_0_7 : MCode := c88_0_7g 
theorem g88_0_7 : c88_0_7.Good Try.prog E88_0 sh88 := ⟨trivial, ⟨⟨trivial, trivial⟩, ⟨⟨trivial, ⟨trivial, ⟨⟨trivial, trivial⟩, trivial⟩⟩⟩, trivial⟩⟩⟩
--CODE 7 0
def S88_0_0g  (α : Type) (x2 : Rows) (x3 : Int) (x4 : Int) (kn : Int → Option α) (k1 : Int → Option α) (k2 : Int → Bool → Option α) : Option α :=
  cK (decide (x4 < x3))
    (rowK x2 x4 [.int .i64]
      (fun (x5 : Int) => cK (x5 != 0)
        (k1 x5)
        (kn (w64 (x4 + 1)))))
    (k2 x4 (decide (x4 < x3)))
noncomputable def S88_0_0 (α : Type) (x2 : Rows) (x3 : Int) (x4 : Int) (kn : Int → Option α) (k1 : Int → Option α) (k2 : Int → Bool → Option α) : Option α := S88_0_0g  α x2 x3 x4 kn k1 k2
noncomputable def R88_0_0 (α : Type) (x2 : Rows) (x3 : Int) (k1 : Int → Option α) (k2 : Int → Bool → Option α) : Nat → Int → Option α
  | 0, _ => none
  | n + 1, x4 => S88_0_0 α x2 x3 x4 (R88_0_0 α x2 x3 k1 k2 n) k1 k2
noncomputable def L88_0_0 (α : Type) (x2 : Rows) (x3 : Int) (k1 : Int → Option α) (k2 : Int → Bool → Option α) (x4 : Int) : Option α := R88_0_0 α x2 x3 k1 k2 fuel x4
abbrev TL88_0_0 : Type 1 := (α : Type) → Rows → Int → (Int → Option α) → (Int → Bool → Option α) → Int → Option α
def F88_0_0 (v : TL88_0_0) (α : Type) (K : Exit → St → Option α) : Rows → Int → Int → Option α := fun x2 x3 x4 => v α x2 x3 (fun (y1 : Int) => u88_0_1 (K .ret) y1) (fun (y1 : Int) (y2 : Bool) => u88_0_2 (K (.exit 0)) x2 x3 y1 y2) x4
theorem r88_0_0g   (α : Type) (K : Exit → St → Option α) (Kn : St → Option α) (x2 : Rows) (x3 : Int) (x4 : Int) : u88_0_0 (fun σ => runM Try.prog (E88_0g ) sh88 (c88_0_7g ) (thenK (fun σ => tidyK td88_7 σ Kn) K) σ) x2 x3 x4 = S88_0_0g  α x2 x3 x4 (fun x4 => u88_0_0 Kn x2 x3 x4) (fun (y1 : Int) => u88_0_1 (K .ret) y1) (fun (y1 : Int) (y2 : Bool) => u88_0_2 (K (.exit 0)) x2 x3 y1 y2) := by kernel_rfl
theorem r88_0_0 (α : Type) (K : Exit → St → Option α) (Kn : St → Option α) (x2 : Rows) (x3 : Int) (x4 : Int) : u88_0_0 (fun σ => runM Try.prog E88_0 sh88 c88_0_7 (thenK (fun σ => tidyK td88_7 σ Kn) K) σ) x2 x3 x4 = S88_0_0 α x2 x3 x4 (fun x4 => u88_0_0 Kn x2 x3 x4) (fun (y1 : Int) => u88_0_1 (K .ret) y1) (fun (y1 : Int) (y2 : Bool) => u88_0_2 (K (.exit 0)) x2 x3 y1 y2) := r88_0_0g  α K Kn x2 x3 x4
theorem t88_0_0 (α : Type) (K : Exit → St → Option α) : ∀ (n : Nat) (x2 : Rows) (x3 : Int) (x4 : Int), R88_0_0 α x2 x3 (fun (y1 : Int) => u88_0_1 (K .ret) y1) (fun (y1 : Int) (y2 : Bool) => u88_0_2 (K (.exit 0)) x2 x3 y1 y2) n x4 = u88_0_0 (loopT (runM Try.prog E88_0 sh88 c88_0_7) td88_7 K n) x2 x3 x4 := by
  intro n
  induction n with
  | zero => intros; rfl
  | succ n ih => intro x2 x3 x4; exact (congrArg (fun kn => S88_0_0 α x2 x3 x4 kn (fun (y1 : Int) => u88_0_1 (K .ret) y1) (fun (y1 : Int) (y2 : Bool) => u88_0_2 (K (.exit 0)) x2 x3 y1 y2)) (funext fun x4 => ih x2 x3 x4)).trans (r88_0_0 α K (loopT (runM Try.prog E88_0 sh88 c88_0_7) td88_7 K n) x2 x3 x4).symm
theorem m88_0_0 : ∀ (α : Type) (K : Exit → St → Option α), F88_0_0 L88_0_0 α K = p88_0_0.unc fun σ => loopT (runM Try.prog E88_0 sh88 c88_0_7) td88_7 K fuel σ := fun α K => funext fun x2 => funext fun x3 => funext fun x4 => t88_0_0 α K fuel x2 x3 x4

/-- etalon/grow.first -/
abbrev Tf88_0 : Type 1 := (α : Type) → Rows → (Int → Option α) → Option α
def f88_0g (vL88_0_0 : TL88_0_0) (α : Type) (x1 : Rows) (k1 : Int → Option α) : Option α :=
  vL88_0_0 α x1 ((List.length x1 : Nat) : Int)
    (fun (x6 : Int) => k1 x6)
    (fun (x7 : Int) (x8 : Bool) => k1 0) 0
noncomputable def f88_0 (α : Type) (x1 : Rows) (k1 : Int → Option α) : Option α := f88_0g L88_0_0 α x1 k1
def pa88_0 : PT (List DV) := pA [pV false [dL]]
def Fn88_0 (v : Tf88_0) (α : Type) (k : List RV → Option α) : Rows → Option α := fun x1 => v α x1 (fun (y1 : Int) => ur88_0_0 k y1)
noncomputable def cm88_0g (vL88_0_0 : TL88_0_0) : MCode := (.seq (.region r88_2 [] (some ⟨[0], true, [], []⟩)) (.seq (.seq (.region r88_5 [] (some ⟨[5, 6, 7], true, [], []⟩)) (.block 0 (.loop td88_7 [⟨p88_0_0, F88_0_0 vL88_0_0⟩] c88_0_7))) (.seq (.region r88_23 [] (some ⟨[2], true, [], []⟩)) .ret)))
noncomputable def cm88_0 : MCode := cm88_0g L88_0_0
theorem gm88_0 : cm88_0.Good Try.prog E88_0 sh88 := ⟨trivial, ⟨⟨trivial, ⟨g88_0_7, m88_0_0, trivial⟩⟩, ⟨trivial, trivial⟩⟩⟩
theorem fm88_0g  (vL88_0_0 : TL88_0_0) (α : Type) (k : List RV → Option α) : Fn88_0 (f88_0g vL88_0_0) α k = pa88_0.unc fun ds => fnM Try.prog (E88_0g ) sh88 (cm88_0g vL88_0_0) rs88 k ds := by kernel_rfl
theorem fm88_0 : ∀ (α : Type) (k : List RV → Option α), Fn88_0 f88_0 α k = pa88_0.unc fun ds => fnM Try.prog E88_0 sh88 cm88_0 rs88 k ds := fm88_0g L88_0_0

theorem is88 : FnIs Try.prog 88 nt88 tr88 tl88 cm88_0.erase rs88 := ⟨Try.f88, Try.func88, rfl, by kernel_rfl, by kernel_rfl, by kernel_rfl⟩
theorem io88_0 : InstOk Try.prog 88 nt88 ⟨pa88_0, Fn88_0 f88_0⟩ := inst_ok eo88_0 followsTry is88 ⟨⟨sh88, cm88_0, by kernel_rfl, gm88_0, fm88_0⟩⟩

/-! ### F69 etalon/etalonbase.Boxes -/
abbrev nt69 : Nat := 26
def sh69 : List (Nat × List Sh) := [(19, [.int .i64, .int .i64, .int .i64, .int .i64, .int .i64]), (20, [.int .i64, .int .i64, .int .i64, .int .i64, .int .i64]), (23, [.int .i64, .int .i64, .int .i64, .int .i64, .int .i64]), (24, [.int .i64, .int .i64, .int .i64, .int .i64, .int .i64])]
def r69_2 : List AOper := [⟨(some 4), (.mv (.const (.bool false))), none⟩]
def r69_5 : List AOper := [⟨(some 6), (.mv (.tmp 0)), none⟩, ⟨(some 7), (.len (.tmp 6)), none⟩, ⟨(some 8), (.mv (.tmp 1)), none⟩, ⟨(some 9), (.len (.tmp 8)), none⟩, ⟨(some 10), (.bin .neq 3 (.tmp 7) (.tmp 9)), none⟩]
def r69_8 : List AOper := [⟨(some 4), (.mv (.const (.bool false))), none⟩]
def r69_11 : List AOper := [⟨(some 5), (.mv (.const (.int .i64 0))), none⟩]
def td69_13 : Option Tidy := (some ⟨[0, 1, 5], true, [], []⟩)
def r69_16 : List AOper := [⟨(some 11), (.mv (.tmp 5)), none⟩, ⟨(some 12), (.mv (.tmp 0)), none⟩, ⟨(some 13), (.len (.tmp 12)), none⟩, ⟨(some 14), (.bin .lss 3 (.tmp 11) (.tmp 13)), none⟩]
def r69_21 : List AOper := [⟨(some 17), (.mv (.tmp 0)), none⟩, ⟨(some 18), (.mv (.tmp 5)), none⟩, ⟨(some 19), (.iaddr 5 none (.tmp 17) (.tmp 18)), none⟩, ⟨(some 20), (.load true 5 (.tmp 19)), none⟩, ⟨(some 21), (.mv (.tmp 1)), none⟩, ⟨(some 22), (.mv (.tmp 5)), none⟩, ⟨(some 23), (.iaddr 5 none (.tmp 21) (.tmp 22)), none⟩, ⟨(some 24), (.load true 5 (.tmp 23)), none⟩, ⟨(some 25), (.bin .neq 189 (.tmp 20) (.tmp 24)), none⟩]
def r69_24 : List AOper := [⟨(some 4), (.mv (.const (.bool false))), none⟩]
def r69_25 : List AOper := [⟨(some 15), (.mv (.tmp 5)), none⟩, ⟨(some 16), (.bin .add 3 (.tmp 15) (.const (.int .i64 1))), none⟩, ⟨(some 5), (.mv (.tmp 16)), none⟩]
def r69_27 : List AOper := [⟨(some 4), (.mv (.const (.bool true))), none⟩]
def tr69 : List (Nat × Tidy) := [(0, ⟨[0, 1], true, [], []⟩), (1, ⟨[0, 1, 10], true, [], []⟩), (2, ⟨[4], true, [], []⟩), (3, ⟨[0, 1, 5], true, [], []⟩), (4, ⟨[0, 1, 5, 14], true, [], []⟩), (6, ⟨[0, 1, 5, 25], true, [], []⟩), (7, ⟨[4], true, [], []⟩), (5, ⟨[0, 1, 5], true, [], []⟩), (8, ⟨[4], true, [], []⟩)]
def tl69 : List (Nat × Tidy) := [(4, ⟨[0, 1, 5], true, [], []⟩)]
def rs69 : List AResV := [.tmp 4]
def p69_0_0 : PT St := pS [sl 0 (aV false [(cD dL)]), sl 1 (aV false [(cD dL)]), sl 5 (aV false [(cD (dI .i64))])] []
def u69_0_0 {β : Type} (g : St → β) : Rows → Rows → Int → β := p69_0_0.unc g

def p69_0_1 : PT St := pS [sl 4 (aV false [(cD dB)])] []
def u69_0_1 {β : Type} (g : St → β) : Bool → β := p69_0_1.unc g

def p69_0_2 : PT St := pS [sl 0 (aV false [(cD dL)]), sl 1 (aV false [(cD dL)]), sl 5 (aV false [(cD (dI .i64))]), sl 14 (aV false [(cD dB)])] []
def u69_0_2 {β : Type} (g : St → β) : Rows → Rows → Int → Bool → β := p69_0_2.unc g

def pr69_0_0 : PT (List RV) := pRs [pR false [rD dB]]
def ur69_0_0 {β : Type} (g : List RV → β) : Bool → β := pr69_0_0.unc g

def E69_0g  : EnvK := EnvK.of [] noSeq
noncomputable def E69_0 : EnvK := E69_0g 
theorem eo69_0 : E69_0.Ok Try.prog := EnvK.of_ok noSeq_ok trivial

noncomputable def c69_0_13g  : MCode := (.seq (.seq (.region r69_16 [] (some ⟨[0, 1, 5, 14], true, [], []⟩)) (.cond (.tmp 14) .skip (.exit 0))) (.seq (.block 1 (.seq (.region r69_21 [] (some ⟨[0, 1, 5, 25], true, [], []⟩)) (.cond (.tmp 25) (.seq (.region r69_24 [] (some ⟨[4], true, [], []⟩)) .ret) .skip))) (.region r69_25 [] (some ⟨[0, 1, 5], true, [], []⟩))))
noncomputable def c69_0_13 : MCode := c69_0_13g 
theorem g69_0_13 : c69_0_13.Good Try.prog E69_0 sh69 := ⟨⟨trivial, ⟨trivial, trivial⟩⟩, ⟨⟨trivial, ⟨⟨trivial, trivial⟩, trivial⟩⟩, trivial⟩⟩
--CODE 13 0
def S69_0_0g  (α : Type) (x3 : Rows) (x4 : Rows) (x5 : Int) (kn : Int → Option α) (k1 : Option α) (k2 : Int → Bool → Option α) : Option α :=
  cK (decide (x5 < ((List.length x3 : Nat) : Int)))
    (rowK x3 x5 [.int .i64, .int .i64, .int .i64, .int .i64, .int .i64]
      (fun (x6 : Int) (x7 : Int) (x8 : Int) (x9 : Int) (x10 : Int) => rowK x4 x5 [.int .i64, .int .i64, .int .i64, .int .i64, .int .i64]
        (fun (x11 : Int) (x12 : Int) (x13 : Int) (x14 : Int) (x15 : Int) => cK (!(((x6 == x11) && ((x7 == x12) && true)) && (((x8 == x13) && ((x9 == x14) && true)) && ((x10 == x15) && true))))
          (k1)
          (kn (w64 (x5 + 1))))))
    (k2 x5 (decide (x5 < ((List.length x3 : Nat) : Int))))
noncomputable def S69_0_0 (α : Type) (x3 : Rows) (x4 : Rows) (x5 : Int) (kn : Int → Option α) (k1 : Option α) (k2 : Int → Bool → Option α) : Option α := S69_0_0g  α x3 x4 x5 kn k1 k2
noncomputable def R69_0_0 (α : Type) (x3 : Rows) (x4 : Rows) (k1 : Option α) (k2 : Int → Bool → Option α) : Nat → Int → Option α
  | 0, _ => none
  | n + 1, x5 => S69_0_0 α x3 x4 x5 (R69_0_0 α x3 x4 k1 k2 n) k1 k2
noncomputable def L69_0_0 (α : Type) (x3 : Rows) (x4 : Rows) (k1 : Option α) (k2 : Int → Bool → Option α) (x5 : Int) : Option α := R69_0_0 α x3 x4 k1 k2 fuel x5
abbrev TL69_0_0 : Type 1 := (α : Type) → Rows → Rows → (Option α) → (Int → Bool → Option α) → Int → Option α
def F69_0_0 (v : TL69_0_0) (α : Type) (K : Exit → St → Option α) : Rows → Rows → Int → Option α := fun x3 x4 x5 => v α x3 x4 (u69_0_1 (K .ret) false) (fun (y1 : Int) (y2 : Bool) => u69_0_2 (K (.exit 0)) x3 x4 y1 y2) x5
theorem r69_0_0g   (α : Type) (K : Exit → St → Option α) (Kn : St → Option α) (x3 : Rows) (x4 : Rows) (x5 : Int) : u69_0_0 (fun σ => runM Try.prog (E69_0g ) sh69 (c69_0_13g ) (thenK (fun σ => tidyK td69_13 σ Kn) K) σ) x3 x4 x5 = S69_0_0g  α x3 x4 x5 (fun x5 => u69_0_0 Kn x3 x4 x5) (u69_0_1 (K .ret) false) (fun (y1 : Int) (y2 : Bool) => u69_0_2 (K (.exit 0)) x3 x4 y1 y2) := by kernel_rfl
theorem r69_0_0 (α : Type) (K : Exit → St → Option α) (Kn : St → Option α) (x3 : Rows) (x4 : Rows) (x5 : Int) : u69_0_0 (fun σ => runM Try.prog E69_0 sh69 c69_0_13 (thenK (fun σ => tidyK td69_13 σ Kn) K) σ) x3 x4 x5 = S69_0_0 α x3 x4 x5 (fun x5 => u69_0_0 Kn x3 x4 x5) (u69_0_1 (K .ret) false) (fun (y1 : Int) (y2 : Bool) => u69_0_2 (K (.exit 0)) x3 x4 y1 y2) := r69_0_0g  α K Kn x3 x4 x5
theorem t69_0_0 (α : Type) (K : Exit → St → Option α) : ∀ (n : Nat) (x3 : Rows) (x4 : Rows) (x5 : Int), R69_0_0 α x3 x4 (u69_0_1 (K .ret) false) (fun (y1 : Int) (y2 : Bool) => u69_0_2 (K (.exit 0)) x3 x4 y1 y2) n x5 = u69_0_0 (loopT (runM Try.prog E69_0 sh69 c69_0_13) td69_13 K n) x3 x4 x5 := by
  intro n
  induction n with
  | zero => intros; rfl
  | succ n ih => intro x3 x4 x5; exact (congrArg (fun kn => S69_0_0 α x3 x4 x5 kn (u69_0_1 (K .ret) false) (fun (y1 : Int) (y2 : Bool) => u69_0_2 (K (.exit 0)) x3 x4 y1 y2)) (funext fun x5 => ih x3 x4 x5)).trans (r69_0_0 α K (loopT (runM Try.prog E69_0 sh69 c69_0_13) td69_13 K n) x3 x4 x5).symm
theorem m69_0_0 : ∀ (α : Type) (K : Exit → St → Option α), F69_0_0 L69_0_0 α K = p69_0_0.unc fun σ => loopT (runM Try.prog E69_0 sh69 c69_0_13) td69_13 K fuel σ := fun α K => funext fun x3 => funext fun x4 => funext fun x5 => t69_0_0 α K fuel x3 x4 x5

/-- etalon/etalonbase.Boxes -/
abbrev Tf69_0 : Type 1 := (α : Type) → Rows → Rows → (Bool → Option α) → Option α
def f69_0g (vL69_0_0 : TL69_0_0) (α : Type) (x1 : Rows) (x2 : Rows) (k1 : Bool → Option α) : Option α :=
  cK (((List.length x1 : Nat) : Int) != ((List.length x2 : Nat) : Int))
    (k1 false)
    (vL69_0_0 α x1 x2
      (k1 false)
      (fun (x16 : Int) (x17 : Bool) => k1 true) 0)
noncomputable def f69_0 (α : Type) (x1 : Rows) (x2 : Rows) (k1 : Bool → Option α) : Option α := f69_0g L69_0_0 α x1 x2 k1
def pa69_0 : PT (List DV) := pA [pV false [dL], pV false [dL]]
def Fn69_0 (v : Tf69_0) (α : Type) (k : List RV → Option α) : Rows → Rows → Option α := fun x1 x2 => v α x1 x2 (fun (y1 : Bool) => ur69_0_0 k y1)
noncomputable def cm69_0g (vL69_0_0 : TL69_0_0) : MCode := (.seq (.region r69_2 [] (some ⟨[0, 1], true, [], []⟩)) (.seq (.seq (.region r69_5 [] (some ⟨[0, 1, 10], true, [], []⟩)) (.cond (.tmp 10) (.seq (.region r69_8 [] (some ⟨[4], true, [], []⟩)) .ret) .skip)) (.seq (.seq (.region r69_11 [] (some ⟨[0, 1, 5], true, [], []⟩)) (.block 0 (.loop td69_13 [⟨p69_0_0, F69_0_0 vL69_0_0⟩] c69_0_13))) (.seq (.region r69_27 [] (some ⟨[4], true, [], []⟩)) .ret))))
noncomputable def cm69_0 : MCode := cm69_0g L69_0_0
theorem gm69_0 : cm69_0.Good Try.prog E69_0 sh69 := ⟨trivial, ⟨⟨trivial, ⟨⟨trivial, trivial⟩, trivial⟩⟩, ⟨⟨trivial, ⟨g69_0_13, m69_0_0, trivial⟩⟩, ⟨trivial, trivial⟩⟩⟩⟩
theorem fm69_0g  (vL69_0_0 : TL69_0_0) (α : Type) (k : List RV → Option α) : Fn69_0 (f69_0g vL69_0_0) α k = pa69_0.unc fun ds => fnM Try.prog (E69_0g ) sh69 (cm69_0g vL69_0_0) rs69 k ds := by kernel_rfl
theorem fm69_0 : ∀ (α : Type) (k : List RV → Option α), Fn69_0 f69_0 α k = pa69_0.unc fun ds => fnM Try.prog E69_0 sh69 cm69_0 rs69 k ds := fm69_0g L69_0_0

theorem is69 : FnIs Try.prog 69 nt69 tr69 tl69 cm69_0.erase rs69 := ⟨Try.f69, Try.func69, rfl, by kernel_rfl, by kernel_rfl, by kernel_rfl⟩
theorem io69_0 : InstOk Try.prog 69 nt69 ⟨pa69_0, Fn69_0 f69_0⟩ := inst_ok eo69_0 followsTry is69 ⟨⟨sh69, cm69_0, by kernel_rfl, gm69_0, fm69_0⟩⟩

/-! ### F94 etalon/etalonbase.Floor -/
abbrev nt94 : Nat := 16
def sh94 : List (Nat × List Sh) := []
def r94_2 : List AOper := [⟨(some 4), (.mv (.const (.int .i64 0))), none⟩]
def r94_4 : List AOper := [⟨(some 6), (.mv (.tmp 0)), none⟩, ⟨(some 7), (.mv (.tmp 1)), none⟩, ⟨(some 8), (.bin .quo 3 (.tmp 6) (.tmp 7)), none⟩, ⟨(some 5), (.mv (.tmp 8)), none⟩]
def r94_7 : List AOper := [⟨(some 9), (.mv (.tmp 0)), none⟩, ⟨(some 10), (.mv (.tmp 1)), none⟩, ⟨(some 11), (.bin .rem 3 (.tmp 9) (.tmp 10)), none⟩, ⟨(some 12), (.bin .lss 3 (.tmp 11) (.const (.int .i64 0))), none⟩]
def r94_9 : List AOper := [⟨(some 13), (.mv (.tmp 5)), none⟩, ⟨(some 14), (.bin .sub 3 (.tmp 13) (.const (.int .i64 1))), none⟩, ⟨(some 5), (.mv (.tmp 14)), none⟩]
def r94_11 : List AOper := [⟨(some 15), (.mv (.tmp 5)), none⟩, ⟨(some 4), (.mv (.tmp 15)), none⟩]
def tr94 : List (Nat × Tidy) := [(0, ⟨[0, 1], true, [], []⟩), (1, ⟨[0, 1, 5], true, [], []⟩), (2, ⟨[5, 12], true, [], []⟩), (3, ⟨[5], true, [], []⟩), (4, ⟨[4], true, [], []⟩)]
def tl94 : List (Nat × Tidy) := []
def rs94 : List AResV := [.tmp 4]
def pr94_0_0 : PT (List RV) := pRs [pR false [rD (dI .i64)]]
def ur94_0_0 {β : Type} (g : List RV → β) : Int → β := pr94_0_0.unc g

def E94_0g  : EnvK := EnvK.of [] noSeq
noncomputable def E94_0 : EnvK := E94_0g 
theorem eo94_0 : E94_0.Ok Try.prog := EnvK.of_ok noSeq_ok trivial

/-- etalon/etalonbase.Floor -/
abbrev Tf94_0 : Type 1 := (α : Type) → Int → Int → (Int → Option α) → Option α
def f94_0g  (α : Type) (x1 : Int) (x2 : Int) (k1 : Int → Option α) : Option α :=
  gK (x2 != 0) (gK (x2 != 0) (cK (decide ((Int.tmod x1 x2) < 0))
    (k1 (w64 ((w64 (Int.tdiv x1 x2)) - 1)))
    (k1 (w64 (Int.tdiv x1 x2)))))
noncomputable def f94_0 (α : Type) (x1 : Int) (x2 : Int) (k1 : Int → Option α) : Option α := f94_0g  α x1 x2 k1
def pa94_0 : PT (List DV) := pA [pV false [(dI .i64)], pV false [(dI .i64)]]
def Fn94_0 (v : Tf94_0) (α : Type) (k : List RV → Option α) : Int → Int → Option α := fun x1 x2 => v α x1 x2 (fun (y1 : Int) => ur94_0_0 k y1)
noncomputable def cm94_0g  : MCode := (.seq (.region r94_2 [] (some ⟨[0, 1], true, [], []⟩)) (.seq (.region r94_4 [] (some ⟨[0, 1, 5], true, [], []⟩)) (.seq (.seq (.region r94_7 [] (some ⟨[5, 12], true, [], []⟩)) (.cond (.tmp 12) (.region r94_9 [] (some ⟨[5], true, [], []⟩)) .skip)) (.seq (.region r94_11 [] (some ⟨[4], true, [], []⟩)) .ret))))
noncomputable def cm94_0 : MCode := cm94_0g 
theorem gm94_0 : cm94_0.Good Try.prog E94_0 sh94 := ⟨trivial, ⟨trivial, ⟨⟨trivial, ⟨trivial, trivial⟩⟩, ⟨trivial, trivial⟩⟩⟩⟩
theorem fm94_0g   (α : Type) (k : List RV → Option α) : Fn94_0 (f94_0g ) α k = pa94_0.unc fun ds => fnM Try.prog (E94_0g ) sh94 (cm94_0g ) rs94 k ds := by kernel_rfl
theorem fm94_0 : ∀ (α : Type) (k : List RV → Option α), Fn94_0 f94_0 α k = pa94_0.unc fun ds => fnM Try.prog E94_0 sh94 cm94_0 rs94 k ds := fm94_0g 

theorem is94 : FnIs Try.prog 94 nt94 tr94 tl94 cm94_0.erase rs94 := ⟨Try.f94, Try.func94, rfl, by kernel_rfl, by kernel_rfl, by kernel_rfl⟩
theorem io94_0 : InstOk Try.prog 94 nt94 ⟨pa94_0, Fn94_0 f94_0⟩ := inst_ok eo94_0 followsTry is94 ⟨⟨sh94, cm94_0, by kernel_rfl, gm94_0, fm94_0⟩⟩

/-! ### F19 etalon/etalonbase.Within -/
abbrev nt19 : Nat := 15
def sh19 : List (Nat × List Sh) := []
def r19_2 : List AOper := [⟨(some 6), (.mv (.const (.bool false))), none⟩]
def r19_4 : List AOper := [⟨(some 7), (.mv (.tmp 1)), none⟩, ⟨(some 8), (.mv (.tmp 0)), none⟩, ⟨(some 9), (.bin .leq 3 (.tmp 7) (.tmp 8)), none⟩, ⟨(some 10), (.mv (.tmp 9)), none⟩, ⟨(some 11), (.mv (.tmp 0)), (some (10, true))⟩, ⟨(some 12), (.mv (.tmp 2)), (some (10, true))⟩, ⟨(some 13), (.bin .leq 3 (.tmp 11) (.tmp 12)), (some (10, true))⟩, ⟨(some 14), (.pick (.tmp 10) (.tmp 13) (.const (.bool false))), none⟩, ⟨(some 6), (.mv (.tmp 14)), none⟩]
def tr19 : List (Nat × Tidy) := [(0, ⟨[0, 1, 2], true, [], []⟩), (1, ⟨[6], true, [], []⟩)]
def tl19 : List (Nat × Tidy) := []
def rs19 : List AResV := [.tmp 6]
def pr19_0_0 : PT (List RV) := pRs [pR false [rD dB]]
def ur19_0_0 {β : Type} (g : List RV → β) : Bool → β := pr19_0_0.unc g

def E19_0g  : EnvK := EnvK.of [] noSeq
noncomputable def E19_0 : EnvK := E19_0g 
theorem eo19_0 : E19_0.Ok Try.prog := EnvK.of_ok noSeq_ok trivial

/-- etalon/etalonbase.Within -/
abbrev Tf19_0 : Type 1 := (α : Type) → Int → Int → Int → (Bool → Option α) → Option α
def f19_0g  (α : Type) (x1 : Int) (x2 : Int) (x3 : Int) (k1 : Bool → Option α) : Option α :=
  cK (decide (x2 ≤ x1))
    (k1 (decide (x1 ≤ x3)))
    (k1 false)
noncomputable def f19_0 (α : Type) (x1 : Int) (x2 : Int) (x3 : Int) (k1 : Bool → Option α) : Option α := f19_0g  α x1 x2 x3 k1
def pa19_0 : PT (List DV) := pA [pV false [(dI .i64)], pV false [(dI .i64)], pV false [(dI .i64)]]
def Fn19_0 (v : Tf19_0) (α : Type) (k : List RV → Option α) : Int → Int → Int → Option α := fun x1 x2 x3 => v α x1 x2 x3 (fun (y1 : Bool) => ur19_0_0 k y1)
noncomputable def cm19_0g  : MCode := (.seq (.region r19_2 [] (some ⟨[0, 1, 2], true, [], []⟩)) (.seq (.region r19_4 [] (some ⟨[6], true, [], []⟩)) .ret))
noncomputable def cm19_0 : MCode := cm19_0g 
theorem gm19_0 : cm19_0.Good Try.prog E19_0 sh19 := ⟨trivial, ⟨trivial, trivial⟩⟩
theorem fm19_0g   (α : Type) (k : List RV → Option α) : Fn19_0 (f19_0g ) α k = pa19_0.unc fun ds => fnM Try.prog (E19_0g ) sh19 (cm19_0g ) rs19 k ds := by kernel_rfl
theorem fm19_0 : ∀ (α : Type) (k : List RV → Option α), Fn19_0 f19_0 α k = pa19_0.unc fun ds => fnM Try.prog E19_0 sh19 cm19_0 rs19 k ds := fm19_0g 

theorem is19 : FnIs Try.prog 19 nt19 tr19 tl19 cm19_0.erase rs19 := ⟨Try.f19, Try.func19, rfl, by kernel_rfl, by kernel_rfl, by kernel_rfl⟩
theorem io19_0 : InstOk Try.prog 19 nt19 ⟨pa19_0, Fn19_0 f19_0⟩ := inst_ok eo19_0 followsTry is19 ⟨⟨sh19, cm19_0, by kernel_rfl, gm19_0, fm19_0⟩⟩

/-! ### F137 etalon/stack.up -/
abbrev nt137 : Nat := 11
def sh137 : List (Nat × List Sh) := []
def r137_2 : List AOper := [⟨(some 4), (.mv (.const (.int .i64 0))), none⟩]
def r137_4 : List AOper := [⟨(some 5), (.mv (.tmp 0)), none⟩, ⟨(some 6), (.mv (.tmp 1)), none⟩, ⟨(some 7), (.bin .add 3 (.tmp 5) (.tmp 6)), none⟩, ⟨(some 8), (.bin .sub 3 (.tmp 7) (.const (.int .i64 1))), none⟩, ⟨(some 9), (.mv (.tmp 1)), none⟩, ⟨(some 10), (.bin .quo 3 (.tmp 8) (.tmp 9)), none⟩, ⟨(some 4), (.mv (.tmp 10)), none⟩]
def tr137 : List (Nat × Tidy) := [(0, ⟨[0, 1], true, [], []⟩), (1, ⟨[4], true, [], []⟩)]
def tl137 : List (Nat × Tidy) := []
def rs137 : List AResV := [.tmp 4]
def pr137_0_0 : PT (List RV) := pRs [pR false [rD (dI .i64)]]
def ur137_0_0 {β : Type} (g : List RV → β) : Int → β := pr137_0_0.unc g

def E137_0g  : EnvK := EnvK.of [] noSeq
noncomputable def E137_0 : EnvK := E137_0g 
theorem eo137_0 : E137_0.Ok Try.prog := EnvK.of_ok noSeq_ok trivial

/-- etalon/stack.up -/
abbrev Tf137_0 : Type 1 := (α : Type) → Int → Int → (Int → Option α) → Option α
def f137_0g  (α : Type) (x1 : Int) (x2 : Int) (k1 : Int → Option α) : Option α :=
  gK (x2 != 0) (k1 (w64 (Int.tdiv (w64 ((w64 (x1 + x2)) - 1)) x2)))
noncomputable def f137_0 (α : Type) (x1 : Int) (x2 : Int) (k1 : Int → Option α) : Option α := f137_0g  α x1 x2 k1
def pa137_0 : PT (List DV) := pA [pV false [(dI .i64)], pV false [(dI .i64)]]
def Fn137_0 (v : Tf137_0) (α : Type) (k : List RV → Option α) : Int → Int → Option α := fun x1 x2 => v α x1 x2 (fun (y1 : Int) => ur137_0_0 k y1)
noncomputable def cm137_0g  : MCode := (.seq (.region r137_2 [] (some ⟨[0, 1], true, [], []⟩)) (.seq (.region r137_4 [] (some ⟨[4], true, [], []⟩)) .ret))
noncomputable def cm137_0 : MCode := cm137_0g 
theorem gm137_0 : cm137_0.Good Try.prog E137_0 sh137 := ⟨trivial, ⟨trivial, trivial⟩⟩
theorem fm137_0g   (α : Type) (k : List RV → Option α) : Fn137_0 (f137_0g ) α k = pa137_0.unc fun ds => fnM Try.prog (E137_0g ) sh137 (cm137_0g ) rs137 k ds := by kernel_rfl
theorem fm137_0 : ∀ (α : Type) (k : List RV → Option α), Fn137_0 f137_0 α k = pa137_0.unc fun ds => fnM Try.prog E137_0 sh137 cm137_0 rs137 k ds := fm137_0g 

theorem is137 : FnIs Try.prog 137 nt137 tr137 tl137 cm137_0.erase rs137 := ⟨Try.f137, Try.func137, rfl, by kernel_rfl, by kernel_rfl, by kernel_rfl⟩
theorem io137_0 : InstOk Try.prog 137 nt137 ⟨pa137_0, Fn137_0 f137_0⟩ := inst_ok eo137_0 followsTry is137 ⟨⟨sh137, cm137_0, by kernel_rfl, gm137_0, fm137_0⟩⟩

/-! ### F136 etalon/stack.within -/
abbrev nt136 : Nat := 15
def sh136 : List (Nat × List Sh) := []
def r136_2 : List AOper := [⟨(some 6), (.mv (.const (.bool false))), none⟩]
def r136_4 : List AOper := [⟨(some 7), (.mv (.tmp 1)), none⟩, ⟨(some 8), (.mv (.tmp 0)), none⟩, ⟨(some 9), (.bin .leq 3 (.tmp 7) (.tmp 8)), none⟩, ⟨(some 10), (.mv (.tmp 9)), none⟩, ⟨(some 11), (.mv (.tmp 0)), (some (10, true))⟩, ⟨(some 12), (.mv (.tmp 2)), (some (10, true))⟩, ⟨(some 13), (.bin .leq 3 (.tmp 11) (.tmp 12)), (some (10, true))⟩, ⟨(some 14), (.pick (.tmp 10) (.tmp 13) (.const (.bool false))), none⟩, ⟨(some 6), (.mv (.tmp 14)), none⟩]
def tr136 : List (Nat × Tidy) := [(0, ⟨[0, 1, 2], true, [], []⟩), (1, ⟨[6], true, [], []⟩)]
def tl136 : List (Nat × Tidy) := []
def rs136 : List AResV := [.tmp 6]
def pr136_0_0 : PT (List RV) := pRs [pR false [rD dB]]
def ur136_0_0 {β : Type} (g : List RV → β) : Bool → β := pr136_0_0.unc g

def E136_0g  : EnvK := EnvK.of [] noSeq
noncomputable def E136_0 : EnvK := E136_0g 
theorem eo136_0 : E136_0.Ok Try.prog := EnvK.of_ok noSeq_ok trivial

/-- etalon/stack.within -/
abbrev Tf136_0 : Type 1 := (α : Type) → Int → Int → Int → (Bool → Option α) → Option α
def f136_0g  (α : Type) (x1 : Int) (x2 : Int) (x3 : Int) (k1 : Bool → Option α) : Option α :=
  cK (decide (x2 ≤ x1))
    (k1 (decide (x1 ≤ x3)))
    (k1 false)
noncomputable def f136_0 (α : Type) (x1 : Int) (x2 : Int) (x3 : Int) (k1 : Bool → Option α) : Option α := f136_0g  α x1 x2 x3 k1
def pa136_0 : PT (List DV) := pA [pV false [(dI .i64)], pV false [(dI .i64)], pV false [(dI .i64)]]
def Fn136_0 (v : Tf136_0) (α : Type) (k : List RV → Option α) : Int → Int → Int → Option α := fun x1 x2 x3 => v α x1 x2 x3 (fun (y1 : Bool) => ur136_0_0 k y1)
noncomputable def cm136_0g  : MCode := (.seq (.region r136_2 [] (some ⟨[0, 1, 2], true, [], []⟩)) (.seq (.region r136_4 [] (some ⟨[6], true, [], []⟩)) .ret))
noncomputable def cm136_0 : MCode := cm136_0g 
theorem gm136_0 : cm136_0.Good Try.prog E136_0 sh136 := ⟨trivial, ⟨trivial, trivial⟩⟩
theorem fm136_0g   (α : Type) (k : List RV → Option α) : Fn136_0 (f136_0g ) α k = pa136_0.unc fun ds => fnM Try.prog (E136_0g ) sh136 (cm136_0g ) rs136 k ds := by kernel_rfl
theorem fm136_0 : ∀ (α : Type) (k : List RV → Option α), Fn136_0 f136_0 α k = pa136_0.unc fun ds => fnM Try.prog E136_0 sh136 cm136_0 rs136 k ds := fm136_0g 

theorem is136 : FnIs Try.prog 136 nt136 tr136 tl136 cm136_0.erase rs136 := ⟨Try.f136, Try.func136, rfl, by kernel_rfl, by kernel_rfl, by kernel_rfl⟩
theorem io136_0 : InstOk Try.prog 136 nt136 ⟨pa136_0, Fn136_0 f136_0⟩ := inst_ok eo136_0 followsTry is136 ⟨⟨sh136, cm136_0, by kernel_rfl, gm136_0, fm136_0⟩⟩

/-! ### F78 etalon/grow.within -/
abbrev nt78 : Nat := 15
def sh78 : List (Nat × List Sh) := []
def r78_2 : List AOper := [⟨(some 6), (.mv (.const (.bool false))), none⟩]
def r78_4 : List AOper := [⟨(some 7), (.mv (.tmp 1)), none⟩, ⟨(some 8), (.mv (.tmp 0)), none⟩, ⟨(some 9), (.bin .leq 3 (.tmp 7) (.tmp 8)), none⟩, ⟨(some 10), (.mv (.tmp 9)), none⟩, ⟨(some 11), (.mv (.tmp 0)), (some (10, true))⟩, ⟨(some 12), (.mv (.tmp 2)), (some (10, true))⟩, ⟨(some 13), (.bin .leq 3 (.tmp 11) (.tmp 12)), (some (10, true))⟩, ⟨(some 14), (.pick (.tmp 10) (.tmp 13) (.const (.bool false))), none⟩, ⟨(some 6), (.mv (.tmp 14)), none⟩]
def tr78 : List (Nat × Tidy) := [(0, ⟨[0, 1, 2], true, [], []⟩), (1, ⟨[6], true, [], []⟩)]
def tl78 : List (Nat × Tidy) := []
def rs78 : List AResV := [.tmp 6]
def pr78_0_0 : PT (List RV) := pRs [pR false [rD dB]]
def ur78_0_0 {β : Type} (g : List RV → β) : Bool → β := pr78_0_0.unc g

def E78_0g  : EnvK := EnvK.of [] noSeq
noncomputable def E78_0 : EnvK := E78_0g 
theorem eo78_0 : E78_0.Ok Try.prog := EnvK.of_ok noSeq_ok trivial

/-- etalon/grow.within -/
abbrev Tf78_0 : Type 1 := (α : Type) → Int → Int → Int → (Bool → Option α) → Option α
def f78_0g  (α : Type) (x1 : Int) (x2 : Int) (x3 : Int) (k1 : Bool → Option α) : Option α :=
  cK (decide (x2 ≤ x1))
    (k1 (decide (x1 ≤ x3)))
    (k1 false)
noncomputable def f78_0 (α : Type) (x1 : Int) (x2 : Int) (x3 : Int) (k1 : Bool → Option α) : Option α := f78_0g  α x1 x2 x3 k1
def pa78_0 : PT (List DV) := pA [pV false [(dI .i64)], pV false [(dI .i64)], pV false [(dI .i64)]]
def Fn78_0 (v : Tf78_0) (α : Type) (k : List RV → Option α) : Int → Int → Int → Option α := fun x1 x2 x3 => v α x1 x2 x3 (fun (y1 : Bool) => ur78_0_0 k y1)
noncomputable def cm78_0g  : MCode := (.seq (.region r78_2 [] (some ⟨[0, 1, 2], true, [], []⟩)) (.seq (.region r78_4 [] (some ⟨[6], true, [], []⟩)) .ret))
noncomputable def cm78_0 : MCode := cm78_0g 
theorem gm78_0 : cm78_0.Good Try.prog E78_0 sh78 := ⟨trivial, ⟨trivial, trivial⟩⟩
theorem fm78_0g   (α : Type) (k : List RV → Option α) : Fn78_0 (f78_0g ) α k = pa78_0.unc fun ds => fnM Try.prog (E78_0g ) sh78 (cm78_0g ) rs78 k ds := by kernel_rfl
theorem fm78_0 : ∀ (α : Type) (k : List RV → Option α), Fn78_0 f78_0 α k = pa78_0.unc fun ds => fnM Try.prog E78_0 sh78 cm78_0 rs78 k ds := fm78_0g 

theorem is78 : FnIs Try.prog 78 nt78 tr78 tl78 cm78_0.erase rs78 := ⟨Try.f78, Try.func78, rfl, by kernel_rfl, by kernel_rfl, by kernel_rfl⟩
theorem io78_0 : InstOk Try.prog 78 nt78 ⟨pa78_0, Fn78_0 f78_0⟩ := inst_ok eo78_0 followsTry is78 ⟨⟨sh78, cm78_0, by kernel_rfl, gm78_0, fm78_0⟩⟩

/-! ### F120 etalon/etalonbase.CopyRanges -/
abbrev nt120 : Nat := 6
def sh120 : List (Nat × List Sh) := []
def r120_2 : List AOper := [⟨(some 2), (.mv (.const (.slice none 0 0))), none⟩]
def r120_4 : List AOper := [⟨(some 3), (.bslice 2 0 [(.v (.int .i64 0)), (.v (.int .i64 0))] []), none⟩, ⟨(some 4), (.mv (.tmp 0)), none⟩, ⟨(some 5), (.append 2 16 (.tmp 3) (.tmp 4)), none⟩, ⟨(some 2), (.mv (.tmp 5)), none⟩]
def tr120 : List (Nat × Tidy) := [(0, ⟨[0], true, [], []⟩), (1, ⟨[2], true, [⟨false, 2, 0, 20002, 2⟩], []⟩)]
def tl120 : List (Nat × Tidy) := []
def rs120 : List AResV := [.tmp 2]
def pr120_0_0 : PT (List RV) := pRs [pR false [rO 2]]
def ur120_0_0 {β : Type} (g : List RV → β) : Rows → β := pr120_0_0.unc g

def E120_0g  : EnvK := EnvK.of [] noSeq
noncomputable def E120_0 : EnvK := E120_0g 
theorem eo120_0 : E120_0.Ok Try.prog := EnvK.of_ok noSeq_ok trivial

/-- etalon/etalonbase.CopyRanges -/
abbrev Tf120_0 : Type 1 := (α : Type) → Rows → (Rows → Option α) → Option α
def f120_0g  (α : Type) (x1 : Rows) (k1 : Rows → Option α) : Option α :=
  gK (apOk 2 16 [] x1) (k1 ([] ++ x1))
noncomputable def f120_0 (α : Type) (x1 : Rows) (k1 : Rows → Option α) : Option α := f120_0g  α x1 k1
def pa120_0 : PT (List DV) := pA [pV false [dL]]
def Fn120_0 (v : Tf120_0) (α : Type) (k : List RV → Option α) : Rows → Option α := fun x1 => v α x1 (fun (y1 : Rows) => ur120_0_0 k y1)
noncomputable def cm120_0g  : MCode := (.seq (.region r120_2 [] (some ⟨[0], true, [], []⟩)) (.seq (.region r120_4 [] (some ⟨[2], true, [⟨false, 2, 0, 20002, 2⟩], []⟩)) .ret))
noncomputable def cm120_0 : MCode := cm120_0g 
theorem gm120_0 : cm120_0.Good Try.prog E120_0 sh120 := ⟨trivial, ⟨trivial, trivial⟩⟩
theorem fm120_0g   (α : Type) (k : List RV → Option α) : Fn120_0 (f120_0g ) α k = pa120_0.unc fun ds => fnM Try.prog (E120_0g ) sh120 (cm120_0g ) rs120 k ds := by kernel_rfl
theorem fm120_0 : ∀ (α : Type) (k : List RV → Option α), Fn120_0 f120_0 α k = pa120_0.unc fun ds => fnM Try.prog E120_0 sh120 cm120_0 rs120 k ds := fm120_0g 

theorem is120 : FnIs Try.prog 120 nt120 tr120 tl120 cm120_0.erase rs120 := ⟨Try.f120, Try.func120, rfl, by kernel_rfl, by kernel_rfl, by kernel_rfl⟩
theorem io120_0 : InstOk Try.prog 120 nt120 ⟨pa120_0, Fn120_0 f120_0⟩ := inst_ok eo120_0 followsTry is120 ⟨⟨sh120, cm120_0, by kernel_rfl, gm120_0, fm120_0⟩⟩

/-! ### F119 etalon/etalonbase.CopyLayers -/
abbrev nt119 : Nat := 6
def sh119 : List (Nat × List Sh) := []
def r119_2 : List AOper := [⟨(some 2), (.mv (.const (.slice none 0 0))), none⟩]
def r119_4 : List AOper := [⟨(some 3), (.bslice 3 0 [(.v (.int .i64 0)), (.v (.int .i64 0)), (.v (.int .i64 0))] []), none⟩, ⟨(some 4), (.mv (.tmp 0)), none⟩, ⟨(some 5), (.append 3 24 (.tmp 3) (.tmp 4)), none⟩, ⟨(some 2), (.mv (.tmp 5)), none⟩]
def tr119 : List (Nat × Tidy) := [(0, ⟨[0], true, [], []⟩), (1, ⟨[2], true, [⟨false, 2, 0, 20002, 3⟩], []⟩)]
def tl119 : List (Nat × Tidy) := []
def rs119 : List AResV := [.tmp 2]
def pr119_0_0 : PT (List RV) := pRs [pR false [rO 3]]
def ur119_0_0 {β : Type} (g : List RV → β) : Rows → β := pr119_0_0.unc g

def E119_0g  : EnvK := EnvK.of [] noSeq
noncomputable def E119_0 : EnvK := E119_0g 
theorem eo119_0 : E119_0.Ok Try.prog := EnvK.of_ok noSeq_ok trivial

/-- etalon/etalonbase.CopyLayers -/
abbrev Tf119_0 : Type 1 := (α : Type) → Rows → (Rows → Option α) → Option α
def f119_0g  (α : Type) (x1 : Rows) (k1 : Rows → Option α) : Option α :=
  gK (apOk 3 24 [] x1) (k1 ([] ++ x1))
noncomputable def f119_0 (α : Type) (x1 : Rows) (k1 : Rows → Option α) : Option α := f119_0g  α x1 k1
def pa119_0 : PT (List DV) := pA [pV false [dL]]
def Fn119_0 (v : Tf119_0) (α : Type) (k : List RV → Option α) : Rows → Option α := fun x1 => v α x1 (fun (y1 : Rows) => ur119_0_0 k y1)
noncomputable def cm119_0g  : MCode := (.seq (.region r119_2 [] (some ⟨[0], true, [], []⟩)) (.seq (.region r119_4 [] (some ⟨[2], true, [⟨false, 2, 0, 20002, 3⟩], []⟩)) .ret))
noncomputable def cm119_0 : MCode := cm119_0g 
theorem gm119_0 : cm119_0.Good Try.prog E119_0 sh119 := ⟨trivial, ⟨trivial, trivial⟩⟩
theorem fm119_0g   (α : Type) (k : List RV → Option α) : Fn119_0 (f119_0g ) α k = pa119_0.unc fun ds => fnM Try.prog (E119_0g ) sh119 (cm119_0g ) rs119 k ds := by kernel_rfl
theorem fm119_0 : ∀ (α : Type) (k : List RV → Option α), Fn119_0 f119_0 α k = pa119_0.unc fun ds => fnM Try.prog E119_0 sh119 cm119_0 rs119 k ds := fm119_0g 

theorem is119 : FnIs Try.prog 119 nt119 tr119 tl119 cm119_0.erase rs119 := ⟨Try.f119, Try.func119, rfl, by kernel_rfl, by kernel_rfl, by kernel_rfl⟩
theorem io119_0 : InstOk Try.prog 119 nt119 ⟨pa119_0, Fn119_0 f119_0⟩ := inst_ok eo119_0 followsTry is119 ⟨⟨sh119, cm119_0, by kernel_rfl, gm119_0, fm119_0⟩⟩

/-! ### F65 etalon/etalonlaw08.layers -/
abbrev nt65 : Nat := 31
def sh65 : List (Nat × List Sh) := [(4, [.sl]), (9, [.sl]), (14, [.sl]), (21, [.sl]), (27, [.sl])]
def r65_2 : List AOper := [⟨(some 1), (.box (.tmp 0)), none⟩, ⟨(some 2), (.mv (.const (.bool false))), none⟩]
def r65_4 : List AOper := [⟨(some 3), (.faddr 0 (.tmp 1)), none⟩, ⟨(some 4), (.load false 1 (.tmp 3)), none⟩, ⟨(some 5), (.len (.tmp 4)), none⟩, ⟨(some 6), (.bin .leq 3 (.tmp 5) (.const (.int .i64 6))), none⟩, ⟨(some 7), (.mv (.tmp 6)), none⟩, ⟨(some 8), (.faddr 0 (.tmp 1)), (some (7, false))⟩, ⟨(some 9), (.load false 1 (.tmp 8)), (some (7, false))⟩, ⟨(some 10), (.len (.tmp 9)), (some (7, false))⟩, ⟨(some 11), (.bin .gtr 3 (.tmp 10) (.const (.int .i64 40))), (some (7, false))⟩, ⟨(some 12), (.mv (.tmp 11)), (some (7, false))⟩, ⟨(some 13), (.faddr 0 (.tmp 1)), (some (12, true))⟩, ⟨(some 14), (.load false 1 (.tmp 13)), (some (12, true))⟩, ⟨(some 15), (.len (.tmp 14)), (some (12, true))⟩, ⟨(some 16), (.bin .leq 3 (.tmp 15) (.const (.int .i64 42))), (some (12, true))⟩, ⟨(some 17), (.pick (.tmp 12) (.tmp 16) (.const (.bool false))), (some (7, false))⟩, ⟨(some 18), (.pick (.tmp 7) (.const (.bool true)) (.tmp 17)), none⟩, ⟨(some 19), (.mv (.tmp 18)), none⟩, ⟨(some 20), (.faddr 1 (.tmp 1)), (some (19, true))⟩, ⟨(some 21), (.load false 1 (.tmp 20)), (some (19, true))⟩, ⟨(some 22), (.len (.tmp 21)), (some (19, true))⟩, ⟨(some 23), (.bin .leq 3 (.tmp 22) (.const (.int .i64 44))), (some (19, true))⟩, ⟨(some 24), (.pick (.tmp 19) (.tmp 23) (.const (.bool false))), none⟩, ⟨(some 25), (.mv (.tmp 24)), none⟩, ⟨(some 26), (.faddr 3 (.tmp 1)), (some (25, true))⟩, ⟨(some 27), (.load false 1 (.tmp 26)), (some (25, true))⟩, ⟨(some 28), (.len (.tmp 27)), (some (25, true))⟩, ⟨(some 29), (.bin .leq 3 (.tmp 28) (.const (.int .i64 3))), (some (25, true))⟩, ⟨(some 30), (.pick (.tmp 25) (.tmp 29) (.const (.bool false))), none⟩, ⟨(some 2), (.mv (.tmp 30)), none⟩]
def tr65 : List (Nat × Tidy) := [(0, ⟨[1], true, [], []⟩), (1, ⟨[2], true, [], []⟩)]
def tl65 : List (Nat × Tidy) := []
def rs65 : List AResV := [.tmp 2]
def pr65_0_0 : PT (List RV) := pRs [pR false [rD dB]]
def ur65_0_0 {β : Type} (g : List RV → β) : Bool → β := pr65_0_0.unc g

def E65_0g  : EnvK := EnvK.of [] noSeq
noncomputable def E65_0 : EnvK := E65_0g 
theorem eo65_0 : E65_0.Ok Try.prog := EnvK.of_ok noSeq_ok trivial

/-- etalon/etalonlaw08.layers -/
abbrev Tf65_0 : Type 1 := (α : Type) → Rows → Rows → Int → Rows → Int → Int → (Bool → Option α) → Option α
def f65_0g  (α : Type) (x1 : Rows) (x2 : Rows) (x3 : Int) (x4 : Rows) (x5 : Int) (x6 : Int) (k1 : Bool → Option α) : Option α :=
  cK (decide (((List.length x1 : Nat) : Int) ≤ 6))
    (cK (decide (((List.length x2 : Nat) : Int) ≤ 44))
      (k1 (decide (((List.length x4 : Nat) : Int) ≤ 3)))
      (k1 false))
    (cK (decide (40 < ((List.length x1 : Nat) : Int)))
      (cK (decide (((List.length x1 : Nat) : Int) ≤ 42))
        (cK (decide (((List.length x2 : Nat) : Int) ≤ 44))
          (k1 (decide (((List.length x4 : Nat) : Int) ≤ 3)))
          (k1 false))
        (k1 false))
      (k1 false))
noncomputable def f65_0 (α : Type) (x1 : Rows) (x2 : Rows) (x3 : Int) (x4 : Rows) (x5 : Int) (x6 : Int) (k1 : Bool → Option α) : Option α := f65_0g  α x1 x2 x3 x4 x5 x6 k1
def pa65_0 : PT (List DV) := pA [pV true [dL, dL, (dI .i64), dL, (dI .i64), (dI .i64)]]
def Fn65_0 (v : Tf65_0) (α : Type) (k : List RV → Option α) : Rows → Rows → Int → Rows → Int → Int → Option α := fun x1 x2 x3 x4 x5 x6 => v α x1 x2 x3 x4 x5 x6 (fun (y1 : Bool) => ur65_0_0 k y1)
noncomputable def cm65_0g  : MCode := (.seq (.region r65_2 [] (some ⟨[1], true, [], []⟩)) (.seq (.region r65_4 [] (some ⟨[2], true, [], []⟩)) .ret))
noncomputable def cm65_0 : MCode := cm65_0g 
theorem gm65_0 : cm65_0.Good Try.prog E65_0 sh65 := ⟨trivial, ⟨trivial, trivial⟩⟩
theorem fm65_0g   (α : Type) (k : List RV → Option α) : Fn65_0 (f65_0g ) α k = pa65_0.unc fun ds => fnM Try.prog (E65_0g ) sh65 (cm65_0g ) rs65 k ds := by kernel_rfl
theorem fm65_0 : ∀ (α : Type) (k : List RV → Option α), Fn65_0 f65_0 α k = pa65_0.unc fun ds => fnM Try.prog E65_0 sh65 cm65_0 rs65 k ds := fm65_0g 

theorem is65 : FnIs Try.prog 65 nt65 tr65 tl65 cm65_0.erase rs65 := ⟨Try.f65, Try.func65, rfl, by kernel_rfl, by kernel_rfl, by kernel_rfl⟩
theorem io65_0 : InstOk Try.prog 65 nt65 ⟨pa65_0, Fn65_0 f65_0⟩ := inst_ok eo65_0 followsTry is65 ⟨⟨sh65, cm65_0, by kernel_rfl, gm65_0, fm65_0⟩⟩

/-! ### F95 etalon/etalonbase.Ceil -/
abbrev nt95 : Nat := 10
def sh95 : List (Nat × List Sh) := []
def r95_2 : List AOper := [⟨(some 4), (.mv (.const (.int .i64 0))), none⟩]
def r95_4 : List AOper := [⟨(some 5), (.mv (.tmp 0)), none⟩, ⟨(some 6), (.pure (oB (.unOp .neg 3 (.tmp 5)) 3)), none⟩, ⟨(some 7), (.mv (.tmp 1)), none⟩, ⟨(some 8), (.call 94 [(.tmp 6), (.tmp 7)]), none⟩, ⟨(some 9), (.pure (oB (.unOp .neg 3 (.tmp 8)) 3)), none⟩, ⟨(some 4), (.mv (.tmp 9)), none⟩]
def tr95 : List (Nat × Tidy) := [(0, ⟨[0, 1], true, [], []⟩), (1, ⟨[4], true, [], []⟩)]
def tl95 : List (Nat × Tidy) := []
def rs95 : List AResV := [.tmp 4]
def pr95_0_0 : PT (List RV) := pRs [pR false [rD (dI .i64)]]
def ur95_0_0 {β : Type} (g : List RV → β) : Int → β := pr95_0_0.unc g

def E95_0g (vf94_0 : Tf94_0) : EnvK := EnvK.of [⟨94, nt94, [⟨pa94_0, Fn94_0 vf94_0⟩]⟩] noSeq
noncomputable def E95_0 : EnvK := E95_0g f94_0
theorem eo95_0 : E95_0.Ok Try.prog := EnvK.of_ok noSeq_ok ⟨⟨io94_0, trivial⟩, trivial⟩

/-- etalon/etalonbase.Ceil -/
abbrev Tf95_0 : Type 1 := (α : Type) → Int → Int → (Int → Option α) → Option α
def f95_0g (vf94_0 : Tf94_0) (α : Type) (x1 : Int) (x2 : Int) (k1 : Int → Option α) : Option α :=
  vf94_0 α (w64 (0 - x1)) x2
    (fun (x3 : Int) => k1 (w64 (0 - x3)))
noncomputable def f95_0 (α : Type) (x1 : Int) (x2 : Int) (k1 : Int → Option α) : Option α := f95_0g f94_0 α x1 x2 k1
def pa95_0 : PT (List DV) := pA [pV false [(dI .i64)], pV false [(dI .i64)]]
def Fn95_0 (v : Tf95_0) (α : Type) (k : List RV → Option α) : Int → Int → Option α := fun x1 x2 => v α x1 x2 (fun (y1 : Int) => ur95_0_0 k y1)
noncomputable def cm95_0g  : MCode := (.seq (.region r95_2 [] (some ⟨[0, 1], true, [], []⟩)) (.seq (.region r95_4 [] (some ⟨[4], true, [], []⟩)) .ret))
noncomputable def cm95_0 : MCode := cm95_0g 
theorem gm95_0 : cm95_0.Good Try.prog E95_0 sh95 := ⟨trivial, ⟨trivial, trivial⟩⟩
theorem fm95_0g (vf94_0 : Tf94_0)  (α : Type) (k : List RV → Option α) : Fn95_0 (f95_0g vf94_0) α k = pa95_0.unc fun ds => fnM Try.prog (E95_0g vf94_0) sh95 (cm95_0g ) rs95 k ds := by kernel_rfl
theorem fm95_0 : ∀ (α : Type) (k : List RV → Option α), Fn95_0 f95_0 α k = pa95_0.unc fun ds => fnM Try.prog E95_0 sh95 cm95_0 rs95 k ds := fm95_0g f94_0

theorem is95 : FnIs Try.prog 95 nt95 tr95 tl95 cm95_0.erase rs95 := ⟨Try.f95, Try.func95, rfl, by kernel_rfl, by kernel_rfl, by kernel_rfl⟩
theorem io95_0 : InstOk Try.prog 95 nt95 ⟨pa95_0, Fn95_0 f95_0⟩ := inst_ok eo95_0 followsTry is95 ⟨⟨sh95, cm95_0, by kernel_rfl, gm95_0, fm95_0⟩⟩

/-! ### F93 etalon/etalonref08.rangeErr -/
abbrev nt93 : Nat := 26
def sh93 : List (Nat × List Sh) := [(8, [.int .i64]), (15, [.int .i64]), (22, [.int .i64]), (24, [.int .i64])]
def r93_2 : List AOper := [⟨(some 3), (.box (.tmp 0)), none⟩, ⟨(some 6), (.mv (.const (.int .i64 0))), none⟩]
def r93_5 : List AOper := [⟨(some 7), (.faddr 0 (.tmp 3)), none⟩, ⟨(some 8), (.load false 1 (.tmp 7)), none⟩, ⟨(some 9), (.mv (.tmp 1)), none⟩, ⟨(some 10), (.mv (.tmp 2)), none⟩, ⟨(some 11), (.call 19 [(.tmp 8), (.tmp 9), (.tmp 10)]), none⟩, ⟨(some 12), (.pure (oB (.unOp .not 4 (.tmp 11)) 4)), none⟩, ⟨(some 13), (.mv (.tmp 12)), none⟩, ⟨(some 14), (.faddr 1 (.tmp 3)), (some (13, false))⟩, ⟨(some 15), (.load false 1 (.tmp 14)), (some (13, false))⟩, ⟨(some 16), (.mv (.tmp 1)), (some (13, false))⟩, ⟨(some 17), (.mv (.tmp 2)), (some (13, false))⟩, ⟨(some 18), (.call 19 [(.tmp 15), (.tmp 16), (.tmp 17)]), (some (13, false))⟩, ⟨(some 19), (.pure (oB (.unOp .not 4 (.tmp 18)) 4)), (some (13, false))⟩, ⟨(some 20), (.pick (.tmp 13) (.const (.bool true)) (.tmp 19)), none⟩]
def r93_8 : List AOper := [⟨(some 6), (.mv (.const (.int .i64 2))), none⟩]
def r93_11 : List AOper := [⟨(some 21), (.faddr 0 (.tmp 3)), none⟩, ⟨(some 22), (.load false 1 (.tmp 21)), none⟩, ⟨(some 23), (.faddr 1 (.tmp 3)), none⟩, ⟨(some 24), (.load false 1 (.tmp 23)), none⟩, ⟨(some 25), (.bin .gtr 3 (.tmp 22) (.tmp 24)), none⟩]
def r93_14 : List AOper := [⟨(some 6), (.mv (.const (.int .i64 10))), none⟩]
def r93_16 : List AOper := [⟨(some 6), (.mv (.const (.int .i64 0))), none⟩]
def tr93 : List (Nat × Tidy) := [(0, ⟨[1, 2, 3], true, [], []⟩), (1, ⟨[3, 20], true, [], []⟩), (2, ⟨[6], true, [], []⟩), (3, ⟨[25], true, [], []⟩), (4, ⟨[6], true, [], []⟩), (5, ⟨[6], true, [], []⟩)]
def tl93 : List (Nat × Tidy) := []
def rs93 : List AResV := [.tmp 6]
def pr93_0_0 : PT (List RV) := pRs [pR false [rD (dI .i64)]]
def ur93_0_0 {β : Type} (g : List RV → β) : Int → β := pr93_0_0.unc g

def E93_0g (vf19_0 : Tf19_0) : EnvK := EnvK.of [⟨19, nt19, [⟨pa19_0, Fn19_0 vf19_0⟩]⟩] noSeq
noncomputable def E93_0 : EnvK := E93_0g f19_0
theorem eo93_0 : E93_0.Ok Try.prog := EnvK.of_ok noSeq_ok ⟨⟨io19_0, trivial⟩, trivial⟩

/-- etalon/etalonref08.rangeErr -/
abbrev Tf93_0 : Type 1 := (α : Type) → Int → Int → Int → Int → (Int → Option α) → Option α
def f93_0g (vf19_0 : Tf19_0) (α : Type) (x1 : Int) (x2 : Int) (x3 : Int) (x4 : Int) (k1 : Int → Option α) : Option α :=
  vf19_0 α x1 x3 x4
    (fun (x5 : Bool) => cK (!x5)
      (k1 2)
      (vf19_0 α x2 x3 x4
        (fun (x6 : Bool) => cK (!x6)
          (k1 2)
          (cK (decide (x2 < x1))
            (k1 10)
            (k1 0)))))
noncomputable def f93_0 (α : Type) (x1 : Int) (x2 : Int) (x3 : Int) (x4 : Int) (k1 : Int → Option α) : Option α := f93_0g f19_0 α x1 x2 x3 x4 k1
def pa93_0 : PT (List DV) := pA [pV true [(dI .i64), (dI .i64)], pV false [(dI .i64)], pV false [(dI .i64)]]
def Fn93_0 (v : Tf93_0) (α : Type) (k : List RV → Option α) : Int → Int → Int → Int → Option α := fun x1 x2 x3 x4 => v α x1 x2 x3 x4 (fun (y1 : Int) => ur93_0_0 k y1)
noncomputable def cm93_0g  : MCode := (.seq (.region r93_2 [] (some ⟨[1, 2, 3], true, [], []⟩)) (.seq (.seq (.region r93_5 [] (some ⟨[3, 20], true, [], []⟩)) (.cond (.tmp 20) (.seq (.region r93_8 [] (some ⟨[6], true, [], []⟩)) .ret) .skip)) (.seq (.seq (.region r93_11 [] (some ⟨[25], true, [], []⟩)) (.cond (.tmp 25) (.seq (.region r93_14 [] (some ⟨[6], true, [], []⟩)) .ret) .skip)) (.seq (.region r93_16 [] (some ⟨[6], true, [], []⟩)) .ret))))
noncomputable def cm93_0 : MCode := cm93_0g 
theorem gm93_0 : cm93_0.Good Try.prog E93_0 sh93 := ⟨trivial, ⟨⟨trivial, ⟨⟨trivial, trivial⟩, trivial⟩⟩, ⟨⟨trivial, ⟨⟨trivial, trivial⟩, trivial⟩⟩, ⟨trivial, trivial⟩⟩⟩⟩
theorem fm93_0g (vf19_0 : Tf19_0)  (α : Type) (k : List RV → Option α) : Fn93_0 (f93_0g vf19_0) α k = pa93_0.unc fun ds => fnM Try.prog (E93_0g vf19_0) sh93 (cm93_0g ) rs93 k ds := by kernel_rfl
theorem fm93_0 : ∀ (α : Type) (k : List RV → Option α), Fn93_0 f93_0 α k = pa93_0.unc fun ds => fnM Try.prog E93_0 sh93 cm93_0 rs93 k ds := fm93_0g f19_0

theorem is93 : FnIs Try.prog 93 nt93 tr93 tl93 cm93_0.erase rs93 := ⟨Try.f93, Try.func93, rfl, by kernel_rfl, by kernel_rfl, by kernel_rfl⟩
theorem io93_0 : InstOk Try.prog 93 nt93 ⟨pa93_0, Fn93_0 f93_0⟩ := inst_ok eo93_0 followsTry is93 ⟨⟨sh93, cm93_0, by kernel_rfl, gm93_0, fm93_0⟩⟩

/-! ### F135 etalon/stack.isThick -/
abbrev nt135 : Nat := 5
def sh135 : List (Nat × List Sh) := []
def r135_2 : List AOper := [⟨(some 2), (.mv (.const (.bool false))), none⟩]
def r135_4 : List AOper := [⟨(some 3), (.mv (.tmp 0)), none⟩, ⟨(some 4), (.call 136 [(.tmp 3), (.const (.int .i64 0)), (.const (.int .i64 1000000))]), none⟩, ⟨(some 2), (.mv (.tmp 4)), none⟩]
def tr135 : List (Nat × Tidy) := [(0, ⟨[0], true, [], []⟩), (1, ⟨[2], true, [], []⟩)]
def tl135 : List (Nat × Tidy) := []
def rs135 : List AResV := [.tmp 2]
def pr135_0_0 : PT (List RV) := pRs [pR false [rD dB]]
def ur135_0_0 {β : Type} (g : List RV → β) : Bool → β := pr135_0_0.unc g

def E135_0g (vf136_0 : Tf136_0) : EnvK := EnvK.of [⟨136, nt136, [⟨pa136_0, Fn136_0 vf136_0⟩]⟩] noSeq
noncomputable def E135_0 : EnvK := E135_0g f136_0
theorem eo135_0 : E135_0.Ok Try.prog := EnvK.of_ok noSeq_ok ⟨⟨io136_0, trivial⟩, trivial⟩

/-- etalon/stack.isThick -/
abbrev Tf135_0 : Type 1 := (α : Type) → Int → (Bool → Option α) → Option α
def f135_0g (vf136_0 : Tf136_0) (α : Type) (x1 : Int) (k1 : Bool → Option α) : Option α :=
  vf136_0 α x1 0 1000000
    (fun (x2 : Bool) => k1 x2)
noncomputable def f135_0 (α : Type) (x1 : Int) (k1 : Bool → Option α) : Option α := f135_0g f136_0 α x1 k1
def pa135_0 : PT (List DV) := pA [pV false [(dI .i64)]]
def Fn135_0 (v : Tf135_0) (α : Type) (k : List RV → Option α) : Int → Option α := fun x1 => v α x1 (fun (y1 : Bool) => ur135_0_0 k y1)
noncomputable def cm135_0g  : MCode := (.seq (.region r135_2 [] (some ⟨[0], true, [], []⟩)) (.seq (.region r135_4 [] (some ⟨[2], true, [], []⟩)) .ret))
noncomputable def cm135_0 : MCode := cm135_0g 
theorem gm135_0 : cm135_0.Good Try.prog E135_0 sh135 := ⟨trivial, ⟨trivial, trivial⟩⟩
theorem fm135_0g (vf136_0 : Tf136_0)  (α : Type) (k : List RV → Option α) : Fn135_0 (f135_0g vf136_0) α k = pa135_0.unc fun ds => fnM Try.prog (E135_0g vf136_0) sh135 (cm135_0g ) rs135 k ds := by kernel_rfl
theorem fm135_0 : ∀ (α : Type) (k : List RV → Option α), Fn135_0 f135_0 α k = pa135_0.unc fun ds => fnM Try.prog E135_0 sh135 cm135_0 rs135 k ds := fm135_0g f136_0

theorem is135 : FnIs Try.prog 135 nt135 tr135 tl135 cm135_0.erase rs135 := ⟨Try.f135, Try.func135, rfl, by kernel_rfl, by kernel_rfl, by kernel_rfl⟩
theorem io135_0 : InstOk Try.prog 135 nt135 ⟨pa135_0, Fn135_0 f135_0⟩ := inst_ok eo135_0 followsTry is135 ⟨⟨sh135, cm135_0, by kernel_rfl, gm135_0, fm135_0⟩⟩

/-! ### F134 etalon/stack.isLoss -/
abbrev nt134 : Nat := 5
def sh134 : List (Nat × List Sh) := []
def r134_2 : List AOper := [⟨(some 2), (.mv (.const (.bool false))), none⟩]
def r134_4 : List AOper := [⟨(some 3), (.mv (.tmp 0)), none⟩, ⟨(some 4), (.call 136 [(.tmp 3), (.const (.int .i64 0)), (.const (.int .i64 80000))]), none⟩, ⟨(some 2), (.mv (.tmp 4)), none⟩]
def tr134 : List (Nat × Tidy) := [(0, ⟨[0], true, [], []⟩), (1, ⟨[2], true, [], []⟩)]
def tl134 : List (Nat × Tidy) := []
def rs134 : List AResV := [.tmp 2]
def pr134_0_0 : PT (List RV) := pRs [pR false [rD dB]]
def ur134_0_0 {β : Type} (g : List RV → β) : Bool → β := pr134_0_0.unc g

def E134_0g (vf136_0 : Tf136_0) : EnvK := EnvK.of [⟨136, nt136, [⟨pa136_0, Fn136_0 vf136_0⟩]⟩] noSeq
noncomputable def E134_0 : EnvK := E134_0g f136_0
theorem eo134_0 : E134_0.Ok Try.prog := EnvK.of_ok noSeq_ok ⟨⟨io136_0, trivial⟩, trivial⟩

/-- etalon/stack.isLoss -/
abbrev Tf134_0 : Type 1 := (α : Type) → Int → (Bool → Option α) → Option α
def f134_0g (vf136_0 : Tf136_0) (α : Type) (x1 : Int) (k1 : Bool → Option α) : Option α :=
  vf136_0 α x1 0 80000
    (fun (x2 : Bool) => k1 x2)
noncomputable def f134_0 (α : Type) (x1 : Int) (k1 : Bool → Option α) : Option α := f134_0g f136_0 α x1 k1
def pa134_0 : PT (List DV) := pA [pV false [(dI .i64)]]
def Fn134_0 (v : Tf134_0) (α : Type) (k : List RV → Option α) : Int → Option α := fun x1 => v α x1 (fun (y1 : Bool) => ur134_0_0 k y1)
noncomputable def cm134_0g  : MCode := (.seq (.region r134_2 [] (some ⟨[0], true, [], []⟩)) (.seq (.region r134_4 [] (some ⟨[2], true, [], []⟩)) .ret))
noncomputable def cm134_0 : MCode := cm134_0g 
theorem gm134_0 : cm134_0.Good Try.prog E134_0 sh134 := ⟨trivial, ⟨trivial, trivial⟩⟩
theorem fm134_0g (vf136_0 : Tf136_0)  (α : Type) (k : List RV → Option α) : Fn134_0 (f134_0g vf136_0) α k = pa134_0.unc fun ds => fnM Try.prog (E134_0g vf136_0) sh134 (cm134_0g ) rs134 k ds := by kernel_rfl
theorem fm134_0 : ∀ (α : Type) (k : List RV → Option α), Fn134_0 f134_0 α k = pa134_0.unc fun ds => fnM Try.prog E134_0 sh134 cm134_0 rs134 k ds := fm134_0g f136_0

theorem is134 : FnIs Try.prog 134 nt134 tr134 tl134 cm134_0.erase rs134 := ⟨Try.f134, Try.func134, rfl, by kernel_rfl, by kernel_rfl, by kernel_rfl⟩
theorem io134_0 : InstOk Try.prog 134 nt134 ⟨pa134_0, Fn134_0 f134_0⟩ := inst_ok eo134_0 followsTry is134 ⟨⟨sh134, cm134_0, by kernel_rfl, gm134_0, fm134_0⟩⟩

/-! ### F133 etalon/stack.isIndex -/
abbrev nt133 : Nat := 5
def sh133 : List (Nat × List Sh) := []
def r133_2 : List AOper := [⟨(some 2), (.mv (.const (.bool false))), none⟩]
def r133_4 : List AOper := [⟨(some 3), (.mv (.tmp 0)), none⟩, ⟨(some 4), (.call 136 [(.tmp 3), (.const (.int .i64 5000)), (.const (.int .i64 80000))]), none⟩, ⟨(some 2), (.mv (.tmp 4)), none⟩]
def tr133 : List (Nat × Tidy) := [(0, ⟨[0], true, [], []⟩), (1, ⟨[2], true, [], []⟩)]
def tl133 : List (Nat × Tidy) := []
def rs133 : List AResV := [.tmp 2]
def pr133_0_0 : PT (List RV) := pRs [pR false [rD dB]]
def ur133_0_0 {β : Type} (g : List RV → β) : Bool → β := pr133_0_0.unc g

def E133_0g (vf136_0 : Tf136_0) : EnvK := EnvK.of [⟨136, nt136, [⟨pa136_0, Fn136_0 vf136_0⟩]⟩] noSeq
noncomputable def E133_0 : EnvK := E133_0g f136_0
theorem eo133_0 : E133_0.Ok Try.prog := EnvK.of_ok noSeq_ok ⟨⟨io136_0, trivial⟩, trivial⟩

/-- etalon/stack.isIndex -/
abbrev Tf133_0 : Type 1 := (α : Type) → Int → (Bool → Option α) → Option α
def f133_0g (vf136_0 : Tf136_0) (α : Type) (x1 : Int) (k1 : Bool → Option α) : Option α :=
  vf136_0 α x1 5000 80000
    (fun (x2 : Bool) => k1 x2)
noncomputable def f133_0 (α : Type) (x1 : Int) (k1 : Bool → Option α) : Option α := f133_0g f136_0 α x1 k1
def pa133_0 : PT (List DV) := pA [pV false [(dI .i64)]]
def Fn133_0 (v : Tf133_0) (α : Type) (k : List RV → Option α) : Int → Option α := fun x1 => v α x1 (fun (y1 : Bool) => ur133_0_0 k y1)
noncomputable def cm133_0g  : MCode := (.seq (.region r133_2 [] (some ⟨[0], true, [], []⟩)) (.seq (.region r133_4 [] (some ⟨[2], true, [], []⟩)) .ret))
noncomputable def cm133_0 : MCode := cm133_0g 
theorem gm133_0 : cm133_0.Good Try.prog E133_0 sh133 := ⟨trivial, ⟨trivial, trivial⟩⟩
theorem fm133_0g (vf136_0 : Tf136_0)  (α : Type) (k : List RV → Option α) : Fn133_0 (f133_0g vf136_0) α k = pa133_0.unc fun ds => fnM Try.prog (E133_0g vf136_0) sh133 (cm133_0g ) rs133 k ds := by kernel_rfl
theorem fm133_0 : ∀ (α : Type) (k : List RV → Option α), Fn133_0 f133_0 α k = pa133_0.unc fun ds => fnM Try.prog E133_0 sh133 cm133_0 rs133 k ds := fm133_0g f136_0

theorem is133 : FnIs Try.prog 133 nt133 tr133 tl133 cm133_0.erase rs133 := ⟨Try.f133, Try.func133, rfl, by kernel_rfl, by kernel_rfl, by kernel_rfl⟩
theorem io133_0 : InstOk Try.prog 133 nt133 ⟨pa133_0, Fn133_0 f133_0⟩ := inst_ok eo133_0 followsTry is133 ⟨⟨sh133, cm133_0, by kernel_rfl, gm133_0, fm133_0⟩⟩

/-! ### F132 etalon/grow.inside -/
abbrev nt132 : Nat := 19
def sh132 : List (Nat × List Sh) := [(8, [.int .i64]), (14, [.int .i64])]
def r132_2 : List AOper := [⟨(some 3), (.box (.tmp 0)), none⟩, ⟨(some 6), (.mv (.const (.bool false))), none⟩]
def r132_4 : List AOper := [⟨(some 7), (.faddr 0 (.tmp 3)), none⟩, ⟨(some 8), (.load false 1 (.tmp 7)), none⟩, ⟨(some 9), (.mv (.tmp 1)), none⟩, ⟨(some 10), (.mv (.tmp 2)), none⟩, ⟨(some 11), (.call 78 [(.tmp 8), (.tmp 9), (.tmp 10)]), none⟩, ⟨(some 12), (.mv (.tmp 11)), none⟩, ⟨(some 13), (.faddr 1 (.tmp 3)), (some (12, true))⟩, ⟨(some 14), (.load false 1 (.tmp 13)), (some (12, true))⟩, ⟨(some 15), (.mv (.tmp 1)), (some (12, true))⟩, ⟨(some 16), (.mv (.tmp 2)), (some (12, true))⟩, ⟨(some 17), (.call 78 [(.tmp 14), (.tmp 15), (.tmp 16)]), (some (12, true))⟩, ⟨(some 18), (.pick (.tmp 12) (.tmp 17) (.const (.bool false))), none⟩, ⟨(some 6), (.mv (.tmp 18)), none⟩]
def tr132 : List (Nat × Tidy) := [(0, ⟨[1, 2, 3], true, [], []⟩), (1, ⟨[6], true, [], []⟩)]
def tl132 : List (Nat × Tidy) := []
def rs132 : List AResV := [.tmp 6]
def pr132_0_0 : PT (List RV) := pRs [pR false [rD dB]]
def ur132_0_0 {β : Type} (g : List RV → β) : Bool → β := pr132_0_0.unc g

def E132_0g (vf78_0 : Tf78_0) : EnvK := EnvK.of [⟨78, nt78, [⟨pa78_0, Fn78_0 vf78_0⟩]⟩] noSeq
noncomputable def E132_0 : EnvK := E132_0g f78_0
theorem eo132_0 : E132_0.Ok Try.prog := EnvK.of_ok noSeq_ok ⟨⟨io78_0, trivial⟩, trivial⟩

/-- etalon/grow.inside -/
abbrev Tf132_0 : Type 1 := (α : Type) → Int → Int → Int → Int → (Bool → Option α) → Option α
def f132_0g (vf78_0 : Tf78_0) (α : Type) (x1 : Int) (x2 : Int) (x3 : Int) (x4 : Int) (k1 : Bool → Option α) : Option α :=
  vf78_0 α x1 x3 x4
    (fun (x5 : Bool) => cK x5
      (vf78_0 α x2 x3 x4
        (fun (x6 : Bool) => k1 x6))
      (k1 false))
noncomputable def f132_0 (α : Type) (x1 : Int) (x2 : Int) (x3 : Int) (x4 : Int) (k1 : Bool → Option α) : Option α := f132_0g f78_0 α x1 x2 x3 x4 k1
def pa132_0 : PT (List DV) := pA [pV true [(dI .i64), (dI .i64)], pV false [(dI .i64)], pV false [(dI .i64)]]
def Fn132_0 (v : Tf132_0) (α : Type) (k : List RV → Option α) : Int → Int → Int → Int → Option α := fun x1 x2 x3 x4 => v α x1 x2 x3 x4 (fun (y1 : Bool) => ur132_0_0 k y1)
noncomputable def cm132_0g  : MCode := (.seq (.region r132_2 [] (some ⟨[1, 2, 3], true, [], []⟩)) (.seq (.region r132_4 [] (some ⟨[6], true, [], []⟩)) .ret))
noncomputable def cm132_0 : MCode := cm132_0g 
theorem gm132_0 : cm132_0.Good Try.prog E132_0 sh132 := ⟨trivial, ⟨trivial, trivial⟩⟩
theorem fm132_0g (vf78_0 : Tf78_0)  (α : Type) (k : List RV → Option α) : Fn132_0 (f132_0g vf78_0) α k = pa132_0.unc fun ds => fnM Try.prog (E132_0g vf78_0) sh132 (cm132_0g ) rs132 k ds := by kernel_rfl
theorem fm132_0 : ∀ (α : Type) (k : List RV → Option α), Fn132_0 f132_0 α k = pa132_0.unc fun ds => fnM Try.prog E132_0 sh132 cm132_0 rs132 k ds := fm132_0g f78_0

theorem is132 : FnIs Try.prog 132 nt132 tr132 tl132 cm132_0.erase rs132 := ⟨Try.f132, Try.func132, rfl, by kernel_rfl, by kernel_rfl, by kernel_rfl⟩
theorem io132_0 : InstOk Try.prog 132 nt132 ⟨pa132_0, Fn132_0 f132_0⟩ := inst_ok eo132_0 followsTry is132 ⟨⟨sh132, cm132_0, by kernel_rfl, gm132_0, fm132_0⟩⟩

/-! ### F67 etalon/etalonref08.CopyTask -/
abbrev nt67 : Nat := 17
def sh67 : List (Nat × List Sh) := [(4, [.sl]), (7, [.sl]), (11, [.sl]), (16, [.sl, .sl, .int .i64, .sl, .int .i64, .int .i64])]
def r67_2 : List AOper := [⟨(some 1), (.box (.tmp 0)), none⟩, ⟨(some 2), (.alloc [.nils, .nils, (.d (.v (.int .i64 0))), .nils, (.d (.v (.int .i64 0))), (.d (.v (.int .i64 0)))]), none⟩]
def r67_4 : List AOper := [⟨(some 3), (.faddr 0 (.tmp 1)), none⟩, ⟨(some 4), (.load false 1 (.tmp 3)), none⟩, ⟨(some 5), (.call 119 [(.tmp 4)]), none⟩, ⟨(some 6), (.faddr 1 (.tmp 1)), none⟩, ⟨(some 7), (.load false 1 (.tmp 6)), none⟩, ⟨(some 8), (.call 120 [(.tmp 7)]), none⟩, ⟨(some 9), (.bslice 9 0 [(.v (.int .i64 0)), (.v (.int .i64 0)), (.v (.int .i64 0)), (.v (.int .i64 0)), (.v (.int .i64 0)), (.v (.int .i64 0)), (.v (.int .i64 0)), (.v (.int .i64 0)), (.v (.int .i64 0))] []), none⟩, ⟨(some 10), (.faddr 3 (.tmp 1)), none⟩, ⟨(some 11), (.load false 1 (.tmp 10)), none⟩, ⟨(some 12), (.append 9 72 (.tmp 9) (.tmp 11)), none⟩, ⟨(some 13), (.faddr 0 (.tmp 1)), none⟩, ⟨none, (.store 1 (.tmp 13) (.tmp 5)), none⟩, ⟨(some 14), (.faddr 1 (.tmp 1)), none⟩, ⟨none, (.store 1 (.tmp 14) (.tmp 8)), none⟩, ⟨(some 15), (.faddr 3 (.tmp 1)), none⟩, ⟨none, (.store 1 (.tmp 15) (.tmp 12)), none⟩]
def r67_6 : List AOper := [⟨(some 16), (.load true 6 (.tmp 1)), none⟩, ⟨none, (.store 6 (.tmp 2) (.tmp 16)), none⟩]
def tr67 : List (Nat × Tidy) := [(0, ⟨[1, 2], true, [⟨true, 2, 0, 30200, 3⟩, ⟨true, 2, 1, 30201, 2⟩, ⟨true, 2, 3, 30203, 9⟩], []⟩), (1, ⟨[1, 2], true, [⟨true, 2, 0, 30200, 3⟩, ⟨true, 2, 1, 30201, 2⟩, ⟨true, 2, 3, 30203, 9⟩], []⟩), (2, ⟨[2], true, [⟨true, 2, 0, 30200, 3⟩, ⟨true, 2, 1, 30201, 2⟩, ⟨true, 2, 3, 30203, 9⟩], []⟩)]
def tl67 : List (Nat × Tidy) := []
def rs67 : List AResV := [.cell 2 true 6]
def pr67_0_0 : PT (List RV) := pRs [pR true [rO 3, rO 2, rD (dI .i64), rO 9, rD (dI .i64), rD (dI .i64)]]
def ur67_0_0 {β : Type} (g : List RV → β) : Rows → Rows → Int → Rows → Int → Int → β := pr67_0_0.unc g

def E67_0g (vf119_0 : Tf119_0) (vf120_0 : Tf120_0) : EnvK := EnvK.of [⟨119, nt119, [⟨pa119_0, Fn119_0 vf119_0⟩]⟩, ⟨120, nt120, [⟨pa120_0, Fn120_0 vf120_0⟩]⟩] noSeq
noncomputable def E67_0 : EnvK := E67_0g f119_0 f120_0
theorem eo67_0 : E67_0.Ok Try.prog := EnvK.of_ok noSeq_ok ⟨⟨io119_0, trivial⟩, ⟨io120_0, trivial⟩, trivial⟩

/-- etalon/etalonref08.CopyTask -/
abbrev Tf67_0 : Type 1 := (α : Type) → Rows → Rows → Int → Rows → Int → Int → (Rows → Rows → Int → Rows → Int → Int → Option α) → Option α
def f67_0g (vf119_0 : Tf119_0) (vf120_0 : Tf120_0) (α : Type) (x1 : Rows) (x2 : Rows) (x3 : Int) (x4 : Rows) (x5 : Int) (x6 : Int) (k1 : Rows → Rows → Int → Rows → Int → Int → Option α) : Option α :=
  vf119_0 α x1
    (fun (x7 : Rows) => vf120_0 α x2
      (fun (x8 : Rows) => gK (apOk 9 72 [] x4) (k1 x7 x8 x3 ([] ++ x4) x5 x6)))
noncomputable def f67_0 (α : Type) (x1 : Rows) (x2 : Rows) (x3 : Int) (x4 : Rows) (x5 : Int) (x6 : Int) (k1 : Rows → Rows → Int → Rows → Int → Int → Option α) : Option α := f67_0g f119_0 f120_0 α x1 x2 x3 x4 x5 x6 k1
def pa67_0 : PT (List DV) := pA [pV true [dL, dL, (dI .i64), dL, (dI .i64), (dI .i64)]]
def Fn67_0 (v : Tf67_0) (α : Type) (k : List RV → Option α) : Rows → Rows → Int → Rows → Int → Int → Option α := fun x1 x2 x3 x4 x5 x6 => v α x1 x2 x3 x4 x5 x6 (fun (y1 : Rows) (y2 : Rows) (y3 : Int) (y4 : Rows) (y5 : Int) (y6 : Int) => ur67_0_0 k y1 y2 y3 y4 y5 y6)
noncomputable def cm67_0g  : MCode := (.seq (.region r67_2 [] (some ⟨[1, 2], true, [⟨true, 2, 0, 30200, 3⟩, ⟨true, 2, 1, 30201, 2⟩, ⟨true, 2, 3, 30203, 9⟩], []⟩)) (.seq (.region r67_4 [(2, 4), (1, 6), (2, 6), (4, 6), (5, 6), (2, 8), (5, 8), (6, 8)] (some ⟨[1, 2], true, [⟨true, 2, 0, 30200, 3⟩, ⟨true, 2, 1, 30201, 2⟩, ⟨true, 2, 3, 30203, 9⟩], []⟩)) (.seq (.region r67_6 [] (some ⟨[2], true, [⟨true, 2, 0, 30200, 3⟩, ⟨true, 2, 1, 30201, 2⟩, ⟨true, 2, 3, 30203, 9⟩], []⟩)) .ret)))
noncomputable def cm67_0 : MCode := cm67_0g 
theorem gm67_0 : cm67_0.Good Try.prog E67_0 sh67 := ⟨trivial, ⟨trivial, ⟨trivial, trivial⟩⟩⟩
theorem fm67_0g (vf119_0 : Tf119_0) (vf120_0 : Tf120_0)  (α : Type) (k : List RV → Option α) : Fn67_0 (f67_0g vf119_0 vf120_0) α k = pa67_0.unc fun ds => fnM Try.prog (E67_0g vf119_0 vf120_0) sh67 (cm67_0g ) rs67 k ds := by kernel_rfl
theorem fm67_0 : ∀ (α : Type) (k : List RV → Option α), Fn67_0 f67_0 α k = pa67_0.unc fun ds => fnM Try.prog E67_0 sh67 cm67_0 rs67 k ds := fm67_0g f119_0 f120_0

theorem is67 : FnIs Try.prog 67 nt67 tr67 tl67 cm67_0.erase rs67 := ⟨Try.f67, Try.func67, rfl, by kernel_rfl, by kernel_rfl, by kernel_rfl⟩
theorem io67_0 : InstOk Try.prog 67 nt67 ⟨pa67_0, Fn67_0 f67_0⟩ := inst_ok eo67_0 followsTry is67 ⟨⟨sh67, cm67_0, by kernel_rfl, gm67_0, fm67_0⟩⟩

/-! ### F28 etalon/etalonref08.SecondsErr -/
abbrev nt28 : Nat := 5
def sh28 : List (Nat × List Sh) := [(3, [.int .i64, .int .i64])]
def r28_2 : List AOper := [⟨(some 1), (.box (.tmp 0)), none⟩, ⟨(some 2), (.mv (.const (.int .i64 0))), none⟩]
def r28_4 : List AOper := [⟨(some 3), (.load true 2 (.tmp 1)), none⟩, ⟨(some 4), (.call 93 [(.tmp 3), (.const (.int .i64 0)), (.const (.int .i64 100000))]), none⟩, ⟨(some 2), (.mv (.tmp 4)), none⟩]
def tr28 : List (Nat × Tidy) := [(0, ⟨[1], true, [], []⟩), (1, ⟨[2], true, [], []⟩)]
def tl28 : List (Nat × Tidy) := []
def rs28 : List AResV := [.tmp 2]
def pr28_0_0 : PT (List RV) := pRs [pR false [rD (dI .i64)]]
def ur28_0_0 {β : Type} (g : List RV → β) : Int → β := pr28_0_0.unc g

def E28_0g (vf93_0 : Tf93_0) : EnvK := EnvK.of [⟨93, nt93, [⟨pa93_0, Fn93_0 vf93_0⟩]⟩] noSeq
noncomputable def E28_0 : EnvK := E28_0g f93_0
theorem eo28_0 : E28_0.Ok Try.prog := EnvK.of_ok noSeq_ok ⟨⟨io93_0, trivial⟩, trivial⟩

/-- etalon/etalonref08.SecondsErr -/
abbrev Tf28_0 : Type 1 := (α : Type) → Int → Int → (Int → Option α) → Option α
def f28_0g (vf93_0 : Tf93_0) (α : Type) (x1 : Int) (x2 : Int) (k1 : Int → Option α) : Option α :=
  vf93_0 α x1 x2 0 100000
    (fun (x3 : Int) => k1 x3)
noncomputable def f28_0 (α : Type) (x1 : Int) (x2 : Int) (k1 : Int → Option α) : Option α := f28_0g f93_0 α x1 x2 k1
def pa28_0 : PT (List DV) := pA [pV true [(dI .i64), (dI .i64)]]
def Fn28_0 (v : Tf28_0) (α : Type) (k : List RV → Option α) : Int → Int → Option α := fun x1 x2 => v α x1 x2 (fun (y1 : Int) => ur28_0_0 k y1)
noncomputable def cm28_0g  : MCode := (.seq (.region r28_2 [] (some ⟨[1], true, [], []⟩)) (.seq (.region r28_4 [] (some ⟨[2], true, [], []⟩)) .ret))
noncomputable def cm28_0 : MCode := cm28_0g 
theorem gm28_0 : cm28_0.Good Try.prog E28_0 sh28 := ⟨trivial, ⟨trivial, trivial⟩⟩
theorem fm28_0g (vf93_0 : Tf93_0)  (α : Type) (k : List RV → Option α) : Fn28_0 (f28_0g vf93_0) α k = pa28_0.unc fun ds => fnM Try.prog (E28_0g vf93_0) sh28 (cm28_0g ) rs28 k ds := by kernel_rfl
theorem fm28_0 : ∀ (α : Type) (k : List RV → Option α), Fn28_0 f28_0 α k = pa28_0.unc fun ds => fnM Try.prog E28_0 sh28 cm28_0 rs28 k ds := fm28_0g f93_0

theorem is28 : FnIs Try.prog 28 nt28 tr28 tl28 cm28_0.erase rs28 := ⟨Try.f28, Try.func28, rfl, by kernel_rfl, by kernel_rfl, by kernel_rfl⟩
theorem io28_0 : InstOk Try.prog 28 nt28 ⟨pa28_0, Fn28_0 f28_0⟩ := inst_ok eo28_0 followsTry is28 ⟨⟨sh28, cm28_0, by kernel_rfl, gm28_0, fm28_0⟩⟩

/-! ### F27 etalon/etalonref08.RateErr -/
abbrev nt27 : Nat := 5
def sh27 : List (Nat × List Sh) := [(3, [.int .i64, .int .i64])]
def r27_2 : List AOper := [⟨(some 1), (.box (.tmp 0)), none⟩, ⟨(some 2), (.mv (.const (.int .i64 0))), none⟩]
def r27_4 : List AOper := [⟨(some 3), (.load true 2 (.tmp 1)), none⟩, ⟨(some 4), (.call 93 [(.tmp 3), (.const (.int .i64 1)), (.const (.int .i64 1000000))]), none⟩, ⟨(some 2), (.mv (.tmp 4)), none⟩]
def tr27 : List (Nat × Tidy) := [(0, ⟨[1], true, [], []⟩), (1, ⟨[2], true, [], []⟩)]
def tl27 : List (Nat × Tidy) := []
def rs27 : List AResV := [.tmp 2]
def pr27_0_0 : PT (List RV) := pRs [pR false [rD (dI .i64)]]
def ur27_0_0 {β : Type} (g : List RV → β) : Int → β := pr27_0_0.unc g

def E27_0g (vf93_0 : Tf93_0) : EnvK := EnvK.of [⟨93, nt93, [⟨pa93_0, Fn93_0 vf93_0⟩]⟩] noSeq
noncomputable def E27_0 : EnvK := E27_0g f93_0
theorem eo27_0 : E27_0.Ok Try.prog := EnvK.of_ok noSeq_ok ⟨⟨io93_0, trivial⟩, trivial⟩

/-- etalon/etalonref08.RateErr -/
abbrev Tf27_0 : Type 1 := (α : Type) → Int → Int → (Int → Option α) → Option α
def f27_0g (vf93_0 : Tf93_0) (α : Type) (x1 : Int) (x2 : Int) (k1 : Int → Option α) : Option α :=
  vf93_0 α x1 x2 1 1000000
    (fun (x3 : Int) => k1 x3)
noncomputable def f27_0 (α : Type) (x1 : Int) (x2 : Int) (k1 : Int → Option α) : Option α := f27_0g f93_0 α x1 x2 k1
def pa27_0 : PT (List DV) := pA [pV true [(dI .i64), (dI .i64)]]
def Fn27_0 (v : Tf27_0) (α : Type) (k : List RV → Option α) : Int → Int → Option α := fun x1 x2 => v α x1 x2 (fun (y1 : Int) => ur27_0_0 k y1)
noncomputable def cm27_0g  : MCode := (.seq (.region r27_2 [] (some ⟨[1], true, [], []⟩)) (.seq (.region r27_4 [] (some ⟨[2], true, [], []⟩)) .ret))
noncomputable def cm27_0 : MCode := cm27_0g 
theorem gm27_0 : cm27_0.Good Try.prog E27_0 sh27 := ⟨trivial, ⟨trivial, trivial⟩⟩
theorem fm27_0g (vf93_0 : Tf93_0)  (α : Type) (k : List RV → Option α) : Fn27_0 (f27_0g vf93_0) α k = pa27_0.unc fun ds => fnM Try.prog (E27_0g vf93_0) sh27 (cm27_0g ) rs27 k ds := by kernel_rfl
theorem fm27_0 : ∀ (α : Type) (k : List RV → Option α), Fn27_0 f27_0 α k = pa27_0.unc fun ds => fnM Try.prog E27_0 sh27 cm27_0 rs27 k ds := fm27_0g f93_0

theorem is27 : FnIs Try.prog 27 nt27 tr27 tl27 cm27_0.erase rs27 := ⟨Try.f27, Try.func27, rfl, by kernel_rfl, by kernel_rfl, by kernel_rfl⟩
theorem io27_0 : InstOk Try.prog 27 nt27 ⟨pa27_0, Fn27_0 f27_0⟩ := inst_ok eo27_0 followsTry is27 ⟨⟨sh27, cm27_0, by kernel_rfl, gm27_0, fm27_0⟩⟩

/-! ### F68 etalon/etalonref08.Boxes -/
abbrev nt68 : Nat := 126
def sh68 : List (Nat × List Sh) := [(14, [.sl]), (19, [.sl]), (25, [.sl]), (27, [.int .i64, .int .i64, .int .i64]), (28, [.int .i64, .int .i64, .int .i64]), (30, [.int .i64]), (35, [.int .i64]), (41, [.int .i64]), (46, [.sl]), (49, [.sl]), (54, [.sl]), (60, [.sl]), (62, [.int .i64, .int .i64]), (63, [.int .i64, .int .i64]), (69, [.int .i64]), (74, [.sl]), (80, [.sl]), (82, [.int .i64, .int .i64, .int .i64]), (83, [.int .i64, .int .i64, .int .i64]), (85, [.int .i64]), (87, [.int .i64]), (91, [.int .i64]), (96, [.int .i64]), (102, [.sl]), (106, [.sl]), (108, [.int .i64, .int .i64]), (109, [.int .i64, .int .i64]), (111, [.int .i64]), (115, [.int .i64]), (117, [.int .i64]), (119, [.int .i64, .int .i64]), (121, [.int .i64])]
def r68_2 : List AOper := [⟨(some 1), (.box (.tmp 0)), none⟩, ⟨(some 2), (.mv (.const (.slice none 0 0))), none⟩, ⟨(some 3), (.mv (.const (.int .i64 0))), none⟩]
def r68_5 : List AOper := [⟨(some 13), (.faddr 0 (.tmp 1)), none⟩, ⟨(some 14), (.load false 1 (.tmp 13)), none⟩, ⟨(some 15), (.len (.tmp 14)), none⟩, ⟨(some 16), (.bin .gtr 3 (.tmp 15) (.const (.int .i64 40))), none⟩]
def r68_8 : List AOper := [⟨(some 2), (.mv (.const (.slice none 0 0))), none⟩, ⟨(some 3), (.mv (.const (.int .i64 8))), none⟩]
def r68_11 : List AOper := [⟨(some 4), (.mv (.const (.int .i64 0))), none⟩]
def td68_13 : Option Tidy := (some ⟨[1, 4], true, [⟨true, 1, 0, 30100, 3⟩, ⟨true, 1, 1, 30101, 2⟩, ⟨true, 1, 3, 30103, 9⟩], []⟩)
def r68_16 : List AOper := [⟨(some 17), (.mv (.tmp 4)), none⟩, ⟨(some 18), (.faddr 0 (.tmp 1)), none⟩, ⟨(some 19), (.load false 1 (.tmp 18)), none⟩, ⟨(some 20), (.len (.tmp 19)), none⟩, ⟨(some 21), (.bin .lss 3 (.tmp 17) (.tmp 20)), none⟩]
def r68_21 : List AOper := [⟨(some 24), (.faddr 0 (.tmp 1)), none⟩, ⟨(some 25), (.load false 1 (.tmp 24)), none⟩, ⟨(some 26), (.mv (.tmp 4)), none⟩, ⟨(some 27), (.iaddr 3 none (.tmp 25) (.tmp 26)), none⟩, ⟨(some 28), (.load true 3 (.tmp 27)), none⟩, ⟨(some 5), (.alloc [(.d (.v (.int .i64 0))), (.d (.v (.int .i64 0))), (.d (.v (.int .i64 0)))]), none⟩, ⟨none, (.store 3 (.tmp 5) (.tmp 28)), none⟩]
def r68_23 : List AOper := [⟨(some 29), (.faddr 0 (.tmp 5)), none⟩, ⟨(some 30), (.load false 1 (.tmp 29)), none⟩, ⟨(some 31), (.call 19 [(.tmp 30), (.const (.int .i64 5000)), (.const (.int .i64 80000))]), none⟩, ⟨(some 32), (.pure (oB (.unOp .not 4 (.tmp 31)) 4)), none⟩, ⟨(some 33), (.mv (.tmp 32)), none⟩, ⟨(some 34), (.faddr 1 (.tmp 5)), (some (33, false))⟩, ⟨(some 35), (.load false 1 (.tmp 34)), (some (33, false))⟩, ⟨(some 36), (.call 19 [(.tmp 35), (.const (.int .i64 0)), (.const (.int .i64 80000))]), (some (33, false))⟩, ⟨(some 37), (.pure (oB (.unOp .not 4 (.tmp 36)) 4)), (some (33, false))⟩, ⟨(some 38), (.pick (.tmp 33) (.const (.bool true)) (.tmp 37)), none⟩, ⟨(some 39), (.mv (.tmp 38)), none⟩, ⟨(some 40), (.faddr 2 (.tmp 5)), (some (39, false))⟩, ⟨(some 41), (.load false 1 (.tmp 40)), (some (39, false))⟩, ⟨(some 42), (.call 19 [(.tmp 41), (.const (.int .i64 0)), (.const (.int .i64 1000000))]), (some (39, false))⟩, ⟨(some 43), (.pure (oB (.unOp .not 4 (.tmp 42)) 4)), (some (39, false))⟩, ⟨(some 44), (.pick (.tmp 39) (.const (.bool true)) (.tmp 43)), none⟩]
def r68_26 : List AOper := [⟨(some 2), (.mv (.const (.slice none 0 0))), none⟩, ⟨(some 3), (.mv (.const (.int .i64 2))), none⟩]
def r68_27 : List AOper := [⟨(some 22), (.mv (.tmp 4)), none⟩, ⟨(some 23), (.bin .add 3 (.tmp 22) (.const (.int .i64 1))), none⟩, ⟨(some 4), (.mv (.tmp 23)), none⟩]
def r68_30 : List AOper := [⟨(some 45), (.faddr 1 (.tmp 1)), none⟩, ⟨(some 46), (.load false 1 (.tmp 45)), none⟩, ⟨(some 47), (.len (.tmp 46)), none⟩, ⟨(some 48), (.faddr 0 (.tmp 1)), none⟩, ⟨(some 49), (.load false 1 (.tmp 48)), none⟩, ⟨(some 50), (.len (.tmp 49)), none⟩, ⟨(some 51), (.bin .gtr 3 (.tmp 47) (.tmp 50)), none⟩]
def r68_33 : List AOper := [⟨(some 2), (.mv (.const (.slice none 0 0))), none⟩, ⟨(some 3), (.mv (.const (.int .i64 12))), none⟩]
def r68_36 : List AOper := [⟨(some 6), (.mv (.const (.int .i64 0))), none⟩]
def td68_38 : Option Tidy := (some ⟨[1, 6], true, [⟨true, 1, 0, 30100, 3⟩, ⟨true, 1, 1, 30101, 2⟩, ⟨true, 1, 3, 30103, 9⟩], []⟩)
def r68_41 : List AOper := [⟨(some 52), (.mv (.tmp 6)), none⟩, ⟨(some 53), (.faddr 1 (.tmp 1)), none⟩, ⟨(some 54), (.load false 1 (.tmp 53)), none⟩, ⟨(some 55), (.len (.tmp 54)), none⟩, ⟨(some 56), (.bin .lss 3 (.tmp 52) (.tmp 55)), none⟩]
def r68_46 : List AOper := [⟨(some 59), (.faddr 1 (.tmp 1)), none⟩, ⟨(some 60), (.load false 1 (.tmp 59)), none⟩, ⟨(some 61), (.mv (.tmp 6)), none⟩, ⟨(some 62), (.iaddr 2 none (.tmp 60) (.tmp 61)), none⟩, ⟨(some 63), (.load true 2 (.tmp 62)), none⟩, ⟨(some 64), (.call 93 [(.tmp 63), (.const (.int .i64 0)), (.const (.int .i64 1000000))]), none⟩, ⟨(some 7), (.mv (.tmp 64)), none⟩]
def r68_48 : List AOper := [⟨(some 65), (.mv (.tmp 7)), none⟩, ⟨(some 66), (.bin .neq 3 (.tmp 65) (.const (.int .i64 0))), none⟩]
def r68_51 : List AOper := [⟨(some 67), (.mv (.tmp 7)), none⟩, ⟨(some 2), (.mv (.const (.slice none 0 0))), none⟩, ⟨(some 3), (.mv (.tmp 67)), none⟩]
def r68_52 : List AOper := [⟨(some 57), (.mv (.tmp 6)), none⟩, ⟨(some 58), (.bin .add 3 (.tmp 57) (.const (.int .i64 1))), none⟩, ⟨(some 6), (.mv (.tmp 58)), none⟩]
def r68_55 : List AOper := [⟨(some 68), (.faddr 2 (.tmp 1)), none⟩, ⟨(some 69), (.load false 1 (.tmp 68)), none⟩, ⟨(some 70), (.call 19 [(.tmp 69), (.const (.int .i64 0)), (.const (.int .i64 1000))]), none⟩, ⟨(some 71), (.pure (oB (.unOp .not 4 (.tmp 70)) 4)), none⟩]
def r68_58 : List AOper := [⟨(some 2), (.mv (.const (.slice none 0 0))), none⟩, ⟨(some 3), (.mv (.const (.int .i64 2))), none⟩]
def r68_60 : List AOper := [⟨(some 8), (.mv (.const (.slice none 0 0))), none⟩]
def r68_63 : List AOper := [⟨(some 9), (.mv (.const (.int .i64 0))), none⟩]
def td68_65 : Option Tidy := (some ⟨[1, 8, 9], true, [⟨false, 8, 0, 20008, 5⟩, ⟨true, 1, 0, 30100, 3⟩, ⟨true, 1, 1, 30101, 2⟩, ⟨true, 1, 3, 30103, 9⟩], []⟩)
def r68_68 : List AOper := [⟨(some 72), (.mv (.tmp 9)), none⟩, ⟨(some 73), (.faddr 0 (.tmp 1)), none⟩, ⟨(some 74), (.load false 1 (.tmp 73)), none⟩, ⟨(some 75), (.len (.tmp 74)), none⟩, ⟨(some 76), (.bin .lss 3 (.tmp 72) (.tmp 75)), none⟩]
def r68_73 : List AOper := [⟨(some 79), (.faddr 0 (.tmp 1)), none⟩, ⟨(some 80), (.load false 1 (.tmp 79)), none⟩, ⟨(some 81), (.mv (.tmp 9)), none⟩, ⟨(some 82), (.iaddr 3 none (.tmp 80) (.tmp 81)), none⟩, ⟨(some 83), (.load true 3 (.tmp 82)), none⟩, ⟨(some 10), (.alloc [(.d (.v (.int .i64 0))), (.d (.v (.int .i64 0))), (.d (.v (.int .i64 0)))]), none⟩, ⟨none, (.store 3 (.tmp 10) (.tmp 83)), none⟩]
def r68_75 : List AOper := [⟨(some 84), (.faddr 2 (.tmp 10)), none⟩, ⟨(some 85), (.load false 1 (.tmp 84)), none⟩, ⟨(some 86), (.faddr 2 (.tmp 1)), none⟩, ⟨(some 87), (.load false 1 (.tmp 86)), none⟩, ⟨(some 88), (.bin .mul 3 (.tmp 85) (.tmp 87)), none⟩, ⟨(some 89), (.call 95 [(.tmp 88), (.const (.int .i64 1000))]), none⟩, ⟨(some 11), (.mv (.tmp 89)), none⟩]
def r68_77 : List AOper := [⟨(some 90), (.faddr 2 (.tmp 10)), none⟩, ⟨(some 91), (.load false 1 (.tmp 90)), none⟩, ⟨(some 92), (.mv (.tmp 11)), none⟩, ⟨(some 93), (.bin .sub 3 (.tmp 91) (.tmp 92)), none⟩, ⟨(some 94), (.pure (oB (.call { callee := .builtin .max, args := #[(.const (.int .i64 0)), (.tmp 93)], argTypes := #[3, 3] }) 3)), none⟩, ⟨(some 95), (.faddr 2 (.tmp 10)), none⟩, ⟨(some 96), (.load false 1 (.tmp 95)), none⟩, ⟨(some 97), (.mv (.tmp 11)), none⟩, ⟨(some 98), (.bin .add 3 (.tmp 96) (.tmp 97)), none⟩, ⟨(some 99), (.build [(.d (.v (.int .i64 0))), (.d (.v (.int .i64 0)))] [(0, 1, (.tmp 94)), (1, 1, (.tmp 98))]), none⟩, ⟨(some 12), (.alloc [(.d (.v (.int .i64 0))), (.d (.v (.int .i64 0)))]), none⟩, ⟨none, (.store 2 (.tmp 12) (.tmp 99)), none⟩]
def r68_80 : List AOper := [⟨(some 100), (.mv (.tmp 9)), none⟩, ⟨(some 101), (.faddr 1 (.tmp 1)), none⟩, ⟨(some 102), (.load false 1 (.tmp 101)), none⟩, ⟨(some 103), (.len (.tmp 102)), none⟩, ⟨(some 104), (.bin .lss 3 (.tmp 100) (.tmp 103)), none⟩]
def r68_82 : List AOper := [⟨(some 105), (.faddr 1 (.tmp 1)), none⟩, ⟨(some 106), (.load false 1 (.tmp 105)), none⟩, ⟨(some 107), (.mv (.tmp 9)), none⟩, ⟨(some 108), (.iaddr 2 none (.tmp 106) (.tmp 107)), none⟩, ⟨(some 109), (.load true 2 (.tmp 108)), none⟩, ⟨none, (.store 2 (.tmp 12) (.tmp 109)), none⟩]
def r68_85 : List AOper := [⟨(some 110), (.faddr 1 (.tmp 12)), none⟩, ⟨(some 111), (.load false 1 (.tmp 110)), none⟩, ⟨(some 112), (.bin .gtr 3 (.tmp 111) (.const (.int .i64 1000000))), none⟩]
def r68_88 : List AOper := [⟨(some 2), (.mv (.const (.slice none 0 0))), none⟩, ⟨(some 3), (.mv (.const (.int .i64 8))), none⟩]
def r68_89 : List AOper := [⟨(some 113), (.mv (.tmp 8)), none⟩, ⟨(some 114), (.faddr 0 (.tmp 10)), none⟩, ⟨(some 115), (.load false 1 (.tmp 114)), none⟩, ⟨(some 116), (.faddr 0 (.tmp 10)), none⟩, ⟨(some 117), (.load false 1 (.tmp 116)), none⟩, ⟨(some 118), (.build [(.d (.v (.int .i64 0))), (.d (.v (.int .i64 0)))] [(0, 1, (.tmp 115)), (1, 1, (.tmp 117))]), none⟩, ⟨(some 119), (.load true 2 (.tmp 12)), none⟩, ⟨(some 120), (.faddr 1 (.tmp 10)), none⟩, ⟨(some 121), (.load false 1 (.tmp 120)), none⟩, ⟨(some 122), (.build [(.d (.v (.int .i64 0))), (.d (.v (.int .i64 0))), (.d (.v (.int .i64 0))), (.d (.v (.int .i64 0))), (.d (.v (.int .i64 0)))] [(0, 2, (.tmp 118)), (2, 2, (.tmp 119)), (4, 1, (.tmp 121))]), none⟩, ⟨(some 123), (.bslice 5 1 [(.v (.int .i64 0)), (.v (.int .i64 0)), (.v (.int .i64 0)), (.v (.int .i64 0)), (.v (.int .i64 0))] [(0, (.tmp 122))]), none⟩, ⟨(some 124), (.append 5 40 (.tmp 113) (.tmp 123)), none⟩, ⟨(some 8), (.mv (.tmp 124)), none⟩]
def r68_90 : List AOper := [⟨(some 77), (.mv (.tmp 9)), none⟩, ⟨(some 78), (.bin .add 3 (.tmp 77) (.const (.int .i64 1))), none⟩, ⟨(some 9), (.mv (.tmp 78)), none⟩]
def r68_92 : List AOper := [⟨(some 125), (.mv (.tmp 8)), none⟩, ⟨(some 2), (.mv (.tmp 125)), none⟩, ⟨(some 3), (.mv (.const (.int .i64 0))), none⟩]
def tr68 : List (Nat × Tidy) := [(0, ⟨[1], true, [], []⟩), (1, ⟨[1, 16], true, [], []⟩), (2, ⟨[2, 3], true, [⟨false, 2, 0, 20002, 5⟩], []⟩), (3, ⟨[1, 4], true, [], []⟩), (4, ⟨[1, 4, 21], true, [], []⟩), (6, ⟨[1, 4, 5], true, [], []⟩), (7, ⟨[1, 4, 44], true, [], []⟩), (8, ⟨[2, 3], true, [⟨false, 2, 0, 20002, 5⟩], []⟩), (5, ⟨[1, 4], true, [], []⟩), (9, ⟨[1, 51], true, [], []⟩), (10, ⟨[2, 3], true, [⟨false, 2, 0, 20002, 5⟩], []⟩), (11, ⟨[1, 6], true, [], []⟩), (12, ⟨[1, 6, 56], true, [], []⟩), (14, ⟨[1, 6, 7], true, [], []⟩), (15, ⟨[1, 6, 7, 66], true, [], []⟩), (16, ⟨[2, 3], true, [⟨false, 2, 0, 20002, 5⟩], []⟩), (13, ⟨[1, 6], true, [], []⟩), (17, ⟨[1, 71], true, [], []⟩), (18, ⟨[2, 3], true, [⟨false, 2, 0, 20002, 5⟩], []⟩), (19, ⟨[1, 8], true, [], []⟩), (20, ⟨[1, 8, 9], true, [], []⟩), (21, ⟨[1, 8, 9, 76], true, [], []⟩), (23, ⟨[1, 8, 9, 10], true, [], []⟩), (24, ⟨[1, 8, 9, 10, 11], true, [], []⟩), (25, ⟨[1, 8, 9, 10, 12], true, [], []⟩), (26, ⟨[1, 8, 9, 10, 12, 104], true, [], []⟩), (27, ⟨[1, 8, 9, 10, 12], true, [], []⟩), (28, ⟨[1, 8, 9, 10, 12, 112], true, [], []⟩), (29, ⟨[2, 3], true, [⟨false, 2, 0, 20002, 5⟩], []⟩), (30, ⟨[1, 8, 9], true, [], []⟩), (22, ⟨[1, 8, 9], true, [], []⟩), (31, ⟨[2, 3], true, [⟨false, 2, 0, 20002, 5⟩], []⟩)]
def tl68 : List (Nat × Tidy) := [(4, ⟨[1, 4], true, [⟨true, 1, 0, 30100, 3⟩, ⟨true, 1, 1, 30101, 2⟩, ⟨true, 1, 3, 30103, 9⟩], []⟩), (12, ⟨[1, 6], true, [⟨true, 1, 0, 30100, 3⟩, ⟨true, 1, 1, 30101, 2⟩, ⟨true, 1, 3, 30103, 9⟩], []⟩), (21, ⟨[1, 8, 9], true, [⟨false, 8, 0, 20008, 5⟩, ⟨true, 1, 0, 30100, 3⟩, ⟨true, 1, 1, 30101, 2⟩, ⟨true, 1, 3, 30103, 9⟩], []⟩)]
def rs68 : List AResV := [.tmp 2, .tmp 3]
def p68_0_0 : PT St := pS [sl 1 (aV false [(cPtr 1 0)]), sl 4 (aV false [(cD (dI .i64))])] [eBox 1 [(cD dL), (cD dL), (cD (dI .i64)), (cD dL), (cD (dI .i64)), (cD (dI .i64))]]
def u68_0_0 {β : Type} (g : St → β) : Int → Rows → Rows → Int → Rows → Int → Int → β := p68_0_0.unc g

def p68_0_1 : PT St := pS [sl 2 (aV false [(cRef 20002)]), sl 3 (aV false [(cD (dI .i64))])] [eOwn 20002 5]
def u68_0_1 {β : Type} (g : St → β) : Int → Rows → β := p68_0_1.unc g

def p68_0_2 : PT St := pS [sl 1 (aV false [(cPtr 1 0)]), sl 4 (aV false [(cD (dI .i64))]), sl 21 (aV false [(cD dB)])] [eBox 1 [(cD dL), (cD dL), (cD (dI .i64)), (cD dL), (cD (dI .i64)), (cD (dI .i64))]]
def u68_0_2 {β : Type} (g : St → β) : Int → Bool → Rows → Rows → Int → Rows → Int → Int → β := p68_0_2.unc g

def p68_0_3 : PT St := pS [sl 1 (aV false [(cPtr 1 0)]), sl 6 (aV false [(cD (dI .i64))])] [eBox 1 [(cD dL), (cD dL), (cD (dI .i64)), (cD dL), (cD (dI .i64)), (cD (dI .i64))]]
def u68_0_3 {β : Type} (g : St → β) : Int → Rows → Rows → Int → Rows → Int → Int → β := p68_0_3.unc g

def p68_0_4 : PT St := pS [sl 1 (aV false [(cPtr 1 0)]), sl 6 (aV false [(cD (dI .i64))]), sl 56 (aV false [(cD dB)])] [eBox 1 [(cD dL), (cD dL), (cD (dI .i64)), (cD dL), (cD (dI .i64)), (cD (dI .i64))]]
def u68_0_4 {β : Type} (g : St → β) : Int → Bool → Rows → Rows → Int → Rows → Int → Int → β := p68_0_4.unc g

def p68_0_5 : PT St := pS [sl 1 (aV false [(cPtr 1 0)]), sl 8 (aV false [(cRef 20008)]), sl 9 (aV false [(cD (dI .i64))]), sl 10 (aV false [(cPtr 10 0)]), sl 12 (aV false [(cPtr 12 0)])] [eBox 1 [(cD dL), (cD dL), (cD (dI .i64)), (cD dL), (cD (dI .i64)), (cD (dI .i64))], eOwn 20008 5, eBox 10 [(cD (dI .i64)), (cD (dI .i64)), (cD (dI .i64))], eBox 12 [(cD (dI .i64)), (cD (dI .i64))]]
def u68_0_5 {β : Type} (g : St → β) : Int → Rows → Rows → Int → Rows → Int → Int → Rows → Int → Int → Int → Int → Int → β := p68_0_5.unc g

def p68_0_6 : PT St := pS [sl 1 (aV false [(cPtr 1 0)]), sl 8 (aV false [(cRef 20008)]), sl 9 (aV false [(cD (dI .i64))]), sl 10 (aV false [(cPtr 10 0)]), sl 12 (aV false [(cPtr 12 0)]), sl 104 (aV false [(cD dB)])] [eBox 1 [(cD dL), (cD dL), (cD (dI .i64)), (cD dL), (cD (dI .i64)), (cD (dI .i64))], eOwn 20008 5, eBox 10 [(cD (dI .i64)), (cD (dI .i64)), (cD (dI .i64))], eBox 12 [(cD (dI .i64)), (cD (dI .i64))]]
def u68_0_6 {β : Type} (g : St → β) : Int → Bool → Rows → Rows → Int → Rows → Int → Int → Rows → Int → Int → Int → Int → Int → β := p68_0_6.unc g

def p68_0_7 : PT St := pS [sl 1 (aV false [(cPtr 1 0)]), sl 8 (aV false [(cRef 20008)]), sl 9 (aV false [(cD (dI .i64))])] [eBox 1 [(cD dL), (cD dL), (cD (dI .i64)), (cD dL), (cD (dI .i64)), (cD (dI .i64))], eOwn 20008 5]
def u68_0_7 {β : Type} (g : St → β) : Int → Rows → Rows → Int → Rows → Int → Int → Rows → β := p68_0_7.unc g

def p68_0_8 : PT St := pS [sl 1 (aV false [(cPtr 1 0)]), sl 8 (aV false [(cRef 20008)]), sl 9 (aV false [(cD (dI .i64))]), sl 76 (aV false [(cD dB)])] [eBox 1 [(cD dL), (cD dL), (cD (dI .i64)), (cD dL), (cD (dI .i64)), (cD (dI .i64))], eOwn 20008 5]
def u68_0_8 {β : Type} (g : St → β) : Int → Bool → Rows → Rows → Int → Rows → Int → Int → Rows → β := p68_0_8.unc g

def pr68_0_0 : PT (List RV) := pRs [pR false [rO 5], pR false [rD (dI .i64)]]
def ur68_0_0 {β : Type} (g : List RV → β) : Rows → Int → β := pr68_0_0.unc g

def E68_0g (vf19_0 : Tf19_0) (vf93_0 : Tf93_0) (vf95_0 : Tf95_0) : EnvK := EnvK.of [⟨19, nt19, [⟨pa19_0, Fn19_0 vf19_0⟩]⟩, ⟨93, nt93, [⟨pa93_0, Fn93_0 vf93_0⟩]⟩, ⟨95, nt95, [⟨pa95_0, Fn95_0 vf95_0⟩]⟩] noSeq
noncomputable def E68_0 : EnvK := E68_0g f19_0 f93_0 f95_0
theorem eo68_0 : E68_0.Ok Try.prog := EnvK.of_ok noSeq_ok ⟨⟨io19_0, trivial⟩, ⟨io93_0, trivial⟩, ⟨io95_0, trivial⟩, trivial⟩

noncomputable def c68_0_78g  : MCode := (.seq (.region r68_80 [] (some ⟨[1, 8, 9, 10, 12, 104], true, [], []⟩)) (.cond (.tmp 104) (.region r68_82 [] (some ⟨[1, 8, 9, 10, 12], true, [], []⟩)) .skip))
noncomputable def c68_0_78 : MCode := c68_0_78g 
theorem g68_0_78 : c68_0_78.Good Try.prog E68_0 sh68 := ⟨trivial, ⟨trivial, trivial⟩⟩
--CODE 78 0
abbrev TJ68_0_2 : Type 1 := (α : Type) → Int → Rows → (Int → Int → Option α) → (Bool → Option α) → Option α
def J68_0_2g  (α : Type) (x48 : Int) (x50 : Rows) (k1 : Int → Int → Option α) (k2 : Bool → Option α) : Option α :=
  cK (decide (x48 < ((List.length x50 : Nat) : Int)))
    (rowK x50 x48 [.int .i64, .int .i64]
      (fun (x61 : Int) (x62 : Int) => k1 x61 x62))
    (k2 (decide (x48 < ((List.length x50 : Nat) : Int))))
noncomputable def J68_0_2 (α : Type) (x48 : Int) (x50 : Rows) (k1 : Int → Int → Option α) (k2 : Bool → Option α) : Option α := J68_0_2g  α x48 x50 k1 k2
def F68_0_2 (v : TJ68_0_2) (α : Type) (K : Exit → St → Option α) : Int → Rows → Rows → Int → Rows → Int → Int → Rows → Int → Int → Int → Int → Int → Option α := fun x48 x49 x50 x51 x52 x53 x54 x55 x56 x57 x58 x59 x60 => v α x48 x50 (fun (y1 : Int) (y2 : Int) => u68_0_5 (K .normal) x48 x49 x50 x51 x52 x53 x54 x55 x56 x57 x58 y1 y2) (fun (y1 : Bool) => u68_0_6 (K .normal) x48 y1 x49 x50 x51 x52 x53 x54 x55 x56 x57 x58 x59 x60) 
theorem m68_0_2g (vf19_0 : Tf19_0) (vf93_0 : Tf93_0) (vf95_0 : Tf95_0)  (α : Type) (K : Exit → St → Option α) : F68_0_2 (J68_0_2g ) α K = p68_0_5.unc fun σ => runM Try.prog (E68_0g vf19_0 vf93_0 vf95_0) sh68 (c68_0_78g ) K σ := by kernel_rfl
theorem m68_0_2 : ∀ (α : Type) (K : Exit → St → Option α), F68_0_2 J68_0_2 α K = p68_0_5.unc fun σ => runM Try.prog E68_0 sh68 c68_0_78 K σ := m68_0_2g f19_0 f93_0 f95_0

noncomputable def c68_0_65g (vJ68_0_2 : TJ68_0_2) : MCode := (.seq (.seq (.region r68_68 [] (some ⟨[1, 8, 9, 76], true, [], []⟩)) (.cond (.tmp 76) .skip (.exit 4))) (.seq (.block 5 (.seq (.region r68_73 [] (some ⟨[1, 8, 9, 10], true, [], []⟩)) (.seq (.region r68_75 [] (some ⟨[1, 8, 9, 10, 11], true, [], []⟩)) (.seq (.region r68_77 [] (some ⟨[1, 8, 9, 10, 12], true, [], []⟩)) (.seq (.mark [⟨p68_0_5, F68_0_2 vJ68_0_2⟩] c68_0_78) (.seq (.seq (.region r68_85 [] (some ⟨[1, 8, 9, 10, 12, 112], true, [], []⟩)) (.cond (.tmp 112) (.seq (.region r68_88 [] (some ⟨[2, 3], true, [⟨false, 2, 0, 20002, 5⟩], []⟩)) .ret) .skip)) (.region r68_89 [] (some ⟨[1, 8, 9], true, [], []⟩)))))))) (.region r68_90 [] (some ⟨[1, 8, 9], true, [], []⟩))))
noncomputable def c68_0_65 : MCode := c68_0_65g J68_0_2
theorem g68_0_65 : c68_0_65.Good Try.prog E68_0 sh68 := ⟨⟨trivial, ⟨trivial, trivial⟩⟩, ⟨⟨trivial, ⟨trivial, ⟨trivial, ⟨⟨g68_0_78, m68_0_2, trivial⟩, ⟨⟨trivial, ⟨⟨trivial, trivial⟩, trivial⟩⟩, trivial⟩⟩⟩⟩⟩, trivial⟩⟩
--CODE 65 0
def S68_0_3g (vJ68_0_2 : TJ68_0_2) (vf95_0 : Tf95_0) (α : Type) (x37 : Rows) (x38 : Rows) (x39 : Int) (x36 : Int) (x43 : Rows) (kn : Int → Rows → Option α) (k1 : Option α) (k2 : Int → Bool → Rows → Option α) : Option α :=
  cK (decide (x36 < ((List.length x37 : Nat) : Int)))
    (rowK x37 x36 [.int .i64, .int .i64, .int .i64]
      (fun (x44 : Int) (x45 : Int) (x46 : Int) => vf95_0 α (w64 (x46 * x39)) 1000
        (fun (x47 : Int) => vJ68_0_2 α x36 x38
          (fun (x63 : Int) (x64 : Int) => cK (decide (1000000 < x64))
            (k1)
            (gK (apOk 5 40 x43 [[DC.v (.int .i64 x44), DC.v (.int .i64 x44), DC.v (.int .i64 x63), DC.v (.int .i64 x64), DC.v (.int .i64 x45)]]) (kn (w64 (x36 + 1)) (x43 ++ [[DC.v (.int .i64 x44), DC.v (.int .i64 x44), DC.v (.int .i64 x63), DC.v (.int .i64 x64), DC.v (.int .i64 x45)]]))))
          (fun (x65 : Bool) => cK (decide (1000000 < (w64 (x46 + x47))))
            (k1)
            (gK (apOk 5 40 x43 [[DC.v (.int .i64 x44), DC.v (.int .i64 x44), DC.v (.int .i64 (if (w64 (x46 - x47)) > 0 then (w64 (x46 - x47)) else 0)), DC.v (.int .i64 (w64 (x46 + x47))), DC.v (.int .i64 x45)]]) (kn (w64 (x36 + 1)) (x43 ++ [[DC.v (.int .i64 x44), DC.v (.int .i64 x44), DC.v (.int .i64 (if (w64 (x46 - x47)) > 0 then (w64 (x46 - x47)) else 0)), DC.v (.int .i64 (w64 (x46 + x47))), DC.v (.int .i64 x45)]])))))))
    (k2 x36 (decide (x36 < ((List.length x37 : Nat) : Int))) x43)
noncomputable def S68_0_3 (α : Type) (x37 : Rows) (x38 : Rows) (x39 : Int) (x36 : Int) (x43 : Rows) (kn : Int → Rows → Option α) (k1 : Option α) (k2 : Int → Bool → Rows → Option α) : Option α := S68_0_3g J68_0_2 f95_0 α x37 x38 x39 x36 x43 kn k1 k2
noncomputable def R68_0_3 (α : Type) (x37 : Rows) (x38 : Rows) (x39 : Int) (k1 : Option α) (k2 : Int → Bool → Rows → Option α) : Nat → Int → Rows → Option α
  | 0, _, _ => none
  | n + 1, x36, x43 => S68_0_3 α x37 x38 x39 x36 x43 (R68_0_3 α x37 x38 x39 k1 k2 n) k1 k2
noncomputable def L68_0_3 (α : Type) (x37 : Rows) (x38 : Rows) (x39 : Int) (k1 : Option α) (k2 : Int → Bool → Rows → Option α) (x36 : Int) (x43 : Rows) : Option α := R68_0_3 α x37 x38 x39 k1 k2 fuel x36 x43
abbrev TL68_0_3 : Type 1 := (α : Type) → Rows → Rows → Int → (Option α) → (Int → Bool → Rows → Option α) → Int → Rows → Option α
def F68_0_3 (v : TL68_0_3) (α : Type) (K : Exit → St → Option α) : Int → Rows → Rows → Int → Rows → Int → Int → Rows → Option α := fun x36 x37 x38 x39 x40 x41 x42 x43 => v α x37 x38 x39 (u68_0_1 (K .ret) 8 []) (fun (y1 : Int) (y2 : Bool) (y3 : Rows) => u68_0_8 (K (.exit 4)) y1 y2 x37 x38 x39 x40 x41 x42 y3) x36 x43
theorem r68_0_3g (vf19_0 : Tf19_0) (vf93_0 : Tf93_0) (vf95_0 : Tf95_0) (vJ68_0_2 : TJ68_0_2) (α : Type) (K : Exit → St → Option α) (Kn : St → Option α) (x36 : Int) (x37 : Rows) (x38 : Rows) (x39 : Int) (x40 : Rows) (x41 : Int) (x42 : Int) (x43 : Rows) : u68_0_7 (fun σ => runM Try.prog (E68_0g vf19_0 vf93_0 vf95_0) sh68 (c68_0_65g vJ68_0_2) (thenK (fun σ => tidyK td68_65 σ Kn) K) σ) x36 x37 x38 x39 x40 x41 x42 x43 = S68_0_3g vJ68_0_2 vf95_0 α x37 x38 x39 x36 x43 (fun x36 x43 => u68_0_7 Kn x36 x37 x38 x39 x40 x41 x42 x43) (u68_0_1 (K .ret) 8 []) (fun (y1 : Int) (y2 : Bool) (y3 : Rows) => u68_0_8 (K (.exit 4)) y1 y2 x37 x38 x39 x40 x41 x42 y3) := by kernel_rfl
theorem r68_0_3 (α : Type) (K : Exit → St → Option α) (Kn : St → Option α) (x36 : Int) (x37 : Rows) (x38 : Rows) (x39 : Int) (x40 : Rows) (x41 : Int) (x42 : Int) (x43 : Rows) : u68_0_7 (fun σ => runM Try.prog E68_0 sh68 c68_0_65 (thenK (fun σ => tidyK td68_65 σ Kn) K) σ) x36 x37 x38 x39 x40 x41 x42 x43 = S68_0_3 α x37 x38 x39 x36 x43 (fun x36 x43 => u68_0_7 Kn x36 x37 x38 x39 x40 x41 x42 x43) (u68_0_1 (K .ret) 8 []) (fun (y1 : Int) (y2 : Bool) (y3 : Rows) => u68_0_8 (K (.exit 4)) y1 y2 x37 x38 x39 x40 x41 x42 y3) := r68_0_3g f19_0 f93_0 f95_0 J68_0_2 α K Kn x36 x37 x38 x39 x40 x41 x42 x43
theorem t68_0_3 (α : Type) (K : Exit → St → Option α) : ∀ (n : Nat) (x36 : Int) (x37 : Rows) (x38 : Rows) (x39 : Int) (x40 : Rows) (x41 : Int) (x42 : Int) (x43 : Rows), R68_0_3 α x37 x38 x39 (u68_0_1 (K .ret) 8 []) (fun (y1 : Int) (y2 : Bool) (y3 : Rows) => u68_0_8 (K (.exit 4)) y1 y2 x37 x38 x39 x40 x41 x42 y3) n x36 x43 = u68_0_7 (loopT (runM Try.prog E68_0 sh68 c68_0_65) td68_65 K n) x36 x37 x38 x39 x40 x41 x42 x43 := by
  intro n
  induction n with
  | zero => intros; rfl
  | succ n ih => intro x36 x37 x38 x39 x40 x41 x42 x43; exact (congrArg (fun kn => S68_0_3 α x37 x38 x39 x36 x43 kn (u68_0_1 (K .ret) 8 []) (fun (y1 : Int) (y2 : Bool) (y3 : Rows) => u68_0_8 (K (.exit 4)) y1 y2 x37 x38 x39 x40 x41 x42 y3)) (funext fun x36 => funext fun x43 => ih x36 x37 x38 x39 x40 x41 x42 x43)).trans (r68_0_3 α K (loopT (runM Try.prog E68_0 sh68 c68_0_65) td68_65 K n) x36 x37 x38 x39 x40 x41 x42 x43).symm
theorem m68_0_3 : ∀ (α : Type) (K : Exit → St → Option α), F68_0_3 L68_0_3 α K = p68_0_7.unc fun σ => loopT (runM Try.prog E68_0 sh68 c68_0_65) td68_65 K fuel σ := fun α K => funext fun x36 => funext fun x37 => funext fun x38 => funext fun x39 => funext fun x40 => funext fun x41 => funext fun x42 => funext fun x43 => t68_0_3 α K fuel x36 x37 x38 x39 x40 x41 x42 x43

noncomputable def c68_0_38g  : MCode := (.seq (.seq (.region r68_41 [] (some ⟨[1, 6, 56], true, [], []⟩)) (.cond (.tmp 56) .skip (.exit 2))) (.seq (.block 3 (.seq (.region r68_46 [] (some ⟨[1, 6, 7], true, [], []⟩)) (.seq (.region r68_48 [] (some ⟨[1, 6, 7, 66], true, [], []⟩)) (.cond (.tmp 66) (.seq (.region r68_51 [] (some ⟨[2, 3], true, [⟨false, 2, 0, 20002, 5⟩], []⟩)) .ret) .skip)))) (.region r68_52 [] (some ⟨[1, 6], true, [], []⟩))))
noncomputable def c68_0_38 : MCode := c68_0_38g 
theorem g68_0_38 : c68_0_38.Good Try.prog E68_0 sh68 := ⟨⟨trivial, ⟨trivial, trivial⟩⟩, ⟨⟨trivial, ⟨trivial, ⟨⟨trivial, trivial⟩, trivial⟩⟩⟩, trivial⟩⟩
--CODE 38 0
def S68_0_1g (vf93_0 : Tf93_0) (α : Type) (x24 : Rows) (x22 : Int) (kn : Int → Option α) (k1 : Int → Option α) (k2 : Int → Bool → Option α) : Option α :=
  cK (decide (x22 < ((List.length x24 : Nat) : Int)))
    (rowK x24 x22 [.int .i64, .int .i64]
      (fun (x29 : Int) (x30 : Int) => vf93_0 α x29 x30 0 1000000
        (fun (x31 : Int) => cK (x31 != 0)
          (k1 x31)
          (kn (w64 (x22 + 1))))))
    (k2 x22 (decide (x22 < ((List.length x24 : Nat) : Int))))
noncomputable def S68_0_1 (α : Type) (x24 : Rows) (x22 : Int) (kn : Int → Option α) (k1 : Int → Option α) (k2 : Int → Bool → Option α) : Option α := S68_0_1g f93_0 α x24 x22 kn k1 k2
noncomputable def R68_0_1 (α : Type) (x24 : Rows) (k1 : Int → Option α) (k2 : Int → Bool → Option α) : Nat → Int → Option α
  | 0, _ => none
  | n + 1, x22 => S68_0_1 α x24 x22 (R68_0_1 α x24 k1 k2 n) k1 k2
noncomputable def L68_0_1 (α : Type) (x24 : Rows) (k1 : Int → Option α) (k2 : Int → Bool → Option α) (x22 : Int) : Option α := R68_0_1 α x24 k1 k2 fuel x22
abbrev TL68_0_1 : Type 1 := (α : Type) → Rows → (Int → Option α) → (Int → Bool → Option α) → Int → Option α
def F68_0_1 (v : TL68_0_1) (α : Type) (K : Exit → St → Option α) : Int → Rows → Rows → Int → Rows → Int → Int → Option α := fun x22 x23 x24 x25 x26 x27 x28 => v α x24 (fun (y1 : Int) => u68_0_1 (K .ret) y1 []) (fun (y1 : Int) (y2 : Bool) => u68_0_4 (K (.exit 2)) y1 y2 x23 x24 x25 x26 x27 x28) x22
theorem r68_0_1g (vf19_0 : Tf19_0) (vf93_0 : Tf93_0) (vf95_0 : Tf95_0)  (α : Type) (K : Exit → St → Option α) (Kn : St → Option α) (x22 : Int) (x23 : Rows) (x24 : Rows) (x25 : Int) (x26 : Rows) (x27 : Int) (x28 : Int) : u68_0_3 (fun σ => runM Try.prog (E68_0g vf19_0 vf93_0 vf95_0) sh68 (c68_0_38g ) (thenK (fun σ => tidyK td68_38 σ Kn) K) σ) x22 x23 x24 x25 x26 x27 x28 = S68_0_1g vf93_0 α x24 x22 (fun x22 => u68_0_3 Kn x22 x23 x24 x25 x26 x27 x28) (fun (y1 : Int) => u68_0_1 (K .ret) y1 []) (fun (y1 : Int) (y2 : Bool) => u68_0_4 (K (.exit 2)) y1 y2 x23 x24 x25 x26 x27 x28) := by kernel_rfl
theorem r68_0_1 (α : Type) (K : Exit → St → Option α) (Kn : St → Option α) (x22 : Int) (x23 : Rows) (x24 : Rows) (x25 : Int) (x26 : Rows) (x27 : Int) (x28 : Int) : u68_0_3 (fun σ => runM Try.prog E68_0 sh68 c68_0_38 (thenK (fun σ => tidyK td68_38 σ Kn) K) σ) x22 x23 x24 x25 x26 x27 x28 = S68_0_1 α x24 x22 (fun x22 => u68_0_3 Kn x22 x23 x24 x25 x26 x27 x28) (fun (y1 : Int) => u68_0_1 (K .ret) y1 []) (fun (y1 : Int) (y2 : Bool) => u68_0_4 (K (.exit 2)) y1 y2 x23 x24 x25 x26 x27 x28) := r68_0_1g f19_0 f93_0 f95_0 α K Kn x22 x23 x24 x25 x26 x27 x28
theorem t68_0_1 (α : Type) (K : Exit → St → Option α) : ∀ (n : Nat) (x22 : Int) (x23 : Rows) (x24 : Rows) (x25 : Int) (x26 : Rows) (x27 : Int) (x28 : Int), R68_0_1 α x24 (fun (y1 : Int) => u68_0_1 (K .ret) y1 []) (fun (y1 : Int) (y2 : Bool) => u68_0_4 (K (.exit 2)) y1 y2 x23 x24 x25 x26 x27 x28) n x22 = u68_0_3 (loopT (runM Try.prog E68_0 sh68 c68_0_38) td68_38 K n) x22 x23 x24 x25 x26 x27 x28 := by
  intro n
  induction n with
  | zero => intros; rfl
  | succ n ih => intro x22 x23 x24 x25 x26 x27 x28; exact (congrArg (fun kn => S68_0_1 α x24 x22 kn (fun (y1 : Int) => u68_0_1 (K .ret) y1 []) (fun (y1 : Int) (y2 : Bool) => u68_0_4 (K (.exit 2)) y1 y2 x23 x24 x25 x26 x27 x28)) (funext fun x22 => ih x22 x23 x24 x25 x26 x27 x28)).trans (r68_0_1 α K (loopT (runM Try.prog E68_0 sh68 c68_0_38) td68_38 K n) x22 x23 x24 x25 x26 x27 x28).symm
theorem m68_0_1 : ∀ (α : Type) (K : Exit → St → Option α), F68_0_1 L68_0_1 α K = p68_0_3.unc fun σ => loopT (runM Try.prog E68_0 sh68 c68_0_38) td68_38 K fuel σ := fun α K => funext fun x22 => funext fun x23 => funext fun x24 => funext fun x25 => funext fun x26 => funext fun x27 => funext fun x28 => t68_0_1 α K fuel x22 x23 x24 x25 x26 x27 x28

noncomputable def c68_0_13g  : MCode := (.seq (.seq (.region r68_16 [] (some ⟨[1, 4, 21], true, [], []⟩)) (.cond (.tmp 21) .skip (.exit 0))) (.seq (.block 1 (.seq (.region r68_21 [] (some ⟨[1, 4, 5], true, [], []⟩)) (.seq (.region r68_23 [] (some ⟨[1, 4, 44], true, [], []⟩)) (.cond (.tmp 44) (.seq (.region r68_26 [] (some ⟨[2, 3], true, [⟨false, 2, 0, 20002, 5⟩], []⟩)) .ret) .skip)))) (.region r68_27 [] (some ⟨[1, 4], true, [], []⟩))))
noncomputable def c68_0_13 : MCode := c68_0_13g 
theorem g68_0_13 : c68_0_13.Good Try.prog E68_0 sh68 := ⟨⟨trivial, ⟨trivial, trivial⟩⟩, ⟨⟨trivial, ⟨trivial, ⟨⟨trivial, trivial⟩, trivial⟩⟩⟩, trivial⟩⟩
--CODE 13 0
def S68_0_0g (vf19_0 : Tf19_0) (α : Type) (x8 : Rows) (x7 : Int) (kn : Int → Option α) (k1 : Option α) (k2 : Int → Bool → Option α) : Option α :=
  cK (decide (x7 < ((List.length x8 : Nat) : Int)))
    (rowK x8 x7 [.int .i64, .int .i64, .int .i64]
      (fun (x14 : Int) (x15 : Int) (x16 : Int) => vf19_0 α x14 5000 80000
        (fun (x17 : Bool) => cK (!x17)
          (k1)
          (vf19_0 α x15 0 80000
            (fun (x18 : Bool) => cK (!x18)
              (k1)
              (vf19_0 α x16 0 1000000
                (fun (x19 : Bool) => cK (!x19)
                  (k1)
                  (kn (w64 (x7 + 1))))))))))
    (k2 x7 (decide (x7 < ((List.length x8 : Nat) : Int))))
noncomputable def S68_0_0 (α : Type) (x8 : Rows) (x7 : Int) (kn : Int → Option α) (k1 : Option α) (k2 : Int → Bool → Option α) : Option α := S68_0_0g f19_0 α x8 x7 kn k1 k2
noncomputable def R68_0_0 (α : Type) (x8 : Rows) (k1 : Option α) (k2 : Int → Bool → Option α) : Nat → Int → Option α
  | 0, _ => none
  | n + 1, x7 => S68_0_0 α x8 x7 (R68_0_0 α x8 k1 k2 n) k1 k2
noncomputable def L68_0_0 (α : Type) (x8 : Rows) (k1 : Option α) (k2 : Int → Bool → Option α) (x7 : Int) : Option α := R68_0_0 α x8 k1 k2 fuel x7
abbrev TL68_0_0 : Type 1 := (α : Type) → Rows → (Option α) → (Int → Bool → Option α) → Int → Option α
def F68_0_0 (v : TL68_0_0) (α : Type) (K : Exit → St → Option α) : Int → Rows → Rows → Int → Rows → Int → Int → Option α := fun x7 x8 x9 x10 x11 x12 x13 => v α x8 (u68_0_1 (K .ret) 2 []) (fun (y1 : Int) (y2 : Bool) => u68_0_2 (K (.exit 0)) y1 y2 x8 x9 x10 x11 x12 x13) x7
theorem r68_0_0g (vf19_0 : Tf19_0) (vf93_0 : Tf93_0) (vf95_0 : Tf95_0)  (α : Type) (K : Exit → St → Option α) (Kn : St → Option α) (x7 : Int) (x8 : Rows) (x9 : Rows) (x10 : Int) (x11 : Rows) (x12 : Int) (x13 : Int) : u68_0_0 (fun σ => runM Try.prog (E68_0g vf19_0 vf93_0 vf95_0) sh68 (c68_0_13g ) (thenK (fun σ => tidyK td68_13 σ Kn) K) σ) x7 x8 x9 x10 x11 x12 x13 = S68_0_0g vf19_0 α x8 x7 (fun x7 => u68_0_0 Kn x7 x8 x9 x10 x11 x12 x13) (u68_0_1 (K .ret) 2 []) (fun (y1 : Int) (y2 : Bool) => u68_0_2 (K (.exit 0)) y1 y2 x8 x9 x10 x11 x12 x13) := by kernel_rfl
theorem r68_0_0 (α : Type) (K : Exit → St → Option α) (Kn : St → Option α) (x7 : Int) (x8 : Rows) (x9 : Rows) (x10 : Int) (x11 : Rows) (x12 : Int) (x13 : Int) : u68_0_0 (fun σ => runM Try.prog E68_0 sh68 c68_0_13 (thenK (fun σ => tidyK td68_13 σ Kn) K) σ) x7 x8 x9 x10 x11 x12 x13 = S68_0_0 α x8 x7 (fun x7 => u68_0_0 Kn x7 x8 x9 x10 x11 x12 x13) (u68_0_1 (K .ret) 2 []) (fun (y1 : Int) (y2 : Bool) => u68_0_2 (K (.exit 0)) y1 y2 x8 x9 x10 x11 x12 x13) := r68_0_0g f19_0 f93_0 f95_0 α K Kn x7 x8 x9 x10 x11 x12 x13
theorem t68_0_0 (α : Type) (K : Exit → St → Option α) : ∀ (n : Nat) (x7 : Int) (x8 : Rows) (x9 : Rows) (x10 : Int) (x11 : Rows) (x12 : Int) (x13 : Int), R68_0_0 α x8 (u68_0_1 (K .ret) 2 []) (fun (y1 : Int) (y2 : Bool) => u68_0_2 (K (.exit 0)) y1 y2 x8 x9 x10 x11 x12 x13) n x7 = u68_0_0 (loopT (runM Try.prog E68_0 sh68 c68_0_13) td68_13 K n) x7 x8 x9 x10 x11 x12 x13 := by
  intro n
  induction n with
  | zero => intros; rfl
  | succ n ih => intro x7 x8 x9 x10 x11 x12 x13; exact (congrArg (fun kn => S68_0_0 α x8 x7 kn (u68_0_1 (K .ret) 2 []) (fun (y1 : Int) (y2 : Bool) => u68_0_2 (K (.exit 0)) y1 y2 x8 x9 x10 x11 x12 x13)) (funext fun x7 => ih x7 x8 x9 x10 x11 x12 x13)).trans (r68_0_0 α K (loopT (runM Try.prog E68_0 sh68 c68_0_13) td68_13 K n) x7 x8 x9 x10 x11 x12 x13).symm
theorem m68_0_0 : ∀ (α : Type) (K : Exit → St → Option α), F68_0_0 L68_0_0 α K = p68_0_0.unc fun σ => loopT (runM Try.prog E68_0 sh68 c68_0_13) td68_13 K fuel σ := fun α K => funext fun x7 => funext fun x8 => funext fun x9 => funext fun x10 => funext fun x11 => funext fun x12 => funext fun x13 => t68_0_0 α K fuel x7 x8 x9 x10 x11 x12 x13

/-- etalon/etalonref08.Boxes -/
abbrev Tf68_0 : Type 1 := (α : Type) → Rows → Rows → Int → Rows → Int → Int → (Rows → Int → Option α) → Option α
def f68_0g (vL68_0_0 : TL68_0_0) (vL68_0_1 : TL68_0_1) (vL68_0_3 : TL68_0_3) (vf19_0 : Tf19_0) (α : Type) (x1 : Rows) (x2 : Rows) (x3 : Int) (x4 : Rows) (x5 : Int) (x6 : Int) (k1 : Rows → Int → Option α) : Option α :=
  cK (decide (40 < ((List.length x1 : Nat) : Int)))
    (k1 [] 8)
    (vL68_0_0 α x1
      (k1 [] 2)
      (fun (x20 : Int) (x21 : Bool) => cK (decide (((List.length x1 : Nat) : Int) < ((List.length x2 : Nat) : Int)))
        (k1 [] 12)
        (vL68_0_1 α x2
          (fun (x32 : Int) => k1 [] x32)
          (fun (x33 : Int) (x34 : Bool) => vf19_0 α x3 0 1000
            (fun (x35 : Bool) => cK (!x35)
              (k1 [] 2)
              (vL68_0_3 α x1 x2 x3
                (k1 [] 8)
                (fun (x66 : Int) (x67 : Bool) (x68 : Rows) => k1 x68 0) 0 []))) 0)) 0)
noncomputable def f68_0 (α : Type) (x1 : Rows) (x2 : Rows) (x3 : Int) (x4 : Rows) (x5 : Int) (x6 : Int) (k1 : Rows → Int → Option α) : Option α := f68_0g L68_0_0 L68_0_1 L68_0_3 f19_0 α x1 x2 x3 x4 x5 x6 k1
def pa68_0 : PT (List DV) := pA [pV true [dL, dL, (dI .i64), dL, (dI .i64), (dI .i64)]]
def Fn68_0 (v : Tf68_0) (α : Type) (k : List RV → Option α) : Rows → Rows → Int → Rows → Int → Int → Option α := fun x1 x2 x3 x4 x5 x6 => v α x1 x2 x3 x4 x5 x6 (fun (y1 : Rows) (y2 : Int) => ur68_0_0 k y1 y2)
noncomputable def cm68_0g (vL68_0_0 : TL68_0_0) (vL68_0_1 : TL68_0_1) (vL68_0_3 : TL68_0_3) : MCode := (.seq (.region r68_2 [] (some ⟨[1], true, [], []⟩)) (.seq (.seq (.region r68_5 [] (some ⟨[1, 16], true, [], []⟩)) (.cond (.tmp 16) (.seq (.region r68_8 [] (some ⟨[2, 3], true, [⟨false, 2, 0, 20002, 5⟩], []⟩)) .ret) .skip)) (.seq (.seq (.region r68_11 [] (some ⟨[1, 4], true, [], []⟩)) (.block 0 (.loop td68_13 [⟨p68_0_0, F68_0_0 vL68_0_0⟩] c68_0_13))) (.seq (.seq (.region r68_30 [] (some ⟨[1, 51], true, [], []⟩)) (.cond (.tmp 51) (.seq (.region r68_33 [] (some ⟨[2, 3], true, [⟨false, 2, 0, 20002, 5⟩], []⟩)) .ret) .skip)) (.seq (.seq (.region r68_36 [] (some ⟨[1, 6], true, [], []⟩)) (.block 2 (.loop td68_38 [⟨p68_0_3, F68_0_1 vL68_0_1⟩] c68_0_38))) (.seq (.seq (.region r68_55 [] (some ⟨[1, 71], true, [], []⟩)) (.cond (.tmp 71) (.seq (.region r68_58 [] (some ⟨[2, 3], true, [⟨false, 2, 0, 20002, 5⟩], []⟩)) .ret) .skip)) (.seq (.region r68_60 [] (some ⟨[1, 8], true, [], []⟩)) (.seq (.seq (.region r68_63 [] (some ⟨[1, 8, 9], true, [], []⟩)) (.block 4 (.loop td68_65 [⟨p68_0_7, F68_0_3 vL68_0_3⟩] c68_0_65))) (.seq (.region r68_92 [] (some ⟨[2, 3], true, [⟨false, 2, 0, 20002, 5⟩], []⟩)) .ret)))))))))
noncomputable def cm68_0 : MCode := cm68_0g L68_0_0 L68_0_1 L68_0_3
theorem gm68_0 : cm68_0.Good Try.prog E68_0 sh68 := ⟨trivial, ⟨⟨trivial, ⟨⟨trivial, trivial⟩, trivial⟩⟩, ⟨⟨trivial, ⟨g68_0_13, m68_0_0, trivial⟩⟩, ⟨⟨trivial, ⟨⟨trivial, trivial⟩, trivial⟩⟩, ⟨⟨trivial, ⟨g68_0_38, m68_0_1, trivial⟩⟩, ⟨⟨trivial, ⟨⟨trivial, trivial⟩, trivial⟩⟩, ⟨trivial, ⟨⟨trivial, ⟨g68_0_65, m68_0_3, trivial⟩⟩, ⟨trivial, trivial⟩⟩⟩⟩⟩⟩⟩⟩⟩
theorem fm68_0g (vf19_0 : Tf19_0) (vf93_0 : Tf93_0) (vf95_0 : Tf95_0) (vL68_0_0 : TL68_0_0) (vL68_0_1 : TL68_0_1) (vL68_0_3 : TL68_0_3) (α : Type) (k : List RV → Option α) : Fn68_0 (f68_0g vL68_0_0 vL68_0_1 vL68_0_3 vf19_0) α k = pa68_0.unc fun ds => fnM Try.prog (E68_0g vf19_0 vf93_0 vf95_0) sh68 (cm68_0g vL68_0_0 vL68_0_1 vL68_0_3) rs68 k ds := by kernel_rfl
theorem fm68_0 : ∀ (α : Type) (k : List RV → Option α), Fn68_0 f68_0 α k = pa68_0.unc fun ds => fnM Try.prog E68_0 sh68 cm68_0 rs68 k ds := fm68_0g f19_0 f93_0 f95_0 L68_0_0 L68_0_1 L68_0_3

theorem is68 : FnIs Try.prog 68 nt68 tr68 tl68 cm68_0.erase rs68 := ⟨Try.f68, Try.func68, rfl, by kernel_rfl, by kernel_rfl, by kernel_rfl⟩
theorem io68_0 : InstOk Try.prog 68 nt68 ⟨pa68_0, Fn68_0 f68_0⟩ := inst_ok eo68_0 followsTry is68 ⟨⟨sh68, cm68_0, by kernel_rfl, gm68_0, fm68_0⟩⟩

/-! ### F118 etalon/stack.Boxed -/
abbrev nt118 : Nat := 80
def sh118 : List (Nat × List Sh) := [(19, [.int .i64, .int .i64, .int .i64]), (20, [.int .i64, .int .i64, .int .i64]), (22, [.int .i64]), (27, [.int .i64]), (33, [.int .i64]), (45, [.int .i64, .int .i64, .int .i64]), (46, [.int .i64, .int .i64, .int .i64]), (48, [.int .i64]), (53, [.int .i64]), (59, [.int .i64]), (61, [.int .i64]), (64, [.int .i64]), (69, [.int .i64]), (74, [.int .i64])]
def r118_2 : List AOper := [⟨(some 4), (.mv (.const (.slice none 0 0))), none⟩, ⟨(some 5), (.mv (.const (.int .i64 0))), none⟩]
def r118_5 : List AOper := [⟨(some 12), (.mv (.tmp 0)), none⟩, ⟨(some 13), (.len (.tmp 12)), none⟩, ⟨(some 14), (.bin .gtr 3 (.tmp 13) (.const (.int .i64 40))), none⟩]
def r118_8 : List AOper := [⟨(some 4), (.mv (.const (.slice none 0 0))), none⟩, ⟨(some 5), (.mv (.const (.int .i64 8))), none⟩]
def r118_11 : List AOper := [⟨(some 15), (.mv (.tmp 0)), none⟩, ⟨(some 16), (.len (.tmp 15)), none⟩, ⟨(some 17), (.mv (.const (.int .i64 0))), none⟩]
def td118_13 : Option Tidy := (some ⟨[0, 1, 15, 16, 17], true, [⟨false, 15, 0, 20015, 3⟩], []⟩)
def r118_15 : List AOper := [⟨(some 18), (.bin .lss 3 (.tmp 17) (.tmp 16)), none⟩]
def r118_21 : List AOper := [⟨(some 19), (.iaddr 3 none (.tmp 15) (.tmp 17)), none⟩, ⟨(some 20), (.load true 3 (.tmp 19)), none⟩, ⟨(some 7), (.alloc [(.d (.v (.int .i64 0))), (.d (.v (.int .i64 0))), (.d (.v (.int .i64 0)))]), none⟩, ⟨none, (.store 3 (.tmp 7) (.tmp 20)), none⟩]
def r118_23 : List AOper := [⟨(some 21), (.faddr 0 (.tmp 7)), none⟩, ⟨(some 22), (.load false 1 (.tmp 21)), none⟩, ⟨(some 23), (.call 133 [(.tmp 22)]), none⟩, ⟨(some 24), (.pure (oB (.unOp .not 4 (.tmp 23)) 4)), none⟩, ⟨(some 25), (.mv (.tmp 24)), none⟩, ⟨(some 26), (.faddr 1 (.tmp 7)), (some (25, false))⟩, ⟨(some 27), (.load false 1 (.tmp 26)), (some (25, false))⟩, ⟨(some 28), (.call 134 [(.tmp 27)]), (some (25, false))⟩, ⟨(some 29), (.pure (oB (.unOp .not 4 (.tmp 28)) 4)), (some (25, false))⟩, ⟨(some 30), (.pick (.tmp 25) (.const (.bool true)) (.tmp 29)), none⟩, ⟨(some 31), (.mv (.tmp 30)), none⟩, ⟨(some 32), (.faddr 2 (.tmp 7)), (some (31, false))⟩, ⟨(some 33), (.load false 1 (.tmp 32)), (some (31, false))⟩, ⟨(some 34), (.call 135 [(.tmp 33)]), (some (31, false))⟩, ⟨(some 35), (.pure (oB (.unOp .not 4 (.tmp 34)) 4)), (some (31, false))⟩, ⟨(some 36), (.pick (.tmp 31) (.const (.bool true)) (.tmp 35)), none⟩]
def r118_26 : List AOper := [⟨(some 4), (.mv (.const (.slice none 0 0))), none⟩, ⟨(some 5), (.mv (.const (.int .i64 2))), none⟩]
def r118_27 : List AOper := [⟨(some 37), (.bin .add 3 (.tmp 17) (.const (.int .i64 1))), none⟩, ⟨(some 17), (.mv (.tmp 37)), none⟩]
def r118_30 : List AOper := [⟨(some 38), (.mv (.tmp 1)), none⟩, ⟨(some 39), (.call 136 [(.tmp 38), (.const (.int .i64 0)), (.const (.int .i64 1000))]), none⟩, ⟨(some 40), (.pure (oB (.unOp .not 4 (.tmp 39)) 4)), none⟩]
def r118_33 : List AOper := [⟨(some 4), (.mv (.const (.slice none 0 0))), none⟩, ⟨(some 5), (.mv (.const (.int .i64 2))), none⟩]
def r118_35 : List AOper := [⟨(some 8), (.mv (.const (.slice none 0 0))), none⟩]
def r118_38 : List AOper := [⟨(some 41), (.mv (.tmp 0)), none⟩, ⟨(some 42), (.len (.tmp 41)), none⟩, ⟨(some 43), (.mv (.const (.int .i64 0))), none⟩]
def td118_40 : Option Tidy := (some ⟨[1, 8, 41, 42, 43], true, [⟨false, 8, 0, 20008, 5⟩, ⟨false, 41, 0, 20041, 3⟩], []⟩)
def r118_42 : List AOper := [⟨(some 44), (.bin .lss 3 (.tmp 43) (.tmp 42)), none⟩]
def r118_48 : List AOper := [⟨(some 45), (.iaddr 3 none (.tmp 41) (.tmp 43)), none⟩, ⟨(some 46), (.load true 3 (.tmp 45)), none⟩, ⟨(some 10), (.alloc [(.d (.v (.int .i64 0))), (.d (.v (.int .i64 0))), (.d (.v (.int .i64 0)))]), none⟩, ⟨none, (.store 3 (.tmp 10) (.tmp 46)), none⟩]
def r118_50 : List AOper := [⟨(some 47), (.faddr 2 (.tmp 10)), none⟩, ⟨(some 48), (.load false 1 (.tmp 47)), none⟩, ⟨(some 49), (.mv (.tmp 1)), none⟩, ⟨(some 50), (.bin .mul 3 (.tmp 48) (.tmp 49)), none⟩, ⟨(some 51), (.call 137 [(.tmp 50), (.const (.int .i64 1000))]), none⟩, ⟨(some 11), (.mv (.tmp 51)), none⟩]
def r118_53 : List AOper := [⟨(some 52), (.faddr 2 (.tmp 10)), none⟩, ⟨(some 53), (.load false 1 (.tmp 52)), none⟩, ⟨(some 54), (.mv (.tmp 11)), none⟩, ⟨(some 55), (.bin .add 3 (.tmp 53) (.tmp 54)), none⟩, ⟨(some 56), (.bin .gtr 3 (.tmp 55) (.const (.int .i64 1000000))), none⟩]
def r118_56 : List AOper := [⟨(some 4), (.mv (.const (.slice none 0 0))), none⟩, ⟨(some 5), (.mv (.const (.int .i64 8))), none⟩]
def r118_57 : List AOper := [⟨(some 57), (.mv (.tmp 8)), none⟩, ⟨(some 58), (.faddr 0 (.tmp 10)), none⟩, ⟨(some 59), (.load false 1 (.tmp 58)), none⟩, ⟨(some 60), (.faddr 0 (.tmp 10)), none⟩, ⟨(some 61), (.load false 1 (.tmp 60)), none⟩, ⟨(some 62), (.build [(.d (.v (.int .i64 0))), (.d (.v (.int .i64 0)))] [(0, 1, (.tmp 59)), (1, 1, (.tmp 61))]), none⟩, ⟨(some 63), (.faddr 2 (.tmp 10)), none⟩, ⟨(some 64), (.load false 1 (.tmp 63)), none⟩, ⟨(some 65), (.mv (.tmp 11)), none⟩, ⟨(some 66), (.bin .sub 3 (.tmp 64) (.tmp 65)), none⟩, ⟨(some 67), (.pure (oB (.call { callee := .builtin .max, args := #[(.const (.int .i64 0)), (.tmp 66)], argTypes := #[3, 3] }) 3)), none⟩, ⟨(some 68), (.faddr 2 (.tmp 10)), none⟩, ⟨(some 69), (.load false 1 (.tmp 68)), none⟩, ⟨(some 70), (.mv (.tmp 11)), none⟩, ⟨(some 71), (.bin .add 3 (.tmp 69) (.tmp 70)), none⟩, ⟨(some 72), (.build [(.d (.v (.int .i64 0))), (.d (.v (.int .i64 0)))] [(0, 1, (.tmp 67)), (1, 1, (.tmp 71))]), none⟩, ⟨(some 73), (.faddr 1 (.tmp 10)), none⟩, ⟨(some 74), (.load false 1 (.tmp 73)), none⟩, ⟨(some 75), (.build [(.d (.v (.int .i64 0))), (.d (.v (.int .i64 0))), (.d (.v (.int .i64 0))), (.d (.v (.int .i64 0))), (.d (.v (.int .i64 0)))] [(0, 2, (.tmp 62)), (2, 2, (.tmp 72)), (4, 1, (.tmp 74))]), none⟩, ⟨(some 76), (.bslice 5 1 [(.v (.int .i64 0)), (.v (.int .i64 0)), (.v (.int .i64 0)), (.v (.int .i64 0)), (.v (.int .i64 0))] [(0, (.tmp 75))]), none⟩, ⟨(some 77), (.append 5 40 (.tmp 57) (.tmp 76)), none⟩, ⟨(some 8), (.mv (.tmp 77)), none⟩]
def r118_58 : List AOper := [⟨(some 78), (.bin .add 3 (.tmp 43) (.const (.int .i64 1))), none⟩, ⟨(some 43), (.mv (.tmp 78)), none⟩]
def r118_60 : List AOper := [⟨(some 79), (.mv (.tmp 8)), none⟩, ⟨(some 4), (.mv (.tmp 79)), none⟩, ⟨(some 5), (.mv (.const (.int .i64 0))), none⟩]
def tr118 : List (Nat × Tidy) := [(0, ⟨[0, 1], true, [], []⟩), (1, ⟨[0, 1, 14], true, [], []⟩), (2, ⟨[4, 5], true, [⟨false, 4, 0, 20004, 5⟩], []⟩), (3, ⟨[0, 1, 15, 16, 17], true, [], []⟩), (4, ⟨[0, 1, 15, 16, 17, 18], true, [], []⟩), (5, ⟨[0, 1, 7, 15, 16, 17], true, [], []⟩), (6, ⟨[0, 1, 15, 16, 17, 36], true, [], []⟩), (7, ⟨[4, 5], true, [⟨false, 4, 0, 20004, 5⟩], []⟩), (8, ⟨[0, 1, 15, 16, 17], true, [], []⟩), (9, ⟨[0, 1, 40], true, [], []⟩), (10, ⟨[4, 5], true, [⟨false, 4, 0, 20004, 5⟩], []⟩), (11, ⟨[0, 1, 8], true, [], []⟩), (12, ⟨[1, 8, 41, 42, 43], true, [], []⟩), (13, ⟨[1, 8, 41, 42, 43, 44], true, [], []⟩), (14, ⟨[1, 8, 10, 41, 42, 43], true, [], []⟩), (15, ⟨[1, 8, 10, 11, 41, 42, 43], true, [], []⟩), (16, ⟨[1, 8, 10, 11, 41, 42, 43, 56], true, [], []⟩), (17, ⟨[4, 5], true, [⟨false, 4, 0, 20004, 5⟩], []⟩), (18, ⟨[1, 8, 41, 42, 43], true, [], []⟩), (19, ⟨[1, 8, 41, 42, 43], true, [], []⟩), (20, ⟨[4, 5], true, [⟨false, 4, 0, 20004, 5⟩], []⟩)]
def tl118 : List (Nat × Tidy) := [(4, ⟨[0, 1, 15, 16, 17], true, [⟨false, 15, 0, 20015, 3⟩], []⟩), (13, ⟨[1, 8, 41, 42, 43], true, [⟨false, 8, 0, 20008, 5⟩, ⟨false, 41, 0, 20041, 3⟩], []⟩)]
def rs118 : List AResV := [.tmp 4, .tmp 5]
def p118_0_0 : PT St := pS [sl 0 (aV false [(cD dL)]), sl 1 (aV false [(cD (dI .i64))]), sl 15 (aV false [(cD dL)]), sl 16 (aV false [(cD (dI .i64))]), sl 17 (aV false [(cD (dI .i64))])] []
def u118_0_0 {β : Type} (g : St → β) : Rows → Int → Rows → Int → Int → β := p118_0_0.unc g

def p118_0_1 : PT St := pS [sl 4 (aV false [(cRef 20004)]), sl 5 (aV false [(cD (dI .i64))])] [eOwn 20004 5]
def u118_0_1 {β : Type} (g : St → β) : Int → Rows → β := p118_0_1.unc g

def p118_0_2 : PT St := pS [sl 0 (aV false [(cD dL)]), sl 1 (aV false [(cD (dI .i64))]), sl 15 (aV false [(cD dL)]), sl 16 (aV false [(cD (dI .i64))]), sl 17 (aV false [(cD (dI .i64))]), sl 18 (aV false [(cD dB)])] []
def u118_0_2 {β : Type} (g : St → β) : Rows → Int → Rows → Int → Int → Bool → β := p118_0_2.unc g

def p118_0_3 : PT St := pS [sl 1 (aV false [(cD (dI .i64))]), sl 8 (aV false [(cRef 20008)]), sl 41 (aV false [(cD dL)]), sl 42 (aV false [(cD (dI .i64))]), sl 43 (aV false [(cD (dI .i64))])] [eOwn 20008 5]
def u118_0_3 {β : Type} (g : St → β) : Int → Rows → Int → Int → Rows → β := p118_0_3.unc g

def p118_0_4 : PT St := pS [sl 1 (aV false [(cD (dI .i64))]), sl 8 (aV false [(cRef 20008)]), sl 41 (aV false [(cD dL)]), sl 42 (aV false [(cD (dI .i64))]), sl 43 (aV false [(cD (dI .i64))]), sl 44 (aV false [(cD dB)])] [eOwn 20008 5]
def u118_0_4 {β : Type} (g : St → β) : Int → Rows → Int → Int → Bool → Rows → β := p118_0_4.unc g

def pr118_0_0 : PT (List RV) := pRs [pR false [rO 5], pR false [rD (dI .i64)]]
def ur118_0_0 {β : Type} (g : List RV → β) : Rows → Int → β := pr118_0_0.unc g

def E118_0g (vf133_0 : Tf133_0) (vf134_0 : Tf134_0) (vf135_0 : Tf135_0) (vf136_0 : Tf136_0) (vf137_0 : Tf137_0) : EnvK := EnvK.of [⟨133, nt133, [⟨pa133_0, Fn133_0 vf133_0⟩]⟩, ⟨134, nt134, [⟨pa134_0, Fn134_0 vf134_0⟩]⟩, ⟨135, nt135, [⟨pa135_0, Fn135_0 vf135_0⟩]⟩, ⟨136, nt136, [⟨pa136_0, Fn136_0 vf136_0⟩]⟩, ⟨137, nt137, [⟨pa137_0, Fn137_0 vf137_0⟩]⟩] noSeq
noncomputable def E118_0 : EnvK := E118_0g f133_0 f134_0 f135_0 f136_0 f137_0
theorem eo118_0 : E118_0.Ok Try.prog := EnvK.of_ok noSeq_ok ⟨⟨io133_0, trivial⟩, ⟨io134_0, trivial⟩, ⟨io135_0, trivial⟩, ⟨io136_0, trivial⟩, ⟨io137_0, trivial⟩, trivial⟩

noncomputable def c118_0_40g  : MCode := (.seq (.region r118_42 [] (some ⟨[1, 8, 41, 42, 43, 44], true, [], []⟩)) (.seq (.cond (.tmp 44) .skip (.exit 2)) (.seq (.block 3 (.seq (.region r118_48 [] (some ⟨[1, 8, 10, 41, 42, 43], true, [], []⟩)) (.seq (.region r118_50 [] (some ⟨[1, 8, 10, 11, 41, 42, 43], true, [], []⟩)) (.seq (.seq (.region r118_53 [] (some ⟨[1, 8, 10, 11, 41, 42, 43, 56], true, [], []⟩)) (.cond (.tmp 56) (.seq (.region r118_56 [] (some ⟨[4, 5], true, [⟨false, 4, 0, 20004, 5⟩], []⟩)) .ret) .skip)) (.region r118_57 [] (some ⟨[1, 8, 41, 42, 43], true, [], []⟩)))))) (.region r118_58 [] (some ⟨[1, 8, 41, 42, 43], true, [], []⟩)))))
noncomputable def c118_0_40 : MCode := c118_0_40g 
theorem g118_0_40 : c118_0_40.Good Try.prog E118_0 sh118 := ⟨trivial, ⟨⟨trivial, trivial⟩, ⟨⟨trivial, ⟨trivial, ⟨⟨trivial, ⟨⟨trivial, trivial⟩, trivial⟩⟩, trivial⟩⟩⟩, trivial⟩⟩⟩
--CODE 40 0
def S118_0_1g (vf137_0 : Tf137_0) (α : Type) (x17 : Int) (x18 : Rows) (x19 : Int) (x20 : Int) (x21 : Rows) (kn : Int → Rows → Option α) (k1 : Option α) (k2 : Int → Bool → Rows → Option α) : Option α :=
  cK (decide (x20 < x19))
    (rowK x18 x20 [.int .i64, .int .i64, .int .i64]
      (fun (x22 : Int) (x23 : Int) (x24 : Int) => vf137_0 α (w64 (x24 * x17)) 1000
        (fun (x25 : Int) => cK (decide (1000000 < (w64 (x24 + x25))))
          (k1)
          (gK (apOk 5 40 x21 [[DC.v (.int .i64 x22), DC.v (.int .i64 x22), DC.v (.int .i64 (if (w64 (x24 - x25)) > 0 then (w64 (x24 - x25)) else 0)), DC.v (.int .i64 (w64 (x24 + x25))), DC.v (.int .i64 x23)]]) (kn (w64 (x20 + 1)) (x21 ++ [[DC.v (.int .i64 x22), DC.v (.int .i64 x22), DC.v (.int .i64 (if (w64 (x24 - x25)) > 0 then (w64 (x24 - x25)) else 0)), DC.v (.int .i64 (w64 (x24 + x25))), DC.v (.int .i64 x23)]]))))))
    (k2 x20 (decide (x20 < x19)) x21)
noncomputable def S118_0_1 (α : Type) (x17 : Int) (x18 : Rows) (x19 : Int) (x20 : Int) (x21 : Rows) (kn : Int → Rows → Option α) (k1 : Option α) (k2 : Int → Bool → Rows → Option α) : Option α := S118_0_1g f137_0 α x17 x18 x19 x20 x21 kn k1 k2
noncomputable def R118_0_1 (α : Type) (x17 : Int) (x18 : Rows) (x19 : Int) (k1 : Option α) (k2 : Int → Bool → Rows → Option α) : Nat → Int → Rows → Option α
  | 0, _, _ => none
  | n + 1, x20, x21 => S118_0_1 α x17 x18 x19 x20 x21 (R118_0_1 α x17 x18 x19 k1 k2 n) k1 k2
noncomputable def L118_0_1 (α : Type) (x17 : Int) (x18 : Rows) (x19 : Int) (k1 : Option α) (k2 : Int → Bool → Rows → Option α) (x20 : Int) (x21 : Rows) : Option α := R118_0_1 α x17 x18 x19 k1 k2 fuel x20 x21
abbrev TL118_0_1 : Type 1 := (α : Type) → Int → Rows → Int → (Option α) → (Int → Bool → Rows → Option α) → Int → Rows → Option α
def F118_0_1 (v : TL118_0_1) (α : Type) (K : Exit → St → Option α) : Int → Rows → Int → Int → Rows → Option α := fun x17 x18 x19 x20 x21 => v α x17 x18 x19 (u118_0_1 (K .ret) 8 []) (fun (y1 : Int) (y2 : Bool) (y3 : Rows) => u118_0_4 (K (.exit 2)) x17 x18 x19 y1 y2 y3) x20 x21
theorem r118_0_1g (vf133_0 : Tf133_0) (vf134_0 : Tf134_0) (vf135_0 : Tf135_0) (vf136_0 : Tf136_0) (vf137_0 : Tf137_0)  (α : Type) (K : Exit → St → Option α) (Kn : St → Option α) (x17 : Int) (x18 : Rows) (x19 : Int) (x20 : Int) (x21 : Rows) : u118_0_3 (fun σ => runM Try.prog (E118_0g vf133_0 vf134_0 vf135_0 vf136_0 vf137_0) sh118 (c118_0_40g ) (thenK (fun σ => tidyK td118_40 σ Kn) K) σ) x17 x18 x19 x20 x21 = S118_0_1g vf137_0 α x17 x18 x19 x20 x21 (fun x20 x21 => u118_0_3 Kn x17 x18 x19 x20 x21) (u118_0_1 (K .ret) 8 []) (fun (y1 : Int) (y2 : Bool) (y3 : Rows) => u118_0_4 (K (.exit 2)) x17 x18 x19 y1 y2 y3) := by kernel_rfl
theorem r118_0_1 (α : Type) (K : Exit → St → Option α) (Kn : St → Option α) (x17 : Int) (x18 : Rows) (x19 : Int) (x20 : Int) (x21 : Rows) : u118_0_3 (fun σ => runM Try.prog E118_0 sh118 c118_0_40 (thenK (fun σ => tidyK td118_40 σ Kn) K) σ) x17 x18 x19 x20 x21 = S118_0_1 α x17 x18 x19 x20 x21 (fun x20 x21 => u118_0_3 Kn x17 x18 x19 x20 x21) (u118_0_1 (K .ret) 8 []) (fun (y1 : Int) (y2 : Bool) (y3 : Rows) => u118_0_4 (K (.exit 2)) x17 x18 x19 y1 y2 y3) := r118_0_1g f133_0 f134_0 f135_0 f136_0 f137_0 α K Kn x17 x18 x19 x20 x21
theorem t118_0_1 (α : Type) (K : Exit → St → Option α) : ∀ (n : Nat) (x17 : Int) (x18 : Rows) (x19 : Int) (x20 : Int) (x21 : Rows), R118_0_1 α x17 x18 x19 (u118_0_1 (K .ret) 8 []) (fun (y1 : Int) (y2 : Bool) (y3 : Rows) => u118_0_4 (K (.exit 2)) x17 x18 x19 y1 y2 y3) n x20 x21 = u118_0_3 (loopT (runM Try.prog E118_0 sh118 c118_0_40) td118_40 K n) x17 x18 x19 x20 x21 := by
  intro n
  induction n with
  | zero => intros; rfl
  | succ n ih => intro x17 x18 x19 x20 x21; exact (congrArg (fun kn => S118_0_1 α x17 x18 x19 x20 x21 kn (u118_0_1 (K .ret) 8 []) (fun (y1 : Int) (y2 : Bool) (y3 : Rows) => u118_0_4 (K (.exit 2)) x17 x18 x19 y1 y2 y3)) (funext fun x20 => funext fun x21 => ih x17 x18 x19 x20 x21)).trans (r118_0_1 α K (loopT (runM Try.prog E118_0 sh118 c118_0_40) td118_40 K n) x17 x18 x19 x20 x21).symm
theorem m118_0_1 : ∀ (α : Type) (K : Exit → St → Option α), F118_0_1 L118_0_1 α K = p118_0_3.unc fun σ => loopT (runM Try.prog E118_0 sh118 c118_0_40) td118_40 K fuel σ := fun α K => funext fun x17 => funext fun x18 => funext fun x19 => funext fun x20 => funext fun x21 => t118_0_1 α K fuel x17 x18 x19 x20 x21

noncomputable def c118_0_13g  : MCode := (.seq (.region r118_15 [] (some ⟨[0, 1, 15, 16, 17, 18], true, [], []⟩)) (.seq (.cond (.tmp 18) .skip (.exit 0)) (.seq (.block 1 (.seq (.region r118_21 [] (some ⟨[0, 1, 7, 15, 16, 17], true, [], []⟩)) (.seq (.region r118_23 [] (some ⟨[0, 1, 15, 16, 17, 36], true, [], []⟩)) (.cond (.tmp 36) (.seq (.region r118_26 [] (some ⟨[4, 5], true, [⟨false, 4, 0, 20004, 5⟩], []⟩)) .ret) .skip)))) (.region r118_27 [] (some ⟨[0, 1, 15, 16, 17], true, [], []⟩)))))
noncomputable def c118_0_13 : MCode := c118_0_13g 
theorem g118_0_13 : c118_0_13.Good Try.prog E118_0 sh118 := ⟨trivial, ⟨⟨trivial, trivial⟩, ⟨⟨trivial, ⟨trivial, ⟨⟨trivial, trivial⟩, trivial⟩⟩⟩, trivial⟩⟩⟩
--CODE 13 0
def S118_0_0g (vf133_0 : Tf133_0) (vf134_0 : Tf134_0) (vf135_0 : Tf135_0) (α : Type) (x5 : Rows) (x6 : Int) (x7 : Int) (kn : Int → Option α) (k1 : Option α) (k2 : Int → Bool → Option α) : Option α :=
  cK (decide (x7 < x6))
    (rowK x5 x7 [.int .i64, .int .i64, .int .i64]
      (fun (x8 : Int) (x9 : Int) (x10 : Int) => vf133_0 α x8
        (fun (x11 : Bool) => cK (!x11)
          (k1)
          (vf134_0 α x9
            (fun (x12 : Bool) => cK (!x12)
              (k1)
              (vf135_0 α x10
                (fun (x13 : Bool) => cK (!x13)
                  (k1)
                  (kn (w64 (x7 + 1))))))))))
    (k2 x7 (decide (x7 < x6)))
noncomputable def S118_0_0 (α : Type) (x5 : Rows) (x6 : Int) (x7 : Int) (kn : Int → Option α) (k1 : Option α) (k2 : Int → Bool → Option α) : Option α := S118_0_0g f133_0 f134_0 f135_0 α x5 x6 x7 kn k1 k2
noncomputable def R118_0_0 (α : Type) (x5 : Rows) (x6 : Int) (k1 : Option α) (k2 : Int → Bool → Option α) : Nat → Int → Option α
  | 0, _ => none
  | n + 1, x7 => S118_0_0 α x5 x6 x7 (R118_0_0 α x5 x6 k1 k2 n) k1 k2
noncomputable def L118_0_0 (α : Type) (x5 : Rows) (x6 : Int) (k1 : Option α) (k2 : Int → Bool → Option α) (x7 : Int) : Option α := R118_0_0 α x5 x6 k1 k2 fuel x7
abbrev TL118_0_0 : Type 1 := (α : Type) → Rows → Int → (Option α) → (Int → Bool → Option α) → Int → Option α
def F118_0_0 (v : TL118_0_0) (α : Type) (K : Exit → St → Option α) : Rows → Int → Rows → Int → Int → Option α := fun x3 x4 x5 x6 x7 => v α x5 x6 (u118_0_1 (K .ret) 2 []) (fun (y1 : Int) (y2 : Bool) => u118_0_2 (K (.exit 0)) x3 x4 x5 x6 y1 y2) x7
theorem r118_0_0g (vf133_0 : Tf133_0) (vf134_0 : Tf134_0) (vf135_0 : Tf135_0) (vf136_0 : Tf136_0) (vf137_0 : Tf137_0)  (α : Type) (K : Exit → St → Option α) (Kn : St → Option α) (x3 : Rows) (x4 : Int) (x5 : Rows) (x6 : Int) (x7 : Int) : u118_0_0 (fun σ => runM Try.prog (E118_0g vf133_0 vf134_0 vf135_0 vf136_0 vf137_0) sh118 (c118_0_13g ) (thenK (fun σ => tidyK td118_13 σ Kn) K) σ) x3 x4 x5 x6 x7 = S118_0_0g vf133_0 vf134_0 vf135_0 α x5 x6 x7 (fun x7 => u118_0_0 Kn x3 x4 x5 x6 x7) (u118_0_1 (K .ret) 2 []) (fun (y1 : Int) (y2 : Bool) => u118_0_2 (K (.exit 0)) x3 x4 x5 x6 y1 y2) := by kernel_rfl
theorem r118_0_0 (α : Type) (K : Exit → St → Option α) (Kn : St → Option α) (x3 : Rows) (x4 : Int) (x5 : Rows) (x6 : Int) (x7 : Int) : u118_0_0 (fun σ => runM Try.prog E118_0 sh118 c118_0_13 (thenK (fun σ => tidyK td118_13 σ Kn) K) σ) x3 x4 x5 x6 x7 = S118_0_0 α x5 x6 x7 (fun x7 => u118_0_0 Kn x3 x4 x5 x6 x7) (u118_0_1 (K .ret) 2 []) (fun (y1 : Int) (y2 : Bool) => u118_0_2 (K (.exit 0)) x3 x4 x5 x6 y1 y2) := r118_0_0g f133_0 f134_0 f135_0 f136_0 f137_0 α K Kn x3 x4 x5 x6 x7
theorem t118_0_0 (α : Type) (K : Exit → St → Option α) : ∀ (n : Nat) (x3 : Rows) (x4 : Int) (x5 : Rows) (x6 : Int) (x7 : Int), R118_0_0 α x5 x6 (u118_0_1 (K .ret) 2 []) (fun (y1 : Int) (y2 : Bool) => u118_0_2 (K (.exit 0)) x3 x4 x5 x6 y1 y2) n x7 = u118_0_0 (loopT (runM Try.prog E118_0 sh118 c118_0_13) td118_13 K n) x3 x4 x5 x6 x7 := by
  intro n
  induction n with
  | zero => intros; rfl
  | succ n ih => intro x3 x4 x5 x6 x7; exact (congrArg (fun kn => S118_0_0 α x5 x6 x7 kn (u118_0_1 (K .ret) 2 []) (fun (y1 : Int) (y2 : Bool) => u118_0_2 (K (.exit 0)) x3 x4 x5 x6 y1 y2)) (funext fun x7 => ih x3 x4 x5 x6 x7)).trans (r118_0_0 α K (loopT (runM Try.prog E118_0 sh118 c118_0_13) td118_13 K n) x3 x4 x5 x6 x7).symm
theorem m118_0_0 : ∀ (α : Type) (K : Exit → St → Option α), F118_0_0 L118_0_0 α K = p118_0_0.unc fun σ => loopT (runM Try.prog E118_0 sh118 c118_0_13) td118_13 K fuel σ := fun α K => funext fun x3 => funext fun x4 => funext fun x5 => funext fun x6 => funext fun x7 => t118_0_0 α K fuel x3 x4 x5 x6 x7

/-- etalon/stack.Boxed -/
abbrev Tf118_0 : Type 1 := (α : Type) → Rows → Int → (Rows → Int → Option α) → Option α
def f118_0g (vL118_0_0 : TL118_0_0) (vL118_0_1 : TL118_0_1) (vf136_0 : Tf136_0) (α : Type) (x1 : Rows) (x2 : Int) (k1 : Rows → Int → Option α) : Option α :=
  cK (decide (40 < ((List.length x1 : Nat) : Int)))
    (k1 [] 8)
    (vL118_0_0 α x1 ((List.length x1 : Nat) : Int)
      (k1 [] 2)
      (fun (x14 : Int) (x15 : Bool) => vf136_0 α x2 0 1000
        (fun (x16 : Bool) => cK (!x16)
          (k1 [] 2)
          (vL118_0_1 α x2 x1 ((List.length x1 : Nat) : Int)
            (k1 [] 8)
            (fun (x26 : Int) (x27 : Bool) (x28 : Rows) => k1 x28 0) 0 []))) 0)
noncomputable def f118_0 (α : Type) (x1 : Rows) (x2 : Int) (k1 : Rows → Int → Option α) : Option α := f118_0g L118_0_0 L118_0_1 f136_0 α x1 x2 k1
def pa118_0 : PT (List DV) := pA [pV false [dL], pV false [(dI .i64)]]
def Fn118_0 (v : Tf118_0) (α : Type) (k : List RV → Option α) : Rows → Int → Option α := fun x1 x2 => v α x1 x2 (fun (y1 : Rows) (y2 : Int) => ur118_0_0 k y1 y2)
noncomputable def cm118_0g (vL118_0_0 : TL118_0_0) (vL118_0_1 : TL118_0_1) : MCode := (.seq (.region r118_2 [] (some ⟨[0, 1], true, [], []⟩)) (.seq (.seq (.region r118_5 [] (some ⟨[0, 1, 14], true, [], []⟩)) (.cond (.tmp 14) (.seq (.region r118_8 [] (some ⟨[4, 5], true, [⟨false, 4, 0, 20004, 5⟩], []⟩)) .ret) .skip)) (.seq (.seq (.region r118_11 [] (some ⟨[0, 1, 15, 16, 17], true, [], []⟩)) (.block 0 (.loop td118_13 [⟨p118_0_0, F118_0_0 vL118_0_0⟩] c118_0_13))) (.seq (.seq (.region r118_30 [] (some ⟨[0, 1, 40], true, [], []⟩)) (.cond (.tmp 40) (.seq (.region r118_33 [] (some ⟨[4, 5], true, [⟨false, 4, 0, 20004, 5⟩], []⟩)) .ret) .skip)) (.seq (.region r118_35 [] (some ⟨[0, 1, 8], true, [], []⟩)) (.seq (.seq (.region r118_38 [] (some ⟨[1, 8, 41, 42, 43], true, [], []⟩)) (.block 2 (.loop td118_40 [⟨p118_0_3, F118_0_1 vL118_0_1⟩] c118_0_40))) (.seq (.region r118_60 [] (some ⟨[4, 5], true, [⟨false, 4, 0, 20004, 5⟩], []⟩)) .ret)))))))
noncomputable def cm118_0 : MCode := cm118_0g L118_0_0 L118_0_1
theorem gm118_0 : cm118_0.Good Try.prog E118_0 sh118 := ⟨trivial, ⟨⟨trivial, ⟨⟨trivial, trivial⟩, trivial⟩⟩, ⟨⟨trivial, ⟨g118_0_13, m118_0_0, trivial⟩⟩, ⟨⟨trivial, ⟨⟨trivial, trivial⟩, trivial⟩⟩, ⟨trivial, ⟨⟨trivial, ⟨g118_0_40, m118_0_1, trivial⟩⟩, ⟨trivial, trivial⟩⟩⟩⟩⟩⟩⟩
theorem fm118_0g (vf133_0 : Tf133_0) (vf134_0 : Tf134_0) (vf135_0 : Tf135_0) (vf136_0 : Tf136_0) (vf137_0 : Tf137_0) (vL118_0_0 : TL118_0_0) (vL118_0_1 : TL118_0_1) (α : Type) (k : List RV → Option α) : Fn118_0 (f118_0g vL118_0_0 vL118_0_1 vf136_0) α k = pa118_0.unc fun ds => fnM Try.prog (E118_0g vf133_0 vf134_0 vf135_0 vf136_0 vf137_0) sh118 (cm118_0g vL118_0_0 vL118_0_1) rs118 k ds := by kernel_rfl
theorem fm118_0 : ∀ (α : Type) (k : List RV → Option α), Fn118_0 f118_0 α k = pa118_0.unc fun ds => fnM Try.prog E118_0 sh118 cm118_0 rs118 k ds := fm118_0g f133_0 f134_0 f135_0 f136_0 f137_0 L118_0_0 L118_0_1

theorem is118 : FnIs Try.prog 118 nt118 tr118 tl118 cm118_0.erase rs118 := ⟨Try.f118, Try.func118, rfl, by kernel_rfl, by kernel_rfl, by kernel_rfl⟩
theorem io118_0 : InstOk Try.prog 118 nt118 ⟨pa118_0, Fn118_0 f118_0⟩ := inst_ok eo118_0 followsTry is118 ⟨⟨sh118, cm118_0, by kernel_rfl, gm118_0, fm118_0⟩⟩

/-! ### F117 etalon/grow.ordered -/
abbrev nt117 : Nat := 19
def sh117 : List (Nat × List Sh) := [(8, [.int .i64, .int .i64]), (15, [.int .i64]), (17, [.int .i64])]
def r117_2 : List AOper := [⟨(some 3), (.box (.tmp 0)), none⟩, ⟨(some 6), (.mv (.const (.int .i64 0))), none⟩]
def r117_6 : List AOper := [⟨(some 8), (.load true 2 (.tmp 3)), none⟩, ⟨(some 9), (.mv (.tmp 1)), none⟩, ⟨(some 10), (.mv (.tmp 2)), none⟩, ⟨(some 11), (.call 132 [(.tmp 8), (.tmp 9), (.tmp 10)]), none⟩, ⟨(some 12), (.pure (oB (.unOp .not 4 (.tmp 11)) 4)), none⟩, ⟨(some 7), (.mv (.tmp 12)), none⟩]
def r117_9 : List AOper := [⟨(some 6), (.mv (.const (.int .i64 2))), none⟩]
def r117_11 : List AOper := [⟨(some 14), (.faddr 0 (.tmp 3)), none⟩, ⟨(some 15), (.load false 1 (.tmp 14)), none⟩, ⟨(some 16), (.faddr 1 (.tmp 3)), none⟩, ⟨(some 17), (.load false 1 (.tmp 16)), none⟩, ⟨(some 18), (.bin .gtr 3 (.tmp 15) (.tmp 17)), none⟩, ⟨(some 13), (.mv (.tmp 18)), none⟩]
def r117_14 : List AOper := [⟨(some 6), (.mv (.const (.int .i64 10))), none⟩]
def r117_16 : List AOper := [⟨(some 6), (.mv (.const (.int .i64 0))), none⟩]
def tr117 : List (Nat × Tidy) := [(0, ⟨[1, 2, 3], true, [], []⟩), (1, ⟨[3, 7], true, [], []⟩), (2, ⟨[6], true, [], []⟩), (3, ⟨[13], true, [], []⟩), (4, ⟨[6], true, [], []⟩), (5, ⟨[6], true, [], []⟩)]
def tl117 : List (Nat × Tidy) := []
def rs117 : List AResV := [.tmp 6]
def pr117_0_0 : PT (List RV) := pRs [pR false [rD (dI .i64)]]
def ur117_0_0 {β : Type} (g : List RV → β) : Int → β := pr117_0_0.unc g

def E117_0g (vf132_0 : Tf132_0) : EnvK := EnvK.of [⟨132, nt132, [⟨pa132_0, Fn132_0 vf132_0⟩]⟩] noSeq
noncomputable def E117_0 : EnvK := E117_0g f132_0
theorem eo117_0 : E117_0.Ok Try.prog := EnvK.of_ok noSeq_ok ⟨⟨io132_0, trivial⟩, trivial⟩

/-- etalon/grow.ordered -/
abbrev Tf117_0 : Type 1 := (α : Type) → Int → Int → Int → Int → (Int → Option α) → Option α
def f117_0g (vf132_0 : Tf132_0) (α : Type) (x1 : Int) (x2 : Int) (x3 : Int) (x4 : Int) (k1 : Int → Option α) : Option α :=
  vf132_0 α x1 x2 x3 x4
    (fun (x5 : Bool) => cK (!x5)
      (k1 2)
      (cK (decide (x2 < x1))
        (k1 10)
        (k1 0)))
noncomputable def f117_0 (α : Type) (x1 : Int) (x2 : Int) (x3 : Int) (x4 : Int) (k1 : Int → Option α) : Option α := f117_0g f132_0 α x1 x2 x3 x4 k1
def pa117_0 : PT (List DV) := pA [pV true [(dI .i64), (dI .i64)], pV false [(dI .i64)], pV false [(dI .i64)]]
def Fn117_0 (v : Tf117_0) (α : Type) (k : List RV → Option α) : Int → Int → Int → Int → Option α := fun x1 x2 x3 x4 => v α x1 x2 x3 x4 (fun (y1 : Int) => ur117_0_0 k y1)
noncomputable def cm117_0g  : MCode := (.seq (.region r117_2 [] (some ⟨[1, 2, 3], true, [], []⟩)) (.seq (.block 0 (.seq (.region r117_6 [] (some ⟨[3, 7], true, [], []⟩)) (.cond (.tmp 7) (.seq (.region r117_9 [] (some ⟨[6], true, [], []⟩)) .ret) (.seq (.region r117_11 [] (some ⟨[13], true, [], []⟩)) (.cond (.tmp 13) (.seq (.region r117_14 [] (some ⟨[6], true, [], []⟩)) .ret) .skip))))) (.seq (.region r117_16 [] (some ⟨[6], true, [], []⟩)) .ret)))
noncomputable def cm117_0 : MCode := cm117_0g 
theorem gm117_0 : cm117_0.Good Try.prog E117_0 sh117 := ⟨trivial, ⟨⟨trivial, ⟨⟨trivial, trivial⟩, ⟨trivial, ⟨⟨trivial, trivial⟩, trivial⟩⟩⟩⟩, ⟨trivial, trivial⟩⟩⟩
theorem fm117_0g (vf132_0 : Tf132_0)  (α : Type) (k : List RV → Option α) : Fn117_0 (f117_0g vf132_0) α k = pa117_0.unc fun ds => fnM Try.prog (E117_0g vf132_0) sh117 (cm117_0g ) rs117 k ds := by kernel_rfl
theorem fm117_0 : ∀ (α : Type) (k : List RV → Option α), Fn117_0 f117_0 α k = pa117_0.unc fun ds => fnM Try.prog E117_0 sh117 cm117_0 rs117 k ds := fm117_0g f132_0

theorem is117 : FnIs Try.prog 117 nt117 tr117 tl117 cm117_0.erase rs117 := ⟨Try.f117, Try.func117, rfl, by kernel_rfl, by kernel_rfl, by kernel_rfl⟩
theorem io117_0 : InstOk Try.prog 117 nt117 ⟨pa117_0, Fn117_0 f117_0⟩ := inst_ok eo117_0 followsTry is117 ⟨⟨sh117, cm117_0, by kernel_rfl, gm117_0, fm117_0⟩⟩

/-! ### F90 etalon/grow.secondsErr -/
abbrev nt90 : Nat := 5
def sh90 : List (Nat × List Sh) := [(3, [.int .i64, .int .i64])]
def r90_2 : List AOper := [⟨(some 1), (.box (.tmp 0)), none⟩, ⟨(some 2), (.mv (.const (.int .i64 0))), none⟩]
def r90_4 : List AOper := [⟨(some 3), (.load true 2 (.tmp 1)), none⟩, ⟨(some 4), (.call 117 [(.tmp 3), (.const (.int .i64 0)), (.const (.int .i64 100000))]), none⟩, ⟨(some 2), (.mv (.tmp 4)), none⟩]
def tr90 : List (Nat × Tidy) := [(0, ⟨[1], true, [], []⟩), (1, ⟨[2], true, [], []⟩)]
def tl90 : List (Nat × Tidy) := []
def rs90 : List AResV := [.tmp 2]
def pr90_0_0 : PT (List RV) := pRs [pR false [rD (dI .i64)]]
def ur90_0_0 {β : Type} (g : List RV → β) : Int → β := pr90_0_0.unc g

def E90_0g (vf117_0 : Tf117_0) : EnvK := EnvK.of [⟨117, nt117, [⟨pa117_0, Fn117_0 vf117_0⟩]⟩] noSeq
noncomputable def E90_0 : EnvK := E90_0g f117_0
theorem eo90_0 : E90_0.Ok Try.prog := EnvK.of_ok noSeq_ok ⟨⟨io117_0, trivial⟩, trivial⟩

/-- etalon/grow.secondsErr -/
abbrev Tf90_0 : Type 1 := (α : Type) → Int → Int → (Int → Option α) → Option α
def f90_0g (vf117_0 : Tf117_0) (α : Type) (x1 : Int) (x2 : Int) (k1 : Int → Option α) : Option α :=
  vf117_0 α x1 x2 0 100000
    (fun (x3 : Int) => k1 x3)
noncomputable def f90_0 (α : Type) (x1 : Int) (x2 : Int) (k1 : Int → Option α) : Option α := f90_0g f117_0 α x1 x2 k1
def pa90_0 : PT (List DV) := pA [pV true [(dI .i64), (dI .i64)]]
def Fn90_0 (v : Tf90_0) (α : Type) (k : List RV → Option α) : Int → Int → Option α := fun x1 x2 => v α x1 x2 (fun (y1 : Int) => ur90_0_0 k y1)
noncomputable def cm90_0g  : MCode := (.seq (.region r90_2 [] (some ⟨[1], true, [], []⟩)) (.seq (.region r90_4 [] (some ⟨[2], true, [], []⟩)) .ret))
noncomputable def cm90_0 : MCode := cm90_0g 
theorem gm90_0 : cm90_0.Good Try.prog E90_0 sh90 := ⟨trivial, ⟨trivial, trivial⟩⟩
theorem fm90_0g (vf117_0 : Tf117_0)  (α : Type) (k : List RV → Option α) : Fn90_0 (f90_0g vf117_0) α k = pa90_0.unc fun ds => fnM Try.prog (E90_0g vf117_0) sh90 (cm90_0g ) rs90 k ds := by kernel_rfl
theorem fm90_0 : ∀ (α : Type) (k : List RV → Option α), Fn90_0 f90_0 α k = pa90_0.unc fun ds => fnM Try.prog E90_0 sh90 cm90_0 rs90 k ds := fm90_0g f117_0

theorem is90 : FnIs Try.prog 90 nt90 tr90 tl90 cm90_0.erase rs90 := ⟨Try.f90, Try.func90, rfl, by kernel_rfl, by kernel_rfl, by kernel_rfl⟩
theorem io90_0 : InstOk Try.prog 90 nt90 ⟨pa90_0, Fn90_0 f90_0⟩ := inst_ok eo90_0 followsTry is90 ⟨⟨sh90, cm90_0, by kernel_rfl, gm90_0, fm90_0⟩⟩

/-! ### F89 etalon/grow.rateErr -/
abbrev nt89 : Nat := 5
def sh89 : List (Nat × List Sh) := [(3, [.int .i64, .int .i64])]
def r89_2 : List AOper := [⟨(some 1), (.box (.tmp 0)), none⟩, ⟨(some 2), (.mv (.const (.int .i64 0))), none⟩]
def r89_4 : List AOper := [⟨(some 3), (.load true 2 (.tmp 1)), none⟩, ⟨(some 4), (.call 117 [(.tmp 3), (.const (.int .i64 1)), (.const (.int .i64 1000000))]), none⟩, ⟨(some 2), (.mv (.tmp 4)), none⟩]
def tr89 : List (Nat × Tidy) := [(0, ⟨[1], true, [], []⟩), (1, ⟨[2], true, [], []⟩)]
def tl89 : List (Nat × Tidy) := []
def rs89 : List AResV := [.tmp 2]
def pr89_0_0 : PT (List RV) := pRs [pR false [rD (dI .i64)]]
def ur89_0_0 {β : Type} (g : List RV → β) : Int → β := pr89_0_0.unc g

def E89_0g (vf117_0 : Tf117_0) : EnvK := EnvK.of [⟨117, nt117, [⟨pa117_0, Fn117_0 vf117_0⟩]⟩] noSeq
noncomputable def E89_0 : EnvK := E89_0g f117_0
theorem eo89_0 : E89_0.Ok Try.prog := EnvK.of_ok noSeq_ok ⟨⟨io117_0, trivial⟩, trivial⟩

/-- etalon/grow.rateErr -/
abbrev Tf89_0 : Type 1 := (α : Type) → Int → Int → (Int → Option α) → Option α
def f89_0g (vf117_0 : Tf117_0) (α : Type) (x1 : Int) (x2 : Int) (k1 : Int → Option α) : Option α :=
  vf117_0 α x1 x2 1 1000000
    (fun (x3 : Int) => k1 x3)
noncomputable def f89_0 (α : Type) (x1 : Int) (x2 : Int) (k1 : Int → Option α) : Option α := f89_0g f117_0 α x1 x2 k1
def pa89_0 : PT (List DV) := pA [pV true [(dI .i64), (dI .i64)]]
def Fn89_0 (v : Tf89_0) (α : Type) (k : List RV → Option α) : Int → Int → Option α := fun x1 x2 => v α x1 x2 (fun (y1 : Int) => ur89_0_0 k y1)
noncomputable def cm89_0g  : MCode := (.seq (.region r89_2 [] (some ⟨[1], true, [], []⟩)) (.seq (.region r89_4 [] (some ⟨[2], true, [], []⟩)) .ret))
noncomputable def cm89_0 : MCode := cm89_0g 
theorem gm89_0 : cm89_0.Good Try.prog E89_0 sh89 := ⟨trivial, ⟨trivial, trivial⟩⟩
theorem fm89_0g (vf117_0 : Tf117_0)  (α : Type) (k : List RV → Option α) : Fn89_0 (f89_0g vf117_0) α k = pa89_0.unc fun ds => fnM Try.prog (E89_0g vf117_0) sh89 (cm89_0g ) rs89 k ds := by kernel_rfl
theorem fm89_0 : ∀ (α : Type) (k : List RV → Option α), Fn89_0 f89_0 α k = pa89_0.unc fun ds => fnM Try.prog E89_0 sh89 cm89_0 rs89 k ds := fm89_0g f117_0

theorem is89 : FnIs Try.prog 89 nt89 tr89 tl89 cm89_0.erase rs89 := ⟨Try.f89, Try.func89, rfl, by kernel_rfl, by kernel_rfl, by kernel_rfl⟩
theorem io89_0 : InstOk Try.prog 89 nt89 ⟨pa89_0, Fn89_0 f89_0⟩ := inst_ok eo89_0 followsTry is89 ⟨⟨sh89, cm89_0, by kernel_rfl, gm89_0, fm89_0⟩⟩

/-! ### F66 etalon/grow.Boxes -/
abbrev nt66 : Nat := 111
def sh66 : List (Nat × List Sh) := [(16, [.sl]), (20, [.sl]), (24, [.int .i64, .int .i64, .int .i64]), (25, [.int .i64, .int .i64, .int .i64]), (27, [.int .i64]), (32, [.int .i64]), (38, [.int .i64]), (44, [.sl]), (47, [.sl]), (51, [.sl]), (55, [.int .i64, .int .i64]), (56, [.int .i64, .int .i64]), (57, [.int .i64, .int .i64]), (64, [.int .i64]), (68, [.sl]), (73, [.int .i64, .int .i64]), (74, [.int .i64, .int .i64]), (76, [.sl]), (78, [.int .i64, .int .i64, .int .i64]), (79, [.int .i64, .int .i64, .int .i64]), (82, [.int .i64]), (84, [.int .i64]), (86, [.int .i64, .int .i64]), (88, [.int .i64]), (95, [.sl]), (97, [.sl]), (101, [.int .i64])]
def r66_2 : List AOper := [⟨(some 1), (.box (.tmp 0)), none⟩, ⟨(some 2), (.mv (.const (.slice none 0 0))), none⟩, ⟨(some 3), (.mv (.const (.int .i64 0))), none⟩]
def r66_5 : List AOper := [⟨(some 15), (.faddr 0 (.tmp 1)), none⟩, ⟨(some 16), (.load false 1 (.tmp 15)), none⟩, ⟨(some 17), (.len (.tmp 16)), none⟩, ⟨(some 18), (.bin .gtr 3 (.tmp 17) (.const (.int .i64 40))), none⟩]
def r66_8 : List AOper := [⟨(some 2), (.mv (.const (.slice none 0 0))), none⟩, ⟨(some 3), (.mv (.const (.int .i64 8))), none⟩]
def r66_11 : List AOper := [⟨(some 19), (.faddr 0 (.tmp 1)), none⟩, ⟨(some 20), (.load false 1 (.tmp 19)), none⟩, ⟨(some 21), (.len (.tmp 20)), none⟩, ⟨(some 22), (.mv (.const (.int .i64 0))), none⟩]
def td66_13 : Option Tidy := (some ⟨[1, 20, 21, 22], true, [⟨false, 20, 0, 20020, 3⟩, ⟨true, 1, 0, 30100, 3⟩, ⟨true, 1, 1, 30101, 2⟩, ⟨true, 1, 3, 30103, 9⟩], []⟩)
def r66_15 : List AOper := [⟨(some 23), (.bin .lss 3 (.tmp 22) (.tmp 21)), none⟩]
def r66_21 : List AOper := [⟨(some 24), (.iaddr 3 none (.tmp 20) (.tmp 22)), none⟩, ⟨(some 25), (.load true 3 (.tmp 24)), none⟩, ⟨(some 5), (.alloc [(.d (.v (.int .i64 0))), (.d (.v (.int .i64 0))), (.d (.v (.int .i64 0)))]), none⟩, ⟨none, (.store 3 (.tmp 5) (.tmp 25)), none⟩]
def r66_23 : List AOper := [⟨(some 26), (.faddr 0 (.tmp 5)), none⟩, ⟨(some 27), (.load false 1 (.tmp 26)), none⟩, ⟨(some 28), (.call 78 [(.tmp 27), (.const (.int .i64 5000)), (.const (.int .i64 80000))]), none⟩, ⟨(some 29), (.pure (oB (.unOp .not 4 (.tmp 28)) 4)), none⟩, ⟨(some 30), (.mv (.tmp 29)), none⟩, ⟨(some 31), (.faddr 1 (.tmp 5)), (some (30, false))⟩, ⟨(some 32), (.load false 1 (.tmp 31)), (some (30, false))⟩, ⟨(some 33), (.call 78 [(.tmp 32), (.const (.int .i64 0)), (.const (.int .i64 80000))]), (some (30, false))⟩, ⟨(some 34), (.pure (oB (.unOp .not 4 (.tmp 33)) 4)), (some (30, false))⟩, ⟨(some 35), (.pick (.tmp 30) (.const (.bool true)) (.tmp 34)), none⟩, ⟨(some 36), (.mv (.tmp 35)), none⟩, ⟨(some 37), (.faddr 2 (.tmp 5)), (some (36, false))⟩, ⟨(some 38), (.load false 1 (.tmp 37)), (some (36, false))⟩, ⟨(some 39), (.call 78 [(.tmp 38), (.const (.int .i64 0)), (.const (.int .i64 1000000))]), (some (36, false))⟩, ⟨(some 40), (.pure (oB (.unOp .not 4 (.tmp 39)) 4)), (some (36, false))⟩, ⟨(some 41), (.pick (.tmp 36) (.const (.bool true)) (.tmp 40)), none⟩]
def r66_26 : List AOper := [⟨(some 2), (.mv (.const (.slice none 0 0))), none⟩, ⟨(some 3), (.mv (.const (.int .i64 2))), none⟩]
def r66_27 : List AOper := [⟨(some 42), (.bin .add 3 (.tmp 22) (.const (.int .i64 1))), none⟩, ⟨(some 22), (.mv (.tmp 42)), none⟩]
def r66_30 : List AOper := [⟨(some 43), (.faddr 1 (.tmp 1)), none⟩, ⟨(some 44), (.load false 1 (.tmp 43)), none⟩, ⟨(some 45), (.len (.tmp 44)), none⟩, ⟨(some 46), (.faddr 0 (.tmp 1)), none⟩, ⟨(some 47), (.load false 1 (.tmp 46)), none⟩, ⟨(some 48), (.len (.tmp 47)), none⟩, ⟨(some 49), (.bin .gtr 3 (.tmp 45) (.tmp 48)), none⟩]
def r66_33 : List AOper := [⟨(some 2), (.mv (.const (.slice none 0 0))), none⟩, ⟨(some 3), (.mv (.const (.int .i64 12))), none⟩]
def r66_36 : List AOper := [⟨(some 50), (.faddr 1 (.tmp 1)), none⟩, ⟨(some 51), (.load false 1 (.tmp 50)), none⟩, ⟨(some 52), (.len (.tmp 51)), none⟩, ⟨(some 53), (.mv (.const (.int .i64 0))), none⟩]
def td66_38 : Option Tidy := (some ⟨[1, 51, 52, 53], true, [⟨false, 51, 0, 20051, 2⟩, ⟨true, 1, 0, 30100, 3⟩, ⟨true, 1, 1, 30101, 2⟩, ⟨true, 1, 3, 30103, 9⟩], []⟩)
def r66_40 : List AOper := [⟨(some 54), (.bin .lss 3 (.tmp 53) (.tmp 52)), none⟩]
def r66_46 : List AOper := [⟨(some 55), (.iaddr 2 none (.tmp 51) (.tmp 53)), none⟩, ⟨(some 56), (.load true 2 (.tmp 55)), none⟩, ⟨(some 7), (.alloc [(.d (.v (.int .i64 0))), (.d (.v (.int .i64 0)))]), none⟩, ⟨none, (.store 2 (.tmp 7) (.tmp 56)), none⟩]
def r66_48 : List AOper := [⟨(some 57), (.load true 2 (.tmp 7)), none⟩, ⟨(some 58), (.call 117 [(.tmp 57), (.const (.int .i64 0)), (.const (.int .i64 1000000))]), none⟩, ⟨(some 8), (.mv (.tmp 58)), none⟩]
def r66_50 : List AOper := [⟨(some 59), (.mv (.tmp 8)), none⟩, ⟨(some 60), (.bin .neq 32 (.tmp 59) (.const (.int .i64 0))), none⟩]
def r66_53 : List AOper := [⟨(some 61), (.mv (.tmp 8)), none⟩, ⟨(some 2), (.mv (.const (.slice none 0 0))), none⟩, ⟨(some 3), (.mv (.tmp 61)), none⟩]
def r66_54 : List AOper := [⟨(some 62), (.bin .add 3 (.tmp 53) (.const (.int .i64 1))), none⟩, ⟨(some 53), (.mv (.tmp 62)), none⟩]
def r66_57 : List AOper := [⟨(some 63), (.faddr 2 (.tmp 1)), none⟩, ⟨(some 64), (.load false 1 (.tmp 63)), none⟩, ⟨(some 65), (.call 78 [(.tmp 64), (.const (.int .i64 0)), (.const (.int .i64 1000))]), none⟩, ⟨(some 66), (.pure (oB (.unOp .not 4 (.tmp 65)) 4)), none⟩]
def r66_60 : List AOper := [⟨(some 2), (.mv (.const (.slice none 0 0))), none⟩, ⟨(some 3), (.mv (.const (.int .i64 2))), none⟩]
def r66_62 : List AOper := [⟨(some 9), (.mv (.const (.slice none 0 0))), none⟩]
def r66_65 : List AOper := [⟨(some 67), (.faddr 1 (.tmp 1)), none⟩, ⟨(some 68), (.load false 1 (.tmp 67)), none⟩, ⟨(some 69), (.len (.tmp 68)), none⟩, ⟨(some 70), (.mv (.const (.int .i64 0))), none⟩]
def td66_67 : Option Tidy := (some ⟨[1, 9, 68, 69, 70], true, [⟨false, 9, 0, 20009, 5⟩, ⟨false, 68, 0, 20068, 2⟩, ⟨true, 1, 0, 30100, 3⟩, ⟨true, 1, 1, 30101, 2⟩, ⟨true, 1, 3, 30103, 9⟩], []⟩)
def r66_69 : List AOper := [⟨(some 71), (.bin .lss 3 (.tmp 70) (.tmp 69)), none⟩]
def r66_75 : List AOper := [⟨(some 72), (.mv (.tmp 70)), none⟩, ⟨(some 73), (.iaddr 2 none (.tmp 68) (.tmp 70)), none⟩, ⟨(some 74), (.load true 2 (.tmp 73)), none⟩, ⟨(some 11), (.alloc [(.d (.v (.int .i64 0))), (.d (.v (.int .i64 0)))]), none⟩, ⟨(some 10), (.mv (.tmp 72)), none⟩, ⟨none, (.store 2 (.tmp 11) (.tmp 74)), none⟩]
def r66_77 : List AOper := [⟨(some 75), (.faddr 0 (.tmp 1)), none⟩, ⟨(some 76), (.load false 1 (.tmp 75)), none⟩, ⟨(some 77), (.mv (.tmp 10)), none⟩, ⟨(some 78), (.iaddr 3 none (.tmp 76) (.tmp 77)), none⟩, ⟨(some 79), (.load true 3 (.tmp 78)), none⟩, ⟨(some 12), (.alloc [(.d (.v (.int .i64 0))), (.d (.v (.int .i64 0))), (.d (.v (.int .i64 0)))]), none⟩, ⟨none, (.store 3 (.tmp 12) (.tmp 79)), none⟩]
def r66_78 : List AOper := [⟨(some 80), (.mv (.tmp 9)), none⟩, ⟨(some 81), (.faddr 0 (.tmp 12)), none⟩, ⟨(some 82), (.load false 1 (.tmp 81)), none⟩, ⟨(some 83), (.faddr 0 (.tmp 12)), none⟩, ⟨(some 84), (.load false 1 (.tmp 83)), none⟩, ⟨(some 85), (.build [(.d (.v (.int .i64 0))), (.d (.v (.int .i64 0)))] [(0, 1, (.tmp 82)), (1, 1, (.tmp 84))]), none⟩, ⟨(some 86), (.load true 2 (.tmp 11)), none⟩, ⟨(some 87), (.faddr 1 (.tmp 12)), none⟩, ⟨(some 88), (.load false 1 (.tmp 87)), none⟩, ⟨(some 89), (.build [(.d (.v (.int .i64 0))), (.d (.v (.int .i64 0))), (.d (.v (.int .i64 0))), (.d (.v (.int .i64 0))), (.d (.v (.int .i64 0)))] [(0, 2, (.tmp 85)), (2, 2, (.tmp 86)), (4, 1, (.tmp 88))]), none⟩, ⟨(some 90), (.bslice 5 1 [(.v (.int .i64 0)), (.v (.int .i64 0)), (.v (.int .i64 0)), (.v (.int .i64 0)), (.v (.int .i64 0))] [(0, (.tmp 89))]), none⟩, ⟨(some 91), (.append 5 40 (.tmp 80) (.tmp 90)), none⟩, ⟨(some 9), (.mv (.tmp 91)), none⟩]
def r66_79 : List AOper := [⟨(some 92), (.bin .add 3 (.tmp 70) (.const (.int .i64 1))), none⟩, ⟨(some 70), (.mv (.tmp 92)), none⟩]
def r66_81 : List AOper := [⟨(some 94), (.faddr 0 (.tmp 1)), none⟩, ⟨(some 95), (.load false 1 (.tmp 94)), none⟩, ⟨(some 96), (.faddr 1 (.tmp 1)), none⟩, ⟨(some 97), (.load false 1 (.tmp 96)), none⟩, ⟨(some 98), (.len (.tmp 97)), none⟩, ⟨(some 99), (.slice 3 false (.tmp 95) (some (.tmp 98)) none), none⟩, ⟨(some 100), (.faddr 2 (.tmp 1)), none⟩, ⟨(some 101), (.load false 1 (.tmp 100)), none⟩, ⟨(some 102), (.call 118 [(.tmp 99), (.tmp 101)]), none⟩, ⟨(some 93), (.mv (.tmp 102)), none⟩, ⟨(some 103), (.extract 0 (.tmp 93)), none⟩, ⟨(some 104), (.extract 1 (.tmp 93)), none⟩, ⟨(some 13), (.mv (.tmp 103)), none⟩, ⟨(some 14), (.mv (.tmp 104)), none⟩]
def r66_84 : List AOper := [⟨(some 105), (.mv (.tmp 14)), none⟩, ⟨(some 106), (.bin .neq 32 (.tmp 105) (.const (.int .i64 0))), none⟩]
def r66_87 : List AOper := [⟨(some 107), (.mv (.tmp 14)), none⟩, ⟨(some 2), (.mv (.const (.slice none 0 0))), none⟩, ⟨(some 3), (.mv (.tmp 107)), none⟩]
def r66_89 : List AOper := [⟨(some 108), (.mv (.tmp 9)), none⟩, ⟨(some 109), (.mv (.tmp 13)), none⟩, ⟨(some 110), (.append 5 40 (.tmp 108) (.tmp 109)), none⟩, ⟨(some 2), (.mv (.tmp 110)), none⟩, ⟨(some 3), (.mv (.const (.int .i64 0))), none⟩]
def tr66 : List (Nat × Tidy) := [(0, ⟨[1], true, [], []⟩), (1, ⟨[1, 18], true, [], []⟩), (2, ⟨[2, 3], true, [⟨false, 2, 0, 20002, 5⟩], []⟩), (3, ⟨[1, 20, 21, 22], true, [], []⟩), (4, ⟨[1, 20, 21, 22, 23], true, [], []⟩), (5, ⟨[1, 5, 20, 21, 22], true, [], []⟩), (6, ⟨[1, 20, 21, 22, 41], true, [], []⟩), (7, ⟨[2, 3], true, [⟨false, 2, 0, 20002, 5⟩], []⟩), (8, ⟨[1, 20, 21, 22], true, [], []⟩), (9, ⟨[1, 49], true, [], []⟩), (10, ⟨[2, 3], true, [⟨false, 2, 0, 20002, 5⟩], []⟩), (11, ⟨[1, 51, 52, 53], true, [], []⟩), (12, ⟨[1, 51, 52, 53, 54], true, [], []⟩), (13, ⟨[1, 7, 51, 52, 53], true, [], []⟩), (14, ⟨[1, 8, 51, 52, 53], true, [], []⟩), (15, ⟨[1, 8, 51, 52, 53, 60], true, [], []⟩), (16, ⟨[2, 3], true, [⟨false, 2, 0, 20002, 5⟩], []⟩), (17, ⟨[1, 51, 52, 53], true, [], []⟩), (18, ⟨[1, 66], true, [], []⟩), (19, ⟨[2, 3], true, [⟨false, 2, 0, 20002, 5⟩], []⟩), (20, ⟨[1, 9], true, [], []⟩), (21, ⟨[1, 9, 68, 69, 70], true, [], []⟩), (22, ⟨[1, 9, 68, 69, 70, 71], true, [], []⟩), (23, ⟨[1, 9, 10, 11, 68, 69, 70], true, [], []⟩), (24, ⟨[1, 9, 11, 12, 68, 69, 70], true, [], []⟩), (25, ⟨[1, 9, 68, 69, 70], true, [], []⟩), (26, ⟨[1, 9, 68, 69, 70], true, [], []⟩), (27, ⟨[9, 13, 14], true, [], []⟩), (28, ⟨[9, 13, 14, 106], true, [], []⟩), (29, ⟨[2, 3], true, [⟨false, 2, 0, 20002, 5⟩], []⟩), (30, ⟨[2, 3], true, [⟨false, 2, 0, 20002, 5⟩], []⟩)]
def tl66 : List (Nat × Tidy) := [(4, ⟨[1, 20, 21, 22], true, [⟨false, 20, 0, 20020, 3⟩, ⟨true, 1, 0, 30100, 3⟩, ⟨true, 1, 1, 30101, 2⟩, ⟨true, 1, 3, 30103, 9⟩], []⟩), (12, ⟨[1, 51, 52, 53], true, [⟨false, 51, 0, 20051, 2⟩, ⟨true, 1, 0, 30100, 3⟩, ⟨true, 1, 1, 30101, 2⟩, ⟨true, 1, 3, 30103, 9⟩], []⟩), (22, ⟨[1, 9, 68, 69, 70], true, [⟨false, 9, 0, 20009, 5⟩, ⟨false, 68, 0, 20068, 2⟩, ⟨true, 1, 0, 30100, 3⟩, ⟨true, 1, 1, 30101, 2⟩, ⟨true, 1, 3, 30103, 9⟩], []⟩)]
def rs66 : List AResV := [.tmp 2, .tmp 3]
def p66_0_0 : PT St := pS [sl 1 (aV false [(cPtr 1 0)]), sl 20 (aV false [(cD dL)]), sl 21 (aV false [(cD (dI .i64))]), sl 22 (aV false [(cD (dI .i64))])] [eBox 1 [(cD dL), (cD dL), (cD (dI .i64)), (cD dL), (cD (dI .i64)), (cD (dI .i64))]]
def u66_0_0 {β : Type} (g : St → β) : Rows → Int → Int → Rows → Rows → Int → Rows → Int → Int → β := p66_0_0.unc g

def p66_0_1 : PT St := pS [sl 2 (aV false [(cRef 20002)]), sl 3 (aV false [(cD (dI .i64))])] [eOwn 20002 5]
def u66_0_1 {β : Type} (g : St → β) : Int → Rows → β := p66_0_1.unc g

def p66_0_2 : PT St := pS [sl 1 (aV false [(cPtr 1 0)]), sl 20 (aV false [(cD dL)]), sl 21 (aV false [(cD (dI .i64))]), sl 22 (aV false [(cD (dI .i64))]), sl 23 (aV false [(cD dB)])] [eBox 1 [(cD dL), (cD dL), (cD (dI .i64)), (cD dL), (cD (dI .i64)), (cD (dI .i64))]]
def u66_0_2 {β : Type} (g : St → β) : Rows → Int → Int → Bool → Rows → Rows → Int → Rows → Int → Int → β := p66_0_2.unc g

def p66_0_3 : PT St := pS [sl 1 (aV false [(cPtr 1 0)]), sl 51 (aV false [(cD dL)]), sl 52 (aV false [(cD (dI .i64))]), sl 53 (aV false [(cD (dI .i64))])] [eBox 1 [(cD dL), (cD dL), (cD (dI .i64)), (cD dL), (cD (dI .i64)), (cD (dI .i64))]]
def u66_0_3 {β : Type} (g : St → β) : Rows → Int → Int → Rows → Rows → Int → Rows → Int → Int → β := p66_0_3.unc g

def p66_0_4 : PT St := pS [sl 1 (aV false [(cPtr 1 0)]), sl 51 (aV false [(cD dL)]), sl 52 (aV false [(cD (dI .i64))]), sl 53 (aV false [(cD (dI .i64))]), sl 54 (aV false [(cD dB)])] [eBox 1 [(cD dL), (cD dL), (cD (dI .i64)), (cD dL), (cD (dI .i64)), (cD (dI .i64))]]
def u66_0_4 {β : Type} (g : St → β) : Rows → Int → Int → Bool → Rows → Rows → Int → Rows → Int → Int → β := p66_0_4.unc g

def p66_0_5 : PT St := pS [sl 1 (aV false [(cPtr 1 0)]), sl 9 (aV false [(cRef 20009)]), sl 68 (aV false [(cD dL)]), sl 69 (aV false [(cD (dI .i64))]), sl 70 (aV false [(cD (dI .i64))])] [eBox 1 [(cD dL), (cD dL), (cD (dI .i64)), (cD dL), (cD (dI .i64)), (cD (dI .i64))], eOwn 20009 5]
def u66_0_5 {β : Type} (g : St → β) : Rows → Int → Int → Rows → Rows → Int → Rows → Int → Int → Rows → β := p66_0_5.unc g

def p66_0_6 : PT St := pS [sl 1 (aV false [(cPtr 1 0)]), sl 9 (aV false [(cRef 20009)]), sl 68 (aV false [(cD dL)]), sl 69 (aV false [(cD (dI .i64))]), sl 70 (aV false [(cD (dI .i64))]), sl 71 (aV false [(cD dB)])] [eBox 1 [(cD dL), (cD dL), (cD (dI .i64)), (cD dL), (cD (dI .i64)), (cD (dI .i64))], eOwn 20009 5]
def u66_0_6 {β : Type} (g : St → β) : Rows → Int → Int → Bool → Rows → Rows → Int → Rows → Int → Int → Rows → β := p66_0_6.unc g

def pr66_0_0 : PT (List RV) := pRs [pR false [rO 5], pR false [rD (dI .i64)]]
def ur66_0_0 {β : Type} (g : List RV → β) : Rows → Int → β := pr66_0_0.unc g

def E66_0g (vf78_0 : Tf78_0) (vf117_0 : Tf117_0) (vf118_0 : Tf118_0) : EnvK := EnvK.of [⟨78, nt78, [⟨pa78_0, Fn78_0 vf78_0⟩]⟩, ⟨117, nt117, [⟨pa117_0, Fn117_0 vf117_0⟩]⟩, ⟨118, nt118, [⟨pa118_0, Fn118_0 vf118_0⟩]⟩] noSeq
noncomputable def E66_0 : EnvK := E66_0g f78_0 f117_0 f118_0
theorem eo66_0 : E66_0.Ok Try.prog := EnvK.of_ok noSeq_ok ⟨⟨io78_0, trivial⟩, ⟨io117_0, trivial⟩, ⟨io118_0, trivial⟩, trivial⟩

noncomputable def c66_0_67g  : MCode := (.seq (.region r66_69 [] (some ⟨[1, 9, 68, 69, 70, 71], true, [], []⟩)) (.seq (.cond (.tmp 71) .skip (.exit 4)) (.seq (.block 5 (.seq (.region r66_75 [] (some ⟨[1, 9, 10, 11, 68, 69, 70], true, [], []⟩)) (.seq (.region r66_77 [] (some ⟨[1, 9, 11, 12, 68, 69, 70], true, [], []⟩)) (.region r66_78 [] (some ⟨[1, 9, 68, 69, 70], true, [], []⟩))))) (.region r66_79 [] (some ⟨[1, 9, 68, 69, 70], true, [], []⟩)))))
noncomputable def c66_0_67 : MCode := c66_0_67g 
theorem g66_0_67 : c66_0_67.Good Try.prog E66_0 sh66 := ⟨trivial, ⟨⟨trivial, trivial⟩, ⟨⟨trivial, ⟨trivial, trivial⟩⟩, trivial⟩⟩⟩
--CODE 67 0
def S66_0_2g  (α : Type) (x40 : Rows) (x41 : Int) (x43 : Rows) (x42 : Int) (x49 : Rows) (kn : Int → Rows → Option α) (k1 : Int → Bool → Rows → Option α) : Option α :=
  cK (decide (x42 < x41))
    (rowK x40 x42 [.int .i64, .int .i64]
      (fun (x50 : Int) (x51 : Int) => rowK x43 x42 [.int .i64, .int .i64, .int .i64]
        (fun (x52 : Int) (x53 : Int) (x54 : Int) => gK (apOk 5 40 x49 [[DC.v (.int .i64 x52), DC.v (.int .i64 x52), DC.v (.int .i64 x50), DC.v (.int .i64 x51), DC.v (.int .i64 x53)]]) (kn (w64 (x42 + 1)) (x49 ++ [[DC.v (.int .i64 x52), DC.v (.int .i64 x52), DC.v (.int .i64 x50), DC.v (.int .i64 x51), DC.v (.int .i64 x53)]])))))
    (k1 x42 (decide (x42 < x41)) x49)
noncomputable def S66_0_2 (α : Type) (x40 : Rows) (x41 : Int) (x43 : Rows) (x42 : Int) (x49 : Rows) (kn : Int → Rows → Option α) (k1 : Int → Bool → Rows → Option α) : Option α := S66_0_2g  α x40 x41 x43 x42 x49 kn k1
noncomputable def R66_0_2 (α : Type) (x40 : Rows) (x41 : Int) (x43 : Rows) (k1 : Int → Bool → Rows → Option α) : Nat → Int → Rows → Option α
  | 0, _, _ => none
  | n + 1, x42, x49 => S66_0_2 α x40 x41 x43 x42 x49 (R66_0_2 α x40 x41 x43 k1 n) k1
noncomputable def L66_0_2 (α : Type) (x40 : Rows) (x41 : Int) (x43 : Rows) (k1 : Int → Bool → Rows → Option α) (x42 : Int) (x49 : Rows) : Option α := R66_0_2 α x40 x41 x43 k1 fuel x42 x49
abbrev TL66_0_2 : Type 1 := (α : Type) → Rows → Int → Rows → (Int → Bool → Rows → Option α) → Int → Rows → Option α
def F66_0_2 (v : TL66_0_2) (α : Type) (K : Exit → St → Option α) : Rows → Int → Int → Rows → Rows → Int → Rows → Int → Int → Rows → Option α := fun x40 x41 x42 x43 x44 x45 x46 x47 x48 x49 => v α x40 x41 x43 (fun (y1 : Int) (y2 : Bool) (y3 : Rows) => u66_0_6 (K (.exit 4)) x40 x41 y1 y2 x43 x44 x45 x46 x47 x48 y3) x42 x49
theorem r66_0_2g (vf78_0 : Tf78_0) (vf117_0 : Tf117_0) (vf118_0 : Tf118_0)  (α : Type) (K : Exit → St → Option α) (Kn : St → Option α) (x40 : Rows) (x41 : Int) (x42 : Int) (x43 : Rows) (x44 : Rows) (x45 : Int) (x46 : Rows) (x47 : Int) (x48 : Int) (x49 : Rows) : u66_0_5 (fun σ => runM Try.prog (E66_0g vf78_0 vf117_0 vf118_0) sh66 (c66_0_67g ) (thenK (fun σ => tidyK td66_67 σ Kn) K) σ) x40 x41 x42 x43 x44 x45 x46 x47 x48 x49 = S66_0_2g  α x40 x41 x43 x42 x49 (fun x42 x49 => u66_0_5 Kn x40 x41 x42 x43 x44 x45 x46 x47 x48 x49) (fun (y1 : Int) (y2 : Bool) (y3 : Rows) => u66_0_6 (K (.exit 4)) x40 x41 y1 y2 x43 x44 x45 x46 x47 x48 y3) := by kernel_rfl
theorem r66_0_2 (α : Type) (K : Exit → St → Option α) (Kn : St → Option α) (x40 : Rows) (x41 : Int) (x42 : Int) (x43 : Rows) (x44 : Rows) (x45 : Int) (x46 : Rows) (x47 : Int) (x48 : Int) (x49 : Rows) : u66_0_5 (fun σ => runM Try.prog E66_0 sh66 c66_0_67 (thenK (fun σ => tidyK td66_67 σ Kn) K) σ) x40 x41 x42 x43 x44 x45 x46 x47 x48 x49 = S66_0_2 α x40 x41 x43 x42 x49 (fun x42 x49 => u66_0_5 Kn x40 x41 x42 x43 x44 x45 x46 x47 x48 x49) (fun (y1 : Int) (y2 : Bool) (y3 : Rows) => u66_0_6 (K (.exit 4)) x40 x41 y1 y2 x43 x44 x45 x46 x47 x48 y3) := r66_0_2g f78_0 f117_0 f118_0 α K Kn x40 x41 x42 x43 x44 x45 x46 x47 x48 x49
theorem t66_0_2 (α : Type) (K : Exit → St → Option α) : ∀ (n : Nat) (x40 : Rows) (x41 : Int) (x42 : Int) (x43 : Rows) (x44 : Rows) (x45 : Int) (x46 : Rows) (x47 : Int) (x48 : Int) (x49 : Rows), R66_0_2 α x40 x41 x43 (fun (y1 : Int) (y2 : Bool) (y3 : Rows) => u66_0_6 (K (.exit 4)) x40 x41 y1 y2 x43 x44 x45 x46 x47 x48 y3) n x42 x49 = u66_0_5 (loopT (runM Try.prog E66_0 sh66 c66_0_67) td66_67 K n) x40 x41 x42 x43 x44 x45 x46 x47 x48 x49 := by
  intro n
  induction n with
  | zero => intros; rfl
  | succ n ih => intro x40 x41 x42 x43 x44 x45 x46 x47 x48 x49; exact (congrArg (fun kn => S66_0_2 α x40 x41 x43 x42 x49 kn (fun (y1 : Int) (y2 : Bool) (y3 : Rows) => u66_0_6 (K (.exit 4)) x40 x41 y1 y2 x43 x44 x45 x46 x47 x48 y3)) (funext fun x42 => funext fun x49 => ih x40 x41 x42 x43 x44 x45 x46 x47 x48 x49)).trans (r66_0_2 α K (loopT (runM Try.prog E66_0 sh66 c66_0_67) td66_67 K n) x40 x41 x42 x43 x44 x45 x46 x47 x48 x49).symm
theorem m66_0_2 : ∀ (α : Type) (K : Exit → St → Option α), F66_0_2 L66_0_2 α K = p66_0_5.unc fun σ => loopT (runM Try.prog E66_0 sh66 c66_0_67) td66_67 K fuel σ := fun α K => funext fun x40 => funext fun x41 => funext fun x42 => funext fun x43 => funext fun x44 => funext fun x45 => funext fun x46 => funext fun x47 => funext fun x48 => funext fun x49 => t66_0_2 α K fuel x40 x41 x42 x43 x44 x45 x46 x47 x48 x49

noncomputable def c66_0_38g  : MCode := (.seq (.region r66_40 [] (some ⟨[1, 51, 52, 53, 54], true, [], []⟩)) (.seq (.cond (.tmp 54) .skip (.exit 2)) (.seq (.block 3 (.seq (.region r66_46 [] (some ⟨[1, 7, 51, 52, 53], true, [], []⟩)) (.seq (.region r66_48 [] (some ⟨[1, 8, 51, 52, 53], true, [], []⟩)) (.seq (.region r66_50 [] (some ⟨[1, 8, 51, 52, 53, 60], true, [], []⟩)) (.cond (.tmp 60) (.seq (.region r66_53 [] (some ⟨[2, 3], true, [⟨false, 2, 0, 20002, 5⟩], []⟩)) .ret) .skip))))) (.region r66_54 [] (some ⟨[1, 51, 52, 53], true, [], []⟩)))))
noncomputable def c66_0_38 : MCode := c66_0_38g 
theorem g66_0_38 : c66_0_38.Good Try.prog E66_0 sh66 := ⟨trivial, ⟨⟨trivial, trivial⟩, ⟨⟨trivial, ⟨trivial, ⟨trivial, ⟨⟨trivial, trivial⟩, trivial⟩⟩⟩⟩, trivial⟩⟩⟩
--CODE 38 0
def S66_0_1g (vf117_0 : Tf117_0) (α : Type) (x24 : Rows) (x25 : Int) (x26 : Int) (kn : Int → Option α) (k1 : Int → Option α) (k2 : Int → Bool → Option α) : Option α :=
  cK (decide (x26 < x25))
    (rowK x24 x26 [.int .i64, .int .i64]
      (fun (x33 : Int) (x34 : Int) => vf117_0 α x33 x34 0 1000000
        (fun (x35 : Int) => cK (x35 != 0)
          (k1 x35)
          (kn (w64 (x26 + 1))))))
    (k2 x26 (decide (x26 < x25)))
noncomputable def S66_0_1 (α : Type) (x24 : Rows) (x25 : Int) (x26 : Int) (kn : Int → Option α) (k1 : Int → Option α) (k2 : Int → Bool → Option α) : Option α := S66_0_1g f117_0 α x24 x25 x26 kn k1 k2
noncomputable def R66_0_1 (α : Type) (x24 : Rows) (x25 : Int) (k1 : Int → Option α) (k2 : Int → Bool → Option α) : Nat → Int → Option α
  | 0, _ => none
  | n + 1, x26 => S66_0_1 α x24 x25 x26 (R66_0_1 α x24 x25 k1 k2 n) k1 k2
noncomputable def L66_0_1 (α : Type) (x24 : Rows) (x25 : Int) (k1 : Int → Option α) (k2 : Int → Bool → Option α) (x26 : Int) : Option α := R66_0_1 α x24 x25 k1 k2 fuel x26
abbrev TL66_0_1 : Type 1 := (α : Type) → Rows → Int → (Int → Option α) → (Int → Bool → Option α) → Int → Option α
def F66_0_1 (v : TL66_0_1) (α : Type) (K : Exit → St → Option α) : Rows → Int → Int → Rows → Rows → Int → Rows → Int → Int → Option α := fun x24 x25 x26 x27 x28 x29 x30 x31 x32 => v α x24 x25 (fun (y1 : Int) => u66_0_1 (K .ret) y1 []) (fun (y1 : Int) (y2 : Bool) => u66_0_4 (K (.exit 2)) x24 x25 y1 y2 x27 x28 x29 x30 x31 x32) x26
theorem r66_0_1g (vf78_0 : Tf78_0) (vf117_0 : Tf117_0) (vf118_0 : Tf118_0)  (α : Type) (K : Exit → St → Option α) (Kn : St → Option α) (x24 : Rows) (x25 : Int) (x26 : Int) (x27 : Rows) (x28 : Rows) (x29 : Int) (x30 : Rows) (x31 : Int) (x32 : Int) : u66_0_3 (fun σ => runM Try.prog (E66_0g vf78_0 vf117_0 vf118_0) sh66 (c66_0_38g ) (thenK (fun σ => tidyK td66_38 σ Kn) K) σ) x24 x25 x26 x27 x28 x29 x30 x31 x32 = S66_0_1g vf117_0 α x24 x25 x26 (fun x26 => u66_0_3 Kn x24 x25 x26 x27 x28 x29 x30 x31 x32) (fun (y1 : Int) => u66_0_1 (K .ret) y1 []) (fun (y1 : Int) (y2 : Bool) => u66_0_4 (K (.exit 2)) x24 x25 y1 y2 x27 x28 x29 x30 x31 x32) := by kernel_rfl
theorem r66_0_1 (α : Type) (K : Exit → St → Option α) (Kn : St → Option α) (x24 : Rows) (x25 : Int) (x26 : Int) (x27 : Rows) (x28 : Rows) (x29 : Int) (x30 : Rows) (x31 : Int) (x32 : Int) : u66_0_3 (fun σ => runM Try.prog E66_0 sh66 c66_0_38 (thenK (fun σ => tidyK td66_38 σ Kn) K) σ) x24 x25 x26 x27 x28 x29 x30 x31 x32 = S66_0_1 α x24 x25 x26 (fun x26 => u66_0_3 Kn x24 x25 x26 x27 x28 x29 x30 x31 x32) (fun (y1 : Int) => u66_0_1 (K .ret) y1 []) (fun (y1 : Int) (y2 : Bool) => u66_0_4 (K (.exit 2)) x24 x25 y1 y2 x27 x28 x29 x30 x31 x32) := r66_0_1g f78_0 f117_0 f118_0 α K Kn x24 x25 x26 x27 x28 x29 x30 x31 x32
theorem t66_0_1 (α : Type) (K : Exit → St → Option α) : ∀ (n : Nat) (x24 : Rows) (x25 : Int) (x26 : Int) (x27 : Rows) (x28 : Rows) (x29 : Int) (x30 : Rows) (x31 : Int) (x32 : Int), R66_0_1 α x24 x25 (fun (y1 : Int) => u66_0_1 (K .ret) y1 []) (fun (y1 : Int) (y2 : Bool) => u66_0_4 (K (.exit 2)) x24 x25 y1 y2 x27 x28 x29 x30 x31 x32) n x26 = u66_0_3 (loopT (runM Try.prog E66_0 sh66 c66_0_38) td66_38 K n) x24 x25 x26 x27 x28 x29 x30 x31 x32 := by
  intro n
  induction n with
  | zero => intros; rfl
  | succ n ih => intro x24 x25 x26 x27 x28 x29 x30 x31 x32; exact (congrArg (fun kn => S66_0_1 α x24 x25 x26 kn (fun (y1 : Int) => u66_0_1 (K .ret) y1 []) (fun (y1 : Int) (y2 : Bool) => u66_0_4 (K (.exit 2)) x24 x25 y1 y2 x27 x28 x29 x30 x31 x32)) (funext fun x26 => ih x24 x25 x26 x27 x28 x29 x30 x31 x32)).trans (r66_0_1 α K (loopT (runM Try.prog E66_0 sh66 c66_0_38) td66_38 K n) x24 x25 x26 x27 x28 x29 x30 x31 x32).symm
theorem m66_0_1 : ∀ (α : Type) (K : Exit → St → Option α), F66_0_1 L66_0_1 α K = p66_0_3.unc fun σ => loopT (runM Try.prog E66_0 sh66 c66_0_38) td66_38 K fuel σ := fun α K => funext fun x24 => funext fun x25 => funext fun x26 => funext fun x27 => funext fun x28 => funext fun x29 => funext fun x30 => funext fun x31 => funext fun x32 => t66_0_1 α K fuel x24 x25 x26 x27 x28 x29 x30 x31 x32

noncomputable def c66_0_13g  : MCode := (.seq (.region r66_15 [] (some ⟨[1, 20, 21, 22, 23], true, [], []⟩)) (.seq (.cond (.tmp 23) .skip (.exit 0)) (.seq (.block 1 (.seq (.region r66_21 [] (some ⟨[1, 5, 20, 21, 22], true, [], []⟩)) (.seq (.region r66_23 [] (some ⟨[1, 20, 21, 22, 41], true, [], []⟩)) (.cond (.tmp 41) (.seq (.region r66_26 [] (some ⟨[2, 3], true, [⟨false, 2, 0, 20002, 5⟩], []⟩)) .ret) .skip)))) (.region r66_27 [] (some ⟨[1, 20, 21, 22], true, [], []⟩)))))
noncomputable def c66_0_13 : MCode := c66_0_13g 
theorem g66_0_13 : c66_0_13.Good Try.prog E66_0 sh66 := ⟨trivial, ⟨⟨trivial, trivial⟩, ⟨⟨trivial, ⟨trivial, ⟨⟨trivial, trivial⟩, trivial⟩⟩⟩, trivial⟩⟩⟩
--CODE 13 0
def S66_0_0g (vf78_0 : Tf78_0) (α : Type) (x7 : Rows) (x8 : Int) (x9 : Int) (kn : Int → Option α) (k1 : Option α) (k2 : Int → Bool → Option α) : Option α :=
  cK (decide (x9 < x8))
    (rowK x7 x9 [.int .i64, .int .i64, .int .i64]
      (fun (x16 : Int) (x17 : Int) (x18 : Int) => vf78_0 α x16 5000 80000
        (fun (x19 : Bool) => cK (!x19)
          (k1)
          (vf78_0 α x17 0 80000
            (fun (x20 : Bool) => cK (!x20)
              (k1)
              (vf78_0 α x18 0 1000000
                (fun (x21 : Bool) => cK (!x21)
                  (k1)
                  (kn (w64 (x9 + 1))))))))))
    (k2 x9 (decide (x9 < x8)))
noncomputable def S66_0_0 (α : Type) (x7 : Rows) (x8 : Int) (x9 : Int) (kn : Int → Option α) (k1 : Option α) (k2 : Int → Bool → Option α) : Option α := S66_0_0g f78_0 α x7 x8 x9 kn k1 k2
noncomputable def R66_0_0 (α : Type) (x7 : Rows) (x8 : Int) (k1 : Option α) (k2 : Int → Bool → Option α) : Nat → Int → Option α
  | 0, _ => none
  | n + 1, x9 => S66_0_0 α x7 x8 x9 (R66_0_0 α x7 x8 k1 k2 n) k1 k2
noncomputable def L66_0_0 (α : Type) (x7 : Rows) (x8 : Int) (k1 : Option α) (k2 : Int → Bool → Option α) (x9 : Int) : Option α := R66_0_0 α x7 x8 k1 k2 fuel x9
abbrev TL66_0_0 : Type 1 := (α : Type) → Rows → Int → (Option α) → (Int → Bool → Option α) → Int → Option α
def F66_0_0 (v : TL66_0_0) (α : Type) (K : Exit → St → Option α) : Rows → Int → Int → Rows → Rows → Int → Rows → Int → Int → Option α := fun x7 x8 x9 x10 x11 x12 x13 x14 x15 => v α x7 x8 (u66_0_1 (K .ret) 2 []) (fun (y1 : Int) (y2 : Bool) => u66_0_2 (K (.exit 0)) x7 x8 y1 y2 x10 x11 x12 x13 x14 x15) x9
theorem r66_0_0g (vf78_0 : Tf78_0) (vf117_0 : Tf117_0) (vf118_0 : Tf118_0)  (α : Type) (K : Exit → St → Option α) (Kn : St → Option α) (x7 : Rows) (x8 : Int) (x9 : Int) (x10 : Rows) (x11 : Rows) (x12 : Int) (x13 : Rows) (x14 : Int) (x15 : Int) : u66_0_0 (fun σ => runM Try.prog (E66_0g vf78_0 vf117_0 vf118_0) sh66 (c66_0_13g ) (thenK (fun σ => tidyK td66_13 σ Kn) K) σ) x7 x8 x9 x10 x11 x12 x13 x14 x15 = S66_0_0g vf78_0 α x7 x8 x9 (fun x9 => u66_0_0 Kn x7 x8 x9 x10 x11 x12 x13 x14 x15) (u66_0_1 (K .ret) 2 []) (fun (y1 : Int) (y2 : Bool) => u66_0_2 (K (.exit 0)) x7 x8 y1 y2 x10 x11 x12 x13 x14 x15) := by kernel_rfl
theorem r66_0_0 (α : Type) (K : Exit → St → Option α) (Kn : St → Option α) (x7 : Rows) (x8 : Int) (x9 : Int) (x10 : Rows) (x11 : Rows) (x12 : Int) (x13 : Rows) (x14 : Int) (x15 : Int) : u66_0_0 (fun σ => runM Try.prog E66_0 sh66 c66_0_13 (thenK (fun σ => tidyK td66_13 σ Kn) K) σ) x7 x8 x9 x10 x11 x12 x13 x14 x15 = S66_0_0 α x7 x8 x9 (fun x9 => u66_0_0 Kn x7 x8 x9 x10 x11 x12 x13 x14 x15) (u66_0_1 (K .ret) 2 []) (fun (y1 : Int) (y2 : Bool) => u66_0_2 (K (.exit 0)) x7 x8 y1 y2 x10 x11 x12 x13 x14 x15) := r66_0_0g f78_0 f117_0 f118_0 α K Kn x7 x8 x9 x10 x11 x12 x13 x14 x15
theorem t66_0_0 (α : Type) (K : Exit → St → Option α) : ∀ (n : Nat) (x7 : Rows) (x8 : Int) (x9 : Int) (x10 : Rows) (x11 : Rows) (x12 : Int) (x13 : Rows) (x14 : Int) (x15 : Int), R66_0_0 α x7 x8 (u66_0_1 (K .ret) 2 []) (fun (y1 : Int) (y2 : Bool) => u66_0_2 (K (.exit 0)) x7 x8 y1 y2 x10 x11 x12 x13 x14 x15) n x9 = u66_0_0 (loopT (runM Try.prog E66_0 sh66 c66_0_13) td66_13 K n) x7 x8 x9 x10 x11 x12 x13 x14 x15 := by
  intro n
  induction n with
  | zero => intros; rfl
  | succ n ih => intro x7 x8 x9 x10 x11 x12 x13 x14 x15; exact (congrArg (fun kn => S66_0_0 α x7 x8 x9 kn (u66_0_1 (K .ret) 2 []) (fun (y1 : Int) (y2 : Bool) => u66_0_2 (K (.exit 0)) x7 x8 y1 y2 x10 x11 x12 x13 x14 x15)) (funext fun x9 => ih x7 x8 x9 x10 x11 x12 x13 x14 x15)).trans (r66_0_0 α K (loopT (runM Try.prog E66_0 sh66 c66_0_13) td66_13 K n) x7 x8 x9 x10 x11 x12 x13 x14 x15).symm
theorem m66_0_0 : ∀ (α : Type) (K : Exit → St → Option α), F66_0_0 L66_0_0 α K = p66_0_0.unc fun σ => loopT (runM Try.prog E66_0 sh66 c66_0_13) td66_13 K fuel σ := fun α K => funext fun x7 => funext fun x8 => funext fun x9 => funext fun x10 => funext fun x11 => funext fun x12 => funext fun x13 => funext fun x14 => funext fun x15 => t66_0_0 α K fuel x7 x8 x9 x10 x11 x12 x13 x14 x15

/-- etalon/grow.Boxes -/
abbrev Tf66_0 : Type 1 := (α : Type) → Rows → Rows → Int → Rows → Int → Int → (Rows → Int → Option α) → Option α
def f66_0g (vL66_0_0 : TL66_0_0) (vL66_0_1 : TL66_0_1) (vL66_0_2 : TL66_0_2) (vf118_0 : Tf118_0) (vf78_0 : Tf78_0) (α : Type) (x1 : Rows) (x2 : Rows) (x3 : Int) (x4 : Rows) (x5 : Int) (x6 : Int) (k1 : Rows → Int → Option α) : Option α :=
  cK (decide (40 < ((List.length x1 : Nat) : Int)))
    (k1 [] 8)
    (vL66_0_0 α x1 ((List.length x1 : Nat) : Int)
      (k1 [] 2)
      (fun (x22 : Int) (x23 : Bool) => cK (decide (((List.length x1 : Nat) : Int) < ((List.length x2 : Nat) : Int)))
        (k1 [] 12)
        (vL66_0_1 α x2 ((List.length x2 : Nat) : Int)
          (fun (x36 : Int) => k1 [] x36)
          (fun (x37 : Int) (x38 : Bool) => vf78_0 α x3 0 1000
            (fun (x39 : Bool) => cK (!x39)
              (k1 [] 2)
              (vL66_0_2 α x2 ((List.length x2 : Nat) : Int) x1
                (fun (x55 : Int) (x56 : Bool) (x57 : Rows) => gK (decide ((0 : Int) ≤ ((List.length x2 : Nat) : Int) ∧ ((List.length x2 : Nat) : Int) ≤ ((List.length x1 : Nat) : Int) ∧ ((List.length x1 : Nat) : Int) ≤ ((List.length x1 : Nat) : Int) ∧ allLen 3 x1 = true)) (vf118_0 α (List.drop (Int.toNat ((List.length x2 : Nat) : Int)) (List.take (Int.toNat ((List.length x1 : Nat) : Int)) x1)) x3
                  (fun (x58 : Rows) (x59 : Int) => cK (x59 != 0)
                    (k1 [] x59)
                    (gK (apOk 5 40 x57 x58) (k1 (x57 ++ x58) 0))))) 0 []))) 0)) 0)
noncomputable def f66_0 (α : Type) (x1 : Rows) (x2 : Rows) (x3 : Int) (x4 : Rows) (x5 : Int) (x6 : Int) (k1 : Rows → Int → Option α) : Option α := f66_0g L66_0_0 L66_0_1 L66_0_2 f118_0 f78_0 α x1 x2 x3 x4 x5 x6 k1
def pa66_0 : PT (List DV) := pA [pV true [dL, dL, (dI .i64), dL, (dI .i64), (dI .i64)]]
def Fn66_0 (v : Tf66_0) (α : Type) (k : List RV → Option α) : Rows → Rows → Int → Rows → Int → Int → Option α := fun x1 x2 x3 x4 x5 x6 => v α x1 x2 x3 x4 x5 x6 (fun (y1 : Rows) (y2 : Int) => ur66_0_0 k y1 y2)
noncomputable def cm66_0g (vL66_0_0 : TL66_0_0) (vL66_0_1 : TL66_0_1) (vL66_0_2 : TL66_0_2) : MCode := (.seq (.region r66_2 [] (some ⟨[1], true, [], []⟩)) (.seq (.seq (.region r66_5 [] (some ⟨[1, 18], true, [], []⟩)) (.cond (.tmp 18) (.seq (.region r66_8 [] (some ⟨[2, 3], true, [⟨false, 2, 0, 20002, 5⟩], []⟩)) .ret) .skip)) (.seq (.seq (.region r66_11 [] (some ⟨[1, 20, 21, 22], true, [], []⟩)) (.block 0 (.loop td66_13 [⟨p66_0_0, F66_0_0 vL66_0_0⟩] c66_0_13))) (.seq (.seq (.region r66_30 [] (some ⟨[1, 49], true, [], []⟩)) (.cond (.tmp 49) (.seq (.region r66_33 [] (some ⟨[2, 3], true, [⟨false, 2, 0, 20002, 5⟩], []⟩)) .ret) .skip)) (.seq (.seq (.region r66_36 [] (some ⟨[1, 51, 52, 53], true, [], []⟩)) (.block 2 (.loop td66_38 [⟨p66_0_3, F66_0_1 vL66_0_1⟩] c66_0_38))) (.seq (.seq (.region r66_57 [] (some ⟨[1, 66], true, [], []⟩)) (.cond (.tmp 66) (.seq (.region r66_60 [] (some ⟨[2, 3], true, [⟨false, 2, 0, 20002, 5⟩], []⟩)) .ret) .skip)) (.seq (.region r66_62 [] (some ⟨[1, 9], true, [], []⟩)) (.seq (.seq (.region r66_65 [] (some ⟨[1, 9, 68, 69, 70], true, [], []⟩)) (.block 4 (.loop td66_67 [⟨p66_0_5, F66_0_2 vL66_0_2⟩] c66_0_67))) (.seq (.region r66_81 [(5, 7)] (some ⟨[9, 13, 14], true, [], []⟩)) (.seq (.seq (.region r66_84 [] (some ⟨[9, 13, 14, 106], true, [], []⟩)) (.cond (.tmp 106) (.seq (.region r66_87 [] (some ⟨[2, 3], true, [⟨false, 2, 0, 20002, 5⟩], []⟩)) .ret) .skip)) (.seq (.region r66_89 [] (some ⟨[2, 3], true, [⟨false, 2, 0, 20002, 5⟩], []⟩)) .ret)))))))))))
noncomputable def cm66_0 : MCode := cm66_0g L66_0_0 L66_0_1 L66_0_2
theorem gm66_0 : cm66_0.Good Try.prog E66_0 sh66 := ⟨trivial, ⟨⟨trivial, ⟨⟨trivial, trivial⟩, trivial⟩⟩, ⟨⟨trivial, ⟨g66_0_13, m66_0_0, trivial⟩⟩, ⟨⟨trivial, ⟨⟨trivial, trivial⟩, trivial⟩⟩, ⟨⟨trivial, ⟨g66_0_38, m66_0_1, trivial⟩⟩, ⟨⟨trivial, ⟨⟨trivial, trivial⟩, trivial⟩⟩, ⟨trivial, ⟨⟨trivial, ⟨g66_0_67, m66_0_2, trivial⟩⟩, ⟨trivial, ⟨⟨trivial, ⟨⟨trivial, trivial⟩, trivial⟩⟩, ⟨trivial, trivial⟩⟩⟩⟩⟩⟩⟩⟩⟩⟩⟩
theorem fm66_0g (vf78_0 : Tf78_0) (vf117_0 : Tf117_0) (vf118_0 : Tf118_0) (vL66_0_0 : TL66_0_0) (vL66_0_1 : TL66_0_1) (vL66_0_2 : TL66_0_2) (α : Type) (k : List RV → Option α) : Fn66_0 (f66_0g vL66_0_0 vL66_0_1 vL66_0_2 vf118_0 vf78_0) α k = pa66_0.unc fun ds => fnM Try.prog (E66_0g vf78_0 vf117_0 vf118_0) sh66 (cm66_0g vL66_0_0 vL66_0_1 vL66_0_2) rs66 k ds := by kernel_rfl
theorem fm66_0 : ∀ (α : Type) (k : List RV → Option α), Fn66_0 f66_0 α k = pa66_0.unc fun ds => fnM Try.prog E66_0 sh66 cm66_0 rs66 k ds := fm66_0g f78_0 f117_0 f118_0 L66_0_0 L66_0_1 L66_0_2

theorem is66 : FnIs Try.prog 66 nt66 tr66 tl66 cm66_0.erase rs66 := ⟨Try.f66, Try.func66, rfl, by kernel_rfl, by kernel_rfl, by kernel_rfl⟩
theorem io66_0 : InstOk Try.prog 66 nt66 ⟨pa66_0, Fn66_0 f66_0⟩ := inst_ok eo66_0 followsTry is66 ⟨⟨sh66, cm66_0, by kernel_rfl, gm66_0, fm66_0⟩⟩

/-! ### F13 etalon/etalonlaw08.GrowBoxes -/
abbrev nt13 : Nat := 31
def sh13 : List (Nat × List Sh) := [(9, [.sl, .sl, .int .i64, .sl, .int .i64, .int .i64]), (13, [.sl, .sl, .int .i64, .sl, .int .i64, .int .i64]), (19, [.sl, .sl, .int .i64, .sl, .int .i64, .int .i64])]
def r13_2 : List AOper := [⟨(some 1), (.box (.tmp 0)), none⟩, ⟨(some 2), (.mv (.const (.bool false))), none⟩]
def r13_5 : List AOper := [⟨(some 7), (.call 14 []), none⟩, ⟨(some 8), (.pure (oB (.unOp .not 4 (.tmp 7)) 4)), none⟩]
def r13_8 : List AOper := [⟨(some 2), (.mv (.const (.bool false))), none⟩]
def r13_11 : List AOper := [⟨(some 9), (.load true 6 (.tmp 1)), none⟩, ⟨(some 10), (.call 65 [(.tmp 9)]), none⟩, ⟨(some 11), (.pure (oB (.unOp .not 4 (.tmp 10)) 4)), none⟩]
def r13_14 : List AOper := [⟨(some 2), (.mv (.const (.bool true))), none⟩]
def r13_16 : List AOper := [⟨(some 13), (.load true 6 (.tmp 1)), none⟩, ⟨(some 14), (.call 67 [(.tmp 13)]), none⟩, ⟨(some 15), (.call 66 [(.tmp 14)]), none⟩, ⟨(some 12), (.mv (.tmp 15)), none⟩, ⟨(some 16), (.extract 0 (.tmp 12)), none⟩, ⟨(some 17), (.extract 1 (.tmp 12)), none⟩, ⟨(some 3), (.mv (.tmp 16)), none⟩, ⟨(some 4), (.mv (.tmp 17)), none⟩]
def r13_18 : List AOper := [⟨(some 19), (.load true 6 (.tmp 1)), none⟩, ⟨(some 20), (.call 68 [(.tmp 19)]), none⟩, ⟨(some 18), (.mv (.tmp 20)), none⟩, ⟨(some 21), (.extract 0 (.tmp 18)), none⟩, ⟨(some 22), (.extract 1 (.tmp 18)), none⟩, ⟨(some 5), (.mv (.tmp 21)), none⟩, ⟨(some 6), (.mv (.tmp 22)), none⟩]
def r13_20 : List AOper := [⟨(some 23), (.mv (.tmp 4)), none⟩, ⟨(some 24), (.mv (.tmp 6)), none⟩, ⟨(some 25), (.bin .eql 3 (.tmp 23) (.tmp 24)), none⟩, ⟨(some 26), (.mv (.tmp 25)), none⟩, ⟨(some 27), (.mv (.tmp 3)), (some (26, true))⟩, ⟨(some 28), (.mv (.tmp 5)), (some (26, true))⟩, ⟨(some 29), (.call 69 [(.tmp 27), (.tmp 28)]), (some (26, true))⟩, ⟨(some 30), (.pick (.tmp 26) (.tmp 29) (.const (.bool false))), none⟩, ⟨(some 2), (.mv (.tmp 30)), none⟩]
def tr13 : List (Nat × Tidy) := [(0, ⟨[1], true, [], []⟩), (1, ⟨[1, 8], true, [], []⟩), (2, ⟨[2], true, [], []⟩), (3, ⟨[1, 11], true, [], []⟩), (4, ⟨[2], true, [], []⟩), (5, ⟨[1, 3, 4], true, [], []⟩), (6, ⟨[3, 4, 5, 6], true, [], []⟩), (7, ⟨[2], true, [], []⟩)]
def tl13 : List (Nat × Tidy) := []
def rs13 : List AResV := [.tmp 2]
def pr13_0_0 : PT (List RV) := pRs [pR false [rD dB]]
def ur13_0_0 {β : Type} (g : List RV → β) : Bool → β := pr13_0_0.unc g

def E13_0g (vf14_0 : Tf14_0) (vf65_0 : Tf65_0) (vf67_0 : Tf67_0) (vf66_0 : Tf66_0) (vf68_0 : Tf68_0) (vf69_0 : Tf69_0) : EnvK := EnvK.of [⟨14, nt14, [⟨pa14_0, Fn14_0 vf14_0⟩]⟩, ⟨65, nt65, [⟨pa65_0, Fn65_0 vf65_0⟩]⟩, ⟨67, nt67, [⟨pa67_0, Fn67_0 vf67_0⟩]⟩, ⟨66, nt66, [⟨pa66_0, Fn66_0 vf66_0⟩]⟩, ⟨68, nt68, [⟨pa68_0, Fn68_0 vf68_0⟩]⟩, ⟨69, nt69, [⟨pa69_0, Fn69_0 vf69_0⟩]⟩] noSeq
noncomputable def E13_0 : EnvK := E13_0g f14_0 f65_0 f67_0 f66_0 f68_0 f69_0
theorem eo13_0 : E13_0.Ok Try.prog := EnvK.of_ok noSeq_ok ⟨⟨io14_0, trivial⟩, ⟨io65_0, trivial⟩, ⟨io67_0, trivial⟩, ⟨io66_0, trivial⟩, ⟨io68_0, trivial⟩, ⟨io69_0, trivial⟩, trivial⟩

/-- etalon/etalonlaw08.GrowBoxes -/
abbrev Tf13_0 : Type 1 := (α : Type) → Rows → Rows → Int → Rows → Int → Int → (Bool → Option α) → Option α
def f13_0g (vf14_0 : Tf14_0) (vf65_0 : Tf65_0) (vf66_0 : Tf66_0) (vf67_0 : Tf67_0) (vf68_0 : Tf68_0) (vf69_0 : Tf69_0) (α : Type) (x1 : Rows) (x2 : Rows) (x3 : Int) (x4 : Rows) (x5 : Int) (x6 : Int) (k1 : Bool → Option α) : Option α :=
  vf14_0 α 
    (vf65_0 α x1 x2 x3 x4 x5 x6
      (fun (x7 : Bool) => cK (!x7)
        (k1 true)
        (vf67_0 α x1 x2 x3 x4 x5 x6
          (fun (x8 : Rows) (x9 : Rows) (x10 : Int) (x11 : Rows) (x12 : Int) (x13 : Int) => vf66_0 α x8 x9 x10 x11 x12 x13
            (fun (x14 : Rows) (x15 : Int) => flatK [x14]
              (vf68_0 α x1 x2 x3 x4 x5 x6
                (fun (x16 : Rows) (x17 : Int) => cK (x15 == x17)
                  (vf69_0 α x14 x16
                    (fun (x18 : Bool) => k1 x18))
                  (k1 false))))))))
noncomputable def f13_0 (α : Type) (x1 : Rows) (x2 : Rows) (x3 : Int) (x4 : Rows) (x5 : Int) (x6 : Int) (k1 : Bool → Option α) : Option α := f13_0g f14_0 f65_0 f66_0 f67_0 f68_0 f69_0 α x1 x2 x3 x4 x5 x6 k1
def pa13_0 : PT (List DV) := pA [pV true [dL, dL, (dI .i64), dL, (dI .i64), (dI .i64)]]
def Fn13_0 (v : Tf13_0) (α : Type) (k : List RV → Option α) : Rows → Rows → Int → Rows → Int → Int → Option α := fun x1 x2 x3 x4 x5 x6 => v α x1 x2 x3 x4 x5 x6 (fun (y1 : Bool) => ur13_0_0 k y1)
noncomputable def cm13_0g  : MCode := (.seq (.region r13_2 [] (some ⟨[1], true, [], []⟩)) (.seq (.seq (.region r13_5 [] (some ⟨[1, 8], true, [], []⟩)) (.cond (.tmp 8) (.seq (.region r13_8 [] (some ⟨[2], true, [], []⟩)) .ret) .skip)) (.seq (.seq (.region r13_11 [] (some ⟨[1, 11], true, [], []⟩)) (.cond (.tmp 11) (.seq (.region r13_14 [] (some ⟨[2], true, [], []⟩)) .ret) .skip)) (.seq (.region r13_16 [] (some ⟨[1, 3, 4], true, [], []⟩)) (.seq (.region r13_18 [] (some ⟨[3, 4, 5, 6], true, [], []⟩)) (.seq (.region r13_20 [] (some ⟨[2], true, [], []⟩)) .ret))))))
noncomputable def cm13_0 : MCode := cm13_0g 
theorem gm13_0 : cm13_0.Good Try.prog E13_0 sh13 := ⟨trivial, ⟨⟨trivial, ⟨⟨trivial, trivial⟩, trivial⟩⟩, ⟨⟨trivial, ⟨⟨trivial, trivial⟩, trivial⟩⟩, ⟨trivial, ⟨trivial, ⟨trivial, trivial⟩⟩⟩⟩⟩⟩
theorem fm13_0g (vf14_0 : Tf14_0) (vf65_0 : Tf65_0) (vf67_0 : Tf67_0) (vf66_0 : Tf66_0) (vf68_0 : Tf68_0) (vf69_0 : Tf69_0)  (α : Type) (k : List RV → Option α) : Fn13_0 (f13_0g vf14_0 vf65_0 vf66_0 vf67_0 vf68_0 vf69_0) α k = pa13_0.unc fun ds => fnM Try.prog (E13_0g vf14_0 vf65_0 vf67_0 vf66_0 vf68_0 vf69_0) sh13 (cm13_0g ) rs13 k ds := by kernel_rfl
theorem fm13_0 : ∀ (α : Type) (k : List RV → Option α), Fn13_0 f13_0 α k = pa13_0.unc fun ds => fnM Try.prog E13_0 sh13 cm13_0 rs13 k ds := fm13_0g f14_0 f65_0 f67_0 f66_0 f68_0 f69_0

theorem is13 : FnIs Try.prog 13 nt13 tr13 tl13 cm13_0.erase rs13 := ⟨Try.f13, Try.func13, rfl, by kernel_rfl, by kernel_rfl, by kernel_rfl⟩
theorem io13_0 : InstOk Try.prog 13 nt13 ⟨pa13_0, Fn13_0 f13_0⟩ := inst_ok eo13_0 followsTry is13 ⟨⟨sh13, cm13_0, by kernel_rfl, gm13_0, fm13_0⟩⟩


end Go.AM.K
