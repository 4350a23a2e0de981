/- Printed by KGen. -/
import Derived.Test.YtjifpcjmnhnpkaaKTs
namespace Go.AM.K
open Go.Proofs
set_option maxRecDepth 100000
set_option linter.unusedVariables false
abbrev nt96 : Nat := 21
def sh96 : List (Nat × List Sh) := [(12, [.int .i64, .int .i64]), (13, [.int .i64, .int .i64]), (14, [.int .i64, .int .i64])]
def r96_2 : List AOper := [oO 4 (.mv (kI 0))]
def r96_5 : List AOper := [oM 8 1, oO 9 (.len (.tmp 8)), oO 10 (.mv (kI 0))]
def td96_7 : Option Tidy := (some ⟨[0, 8, 9, 10], true, [⟨false, 8, 0, 20008, 2⟩], []⟩)
def r96_9 : List AOper := [oO 11 (.bin .lss 3 (.tmp 10) (.tmp 9))]
def r96_15 : List AOper := [oO 12 (.iaddr 2 none (.tmp 8) (.tmp 10)), oO 13 (.load true 2 (.tmp 12)), oO 6 (.alloc [(cI 0), (cI 0)]), oD (.store 2 (.tmp 6) (.tmp 13))]
def r96_17 : List AOper := [oO 14 (.load true 2 (.tmp 6)), oM 15 0, oO 16 (.call 125 [(.tmp 14), (.tmp 15)]), oM 7 16]
def r96_19 : List AOper := [oM 17 7, oO 18 (.bin .neq 28 (.tmp 17) (kI 0))]
def r96_22 : List AOper := [oM 19 7, oM 4 19]
def r96_23 : List AOper := [oO 20 (.bin .add 3 (.tmp 10) (kI 1)), oM 10 20]
def r96_25 : List AOper := [oO 4 (.mv (kI 0))]
def tr96 : List (Nat × Tidy) := [tT 0 [0, 1], tT 1 [0, 8, 9, 10], tT 2 [0, 8, 9, 10, 11], tT 3 [0, 6, 8, 9, 10], tT 4 [0, 7, 8, 9, 10], tT 5 [0, 7, 8, 9, 10, 18], tT 6 [4], tT 7 [0, 8, 9, 10], tT 8 [4]]
def tl96 : List (Nat × Tidy) := [(2, ⟨[0, 8, 9, 10], true, [⟨false, 8, 0, 20008, 2⟩], []⟩)]
def rs96 : List AResV := [.tmp 4]
def p96_0_0 : PT St := pS [sl 0 (aV false [(cD (dI .i64))]), sl 8 (aV false [(cD dL)]), sl 9 (aV false [(cD (dI .i64))]), sl 10 (aV false [(cD (dI .i64))])] []
def u96_0_0 {β : Type} (g : St → β) : Int → Rows → Int → Int → β := p96_0_0.unc g
def p96_0_1 : PT St := pS [sl 4 (aV false [(cD (dI .i64))])] []
def u96_0_1 {β : Type} (g : St → β) : Int → β := p96_0_1.unc g
def p96_0_2 : PT St := pS [sl 0 (aV false [(cD (dI .i64))]), sl 8 (aV false [(cD dL)]), sl 9 (aV false [(cD (dI .i64))]), sl 10 (aV false [(cD (dI .i64))]), sl 11 (aV false [(cD dB)])] []
def u96_0_2 {β : Type} (g : St → β) : Int → Rows → Int → Int → Bool → β := p96_0_2.unc g
def pr96_0_0 : PT (List RV) := pRs [pR false [rD (dI .i64)]]
def ur96_0_0 {β : Type} (g : List RV → β) : Int → β := pr96_0_0.unc g
def E96_0g (vf125_0 : Tf125_0) : EnvK := EnvK.of [⟨125, nt125, [⟨pa125_0, Fn125_0 vf125_0⟩]⟩] noSeq
noncomputable def E96_0 : EnvK := E96_0g f125_0
theorem eo96_0 : E96_0.Ok Try.prog := EnvK.of_ok noSeq_ok ⟨⟨io125_0, trivial⟩, trivial⟩
noncomputable def c96_0_7g  : MCode := (.seq (.region r96_9 [] (tO [0, 8, 9, 10, 11])) (.seq (.cond (.tmp 11) .skip (.exit 0)) (.seq (.block 1 (.seq (.region r96_15 [] (tO [0, 6, 8, 9, 10])) (.seq (.region r96_17 [] (tO [0, 7, 8, 9, 10])) (.seq (.region r96_19 [] (tO [0, 7, 8, 9, 10, 18])) (.cond (.tmp 18) (.seq (.region r96_22 [] (tO [4])) .ret) .skip))))) (.region r96_23 [] (tO [0, 8, 9, 10])))))
noncomputable def c96_0_7 : MCode := c96_0_7g 
theorem g96_0_7 : c96_0_7.Good Try.prog E96_0 sh96 := ⟨trivial, ⟨⟨trivial, trivial⟩, ⟨⟨trivial, ⟨trivial, ⟨trivial, ⟨⟨trivial, trivial⟩, trivial⟩⟩⟩⟩, trivial⟩⟩⟩
--CODE 7 0
def S96_0_0g (vf125_0 : Tf125_0) (α : Type) (x3 : Int) (x4 : Rows) (x5 x6 : Int) (kn : Int → Option α) (k1 : Int → Option α) (k2 : Int → Bool → Option α) : Option α :=
 cK (decide (x6 < x5))
 (rowK x4 x6 [.int .i64, .int .i64]
 (fun x8 x9 => vf125_0 α x8 x9 x3
 (fun x10 => cK (x10 != 0)
 (k1 x10)
 (kn (w64 (x6 + 1))))))
 (k2 x6 (decide (x6 < x5)))
noncomputable def S96_0_0 (α : Type) (x3 : Int) (x4 : Rows) (x5 x6 : Int) (kn : Int → Option α) (k1 : Int → Option α) (k2 : Int → Bool → Option α) : Option α := S96_0_0g f125_0 α x3 x4 x5 x6 kn k1 k2
noncomputable def R96_0_0 (α : Type) (x3 : Int) (x4 : Rows) (x5 : Int) (k1 : Int → Option α) (k2 : Int → Bool → Option α) : Nat → Int → Option α
 | 0, _ => none
 | n + 1, x6 => S96_0_0 α x3 x4 x5 x6 (R96_0_0 α x3 x4 x5 k1 k2 n) k1 k2
noncomputable def L96_0_0 (α : Type) (x3 : Int) (x4 : Rows) (x5 : Int) (k1 : Int → Option α) (k2 : Int → Bool → Option α) (x6 : Int) : Option α := R96_0_0 α x3 x4 x5 k1 k2 fuel x6
abbrev TL96_0_0 : Type 1 := (α : Type) → Int → Rows → Int → (Int → Option α) → (Int → Bool → Option α) → Int → Option α
def F96_0_0 (v : TL96_0_0) (α : Type) (K : Exit → St → Option α) : Int → Rows → Int → Int → Option α := fun x3 x4 x5 x6 => v α x3 x4 x5 (fun (y1 : Int) => u96_0_1 (K .ret) y1) (fun (y1 : Int) (y2 : Bool) => u96_0_2 (K (.exit 0)) x3 x4 x5 y1 y2) x6
theorem r96_0_0g (vf125_0 : Tf125_0)  (α : Type) (K : Exit → St → Option α) (Kn : St → Option α) (x3 : Int) (x4 : Rows) (x5 x6 : Int) : u96_0_0 (fun σ => runM Try.prog (E96_0g vf125_0) sh96 (c96_0_7g ) (thenK (fun σ => tidyK td96_7 σ Kn) K) σ) x3 x4 x5 x6 = S96_0_0g vf125_0 α x3 x4 x5 x6 (fun x6 => u96_0_0 Kn x3 x4 x5 x6) (fun (y1 : Int) => u96_0_1 (K .ret) y1) (fun (y1 : Int) (y2 : Bool) => u96_0_2 (K (.exit 0)) x3 x4 x5 y1 y2) := by kernel_rfl
theorem r96_0_0 (α : Type) (K : Exit → St → Option α) (Kn : St → Option α) (x3 : Int) (x4 : Rows) (x5 x6 : Int) : u96_0_0 (fun σ => runM Try.prog E96_0 sh96 c96_0_7 (thenK (fun σ => tidyK td96_7 σ Kn) K) σ) x3 x4 x5 x6 = S96_0_0 α x3 x4 x5 x6 (fun x6 => u96_0_0 Kn x3 x4 x5 x6) (fun (y1 : Int) => u96_0_1 (K .ret) y1) (fun (y1 : Int) (y2 : Bool) => u96_0_2 (K (.exit 0)) x3 x4 x5 y1 y2) := r96_0_0g f125_0 α K Kn x3 x4 x5 x6
theorem t96_0_0 (α : Type) (K : Exit → St → Option α) : ∀ (n : Nat) (x3 : Int) (x4 : Rows) (x5 x6 : Int), R96_0_0 α x3 x4 x5 (fun (y1 : Int) => u96_0_1 (K .ret) y1) (fun (y1 : Int) (y2 : Bool) => u96_0_2 (K (.exit 0)) x3 x4 x5 y1 y2) n x6 = u96_0_0 (loopT (runM Try.prog E96_0 sh96 c96_0_7) td96_7 K n) x3 x4 x5 x6 := by
 intro n
 induction n with
 | zero => intros; rfl
 | succ n ih => intro x3 x4 x5 x6; exact (congrArg (fun kn => S96_0_0 α x3 x4 x5 x6 kn (fun (y1 : Int) => u96_0_1 (K .ret) y1) (fun (y1 : Int) (y2 : Bool) => u96_0_2 (K (.exit 0)) x3 x4 x5 y1 y2)) (funext fun x6 => ih x3 x4 x5 x6)).trans (r96_0_0 α K (loopT (runM Try.prog E96_0 sh96 c96_0_7) td96_7 K n) x3 x4 x5 x6).symm
theorem m96_0_0 : ∀ (α : Type) (K : Exit → St → Option α), F96_0_0 L96_0_0 α K = p96_0_0.unc fun σ => loopT (runM Try.prog E96_0 sh96 c96_0_7) td96_7 K fuel σ := fun α K => funext fun x3 => funext fun x4 => funext fun x5 => funext fun x6 => t96_0_0 α K fuel x3 x4 x5 x6
abbrev Tf96_0 : Type 1 := (α : Type) → Int → Rows → (Int → Option α) → Option α
def f96_0g (vL96_0_0 : TL96_0_0) (α : Type) (x1 : Int) (x2 : Rows) (k1 : Int → Option α) : Option α :=
 vL96_0_0 α x1 x2 ((List.length x2 : Nat) : Int)
 (fun x11 => k1 x11)
 (fun x12 x13 => k1 0) 0
noncomputable def f96_0 (α : Type) (x1 : Int) (x2 : Rows) (k1 : Int → Option α) : Option α := f96_0g L96_0_0 α x1 x2 k1
def pa96_0 : PT (List DV) := pA [pV false [(dI .i64)], pV false [dL]]
def Fn96_0 (v : Tf96_0) (α : Type) (k : List RV → Option α) : Int → Rows → Option α := fun x1 x2 => v α x1 x2 (fun (y1 : Int) => ur96_0_0 k y1)
noncomputable def cm96_0g (vL96_0_0 : TL96_0_0) : MCode := (.seq (.region r96_2 [] (tO [0, 1])) (.seq (.seq (.region r96_5 [] (tO [0, 8, 9, 10])) (.block 0 (.loop td96_7 [⟨p96_0_0, F96_0_0 vL96_0_0⟩] c96_0_7))) (.seq (.region r96_25 [] (tO [4])) .ret)))
noncomputable def cm96_0 : MCode := cm96_0g L96_0_0
theorem gm96_0 : cm96_0.Good Try.prog E96_0 sh96 := ⟨trivial, ⟨⟨trivial, ⟨g96_0_7, m96_0_0, trivial⟩⟩, ⟨trivial, trivial⟩⟩⟩
theorem fm96_0g (vf125_0 : Tf125_0) (vL96_0_0 : TL96_0_0) (α : Type) (k : List RV → Option α) : Fn96_0 (f96_0g vL96_0_0) α k = pa96_0.unc fun ds => fnM Try.prog (E96_0g vf125_0) sh96 (cm96_0g vL96_0_0) rs96 k ds := by kernel_rfl
theorem fm96_0 : ∀ (α : Type) (k : List RV → Option α), Fn96_0 f96_0 α k = pa96_0.unc fun ds => fnM Try.prog E96_0 sh96 cm96_0 rs96 k ds := fm96_0g f125_0 L96_0_0
theorem is96 : FnIs Try.prog 96 nt96 tr96 tl96 cm96_0.erase rs96 := ⟨Try.f96, Try.func96, rfl, by kernel_rfl, by kernel_rfl, by kernel_rfl⟩
theorem io96_0 : InstOk Try.prog 96 nt96 ⟨pa96_0, Fn96_0 f96_0⟩ := inst_ok eo96_0 followsTry is96 ⟨⟨sh96, cm96_0, by kernel_rfl, gm96_0, fm96_0⟩⟩
abbrev nt60 : Nat := 11
def sh60 : List (Nat × List Sh) := [(4, [.int .i64, .int .i64]), (6, [.int .i64, .int .i64]), (8, [.int .i64, .int .i64])]
def r60_2 : List AOper := [oO 1 (.box (.tmp 0)), oO 2 (.mv (kI 0))]
def r60_4 : List AOper := [oO 3 (.faddr 0 (.tmp 1)), oO 4 (.load true 2 (.tmp 3)), oO 5 (.faddr 2 (.tmp 1)), oO 6 (.load true 2 (.tmp 5)), oO 7 (.faddr 4 (.tmp 1)), oO 8 (.load true 2 (.tmp 7)), oO 9 (.bslice 2 3 [(.v (.int .i64 0)), (.v (.int .i64 0))] [(0, (.tmp 4)), (1, (.tmp 6)), (2, (.tmp 8))]), oO 10 (.call 96 [(kI 10000000), (.tmp 9)]), oM 2 10]
def tr60 : List (Nat × Tidy) := [tT 0 [1], tT 1 [2]]
def tl60 : List (Nat × Tidy) := []
def rs60 : List AResV := [.tmp 2]
def pr60_0_0 : PT (List RV) := pRs [pR false [rD (dI .i64)]]
def ur60_0_0 {β : Type} (g : List RV → β) : Int → β := pr60_0_0.unc g
def E60_0g (vf96_0 : Tf96_0) : EnvK := EnvK.of [⟨96, nt96, [⟨pa96_0, Fn96_0 vf96_0⟩]⟩] noSeq
noncomputable def E60_0 : EnvK := E60_0g f96_0
theorem eo60_0 : E60_0.Ok Try.prog := EnvK.of_ok noSeq_ok ⟨⟨io96_0, trivial⟩, trivial⟩
abbrev Tf60_0 : Type 1 := (α : Type) → Int → Int → Int → Int → Int → Int → (Int → Option α) → Option α
def f60_0g (vf96_0 : Tf96_0) (α : Type) (x1 x2 x3 x4 x5 x6 : Int) (k1 : Int → Option α) : Option α :=
 vf96_0 α 10000000 [[DC.v (.int .i64 x1), DC.v (.int .i64 x2)], [DC.v (.int .i64 x3), DC.v (.int .i64 x4)], [DC.v (.int .i64 x5), DC.v (.int .i64 x6)]]
 (fun x7 => k1 x7)
noncomputable def f60_0 (α : Type) (x1 x2 x3 x4 x5 x6 : Int) (k1 : Int → Option α) : Option α := f60_0g f96_0 α x1 x2 x3 x4 x5 x6 k1
def pa60_0 : PT (List DV) := pA [pV true [(dI .i64), (dI .i64), (dI .i64), (dI .i64), (dI .i64), (dI .i64)]]
def Fn60_0 (v : Tf60_0) (α : Type) (k : List RV → Option α) : Int → Int → Int → Int → Int → Int → Option α := fun x1 x2 x3 x4 x5 x6 => v α x1 x2 x3 x4 x5 x6 (fun (y1 : Int) => ur60_0_0 k y1)
noncomputable def cm60_0g  : MCode := (.seq (.region r60_2 [] (tO [1])) (.seq (.region r60_4 [] (tO [2])) .ret))
noncomputable def cm60_0 : MCode := cm60_0g 
theorem gm60_0 : cm60_0.Good Try.prog E60_0 sh60 := ⟨trivial, ⟨trivial, trivial⟩⟩
theorem fm60_0g (vf96_0 : Tf96_0)  (α : Type) (k : List RV → Option α) : Fn60_0 (f60_0g vf96_0) α k = pa60_0.unc fun ds => fnM Try.prog (E60_0g vf96_0) sh60 (cm60_0g ) rs60 k ds := by kernel_rfl
theorem fm60_0 : ∀ (α : Type) (k : List RV → Option α), Fn60_0 f60_0 α k = pa60_0.unc fun ds => fnM Try.prog E60_0 sh60 cm60_0 rs60 k ds := fm60_0g f96_0
theorem is60 : FnIs Try.prog 60 nt60 tr60 tl60 cm60_0.erase rs60 := ⟨Try.f60, Try.func60, rfl, by kernel_rfl, by kernel_rfl, by kernel_rfl⟩
theorem io60_0 : InstOk Try.prog 60 nt60 ⟨pa60_0, Fn60_0 f60_0⟩ := inst_ok eo60_0 followsTry is60 ⟨⟨sh60, cm60_0, by kernel_rfl, gm60_0, fm60_0⟩⟩
abbrev nt28 : Nat := 22
def sh28 : List (Nat × List Sh) := [(5, [.str]), (7, [.int .i64]), (9, [.int .i64, .int .i64]), (15, [.int .i64, .int .i64]), (17, [.int .i64, .int .i64]), (19, [.int .i64, .int .i64])]
def r28_2 : List AOper := [oO 1 (.box (.tmp 0)), oO 2 (.mv (kI 0))]
def r28_5 : List AOper := [oO 4 (.faddr 0 (.tmp 1)), oO 5 (.load false 1 (.tmp 4)), oO 6 (.faddr 1 (.tmp 1)), oO 7 (.load false 1 (.tmp 6)), oO 8 (.faddr 2 (.tmp 1)), oO 9 (.load true 2 (.tmp 8)), oO 10 (.call 83 [(.tmp 5), (.tmp 7), (.tmp 9)]), oM 3 10]
def r28_7 : List AOper := [oM 11 3, oO 12 (.bin .neq 28 (.tmp 11) (kI 0))]
def r28_10 : List AOper := [oM 13 3, oM 2 13]
def r28_12 : List AOper := [oO 14 (.faddr 4 (.tmp 1)), oO 15 (.load true 2 (.tmp 14)), oO 16 (.faddr 6 (.tmp 1)), oO 17 (.load true 2 (.tmp 16)), oO 18 (.faddr 8 (.tmp 1)), oO 19 (.load true 2 (.tmp 18)), oO 20 (.bslice 2 3 [(.v (.int .i64 0)), (.v (.int .i64 0))] [(0, (.tmp 15)), (1, (.tmp 17)), (2, (.tmp 19))]), oO 21 (.call 96 [(kI 1048576), (.tmp 20)]), oM 2 21]
def tr28 : List (Nat × Tidy) := [tT 0 [1], tT 1 [1, 3], tT 2 [1, 3, 12], tT 3 [2], tT 4 [2]]
def tl28 : List (Nat × Tidy) := []
def rs28 : List AResV := [.tmp 2]
def pr28_0_0 : PT (List RV) := pRs [pR false [rD (dI .i64)]]
def ur28_0_0 {β : Type} (g : List RV → β) : Int → β := pr28_0_0.unc g
def E28_0g (vf83_0 : Tf83_0) (vf96_0 : Tf96_0) : EnvK := EnvK.of [⟨83, nt83, [⟨pa83_0, Fn83_0 vf83_0⟩]⟩, ⟨96, nt96, [⟨pa96_0, Fn96_0 vf96_0⟩]⟩] noSeq
noncomputable def E28_0 : EnvK := E28_0g f83_0 f96_0
theorem eo28_0 : E28_0.Ok Try.prog := EnvK.of_ok noSeq_ok ⟨⟨io83_0, trivial⟩, ⟨io96_0, trivial⟩, trivial⟩
abbrev Tf28_0 : Type 1 := (α : Type) → ByteArray → Int → Int → Int → Int → Int → Int → Int → Int → Int → (Int → Option α) → Option α
def f28_0g (vf83_0 : Tf83_0) (vf96_0 : Tf96_0) (α : Type) (x1 : ByteArray) (x2 x3 x4 x5 x6 x7 x8 x9 x10 : Int) (k1 : Int → Option α) : Option α :=
 vf83_0 α x1 x2 x3 x4
 (fun x11 => cK (x11 != 0)
 (k1 x11)
 (vf96_0 α 1048576 [[DC.v (.int .i64 x5), DC.v (.int .i64 x6)], [DC.v (.int .i64 x7), DC.v (.int .i64 x8)], [DC.v (.int .i64 x9), DC.v (.int .i64 x10)]]
 (fun x12 => k1 x12)))
noncomputable def f28_0 (α : Type) (x1 : ByteArray) (x2 x3 x4 x5 x6 x7 x8 x9 x10 : Int) (k1 : Int → Option α) : Option α := f28_0g f83_0 f96_0 α x1 x2 x3 x4 x5 x6 x7 x8 x9 x10 k1
def pa28_0 : PT (List DV) := pA [pV true [dS, (dI .i64), (dI .i64), (dI .i64), (dI .i64), (dI .i64), (dI .i64), (dI .i64), (dI .i64), (dI .i64)]]
def Fn28_0 (v : Tf28_0) (α : Type) (k : List RV → Option α) : ByteArray → Int → Int → Int → Int → Int → Int → Int → Int → Int → Option α := fun x1 x2 x3 x4 x5 x6 x7 x8 x9 x10 => v α x1 x2 x3 x4 x5 x6 x7 x8 x9 x10 (fun (y1 : Int) => ur28_0_0 k y1)
noncomputable def cm28_0g  : MCode := (.seq (.region r28_2 [] (tO [1])) (.seq (.seq (.region r28_5 [] (tO [1, 3])) (.seq (.region r28_7 [] (tO [1, 3, 12])) (.cond (.tmp 12) (.seq (.region r28_10 [] (tO [2])) .ret) .skip))) (.seq (.region r28_12 [] (tO [2])) .ret)))
noncomputable def cm28_0 : MCode := cm28_0g 
theorem gm28_0 : cm28_0.Good Try.prog E28_0 sh28 := ⟨trivial, ⟨⟨trivial, ⟨trivial, ⟨⟨trivial, trivial⟩, trivial⟩⟩⟩, ⟨trivial, trivial⟩⟩⟩
theorem fm28_0g (vf83_0 : Tf83_0) (vf96_0 : Tf96_0)  (α : Type) (k : List RV → Option α) : Fn28_0 (f28_0g vf83_0 vf96_0) α k = pa28_0.unc fun ds => fnM Try.prog (E28_0g vf83_0 vf96_0) sh28 (cm28_0g ) rs28 k ds := by kernel_rfl
theorem fm28_0 : ∀ (α : Type) (k : List RV → Option α), Fn28_0 f28_0 α k = pa28_0.unc fun ds => fnM Try.prog E28_0 sh28 cm28_0 rs28 k ds := fm28_0g f83_0 f96_0
theorem is28 : FnIs Try.prog 28 nt28 tr28 tl28 cm28_0.erase rs28 := ⟨Try.f28, Try.func28, rfl, by kernel_rfl, by kernel_rfl, by kernel_rfl⟩
theorem io28_0 : InstOk Try.prog 28 nt28 ⟨pa28_0, Fn28_0 f28_0⟩ := inst_ok eo28_0 followsTry is28 ⟨⟨sh28, cm28_0, by kernel_rfl, gm28_0, fm28_0⟩⟩
abbrev nt23 : Nat := 74
def sh23 : List (Nat × List Sh) := [(11, [.int .i64, .int .i64, .int .i64, .int .i64, .int .i64, .int .i64]), (19, [.int .i64]), (23, [.int .i64, .int .i64]), (25, [.int .i64, .int .i64]), (33, [.int .i64]), (36, [.int .i64]), (38, [.int .i64]), (42, [.int .i64]), (44, [.int .i64]), (48, [.int .i64]), (52, [.int .i64]), (58, [.int .i64]), (73, [.int .i64, .int .i64, .int .i64, .int .i64])]
def r23_2 : List AOper := [oO 1 (.box (.tmp 0)), oO 2 (.alloc [(cI 0), (cI 0), (cI 0), (cI 0)]), oO 3 (.mv (kI 0))]
def r23_5 : List AOper := [oO 11 (.load true 6 (.tmp 1)), oO 12 (.call 60 [(.tmp 11)]), oM 4 12]
def r23_7 : List AOper := [oM 13 4, oO 14 (.bin .neq 28 (.tmp 13) (kI 0))]
def r23_10 : List AOper := [oO 15 (.build [(cI 0), (cI 0), (cI 0), (cI 0)] []), oM 16 4, oD (.store 4 (.tmp 2) (.tmp 15)), oM 3 16]
def r23_13 : List AOper := [oO 17 (.faddr 0 (.tmp 1)), oO 18 (.faddr 0 (.tmp 17)), oO 19 (.load false 1 (.tmp 18)), oO 20 (.bin .leq 3 (.tmp 19) (kI 0))]
def r23_16 : List AOper := [oO 21 (.build [(cI 0), (cI 0), (cI 0), (cI 0)] []), oD (.store 4 (.tmp 2) (.tmp 21)), oO 3 (.mv (kI 9))]
def r23_18 : List AOper := [oO 5 (.alloc [(cI 0), (cI 0), (cI 0), (cI 0)])]
def r23_21 : List AOper := [oO 22 (.faddr 2 (.tmp 1)), oO 23 (.load true 2 (.tmp 22)), oO 24 (.faddr 4 (.tmp 1)), oO 25 (.load true 2 (.tmp 24)), oO 26 (.build [(cI 0), (cI 0), (cI 0), (cI 0)] [(0, 2, (.tmp 23)), (2, 2, (.tmp 25))]), oO 27 (.mv (kI 0))]
def td23_23 : Option Tidy := (tO [1, 2, 5, 26, 27])
def r23_25 : List AOper := [oO 28 (.bin .lss 3 (.tmp 27) (kI 2))]
def r23_31 : List AOper := [oM 29 27, oO 30 (.index true 2 2 (.tmp 26) (.tmp 27)), oO 7 (.alloc [(cI 0), (cI 0)]), oM 6 29, oD (.store 2 (.tmp 7) (.tmp 30))]
def r23_33 : List AOper := [oO 31 (.faddr 0 (.tmp 1)), oO 32 (.faddr 1 (.tmp 31)), oO 33 (.load false 1 (.tmp 32)), oO 34 (.faddr 0 (.tmp 1)), oO 35 (.faddr 0 (.tmp 34)), oO 36 (.load false 1 (.tmp 35)), oM 8 33, oM 9 36]
def r23_36 : List AOper := [oO 37 (.faddr 0 (.tmp 7)), oO 38 (.load false 1 (.tmp 37)), oO 39 (.bin .lss 3 (.tmp 38) (kI 0))]
def r23_38 : List AOper := [oO 40 (.faddr 0 (.tmp 1)), oO 41 (.faddr 0 (.tmp 40)), oO 42 (.load false 1 (.tmp 41)), oM 8 42]
def r23_41 : List AOper := [oO 43 (.faddr 1 (.tmp 7)), oO 44 (.load false 1 (.tmp 43)), oO 45 (.bin .lss 3 (.tmp 44) (kI 0))]
def r23_43 : List AOper := [oO 46 (.faddr 0 (.tmp 1)), oO 47 (.faddr 1 (.tmp 46)), oO 48 (.load false 1 (.tmp 47)), oM 9 48]
def r23_45 : List AOper := [oO 10 (.mv (kI 0))]
def r23_47 : List AOper := [oM 50 6, oO 51 (.faddr 0 (.tmp 7)), oO 52 (.load false 1 (.tmp 51)), oO 53 (.bin .mul 3 (kI 2) (.tmp 52)), oO 54 (.bin .mul 3 (.tmp 53) (kI 1048576)), oM 55 8, oO 56 (.call 78 [(.tmp 54), (.tmp 55)]), oO 57 (.faddr 1 (.tmp 7)), oO 58 (.load false 1 (.tmp 57)), oO 59 (.bin .mul 3 (kI 2) (.tmp 58)), oO 60 (.bin .mul 3 (.tmp 59) (kI 1048576)), oM 61 9, oO 62 (.call 79 [(.tmp 60), (.tmp 61)]), oO 63 (.build [(cI 0), (cI 0)] [(0, 1, (.tmp 56)), (1, 1, (.tmp 62))]), oO 64 (.call 77 [(.tmp 63)]), oM 49 64, oO 65 (.extract 0 (.tmp 49)), oO 66 (.extract 1 (.tmp 49)), oO 67 (.iaddr 2 (some 2) (.tmp 5) (.tmp 50)), oD (.store 2 (.tmp 67) (.tmp 65)), oM 10 66]
def r23_49 : List AOper := [oM 68 10, oO 69 (.bin .neq 28 (.tmp 68) (kI 0))]
def r23_52 : List AOper := [oO 70 (.build [(cI 0), (cI 0), (cI 0), (cI 0)] []), oM 71 10, oD (.store 4 (.tmp 2) (.tmp 70)), oM 3 71]
def r23_53 : List AOper := [oO 72 (.bin .add 3 (.tmp 27) (kI 1)), oM 27 72]
def r23_55 : List AOper := [oO 73 (.load true 4 (.tmp 5)), oD (.store 4 (.tmp 2) (.tmp 73)), oO 3 (.mv (kI 0))]
def tr23 : List (Nat × Tidy) := [tT 0 [1, 2], tT 1 [1, 2, 4], tT 2 [1, 2, 4, 14], tT 3 [2, 3], tT 4 [1, 2, 20], tT 5 [2, 3], tT 6 [1, 2, 5], tT 7 [1, 2, 5, 26, 27], tT 8 [1, 2, 5, 26, 27, 28], tT 9 [1, 2, 5, 6, 7, 26, 27], tT 10 [1, 2, 5, 6, 7, 8, 9, 26, 27], tT 11 [1, 2, 5, 6, 7, 8, 9, 26, 27, 39], tT 12 [1, 2, 5, 6, 7, 8, 9, 26, 27], tT 13 [1, 2, 5, 6, 7, 8, 9, 26, 27, 45], tT 14 [1, 2, 5, 6, 7, 8, 9, 26, 27], tT 15 [1, 2, 5, 6, 7, 8, 9, 26, 27], tT 16 [1, 2, 5, 10, 26, 27], tT 17 [1, 2, 5, 10, 26, 27, 69], tT 18 [2, 3], tT 19 [1, 2, 5, 26, 27], tT 20 [2, 3]]
def tl23 : List (Nat × Tidy) := [tT 8 [1, 2, 5, 26, 27]]
def rs23 : List AResV := [.cell 2 true 4, .tmp 3]
def p23_0_0 : PT St := pS [sl 1 (aV false [(cPtr 1 0)]), sl 2 (aV false [(cPtr 2 0)]), sl 5 (aV false [(cPtr 5 0)]), sl 26 (aV true [(cD (dI .i64)), (cD (dI .i64)), (cD (dI .i64)), (cD (dI .i64))]), sl 27 (aV false [(cD (dI .i64))]), sl 28 (aV false [(cD dB)])] [eBox 1 [(cD (dI .i64)), (cD (dI .i64)), (cD (dI .i64)), (cD (dI .i64)), (cD (dI .i64)), (cD (dI .i64))], eBox 2 [(cD (dI .i64)), (cD (dI .i64)), (cD (dI .i64)), (cD (dI .i64))], eBox 5 [(cD (dI .i64)), (cD (dI .i64)), (cD (dI .i64)), (cD (dI .i64))]]
def u23_0_0 {β : Type} (g : St → β) : Int → Int → Int → Int → Int → Bool → Int → Int → Int → Int → Int → Int → Int → Int → Int → Int → Int → Int → Int → Int → β := p23_0_0.unc g
def p23_0_1 : PT St := pS [sl 1 (aV false [(cPtr 1 0)]), sl 2 (aV false [(cPtr 2 0)]), sl 5 (aV false [(cPtr 5 0)]), sl 6 (aV false [(cD (dI .i64))]), sl 7 (aV false [(cPtr 7 0)]), sl 26 (aV true [(cD (dI .i64)), (cD (dI .i64)), (cD (dI .i64)), (cD (dI .i64))]), sl 27 (aV false [(cD (dI .i64))])] [eBox 1 [(cD (dI .i64)), (cD (dI .i64)), (cD (dI .i64)), (cD (dI .i64)), (cD (dI .i64)), (cD (dI .i64))], eBox 2 [(cD (dI .i64)), (cD (dI .i64)), (cD (dI .i64)), (cD (dI .i64))], eBox 5 [(cD (dI .i64)), (cD (dI .i64)), (cD (dI .i64)), (cD (dI .i64))], eBox 7 [(cD (dI .i64)), (cD (dI .i64))]]
def u23_0_1 {β : Type} (g : St → β) : Int → Int → Int → Int → Int → Int → Int → Int → Int → Int → Int → Int → Int → Int → Int → Int → Int → Int → Int → Int → Int → Int → β := p23_0_1.unc g
def p23_0_2 : PT St := pS [sl 1 (aV false [(cPtr 1 0)]), sl 2 (aV false [(cPtr 2 0)]), sl 5 (aV false [(cPtr 5 0)]), sl 6 (aV false [(cD (dI .i64))]), sl 7 (aV false [(cPtr 7 0)]), sl 8 (aV false [(cD (dI .i64))]), sl 9 (aV false [(cD (dI .i64))]), sl 26 (aV true [(cD (dI .i64)), (cD (dI .i64)), (cD (dI .i64)), (cD (dI .i64))]), sl 27 (aV false [(cD (dI .i64))])] [eBox 1 [(cD (dI .i64)), (cD (dI .i64)), (cD (dI .i64)), (cD (dI .i64)), (cD (dI .i64)), (cD (dI .i64))], eBox 2 [(cD (dI .i64)), (cD (dI .i64)), (cD (dI .i64)), (cD (dI .i64))], eBox 5 [(cD (dI .i64)), (cD (dI .i64)), (cD (dI .i64)), (cD (dI .i64))], eBox 7 [(cD (dI .i64)), (cD (dI .i64))]]
def u23_0_2 {β : Type} (g : St → β) : Int → Int → Int → Int → Int → Int → Int → Int → Int → Int → Int → Int → Int → Int → Int → Int → Int → Int → Int → Int → Int → Int → Int → Int → β := p23_0_2.unc g
def p23_0_3 : PT St := pS [sl 1 (aV false [(cPtr 1 0)]), sl 2 (aV false [(cPtr 2 0)]), sl 5 (aV false [(cPtr 5 0)]), sl 6 (aV false [(cD (dI .i64))]), sl 7 (aV false [(cPtr 7 0)]), sl 8 (aV false [(cD (dI .i64))]), sl 9 (aV false [(cD (dI .i64))]), sl 26 (aV true [(cD (dI .i64)), (cD (dI .i64)), (cD (dI .i64)), (cD (dI .i64))]), sl 27 (aV false [(cD (dI .i64))]), sl 39 (aV false [(cD dB)])] [eBox 1 [(cD (dI .i64)), (cD (dI .i64)), (cD (dI .i64)), (cD (dI .i64)), (cD (dI .i64)), (cD (dI .i64))], eBox 2 [(cD (dI .i64)), (cD (dI .i64)), (cD (dI .i64)), (cD (dI .i64))], eBox 5 [(cD (dI .i64)), (cD (dI .i64)), (cD (dI .i64)), (cD (dI .i64))], eBox 7 [(cD (dI .i64)), (cD (dI .i64))]]
def u23_0_3 {β : Type} (g : St → β) : Int → Int → Int → Int → Int → Int → Int → Int → Bool → Int → Int → Int → Int → Int → Int → Int → Int → Int → Int → Int → Int → Int → Int → Int → Int → β := p23_0_3.unc g
def p23_0_4 : PT St := pS [sl 1 (aV false [(cPtr 1 0)]), sl 2 (aV false [(cPtr 2 0)]), sl 5 (aV false [(cPtr 5 0)]), sl 6 (aV false [(cD (dI .i64))]), sl 7 (aV false [(cPtr 7 0)]), sl 8 (aV false [(cD (dI .i64))]), sl 9 (aV false [(cD (dI .i64))]), sl 26 (aV true [(cD (dI .i64)), (cD (dI .i64)), (cD (dI .i64)), (cD (dI .i64))]), sl 27 (aV false [(cD (dI .i64))]), sl 45 (aV false [(cD dB)])] [eBox 1 [(cD (dI .i64)), (cD (dI .i64)), (cD (dI .i64)), (cD (dI .i64)), (cD (dI .i64)), (cD (dI .i64))], eBox 2 [(cD (dI .i64)), (cD (dI .i64)), (cD (dI .i64)), (cD (dI .i64))], eBox 5 [(cD (dI .i64)), (cD (dI .i64)), (cD (dI .i64)), (cD (dI .i64))], eBox 7 [(cD (dI .i64)), (cD (dI .i64))]]
def u23_0_4 {β : Type} (g : St → β) : Int → Int → Int → Int → Int → Int → Int → Int → Bool → Int → Int → Int → Int → Int → Int → Int → Int → Int → Int → Int → Int → Int → Int → Int → Int → β := p23_0_4.unc g
def p23_0_5 : PT St := pS [sl 1 (aV false [(cPtr 1 0)]), sl 2 (aV false [(cPtr 2 0)]), sl 5 (aV false [(cPtr 5 0)]), sl 10 (aV false [(cD (dI .i64))]), sl 26 (aV true [(cD (dI .i64)), (cD (dI .i64)), (cD (dI .i64)), (cD (dI .i64))]), sl 27 (aV false [(cD (dI .i64))])] [eBox 1 [(cD (dI .i64)), (cD (dI .i64)), (cD (dI .i64)), (cD (dI .i64)), (cD (dI .i64)), (cD (dI .i64))], eBox 2 [(cD (dI .i64)), (cD (dI .i64)), (cD (dI .i64)), (cD (dI .i64))], eBox 5 [(cD (dI .i64)), (cD (dI .i64)), (cD (dI .i64)), (cD (dI .i64))]]
def u23_0_5 {β : Type} (g : St → β) : Int → Int → Int → Int → Int → Int → Int → Int → Int → Int → Int → Int → Int → Int → Int → Int → Int → Int → Int → Int → β := p23_0_5.unc g
def p23_0_6 : PT St := pS [sl 1 (aV false [(cPtr 1 0)]), sl 2 (aV false [(cPtr 2 0)]), sl 5 (aV false [(cPtr 5 0)]), sl 26 (aV true [(cD (dI .i64)), (cD (dI .i64)), (cD (dI .i64)), (cD (dI .i64))]), sl 27 (aV false [(cD (dI .i64))])] [eBox 1 [(cD (dI .i64)), (cD (dI .i64)), (cD (dI .i64)), (cD (dI .i64)), (cD (dI .i64)), (cD (dI .i64))], eBox 2 [(cD (dI .i64)), (cD (dI .i64)), (cD (dI .i64)), (cD (dI .i64))], eBox 5 [(cD (dI .i64)), (cD (dI .i64)), (cD (dI .i64)), (cD (dI .i64))]]
def u23_0_6 {β : Type} (g : St → β) : Int → Int → Int → Int → Int → Int → Int → Int → Int → Int → Int → Int → Int → Int → Int → Int → Int → Int → Int → β := p23_0_6.unc g
def p23_0_7 : PT St := pS [sl 2 (aV false [(cPtr 2 0)]), sl 3 (aV false [(cD (dI .i64))])] [eBox 2 [(cD (dI .i64)), (cD (dI .i64)), (cD (dI .i64)), (cD (dI .i64))]]
def u23_0_7 {β : Type} (g : St → β) : Int → Int → Int → Int → Int → β := p23_0_7.unc g
def pr23_0_0 : PT (List RV) := pRs [pR true [rD (dI .i64), rD (dI .i64), rD (dI .i64), rD (dI .i64)], pR false [rD (dI .i64)]]
def ur23_0_0 {β : Type} (g : List RV → β) : Int → Int → Int → Int → Int → β := pr23_0_0.unc g
def E23_0g (vf60_0 : Tf60_0) (vf78_0 : Tf78_0) (vf79_0 : Tf79_0) (vf77_0 : Tf77_0) : EnvK := EnvK.of [⟨60, nt60, [⟨pa60_0, Fn60_0 vf60_0⟩]⟩, ⟨78, nt78, [⟨pa78_0, Fn78_0 vf78_0⟩]⟩, ⟨79, nt79, [⟨pa79_0, Fn79_0 vf79_0⟩]⟩, ⟨77, nt77, [⟨pa77_0, Fn77_0 vf77_0⟩]⟩] noSeq
noncomputable def E23_0 : EnvK := E23_0g f60_0 f78_0 f79_0 f77_0
theorem eo23_0 : E23_0.Ok Try.prog := EnvK.of_ok noSeq_ok ⟨⟨io60_0, trivial⟩, ⟨io78_0, trivial⟩, ⟨io79_0, trivial⟩, ⟨io77_0, trivial⟩, trivial⟩
noncomputable def c23_0_46g  : MCode := (.region r23_47 [(6, 8)] (tO [1, 2, 5, 10, 26, 27]))
noncomputable def c23_0_46 : MCode := c23_0_46g 
theorem g23_0_46 : c23_0_46.Good Try.prog E23_0 sh23 := trivial
--CODE 46 0
abbrev TJ23_0_3 : Type 1 := (α : Type) → Int → Int → Int → Int → Int → Int → Int → Int → Int → (Int → Int → Int → Int → Int → Option α) → Option α
def J23_0_3g (vf77_0 : Tf77_0) (vf78_0 : Tf78_0) (vf79_0 : Tf79_0) (α : Type) (x106 x107 x108 x124 x125 x126 x127 x128 x129 : Int) (k1 : Int → Int → Int → Int → Int → Option α) : Option α :=
 vf78_0 α (w64 ((w64 (2 * x128)) * 1048576)) x107
 (fun x131 => vf79_0 α (w64 ((w64 (2 * x129)) * 1048576)) x108
 (fun x132 => vf77_0 α x131 x132
 (fun x133 x134 x135 => cK (x106 == 1)
 (k1 x135 x124 x125 x133 x134)
 (cK (x106 == 0)
 (k1 x135 x133 x134 x126 x127)
 (none)))))
noncomputable def J23_0_3 (α : Type) (x106 x107 x108 x124 x125 x126 x127 x128 x129 : Int) (k1 : Int → Int → Int → Int → Int → Option α) : Option α := J23_0_3g f77_0 f78_0 f79_0 α x106 x107 x108 x124 x125 x126 x127 x128 x129 k1
def F23_0_3 (v : TJ23_0_3) (α : Type) (K : Exit → St → Option α) : Int → Int → Int → Int → Int → Int → Int → Int → Int → Int → Int → Int → Int → Int → Int → Int → Int → Int → Int → Int → Int → Int → Int → Int → Option α := fun x106 x107 x108 x109 x110 x111 x112 x113 x114 x115 x116 x117 x118 x119 x120 x121 x122 x123 x124 x125 x126 x127 x128 x129 => v α x106 x107 x108 x124 x125 x126 x127 x128 x129 (fun (y1 : Int) (y2 : Int) (y3 : Int) (y4 : Int) (y5 : Int) => u23_0_5 (K .normal) y1 x109 x110 x111 x112 x113 x114 x115 x116 x117 x118 x119 x120 x121 x122 x123 y2 y3 y4 y5) 
theorem m23_0_3g (vf60_0 : Tf60_0) (vf78_0 : Tf78_0) (vf79_0 : Tf79_0) (vf77_0 : Tf77_0)  (α : Type) (K : Exit → St → Option α) : F23_0_3 (J23_0_3g vf77_0 vf78_0 vf79_0) α K = p23_0_2.unc fun σ => runM Try.prog (E23_0g vf60_0 vf78_0 vf79_0 vf77_0) sh23 (c23_0_46g ) K σ := by kernel_rfl
theorem m23_0_3 : ∀ (α : Type) (K : Exit → St → Option α), F23_0_3 J23_0_3 α K = p23_0_2.unc fun σ => runM Try.prog E23_0 sh23 c23_0_46 K σ := m23_0_3g f60_0 f78_0 f79_0 f77_0
noncomputable def c23_0_39g  : MCode := (.seq (.region r23_41 [] (tO [1, 2, 5, 6, 7, 8, 9, 26, 27, 45])) (.cond (.tmp 45) (.region r23_43 [] (tO [1, 2, 5, 6, 7, 8, 9, 26, 27])) .skip))
noncomputable def c23_0_39 : MCode := c23_0_39g 
theorem g23_0_39 : c23_0_39.Good Try.prog E23_0 sh23 := ⟨trivial, ⟨trivial, trivial⟩⟩
--CODE 39 0
abbrev TJ23_0_2 : Type 1 := (α : Type) → Int → (Option α) → (Bool → Option α) → Option α
def J23_0_2g  (α : Type) (x102 : Int) (k1 : Option α) (k2 : Bool → Option α) : Option α :=
 cK (decide (x102 < 0))
 (k1)
 (k2 (decide (x102 < 0)))
noncomputable def J23_0_2 (α : Type) (x102 : Int) (k1 : Option α) (k2 : Bool → Option α) : Option α := J23_0_2g  α x102 k1 k2
def F23_0_2 (v : TJ23_0_2) (α : Type) (K : Exit → St → Option α) : Int → Int → Int → Int → Int → Int → Int → Int → Int → Int → Int → Int → Int → Int → Int → Int → Int → Int → Int → Int → Int → Int → Int → Int → Option α := fun x79 x80 x81 x82 x83 x84 x85 x86 x87 x88 x89 x90 x91 x92 x93 x94 x95 x96 x97 x98 x99 x100 x101 x102 => v α x102 (u23_0_2 (K .normal) x79 x80 x88 x82 x83 x84 x85 x86 x87 x88 x89 x90 x91 x92 x93 x94 x95 x96 x97 x98 x99 x100 x101 x102) (fun (y1 : Bool) => u23_0_4 (K .normal) x79 x80 x81 x82 x83 x84 x85 x86 y1 x87 x88 x89 x90 x91 x92 x93 x94 x95 x96 x97 x98 x99 x100 x101 x102) 
theorem m23_0_2g (vf60_0 : Tf60_0) (vf78_0 : Tf78_0) (vf79_0 : Tf79_0) (vf77_0 : Tf77_0)  (α : Type) (K : Exit → St → Option α) : F23_0_2 (J23_0_2g ) α K = p23_0_2.unc fun σ => runM Try.prog (E23_0g vf60_0 vf78_0 vf79_0 vf77_0) sh23 (c23_0_39g ) K σ := by kernel_rfl
theorem m23_0_2 : ∀ (α : Type) (K : Exit → St → Option α), F23_0_2 J23_0_2 α K = p23_0_2.unc fun σ => runM Try.prog E23_0 sh23 c23_0_39 K σ := m23_0_2g f60_0 f78_0 f79_0 f77_0
--CODE 39 0
abbrev TJ23_0_4 : Type 1 := (α : Type) → Int → (Option α) → (Bool → Option α) → Option α
def J23_0_4g  (α : Type) (x172 : Int) (k1 : Option α) (k2 : Bool → Option α) : Option α :=
 cK (decide (x172 < 0))
 (k1)
 (k2 (decide (x172 < 0)))
noncomputable def J23_0_4 (α : Type) (x172 : Int) (k1 : Option α) (k2 : Bool → Option α) : Option α := J23_0_4g  α x172 k1 k2
def F23_0_4 (v : TJ23_0_4) (α : Type) (K : Exit → St → Option α) : Int → Int → Int → Int → Int → Int → Int → Int → Bool → Int → Int → Int → Int → Int → Int → Int → Int → Int → Int → Int → Int → Int → Int → Int → Int → Option α := fun x148 x149 x150 x151 x152 x153 x154 x155 x156 x157 x158 x159 x160 x161 x162 x163 x164 x165 x166 x167 x168 x169 x170 x171 x172 => v α x172 (u23_0_2 (K .normal) x148 x149 x158 x151 x152 x153 x154 x155 x157 x158 x159 x160 x161 x162 x163 x164 x165 x166 x167 x168 x169 x170 x171 x172) (fun (y1 : Bool) => u23_0_4 (K .normal) x148 x149 x150 x151 x152 x153 x154 x155 y1 x157 x158 x159 x160 x161 x162 x163 x164 x165 x166 x167 x168 x169 x170 x171 x172) 
theorem m23_0_4g (vf60_0 : Tf60_0) (vf78_0 : Tf78_0) (vf79_0 : Tf79_0) (vf77_0 : Tf77_0)  (α : Type) (K : Exit → St → Option α) : F23_0_4 (J23_0_4g ) α K = p23_0_3.unc fun σ => runM Try.prog (E23_0g vf60_0 vf78_0 vf79_0 vf77_0) sh23 (c23_0_39g ) K σ := by kernel_rfl
theorem m23_0_4 : ∀ (α : Type) (K : Exit → St → Option α), F23_0_4 J23_0_4 α K = p23_0_3.unc fun σ => runM Try.prog E23_0 sh23 c23_0_39 K σ := m23_0_4g f60_0 f78_0 f79_0 f77_0
noncomputable def c23_0_34g  : MCode := (.seq (.region r23_36 [] (tO [1, 2, 5, 6, 7, 8, 9, 26, 27, 39])) (.cond (.tmp 39) (.region r23_38 [] (tO [1, 2, 5, 6, 7, 8, 9, 26, 27])) .skip))
noncomputable def c23_0_34 : MCode := c23_0_34g 
theorem g23_0_34 : c23_0_34.Good Try.prog E23_0 sh23 := ⟨trivial, ⟨trivial, trivial⟩⟩
--CODE 34 0
abbrev TJ23_0_1 : Type 1 := (α : Type) → Int → (Option α) → (Bool → Option α) → Option α
def J23_0_1g  (α : Type) (x74 : Int) (k1 : Option α) (k2 : Bool → Option α) : Option α :=
 cK (decide (x74 < 0))
 (k1)
 (k2 (decide (x74 < 0)))
noncomputable def J23_0_1 (α : Type) (x74 : Int) (k1 : Option α) (k2 : Bool → Option α) : Option α := J23_0_1g  α x74 k1 k2
def F23_0_1 (v : TJ23_0_1) (α : Type) (K : Exit → St → Option α) : Int → Int → Int → Int → Int → Int → Int → Int → Int → Int → Int → Int → Int → Int → Int → Int → Int → Int → Int → Int → Int → Int → Int → Int → Option α := fun x52 x53 x54 x55 x56 x57 x58 x59 x60 x61 x62 x63 x64 x65 x66 x67 x68 x69 x70 x71 x72 x73 x74 x75 => v α x74 (u23_0_2 (K .normal) x52 x60 x54 x55 x56 x57 x58 x59 x60 x61 x62 x63 x64 x65 x66 x67 x68 x69 x70 x71 x72 x73 x74 x75) (fun (y1 : Bool) => u23_0_3 (K .normal) x52 x53 x54 x55 x56 x57 x58 x59 y1 x60 x61 x62 x63 x64 x65 x66 x67 x68 x69 x70 x71 x72 x73 x74 x75) 
theorem m23_0_1g (vf60_0 : Tf60_0) (vf78_0 : Tf78_0) (vf79_0 : Tf79_0) (vf77_0 : Tf77_0)  (α : Type) (K : Exit → St → Option α) : F23_0_1 (J23_0_1g ) α K = p23_0_2.unc fun σ => runM Try.prog (E23_0g vf60_0 vf78_0 vf79_0 vf77_0) sh23 (c23_0_34g ) K σ := by kernel_rfl
theorem m23_0_1 : ∀ (α : Type) (K : Exit → St → Option α), F23_0_1 J23_0_1 α K = p23_0_2.unc fun σ => runM Try.prog E23_0 sh23 c23_0_34 K σ := m23_0_1g f60_0 f78_0 f79_0 f77_0
noncomputable def c23_0_30g  : MCode := (.region r23_31 [] (tO [1, 2, 5, 6, 7, 26, 27]))
noncomputable def c23_0_30 : MCode := c23_0_30g 
theorem g23_0_30 : c23_0_30.Good Try.prog E23_0 sh23 := trivial
--CODE 30 0
abbrev TJ23_0_0 : Type 1 := (α : Type) → Int → Int → Int → Int → Int → (Int → Int → Option α) → Option α
def J23_0_0g  (α : Type) (x28 x29 x30 x31 x32 : Int) (k1 : Int → Int → Option α) : Option α :=
 cK (x32 == 1)
 (k1 x30 x31)
 (cK (x32 == 0)
 (k1 x28 x29)
 (none))
noncomputable def J23_0_0 (α : Type) (x28 x29 x30 x31 x32 : Int) (k1 : Int → Int → Option α) : Option α := J23_0_0g  α x28 x29 x30 x31 x32 k1
def F23_0_0 (v : TJ23_0_0) (α : Type) (K : Exit → St → Option α) : Int → Int → Int → Int → Int → Bool → Int → Int → Int → Int → Int → Int → Int → Int → Int → Int → Int → Int → Int → Int → Option α := fun x28 x29 x30 x31 x32 x33 x34 x35 x36 x37 x38 x39 x40 x41 x42 x43 x44 x45 x46 x47 => v α x28 x29 x30 x31 x32 (fun (y1 : Int) (y2 : Int) => u23_0_1 (K .normal) x32 x28 x29 x30 x31 x32 x34 x35 x36 x37 x38 x39 x40 x41 x42 x43 x44 x45 x46 x47 y1 y2) 
theorem m23_0_0g (vf60_0 : Tf60_0) (vf78_0 : Tf78_0) (vf79_0 : Tf79_0) (vf77_0 : Tf77_0)  (α : Type) (K : Exit → St → Option α) : F23_0_0 (J23_0_0g ) α K = p23_0_0.unc fun σ => runM Try.prog (E23_0g vf60_0 vf78_0 vf79_0 vf77_0) sh23 (c23_0_30g ) K σ := by kernel_rfl
theorem m23_0_0 : ∀ (α : Type) (K : Exit → St → Option α), F23_0_0 J23_0_0 α K = p23_0_0.unc fun σ => runM Try.prog E23_0 sh23 c23_0_30 K σ := m23_0_0g f60_0 f78_0 f79_0 f77_0
noncomputable def c23_0_23g (vJ23_0_0 : TJ23_0_0) (vJ23_0_1 : TJ23_0_1) (vJ23_0_2 : TJ23_0_2) (vJ23_0_4 : TJ23_0_4) (vJ23_0_3 : TJ23_0_3) : MCode := (.seq (.region r23_25 [] (tO [1, 2, 5, 26, 27, 28])) (.seq (.cond (.tmp 28) .skip (.exit 0)) (.seq (.block 1 (.seq (.mark [⟨p23_0_0, F23_0_0 vJ23_0_0⟩] c23_0_30) (.seq (.region r23_33 [] (tO [1, 2, 5, 6, 7, 8, 9, 26, 27])) (.seq (.mark [⟨p23_0_2, F23_0_1 vJ23_0_1⟩] c23_0_34) (.seq (.mark [⟨p23_0_2, F23_0_2 vJ23_0_2⟩, ⟨p23_0_3, F23_0_4 vJ23_0_4⟩] c23_0_39) (.seq (.region r23_45 [] (tO [1, 2, 5, 6, 7, 8, 9, 26, 27])) (.seq (.mark [⟨p23_0_2, F23_0_3 vJ23_0_3⟩] c23_0_46) (.seq (.region r23_49 [] (tO [1, 2, 5, 10, 26, 27, 69])) (.cond (.tmp 69) (.seq (.region r23_52 [] (tO [2, 3])) .ret) .skip))))))))) (.region r23_53 [] (tO [1, 2, 5, 26, 27])))))
noncomputable def c23_0_23 : MCode := c23_0_23g J23_0_0 J23_0_1 J23_0_2 J23_0_4 J23_0_3
theorem g23_0_23 : c23_0_23.Good Try.prog E23_0 sh23 := ⟨trivial, ⟨⟨trivial, trivial⟩, ⟨⟨⟨g23_0_30, m23_0_0, trivial⟩, ⟨trivial, ⟨⟨g23_0_34, m23_0_1, trivial⟩, ⟨⟨g23_0_39, m23_0_2, m23_0_4, trivial⟩, ⟨trivial, ⟨⟨g23_0_46, m23_0_3, trivial⟩, ⟨trivial, ⟨⟨trivial, trivial⟩, trivial⟩⟩⟩⟩⟩⟩⟩⟩, trivial⟩⟩⟩
--CODE 23 0
def S23_0_5g (vJ23_0_0 : TJ23_0_0) (vJ23_0_1 : TJ23_0_1) (vJ23_0_2 : TJ23_0_2) (vJ23_0_3 : TJ23_0_3) (vJ23_0_4 : TJ23_0_4) (α : Type) (x8 x9 x10 x11 x13 x14 x12 x23 x24 x25 x26 : Int) (kn : Int → Int → Int → Int → Int → Option α) (k1 : Int → Option α) (k2 : Int → Bool → Int → Int → Int → Int → Option α) : Option α :=
 cK (decide (x12 < 2))
 (vJ23_0_0 α x8 x9 x10 x11 x12
 (fun x49 x50 => vJ23_0_1 α x49
 (vJ23_0_2 α x50
 (vJ23_0_3 α x12 x13 x14 x23 x24 x25 x26 x49 x50
 (fun x136 x137 x138 x139 x140 => cK (x136 != 0)
 (k1 x136)
 (kn (w64 (x12 + 1)) x137 x138 x139 x140)))
 (fun x104 => vJ23_0_3 α x12 x13 x13 x23 x24 x25 x26 x49 x50
 (fun x142 x143 x144 x145 x146 => cK (x142 != 0)
 (k1 x142)
 (kn (w64 (x12 + 1)) x143 x144 x145 x146))))
 (fun x77 => vJ23_0_4 α x50
 (vJ23_0_3 α x12 x14 x14 x23 x24 x25 x26 x49 x50
 (fun x176 x177 x178 x179 x180 => cK (x176 != 0)
 (k1 x176)
 (kn (w64 (x12 + 1)) x177 x178 x179 x180)))
 (fun x174 => vJ23_0_3 α x12 x14 x13 x23 x24 x25 x26 x49 x50
 (fun x182 x183 x184 x185 x186 => cK (x182 != 0)
 (k1 x182)
 (kn (w64 (x12 + 1)) x183 x184 x185 x186))))))
 (k2 x12 (decide (x12 < 2)) x23 x24 x25 x26)
noncomputable def S23_0_5 (α : Type) (x8 x9 x10 x11 x13 x14 x12 x23 x24 x25 x26 : Int) (kn : Int → Int → Int → Int → Int → Option α) (k1 : Int → Option α) (k2 : Int → Bool → Int → Int → Int → Int → Option α) : Option α := S23_0_5g J23_0_0 J23_0_1 J23_0_2 J23_0_3 J23_0_4 α x8 x9 x10 x11 x13 x14 x12 x23 x24 x25 x26 kn k1 k2
noncomputable def R23_0_5 (α : Type) (x8 x9 x10 x11 x13 x14 : Int) (k1 : Int → Option α) (k2 : Int → Bool → Int → Int → Int → Int → Option α) : Nat → Int → Int → Int → Int → Int → Option α
 | 0, _, _, _, _, _ => none
 | n + 1, x12, x23, x24, x25, x26 => S23_0_5 α x8 x9 x10 x11 x13 x14 x12 x23 x24 x25 x26 (R23_0_5 α x8 x9 x10 x11 x13 x14 k1 k2 n) k1 k2
noncomputable def L23_0_5 (α : Type) (x8 x9 x10 x11 x13 x14 : Int) (k1 : Int → Option α) (k2 : Int → Bool → Int → Int → Int → Int → Option α) (x12 x23 x24 x25 x26 : Int) : Option α := R23_0_5 α x8 x9 x10 x11 x13 x14 k1 k2 fuel x12 x23 x24 x25 x26
abbrev TL23_0_5 : Type 1 := (α : Type) → Int → Int → Int → Int → Int → Int → (Int → Option α) → (Int → Bool → Int → Int → Int → Int → Option α) → Int → Int → Int → Int → Int → Option α
def F23_0_5 (v : TL23_0_5) (α : Type) (K : Exit → St → Option α) : Int → Int → Int → Int → Int → Int → Int → Int → Int → Int → Int → Int → Int → Int → Int → Int → Int → Int → Int → Option α := fun x8 x9 x10 x11 x12 x13 x14 x15 x16 x17 x18 x19 x20 x21 x22 x23 x24 x25 x26 => v α x8 x9 x10 x11 x13 x14 (fun (y1 : Int) => u23_0_7 (K .ret) y1 0 0 0 0) (fun (y1 : Int) (y2 : Bool) (y3 : Int) (y4 : Int) (y5 : Int) (y6 : Int) => u23_0_0 (K (.exit 0)) x8 x9 x10 x11 y1 y2 x13 x14 x15 x16 x17 x18 x19 x20 x21 x22 y3 y4 y5 y6) x12 x23 x24 x25 x26
theorem r23_0_5g (vf60_0 : Tf60_0) (vf78_0 : Tf78_0) (vf79_0 : Tf79_0) (vf77_0 : Tf77_0) (vJ23_0_0 : TJ23_0_0) (vJ23_0_1 : TJ23_0_1) (vJ23_0_2 : TJ23_0_2) (vJ23_0_4 : TJ23_0_4) (vJ23_0_3 : TJ23_0_3) (α : Type) (K : Exit → St → Option α) (Kn : St → Option α) (x8 x9 x10 x11 x12 x13 x14 x15 x16 x17 x18 x19 x20 x21 x22 x23 x24 x25 x26 : Int) : u23_0_6 (fun σ => runM Try.prog (E23_0g vf60_0 vf78_0 vf79_0 vf77_0) sh23 (c23_0_23g vJ23_0_0 vJ23_0_1 vJ23_0_2 vJ23_0_4 vJ23_0_3) (thenK (fun σ => tidyK td23_23 σ Kn) K) σ) x8 x9 x10 x11 x12 x13 x14 x15 x16 x17 x18 x19 x20 x21 x22 x23 x24 x25 x26 = S23_0_5g vJ23_0_0 vJ23_0_1 vJ23_0_2 vJ23_0_3 vJ23_0_4 α x8 x9 x10 x11 x13 x14 x12 x23 x24 x25 x26 (fun x12 x23 x24 x25 x26 => u23_0_6 Kn x8 x9 x10 x11 x12 x13 x14 x15 x16 x17 x18 x19 x20 x21 x22 x23 x24 x25 x26) (fun (y1 : Int) => u23_0_7 (K .ret) y1 0 0 0 0) (fun (y1 : Int) (y2 : Bool) (y3 : Int) (y4 : Int) (y5 : Int) (y6 : Int) => u23_0_0 (K (.exit 0)) x8 x9 x10 x11 y1 y2 x13 x14 x15 x16 x17 x18 x19 x20 x21 x22 y3 y4 y5 y6) := by kernel_rfl
theorem r23_0_5 (α : Type) (K : Exit → St → Option α) (Kn : St → Option α) (x8 x9 x10 x11 x12 x13 x14 x15 x16 x17 x18 x19 x20 x21 x22 x23 x24 x25 x26 : Int) : u23_0_6 (fun σ => runM Try.prog E23_0 sh23 c23_0_23 (thenK (fun σ => tidyK td23_23 σ Kn) K) σ) x8 x9 x10 x11 x12 x13 x14 x15 x16 x17 x18 x19 x20 x21 x22 x23 x24 x25 x26 = S23_0_5 α x8 x9 x10 x11 x13 x14 x12 x23 x24 x25 x26 (fun x12 x23 x24 x25 x26 => u23_0_6 Kn x8 x9 x10 x11 x12 x13 x14 x15 x16 x17 x18 x19 x20 x21 x22 x23 x24 x25 x26) (fun (y1 : Int) => u23_0_7 (K .ret) y1 0 0 0 0) (fun (y1 : Int) (y2 : Bool) (y3 : Int) (y4 : Int) (y5 : Int) (y6 : Int) => u23_0_0 (K (.exit 0)) x8 x9 x10 x11 y1 y2 x13 x14 x15 x16 x17 x18 x19 x20 x21 x22 y3 y4 y5 y6) := r23_0_5g f60_0 f78_0 f79_0 f77_0 J23_0_0 J23_0_1 J23_0_2 J23_0_4 J23_0_3 α K Kn x8 x9 x10 x11 x12 x13 x14 x15 x16 x17 x18 x19 x20 x21 x22 x23 x24 x25 x26
theorem t23_0_5 (α : Type) (K : Exit → St → Option α) : ∀ (n : Nat) (x8 x9 x10 x11 x12 x13 x14 x15 x16 x17 x18 x19 x20 x21 x22 x23 x24 x25 x26 : Int), R23_0_5 α x8 x9 x10 x11 x13 x14 (fun (y1 : Int) => u23_0_7 (K .ret) y1 0 0 0 0) (fun (y1 : Int) (y2 : Bool) (y3 : Int) (y4 : Int) (y5 : Int) (y6 : Int) => u23_0_0 (K (.exit 0)) x8 x9 x10 x11 y1 y2 x13 x14 x15 x16 x17 x18 x19 x20 x21 x22 y3 y4 y5 y6) n x12 x23 x24 x25 x26 = u23_0_6 (loopT (runM Try.prog E23_0 sh23 c23_0_23) td23_23 K n) x8 x9 x10 x11 x12 x13 x14 x15 x16 x17 x18 x19 x20 x21 x22 x23 x24 x25 x26 := by
 intro n
 induction n with
 | zero => intros; rfl
 | succ n ih => intro x8 x9 x10 x11 x12 x13 x14 x15 x16 x17 x18 x19 x20 x21 x22 x23 x24 x25 x26; exact (congrArg (fun kn => S23_0_5 α x8 x9 x10 x11 x13 x14 x12 x23 x24 x25 x26 kn (fun (y1 : Int) => u23_0_7 (K .ret) y1 0 0 0 0) (fun (y1 : Int) (y2 : Bool) (y3 : Int) (y4 : Int) (y5 : Int) (y6 : Int) => u23_0_0 (K (.exit 0)) x8 x9 x10 x11 y1 y2 x13 x14 x15 x16 x17 x18 x19 x20 x21 x22 y3 y4 y5 y6)) (funext fun x12 => funext fun x23 => funext fun x24 => funext fun x25 => funext fun x26 => ih x8 x9 x10 x11 x12 x13 x14 x15 x16 x17 x18 x19 x20 x21 x22 x23 x24 x25 x26)).trans (r23_0_5 α K (loopT (runM Try.prog E23_0 sh23 c23_0_23) td23_23 K n) x8 x9 x10 x11 x12 x13 x14 x15 x16 x17 x18 x19 x20 x21 x22 x23 x24 x25 x26).symm
theorem m23_0_5 : ∀ (α : Type) (K : Exit → St → Option α), F23_0_5 L23_0_5 α K = p23_0_6.unc fun σ => loopT (runM Try.prog E23_0 sh23 c23_0_23) td23_23 K fuel σ := fun α K => funext fun x8 => funext fun x9 => funext fun x10 => funext fun x11 => funext fun x12 => funext fun x13 => funext fun x14 => funext fun x15 => funext fun x16 => funext fun x17 => funext fun x18 => funext fun x19 => funext fun x20 => funext fun x21 => funext fun x22 => funext fun x23 => funext fun x24 => funext fun x25 => funext fun x26 => t23_0_5 α K fuel x8 x9 x10 x11 x12 x13 x14 x15 x16 x17 x18 x19 x20 x21 x22 x23 x24 x25 x26
abbrev Tf23_0 : Type 1 := (α : Type) → Int → Int → Int → Int → Int → Int → (Int → Int → Int → Int → Int → Option α) → Option α
def f23_0g (vL23_0_5 : TL23_0_5) (vf60_0 : Tf60_0) (α : Type) (x1 x2 x3 x4 x5 x6 : Int) (k1 : Int → Int → Int → Int → Int → Option α) : Option α :=
 vf60_0 α x1 x2 x3 x4 x5 x6
 (fun x7 => cK (x7 != 0)
 (k1 0 0 0 0 x7)
 (cK (decide (x1 ≤ 0))
 (k1 0 0 0 0 9)
 (vL23_0_5 α x3 x4 x5 x6 x1 x2
 (fun x188 => k1 0 0 0 0 x188)
 (fun x189 x190 x191 x192 x193 x194 => k1 x191 x192 x193 x194 0) 0 0 0 0 0)))
noncomputable def f23_0 (α : Type) (x1 x2 x3 x4 x5 x6 : Int) (k1 : Int → Int → Int → Int → Int → Option α) : Option α := f23_0g L23_0_5 f60_0 α x1 x2 x3 x4 x5 x6 k1
def pa23_0 : PT (List DV) := pA [pV true [(dI .i64), (dI .i64), (dI .i64), (dI .i64), (dI .i64), (dI .i64)]]
def Fn23_0 (v : Tf23_0) (α : Type) (k : List RV → Option α) : Int → Int → Int → Int → Int → Int → Option α := fun x1 x2 x3 x4 x5 x6 => v α x1 x2 x3 x4 x5 x6 (fun (y1 : Int) (y2 : Int) (y3 : Int) (y4 : Int) (y5 : Int) => ur23_0_0 k y1 y2 y3 y4 y5)
noncomputable def cm23_0g (vL23_0_5 : TL23_0_5) : MCode := (.seq (.region r23_2 [] (tO [1, 2])) (.seq (.seq (.region r23_5 [] (tO [1, 2, 4])) (.seq (.region r23_7 [] (tO [1, 2, 4, 14])) (.cond (.tmp 14) (.seq (.region r23_10 [] (tO [2, 3])) .ret) .skip))) (.seq (.seq (.region r23_13 [] (tO [1, 2, 20])) (.cond (.tmp 20) (.seq (.region r23_16 [] (tO [2, 3])) .ret) .skip)) (.seq (.region r23_18 [] (tO [1, 2, 5])) (.seq (.seq (.region r23_21 [] (tO [1, 2, 5, 26, 27])) (.block 0 (.loop td23_23 [⟨p23_0_6, F23_0_5 vL23_0_5⟩] c23_0_23))) (.seq (.region r23_55 [] (tO [2, 3])) .ret))))))
noncomputable def cm23_0 : MCode := cm23_0g L23_0_5
theorem gm23_0 : cm23_0.Good Try.prog E23_0 sh23 := ⟨trivial, ⟨⟨trivial, ⟨trivial, ⟨⟨trivial, trivial⟩, trivial⟩⟩⟩, ⟨⟨trivial, ⟨⟨trivial, trivial⟩, trivial⟩⟩, ⟨trivial, ⟨⟨trivial, ⟨g23_0_23, m23_0_5, trivial⟩⟩, ⟨trivial, trivial⟩⟩⟩⟩⟩⟩
theorem fm23_0g (vf60_0 : Tf60_0) (vf78_0 : Tf78_0) (vf79_0 : Tf79_0) (vf77_0 : Tf77_0) (vL23_0_5 : TL23_0_5) (α : Type) (k : List RV → Option α) : Fn23_0 (f23_0g vL23_0_5 vf60_0) α k = pa23_0.unc fun ds => fnM Try.prog (E23_0g vf60_0 vf78_0 vf79_0 vf77_0) sh23 (cm23_0g vL23_0_5) rs23 k ds := by kernel_rfl
theorem fm23_0 : ∀ (α : Type) (k : List RV → Option α), Fn23_0 f23_0 α k = pa23_0.unc fun ds => fnM Try.prog E23_0 sh23 cm23_0 rs23 k ds := fm23_0g f60_0 f78_0 f79_0 f77_0 L23_0_5
theorem is23 : FnIs Try.prog 23 nt23 tr23 tl23 cm23_0.erase rs23 := ⟨Try.f23, Try.func23, rfl, by kernel_rfl, by kernel_rfl, by kernel_rfl⟩
theorem io23_0 : InstOk Try.prog 23 nt23 ⟨pa23_0, Fn23_0 f23_0⟩ := inst_ok eo23_0 followsTry is23 ⟨⟨sh23, cm23_0, by kernel_rfl, gm23_0, fm23_0⟩⟩
abbrev nt48 : Nat := 39
def sh48 : List (Nat × List Sh) := [(9, [.str, .int .i64, .int .i64, .int .i64, .int .i64, .int .i64, .int .i64, .int .i64, .int .i64, .int .i64]), (19, [.int .i64]), (22, [.int .i64]), (27, [.int .i64]), (30, [.int .i64]), (33, [.bool]), (38, [.int .i64, .int .i64])]
def r48_2 : List AOper := [oO 1 (.box (.tmp 0)), oO 2 (.alloc [(cI 0), (cI 0)]), oO 3 (.mv (kI 0))]
def r48_5 : List AOper := [oO 9 (.load true 10 (.tmp 1)), oO 10 (.call 28 [(.tmp 9)]), oM 4 10]
def r48_7 : List AOper := [oM 11 4, oO 12 (.bin .neq 28 (.tmp 11) (kI 0))]
def r48_10 : List AOper := [oO 13 (.build [(cI 0), (cI 0)] []), oM 14 4, oD (.store 2 (.tmp 2) (.tmp 13)), oM 3 14]
def r48_12 : List AOper := [oO 15 (.build [(cI 0), (cI 0)] [(0, 1, (kI 0)), (1, 1, (kI 1024))]), oO 5 (.alloc [(cI 0), (cI 0)]), oD (.store 2 (.tmp 5) (.tmp 15))]
def r48_14 : List AOper := [oO 6 (.alloc [(.d (.v (.bool false)))]), oD (.store 1 (.tmp 6) (.const (.bool false)))]
def td48_17 : Option Tidy := (tO [1, 2, 3, 5, 6])
def r48_19 : List AOper := [oM 7 16]
def r48_20 : List AOper := [oO 8 (.alloc [(cI 0), (cI 0)]), oD (.store 2 (.tmp 8) (.tmp 17))]
def r48_24 : List AOper := [oO 18 (.faddr 0 (.tmp 8)), oO 19 (.load false 1 (.tmp 18)), oO 20 (.faddr 4 (.tmp 1)), oO 21 (.faddr 1 (.tmp 20)), oO 22 (.load false 1 (.tmp 21)), oO 23 (.bin .geq 3 (.tmp 19) (.tmp 22))]
def r48_26 : List AOper := [oM 24 7, oO 25 (.faddr 0 (.tmp 5)), oD (.store 1 (.tmp 25) (.tmp 24))]
def r48_28 : List AOper := [oO 26 (.faddr 1 (.tmp 8)), oO 27 (.load false 1 (.tmp 26)), oO 28 (.faddr 4 (.tmp 1)), oO 29 (.faddr 0 (.tmp 28)), oO 30 (.load false 1 (.tmp 29)), oO 31 (.bin .leq 3 (.tmp 27) (.tmp 30)), oM 32 31, oG 33 (.load false 1 (.tmp 6)) 32 true, oG 34 (.pure (oB (.unOp .not 4 (.tmp 33)) 4)) 32 true, oO 35 (.pick (.tmp 32) (.tmp 34) (.const (.bool false)))]
def r48_30 : List AOper := [oM 36 7, oO 37 (.faddr 1 (.tmp 5)), oD (.store 1 (.tmp 37) (.tmp 36)), oD (.store 1 (.tmp 6) (.const (.bool true)))]
def r48_32 : List AOper := [oO 38 (.load true 2 (.tmp 5)), oD (.store 2 (.tmp 2) (.tmp 38)), oO 3 (.mv (kI 0))]
def tr48 : List (Nat × Tidy) := [tT 0 [1, 2, 3], tT 1 [1, 2, 3, 4], tT 2 [1, 2, 3, 4, 12], tT 3 [2, 3], tT 4 [1, 2, 3, 5], tT 5 [1, 2, 3, 5, 6], tT 6 [1, 2, 3, 5, 6, 7, 17], tT 7 [1, 2, 3, 5, 6, 7, 8], tT 8 [1, 2, 3, 5, 6, 7, 8, 23], tT 9 [1, 2, 3, 5, 6, 7, 8], tT 10 [1, 2, 3, 5, 6, 7, 35], tT 11 [1, 2, 3, 5, 6], tT 12 [2, 3]]
def tl48 : List (Nat × Tidy) := [tT 8 [1, 2, 3, 5, 6]]
def rs48 : List AResV := [.cell 2 true 2, .tmp 3]
def p48_0_0 : PT St := pS [sl 1 (aV false [(cPtr 1 0)]), sl 2 (aV false [(cPtr 2 0)]), sl 3 (aV false [(cD (dI .i64))]), sl 5 (aV false [(cPtr 5 0)]), sl 6 (aV false [(cPtr 6 0)])] [eBox 1 [(cD dS), (cD (dI .i64)), (cD (dI .i64)), (cD (dI .i64)), (cD (dI .i64)), (cD (dI .i64)), (cD (dI .i64)), (cD (dI .i64)), (cD (dI .i64)), (cD (dI .i64))], eBox 2 [(cD (dI .i64)), (cD (dI .i64))], eBox 5 [(cD (dI .i64)), (cD (dI .i64))], eBox 6 [(cD dB)]]
def u48_0_0 {β : Type} (g : St → β) : Int → ByteArray → Int → Int → Int → Int → Int → Int → Int → Int → Int → Int → Int → Int → Int → Bool → β := p48_0_0.unc g
def pr48_0_0 : PT (List RV) := pRs [pR true [rD (dI .i64), rD (dI .i64)], pR false [rD (dI .i64)]]
def ur48_0_0 {β : Type} (g : List RV → β) : Int → Int → Int → β := pr48_0_0.unc g
def E48_0g (vf28_0 : Tf28_0) (vq102 : Tq102) : EnvK := EnvK.of [⟨28, nt28, [⟨pa28_0, Fn28_0 vf28_0⟩]⟩] (seqE [⟨102, pq102, vq102⟩])
noncomputable def E48_0 : EnvK := E48_0g f28_0 q102
theorem eo48_0 : E48_0.Ok Try.prog := EnvK.of_ok (seqE_ok (l := [⟨102, pq102, q102⟩]) ⟨sqok102, trivial⟩) ⟨⟨io28_0, trivial⟩, trivial⟩
noncomputable def ca48_0_17 : MCode := (.seq (.region r48_19 [] (tO [1, 2, 3, 5, 6, 7, 17])) (.region r48_20 [] (tO [1, 2, 3, 5, 6, 7, 8])))
theorem ga48_0_17 : ca48_0_17.Good Try.prog E48_0 sh48 := ⟨trivial, trivial⟩
noncomputable def c48_0_17g  : MCode := (.block 1 (.seq (.seq (.region r48_24 [] (tO [1, 2, 3, 5, 6, 7, 8, 23])) (.cond (.tmp 23) (.region r48_26 [] (tO [1, 2, 3, 5, 6, 7, 8])) .skip)) (.seq (.region r48_28 [] (tO [1, 2, 3, 5, 6, 7, 35])) (.cond (.tmp 35) (.region r48_30 [] (tO [1, 2, 3, 5, 6])) .skip))))
noncomputable def c48_0_17 : MCode := c48_0_17g 
theorem g48_0_17 : c48_0_17.Good Try.prog E48_0 sh48 := ⟨⟨trivial, ⟨trivial, trivial⟩⟩, ⟨trivial, ⟨trivial, trivial⟩⟩⟩
--CODE 17 0
def S48_0_0g  (α : Type) (x17 x18 : Int) (y28 : Int × Int × Int) (x25 x26 : Int) (x27 : Bool) (kn : Int → Int → Bool → Option α) (k1 : Int → Int → Bool → Option α) : Option α :=
 cK (decide (x18 ≤ y28.2.1))
 (cK (decide (y28.2.2 ≤ x17))
 (cK (!x27)
 (kn y28.1 y28.1 true)
 (kn y28.1 x26 x27))
 (kn y28.1 x26 x27))
 (cK (decide (y28.2.2 ≤ x17))
 (cK (!x27)
 (kn x25 y28.1 true)
 (kn x25 x26 x27))
 (kn x25 x26 x27))
noncomputable def S48_0_0 (α : Type) (x17 x18 : Int) (y28 : Int × Int × Int) (x25 x26 : Int) (x27 : Bool) (kn : Int → Int → Bool → Option α) (k1 : Int → Int → Bool → Option α) : Option α := S48_0_0g  α x17 x18 y28 x25 x26 x27 kn k1
noncomputable def V48_0_0 (α : Type) (x17 x18 : Int) (k1 : Int → Int → Bool → Option α) : List (Int × Int × Int) → Int → Int → Bool → Option α
 | [], x25, x26, x27 => k1 x25 x26 x27
 | y28 :: ys, x25, x26, x27 => S48_0_0 α x17 x18 y28 x25 x26 x27 (V48_0_0 α x17 x18 k1 ys) k1
abbrev TV48_0_0 : Type 1 := (α : Type) → Int → Int → (Int → Int → Bool → Option α) → List (Int × Int × Int) → Int → Int → Bool → Option α
def F48_0_0 (v : TV48_0_0) (α : Type) (K : Exit → St → Option α) (ys : List (Int × Int × Int)) : Int → ByteArray → Int → Int → Int → Int → Int → Int → Int → Int → Int → Int → Int → Int → Int → Bool → Option α := fun x12 x13 x14 x15 x16 x17 x18 x19 x20 x21 x22 x23 x24 x25 x26 x27 => v α x17 x18 (fun (y1 : Int) (y2 : Int) (y3 : Bool) => u48_0_0 (K .normal) x12 x13 x14 x15 x16 x17 x18 x19 x20 x21 x22 x23 x24 y1 y2 y3) ys x25 x26 x27
theorem r48_0_0g (vf28_0 : Tf28_0) (vq102 : Tq102)  (α : Type) (K : Exit → St → Option α) (Kn : St → Option α) (y28 : Int × Int × Int) (x12 : Int) (x13 : ByteArray) (x14 x15 x16 x17 x18 x19 x20 x21 x22 x23 x24 x25 x26 : Int) (x27 : Bool) : u48_0_0 (fun σ => roundT (runM Try.prog (E48_0g vf28_0 vq102) sh48 ca48_0_17) (runM Try.prog (E48_0g vf28_0 vq102) sh48 c48_0_17) [16, 17] td48_17 Kn K (xIP.ex y28) σ) x12 x13 x14 x15 x16 x17 x18 x19 x20 x21 x22 x23 x24 x25 x26 x27 = S48_0_0g  α x17 x18 y28 x25 x26 x27 (fun x25 x26 x27 => u48_0_0 Kn x12 x13 x14 x15 x16 x17 x18 x19 x20 x21 x22 x23 x24 x25 x26 x27) (fun (y1 : Int) (y2 : Int) (y3 : Bool) => u48_0_0 (K .normal) x12 x13 x14 x15 x16 x17 x18 x19 x20 x21 x22 x23 x24 y1 y2 y3) := by kernel_rfl
theorem r48_0_0 (α : Type) (K : Exit → St → Option α) (Kn : St → Option α) (y28 : Int × Int × Int) (x12 : Int) (x13 : ByteArray) (x14 x15 x16 x17 x18 x19 x20 x21 x22 x23 x24 x25 x26 : Int) (x27 : Bool) : u48_0_0 (fun σ => roundT (runM Try.prog E48_0 sh48 ca48_0_17) (runM Try.prog E48_0 sh48 c48_0_17) [16, 17] td48_17 Kn K (xIP.ex y28) σ) x12 x13 x14 x15 x16 x17 x18 x19 x20 x21 x22 x23 x24 x25 x26 x27 = S48_0_0 α x17 x18 y28 x25 x26 x27 (fun x25 x26 x27 => u48_0_0 Kn x12 x13 x14 x15 x16 x17 x18 x19 x20 x21 x22 x23 x24 x25 x26 x27) (fun (y1 : Int) (y2 : Int) (y3 : Bool) => u48_0_0 (K .normal) x12 x13 x14 x15 x16 x17 x18 x19 x20 x21 x22 x23 x24 y1 y2 y3) := r48_0_0g f28_0 q102 α K Kn y28 x12 x13 x14 x15 x16 x17 x18 x19 x20 x21 x22 x23 x24 x25 x26 x27
theorem t48_0_0 (α : Type) (K : Exit → St → Option α) : ∀ (ys : List (Int × Int × Int)) (x12 : Int) (x13 : ByteArray) (x14 x15 x16 x17 x18 x19 x20 x21 x22 x23 x24 x25 x26 : Int) (x27 : Bool), V48_0_0 α x17 x18 (fun (y1 : Int) (y2 : Int) (y3 : Bool) => u48_0_0 (K .normal) x12 x13 x14 x15 x16 x17 x18 x19 x20 x21 x22 x23 x24 y1 y2 y3) ys x25 x26 x27 = u48_0_0 (roundsK (runM Try.prog E48_0 sh48 ca48_0_17) (runM Try.prog E48_0 sh48 c48_0_17) [16, 17] td48_17 K (ys.map xIP.ex)) x12 x13 x14 x15 x16 x17 x18 x19 x20 x21 x22 x23 x24 x25 x26 x27 := by
 intro ys
 induction ys with
 | nil => intros; rfl
 | cons y28 ys ih => intro x12 x13 x14 x15 x16 x17 x18 x19 x20 x21 x22 x23 x24 x25 x26 x27; exact (congrArg (fun kn => S48_0_0 α x17 x18 y28 x25 x26 x27 kn (fun (y1 : Int) (y2 : Int) (y3 : Bool) => u48_0_0 (K .normal) x12 x13 x14 x15 x16 x17 x18 x19 x20 x21 x22 x23 x24 y1 y2 y3)) (funext fun x25 => funext fun x26 => funext fun x27 => ih x12 x13 x14 x15 x16 x17 x18 x19 x20 x21 x22 x23 x24 x25 x26 x27)).trans (r48_0_0 α K (roundsK (runM Try.prog E48_0 sh48 ca48_0_17) (runM Try.prog E48_0 sh48 c48_0_17) [16, 17] td48_17 K (ys.map xIP.ex)) y28 x12 x13 x14 x15 x16 x17 x18 x19 x20 x21 x22 x23 x24 x25 x26 x27).symm
theorem m48_0_0 : ∀ (α : Type) (K : Exit → St → Option α) (ys : List (Int × Int × Int)), F48_0_0 V48_0_0 α K ys = p48_0_0.unc fun σ => roundsK (runM Try.prog E48_0 sh48 ca48_0_17) (runM Try.prog E48_0 sh48 c48_0_17) [16, 17] td48_17 K (ys.map xIP.ex) σ := fun α K ys => funext fun x12 => funext fun x13 => funext fun x14 => funext fun x15 => funext fun x16 => funext fun x17 => funext fun x18 => funext fun x19 => funext fun x20 => funext fun x21 => funext fun x22 => funext fun x23 => funext fun x24 => funext fun x25 => funext fun x26 => funext fun x27 => t48_0_0 α K ys x12 x13 x14 x15 x16 x17 x18 x19 x20 x21 x22 x23 x24 x25 x26 x27
abbrev Tf48_0 : Type 1 := (α : Type) → ByteArray → Int → Int → Int → Int → Int → Int → Int → Int → Int → (Int → Int → Int → Option α) → Option α
def f48_0g (vV48_0_0 : TV48_0_0) (vf28_0 : Tf28_0) (vq102 : Tq102) (α : Type) (x1 : ByteArray) (x2 x3 x4 x5 x6 x7 x8 x9 x10 : Int) (k1 : Int → Int → Int → Option α) : Option α :=
 vf28_0 α x1 x2 x3 x4 x5 x6 x7 x8 x9 x10
 (fun x11 => cK (x11 != 0)
 (k1 0 0 x11)
 (qK vq102 xIP fun y32 => vV48_0_0 α x5 x6
 (fun x29 x30 x31 => k1 x29 x30 0) y32 0 1024 false))
noncomputable def f48_0 (α : Type) (x1 : ByteArray) (x2 x3 x4 x5 x6 x7 x8 x9 x10 : Int) (k1 : Int → Int → Int → Option α) : Option α := f48_0g V48_0_0 f28_0 q102 α x1 x2 x3 x4 x5 x6 x7 x8 x9 x10 k1
def pa48_0 : PT (List DV) := pA [pV true [dS, (dI .i64), (dI .i64), (dI .i64), (dI .i64), (dI .i64), (dI .i64), (dI .i64), (dI .i64), (dI .i64)]]
def Fn48_0 (v : Tf48_0) (α : Type) (k : List RV → Option α) : ByteArray → Int → Int → Int → Int → Int → Int → Int → Int → Int → Option α := fun x1 x2 x3 x4 x5 x6 x7 x8 x9 x10 => v α x1 x2 x3 x4 x5 x6 x7 x8 x9 x10 (fun (y1 : Int) (y2 : Int) (y3 : Int) => ur48_0_0 k y1 y2 y3)
noncomputable def cm48_0g (vV48_0_0 : TV48_0_0) : MCode := (.seq (.region r48_2 [] (tO [1, 2, 3])) (.seq (.seq (.region r48_5 [] (tO [1, 2, 3, 4])) (.seq (.region r48_7 [] (tO [1, 2, 3, 4, 12])) (.cond (.tmp 12) (.seq (.region r48_10 [] (tO [2, 3])) .ret) .skip))) (.seq (.region r48_12 [] (tO [1, 2, 3, 5])) (.seq (.region r48_14 [] (tO [1, 2, 3, 5, 6])) (.seq (.block 0 (.rangeF (.func 102) [16, 17] td48_17 [⟨xIP, p48_0_0, F48_0_0 vV48_0_0⟩] ca48_0_17 c48_0_17)) (.seq (.region r48_32 [] (tO [2, 3])) .ret))))))
noncomputable def cm48_0 : MCode := cm48_0g V48_0_0
theorem gm48_0 : cm48_0.Good Try.prog E48_0 sh48 := ⟨trivial, ⟨⟨trivial, ⟨trivial, ⟨⟨trivial, trivial⟩, trivial⟩⟩⟩, ⟨trivial, ⟨trivial, ⟨⟨⟨ga48_0_17, g48_0_17⟩, m48_0_0, trivial⟩, ⟨trivial, trivial⟩⟩⟩⟩⟩⟩
theorem fm48_0g (vf28_0 : Tf28_0) (vq102 : Tq102) (vV48_0_0 : TV48_0_0) (α : Type) (k : List RV → Option α) : Fn48_0 (f48_0g vV48_0_0 vf28_0 vq102) α k = pa48_0.unc fun ds => fnM Try.prog (E48_0g vf28_0 vq102) sh48 (cm48_0g vV48_0_0) rs48 k ds := by kernel_rfl
theorem fm48_0 : ∀ (α : Type) (k : List RV → Option α), Fn48_0 f48_0 α k = pa48_0.unc fun ds => fnM Try.prog E48_0 sh48 cm48_0 rs48 k ds := fm48_0g f28_0 q102 V48_0_0
theorem is48 : FnIs Try.prog 48 nt48 tr48 tl48 cm48_0.erase rs48 := ⟨Try.f48, Try.func48, rfl, by kernel_rfl, by kernel_rfl, by kernel_rfl⟩
theorem io48_0 : InstOk Try.prog 48 nt48 ⟨pa48_0, Fn48_0 f48_0⟩ := inst_ok eo48_0 followsTry is48 ⟨⟨sh48, cm48_0, by kernel_rfl, gm48_0, fm48_0⟩⟩
abbrev nt26 : Nat := 175
def sh26 : List (Nat × List Sh) := [(27, [.int .i64, .int .i64, .int .i64]), (29, [.str]), (31, [.int .i64]), (33, [.int .i64, .int .i64]), (36, [.int .i64, .int .i64, .int .i64, .int .i64, .int .i64, .int .i64]), (39, [.int .i64, .int .i64, .int .i64, .int .i64, .int .i64, .int .i64]), (41, [.int .i64, .int .i64, .int .i64]), (53, [.int .i64]), (58, [.int .i64, .int .i64, .int .i64, .int .i64, .int .i64, .int .i64]), (68, [.int .i64, .int .i64, .int .i64, .int .i64, .int .i64, .int .i64]), (78, [.str]), (80, [.int .i64]), (82, [.int .i64, .int .i64]), (87, [.int .i64, .int .i64]), (91, [.int .i64, .int .i64]), (99, [.int .i64, .int .i64]), (102, [.int .i64, .int .i64]), (104, [.int .i64, .int .i64]), (111, [.int .i64]), (113, [.int .i64]), (119, [.int .i64]), (121, [.int .i64]), (128, [.int .i64]), (132, [.int .i64]), (137, [.int .i64]), (171, [.int .i64, .int .i64]), (174, [.str, .int .i64, .int .i64, .int .i64, .int .i64, .int .i64, .int .i64, .int .i64, .int .i64, .int .i64])]
def r26_2 : List AOper := [oO 1 (.box (.tmp 0)), ⟨(some 2), (.alloc [(.d (.v (.string ⟨#[]⟩))), (cI 0), (cI 0), (cI 0), (cI 0), (cI 0), (cI 0), (cI 0), (cI 0), (cI 0)]), none⟩, oO 3 (.mv (kI 0))]
def r26_4 : List AOper := [oO 26 (.faddr 16 (.tmp 1)), oO 27 (.load true 3 (.tmp 26)), oO 4 (.alloc [(cI 0), (cI 0), (cI 0)]), oD (.store 3 (.tmp 4) (.tmp 27))]
def r26_7 : List AOper := [oO 28 (.faddr 0 (.tmp 1)), oO 29 (.load false 1 (.tmp 28)), oO 30 (.faddr 1 (.tmp 1)), oO 31 (.load false 1 (.tmp 30)), oO 32 (.faddr 2 (.tmp 1)), oO 33 (.load true 2 (.tmp 32)), oO 34 (.call 83 [(.tmp 29), (.tmp 31), (.tmp 33)]), oO 35 (.faddr 4 (.tmp 1)), oO 36 (.load true 6 (.tmp 35)), oO 37 (.call 60 [(.tmp 36)]), oO 38 (.faddr 10 (.tmp 1)), oO 39 (.load true 6 (.tmp 38)), oO 40 (.call 60 [(.tmp 39)]), oO 41 (.load true 3 (.tmp 4)), oO 42 (.call 84 [(.tmp 41)]), oO 43 (.build [(cI 0), (cI 0), (cI 0), (cI 0)] [(0, 1, (.tmp 34)), (1, 1, (.tmp 37)), (2, 1, (.tmp 40)), (3, 1, (.tmp 42))]), oO 44 (.mv (kI 0))]
def td26_9 : Option Tidy := (tO [1, 2, 4, 43, 44])
def r26_11 : List AOper := [oO 45 (.bin .lss 3 (.tmp 44) (kI 4))]
def r26_17 : List AOper := [oO 46 (.index false 4 1 (.tmp 43) (.tmp 44)), oM 6 46]
def r26_19 : List AOper := [oM 47 6, oO 48 (.bin .neq 28 (.tmp 47) (kI 0))]
def r26_22 : List AOper := [⟨(some 49), (.build [(.d (.v (.string ⟨#[]⟩))), (cI 0), (cI 0), (cI 0), (cI 0), (cI 0), (cI 0), (cI 0), (cI 0), (cI 0)] []), none⟩, oM 50 6, oD (.store 10 (.tmp 2) (.tmp 49)), oM 3 50]
def r26_23 : List AOper := [oO 51 (.bin .add 3 (.tmp 44) (kI 1)), oM 44 51]
def r26_26 : List AOper := [oO 52 (.faddr 1 (.tmp 4)), oO 53 (.load false 1 (.tmp 52)), oO 54 (.bin .eql 3 (.tmp 53) (kI 0))]
def r26_29 : List AOper := [⟨(some 55), (.build [(.d (.v (.string ⟨#[]⟩))), (cI 0), (cI 0), (cI 0), (cI 0), (cI 0), (cI 0), (cI 0), (cI 0), (cI 0)] []), none⟩, oD (.store 10 (.tmp 2) (.tmp 55)), oO 3 (.mv (kI 9))]
def r26_31 : List AOper := [oO 57 (.faddr 4 (.tmp 1)), oO 58 (.load true 6 (.tmp 57)), oO 59 (.call 23 [(.tmp 58)]), oM 56 59, oO 60 (.extract 0 (.tmp 56)), oO 61 (.extract 1 (.tmp 56)), oO 7 (.alloc [(cI 0), (cI 0), (cI 0), (cI 0)]), oD (.store 4 (.tmp 7) (.tmp 60)), oM 8 61]
def r26_34 : List AOper := [oM 62 8, oO 63 (.bin .neq 28 (.tmp 62) (kI 0))]
def r26_37 : List AOper := [⟨(some 64), (.build [(.d (.v (.string ⟨#[]⟩))), (cI 0), (cI 0), (cI 0), (cI 0), (cI 0), (cI 0), (cI 0), (cI 0), (cI 0)] []), none⟩, oM 65 8, oD (.store 10 (.tmp 2) (.tmp 64)), oM 3 65]
def r26_39 : List AOper := [oO 67 (.faddr 10 (.tmp 1)), oO 68 (.load true 6 (.tmp 67)), oO 69 (.call 23 [(.tmp 68)]), oM 66 69, oO 70 (.extract 0 (.tmp 66)), oO 71 (.extract 1 (.tmp 66)), oO 9 (.alloc [(cI 0), (cI 0), (cI 0), (cI 0)]), oD (.store 4 (.tmp 9) (.tmp 70)), oM 8 71]
def r26_42 : List AOper := [oM 72 8, oO 73 (.bin .neq 28 (.tmp 72) (kI 0))]
def r26_45 : List AOper := [⟨(some 74), (.build [(.d (.v (.string ⟨#[]⟩))), (cI 0), (cI 0), (cI 0), (cI 0), (cI 0), (cI 0), (cI 0), (cI 0), (cI 0)] []), none⟩, oM 75 8, oD (.store 10 (.tmp 2) (.tmp 74)), oM 3 75]
def r26_47 : List AOper := [oO 76 (.mkfn 85 [(.tmp 4)]), oM 10 76]
def r26_49 : List AOper := [oO 77 (.faddr 0 (.tmp 1)), oO 78 (.load false 1 (.tmp 77)), oO 79 (.faddr 1 (.tmp 1)), oO 80 (.load false 1 (.tmp 79)), oO 81 (.faddr 2 (.tmp 1)), oO 82 (.load true 2 (.tmp 81)), ⟨(some 83), (.build [(.d (.v (.string ⟨#[]⟩))), (cI 0), (cI 0), (cI 0), (cI 0), (cI 0), (cI 0), (cI 0), (cI 0), (cI 0)] [(0, 1, (.tmp 78)), (1, 1, (.tmp 80)), (2, 2, (.tmp 82))]), none⟩, ⟨(some 11), (.alloc [(.d (.v (.string ⟨#[]⟩))), (cI 0), (cI 0), (cI 0), (cI 0), (cI 0), (cI 0), (cI 0), (cI 0), (cI 0)]), none⟩, oD (.store 10 (.tmp 11) (.tmp 83))]
def r26_51 : List AOper := [oM 85 10, oO 86 (.iaddr 2 (some 2) (.tmp 7) (kI 0)), oO 87 (.load true 2 (.tmp 86)), oO 88 (.calld (.tmp 85) [(.tmp 87)]), oM 89 10, oO 90 (.iaddr 2 (some 2) (.tmp 9) (kI 0)), oO 91 (.load true 2 (.tmp 90)), oO 92 (.calld (.tmp 89) [(.tmp 91)]), oO 93 (.call 88 [(.tmp 88), (.tmp 92)]), oM 84 93, oO 94 (.extract 0 (.tmp 84)), oO 95 (.extract 1 (.tmp 84)), oO 12 (.alloc [(cI 0), (cI 0)]), oD (.store 2 (.tmp 12) (.tmp 94)), oM 13 95]
def r26_54 : List AOper := [oM 96 13, oO 97 (.pure (oB (.unOp .not 4 (.tmp 96)) 4))]
def r26_57 : List AOper := [⟨(some 98), (.build [(.d (.v (.string ⟨#[]⟩))), (cI 0), (cI 0), (cI 0), (cI 0), (cI 0), (cI 0), (cI 0), (cI 0), (cI 0)] []), none⟩, oD (.store 10 (.tmp 2) (.tmp 98)), oO 3 (.mv (kI 14))]
def r26_59 : List AOper := [oO 99 (.load true 2 (.tmp 12)), oO 100 (.faddr 4 (.tmp 11)), oD (.store 2 (.tmp 100) (.tmp 99))]
def r26_62 : List AOper := [oO 101 (.iaddr 2 (some 2) (.tmp 7) (kI 1)), oO 102 (.load true 2 (.tmp 101)), oO 103 (.iaddr 2 (some 2) (.tmp 9) (kI 1)), oO 104 (.load true 2 (.tmp 103)), oO 105 (.build [(cI 0), (cI 0), (cI 0), (cI 0)] [(0, 2, (.tmp 102)), (2, 2, (.tmp 104))]), oO 106 (.mv (kI 0))]
def td26_64 : Option Tidy := (tO [2, 4, 11, 12, 105, 106])
def r26_66 : List AOper := [oO 107 (.bin .lss 3 (.tmp 106) (kI 2))]
def r26_72 : List AOper := [oM 108 106, oO 109 (.index true 2 2 (.tmp 105) (.tmp 106)), oO 15 (.alloc [(cI 0), (cI 0)]), oM 14 108, oD (.store 2 (.tmp 15) (.tmp 109))]
def r26_74 : List AOper := [oO 16 (.mv (.const (.slice none 0 0))), oO 17 (.mv (.const (.slice none 0 0)))]
def r26_77 : List AOper := [oO 110 (.faddr 0 (.tmp 15)), oO 111 (.load false 1 (.tmp 110)), oO 112 (.faddr 1 (.tmp 15)), oO 113 (.load false 1 (.tmp 112)), oO 114 (.build [(cI 0), (cI 0)] [(0, 1, (.tmp 111)), (1, 1, (.tmp 113))]), oO 115 (.mv (kI 0))]
def td26_79 : Option Tidy := (some ⟨[2, 4, 11, 12, 14, 16, 17, 105, 106, 114, 115], true, [⟨false, 16, 0, 20016, 1⟩, ⟨false, 17, 0, 20017, 1⟩], []⟩)
def r26_81 : List AOper := [oO 116 (.bin .lss 3 (.tmp 115) (kI 2))]
def r26_87 : List AOper := [oO 117 (.index false 2 1 (.tmp 114) (.tmp 115)), oM 19 117]
def r26_89 : List AOper := [oO 118 (.faddr 0 (.tmp 12)), oO 119 (.load false 1 (.tmp 118)), oO 120 (.faddr 1 (.tmp 12)), oO 121 (.load false 1 (.tmp 120)), oO 122 (.build [(cI 0), (cI 0)] [(0, 1, (.tmp 119)), (1, 1, (.tmp 121))]), oO 123 (.mv (kI 0))]
def td26_91 : Option Tidy := (some ⟨[2, 4, 11, 12, 14, 16, 17, 19, 105, 106, 114, 115, 122, 123], true, [⟨false, 16, 0, 20016, 1⟩, ⟨false, 17, 0, 20017, 1⟩], []⟩)
def r26_93 : List AOper := [oO 124 (.bin .lss 3 (.tmp 123) (kI 2))]
def r26_99 : List AOper := [oO 125 (.index false 2 1 (.tmp 122) (.tmp 123)), oM 21 125]
def r26_101 : List AOper := [oM 126 19, oO 127 (.faddr 2 (.tmp 4)), oO 128 (.load false 1 (.tmp 127)), oO 129 (.bin .mul 3 (.tmp 128) (kI 1048576)), oM 130 21, oO 131 (.faddr 0 (.tmp 4)), oO 132 (.load false 1 (.tmp 131)), oO 133 (.bin .mul 3 (.tmp 130) (.tmp 132)), oO 134 (.bin .sub 3 (.tmp 129) (.tmp 133)), oO 135 (.bin .mul 3 (.tmp 126) (.tmp 134)), oO 136 (.faddr 1 (.tmp 4)), oO 137 (.load false 1 (.tmp 136)), oO 138 (.bin .mul 3 (.tmp 137) (kI 1048576)), oM 22 135, oM 23 138]
def r26_102 : List AOper := [oM 139 16, oM 140 22, oM 141 23, oO 142 (.call 78 [(.tmp 140), (.tmp 141)]), oO 143 (.bslice 1 1 [(.v (.int .i64 0))] [(0, (.tmp 142))]), oO 144 (.append 1 8 (.tmp 139) (.tmp 143)), oM 145 17, oM 146 22, oM 147 23, oO 148 (.call 79 [(.tmp 146), (.tmp 147)]), oO 149 (.bslice 1 1 [(.v (.int .i64 0))] [(0, (.tmp 148))]), oO 150 (.append 1 8 (.tmp 145) (.tmp 149)), oM 16 144, oM 17 150]
def r26_103 : List AOper := [oO 151 (.bin .add 3 (.tmp 123) (kI 1)), oM 123 151]
def r26_104 : List AOper := [oO 152 (.bin .add 3 (.tmp 115) (kI 1)), oM 115 152]
def r26_106 : List AOper := [oM 154 16, oO 155 (.call 89 [(.tmp 154)]), oM 156 17, oO 157 (.call 90 [(.tmp 156)]), oO 158 (.build [(cI 0), (cI 0)] [(0, 1, (.tmp 155)), (1, 1, (.tmp 157))]), oO 159 (.call 77 [(.tmp 158)]), oM 153 159, oO 160 (.extract 0 (.tmp 153)), oO 161 (.extract 1 (.tmp 153)), oO 24 (.alloc [(cI 0), (cI 0)]), oD (.store 2 (.tmp 24) (.tmp 160)), oM 25 161]
def r26_109 : List AOper := [oM 162 25, oO 163 (.bin .neq 28 (.tmp 162) (kI 0))]
def r26_112 : List AOper := [⟨(some 164), (.build [(.d (.v (.string ⟨#[]⟩))), (cI 0), (cI 0), (cI 0), (cI 0), (cI 0), (cI 0), (cI 0), (cI 0), (cI 0)] []), none⟩, oM 165 25, oD (.store 10 (.tmp 2) (.tmp 164)), oM 3 165]
def r26_113 : List AOper := [oO 166 (.faddr 6 (.tmp 11)), oO 167 (.faddr 8 (.tmp 11)), oO 168 (.build [(.d (.v (.pointer none))), (.d (.v (.pointer none)))] [(0, 1, (.tmp 166)), (1, 1, (.tmp 167))]), oM 169 14, oO 170 (.index false 2 1 (.tmp 168) (.tmp 169)), oO 171 (.load true 2 (.tmp 24)), oO 172 (.nilchk (.tmp 170)), oD (.store 2 (.tmp 172) (.tmp 171))]
def r26_114 : List AOper := [oO 173 (.bin .add 3 (.tmp 106) (kI 1)), oM 106 173]
def r26_116 : List AOper := [oO 174 (.load true 10 (.tmp 11)), oD (.store 10 (.tmp 2) (.tmp 174)), oO 3 (.mv (kI 0))]
def tr26 : List (Nat × Tidy) := [tT 0 [1, 2], tT 1 [1, 2, 4], tT 2 [1, 2, 4, 43, 44], tT 3 [1, 2, 4, 43, 44, 45], tT 4 [1, 2, 4, 6, 43, 44], tT 5 [1, 2, 4, 6, 43, 44, 48], tT 6 [2, 3], tT 7 [1, 2, 4, 43, 44], tT 8 [1, 2, 4, 54], tT 9 [2, 3], tT 10 [1, 2, 4, 7, 8], tT 11 [1, 2, 4, 7, 8, 63], tT 12 [2, 3], tT 13 [1, 2, 4, 7, 8, 9], tT 14 [1, 2, 4, 7, 8, 9, 73], tT 15 [2, 3], tT 16 [1, 2, 4, 7, 9, 10], tT 17 [2, 4, 7, 9, 10, 11], tT 18 [2, 4, 7, 9, 11, 12, 13], tT 19 [2, 4, 7, 9, 11, 12, 97], tT 20 [2, 3], tT 21 [2, 4, 7, 9, 11, 12], tT 22 [2, 4, 11, 12, 105, 106], tT 23 [2, 4, 11, 12, 105, 106, 107], tT 24 [2, 4, 11, 12, 14, 15, 105, 106], tT 25 [2, 4, 11, 12, 14, 15, 16, 17, 105, 106], tT 26 [2, 4, 11, 12, 14, 16, 17, 105, 106, 114, 115], tT 27 [2, 4, 11, 12, 14, 16, 17, 105, 106, 114, 115, 116], tT 28 [2, 4, 11, 12, 14, 16, 17, 19, 105, 106, 114, 115], tT 29 [2, 4, 11, 12, 14, 16, 17, 19, 105, 106, 114, 115, 122, 123], tT 30 [2, 4, 11, 12, 14, 16, 17, 19, 105, 106, 114, 115, 122, 123, 124], tT 31 [2, 4, 11, 12, 14, 16, 17, 19, 21, 105, 106, 114, 115, 122, 123], tT 32 [2, 4, 11, 12, 14, 16, 17, 19, 22, 23, 105, 106, 114, 115, 122, 123], tT 33 [2, 4, 11, 12, 14, 16, 17, 19, 105, 106, 114, 115, 122, 123], tT 34 [2, 4, 11, 12, 14, 16, 17, 19, 105, 106, 114, 115, 122, 123], tT 35 [2, 4, 11, 12, 14, 16, 17, 105, 106, 114, 115], tT 36 [2, 4, 11, 12, 14, 24, 25, 105, 106], tT 37 [2, 4, 11, 12, 14, 24, 25, 105, 106, 163], tT 38 [2, 3], tT 39 [2, 4, 11, 12, 105, 106], tT 40 [2, 4, 11, 12, 105, 106], tT 41 [2, 3]]
def tl26 : List (Nat × Tidy) := [tT 3 [1, 2, 4, 43, 44], tT 23 [2, 4, 11, 12, 105, 106], (27, ⟨[2, 4, 11, 12, 14, 16, 17, 105, 106, 114, 115], true, [⟨false, 16, 0, 20016, 1⟩, ⟨false, 17, 0, 20017, 1⟩], []⟩), (30, ⟨[2, 4, 11, 12, 14, 16, 17, 19, 105, 106, 114, 115, 122, 123], true, [⟨false, 16, 0, 20016, 1⟩, ⟨false, 17, 0, 20017, 1⟩], []⟩)]
def rs26 : List AResV := [.cell 2 true 10, .tmp 3]
def p26_0_0 : PT St := pS [sl 1 (aV false [(cPtr 1 0)]), sl 2 (aV false [(cPtr 2 0)]), sl 4 (aV false [(cPtr 4 0)]), sl 43 (aV true [(cD (dI .i64)), (cD (dI .i64)), (cD (dI .i64)), (cD (dI .i64))]), sl 44 (aV false [(cD (dI .i64))]), sl 45 (aV false [(cD dB)])] [eBox 1 [(cD dS), (cD (dI .i64)), (cD (dI .i64)), (cD (dI .i64)), (cD (dI .i64)), (cD (dI .i64)), (cD (dI .i64)), (cD (dI .i64)), (cD (dI .i64)), (cD (dI .i64)), (cD (dI .i64)), (cD (dI .i64)), (cD (dI .i64)), (cD (dI .i64)), (cD (dI .i64)), (cD (dI .i64)), (cD (dI .i64)), (cD (dI .i64)), (cD (dI .i64))], eBox 2 [(cD dS), (cD (dI .i64)), (cD (dI .i64)), (cD (dI .i64)), (cD (dI .i64)), (cD (dI .i64)), (cD (dI .i64)), (cD (dI .i64)), (cD (dI .i64)), (cD (dI .i64))], eBox 4 [(cD (dI .i64)), (cD (dI .i64)), (cD (dI .i64))]]
def u26_0_0 {β : Type} (g : St → β) : Int → Int → Int → Int → Int → Bool → ByteArray → Int → Int → Int → Int → Int → Int → Int → Int → Int → Int → Int → Int → Int → Int → Int → Int → Int → Int → ByteArray → Int → Int → Int → Int → Int → Int → Int → Int → Int → Int → Int → Int → β := p26_0_0.unc g
def p26_0_1 : PT St := pS [sl 1 (aV false [(cPtr 1 0)]), sl 2 (aV false [(cPtr 2 0)]), sl 4 (aV false [(cPtr 4 0)]), sl 6 (aV false [(cD (dI .i64))]), sl 43 (aV true [(cD (dI .i64)), (cD (dI .i64)), (cD (dI .i64)), (cD (dI .i64))]), sl 44 (aV false [(cD (dI .i64))])] [eBox 1 [(cD dS), (cD (dI .i64)), (cD (dI .i64)), (cD (dI .i64)), (cD (dI .i64)), (cD (dI .i64)), (cD (dI .i64)), (cD (dI .i64)), (cD (dI .i64)), (cD (dI .i64)), (cD (dI .i64)), (cD (dI .i64)), (cD (dI .i64)), (cD (dI .i64)), (cD (dI .i64)), (cD (dI .i64)), (cD (dI .i64)), (cD (dI .i64)), (cD (dI .i64))], eBox 2 [(cD dS), (cD (dI .i64)), (cD (dI .i64)), (cD (dI .i64)), (cD (dI .i64)), (cD (dI .i64)), (cD (dI .i64)), (cD (dI .i64)), (cD (dI .i64)), (cD (dI .i64))], eBox 4 [(cD (dI .i64)), (cD (dI .i64)), (cD (dI .i64))]]
def u26_0_1 {β : Type} (g : St → β) : Int → Int → Int → Int → Int → Int → ByteArray → Int → Int → Int → Int → Int → Int → Int → Int → Int → Int → Int → Int → Int → Int → Int → Int → Int → Int → ByteArray → Int → Int → Int → Int → Int → Int → Int → Int → Int → Int → Int → Int → β := p26_0_1.unc g
def p26_0_2 : PT St := pS [sl 1 (aV false [(cPtr 1 0)]), sl 2 (aV false [(cPtr 2 0)]), sl 4 (aV false [(cPtr 4 0)]), sl 43 (aV true [(cD (dI .i64)), (cD (dI .i64)), (cD (dI .i64)), (cD (dI .i64))]), sl 44 (aV false [(cD (dI .i64))])] [eBox 1 [(cD dS), (cD (dI .i64)), (cD (dI .i64)), (cD (dI .i64)), (cD (dI .i64)), (cD (dI .i64)), (cD (dI .i64)), (cD (dI .i64)), (cD (dI .i64)), (cD (dI .i64)), (cD (dI .i64)), (cD (dI .i64)), (cD (dI .i64)), (cD (dI .i64)), (cD (dI .i64)), (cD (dI .i64)), (cD (dI .i64)), (cD (dI .i64)), (cD (dI .i64))], eBox 2 [(cD dS), (cD (dI .i64)), (cD (dI .i64)), (cD (dI .i64)), (cD (dI .i64)), (cD (dI .i64)), (cD (dI .i64)), (cD (dI .i64)), (cD (dI .i64)), (cD (dI .i64))], eBox 4 [(cD (dI .i64)), (cD (dI .i64)), (cD (dI .i64))]]
def u26_0_2 {β : Type} (g : St → β) : Int → Int → Int → Int → Int → ByteArray → Int → Int → Int → Int → Int → Int → Int → Int → Int → Int → Int → Int → Int → Int → Int → Int → Int → Int → ByteArray → Int → Int → Int → Int → Int → Int → Int → Int → Int → Int → Int → Int → β := p26_0_2.unc g
def p26_0_3 : PT St := pS [sl 2 (aV false [(cPtr 2 0)]), sl 3 (aV false [(cD (dI .i64))])] [eBox 2 [(cD dS), (cD (dI .i64)), (cD (dI .i64)), (cD (dI .i64)), (cD (dI .i64)), (cD (dI .i64)), (cD (dI .i64)), (cD (dI .i64)), (cD (dI .i64)), (cD (dI .i64))]]
def u26_0_3 {β : Type} (g : St → β) : Int → ByteArray → Int → Int → Int → Int → Int → Int → Int → Int → Int → β := p26_0_3.unc g
def p26_0_4 : PT St := pS [sl 2 (aV false [(cPtr 2 0)]), sl 4 (aV false [(cPtr 4 0)]), sl 11 (aV false [(cPtr 11 0)]), sl 12 (aV false [(cPtr 12 0)]), sl 105 (aV true [(cD (dI .i64)), (cD (dI .i64)), (cD (dI .i64)), (cD (dI .i64))]), sl 106 (aV false [(cD (dI .i64))]), sl 107 (aV false [(cD dB)])] [eBox 2 [(cD dS), (cD (dI .i64)), (cD (dI .i64)), (cD (dI .i64)), (cD (dI .i64)), (cD (dI .i64)), (cD (dI .i64)), (cD (dI .i64)), (cD (dI .i64)), (cD (dI .i64))], eBox 4 [(cD (dI .i64)), (cD (dI .i64)), (cD (dI .i64))], eBox 11 [(cD dS), (cD (dI .i64)), (cD (dI .i64)), (cD (dI .i64)), (cD (dI .i64)), (cD (dI .i64)), (cD (dI .i64)), (cD (dI .i64)), (cD (dI .i64)), (cD (dI .i64))], eBox 12 [(cD (dI .i64)), (cD (dI .i64))]]
def u26_0_4 {β : Type} (g : St → β) : Int → Int → Int → Int → Int → Bool → ByteArray → Int → Int → Int → Int → Int → Int → Int → Int → Int → Int → Int → Int → ByteArray → Int → Int → Int → Int → Int → Int → Int → Int → Int → Int → Int → β := p26_0_4.unc g
def p26_0_5 : PT St := pS [sl 2 (aV false [(cPtr 2 0)]), sl 4 (aV false [(cPtr 4 0)]), sl 11 (aV false [(cPtr 11 0)]), sl 12 (aV false [(cPtr 12 0)]), sl 14 (aV false [(cD (dI .i64))]), sl 15 (aV false [(cPtr 15 0)]), sl 105 (aV true [(cD (dI .i64)), (cD (dI .i64)), (cD (dI .i64)), (cD (dI .i64))]), sl 106 (aV false [(cD (dI .i64))])] [eBox 2 [(cD dS), (cD (dI .i64)), (cD (dI .i64)), (cD (dI .i64)), (cD (dI .i64)), (cD (dI .i64)), (cD (dI .i64)), (cD (dI .i64)), (cD (dI .i64)), (cD (dI .i64))], eBox 4 [(cD (dI .i64)), (cD (dI .i64)), (cD (dI .i64))], eBox 11 [(cD dS), (cD (dI .i64)), (cD (dI .i64)), (cD (dI .i64)), (cD (dI .i64)), (cD (dI .i64)), (cD (dI .i64)), (cD (dI .i64)), (cD (dI .i64)), (cD (dI .i64))], eBox 12 [(cD (dI .i64)), (cD (dI .i64))], eBox 15 [(cD (dI .i64)), (cD (dI .i64))]]
def u26_0_5 {β : Type} (g : St → β) : Int → Int → Int → Int → Int → Int → ByteArray → Int → Int → Int → Int → Int → Int → Int → Int → Int → Int → Int → Int → ByteArray → Int → Int → Int → Int → Int → Int → Int → Int → Int → Int → Int → Int → Int → β := p26_0_5.unc g
def p26_0_6 : PT St := pS [sl 2 (aV false [(cPtr 2 0)]), sl 4 (aV false [(cPtr 4 0)]), sl 11 (aV false [(cPtr 11 0)]), sl 12 (aV false [(cPtr 12 0)]), sl 14 (aV false [(cD (dI .i64))]), sl 16 (aV false [(cRef 20016)]), sl 17 (aV false [(cRef 20017)]), sl 105 (aV true [(cD (dI .i64)), (cD (dI .i64)), (cD (dI .i64)), (cD (dI .i64))]), sl 106 (aV false [(cD (dI .i64))]), sl 114 (aV true [(cD (dI .i64)), (cD (dI .i64))]), sl 115 (aV false [(cD (dI .i64))]), sl 116 (aV false [(cD dB)])] [eBox 2 [(cD dS), (cD (dI .i64)), (cD (dI .i64)), (cD (dI .i64)), (cD (dI .i64)), (cD (dI .i64)), (cD (dI .i64)), (cD (dI .i64)), (cD (dI .i64)), (cD (dI .i64))], eBox 4 [(cD (dI .i64)), (cD (dI .i64)), (cD (dI .i64))], eBox 11 [(cD dS), (cD (dI .i64)), (cD (dI .i64)), (cD (dI .i64)), (cD (dI .i64)), (cD (dI .i64)), (cD (dI .i64)), (cD (dI .i64)), (cD (dI .i64)), (cD (dI .i64))], eBox 12 [(cD (dI .i64)), (cD (dI .i64))], eOwn 20016 1, eOwn 20017 1]
def u26_0_6 {β : Type} (g : St → β) : Int → Int → Int → Int → Int → Int → Int → Int → Int → Bool → ByteArray → Int → Int → Int → Int → Int → Int → Int → Int → Int → Int → Int → Int → ByteArray → Int → Int → Int → Int → Int → Int → Int → Int → Int → Int → Int → Rows → Rows → β := p26_0_6.unc g
def p26_0_7 : PT St := pS [sl 2 (aV false [(cPtr 2 0)]), sl 4 (aV false [(cPtr 4 0)]), sl 11 (aV false [(cPtr 11 0)]), sl 12 (aV false [(cPtr 12 0)]), sl 14 (aV false [(cD (dI .i64))]), sl 16 (aV false [(cRef 20016)]), sl 17 (aV false [(cRef 20017)]), sl 19 (aV false [(cD (dI .i64))]), sl 105 (aV true [(cD (dI .i64)), (cD (dI .i64)), (cD (dI .i64)), (cD (dI .i64))]), sl 106 (aV false [(cD (dI .i64))]), sl 114 (aV true [(cD (dI .i64)), (cD (dI .i64))]), sl 115 (aV false [(cD (dI .i64))])] [eBox 2 [(cD dS), (cD (dI .i64)), (cD (dI .i64)), (cD (dI .i64)), (cD (dI .i64)), (cD (dI .i64)), (cD (dI .i64)), (cD (dI .i64)), (cD (dI .i64)), (cD (dI .i64))], eBox 4 [(cD (dI .i64)), (cD (dI .i64)), (cD (dI .i64))], eBox 11 [(cD dS), (cD (dI .i64)), (cD (dI .i64)), (cD (dI .i64)), (cD (dI .i64)), (cD (dI .i64)), (cD (dI .i64)), (cD (dI .i64)), (cD (dI .i64)), (cD (dI .i64))], eBox 12 [(cD (dI .i64)), (cD (dI .i64))], eOwn 20016 1, eOwn 20017 1]
def u26_0_7 {β : Type} (g : St → β) : Int → Int → Int → Int → Int → Int → Int → Int → Int → Int → ByteArray → Int → Int → Int → Int → Int → Int → Int → Int → Int → Int → Int → Int → ByteArray → Int → Int → Int → Int → Int → Int → Int → Int → Int → Int → Int → Rows → Rows → β := p26_0_7.unc g
def p26_0_8 : PT St := pS [sl 2 (aV false [(cPtr 2 0)]), sl 4 (aV false [(cPtr 4 0)]), sl 11 (aV false [(cPtr 11 0)]), sl 12 (aV false [(cPtr 12 0)]), sl 14 (aV false [(cD (dI .i64))]), sl 16 (aV false [(cRef 20016)]), sl 17 (aV false [(cRef 20017)]), sl 19 (aV false [(cD (dI .i64))]), sl 105 (aV true [(cD (dI .i64)), (cD (dI .i64)), (cD (dI .i64)), (cD (dI .i64))]), sl 106 (aV false [(cD (dI .i64))]), sl 114 (aV true [(cD (dI .i64)), (cD (dI .i64))]), sl 115 (aV false [(cD (dI .i64))]), sl 122 (aV true [(cD (dI .i64)), (cD (dI .i64))]), sl 123 (aV false [(cD (dI .i64))]), sl 124 (aV false [(cD dB)])] [eBox 2 [(cD dS), (cD (dI .i64)), (cD (dI .i64)), (cD (dI .i64)), (cD (dI .i64)), (cD (dI .i64)), (cD (dI .i64)), (cD (dI .i64)), (cD (dI .i64)), (cD (dI .i64))], eBox 4 [(cD (dI .i64)), (cD (dI .i64)), (cD (dI .i64))], eBox 11 [(cD dS), (cD (dI .i64)), (cD (dI .i64)), (cD (dI .i64)), (cD (dI .i64)), (cD (dI .i64)), (cD (dI .i64)), (cD (dI .i64)), (cD (dI .i64)), (cD (dI .i64))], eBox 12 [(cD (dI .i64)), (cD (dI .i64))], eOwn 20016 1, eOwn 20017 1]
def u26_0_8 {β : Type} (g : St → β) : Int → Int → Int → Int → Int → Int → Int → Int → Int → Int → Int → Int → Int → Bool → ByteArray → Int → Int → Int → Int → Int → Int → Int → Int → Int → Int → Int → Int → ByteArray → Int → Int → Int → Int → Int → Int → Int → Int → Int → Int → Int → Rows → Rows → β := p26_0_8.unc g
def p26_0_9 : PT St := pS [sl 2 (aV false [(cPtr 2 0)]), sl 4 (aV false [(cPtr 4 0)]), sl 11 (aV false [(cPtr 11 0)]), sl 12 (aV false [(cPtr 12 0)]), sl 14 (aV false [(cD (dI .i64))]), sl 16 (aV false [(cRef 20016)]), sl 17 (aV false [(cRef 20017)]), sl 19 (aV false [(cD (dI .i64))]), sl 21 (aV false [(cD (dI .i64))]), sl 105 (aV true [(cD (dI .i64)), (cD (dI .i64)), (cD (dI .i64)), (cD (dI .i64))]), sl 106 (aV false [(cD (dI .i64))]), sl 114 (aV true [(cD (dI .i64)), (cD (dI .i64))]), sl 115 (aV false [(cD (dI .i64))]), sl 122 (aV true [(cD (dI .i64)), (cD (dI .i64))]), sl 123 (aV false [(cD (dI .i64))])] [eBox 2 [(cD dS), (cD (dI .i64)), (cD (dI .i64)), (cD (dI .i64)), (cD (dI .i64)), (cD (dI .i64)), (cD (dI .i64)), (cD (dI .i64)), (cD (dI .i64)), (cD (dI .i64))], eBox 4 [(cD (dI .i64)), (cD (dI .i64)), (cD (dI .i64))], eBox 11 [(cD dS), (cD (dI .i64)), (cD (dI .i64)), (cD (dI .i64)), (cD (dI .i64)), (cD (dI .i64)), (cD (dI .i64)), (cD (dI .i64)), (cD (dI .i64)), (cD (dI .i64))], eBox 12 [(cD (dI .i64)), (cD (dI .i64))], eOwn 20016 1, eOwn 20017 1]
def u26_0_9 {β : Type} (g : St → β) : Int → Int → Int → Int → Int → Int → Int → Int → Int → Int → Int → Int → Int → Int → ByteArray → Int → Int → Int → Int → Int → Int → Int → Int → Int → Int → Int → Int → ByteArray → Int → Int → Int → Int → Int → Int → Int → Int → Int → Int → Int → Rows → Rows → β := p26_0_9.unc g
def p26_0_10 : PT St := pS [sl 2 (aV false [(cPtr 2 0)]), sl 4 (aV false [(cPtr 4 0)]), sl 11 (aV false [(cPtr 11 0)]), sl 12 (aV false [(cPtr 12 0)]), sl 14 (aV false [(cD (dI .i64))]), sl 16 (aV false [(cRef 20016)]), sl 17 (aV false [(cRef 20017)]), sl 19 (aV false [(cD (dI .i64))]), sl 105 (aV true [(cD (dI .i64)), (cD (dI .i64)), (cD (dI .i64)), (cD (dI .i64))]), sl 106 (aV false [(cD (dI .i64))]), sl 114 (aV true [(cD (dI .i64)), (cD (dI .i64))]), sl 115 (aV false [(cD (dI .i64))]), sl 122 (aV true [(cD (dI .i64)), (cD (dI .i64))]), sl 123 (aV false [(cD (dI .i64))])] [eBox 2 [(cD dS), (cD (dI .i64)), (cD (dI .i64)), (cD (dI .i64)), (cD (dI .i64)), (cD (dI .i64)), (cD (dI .i64)), (cD (dI .i64)), (cD (dI .i64)), (cD (dI .i64))], eBox 4 [(cD (dI .i64)), (cD (dI .i64)), (cD (dI .i64))], eBox 11 [(cD dS), (cD (dI .i64)), (cD (dI .i64)), (cD (dI .i64)), (cD (dI .i64)), (cD (dI .i64)), (cD (dI .i64)), (cD (dI .i64)), (cD (dI .i64)), (cD (dI .i64))], eBox 12 [(cD (dI .i64)), (cD (dI .i64))], eOwn 20016 1, eOwn 20017 1]
def u26_0_10 {β : Type} (g : St → β) : Int → Int → Int → Int → Int → Int → Int → Int → Int → Int → Int → Int → Int → ByteArray → Int → Int → Int → Int → Int → Int → Int → Int → Int → Int → Int → Int → ByteArray → Int → Int → Int → Int → Int → Int → Int → Int → Int → Int → Int → Rows → Rows → β := p26_0_10.unc g
def p26_0_11 : PT St := pS [sl 2 (aV false [(cPtr 2 0)]), sl 4 (aV false [(cPtr 4 0)]), sl 11 (aV false [(cPtr 11 0)]), sl 12 (aV false [(cPtr 12 0)]), sl 14 (aV false [(cD (dI .i64))]), sl 16 (aV false [(cRef 20016)]), sl 17 (aV false [(cRef 20017)]), sl 105 (aV true [(cD (dI .i64)), (cD (dI .i64)), (cD (dI .i64)), (cD (dI .i64))]), sl 106 (aV false [(cD (dI .i64))]), sl 114 (aV true [(cD (dI .i64)), (cD (dI .i64))]), sl 115 (aV false [(cD (dI .i64))])] [eBox 2 [(cD dS), (cD (dI .i64)), (cD (dI .i64)), (cD (dI .i64)), (cD (dI .i64)), (cD (dI .i64)), (cD (dI .i64)), (cD (dI .i64)), (cD (dI .i64)), (cD (dI .i64))], eBox 4 [(cD (dI .i64)), (cD (dI .i64)), (cD (dI .i64))], eBox 11 [(cD dS), (cD (dI .i64)), (cD (dI .i64)), (cD (dI .i64)), (cD (dI .i64)), (cD (dI .i64)), (cD (dI .i64)), (cD (dI .i64)), (cD (dI .i64)), (cD (dI .i64))], eBox 12 [(cD (dI .i64)), (cD (dI .i64))], eOwn 20016 1, eOwn 20017 1]
def u26_0_11 {β : Type} (g : St → β) : Int → Int → Int → Int → Int → Int → Int → Int → Int → ByteArray → Int → Int → Int → Int → Int → Int → Int → Int → Int → Int → Int → Int → ByteArray → Int → Int → Int → Int → Int → Int → Int → Int → Int → Int → Int → Rows → Rows → β := p26_0_11.unc g
def p26_0_12 : PT St := pS [sl 2 (aV false [(cPtr 2 0)]), sl 4 (aV false [(cPtr 4 0)]), sl 11 (aV false [(cPtr 11 0)]), sl 12 (aV false [(cPtr 12 0)]), sl 105 (aV true [(cD (dI .i64)), (cD (dI .i64)), (cD (dI .i64)), (cD (dI .i64))]), sl 106 (aV false [(cD (dI .i64))])] [eBox 2 [(cD dS), (cD (dI .i64)), (cD (dI .i64)), (cD (dI .i64)), (cD (dI .i64)), (cD (dI .i64)), (cD (dI .i64)), (cD (dI .i64)), (cD (dI .i64)), (cD (dI .i64))], eBox 4 [(cD (dI .i64)), (cD (dI .i64)), (cD (dI .i64))], eBox 11 [(cD dS), (cD (dI .i64)), (cD (dI .i64)), (cD (dI .i64)), (cD (dI .i64)), (cD (dI .i64)), (cD (dI .i64)), (cD (dI .i64)), (cD (dI .i64)), (cD (dI .i64))], eBox 12 [(cD (dI .i64)), (cD (dI .i64))]]
def u26_0_12 {β : Type} (g : St → β) : Int → Int → Int → Int → Int → ByteArray → Int → Int → Int → Int → Int → Int → Int → Int → Int → Int → Int → Int → ByteArray → Int → Int → Int → Int → Int → Int → Int → Int → Int → Int → Int → β := p26_0_12.unc g
def pr26_0_0 : PT (List RV) := pRs [pR true [rD dS, rD (dI .i64), rD (dI .i64), rD (dI .i64), rD (dI .i64), rD (dI .i64), rD (dI .i64), rD (dI .i64), rD (dI .i64), rD (dI .i64)], pR false [rD (dI .i64)]]
def ur26_0_0 {β : Type} (g : List RV → β) : ByteArray → Int → Int → Int → Int → Int → Int → Int → Int → Int → Int → β := pr26_0_0.unc g
def E26_0g (vf83_0 : Tf83_0) (vf60_0 : Tf60_0) (vf84_0 : Tf84_0) (vf23_0 : Tf23_0) (vf85_0 : Tf85_0) (vf88_0 : Tf88_0) (vf78_0 : Tf78_0) (vf79_0 : Tf79_0) (vf89_0 : Tf89_0) (vf90_0 : Tf90_0) (vf77_0 : Tf77_0) : EnvK := EnvK.of [⟨83, nt83, [⟨pa83_0, Fn83_0 vf83_0⟩]⟩, ⟨60, nt60, [⟨pa60_0, Fn60_0 vf60_0⟩]⟩, ⟨84, nt84, [⟨pa84_0, Fn84_0 vf84_0⟩]⟩, ⟨23, nt23, [⟨pa23_0, Fn23_0 vf23_0⟩]⟩, ⟨85, nt85, [⟨pa85_0, Fn85_0 vf85_0⟩]⟩, ⟨88, nt88, [⟨pa88_0, Fn88_0 vf88_0⟩]⟩, ⟨78, nt78, [⟨pa78_0, Fn78_0 vf78_0⟩]⟩, ⟨79, nt79, [⟨pa79_0, Fn79_0 vf79_0⟩]⟩, ⟨89, nt89, [⟨pa89_0, Fn89_0 vf89_0⟩]⟩, ⟨90, nt90, [⟨pa90_0, Fn90_0 vf90_0⟩]⟩, ⟨77, nt77, [⟨pa77_0, Fn77_0 vf77_0⟩]⟩] noSeq
noncomputable def E26_0 : EnvK := E26_0g f83_0 f60_0 f84_0 f23_0 f85_0 f88_0 f78_0 f79_0 f89_0 f90_0 f77_0
theorem eo26_0 : E26_0.Ok Try.prog := EnvK.of_ok noSeq_ok ⟨⟨io83_0, trivial⟩, ⟨io60_0, trivial⟩, ⟨io84_0, trivial⟩, ⟨io23_0, trivial⟩, ⟨io85_0, trivial⟩, ⟨io88_0, trivial⟩, ⟨io78_0, trivial⟩, ⟨io79_0, trivial⟩, ⟨io89_0, trivial⟩, ⟨io90_0, trivial⟩, ⟨io77_0, trivial⟩, trivial⟩
noncomputable def c26_0_98g  : MCode := (.region r26_99 [] (tO [2, 4, 11, 12, 14, 16, 17, 19, 21, 105, 106, 114, 115, 122, 123]))
noncomputable def c26_0_98 : MCode := c26_0_98g 
theorem g26_0_98 : c26_0_98.Good Try.prog E26_0 sh26 := trivial
--CODE 98 0
abbrev TJ26_0_4 : Type 1 := (α : Type) → Int → Int → Int → (Int → Option α) → Option α
def J26_0_4g  (α : Type) (x318 x319 x320 : Int) (k1 : Int → Option α) : Option α :=
 cK (x320 == 1)
 (k1 x319)
 (cK (x320 == 0)
 (k1 x318)
 (none))
noncomputable def J26_0_4 (α : Type) (x318 x319 x320 : Int) (k1 : Int → Option α) : Option α := J26_0_4g  α x318 x319 x320 k1
def F26_0_4 (v : TJ26_0_4) (α : Type) (K : Exit → St → Option α) : Int → Int → Int → Int → Int → Int → Int → Int → Int → Int → Int → Int → Int → Bool → ByteArray → Int → Int → Int → Int → Int → Int → Int → Int → Int → Int → Int → Int → ByteArray → Int → Int → Int → Int → Int → Int → Int → Int → Int → Int → Int → Rows → Rows → Option α := fun x308 x309 x310 x311 x312 x313 x314 x315 x316 x317 x318 x319 x320 x321 x322 x323 x324 x325 x326 x327 x328 x329 x330 x331 x332 x333 x334 x335 x336 x337 x338 x339 x340 x341 x342 x343 x344 x345 x346 x347 x348 => v α x318 x319 x320 (fun (y1 : Int) => u26_0_9 (K .normal) x308 x309 y1 x310 x311 x312 x313 x314 x315 x316 x317 x318 x319 x320 x322 x323 x324 x325 x326 x327 x328 x329 x330 x331 x332 x333 x334 x335 x336 x337 x338 x339 x340 x341 x342 x343 x344 x345 x346 x347 x348) 
theorem m26_0_4g (vf83_0 : Tf83_0) (vf60_0 : Tf60_0) (vf84_0 : Tf84_0) (vf23_0 : Tf23_0) (vf85_0 : Tf85_0) (vf88_0 : Tf88_0) (vf78_0 : Tf78_0) (vf79_0 : Tf79_0) (vf89_0 : Tf89_0) (vf90_0 : Tf90_0) (vf77_0 : Tf77_0)  (α : Type) (K : Exit → St → Option α) : F26_0_4 (J26_0_4g ) α K = p26_0_8.unc fun σ => runM Try.prog (E26_0g vf83_0 vf60_0 vf84_0 vf23_0 vf85_0 vf88_0 vf78_0 vf79_0 vf89_0 vf90_0 vf77_0) sh26 (c26_0_98g ) K σ := by kernel_rfl
theorem m26_0_4 : ∀ (α : Type) (K : Exit → St → Option α), F26_0_4 J26_0_4 α K = p26_0_8.unc fun σ => runM Try.prog E26_0 sh26 c26_0_98 K σ := m26_0_4g f83_0 f60_0 f84_0 f23_0 f85_0 f88_0 f78_0 f79_0 f89_0 f90_0 f77_0
noncomputable def c26_0_91g (vJ26_0_4 : TJ26_0_4) : MCode := (.seq (.region r26_93 [] (tO [2, 4, 11, 12, 14, 16, 17, 19, 105, 106, 114, 115, 122, 123, 124])) (.seq (.cond (.tmp 124) .skip (.exit 6)) (.seq (.block 7 (.seq (.mark [⟨p26_0_8, F26_0_4 vJ26_0_4⟩] c26_0_98) (.seq (.region r26_101 [] (tO [2, 4, 11, 12, 14, 16, 17, 19, 22, 23, 105, 106, 114, 115, 122, 123])) (.region r26_102 [] (tO [2, 4, 11, 12, 14, 16, 17, 19, 105, 106, 114, 115, 122, 123]))))) (.region r26_103 [] (tO [2, 4, 11, 12, 14, 16, 17, 19, 105, 106, 114, 115, 122, 123])))))
noncomputable def c26_0_91 : MCode := c26_0_91g J26_0_4
theorem g26_0_91 : c26_0_91.Good Try.prog E26_0 sh26 := ⟨trivial, ⟨⟨trivial, trivial⟩, ⟨⟨⟨g26_0_98, m26_0_4, trivial⟩, ⟨trivial, trivial⟩⟩, trivial⟩⟩⟩
--CODE 91 0
def S26_0_5g (vJ26_0_4 : TJ26_0_4) (vf78_0 : Tf78_0) (vf79_0 : Tf79_0) (α : Type) (x268 x277 x278 x290 x291 x292 x279 : Int) (x305 x306 : Rows) (kn : Int → Rows → Rows → Option α) (k1 : Int → Bool → Rows → Rows → Option α) : Option α :=
 cK (decide (x279 < 2))
 (vJ26_0_4 α x277 x278 x279
 (fun x350 => vf78_0 α (w64 (x268 * (w64 ((w64 (x292 * 1048576)) - (w64 (x350 * x290)))))) (w64 (x291 * 1048576))
 (fun x352 => gK (apOk 1 8 x305 [[DC.v (.int .i64 x352)]]) (vf79_0 α (w64 (x268 * (w64 ((w64 (x292 * 1048576)) - (w64 (x350 * x290)))))) (w64 (x291 * 1048576))
 (fun x353 => gK (apOk 1 8 x306 [[DC.v (.int .i64 x353)]]) (kn (w64 (x279 + 1)) (x305 ++ [[DC.v (.int .i64 x352)]]) (x306 ++ [[DC.v (.int .i64 x353)]])))))))
 (k1 x279 (decide (x279 < 2)) x305 x306)
noncomputable def S26_0_5 (α : Type) (x268 x277 x278 x290 x291 x292 x279 : Int) (x305 x306 : Rows) (kn : Int → Rows → Rows → Option α) (k1 : Int → Bool → Rows → Rows → Option α) : Option α := S26_0_5g J26_0_4 f78_0 f79_0 α x268 x277 x278 x290 x291 x292 x279 x305 x306 kn k1
noncomputable def R26_0_5 (α : Type) (x268 x277 x278 x290 x291 x292 : Int) (k1 : Int → Bool → Rows → Rows → Option α) : Nat → Int → Rows → Rows → Option α
 | 0, _, _, _ => none
 | n + 1, x279, x305, x306 => S26_0_5 α x268 x277 x278 x290 x291 x292 x279 x305 x306 (R26_0_5 α x268 x277 x278 x290 x291 x292 k1 n) k1
noncomputable def L26_0_5 (α : Type) (x268 x277 x278 x290 x291 x292 : Int) (k1 : Int → Bool → Rows → Rows → Option α) (x279 : Int) (x305 x306 : Rows) : Option α := R26_0_5 α x268 x277 x278 x290 x291 x292 k1 fuel x279 x305 x306
abbrev TL26_0_5 : Type 1 := (α : Type) → Int → Int → Int → Int → Int → Int → (Int → Bool → Rows → Rows → Option α) → Int → Rows → Rows → Option α
def F26_0_5 (v : TL26_0_5) (α : Type) (K : Exit → St → Option α) : Int → Int → Int → Int → Int → Int → Int → Int → Int → Int → Int → Int → Int → ByteArray → Int → Int → Int → Int → Int → Int → Int → Int → Int → Int → Int → Int → ByteArray → Int → Int → Int → Int → Int → Int → Int → Int → Int → Int → Int → Rows → Rows → Option α := fun x267 x268 x269 x270 x271 x272 x273 x274 x275 x276 x277 x278 x279 x280 x281 x282 x283 x284 x285 x286 x287 x288 x289 x290 x291 x292 x293 x294 x295 x296 x297 x298 x299 x300 x301 x302 x303 x304 x305 x306 => v α x268 x277 x278 x290 x291 x292 (fun (y1 : Int) (y2 : Bool) (y3 : Rows) (y4 : Rows) => u26_0_8 (K (.exit 6)) x267 x268 x269 x270 x271 x272 x273 x274 x275 x276 x277 x278 y1 y2 x280 x281 x282 x283 x284 x285 x286 x287 x288 x289 x290 x291 x292 x293 x294 x295 x296 x297 x298 x299 x300 x301 x302 x303 x304 y3 y4) x279 x305 x306
theorem r26_0_5g (vf83_0 : Tf83_0) (vf60_0 : Tf60_0) (vf84_0 : Tf84_0) (vf23_0 : Tf23_0) (vf85_0 : Tf85_0) (vf88_0 : Tf88_0) (vf78_0 : Tf78_0) (vf79_0 : Tf79_0) (vf89_0 : Tf89_0) (vf90_0 : Tf90_0) (vf77_0 : Tf77_0) (vJ26_0_4 : TJ26_0_4) (α : Type) (K : Exit → St → Option α) (Kn : St → Option α) (x267 x268 x269 x270 x271 x272 x273 x274 x275 x276 x277 x278 x279 : Int) (x280 : ByteArray) (x281 x282 x283 x284 x285 x286 x287 x288 x289 x290 x291 x292 : Int) (x293 : ByteArray) (x294 x295 x296 x297 x298 x299 x300 x301 x302 x303 x304 : Int) (x305 x306 : Rows) : u26_0_10 (fun σ => runM Try.prog (E26_0g vf83_0 vf60_0 vf84_0 vf23_0 vf85_0 vf88_0 vf78_0 vf79_0 vf89_0 vf90_0 vf77_0) sh26 (c26_0_91g vJ26_0_4) (thenK (fun σ => tidyK td26_91 σ Kn) K) σ) x267 x268 x269 x270 x271 x272 x273 x274 x275 x276 x277 x278 x279 x280 x281 x282 x283 x284 x285 x286 x287 x288 x289 x290 x291 x292 x293 x294 x295 x296 x297 x298 x299 x300 x301 x302 x303 x304 x305 x306 = S26_0_5g vJ26_0_4 vf78_0 vf79_0 α x268 x277 x278 x290 x291 x292 x279 x305 x306 (fun x279 x305 x306 => u26_0_10 Kn x267 x268 x269 x270 x271 x272 x273 x274 x275 x276 x277 x278 x279 x280 x281 x282 x283 x284 x285 x286 x287 x288 x289 x290 x291 x292 x293 x294 x295 x296 x297 x298 x299 x300 x301 x302 x303 x304 x305 x306) (fun (y1 : Int) (y2 : Bool) (y3 : Rows) (y4 : Rows) => u26_0_8 (K (.exit 6)) x267 x268 x269 x270 x271 x272 x273 x274 x275 x276 x277 x278 y1 y2 x280 x281 x282 x283 x284 x285 x286 x287 x288 x289 x290 x291 x292 x293 x294 x295 x296 x297 x298 x299 x300 x301 x302 x303 x304 y3 y4) := by kernel_rfl
theorem r26_0_5 (α : Type) (K : Exit → St → Option α) (Kn : St → Option α) (x267 x268 x269 x270 x271 x272 x273 x274 x275 x276 x277 x278 x279 : Int) (x280 : ByteArray) (x281 x282 x283 x284 x285 x286 x287 x288 x289 x290 x291 x292 : Int) (x293 : ByteArray) (x294 x295 x296 x297 x298 x299 x300 x301 x302 x303 x304 : Int) (x305 x306 : Rows) : u26_0_10 (fun σ => runM Try.prog E26_0 sh26 c26_0_91 (thenK (fun σ => tidyK td26_91 σ Kn) K) σ) x267 x268 x269 x270 x271 x272 x273 x274 x275 x276 x277 x278 x279 x280 x281 x282 x283 x284 x285 x286 x287 x288 x289 x290 x291 x292 x293 x294 x295 x296 x297 x298 x299 x300 x301 x302 x303 x304 x305 x306 = S26_0_5 α x268 x277 x278 x290 x291 x292 x279 x305 x306 (fun x279 x305 x306 => u26_0_10 Kn x267 x268 x269 x270 x271 x272 x273 x274 x275 x276 x277 x278 x279 x280 x281 x282 x283 x284 x285 x286 x287 x288 x289 x290 x291 x292 x293 x294 x295 x296 x297 x298 x299 x300 x301 x302 x303 x304 x305 x306) (fun (y1 : Int) (y2 : Bool) (y3 : Rows) (y4 : Rows) => u26_0_8 (K (.exit 6)) x267 x268 x269 x270 x271 x272 x273 x274 x275 x276 x277 x278 y1 y2 x280 x281 x282 x283 x284 x285 x286 x287 x288 x289 x290 x291 x292 x293 x294 x295 x296 x297 x298 x299 x300 x301 x302 x303 x304 y3 y4) := r26_0_5g f83_0 f60_0 f84_0 f23_0 f85_0 f88_0 f78_0 f79_0 f89_0 f90_0 f77_0 J26_0_4 α K Kn x267 x268 x269 x270 x271 x272 x273 x274 x275 x276 x277 x278 x279 x280 x281 x282 x283 x284 x285 x286 x287 x288 x289 x290 x291 x292 x293 x294 x295 x296 x297 x298 x299 x300 x301 x302 x303 x304 x305 x306
theorem t26_0_5 (α : Type) (K : Exit → St → Option α) : ∀ (n : Nat) (x267 x268 x269 x270 x271 x272 x273 x274 x275 x276 x277 x278 x279 : Int) (x280 : ByteArray) (x281 x282 x283 x284 x285 x286 x287 x288 x289 x290 x291 x292 : Int) (x293 : ByteArray) (x294 x295 x296 x297 x298 x299 x300 x301 x302 x303 x304 : Int) (x305 x306 : Rows), R26_0_5 α x268 x277 x278 x290 x291 x292 (fun (y1 : Int) (y2 : Bool) (y3 : Rows) (y4 : Rows) => u26_0_8 (K (.exit 6)) x267 x268 x269 x270 x271 x272 x273 x274 x275 x276 x277 x278 y1 y2 x280 x281 x282 x283 x284 x285 x286 x287 x288 x289 x290 x291 x292 x293 x294 x295 x296 x297 x298 x299 x300 x301 x302 x303 x304 y3 y4) n x279 x305 x306 = u26_0_10 (loopT (runM Try.prog E26_0 sh26 c26_0_91) td26_91 K n) x267 x268 x269 x270 x271 x272 x273 x274 x275 x276 x277 x278 x279 x280 x281 x282 x283 x284 x285 x286 x287 x288 x289 x290 x291 x292 x293 x294 x295 x296 x297 x298 x299 x300 x301 x302 x303 x304 x305 x306 := by
 intro n
 induction n with
 | zero => intros; rfl
 | succ n ih => intro x267 x268 x269 x270 x271 x272 x273 x274 x275 x276 x277 x278 x279 x280 x281 x282 x283 x284 x285 x286 x287 x288 x289 x290 x291 x292 x293 x294 x295 x296 x297 x298 x299 x300 x301 x302 x303 x304 x305 x306; exact (congrArg (fun kn => S26_0_5 α x268 x277 x278 x290 x291 x292 x279 x305 x306 kn (fun (y1 : Int) (y2 : Bool) (y3 : Rows) (y4 : Rows) => u26_0_8 (K (.exit 6)) x267 x268 x269 x270 x271 x272 x273 x274 x275 x276 x277 x278 y1 y2 x280 x281 x282 x283 x284 x285 x286 x287 x288 x289 x290 x291 x292 x293 x294 x295 x296 x297 x298 x299 x300 x301 x302 x303 x304 y3 y4)) (funext fun x279 => funext fun x305 => funext fun x306 => ih x267 x268 x269 x270 x271 x272 x273 x274 x275 x276 x277 x278 x279 x280 x281 x282 x283 x284 x285 x286 x287 x288 x289 x290 x291 x292 x293 x294 x295 x296 x297 x298 x299 x300 x301 x302 x303 x304 x305 x306)).trans (r26_0_5 α K (loopT (runM Try.prog E26_0 sh26 c26_0_91) td26_91 K n) x267 x268 x269 x270 x271 x272 x273 x274 x275 x276 x277 x278 x279 x280 x281 x282 x283 x284 x285 x286 x287 x288 x289 x290 x291 x292 x293 x294 x295 x296 x297 x298 x299 x300 x301 x302 x303 x304 x305 x306).symm
theorem m26_0_5 : ∀ (α : Type) (K : Exit → St → Option α), F26_0_5 L26_0_5 α K = p26_0_10.unc fun σ => loopT (runM Try.prog E26_0 sh26 c26_0_91) td26_91 K fuel σ := fun α K => funext fun x267 => funext fun x268 => funext fun x269 => funext fun x270 => funext fun x271 => funext fun x272 => funext fun x273 => funext fun x274 => funext fun x275 => funext fun x276 => funext fun x277 => funext fun x278 => funext fun x279 => funext fun x280 => funext fun x281 => funext fun x282 => funext fun x283 => funext fun x284 => funext fun x285 => funext fun x286 => funext fun x287 => funext fun x288 => funext fun x289 => funext fun x290 => funext fun x291 => funext fun x292 => funext fun x293 => funext fun x294 => funext fun x295 => funext fun x296 => funext fun x297 => funext fun x298 => funext fun x299 => funext fun x300 => funext fun x301 => funext fun x302 => funext fun x303 => funext fun x304 => funext fun x305 => funext fun x306 => t26_0_5 α K fuel x267 x268 x269 x270 x271 x272 x273 x274 x275 x276 x277 x278 x279 x280 x281 x282 x283 x284 x285 x286 x287 x288 x289 x290 x291 x292 x293 x294 x295 x296 x297 x298 x299 x300 x301 x302 x303 x304 x305 x306
noncomputable def c26_0_86g  : MCode := (.region r26_87 [] (tO [2, 4, 11, 12, 14, 16, 17, 19, 105, 106, 114, 115]))
noncomputable def c26_0_86 : MCode := c26_0_86g 
theorem g26_0_86 : c26_0_86.Good Try.prog E26_0 sh26 := trivial
--CODE 86 0
abbrev TJ26_0_3 : Type 1 := (α : Type) → Int → Int → Int → (Int → Option α) → Option α
def J26_0_3g  (α : Type) (x233 x234 x235 : Int) (k1 : Int → Option α) : Option α :=
 cK (x235 == 1)
 (k1 x234)
 (cK (x235 == 0)
 (k1 x233)
 (none))
noncomputable def J26_0_3 (α : Type) (x233 x234 x235 : Int) (k1 : Int → Option α) : Option α := J26_0_3g  α x233 x234 x235 k1
def F26_0_3 (v : TJ26_0_3) (α : Type) (K : Exit → St → Option α) : Int → Int → Int → Int → Int → Int → Int → Int → Int → Bool → ByteArray → Int → Int → Int → Int → Int → Int → Int → Int → Int → Int → Int → Int → ByteArray → Int → Int → Int → Int → Int → Int → Int → Int → Int → Int → Int → Rows → Rows → Option α := fun x227 x228 x229 x230 x231 x232 x233 x234 x235 x236 x237 x238 x239 x240 x241 x242 x243 x244 x245 x246 x247 x248 x249 x250 x251 x252 x253 x254 x255 x256 x257 x258 x259 x260 x261 x262 x263 => v α x233 x234 x235 (fun (y1 : Int) => u26_0_7 (K .normal) x227 y1 x228 x229 x230 x231 x232 x233 x234 x235 x237 x238 x239 x240 x241 x242 x243 x244 x245 x246 x247 x248 x249 x250 x251 x252 x253 x254 x255 x256 x257 x258 x259 x260 x261 x262 x263) 
theorem m26_0_3g (vf83_0 : Tf83_0) (vf60_0 : Tf60_0) (vf84_0 : Tf84_0) (vf23_0 : Tf23_0) (vf85_0 : Tf85_0) (vf88_0 : Tf88_0) (vf78_0 : Tf78_0) (vf79_0 : Tf79_0) (vf89_0 : Tf89_0) (vf90_0 : Tf90_0) (vf77_0 : Tf77_0)  (α : Type) (K : Exit → St → Option α) : F26_0_3 (J26_0_3g ) α K = p26_0_6.unc fun σ => runM Try.prog (E26_0g vf83_0 vf60_0 vf84_0 vf23_0 vf85_0 vf88_0 vf78_0 vf79_0 vf89_0 vf90_0 vf77_0) sh26 (c26_0_86g ) K σ := by kernel_rfl
theorem m26_0_3 : ∀ (α : Type) (K : Exit → St → Option α), F26_0_3 J26_0_3 α K = p26_0_6.unc fun σ => runM Try.prog E26_0 sh26 c26_0_86 K σ := m26_0_3g f83_0 f60_0 f84_0 f23_0 f85_0 f88_0 f78_0 f79_0 f89_0 f90_0 f77_0
noncomputable def c26_0_79g (vJ26_0_3 : TJ26_0_3) (vL26_0_5 : TL26_0_5) : MCode := (.seq (.region r26_81 [] (tO [2, 4, 11, 12, 14, 16, 17, 105, 106, 114, 115, 116])) (.seq (.cond (.tmp 116) .skip (.exit 4)) (.seq (.block 5 (.seq (.mark [⟨p26_0_6, F26_0_3 vJ26_0_3⟩] c26_0_86) (.seq (.region r26_89 [] (tO [2, 4, 11, 12, 14, 16, 17, 19, 105, 106, 114, 115, 122, 123])) (.block 6 (.loop td26_91 [⟨p26_0_10, F26_0_5 vL26_0_5⟩] c26_0_91))))) (.region r26_104 [] (tO [2, 4, 11, 12, 14, 16, 17, 105, 106, 114, 115])))))
noncomputable def c26_0_79 : MCode := c26_0_79g J26_0_3 L26_0_5
theorem g26_0_79 : c26_0_79.Good Try.prog E26_0 sh26 := ⟨trivial, ⟨⟨trivial, trivial⟩, ⟨⟨⟨g26_0_86, m26_0_3, trivial⟩, ⟨trivial, ⟨g26_0_91, m26_0_5, trivial⟩⟩⟩, trivial⟩⟩⟩
--CODE 79 0
def S26_0_6g (vJ26_0_3 : TJ26_0_3) (vL26_0_5 : TL26_0_5) (α : Type) (x196 x197 x209 x210 x211 x222 x223 x198 : Int) (x224 x225 : Rows) (kn : Int → Rows → Rows → Option α) (k1 : Int → Bool → Rows → Rows → Option α) : Option α :=
 cK (decide (x198 < 2))
 (vJ26_0_3 α x196 x197 x198
 (fun x265 => vL26_0_5 α x265 x222 x223 x209 x210 x211
 (fun x354 x355 x356 x357 => kn (w64 (x198 + 1)) x356 x357) 0 x224 x225))
 (k1 x198 (decide (x198 < 2)) x224 x225)
noncomputable def S26_0_6 (α : Type) (x196 x197 x209 x210 x211 x222 x223 x198 : Int) (x224 x225 : Rows) (kn : Int → Rows → Rows → Option α) (k1 : Int → Bool → Rows → Rows → Option α) : Option α := S26_0_6g J26_0_3 L26_0_5 α x196 x197 x209 x210 x211 x222 x223 x198 x224 x225 kn k1
noncomputable def R26_0_6 (α : Type) (x196 x197 x209 x210 x211 x222 x223 : Int) (k1 : Int → Bool → Rows → Rows → Option α) : Nat → Int → Rows → Rows → Option α
 | 0, _, _, _ => none
 | n + 1, x198, x224, x225 => S26_0_6 α x196 x197 x209 x210 x211 x222 x223 x198 x224 x225 (R26_0_6 α x196 x197 x209 x210 x211 x222 x223 k1 n) k1
noncomputable def L26_0_6 (α : Type) (x196 x197 x209 x210 x211 x222 x223 : Int) (k1 : Int → Bool → Rows → Rows → Option α) (x198 : Int) (x224 x225 : Rows) : Option α := R26_0_6 α x196 x197 x209 x210 x211 x222 x223 k1 fuel x198 x224 x225
abbrev TL26_0_6 : Type 1 := (α : Type) → Int → Int → Int → Int → Int → Int → Int → (Int → Bool → Rows → Rows → Option α) → Int → Rows → Rows → Option α
def F26_0_6 (v : TL26_0_6) (α : Type) (K : Exit → St → Option α) : Int → Int → Int → Int → Int → Int → Int → Int → Int → ByteArray → Int → Int → Int → Int → Int → Int → Int → Int → Int → Int → Int → Int → ByteArray → Int → Int → Int → Int → Int → Int → Int → Int → Int → Int → Int → Rows → Rows → Option α := fun x190 x191 x192 x193 x194 x195 x196 x197 x198 x199 x200 x201 x202 x203 x204 x205 x206 x207 x208 x209 x210 x211 x212 x213 x214 x215 x216 x217 x218 x219 x220 x221 x222 x223 x224 x225 => v α x196 x197 x209 x210 x211 x222 x223 (fun (y1 : Int) (y2 : Bool) (y3 : Rows) (y4 : Rows) => u26_0_6 (K (.exit 4)) x190 x191 x192 x193 x194 x195 x196 x197 y1 y2 x199 x200 x201 x202 x203 x204 x205 x206 x207 x208 x209 x210 x211 x212 x213 x214 x215 x216 x217 x218 x219 x220 x221 x222 x223 y3 y4) x198 x224 x225
theorem r26_0_6g (vf83_0 : Tf83_0) (vf60_0 : Tf60_0) (vf84_0 : Tf84_0) (vf23_0 : Tf23_0) (vf85_0 : Tf85_0) (vf88_0 : Tf88_0) (vf78_0 : Tf78_0) (vf79_0 : Tf79_0) (vf89_0 : Tf89_0) (vf90_0 : Tf90_0) (vf77_0 : Tf77_0) (vJ26_0_3 : TJ26_0_3) (vL26_0_5 : TL26_0_5) (α : Type) (K : Exit → St → Option α) (Kn : St → Option α) (x190 x191 x192 x193 x194 x195 x196 x197 x198 : Int) (x199 : ByteArray) (x200 x201 x202 x203 x204 x205 x206 x207 x208 x209 x210 x211 : Int) (x212 : ByteArray) (x213 x214 x215 x216 x217 x218 x219 x220 x221 x222 x223 : Int) (x224 x225 : Rows) : u26_0_11 (fun σ => runM Try.prog (E26_0g vf83_0 vf60_0 vf84_0 vf23_0 vf85_0 vf88_0 vf78_0 vf79_0 vf89_0 vf90_0 vf77_0) sh26 (c26_0_79g vJ26_0_3 vL26_0_5) (thenK (fun σ => tidyK td26_79 σ Kn) K) σ) x190 x191 x192 x193 x194 x195 x196 x197 x198 x199 x200 x201 x202 x203 x204 x205 x206 x207 x208 x209 x210 x211 x212 x213 x214 x215 x216 x217 x218 x219 x220 x221 x222 x223 x224 x225 = S26_0_6g vJ26_0_3 vL26_0_5 α x196 x197 x209 x210 x211 x222 x223 x198 x224 x225 (fun x198 x224 x225 => u26_0_11 Kn x190 x191 x192 x193 x194 x195 x196 x197 x198 x199 x200 x201 x202 x203 x204 x205 x206 x207 x208 x209 x210 x211 x212 x213 x214 x215 x216 x217 x218 x219 x220 x221 x222 x223 x224 x225) (fun (y1 : Int) (y2 : Bool) (y3 : Rows) (y4 : Rows) => u26_0_6 (K (.exit 4)) x190 x191 x192 x193 x194 x195 x196 x197 y1 y2 x199 x200 x201 x202 x203 x204 x205 x206 x207 x208 x209 x210 x211 x212 x213 x214 x215 x216 x217 x218 x219 x220 x221 x222 x223 y3 y4) := by kernel_rfl
theorem r26_0_6 (α : Type) (K : Exit → St → Option α) (Kn : St → Option α) (x190 x191 x192 x193 x194 x195 x196 x197 x198 : Int) (x199 : ByteArray) (x200 x201 x202 x203 x204 x205 x206 x207 x208 x209 x210 x211 : Int) (x212 : ByteArray) (x213 x214 x215 x216 x217 x218 x219 x220 x221 x222 x223 : Int) (x224 x225 : Rows) : u26_0_11 (fun σ => runM Try.prog E26_0 sh26 c26_0_79 (thenK (fun σ => tidyK td26_79 σ Kn) K) σ) x190 x191 x192 x193 x194 x195 x196 x197 x198 x199 x200 x201 x202 x203 x204 x205 x206 x207 x208 x209 x210 x211 x212 x213 x214 x215 x216 x217 x218 x219 x220 x221 x222 x223 x224 x225 = S26_0_6 α x196 x197 x209 x210 x211 x222 x223 x198 x224 x225 (fun x198 x224 x225 => u26_0_11 Kn x190 x191 x192 x193 x194 x195 x196 x197 x198 x199 x200 x201 x202 x203 x204 x205 x206 x207 x208 x209 x210 x211 x212 x213 x214 x215 x216 x217 x218 x219 x220 x221 x222 x223 x224 x225) (fun (y1 : Int) (y2 : Bool) (y3 : Rows) (y4 : Rows) => u26_0_6 (K (.exit 4)) x190 x191 x192 x193 x194 x195 x196 x197 y1 y2 x199 x200 x201 x202 x203 x204 x205 x206 x207 x208 x209 x210 x211 x212 x213 x214 x215 x216 x217 x218 x219 x220 x221 x222 x223 y3 y4) := r26_0_6g f83_0 f60_0 f84_0 f23_0 f85_0 f88_0 f78_0 f79_0 f89_0 f90_0 f77_0 J26_0_3 L26_0_5 α K Kn x190 x191 x192 x193 x194 x195 x196 x197 x198 x199 x200 x201 x202 x203 x204 x205 x206 x207 x208 x209 x210 x211 x212 x213 x214 x215 x216 x217 x218 x219 x220 x221 x222 x223 x224 x225
theorem t26_0_6 (α : Type) (K : Exit → St → Option α) : ∀ (n : Nat) (x190 x191 x192 x193 x194 x195 x196 x197 x198 : Int) (x199 : ByteArray) (x200 x201 x202 x203 x204 x205 x206 x207 x208 x209 x210 x211 : Int) (x212 : ByteArray) (x213 x214 x215 x216 x217 x218 x219 x220 x221 x222 x223 : Int) (x224 x225 : Rows), R26_0_6 α x196 x197 x209 x210 x211 x222 x223 (fun (y1 : Int) (y2 : Bool) (y3 : Rows) (y4 : Rows) => u26_0_6 (K (.exit 4)) x190 x191 x192 x193 x194 x195 x196 x197 y1 y2 x199 x200 x201 x202 x203 x204 x205 x206 x207 x208 x209 x210 x211 x212 x213 x214 x215 x216 x217 x218 x219 x220 x221 x222 x223 y3 y4) n x198 x224 x225 = u26_0_11 (loopT (runM Try.prog E26_0 sh26 c26_0_79) td26_79 K n) x190 x191 x192 x193 x194 x195 x196 x197 x198 x199 x200 x201 x202 x203 x204 x205 x206 x207 x208 x209 x210 x211 x212 x213 x214 x215 x216 x217 x218 x219 x220 x221 x222 x223 x224 x225 := by
 intro n
 induction n with
 | zero => intros; rfl
 | succ n ih => intro x190 x191 x192 x193 x194 x195 x196 x197 x198 x199 x200 x201 x202 x203 x204 x205 x206 x207 x208 x209 x210 x211 x212 x213 x214 x215 x216 x217 x218 x219 x220 x221 x222 x223 x224 x225; exact (congrArg (fun kn => S26_0_6 α x196 x197 x209 x210 x211 x222 x223 x198 x224 x225 kn (fun (y1 : Int) (y2 : Bool) (y3 : Rows) (y4 : Rows) => u26_0_6 (K (.exit 4)) x190 x191 x192 x193 x194 x195 x196 x197 y1 y2 x199 x200 x201 x202 x203 x204 x205 x206 x207 x208 x209 x210 x211 x212 x213 x214 x215 x216 x217 x218 x219 x220 x221 x222 x223 y3 y4)) (funext fun x198 => funext fun x224 => funext fun x225 => ih x190 x191 x192 x193 x194 x195 x196 x197 x198 x199 x200 x201 x202 x203 x204 x205 x206 x207 x208 x209 x210 x211 x212 x213 x214 x215 x216 x217 x218 x219 x220 x221 x222 x223 x224 x225)).trans (r26_0_6 α K (loopT (runM Try.prog E26_0 sh26 c26_0_79) td26_79 K n) x190 x191 x192 x193 x194 x195 x196 x197 x198 x199 x200 x201 x202 x203 x204 x205 x206 x207 x208 x209 x210 x211 x212 x213 x214 x215 x216 x217 x218 x219 x220 x221 x222 x223 x224 x225).symm
theorem m26_0_6 : ∀ (α : Type) (K : Exit → St → Option α), F26_0_6 L26_0_6 α K = p26_0_11.unc fun σ => loopT (runM Try.prog E26_0 sh26 c26_0_79) td26_79 K fuel σ := fun α K => funext fun x190 => funext fun x191 => funext fun x192 => funext fun x193 => funext fun x194 => funext fun x195 => funext fun x196 => funext fun x197 => funext fun x198 => funext fun x199 => funext fun x200 => funext fun x201 => funext fun x202 => funext fun x203 => funext fun x204 => funext fun x205 => funext fun x206 => funext fun x207 => funext fun x208 => funext fun x209 => funext fun x210 => funext fun x211 => funext fun x212 => funext fun x213 => funext fun x214 => funext fun x215 => funext fun x216 => funext fun x217 => funext fun x218 => funext fun x219 => funext fun x220 => funext fun x221 => funext fun x222 => funext fun x223 => funext fun x224 => funext fun x225 => t26_0_6 α K fuel x190 x191 x192 x193 x194 x195 x196 x197 x198 x199 x200 x201 x202 x203 x204 x205 x206 x207 x208 x209 x210 x211 x212 x213 x214 x215 x216 x217 x218 x219 x220 x221 x222 x223 x224 x225
noncomputable def c26_0_71g  : MCode := (.region r26_72 [] (tO [2, 4, 11, 12, 14, 15, 105, 106]))
noncomputable def c26_0_71 : MCode := c26_0_71g 
theorem g26_0_71 : c26_0_71.Good Try.prog E26_0 sh26 := trivial
--CODE 71 0
abbrev TJ26_0_2 : Type 1 := (α : Type) → Int → Int → Int → Int → Int → (Int → Int → Option α) → Option α
def J26_0_2g  (α : Type) (x155 x156 x157 x158 x159 : Int) (k1 : Int → Int → Option α) : Option α :=
 cK (x159 == 1)
 (k1 x157 x158)
 (cK (x159 == 0)
 (k1 x155 x156)
 (none))
noncomputable def J26_0_2 (α : Type) (x155 x156 x157 x158 x159 : Int) (k1 : Int → Int → Option α) : Option α := J26_0_2g  α x155 x156 x157 x158 x159 k1
def F26_0_2 (v : TJ26_0_2) (α : Type) (K : Exit → St → Option α) : Int → Int → Int → Int → Int → Bool → ByteArray → Int → Int → Int → Int → Int → Int → Int → Int → Int → Int → Int → Int → ByteArray → Int → Int → Int → Int → Int → Int → Int → Int → Int → Int → Int → Option α := fun x155 x156 x157 x158 x159 x160 x161 x162 x163 x164 x165 x166 x167 x168 x169 x170 x171 x172 x173 x174 x175 x176 x177 x178 x179 x180 x181 x182 x183 x184 x185 => v α x155 x156 x157 x158 x159 (fun (y1 : Int) (y2 : Int) => u26_0_5 (K .normal) x159 x155 x156 x157 x158 x159 x161 x162 x163 x164 x165 x166 x167 x168 x169 x170 x171 x172 x173 x174 x175 x176 x177 x178 x179 x180 x181 x182 x183 x184 x185 y1 y2) 
theorem m26_0_2g (vf83_0 : Tf83_0) (vf60_0 : Tf60_0) (vf84_0 : Tf84_0) (vf23_0 : Tf23_0) (vf85_0 : Tf85_0) (vf88_0 : Tf88_0) (vf78_0 : Tf78_0) (vf79_0 : Tf79_0) (vf89_0 : Tf89_0) (vf90_0 : Tf90_0) (vf77_0 : Tf77_0)  (α : Type) (K : Exit → St → Option α) : F26_0_2 (J26_0_2g ) α K = p26_0_4.unc fun σ => runM Try.prog (E26_0g vf83_0 vf60_0 vf84_0 vf23_0 vf85_0 vf88_0 vf78_0 vf79_0 vf89_0 vf90_0 vf77_0) sh26 (c26_0_71g ) K σ := by kernel_rfl
theorem m26_0_2 : ∀ (α : Type) (K : Exit → St → Option α), F26_0_2 J26_0_2 α K = p26_0_4.unc fun σ => runM Try.prog E26_0 sh26 c26_0_71 K σ := m26_0_2g f83_0 f60_0 f84_0 f23_0 f85_0 f88_0 f78_0 f79_0 f89_0 f90_0 f77_0
noncomputable def c26_0_64g (vJ26_0_2 : TJ26_0_2) (vL26_0_6 : TL26_0_6) : MCode := (.seq (.region r26_66 [] (tO [2, 4, 11, 12, 105, 106, 107])) (.seq (.cond (.tmp 107) .skip (.exit 2)) (.seq (.block 3 (.seq (.mark [⟨p26_0_4, F26_0_2 vJ26_0_2⟩] c26_0_71) (.seq (.region r26_74 [] (tO [2, 4, 11, 12, 14, 15, 16, 17, 105, 106])) (.seq (.seq (.region r26_77 [] (tO [2, 4, 11, 12, 14, 16, 17, 105, 106, 114, 115])) (.block 4 (.loop td26_79 [⟨p26_0_11, F26_0_6 vL26_0_6⟩] c26_0_79))) (.seq (.region r26_106 [] (tO [2, 4, 11, 12, 14, 24, 25, 105, 106])) (.seq (.seq (.region r26_109 [] (tO [2, 4, 11, 12, 14, 24, 25, 105, 106, 163])) (.cond (.tmp 163) (.seq (.region r26_112 [] (tO [2, 3])) .ret) .skip)) (.region r26_113 [] (tO [2, 4, 11, 12, 105, 106])))))))) (.region r26_114 [] (tO [2, 4, 11, 12, 105, 106])))))
noncomputable def c26_0_64 : MCode := c26_0_64g J26_0_2 L26_0_6
theorem g26_0_64 : c26_0_64.Good Try.prog E26_0 sh26 := ⟨trivial, ⟨⟨trivial, trivial⟩, ⟨⟨⟨g26_0_71, m26_0_2, trivial⟩, ⟨trivial, ⟨⟨trivial, ⟨g26_0_79, m26_0_6, trivial⟩⟩, ⟨trivial, ⟨⟨trivial, ⟨⟨trivial, trivial⟩, trivial⟩⟩, trivial⟩⟩⟩⟩⟩, trivial⟩⟩⟩
--CODE 64 0
def S26_0_7g (vJ26_0_2 : TJ26_0_2) (vL26_0_6 : TL26_0_6) (vf77_0 : Tf77_0) (vf89_0 : Tf89_0) (vf90_0 : Tf90_0) (α : Type) (x124 x125 x126 x127 x139 x140 x141 x152 x153 x128 x148 x149 x150 x151 : Int) (kn : Int → Int → Int → Int → Int → Option α) (k1 : Int → Option α) (k2 : Int → Bool → Int → Int → Int → Int → Option α) : Option α :=
 cK (decide (x128 < 2))
 (vJ26_0_2 α x124 x125 x126 x127 x128
 (fun x187 x188 => vL26_0_6 α x187 x188 x139 x140 x141 x152 x153
 (fun x359 x360 x361 x362 => vf89_0 α x361
 (fun x364 => vf90_0 α x362
 (fun x365 => vf77_0 α x364 x365
 (fun x366 x367 x368 => cK (x368 != 0)
 (k1 x368)
 (cK (x128 == 1)
 (kn (w64 (x128 + 1)) x148 x149 x366 x367)
 (cK (x128 == 0)
 (kn (w64 (x128 + 1)) x366 x367 x150 x151)
 (none))))))) 0 ([] : Rows) ([] : Rows)))
 (k2 x128 (decide (x128 < 2)) x148 x149 x150 x151)
noncomputable def S26_0_7 (α : Type) (x124 x125 x126 x127 x139 x140 x141 x152 x153 x128 x148 x149 x150 x151 : Int) (kn : Int → Int → Int → Int → Int → Option α) (k1 : Int → Option α) (k2 : Int → Bool → Int → Int → Int → Int → Option α) : Option α := S26_0_7g J26_0_2 L26_0_6 f77_0 f89_0 f90_0 α x124 x125 x126 x127 x139 x140 x141 x152 x153 x128 x148 x149 x150 x151 kn k1 k2
noncomputable def R26_0_7 (α : Type) (x124 x125 x126 x127 x139 x140 x141 x152 x153 : Int) (k1 : Int → Option α) (k2 : Int → Bool → Int → Int → Int → Int → Option α) : Nat → Int → Int → Int → Int → Int → Option α
 | 0, _, _, _, _, _ => none
 | n + 1, x128, x148, x149, x150, x151 => S26_0_7 α x124 x125 x126 x127 x139 x140 x141 x152 x153 x128 x148 x149 x150 x151 (R26_0_7 α x124 x125 x126 x127 x139 x140 x141 x152 x153 k1 k2 n) k1 k2
noncomputable def L26_0_7 (α : Type) (x124 x125 x126 x127 x139 x140 x141 x152 x153 : Int) (k1 : Int → Option α) (k2 : Int → Bool → Int → Int → Int → Int → Option α) (x128 x148 x149 x150 x151 : Int) : Option α := R26_0_7 α x124 x125 x126 x127 x139 x140 x141 x152 x153 k1 k2 fuel x128 x148 x149 x150 x151
abbrev TL26_0_7 : Type 1 := (α : Type) → Int → Int → Int → Int → Int → Int → Int → Int → Int → (Int → Option α) → (Int → Bool → Int → Int → Int → Int → Option α) → Int → Int → Int → Int → Int → Option α
def F26_0_7 (v : TL26_0_7) (α : Type) (K : Exit → St → Option α) : Int → Int → Int → Int → Int → ByteArray → Int → Int → Int → Int → Int → Int → Int → Int → Int → Int → Int → Int → ByteArray → Int → Int → Int → Int → Int → Int → Int → Int → Int → Int → Int → Option α := fun x124 x125 x126 x127 x128 x129 x130 x131 x132 x133 x134 x135 x136 x137 x138 x139 x140 x141 x142 x143 x144 x145 x146 x147 x148 x149 x150 x151 x152 x153 => v α x124 x125 x126 x127 x139 x140 x141 x152 x153 (fun (y1 : Int) => u26_0_3 (K .ret) y1 (⟨#[]⟩ : ByteArray) 0 0 0 0 0 0 0 0 0) (fun (y1 : Int) (y2 : Bool) (y3 : Int) (y4 : Int) (y5 : Int) (y6 : Int) => u26_0_4 (K (.exit 2)) x124 x125 x126 x127 y1 y2 x129 x130 x131 x132 x133 x134 x135 x136 x137 x138 x139 x140 x141 x142 x143 x144 x145 x146 x147 y3 y4 y5 y6 x152 x153) x128 x148 x149 x150 x151
theorem r26_0_7g (vf83_0 : Tf83_0) (vf60_0 : Tf60_0) (vf84_0 : Tf84_0) (vf23_0 : Tf23_0) (vf85_0 : Tf85_0) (vf88_0 : Tf88_0) (vf78_0 : Tf78_0) (vf79_0 : Tf79_0) (vf89_0 : Tf89_0) (vf90_0 : Tf90_0) (vf77_0 : Tf77_0) (vJ26_0_2 : TJ26_0_2) (vL26_0_6 : TL26_0_6) (α : Type) (K : Exit → St → Option α) (Kn : St → Option α) (x124 x125 x126 x127 x128 : Int) (x129 : ByteArray) (x130 x131 x132 x133 x134 x135 x136 x137 x138 x139 x140 x141 : Int) (x142 : ByteArray) (x143 x144 x145 x146 x147 x148 x149 x150 x151 x152 x153 : Int) : u26_0_12 (fun σ => runM Try.prog (E26_0g vf83_0 vf60_0 vf84_0 vf23_0 vf85_0 vf88_0 vf78_0 vf79_0 vf89_0 vf90_0 vf77_0) sh26 (c26_0_64g vJ26_0_2 vL26_0_6) (thenK (fun σ => tidyK td26_64 σ Kn) K) σ) x124 x125 x126 x127 x128 x129 x130 x131 x132 x133 x134 x135 x136 x137 x138 x139 x140 x141 x142 x143 x144 x145 x146 x147 x148 x149 x150 x151 x152 x153 = S26_0_7g vJ26_0_2 vL26_0_6 vf77_0 vf89_0 vf90_0 α x124 x125 x126 x127 x139 x140 x141 x152 x153 x128 x148 x149 x150 x151 (fun x128 x148 x149 x150 x151 => u26_0_12 Kn x124 x125 x126 x127 x128 x129 x130 x131 x132 x133 x134 x135 x136 x137 x138 x139 x140 x141 x142 x143 x144 x145 x146 x147 x148 x149 x150 x151 x152 x153) (fun (y1 : Int) => u26_0_3 (K .ret) y1 (⟨#[]⟩ : ByteArray) 0 0 0 0 0 0 0 0 0) (fun (y1 : Int) (y2 : Bool) (y3 : Int) (y4 : Int) (y5 : Int) (y6 : Int) => u26_0_4 (K (.exit 2)) x124 x125 x126 x127 y1 y2 x129 x130 x131 x132 x133 x134 x135 x136 x137 x138 x139 x140 x141 x142 x143 x144 x145 x146 x147 y3 y4 y5 y6 x152 x153) := by kernel_rfl
theorem r26_0_7 (α : Type) (K : Exit → St → Option α) (Kn : St → Option α) (x124 x125 x126 x127 x128 : Int) (x129 : ByteArray) (x130 x131 x132 x133 x134 x135 x136 x137 x138 x139 x140 x141 : Int) (x142 : ByteArray) (x143 x144 x145 x146 x147 x148 x149 x150 x151 x152 x153 : Int) : u26_0_12 (fun σ => runM Try.prog E26_0 sh26 c26_0_64 (thenK (fun σ => tidyK td26_64 σ Kn) K) σ) x124 x125 x126 x127 x128 x129 x130 x131 x132 x133 x134 x135 x136 x137 x138 x139 x140 x141 x142 x143 x144 x145 x146 x147 x148 x149 x150 x151 x152 x153 = S26_0_7 α x124 x125 x126 x127 x139 x140 x141 x152 x153 x128 x148 x149 x150 x151 (fun x128 x148 x149 x150 x151 => u26_0_12 Kn x124 x125 x126 x127 x128 x129 x130 x131 x132 x133 x134 x135 x136 x137 x138 x139 x140 x141 x142 x143 x144 x145 x146 x147 x148 x149 x150 x151 x152 x153) (fun (y1 : Int) => u26_0_3 (K .ret) y1 (⟨#[]⟩ : ByteArray) 0 0 0 0 0 0 0 0 0) (fun (y1 : Int) (y2 : Bool) (y3 : Int) (y4 : Int) (y5 : Int) (y6 : Int) => u26_0_4 (K (.exit 2)) x124 x125 x126 x127 y1 y2 x129 x130 x131 x132 x133 x134 x135 x136 x137 x138 x139 x140 x141 x142 x143 x144 x145 x146 x147 y3 y4 y5 y6 x152 x153) := r26_0_7g f83_0 f60_0 f84_0 f23_0 f85_0 f88_0 f78_0 f79_0 f89_0 f90_0 f77_0 J26_0_2 L26_0_6 α K Kn x124 x125 x126 x127 x128 x129 x130 x131 x132 x133 x134 x135 x136 x137 x138 x139 x140 x141 x142 x143 x144 x145 x146 x147 x148 x149 x150 x151 x152 x153
theorem t26_0_7 (α : Type) (K : Exit → St → Option α) : ∀ (n : Nat) (x124 x125 x126 x127 x128 : Int) (x129 : ByteArray) (x130 x131 x132 x133 x134 x135 x136 x137 x138 x139 x140 x141 : Int) (x142 : ByteArray) (x143 x144 x145 x146 x147 x148 x149 x150 x151 x152 x153 : Int), R26_0_7 α x124 x125 x126 x127 x139 x140 x141 x152 x153 (fun (y1 : Int) => u26_0_3 (K .ret) y1 (⟨#[]⟩ : ByteArray) 0 0 0 0 0 0 0 0 0) (fun (y1 : Int) (y2 : Bool) (y3 : Int) (y4 : Int) (y5 : Int) (y6 : Int) => u26_0_4 (K (.exit 2)) x124 x125 x126 x127 y1 y2 x129 x130 x131 x132 x133 x134 x135 x136 x137 x138 x139 x140 x141 x142 x143 x144 x145 x146 x147 y3 y4 y5 y6 x152 x153) n x128 x148 x149 x150 x151 = u26_0_12 (loopT (runM Try.prog E26_0 sh26 c26_0_64) td26_64 K n) x124 x125 x126 x127 x128 x129 x130 x131 x132 x133 x134 x135 x136 x137 x138 x139 x140 x141 x142 x143 x144 x145 x146 x147 x148 x149 x150 x151 x152 x153 := by
 intro n
 induction n with
 | zero => intros; rfl
 | succ n ih => intro x124 x125 x126 x127 x128 x129 x130 x131 x132 x133 x134 x135 x136 x137 x138 x139 x140 x141 x142 x143 x144 x145 x146 x147 x148 x149 x150 x151 x152 x153; exact (congrArg (fun kn => S26_0_7 α x124 x125 x126 x127 x139 x140 x141 x152 x153 x128 x148 x149 x150 x151 kn (fun (y1 : Int) => u26_0_3 (K .ret) y1 (⟨#[]⟩ : ByteArray) 0 0 0 0 0 0 0 0 0) (fun (y1 : Int) (y2 : Bool) (y3 : Int) (y4 : Int) (y5 : Int) (y6 : Int) => u26_0_4 (K (.exit 2)) x124 x125 x126 x127 y1 y2 x129 x130 x131 x132 x133 x134 x135 x136 x137 x138 x139 x140 x141 x142 x143 x144 x145 x146 x147 y3 y4 y5 y6 x152 x153)) (funext fun x128 => funext fun x148 => funext fun x149 => funext fun x150 => funext fun x151 => ih x124 x125 x126 x127 x128 x129 x130 x131 x132 x133 x134 x135 x136 x137 x138 x139 x140 x141 x142 x143 x144 x145 x146 x147 x148 x149 x150 x151 x152 x153)).trans (r26_0_7 α K (loopT (runM Try.prog E26_0 sh26 c26_0_64) td26_64 K n) x124 x125 x126 x127 x128 x129 x130 x131 x132 x133 x134 x135 x136 x137 x138 x139 x140 x141 x142 x143 x144 x145 x146 x147 x148 x149 x150 x151 x152 x153).symm
theorem m26_0_7 : ∀ (α : Type) (K : Exit → St → Option α), F26_0_7 L26_0_7 α K = p26_0_12.unc fun σ => loopT (runM Try.prog E26_0 sh26 c26_0_64) td26_64 K fuel σ := fun α K => funext fun x124 => funext fun x125 => funext fun x126 => funext fun x127 => funext fun x128 => funext fun x129 => funext fun x130 => funext fun x131 => funext fun x132 => funext fun x133 => funext fun x134 => funext fun x135 => funext fun x136 => funext fun x137 => funext fun x138 => funext fun x139 => funext fun x140 => funext fun x141 => funext fun x142 => funext fun x143 => funext fun x144 => funext fun x145 => funext fun x146 => funext fun x147 => funext fun x148 => funext fun x149 => funext fun x150 => funext fun x151 => funext fun x152 => funext fun x153 => t26_0_7 α K fuel x124 x125 x126 x127 x128 x129 x130 x131 x132 x133 x134 x135 x136 x137 x138 x139 x140 x141 x142 x143 x144 x145 x146 x147 x148 x149 x150 x151 x152 x153
noncomputable def c26_0_16g  : MCode := (.region r26_17 [] (tO [1, 2, 4, 6, 43, 44]))
noncomputable def c26_0_16 : MCode := c26_0_16g 
theorem g26_0_16 : c26_0_16.Good Try.prog E26_0 sh26 := trivial
--CODE 16 0
abbrev TJ26_0_0 : Type 1 := (α : Type) → Int → Int → Int → Int → Int → (Int → Option α) → Option α
def J26_0_0g  (α : Type) (x62 x63 x64 x65 x66 : Int) (k1 : Int → Option α) : Option α :=
 cK (x66 == 3)
 (k1 x65)
 (cK (x66 == 2)
 (k1 x64)
 (cK (x66 == 1)
 (k1 x63)
 (cK (x66 == 0)
 (k1 x62)
 (none))))
noncomputable def J26_0_0 (α : Type) (x62 x63 x64 x65 x66 : Int) (k1 : Int → Option α) : Option α := J26_0_0g  α x62 x63 x64 x65 x66 k1
def F26_0_0 (v : TJ26_0_0) (α : Type) (K : Exit → St → Option α) : Int → Int → Int → Int → Int → Bool → ByteArray → Int → Int → Int → Int → Int → Int → Int → Int → Int → Int → Int → Int → Int → Int → Int → Int → Int → Int → ByteArray → Int → Int → Int → Int → Int → Int → Int → Int → Int → Int → Int → Int → Option α := fun x62 x63 x64 x65 x66 x67 x68 x69 x70 x71 x72 x73 x74 x75 x76 x77 x78 x79 x80 x81 x82 x83 x84 x85 x86 x87 x88 x89 x90 x91 x92 x93 x94 x95 x96 x97 x98 x99 => v α x62 x63 x64 x65 x66 (fun (y1 : Int) => u26_0_1 (K .normal) y1 x62 x63 x64 x65 x66 x68 x69 x70 x71 x72 x73 x74 x75 x76 x77 x78 x79 x80 x81 x82 x83 x84 x85 x86 x87 x88 x89 x90 x91 x92 x93 x94 x95 x96 x97 x98 x99) 
theorem m26_0_0g (vf83_0 : Tf83_0) (vf60_0 : Tf60_0) (vf84_0 : Tf84_0) (vf23_0 : Tf23_0) (vf85_0 : Tf85_0) (vf88_0 : Tf88_0) (vf78_0 : Tf78_0) (vf79_0 : Tf79_0) (vf89_0 : Tf89_0) (vf90_0 : Tf90_0) (vf77_0 : Tf77_0)  (α : Type) (K : Exit → St → Option α) : F26_0_0 (J26_0_0g ) α K = p26_0_0.unc fun σ => runM Try.prog (E26_0g vf83_0 vf60_0 vf84_0 vf23_0 vf85_0 vf88_0 vf78_0 vf79_0 vf89_0 vf90_0 vf77_0) sh26 (c26_0_16g ) K σ := by kernel_rfl
theorem m26_0_0 : ∀ (α : Type) (K : Exit → St → Option α), F26_0_0 J26_0_0 α K = p26_0_0.unc fun σ => runM Try.prog E26_0 sh26 c26_0_16 K σ := m26_0_0g f83_0 f60_0 f84_0 f23_0 f85_0 f88_0 f78_0 f79_0 f89_0 f90_0 f77_0
noncomputable def c26_0_9g (vJ26_0_0 : TJ26_0_0) : MCode := (.seq (.region r26_11 [] (tO [1, 2, 4, 43, 44, 45])) (.seq (.cond (.tmp 45) .skip (.exit 0)) (.seq (.block 1 (.seq (.mark [⟨p26_0_0, F26_0_0 vJ26_0_0⟩] c26_0_16) (.seq (.region r26_19 [] (tO [1, 2, 4, 6, 43, 44, 48])) (.cond (.tmp 48) (.seq (.region r26_22 [] (tO [2, 3])) .ret) .skip)))) (.region r26_23 [] (tO [1, 2, 4, 43, 44])))))
noncomputable def c26_0_9 : MCode := c26_0_9g J26_0_0
theorem g26_0_9 : c26_0_9.Good Try.prog E26_0 sh26 := ⟨trivial, ⟨⟨trivial, trivial⟩, ⟨⟨⟨g26_0_16, m26_0_0, trivial⟩, ⟨trivial, ⟨⟨trivial, trivial⟩, trivial⟩⟩⟩, trivial⟩⟩⟩
--CODE 9 0
def S26_0_1g (vJ26_0_0 : TJ26_0_0) (α : Type) (x24 x25 x26 x27 x28 : Int) (kn : Int → Option α) (k1 : Int → Option α) (k2 : Int → Bool → Option α) : Option α :=
 cK (decide (x28 < 4))
 (vJ26_0_0 α x24 x25 x26 x27 x28
 (fun x101 => cK (x101 != 0)
 (k1 x101)
 (kn (w64 (x28 + 1)))))
 (k2 x28 (decide (x28 < 4)))
noncomputable def S26_0_1 (α : Type) (x24 x25 x26 x27 x28 : Int) (kn : Int → Option α) (k1 : Int → Option α) (k2 : Int → Bool → Option α) : Option α := S26_0_1g J26_0_0 α x24 x25 x26 x27 x28 kn k1 k2
noncomputable def R26_0_1 (α : Type) (x24 x25 x26 x27 : Int) (k1 : Int → Option α) (k2 : Int → Bool → Option α) : Nat → Int → Option α
 | 0, _ => none
 | n + 1, x28 => S26_0_1 α x24 x25 x26 x27 x28 (R26_0_1 α x24 x25 x26 x27 k1 k2 n) k1 k2
noncomputable def L26_0_1 (α : Type) (x24 x25 x26 x27 : Int) (k1 : Int → Option α) (k2 : Int → Bool → Option α) (x28 : Int) : Option α := R26_0_1 α x24 x25 x26 x27 k1 k2 fuel x28
abbrev TL26_0_1 : Type 1 := (α : Type) → Int → Int → Int → Int → (Int → Option α) → (Int → Bool → Option α) → Int → Option α
def F26_0_1 (v : TL26_0_1) (α : Type) (K : Exit → St → Option α) : Int → Int → Int → Int → Int → ByteArray → Int → Int → Int → Int → Int → Int → Int → Int → Int → Int → Int → Int → Int → Int → Int → Int → Int → Int → ByteArray → Int → Int → Int → Int → Int → Int → Int → Int → Int → Int → Int → Int → Option α := fun x24 x25 x26 x27 x28 x29 x30 x31 x32 x33 x34 x35 x36 x37 x38 x39 x40 x41 x42 x43 x44 x45 x46 x47 x48 x49 x50 x51 x52 x53 x54 x55 x56 x57 x58 x59 x60 => v α x24 x25 x26 x27 (fun (y1 : Int) => u26_0_3 (K .ret) y1 (⟨#[]⟩ : ByteArray) 0 0 0 0 0 0 0 0 0) (fun (y1 : Int) (y2 : Bool) => u26_0_0 (K (.exit 0)) x24 x25 x26 x27 y1 y2 x29 x30 x31 x32 x33 x34 x35 x36 x37 x38 x39 x40 x41 x42 x43 x44 x45 x46 x47 x48 x49 x50 x51 x52 x53 x54 x55 x56 x57 x58 x59 x60) x28
theorem r26_0_1g (vf83_0 : Tf83_0) (vf60_0 : Tf60_0) (vf84_0 : Tf84_0) (vf23_0 : Tf23_0) (vf85_0 : Tf85_0) (vf88_0 : Tf88_0) (vf78_0 : Tf78_0) (vf79_0 : Tf79_0) (vf89_0 : Tf89_0) (vf90_0 : Tf90_0) (vf77_0 : Tf77_0) (vJ26_0_0 : TJ26_0_0) (α : Type) (K : Exit → St → Option α) (Kn : St → Option α) (x24 x25 x26 x27 x28 : Int) (x29 : ByteArray) (x30 x31 x32 x33 x34 x35 x36 x37 x38 x39 x40 x41 x42 x43 x44 x45 x46 x47 : Int) (x48 : ByteArray) (x49 x50 x51 x52 x53 x54 x55 x56 x57 x58 x59 x60 : Int) : u26_0_2 (fun σ => runM Try.prog (E26_0g vf83_0 vf60_0 vf84_0 vf23_0 vf85_0 vf88_0 vf78_0 vf79_0 vf89_0 vf90_0 vf77_0) sh26 (c26_0_9g vJ26_0_0) (thenK (fun σ => tidyK td26_9 σ Kn) K) σ) x24 x25 x26 x27 x28 x29 x30 x31 x32 x33 x34 x35 x36 x37 x38 x39 x40 x41 x42 x43 x44 x45 x46 x47 x48 x49 x50 x51 x52 x53 x54 x55 x56 x57 x58 x59 x60 = S26_0_1g vJ26_0_0 α x24 x25 x26 x27 x28 (fun x28 => u26_0_2 Kn x24 x25 x26 x27 x28 x29 x30 x31 x32 x33 x34 x35 x36 x37 x38 x39 x40 x41 x42 x43 x44 x45 x46 x47 x48 x49 x50 x51 x52 x53 x54 x55 x56 x57 x58 x59 x60) (fun (y1 : Int) => u26_0_3 (K .ret) y1 (⟨#[]⟩ : ByteArray) 0 0 0 0 0 0 0 0 0) (fun (y1 : Int) (y2 : Bool) => u26_0_0 (K (.exit 0)) x24 x25 x26 x27 y1 y2 x29 x30 x31 x32 x33 x34 x35 x36 x37 x38 x39 x40 x41 x42 x43 x44 x45 x46 x47 x48 x49 x50 x51 x52 x53 x54 x55 x56 x57 x58 x59 x60) := by kernel_rfl
theorem r26_0_1 (α : Type) (K : Exit → St → Option α) (Kn : St → Option α) (x24 x25 x26 x27 x28 : Int) (x29 : ByteArray) (x30 x31 x32 x33 x34 x35 x36 x37 x38 x39 x40 x41 x42 x43 x44 x45 x46 x47 : Int) (x48 : ByteArray) (x49 x50 x51 x52 x53 x54 x55 x56 x57 x58 x59 x60 : Int) : u26_0_2 (fun σ => runM Try.prog E26_0 sh26 c26_0_9 (thenK (fun σ => tidyK td26_9 σ Kn) K) σ) x24 x25 x26 x27 x28 x29 x30 x31 x32 x33 x34 x35 x36 x37 x38 x39 x40 x41 x42 x43 x44 x45 x46 x47 x48 x49 x50 x51 x52 x53 x54 x55 x56 x57 x58 x59 x60 = S26_0_1 α x24 x25 x26 x27 x28 (fun x28 => u26_0_2 Kn x24 x25 x26 x27 x28 x29 x30 x31 x32 x33 x34 x35 x36 x37 x38 x39 x40 x41 x42 x43 x44 x45 x46 x47 x48 x49 x50 x51 x52 x53 x54 x55 x56 x57 x58 x59 x60) (fun (y1 : Int) => u26_0_3 (K .ret) y1 (⟨#[]⟩ : ByteArray) 0 0 0 0 0 0 0 0 0) (fun (y1 : Int) (y2 : Bool) => u26_0_0 (K (.exit 0)) x24 x25 x26 x27 y1 y2 x29 x30 x31 x32 x33 x34 x35 x36 x37 x38 x39 x40 x41 x42 x43 x44 x45 x46 x47 x48 x49 x50 x51 x52 x53 x54 x55 x56 x57 x58 x59 x60) := r26_0_1g f83_0 f60_0 f84_0 f23_0 f85_0 f88_0 f78_0 f79_0 f89_0 f90_0 f77_0 J26_0_0 α K Kn x24 x25 x26 x27 x28 x29 x30 x31 x32 x33 x34 x35 x36 x37 x38 x39 x40 x41 x42 x43 x44 x45 x46 x47 x48 x49 x50 x51 x52 x53 x54 x55 x56 x57 x58 x59 x60
theorem t26_0_1 (α : Type) (K : Exit → St → Option α) : ∀ (n : Nat) (x24 x25 x26 x27 x28 : Int) (x29 : ByteArray) (x30 x31 x32 x33 x34 x35 x36 x37 x38 x39 x40 x41 x42 x43 x44 x45 x46 x47 : Int) (x48 : ByteArray) (x49 x50 x51 x52 x53 x54 x55 x56 x57 x58 x59 x60 : Int), R26_0_1 α x24 x25 x26 x27 (fun (y1 : Int) => u26_0_3 (K .ret) y1 (⟨#[]⟩ : ByteArray) 0 0 0 0 0 0 0 0 0) (fun (y1 : Int) (y2 : Bool) => u26_0_0 (K (.exit 0)) x24 x25 x26 x27 y1 y2 x29 x30 x31 x32 x33 x34 x35 x36 x37 x38 x39 x40 x41 x42 x43 x44 x45 x46 x47 x48 x49 x50 x51 x52 x53 x54 x55 x56 x57 x58 x59 x60) n x28 = u26_0_2 (loopT (runM Try.prog E26_0 sh26 c26_0_9) td26_9 K n) x24 x25 x26 x27 x28 x29 x30 x31 x32 x33 x34 x35 x36 x37 x38 x39 x40 x41 x42 x43 x44 x45 x46 x47 x48 x49 x50 x51 x52 x53 x54 x55 x56 x57 x58 x59 x60 := by
 intro n
 induction n with
 | zero => intros; rfl
 | succ n ih => intro x24 x25 x26 x27 x28 x29 x30 x31 x32 x33 x34 x35 x36 x37 x38 x39 x40 x41 x42 x43 x44 x45 x46 x47 x48 x49 x50 x51 x52 x53 x54 x55 x56 x57 x58 x59 x60; exact (congrArg (fun kn => S26_0_1 α x24 x25 x26 x27 x28 kn (fun (y1 : Int) => u26_0_3 (K .ret) y1 (⟨#[]⟩ : ByteArray) 0 0 0 0 0 0 0 0 0) (fun (y1 : Int) (y2 : Bool) => u26_0_0 (K (.exit 0)) x24 x25 x26 x27 y1 y2 x29 x30 x31 x32 x33 x34 x35 x36 x37 x38 x39 x40 x41 x42 x43 x44 x45 x46 x47 x48 x49 x50 x51 x52 x53 x54 x55 x56 x57 x58 x59 x60)) (funext fun x28 => ih x24 x25 x26 x27 x28 x29 x30 x31 x32 x33 x34 x35 x36 x37 x38 x39 x40 x41 x42 x43 x44 x45 x46 x47 x48 x49 x50 x51 x52 x53 x54 x55 x56 x57 x58 x59 x60)).trans (r26_0_1 α K (loopT (runM Try.prog E26_0 sh26 c26_0_9) td26_9 K n) x24 x25 x26 x27 x28 x29 x30 x31 x32 x33 x34 x35 x36 x37 x38 x39 x40 x41 x42 x43 x44 x45 x46 x47 x48 x49 x50 x51 x52 x53 x54 x55 x56 x57 x58 x59 x60).symm
theorem m26_0_1 : ∀ (α : Type) (K : Exit → St → Option α), F26_0_1 L26_0_1 α K = p26_0_2.unc fun σ => loopT (runM Try.prog E26_0 sh26 c26_0_9) td26_9 K fuel σ := fun α K => funext fun x24 => funext fun x25 => funext fun x26 => funext fun x27 => funext fun x28 => funext fun x29 => funext fun x30 => funext fun x31 => funext fun x32 => funext fun x33 => funext fun x34 => funext fun x35 => funext fun x36 => funext fun x37 => funext fun x38 => funext fun x39 => funext fun x40 => funext fun x41 => funext fun x42 => funext fun x43 => funext fun x44 => funext fun x45 => funext fun x46 => funext fun x47 => funext fun x48 => funext fun x49 => funext fun x50 => funext fun x51 => funext fun x52 => funext fun x53 => funext fun x54 => funext fun x55 => funext fun x56 => funext fun x57 => funext fun x58 => funext fun x59 => funext fun x60 => t26_0_1 α K fuel x24 x25 x26 x27 x28 x29 x30 x31 x32 x33 x34 x35 x36 x37 x38 x39 x40 x41 x42 x43 x44 x45 x46 x47 x48 x49 x50 x51 x52 x53 x54 x55 x56 x57 x58 x59 x60
abbrev Tf26_0 : Type 1 := (α : Type) → ByteArray → Int → Int → Int → Int → Int → Int → Int → Int → Int → Int → Int → Int → Int → Int → Int → Int → Int → Int → (ByteArray → Int → Int → Int → Int → Int → Int → Int → Int → Int → Int → Option α) → Option α
def f26_0g (vL26_0_1 : TL26_0_1) (vL26_0_7 : TL26_0_7) (vf23_0 : Tf23_0) (vf60_0 : Tf60_0) (vf83_0 : Tf83_0) (vf84_0 : Tf84_0) (vf85_0 : Tf85_0) (vf88_0 : Tf88_0) (α : Type) (x1 : ByteArray) (x2 x3 x4 x5 x6 x7 x8 x9 x10 x11 x12 x13 x14 x15 x16 x17 x18 x19 : Int) (k1 : ByteArray → Int → Int → Int → Int → Int → Int → Int → Int → Int → Int → Option α) : Option α :=
 vf83_0 α x1 x2 x3 x4
 (fun x20 => vf60_0 α x5 x6 x7 x8 x9 x10
 (fun x21 => vf60_0 α x11 x12 x13 x14 x15 x16
 (fun x22 => vf84_0 α x17 x18 x19
 (fun x23 => vL26_0_1 α x20 x21 x22 x23
 (fun x103 => k1 (⟨#[]⟩ : ByteArray) 0 0 0 0 0 0 0 0 0 x103)
 (fun x104 x105 => cK (x18 == 0)
 (k1 (⟨#[]⟩ : ByteArray) 0 0 0 0 0 0 0 0 0 9)
 (vf23_0 α x5 x6 x7 x8 x9 x10
 (fun x107 x108 x109 x110 x111 => cK (x111 != 0)
 (k1 (⟨#[]⟩ : ByteArray) 0 0 0 0 0 0 0 0 0 x111)
 (vf23_0 α x11 x12 x13 x14 x15 x16
 (fun x112 x113 x114 x115 x116 => cK (x116 != 0)
 (k1 (⟨#[]⟩ : ByteArray) 0 0 0 0 0 0 0 0 0 x116)
 (vf85_0 α x107 x108 x17 x18 x19
 (fun x117 x118 => vf85_0 α x112 x113 x17 x18 x19
 (fun x119 x120 => vf88_0 α x117 x118 x119 x120
 (fun x121 x122 x123 => cK (!x123)
 (k1 (⟨#[]⟩ : ByteArray) 0 0 0 0 0 0 0 0 0 14)
 (vL26_0_7 α x109 x110 x114 x115 x17 x18 x19 x121 x122
 (fun x369 => k1 (⟨#[]⟩ : ByteArray) 0 0 0 0 0 0 0 0 0 x369)
 (fun x370 x371 x372 x373 x374 x375 => k1 x1 x2 x3 x4 x121 x122 x372 x373 x374 x375 0) 0 0 0 0 0)))))))))) 0))))
noncomputable def f26_0 (α : Type) (x1 : ByteArray) (x2 x3 x4 x5 x6 x7 x8 x9 x10 x11 x12 x13 x14 x15 x16 x17 x18 x19 : Int) (k1 : ByteArray → Int → Int → Int → Int → Int → Int → Int → Int → Int → Int → Option α) : Option α := f26_0g L26_0_1 L26_0_7 f23_0 f60_0 f83_0 f84_0 f85_0 f88_0 α x1 x2 x3 x4 x5 x6 x7 x8 x9 x10 x11 x12 x13 x14 x15 x16 x17 x18 x19 k1
def pa26_0 : PT (List DV) := pA [pV true [dS, (dI .i64), (dI .i64), (dI .i64), (dI .i64), (dI .i64), (dI .i64), (dI .i64), (dI .i64), (dI .i64), (dI .i64), (dI .i64), (dI .i64), (dI .i64), (dI .i64), (dI .i64), (dI .i64), (dI .i64), (dI .i64)]]
def Fn26_0 (v : Tf26_0) (α : Type) (k : List RV → Option α) : ByteArray → Int → Int → Int → Int → Int → Int → Int → Int → Int → Int → Int → Int → Int → Int → Int → Int → Int → Int → Option α := fun x1 x2 x3 x4 x5 x6 x7 x8 x9 x10 x11 x12 x13 x14 x15 x16 x17 x18 x19 => v α x1 x2 x3 x4 x5 x6 x7 x8 x9 x10 x11 x12 x13 x14 x15 x16 x17 x18 x19 (fun (y1 : ByteArray) (y2 : Int) (y3 : Int) (y4 : Int) (y5 : Int) (y6 : Int) (y7 : Int) (y8 : Int) (y9 : Int) (y10 : Int) (y11 : Int) => ur26_0_0 k y1 y2 y3 y4 y5 y6 y7 y8 y9 y10 y11)
noncomputable def cm26_0g (vL26_0_1 : TL26_0_1) (vL26_0_7 : TL26_0_7) : MCode := (.seq (.region r26_2 [] (tO [1, 2])) (.seq (.region r26_4 [] (tO [1, 2, 4])) (.seq (.seq (.region r26_7 [(6, 8), (6, 11), (9, 11), (6, 13), (9, 13), (12, 13)] (tO [1, 2, 4, 43, 44])) (.block 0 (.loop td26_9 [⟨p26_0_2, F26_0_1 vL26_0_1⟩] c26_0_9))) (.seq (.seq (.region r26_26 [] (tO [1, 2, 4, 54])) (.cond (.tmp 54) (.seq (.region r26_29 [] (tO [2, 3])) .ret) .skip)) (.seq (.region r26_31 [] (tO [1, 2, 4, 7, 8])) (.seq (.seq (.region r26_34 [] (tO [1, 2, 4, 7, 8, 63])) (.cond (.tmp 63) (.seq (.region r26_37 [] (tO [2, 3])) .ret) .skip)) (.seq (.region r26_39 [] (tO [1, 2, 4, 7, 8, 9])) (.seq (.seq (.region r26_42 [] (tO [1, 2, 4, 7, 8, 9, 73])) (.cond (.tmp 73) (.seq (.region r26_45 [] (tO [2, 3])) .ret) .skip)) (.seq (.region r26_47 [] (tO [1, 2, 4, 7, 9, 10])) (.seq (.region r26_49 [] (tO [2, 4, 7, 9, 10, 11])) (.seq (.region r26_51 [(3, 6), (2, 12), (3, 12), (6, 12), (7, 12), (8, 12)] (tO [2, 4, 7, 9, 11, 12, 13])) (.seq (.seq (.region r26_54 [] (tO [2, 4, 7, 9, 11, 12, 97])) (.cond (.tmp 97) (.seq (.region r26_57 [] (tO [2, 3])) .ret) .skip)) (.seq (.region r26_59 [] (tO [2, 4, 7, 9, 11, 12])) (.seq (.seq (.region r26_62 [] (tO [2, 4, 11, 12, 105, 106])) (.block 2 (.loop td26_64 [⟨p26_0_12, F26_0_7 vL26_0_7⟩] c26_0_64))) (.seq (.region r26_116 [] (tO [2, 3])) .ret)))))))))))))))
noncomputable def cm26_0 : MCode := cm26_0g L26_0_1 L26_0_7
theorem gm26_0 : cm26_0.Good Try.prog E26_0 sh26 := ⟨trivial, ⟨trivial, ⟨⟨trivial, ⟨g26_0_9, m26_0_1, trivial⟩⟩, ⟨⟨trivial, ⟨⟨trivial, trivial⟩, trivial⟩⟩, ⟨trivial, ⟨⟨trivial, ⟨⟨trivial, trivial⟩, trivial⟩⟩, ⟨trivial, ⟨⟨trivial, ⟨⟨trivial, trivial⟩, trivial⟩⟩, ⟨trivial, ⟨trivial, ⟨trivial, ⟨⟨trivial, ⟨⟨trivial, trivial⟩, trivial⟩⟩, ⟨trivial, ⟨⟨trivial, ⟨g26_0_64, m26_0_7, trivial⟩⟩, ⟨trivial, trivial⟩⟩⟩⟩⟩⟩⟩⟩⟩⟩⟩⟩⟩⟩⟩
theorem fm26_0g (vf83_0 : Tf83_0) (vf60_0 : Tf60_0) (vf84_0 : Tf84_0) (vf23_0 : Tf23_0) (vf85_0 : Tf85_0) (vf88_0 : Tf88_0) (vf78_0 : Tf78_0) (vf79_0 : Tf79_0) (vf89_0 : Tf89_0) (vf90_0 : Tf90_0) (vf77_0 : Tf77_0) (vL26_0_1 : TL26_0_1) (vL26_0_7 : TL26_0_7) (α : Type) (k : List RV → Option α) : Fn26_0 (f26_0g vL26_0_1 vL26_0_7 vf23_0 vf60_0 vf83_0 vf84_0 vf85_0 vf88_0) α k = pa26_0.unc fun ds => fnM Try.prog (E26_0g vf83_0 vf60_0 vf84_0 vf23_0 vf85_0 vf88_0 vf78_0 vf79_0 vf89_0 vf90_0 vf77_0) sh26 (cm26_0g vL26_0_1 vL26_0_7) rs26 k ds := by kernel_rfl
theorem fm26_0 : ∀ (α : Type) (k : List RV → Option α), Fn26_0 f26_0 α k = pa26_0.unc fun ds => fnM Try.prog E26_0 sh26 cm26_0 rs26 k ds := fm26_0g f83_0 f60_0 f84_0 f23_0 f85_0 f88_0 f78_0 f79_0 f89_0 f90_0 f77_0 L26_0_1 L26_0_7
theorem is26 : FnIs Try.prog 26 nt26 tr26 tl26 cm26_0.erase rs26 := ⟨Try.f26, Try.func26, rfl, by kernel_rfl, by kernel_rfl, by kernel_rfl⟩
theorem io26_0 : InstOk Try.prog 26 nt26 ⟨pa26_0, Fn26_0 f26_0⟩ := inst_ok eo26_0 followsTry is26 ⟨⟨sh26, cm26_0, by kernel_rfl, gm26_0, fm26_0⟩⟩
end Go.AM.K
