/- Printed by KGen. -/
import Derived.Test.YtehamglokkjipaaProg
import Derived.Test.YtehamglokkjipaaKMa
namespace Go.AM.K
open Go.Proofs
set_option maxRecDepth 100000
set_option linter.unusedVariables false
theorem followsTry : Try.prog.follows .mixedOrders = true := by kernel_rfl
abbrev nt101 : Nat := 5
def sh101 : List (Nat × List Sh) := []
def r101_2 : List AOper := [oO 2 (.mv (.const (.float Go.FloatKind.f64 0)))]
def r101_4 : List AOper := [oM 3 0, oO 4 (.pure (oB (.call { callee := .value (.func 103), args := #[(.tmp 3)], argTypes := #[65] }) 65)), oM 2 4]
def tr101 : List (Nat × Tidy) := [tT 0 [0], tT 1 [2]]
def tl101 : List (Nat × Tidy) := []
def rs101 : List AResV := [.tmp 2]
def pr101_0_0 : PT (List RV) := pRs [pR false [rD (dF .f64)]]
def ur101_0_0 {β : Type} (g : List RV → β) : Nat → β := pr101_0_0.unc g
def E101_0g  : EnvK := EnvK.of [] noSeq
noncomputable def E101_0 : EnvK := E101_0g 
theorem eo101_0 : E101_0.Ok Try.prog := EnvK.of_ok noSeq_ok trivial
abbrev Tf101_0 : Type 1 := (α : Type) → Nat → (Nat → Option α) → Option α
def f101_0g  (α : Type) (x1 : Nat) (k1 : Nat → Option α) : Option α :=
 flK ((FloatKind.format .f64).sqrt x1)
 (fun x2 => k1 x2)
noncomputable def f101_0 (α : Type) (x1 : Nat) (k1 : Nat → Option α) : Option α := f101_0g  α x1 k1
def pa101_0 : PT (List DV) := pA [pV false [(dF .f64)]]
def Fn101_0 (v : Tf101_0) (α : Type) (k : List RV → Option α) : Nat → Option α := fun x1 => v α x1 (fun (y1 : Nat) => ur101_0_0 k y1)
noncomputable def cm101_0g  : MCode := (.seq (.region r101_2 [] (tO [0])) (.seq (.region r101_4 [] (tO [2])) .ret))
noncomputable def cm101_0 : MCode := cm101_0g 
theorem gm101_0 : cm101_0.Good Try.prog E101_0 sh101 := ⟨trivial, ⟨trivial, trivial⟩⟩
theorem fm101_0g   (α : Type) (k : List RV → Option α) : Fn101_0 (f101_0g ) α k = pa101_0.unc fun ds => fnM Try.prog (E101_0g ) sh101 (cm101_0g ) rs101 k ds := by kernel_rfl
theorem fm101_0 : ∀ (α : Type) (k : List RV → Option α), Fn101_0 f101_0 α k = pa101_0.unc fun ds => fnM Try.prog E101_0 sh101 cm101_0 rs101 k ds := fm101_0g 
theorem is101 : FnIs Try.prog 101 nt101 tr101 tl101 cm101_0.erase rs101 := ⟨Try.f101, Try.func101, rfl, by kernel_rfl, by kernel_rfl, by kernel_rfl⟩
theorem io101_0 : InstOk Try.prog 101 nt101 ⟨pa101_0, Fn101_0 f101_0⟩ := inst_ok eo101_0 followsTry is101 ⟨⟨sh101, cm101_0, by kernel_rfl, gm101_0, fm101_0⟩⟩
abbrev nt97 : Nat := 25
def sh97 : List (Nat × List Sh) := []
def r97_2 : List AOper := [oO 2 (.mv (kI 0))]
def r97_4 : List AOper := [oM 4 0, oO 5 (.pure (oB (.convert 3 65 (.tmp 4)) 65)), oO 6 (.call 101 [(.tmp 5)]), oO 7 (.pure (oB (.convert 65 3 (.tmp 6)) 3)), oM 3 7]
def td97_7 : Option Tidy := (tO [0, 3])
def r97_10 : List AOper := [oM 8 3, oM 9 3, oO 10 (.bin .mul 3 (.tmp 8) (.tmp 9)), oM 11 0, oO 12 (.bin .gtr 3 (.tmp 10) (.tmp 11))]
def r97_13 : List AOper := [oM 13 3, oO 14 (.bin .sub 3 (.tmp 13) (kI 1)), oM 3 14]
def td97_16 : Option Tidy := (tO [0, 3])
def r97_19 : List AOper := [oM 15 3, oO 16 (.bin .add 3 (.tmp 15) (kI 1)), oM 17 3, oO 18 (.bin .add 3 (.tmp 17) (kI 1)), oO 19 (.bin .mul 3 (.tmp 16) (.tmp 18)), oM 20 0, oO 21 (.bin .leq 3 (.tmp 19) (.tmp 20))]
def r97_22 : List AOper := [oM 22 3, oO 23 (.bin .add 3 (.tmp 22) (kI 1)), oM 3 23]
def r97_24 : List AOper := [oM 24 3, oM 2 24]
def tr97 : List (Nat × Tidy) := [tT 0 [0], tT 1 [0, 3], tT 2 [0, 3, 12], tT 3 [0, 3], tT 4 [0, 3, 21], tT 5 [0, 3], tT 6 [2]]
def tl97 : List (Nat × Tidy) := [tT 2 [0, 3], tT 4 [0, 3]]
def rs97 : List AResV := [.tmp 2]
def p97_0_0 : PT St := pS [sl 0 (aV false [(cD (dI .i64))]), sl 3 (aV false [(cD (dI .i64))])] []
def u97_0_0 {β : Type} (g : St → β) : Int → Int → β := p97_0_0.unc g
def p97_0_1 : PT St := pS [sl 0 (aV false [(cD (dI .i64))]), sl 3 (aV false [(cD (dI .i64))]), sl 12 (aV false [(cD dB)])] []
def u97_0_1 {β : Type} (g : St → β) : Int → Int → Bool → β := p97_0_1.unc g
def p97_0_2 : PT St := pS [sl 0 (aV false [(cD (dI .i64))]), sl 3 (aV false [(cD (dI .i64))]), sl 21 (aV false [(cD dB)])] []
def u97_0_2 {β : Type} (g : St → β) : Int → Int → Bool → β := p97_0_2.unc g
def pr97_0_0 : PT (List RV) := pRs [pR false [rD (dI .i64)]]
def ur97_0_0 {β : Type} (g : List RV → β) : Int → β := pr97_0_0.unc g
def E97_0g (vf101_0 : Tf101_0) : EnvK := EnvK.of [⟨101, nt101, [⟨pa101_0, Fn101_0 vf101_0⟩]⟩] noSeq
noncomputable def E97_0 : EnvK := E97_0g f101_0
theorem eo97_0 : E97_0.Ok Try.prog := EnvK.of_ok noSeq_ok ⟨⟨io101_0, trivial⟩, trivial⟩
noncomputable def c97_0_16g  : MCode := (.seq (.seq (.region r97_19 [] (tO [0, 3, 21])) (.cond (.tmp 21) .skip (.exit 2))) (.block 3 (.region r97_22 [] (tO [0, 3]))))
noncomputable def c97_0_16 : MCode := c97_0_16g 
theorem g97_0_16 : c97_0_16.Good Try.prog E97_0 sh97 := ⟨⟨trivial, ⟨trivial, trivial⟩⟩, trivial⟩
--CODE 16 0
def S97_0_1g  (α : Type) (x10 x11 : Int) (kn : Int → Option α) (k1 : Int → Bool → Option α) : Option α :=
 cK (decide ((w64 ((w64 (x11 + 1)) * (w64 (x11 + 1)))) ≤ x10))
 (kn (w64 (x11 + 1)))
 (k1 x11 (decide ((w64 ((w64 (x11 + 1)) * (w64 (x11 + 1)))) ≤ x10)))
noncomputable def S97_0_1 (α : Type) (x10 x11 : Int) (kn : Int → Option α) (k1 : Int → Bool → Option α) : Option α := S97_0_1g  α x10 x11 kn k1
noncomputable def R97_0_1 (α : Type) (x10 : Int) (k1 : Int → Bool → Option α) : Nat → Int → Option α
 | 0, _ => none
 | n + 1, x11 => S97_0_1 α x10 x11 (R97_0_1 α x10 k1 n) k1
noncomputable def L97_0_1 (α : Type) (x10 : Int) (k1 : Int → Bool → Option α) (x11 : Int) : Option α := R97_0_1 α x10 k1 fuel x11
abbrev TL97_0_1 : Type 1 := (α : Type) → Int → (Int → Bool → Option α) → Int → Option α
def F97_0_1 (v : TL97_0_1) (α : Type) (K : Exit → St → Option α) : Int → Int → Option α := fun x10 x11 => v α x10 (fun (y1 : Int) (y2 : Bool) => u97_0_2 (K (.exit 2)) x10 y1 y2) x11
theorem r97_0_1g (vf101_0 : Tf101_0)  (α : Type) (K : Exit → St → Option α) (Kn : St → Option α) (x10 x11 : Int) : u97_0_0 (fun σ => runM Try.prog (E97_0g vf101_0) sh97 (c97_0_16g ) (thenK (fun σ => tidyK td97_16 σ Kn) K) σ) x10 x11 = S97_0_1g  α x10 x11 (fun x11 => u97_0_0 Kn x10 x11) (fun (y1 : Int) (y2 : Bool) => u97_0_2 (K (.exit 2)) x10 y1 y2) := by kernel_rfl
theorem r97_0_1 (α : Type) (K : Exit → St → Option α) (Kn : St → Option α) (x10 x11 : Int) : u97_0_0 (fun σ => runM Try.prog E97_0 sh97 c97_0_16 (thenK (fun σ => tidyK td97_16 σ Kn) K) σ) x10 x11 = S97_0_1 α x10 x11 (fun x11 => u97_0_0 Kn x10 x11) (fun (y1 : Int) (y2 : Bool) => u97_0_2 (K (.exit 2)) x10 y1 y2) := r97_0_1g f101_0 α K Kn x10 x11
theorem t97_0_1 (α : Type) (K : Exit → St → Option α) : ∀ (n : Nat) (x10 x11 : Int), R97_0_1 α x10 (fun (y1 : Int) (y2 : Bool) => u97_0_2 (K (.exit 2)) x10 y1 y2) n x11 = u97_0_0 (loopT (runM Try.prog E97_0 sh97 c97_0_16) td97_16 K n) x10 x11 := by
 intro n
 induction n with
 | zero => intros; rfl
 | succ n ih => intro x10 x11; exact (congrArg (fun kn => S97_0_1 α x10 x11 kn (fun (y1 : Int) (y2 : Bool) => u97_0_2 (K (.exit 2)) x10 y1 y2)) (funext fun x11 => ih x10 x11)).trans (r97_0_1 α K (loopT (runM Try.prog E97_0 sh97 c97_0_16) td97_16 K n) x10 x11).symm
theorem m97_0_1 : ∀ (α : Type) (K : Exit → St → Option α), F97_0_1 L97_0_1 α K = p97_0_0.unc fun σ => loopT (runM Try.prog E97_0 sh97 c97_0_16) td97_16 K fuel σ := fun α K => funext fun x10 => funext fun x11 => t97_0_1 α K fuel x10 x11
noncomputable def c97_0_7g  : MCode := (.seq (.seq (.region r97_10 [] (tO [0, 3, 12])) (.cond (.tmp 12) .skip (.exit 0))) (.block 1 (.region r97_13 [] (tO [0, 3]))))
noncomputable def c97_0_7 : MCode := c97_0_7g 
theorem g97_0_7 : c97_0_7.Good Try.prog E97_0 sh97 := ⟨⟨trivial, ⟨trivial, trivial⟩⟩, trivial⟩
--CODE 7 0
def S97_0_0g  (α : Type) (x4 x5 : Int) (kn : Int → Option α) (k1 : Int → Bool → Option α) : Option α :=
 cK (decide (x4 < (w64 (x5 * x5))))
 (kn (w64 (x5 - 1)))
 (k1 x5 (decide (x4 < (w64 (x5 * x5)))))
noncomputable def S97_0_0 (α : Type) (x4 x5 : Int) (kn : Int → Option α) (k1 : Int → Bool → Option α) : Option α := S97_0_0g  α x4 x5 kn k1
noncomputable def R97_0_0 (α : Type) (x4 : Int) (k1 : Int → Bool → Option α) : Nat → Int → Option α
 | 0, _ => none
 | n + 1, x5 => S97_0_0 α x4 x5 (R97_0_0 α x4 k1 n) k1
noncomputable def L97_0_0 (α : Type) (x4 : Int) (k1 : Int → Bool → Option α) (x5 : Int) : Option α := R97_0_0 α x4 k1 fuel x5
abbrev TL97_0_0 : Type 1 := (α : Type) → Int → (Int → Bool → Option α) → Int → Option α
def F97_0_0 (v : TL97_0_0) (α : Type) (K : Exit → St → Option α) : Int → Int → Option α := fun x4 x5 => v α x4 (fun (y1 : Int) (y2 : Bool) => u97_0_1 (K (.exit 0)) x4 y1 y2) x5
theorem r97_0_0g (vf101_0 : Tf101_0)  (α : Type) (K : Exit → St → Option α) (Kn : St → Option α) (x4 x5 : Int) : u97_0_0 (fun σ => runM Try.prog (E97_0g vf101_0) sh97 (c97_0_7g ) (thenK (fun σ => tidyK td97_7 σ Kn) K) σ) x4 x5 = S97_0_0g  α x4 x5 (fun x5 => u97_0_0 Kn x4 x5) (fun (y1 : Int) (y2 : Bool) => u97_0_1 (K (.exit 0)) x4 y1 y2) := by kernel_rfl
theorem r97_0_0 (α : Type) (K : Exit → St → Option α) (Kn : St → Option α) (x4 x5 : Int) : u97_0_0 (fun σ => runM Try.prog E97_0 sh97 c97_0_7 (thenK (fun σ => tidyK td97_7 σ Kn) K) σ) x4 x5 = S97_0_0 α x4 x5 (fun x5 => u97_0_0 Kn x4 x5) (fun (y1 : Int) (y2 : Bool) => u97_0_1 (K (.exit 0)) x4 y1 y2) := r97_0_0g f101_0 α K Kn x4 x5
theorem t97_0_0 (α : Type) (K : Exit → St → Option α) : ∀ (n : Nat) (x4 x5 : Int), R97_0_0 α x4 (fun (y1 : Int) (y2 : Bool) => u97_0_1 (K (.exit 0)) x4 y1 y2) n x5 = u97_0_0 (loopT (runM Try.prog E97_0 sh97 c97_0_7) td97_7 K n) x4 x5 := by
 intro n
 induction n with
 | zero => intros; rfl
 | succ n ih => intro x4 x5; exact (congrArg (fun kn => S97_0_0 α x4 x5 kn (fun (y1 : Int) (y2 : Bool) => u97_0_1 (K (.exit 0)) x4 y1 y2)) (funext fun x5 => ih x4 x5)).trans (r97_0_0 α K (loopT (runM Try.prog E97_0 sh97 c97_0_7) td97_7 K n) x4 x5).symm
theorem m97_0_0 : ∀ (α : Type) (K : Exit → St → Option α), F97_0_0 L97_0_0 α K = p97_0_0.unc fun σ => loopT (runM Try.prog E97_0 sh97 c97_0_7) td97_7 K fuel σ := fun α K => funext fun x4 => funext fun x5 => t97_0_0 α K fuel x4 x5
abbrev Tf97_0 : Type 1 := (α : Type) → Int → (Int → Option α) → Option α
def f97_0g (vL97_0_0 : TL97_0_0) (vL97_0_1 : TL97_0_1) (vf101_0 : Tf101_0) (α : Type) (x1 : Int) (k1 : Int → Option α) : Option α :=
 vf101_0 α (FloatKind.nearest .f64 x1)
 (fun x2 => ivK (f2i .f64 x2 .i64)
 (fun x3 => vL97_0_0 α x1
 (fun x7 x8 => vL97_0_1 α x1
 (fun x13 x14 => k1 x13) x7) x3))
noncomputable def f97_0 (α : Type) (x1 : Int) (k1 : Int → Option α) : Option α := f97_0g L97_0_0 L97_0_1 f101_0 α x1 k1
def pa97_0 : PT (List DV) := pA [pV false [(dI .i64)]]
def Fn97_0 (v : Tf97_0) (α : Type) (k : List RV → Option α) : Int → Option α := fun x1 => v α x1 (fun (y1 : Int) => ur97_0_0 k y1)
noncomputable def cm97_0g (vL97_0_0 : TL97_0_0) (vL97_0_1 : TL97_0_1) : MCode := (.seq (.region r97_2 [] (tO [0])) (.seq (.region r97_4 [] (tO [0, 3])) (.seq (.block 0 (.loop td97_7 [⟨p97_0_0, F97_0_0 vL97_0_0⟩] c97_0_7)) (.seq (.block 2 (.loop td97_16 [⟨p97_0_0, F97_0_1 vL97_0_1⟩] c97_0_16)) (.seq (.region r97_24 [] (tO [2])) .ret)))))
noncomputable def cm97_0 : MCode := cm97_0g L97_0_0 L97_0_1
theorem gm97_0 : cm97_0.Good Try.prog E97_0 sh97 := ⟨trivial, ⟨trivial, ⟨⟨g97_0_7, m97_0_0, trivial⟩, ⟨⟨g97_0_16, m97_0_1, trivial⟩, ⟨trivial, trivial⟩⟩⟩⟩⟩
theorem fm97_0g (vf101_0 : Tf101_0) (vL97_0_0 : TL97_0_0) (vL97_0_1 : TL97_0_1) (α : Type) (k : List RV → Option α) : Fn97_0 (f97_0g vL97_0_0 vL97_0_1 vf101_0) α k = pa97_0.unc fun ds => fnM Try.prog (E97_0g vf101_0) sh97 (cm97_0g vL97_0_0 vL97_0_1) rs97 k ds := by kernel_rfl
theorem fm97_0 : ∀ (α : Type) (k : List RV → Option α), Fn97_0 f97_0 α k = pa97_0.unc fun ds => fnM Try.prog E97_0 sh97 cm97_0 rs97 k ds := fm97_0g f101_0 L97_0_0 L97_0_1
theorem is97 : FnIs Try.prog 97 nt97 tr97 tl97 cm97_0.erase rs97 := ⟨Try.f97, Try.func97, rfl, by kernel_rfl, by kernel_rfl, by kernel_rfl⟩
theorem io97_0 : InstOk Try.prog 97 nt97 ⟨pa97_0, Fn97_0 f97_0⟩ := inst_ok eo97_0 followsTry is97 ⟨⟨sh97, cm97_0, by kernel_rfl, gm97_0, fm97_0⟩⟩
end Go.AM.K
