/- Printed by KGen. -/
import Derived.Test.YtcidonjhifjpaaaKTwb
namespace Go.AM.K
open Go.Proofs
set_option maxRecDepth 100000
set_option linter.unusedVariables false

/-! ### F62 etalon/grow.CheckSequence -/
abbrev nt62 : Nat := 55
def sh62 : List (Nat × List Sh) := [(14, [.sl, .sl]), (15, [.sl, .sl]), (26, [.int .i64]), (31, [.int .i64]), (32, [.int .i64]), (35, [.sl]), (44, [.sl, .sl]), (51, [.int .i64])]
def r62_2 : List AOper := [oO 3 (.box (.tmp 0)), oO 4 (.box (.tmp 1)), oO 6 (.mv (.const (.int .i64 0))), oO 7 (.mv (.const (.int .i64 0)))]
def r62_4 : List AOper := [oO 14 (.load true 2 (.tmp 3)), oO 15 (.load true 2 (.tmp 4)), oO 16 (.call 109 [(.tmp 14), (.tmp 15)]), oM 13 16, oO 17 (.extract 0 (.tmp 13)), oO 18 (.extract 1 (.tmp 13)), oO 8 (.alloc [.nils, .nils, (.d (.v (.int .i64 0))), (.d (.v (.int .i64 0)))]), ⟨none, (.store 4 (.tmp 8) (.tmp 17)), none⟩, oM 9 18]
def r62_7 : List AOper := [oM 19 9, oO 20 (.bin .neq 32 (.tmp 19) (.const (.int .i64 0)))]
def r62_10 : List AOper := [oM 21 9, oO 6 (.mv (.const (.int .i64 0))), oM 7 21]
def r62_13 : List AOper := [oM 22 2, oO 23 (.len (.tmp 22)), oO 24 (.bin .gtr 3 (.tmp 23) (.const (.int .i64 1000)))]
def r62_16 : List AOper := [oO 6 (.mv (.const (.int .i64 0))), oO 7 (.mv (.const (.int .i64 8)))]
def r62_18 : List AOper := [oO 25 (.faddr 2 (.tmp 8)), oO 26 (.load false 1 (.tmp 25)), oM 10 26]
def r62_21 : List AOper := [oM 27 2, oO 28 (.len (.tmp 27)), oO 29 (.mv (.const (.int .i64 0)))]
def td62_23 : Option Tidy := (some ⟨[2, 3, 8, 10, 27, 28, 29], true, [⟨false, 27, 0, 20027, 1⟩, ⟨true, 3, 0, 30300, 1⟩, ⟨true, 3, 1, 30301, 4⟩, ⟨true, 4, 0, 30400, 1⟩, ⟨true, 4, 1, 30401, 1⟩, ⟨true, 8, 0, 30800, 1⟩, ⟨true, 8, 1, 30801, 4⟩], []⟩)
def r62_25 : List AOper := [oO 30 (.bin .lss 3 (.tmp 29) (.tmp 28))]
def r62_31 : List AOper := [oO 31 (.iaddr 1 none (.tmp 27) (.tmp 29)), oO 32 (.load false 1 (.tmp 31)), oM 12 32]
def r62_34 : List AOper := [oM 33 12, oO 34 (.faddr 0 (.tmp 3)), oO 35 (.load false 1 (.tmp 34)), oO 36 (.len (.tmp 35)), oO 37 (.bin .sub 3 (.tmp 36) (.const (.int .i64 1))), oO 38 (.call 78 [(.tmp 33), (.const (.int .i64 0)), (.tmp 37)]), oO 39 (.pure (oB (.unOp .not 4 (.tmp 38)) 4))]
def r62_37 : List AOper := [oO 6 (.mv (.const (.int .i64 0))), oO 7 (.mv (.const (.int .i64 6)))]
def r62_39 : List AOper := [oM 40 10, oM 41 12, oO 42 (.call 105 [(.tmp 40), (.tmp 41)]), oM 10 42]
def r62_41 : List AOper := [oO 43 (.faddr 0 (.tmp 8)), oO 44 (.load true 2 (.tmp 43)), oM 45 10, oO 46 (.call 116 [(.tmp 44), (.tmp 45)]), oO 47 (.pure (oB (.unOp .not 4 (.tmp 46)) 4))]
def r62_44 : List AOper := [oO 6 (.mv (.const (.int .i64 0))), oO 7 (.mv (.const (.int .i64 24)))]
def r62_45 : List AOper := [oO 48 (.bin .add 3 (.tmp 29) (.const (.int .i64 1))), oM 29 48]
def r62_48 : List AOper := [oM 49 10, oO 50 (.faddr 3 (.tmp 8)), oO 51 (.load false 1 (.tmp 50)), oO 52 (.bin .neq 171 (.tmp 49) (.tmp 51))]
def r62_51 : List AOper := [oO 6 (.mv (.const (.int .i64 0))), oO 7 (.mv (.const (.int .i64 23)))]
def r62_53 : List AOper := [oM 53 2, oO 54 (.len (.tmp 53)), oM 6 54, oO 7 (.mv (.const (.int .i64 0)))]
def tr62 : List (Nat × Tidy) := [(0, ⟨[2, 3, 4], true, [], []⟩), (1, ⟨[2, 3, 8, 9], true, [], []⟩), (2, ⟨[2, 3, 8, 9, 20], true, [], []⟩), (3, ⟨[6, 7], true, [], []⟩), (4, ⟨[2, 3, 8, 24], true, [], []⟩), (5, ⟨[6, 7], true, [], []⟩), (6, ⟨[2, 3, 8, 10], true, [], []⟩), (7, ⟨[2, 3, 8, 10, 27, 28, 29], true, [], []⟩), (8, ⟨[2, 3, 8, 10, 27, 28, 29, 30], true, [], []⟩), (9, ⟨[2, 3, 8, 10, 12, 27, 28, 29], true, [], []⟩), (10, ⟨[2, 3, 8, 10, 12, 27, 28, 29, 39], true, [], []⟩), (11, ⟨[6, 7], true, [], []⟩), (12, ⟨[2, 3, 8, 10, 27, 28, 29], true, [], []⟩), (13, ⟨[2, 3, 8, 10, 27, 28, 29, 47], true, [], []⟩), (14, ⟨[6, 7], true, [], []⟩), (15, ⟨[2, 3, 8, 10, 27, 28, 29], true, [], []⟩), (16, ⟨[2, 52], true, [], []⟩), (17, ⟨[6, 7], true, [], []⟩), (18, ⟨[6, 7], true, [], []⟩)]
def tl62 : List (Nat × Tidy) := [(8, ⟨[2, 3, 8, 10, 27, 28, 29], true, [⟨false, 27, 0, 20027, 1⟩, ⟨true, 3, 0, 30300, 1⟩, ⟨true, 3, 1, 30301, 4⟩, ⟨true, 4, 0, 30400, 1⟩, ⟨true, 4, 1, 30401, 1⟩, ⟨true, 8, 0, 30800, 1⟩, ⟨true, 8, 1, 30801, 4⟩], []⟩)]
def rs62 : List AResV := [.tmp 6, .tmp 7]
def p62_0_0 : PT St := pS [sl 2 (aV false [(cD dL)]), sl 3 (aV false [(cPtr 3 0)]), sl 4 (aV false [(cPtr 4 0)])] [eBox 3 [(cD dL), (cD dL)], eBox 4 [(cD dL), (cD dL)]]
def u62_0_0 {β : Type} (g : St → β) : Rows → Rows → Rows → Rows → Rows → β := p62_0_0.unc g

def p62_0_1 : PT St := pS [sl 2 (aV false [(cD dL)]), sl 3 (aV false [(cPtr 3 0)]), sl 8 (aV false [(cPtr 8 0)]), sl 9 (aV false [(cD (dI .i64))])] [eBox 3 [(cD dL), (cD dL)], eBox 8 [(cRef 16), (cRef 10016), (cD (dI .i64)), (cD (dI .i64))], eOwn 16 1, eOwn 10016 4]
def u62_0_1 {β : Type} (g : St → β) : Rows → Int → Rows → Rows → Int → Int → Rows → Rows → β := p62_0_1.unc g

def p62_0_2 : PT St := pS [sl 2 (aV false [(cD dL)]), sl 3 (aV false [(cPtr 3 0)]), sl 8 (aV false [(cPtr 8 0)]), sl 9 (aV false [(cD (dI .i64))])] [eBox 3 [(cD dL), (cD dL)], eBox 8 [(cD dL), (cD dL), (cD (dI .i64)), (cD (dI .i64))]]
def u62_0_2 {β : Type} (g : St → β) : Rows → Int → Rows → Rows → Rows → Rows → Int → Int → β := p62_0_2.unc g

def p62_0_3 : PT St := pS [sl 2 (aV false [(cD dL)]), sl 3 (aV false [(cPtr 3 0)]), sl 8 (aV false [(cPtr 8 0)]), sl 10 (aV false [(cD (dI .i64))]), sl 27 (aV false [(cD dL)]), sl 28 (aV false [(cD (dI .i64))]), sl 29 (aV false [(cD (dI .i64))])] [eBox 3 [(cD dL), (cD dL)], eBox 8 [(cRef 30800), (cRef 30801), (cD (dI .i64)), (cD (dI .i64))], eOwn 30800 1, eOwn 30801 4]
def u62_0_3 {β : Type} (g : St → β) : Rows → Int → Rows → Int → Int → Rows → Rows → Int → Int → Rows → Rows → β := p62_0_3.unc g

def p62_0_4 : PT St := pS [sl 6 (aV false [(cD (dI .i64))]), sl 7 (aV false [(cD (dI .i64))])] []
def u62_0_4 {β : Type} (g : St → β) : Int → Int → β := p62_0_4.unc g

def p62_0_5 : PT St := pS [sl 2 (aV false [(cD dL)]), sl 3 (aV false [(cPtr 3 0)]), sl 8 (aV false [(cPtr 8 0)]), sl 10 (aV false [(cD (dI .i64))]), sl 27 (aV false [(cD dL)]), sl 28 (aV false [(cD (dI .i64))]), sl 29 (aV false [(cD (dI .i64))]), sl 30 (aV false [(cD dB)])] [eBox 3 [(cD dL), (cD dL)], eBox 8 [(cRef 30800), (cRef 30801), (cD (dI .i64)), (cD (dI .i64))], eOwn 30800 1, eOwn 30801 4]
def u62_0_5 {β : Type} (g : St → β) : Rows → Int → Rows → Int → Int → Bool → Rows → Rows → Int → Int → Rows → Rows → β := p62_0_5.unc g

def p62_0_6 : PT St := pS [sl 2 (aV false [(cD dL)]), sl 3 (aV false [(cPtr 3 0)]), sl 8 (aV false [(cPtr 8 0)]), sl 10 (aV false [(cD (dI .i64))]), sl 27 (aV false [(cD dL)]), sl 28 (aV false [(cD (dI .i64))]), sl 29 (aV false [(cD (dI .i64))])] [eBox 3 [(cD dL), (cD dL)], eBox 8 [(cD dL), (cD dL), (cD (dI .i64)), (cD (dI .i64))]]
def u62_0_6 {β : Type} (g : St → β) : Rows → Int → Rows → Int → Int → Rows → Rows → Rows → Rows → Int → Int → β := p62_0_6.unc g

def p62_0_7 : PT St := pS [sl 2 (aV false [(cD dL)]), sl 3 (aV false [(cPtr 3 0)]), sl 8 (aV false [(cPtr 8 0)]), sl 10 (aV false [(cD (dI .i64))]), sl 27 (aV false [(cD dL)]), sl 28 (aV false [(cD (dI .i64))]), sl 29 (aV false [(cD (dI .i64))]), sl 30 (aV false [(cD dB)])] [eBox 3 [(cD dL), (cD dL)], eBox 8 [(cD dL), (cD dL), (cD (dI .i64)), (cD (dI .i64))]]
def u62_0_7 {β : Type} (g : St → β) : Rows → Int → Rows → Int → Int → Bool → Rows → Rows → Rows → Rows → Int → Int → β := p62_0_7.unc g

def pr62_0_0 : PT (List RV) := pRs [pR false [rD (dI .i64)], pR false [rD (dI .i64)]]
def ur62_0_0 {β : Type} (g : List RV → β) : Int → Int → β := pr62_0_0.unc g

def E62_0g (vf109_0 : Tf109_0) (vf78_0 : Tf78_0) (vf105_0 : Tf105_0) (vf116_0 : Tf116_0) : EnvK := EnvK.of [⟨109, nt109, [⟨pa109_0, Fn109_0 vf109_0⟩]⟩, ⟨78, nt78, [⟨pa78_0, Fn78_0 vf78_0⟩]⟩, ⟨105, nt105, [⟨pa105_0, Fn105_0 vf105_0⟩]⟩, ⟨116, nt116, [⟨pa116_0, Fn116_0 vf116_0⟩]⟩] noSeq
noncomputable def E62_0 : EnvK := E62_0g f109_0 f78_0 f105_0 f116_0
theorem eo62_0 : E62_0.Ok Try.prog := EnvK.of_ok noSeq_ok ⟨⟨io109_0, trivial⟩, ⟨io78_0, trivial⟩, ⟨io105_0, trivial⟩, ⟨io116_0, trivial⟩, trivial⟩

noncomputable def c62_0_23g  : MCode := (.seq (.region r62_25 [] (some ⟨[2, 3, 8, 10, 27, 28, 29, 30], true, [], []⟩)) (.seq (.cond (.tmp 30) .skip (.exit 0)) (.seq (.block 1 (.seq (.region r62_31 [] (some ⟨[2, 3, 8, 10, 12, 27, 28, 29], true, [], []⟩)) (.seq (.seq (.region r62_34 [] (some ⟨[2, 3, 8, 10, 12, 27, 28, 29, 39], true, [], []⟩)) (.cond (.tmp 39) (.seq (.region r62_37 [] (some ⟨[6, 7], true, [], []⟩)) .ret) .skip)) (.seq (.region r62_39 [] (some ⟨[2, 3, 8, 10, 27, 28, 29], true, [], []⟩)) (.seq (.region r62_41 [] (some ⟨[2, 3, 8, 10, 27, 28, 29, 47], true, [], []⟩)) (.cond (.tmp 47) (.seq (.region r62_44 [] (some ⟨[6, 7], true, [], []⟩)) .ret) .skip)))))) (.region r62_45 [] (some ⟨[2, 3, 8, 10, 27, 28, 29], true, [], []⟩)))))
noncomputable def c62_0_23 : MCode := c62_0_23g 
theorem g62_0_23 : c62_0_23.Good Try.prog E62_0 sh62 := ⟨trivial, ⟨⟨trivial, trivial⟩, ⟨⟨trivial, ⟨⟨trivial, ⟨⟨trivial, trivial⟩, trivial⟩⟩, ⟨trivial, ⟨trivial, ⟨⟨trivial, trivial⟩, trivial⟩⟩⟩⟩⟩, trivial⟩⟩⟩
--CODE 23 0
def S62_0_1g (vf105_0 : Tf105_0) (vf116_0 : Tf116_0) (vf78_0 : Tf78_0) (α : Type) (x25 : Rows) (x26 : Int) (x28 : Rows) (x32 : Rows) (x33 : Rows) (x24 : Int) (x27 : Int) (kn : Int → Int → Option α) (k1 : Int → Option α) (k2 : Int → Int → Bool → Option α) : Option α :=
 cK (decide (x27 < x26))
 (rowK x25 x27 [.int .i64]
 (fun (x35 : Int) => vf78_0 α x35 0 (w64 (((List.length x28 : Nat) : Int) - 1))
 (fun (x36 : Bool) => cK (!x36)
 (k1 6)
 (vf105_0 α x24 x35
 (fun (x37 : Int) => vf116_0 α x32 x33 x37
 (fun (x38 : Bool) => cK (!x38)
 (k1 24)
 (kn x37 (w64 (x27 + 1)))))))))
 (k2 x24 x27 (decide (x27 < x26)))
noncomputable def S62_0_1 (α : Type) (x25 : Rows) (x26 : Int) (x28 : Rows) (x32 : Rows) (x33 : Rows) (x24 : Int) (x27 : Int) (kn : Int → Int → Option α) (k1 : Int → Option α) (k2 : Int → Int → Bool → Option α) : Option α := S62_0_1g f105_0 f116_0 f78_0 α x25 x26 x28 x32 x33 x24 x27 kn k1 k2
noncomputable def R62_0_1 (α : Type) (x25 : Rows) (x26 : Int) (x28 : Rows) (x32 : Rows) (x33 : Rows) (k1 : Int → Option α) (k2 : Int → Int → Bool → Option α) : Nat → Int → Int → Option α
 | 0, _, _ => none
 | n + 1, x24, x27 => S62_0_1 α x25 x26 x28 x32 x33 x24 x27 (R62_0_1 α x25 x26 x28 x32 x33 k1 k2 n) k1 k2
noncomputable def L62_0_1 (α : Type) (x25 : Rows) (x26 : Int) (x28 : Rows) (x32 : Rows) (x33 : Rows) (k1 : Int → Option α) (k2 : Int → Int → Bool → Option α) (x24 : Int) (x27 : Int) : Option α := R62_0_1 α x25 x26 x28 x32 x33 k1 k2 fuel x24 x27
abbrev TL62_0_1 : Type 1 := (α : Type) → Rows → Int → Rows → Rows → Rows → (Int → Option α) → (Int → Int → Bool → Option α) → Int → Int → Option α
def F62_0_1 (v : TL62_0_1) (α : Type) (K : Exit → St → Option α) : Rows → Int → Rows → Int → Int → Rows → Rows → Int → Int → Rows → Rows → Option α := fun x23 x24 x25 x26 x27 x28 x29 x30 x31 x32 x33 => v α x25 x26 x28 x32 x33 (fun (y1 : Int) => u62_0_4 (K .ret) 0 y1) (fun (y1 : Int) (y2 : Int) (y3 : Bool) => u62_0_5 (K (.exit 0)) x23 y1 x25 x26 y2 y3 x28 x29 x30 x31 x32 x33) x24 x27
theorem r62_0_1g (vf109_0 : Tf109_0) (vf78_0 : Tf78_0) (vf105_0 : Tf105_0) (vf116_0 : Tf116_0)  (α : Type) (K : Exit → St → Option α) (Kn : St → Option α) (x23 : Rows) (x24 : Int) (x25 : Rows) (x26 : Int) (x27 : Int) (x28 : Rows) (x29 : Rows) (x30 : Int) (x31 : Int) (x32 : Rows) (x33 : Rows) : u62_0_3 (fun σ => runM Try.prog (E62_0g vf109_0 vf78_0 vf105_0 vf116_0) sh62 (c62_0_23g ) (thenK (fun σ => tidyK td62_23 σ Kn) K) σ) x23 x24 x25 x26 x27 x28 x29 x30 x31 x32 x33 = S62_0_1g vf105_0 vf116_0 vf78_0 α x25 x26 x28 x32 x33 x24 x27 (fun x24 x27 => u62_0_3 Kn x23 x24 x25 x26 x27 x28 x29 x30 x31 x32 x33) (fun (y1 : Int) => u62_0_4 (K .ret) 0 y1) (fun (y1 : Int) (y2 : Int) (y3 : Bool) => u62_0_5 (K (.exit 0)) x23 y1 x25 x26 y2 y3 x28 x29 x30 x31 x32 x33) := by kernel_rfl
theorem r62_0_1 (α : Type) (K : Exit → St → Option α) (Kn : St → Option α) (x23 : Rows) (x24 : Int) (x25 : Rows) (x26 : Int) (x27 : Int) (x28 : Rows) (x29 : Rows) (x30 : Int) (x31 : Int) (x32 : Rows) (x33 : Rows) : u62_0_3 (fun σ => runM Try.prog E62_0 sh62 c62_0_23 (thenK (fun σ => tidyK td62_23 σ Kn) K) σ) x23 x24 x25 x26 x27 x28 x29 x30 x31 x32 x33 = S62_0_1 α x25 x26 x28 x32 x33 x24 x27 (fun x24 x27 => u62_0_3 Kn x23 x24 x25 x26 x27 x28 x29 x30 x31 x32 x33) (fun (y1 : Int) => u62_0_4 (K .ret) 0 y1) (fun (y1 : Int) (y2 : Int) (y3 : Bool) => u62_0_5 (K (.exit 0)) x23 y1 x25 x26 y2 y3 x28 x29 x30 x31 x32 x33) := r62_0_1g f109_0 f78_0 f105_0 f116_0 α K Kn x23 x24 x25 x26 x27 x28 x29 x30 x31 x32 x33
theorem t62_0_1 (α : Type) (K : Exit → St → Option α) : ∀ (n : Nat) (x23 : Rows) (x24 : Int) (x25 : Rows) (x26 : Int) (x27 : Int) (x28 : Rows) (x29 : Rows) (x30 : Int) (x31 : Int) (x32 : Rows) (x33 : Rows), R62_0_1 α x25 x26 x28 x32 x33 (fun (y1 : Int) => u62_0_4 (K .ret) 0 y1) (fun (y1 : Int) (y2 : Int) (y3 : Bool) => u62_0_5 (K (.exit 0)) x23 y1 x25 x26 y2 y3 x28 x29 x30 x31 x32 x33) n x24 x27 = u62_0_3 (loopT (runM Try.prog E62_0 sh62 c62_0_23) td62_23 K n) x23 x24 x25 x26 x27 x28 x29 x30 x31 x32 x33 := by
 intro n
 induction n with
 | zero => intros; rfl
 | succ n ih => intro x23 x24 x25 x26 x27 x28 x29 x30 x31 x32 x33; exact (congrArg (fun kn => S62_0_1 α x25 x26 x28 x32 x33 x24 x27 kn (fun (y1 : Int) => u62_0_4 (K .ret) 0 y1) (fun (y1 : Int) (y2 : Int) (y3 : Bool) => u62_0_5 (K (.exit 0)) x23 y1 x25 x26 y2 y3 x28 x29 x30 x31 x32 x33)) (funext fun x24 => funext fun x27 => ih x23 x24 x25 x26 x27 x28 x29 x30 x31 x32 x33)).trans (r62_0_1 α K (loopT (runM Try.prog E62_0 sh62 c62_0_23) td62_23 K n) x23 x24 x25 x26 x27 x28 x29 x30 x31 x32 x33).symm
theorem m62_0_1 : ∀ (α : Type) (K : Exit → St → Option α), F62_0_1 L62_0_1 α K = p62_0_3.unc fun σ => loopT (runM Try.prog E62_0 sh62 c62_0_23) td62_23 K fuel σ := fun α K => funext fun x23 => funext fun x24 => funext fun x25 => funext fun x26 => funext fun x27 => funext fun x28 => funext fun x29 => funext fun x30 => funext fun x31 => funext fun x32 => funext fun x33 => t62_0_1 α K fuel x23 x24 x25 x26 x27 x28 x29 x30 x31 x32 x33
--CODE 23 0
def S62_0_2g (vf105_0 : Tf105_0) (vf116_0 : Tf116_0) (vf78_0 : Tf78_0) (α : Type) (x46 : Rows) (x47 : Int) (x49 : Rows) (x51 : Rows) (x52 : Rows) (x45 : Int) (x48 : Int) (kn : Int → Int → Option α) (k1 : Int → Option α) (k2 : Int → Int → Bool → Option α) : Option α :=
 cK (decide (x48 < x47))
 (rowK x46 x48 [.int .i64]
 (fun (x56 : Int) => vf78_0 α x56 0 (w64 (((List.length x49 : Nat) : Int) - 1))
 (fun (x57 : Bool) => cK (!x57)
 (k1 6)
 (vf105_0 α x45 x56
 (fun (x58 : Int) => vf116_0 α x51 x52 x58
 (fun (x59 : Bool) => cK (!x59)
 (k1 24)
 (kn x58 (w64 (x48 + 1)))))))))
 (k2 x45 x48 (decide (x48 < x47)))
noncomputable def S62_0_2 (α : Type) (x46 : Rows) (x47 : Int) (x49 : Rows) (x51 : Rows) (x52 : Rows) (x45 : Int) (x48 : Int) (kn : Int → Int → Option α) (k1 : Int → Option α) (k2 : Int → Int → Bool → Option α) : Option α := S62_0_2g f105_0 f116_0 f78_0 α x46 x47 x49 x51 x52 x45 x48 kn k1 k2
noncomputable def R62_0_2 (α : Type) (x46 : Rows) (x47 : Int) (x49 : Rows) (x51 : Rows) (x52 : Rows) (k1 : Int → Option α) (k2 : Int → Int → Bool → Option α) : Nat → Int → Int → Option α
 | 0, _, _ => none
 | n + 1, x45, x48 => S62_0_2 α x46 x47 x49 x51 x52 x45 x48 (R62_0_2 α x46 x47 x49 x51 x52 k1 k2 n) k1 k2
noncomputable def L62_0_2 (α : Type) (x46 : Rows) (x47 : Int) (x49 : Rows) (x51 : Rows) (x52 : Rows) (k1 : Int → Option α) (k2 : Int → Int → Bool → Option α) (x45 : Int) (x48 : Int) : Option α := R62_0_2 α x46 x47 x49 x51 x52 k1 k2 fuel x45 x48
abbrev TL62_0_2 : Type 1 := (α : Type) → Rows → Int → Rows → Rows → Rows → (Int → Option α) → (Int → Int → Bool → Option α) → Int → Int → Option α
def F62_0_2 (v : TL62_0_2) (α : Type) (K : Exit → St → Option α) : Rows → Int → Rows → Int → Int → Rows → Rows → Rows → Rows → Int → Int → Option α := fun x44 x45 x46 x47 x48 x49 x50 x51 x52 x53 x54 => v α x46 x47 x49 x51 x52 (fun (y1 : Int) => u62_0_4 (K .ret) 0 y1) (fun (y1 : Int) (y2 : Int) (y3 : Bool) => u62_0_7 (K (.exit 0)) x44 y1 x46 x47 y2 y3 x49 x50 x51 x52 x53 x54) x45 x48
theorem r62_0_2g (vf109_0 : Tf109_0) (vf78_0 : Tf78_0) (vf105_0 : Tf105_0) (vf116_0 : Tf116_0)  (α : Type) (K : Exit → St → Option α) (Kn : St → Option α) (x44 : Rows) (x45 : Int) (x46 : Rows) (x47 : Int) (x48 : Int) (x49 : Rows) (x50 : Rows) (x51 : Rows) (x52 : Rows) (x53 : Int) (x54 : Int) : u62_0_6 (fun σ => runM Try.prog (E62_0g vf109_0 vf78_0 vf105_0 vf116_0) sh62 (c62_0_23g ) (thenK (fun σ => tidyK td62_23 σ Kn) K) σ) x44 x45 x46 x47 x48 x49 x50 x51 x52 x53 x54 = S62_0_2g vf105_0 vf116_0 vf78_0 α x46 x47 x49 x51 x52 x45 x48 (fun x45 x48 => u62_0_6 Kn x44 x45 x46 x47 x48 x49 x50 x51 x52 x53 x54) (fun (y1 : Int) => u62_0_4 (K .ret) 0 y1) (fun (y1 : Int) (y2 : Int) (y3 : Bool) => u62_0_7 (K (.exit 0)) x44 y1 x46 x47 y2 y3 x49 x50 x51 x52 x53 x54) := by kernel_rfl
theorem r62_0_2 (α : Type) (K : Exit → St → Option α) (Kn : St → Option α) (x44 : Rows) (x45 : Int) (x46 : Rows) (x47 : Int) (x48 : Int) (x49 : Rows) (x50 : Rows) (x51 : Rows) (x52 : Rows) (x53 : Int) (x54 : Int) : u62_0_6 (fun σ => runM Try.prog E62_0 sh62 c62_0_23 (thenK (fun σ => tidyK td62_23 σ Kn) K) σ) x44 x45 x46 x47 x48 x49 x50 x51 x52 x53 x54 = S62_0_2 α x46 x47 x49 x51 x52 x45 x48 (fun x45 x48 => u62_0_6 Kn x44 x45 x46 x47 x48 x49 x50 x51 x52 x53 x54) (fun (y1 : Int) => u62_0_4 (K .ret) 0 y1) (fun (y1 : Int) (y2 : Int) (y3 : Bool) => u62_0_7 (K (.exit 0)) x44 y1 x46 x47 y2 y3 x49 x50 x51 x52 x53 x54) := r62_0_2g f109_0 f78_0 f105_0 f116_0 α K Kn x44 x45 x46 x47 x48 x49 x50 x51 x52 x53 x54
theorem t62_0_2 (α : Type) (K : Exit → St → Option α) : ∀ (n : Nat) (x44 : Rows) (x45 : Int) (x46 : Rows) (x47 : Int) (x48 : Int) (x49 : Rows) (x50 : Rows) (x51 : Rows) (x52 : Rows) (x53 : Int) (x54 : Int), R62_0_2 α x46 x47 x49 x51 x52 (fun (y1 : Int) => u62_0_4 (K .ret) 0 y1) (fun (y1 : Int) (y2 : Int) (y3 : Bool) => u62_0_7 (K (.exit 0)) x44 y1 x46 x47 y2 y3 x49 x50 x51 x52 x53 x54) n x45 x48 = u62_0_6 (loopT (runM Try.prog E62_0 sh62 c62_0_23) td62_23 K n) x44 x45 x46 x47 x48 x49 x50 x51 x52 x53 x54 := by
 intro n
 induction n with
 | zero => intros; rfl
 | succ n ih => intro x44 x45 x46 x47 x48 x49 x50 x51 x52 x53 x54; exact (congrArg (fun kn => S62_0_2 α x46 x47 x49 x51 x52 x45 x48 kn (fun (y1 : Int) => u62_0_4 (K .ret) 0 y1) (fun (y1 : Int) (y2 : Int) (y3 : Bool) => u62_0_7 (K (.exit 0)) x44 y1 x46 x47 y2 y3 x49 x50 x51 x52 x53 x54)) (funext fun x45 => funext fun x48 => ih x44 x45 x46 x47 x48 x49 x50 x51 x52 x53 x54)).trans (r62_0_2 α K (loopT (runM Try.prog E62_0 sh62 c62_0_23) td62_23 K n) x44 x45 x46 x47 x48 x49 x50 x51 x52 x53 x54).symm
theorem m62_0_2 : ∀ (α : Type) (K : Exit → St → Option α), F62_0_2 L62_0_2 α K = p62_0_6.unc fun σ => loopT (runM Try.prog E62_0 sh62 c62_0_23) td62_23 K fuel σ := fun α K => funext fun x44 => funext fun x45 => funext fun x46 => funext fun x47 => funext fun x48 => funext fun x49 => funext fun x50 => funext fun x51 => funext fun x52 => funext fun x53 => funext fun x54 => t62_0_2 α K fuel x44 x45 x46 x47 x48 x49 x50 x51 x52 x53 x54

noncomputable def c62_0_3g  : MCode := (.region r62_4 [] (some ⟨[2, 3, 8, 9], true, [], []⟩))
noncomputable def c62_0_3 : MCode := c62_0_3g 
theorem g62_0_3 : c62_0_3.Good Try.prog E62_0 sh62 := trivial
--CODE 3 0
abbrev TJ62_0_0 : Type 1 := (α : Type) → Rows → Rows → Rows → Rows → (Int → Option α) → (Rows → Rows → Int → Int → Option α) → Option α
def J62_0_0g (vf109_0 : Tf109_0) (α : Type) (x7 : Rows) (x8 : Rows) (x9 : Rows) (x10 : Rows) (k1 : Int → Option α) (k2 : Rows → Rows → Int → Int → Option α) : Option α :=
 vf109_0 α x7 x8 x9 x10
 (fun (x12 : Int) => k1 x12)
 (fun (x13 : Rows) (x14 : Rows) (x15 : Int) (x16 : Int) => k2 x13 x14 x15 x16)
noncomputable def J62_0_0 (α : Type) (x7 : Rows) (x8 : Rows) (x9 : Rows) (x10 : Rows) (k1 : Int → Option α) (k2 : Rows → Rows → Int → Int → Option α) : Option α := J62_0_0g f109_0 α x7 x8 x9 x10 k1 k2
def F62_0_0 (v : TJ62_0_0) (α : Type) (K : Exit → St → Option α) : Rows → Rows → Rows → Rows → Rows → Option α := fun x6 x7 x8 x9 x10 => v α x7 x8 x9 x10 (fun (y1 : Int) => u62_0_1 (K .normal) x6 y1 x7 x8 0 0 ([] : Rows) ([] : Rows)) (fun (y1 : Rows) (y2 : Rows) (y3 : Int) (y4 : Int) => u62_0_2 (K .normal) x6 0 x7 x8 y1 y2 y3 y4) 
theorem m62_0_0g (vf109_0 : Tf109_0) (vf78_0 : Tf78_0) (vf105_0 : Tf105_0) (vf116_0 : Tf116_0)  (α : Type) (K : Exit → St → Option α) : F62_0_0 (J62_0_0g vf109_0) α K = p62_0_0.unc fun σ => runM Try.prog (E62_0g vf109_0 vf78_0 vf105_0 vf116_0) sh62 (c62_0_3g ) K σ := by kernel_rfl
theorem m62_0_0 : ∀ (α : Type) (K : Exit → St → Option α), F62_0_0 J62_0_0 α K = p62_0_0.unc fun σ => runM Try.prog E62_0 sh62 c62_0_3 K σ := m62_0_0g f109_0 f78_0 f105_0 f116_0

/-- etalon/grow.CheckSequence -/
abbrev Tf62_0 : Type 1 := (α : Type) → Rows → Rows → Rows → Rows → Rows → (Int → Int → Option α) → Option α
def f62_0g (vJ62_0_0 : TJ62_0_0) (vL62_0_1 : TL62_0_1) (vL62_0_2 : TL62_0_2) (α : Type) (x1 : Rows) (x2 : Rows) (x3 : Rows) (x4 : Rows) (x5 : Rows) (k1 : Int → Int → Option α) : Option α :=
 vJ62_0_0 α x1 x2 x3 x4
 (fun (x17 : Int) => cK (x17 != 0)
 (k1 0 x17)
 (cK (decide (1000 < ((List.length x5 : Nat) : Int)))
 (k1 0 8)
 (vL62_0_1 α x5 ((List.length x5 : Nat) : Int) x1 ([] : Rows) ([] : Rows)
 (fun (x39 : Int) => k1 0 x39)
 (fun (x40 : Int) (x41 : Int) (x42 : Bool) => cK (x40 != 0)
 (k1 0 23)
 (k1 ((List.length x5 : Nat) : Int) 0)) 0 0)))
 (fun (x18 : Rows) (x19 : Rows) (x20 : Int) (x21 : Int) => cK (decide (1000 < ((List.length x5 : Nat) : Int)))
 (k1 0 8)
 (vL62_0_2 α x5 ((List.length x5 : Nat) : Int) x1 x18 x19
 (fun (x60 : Int) => k1 0 x60)
 (fun (x61 : Int) (x62 : Int) (x63 : Bool) => cK (x61 != x21)
 (k1 0 23)
 (k1 ((List.length x5 : Nat) : Int) 0)) x20 0))
noncomputable def f62_0 (α : Type) (x1 : Rows) (x2 : Rows) (x3 : Rows) (x4 : Rows) (x5 : Rows) (k1 : Int → Int → Option α) : Option α := f62_0g J62_0_0 L62_0_1 L62_0_2 α x1 x2 x3 x4 x5 k1
def pa62_0 : PT (List DV) := pA [pV true [dL, dL], pV true [dL, dL], pV false [dL]]
def Fn62_0 (v : Tf62_0) (α : Type) (k : List RV → Option α) : Rows → Rows → Rows → Rows → Rows → Option α := fun x1 x2 x3 x4 x5 => v α x1 x2 x3 x4 x5 (fun (y1 : Int) (y2 : Int) => ur62_0_0 k y1 y2)
noncomputable def cm62_0g (vJ62_0_0 : TJ62_0_0) (vL62_0_1 : TL62_0_1) (vL62_0_2 : TL62_0_2) : MCode := (.seq (.region r62_2 [] (some ⟨[2, 3, 4], true, [], []⟩)) (.seq (.mark [⟨p62_0_0, F62_0_0 vJ62_0_0⟩] c62_0_3) (.seq (.seq (.region r62_7 [] (some ⟨[2, 3, 8, 9, 20], true, [], []⟩)) (.cond (.tmp 20) (.seq (.region r62_10 [] (some ⟨[6, 7], true, [], []⟩)) .ret) .skip)) (.seq (.seq (.region r62_13 [] (some ⟨[2, 3, 8, 24], true, [], []⟩)) (.cond (.tmp 24) (.seq (.region r62_16 [] (some ⟨[6, 7], true, [], []⟩)) .ret) .skip)) (.seq (.region r62_18 [] (some ⟨[2, 3, 8, 10], true, [], []⟩)) (.seq (.seq (.region r62_21 [] (some ⟨[2, 3, 8, 10, 27, 28, 29], true, [], []⟩)) (.block 0 (.loop td62_23 [⟨p62_0_3, F62_0_1 vL62_0_1⟩, ⟨p62_0_6, F62_0_2 vL62_0_2⟩] c62_0_23))) (.seq (.seq (.region r62_48 [] (some ⟨[2, 52], true, [], []⟩)) (.cond (.tmp 52) (.seq (.region r62_51 [] (some ⟨[6, 7], true, [], []⟩)) .ret) .skip)) (.seq (.region r62_53 [] (some ⟨[6, 7], true, [], []⟩)) .ret))))))))
noncomputable def cm62_0 : MCode := cm62_0g J62_0_0 L62_0_1 L62_0_2
theorem gm62_0 : cm62_0.Good Try.prog E62_0 sh62 := ⟨trivial, ⟨⟨g62_0_3, m62_0_0, trivial⟩, ⟨⟨trivial, ⟨⟨trivial, trivial⟩, trivial⟩⟩, ⟨⟨trivial, ⟨⟨trivial, trivial⟩, trivial⟩⟩, ⟨trivial, ⟨⟨trivial, ⟨g62_0_23, m62_0_1, m62_0_2, trivial⟩⟩, ⟨⟨trivial, ⟨⟨trivial, trivial⟩, trivial⟩⟩, ⟨trivial, trivial⟩⟩⟩⟩⟩⟩⟩⟩
theorem fm62_0g (vf109_0 : Tf109_0) (vf78_0 : Tf78_0) (vf105_0 : Tf105_0) (vf116_0 : Tf116_0) (vJ62_0_0 : TJ62_0_0) (vL62_0_1 : TL62_0_1) (vL62_0_2 : TL62_0_2) (α : Type) (k : List RV → Option α) : Fn62_0 (f62_0g vJ62_0_0 vL62_0_1 vL62_0_2) α k = pa62_0.unc fun ds => fnM Try.prog (E62_0g vf109_0 vf78_0 vf105_0 vf116_0) sh62 (cm62_0g vJ62_0_0 vL62_0_1 vL62_0_2) rs62 k ds := by kernel_rfl
theorem fm62_0 : ∀ (α : Type) (k : List RV → Option α), Fn62_0 f62_0 α k = pa62_0.unc fun ds => fnM Try.prog E62_0 sh62 cm62_0 rs62 k ds := fm62_0g f109_0 f78_0 f105_0 f116_0 J62_0_0 L62_0_1 L62_0_2

theorem is62 : FnIs Try.prog 62 nt62 tr62 tl62 cm62_0.erase rs62 := ⟨Try.f62, Try.func62, rfl, by kernel_rfl, by kernel_rfl, by kernel_rfl⟩
theorem io62_0 : InstOk Try.prog 62 nt62 ⟨pa62_0, Fn62_0 f62_0⟩ := inst_ok eo62_0 followsTry is62 ⟨⟨sh62, cm62_0, by kernel_rfl, gm62_0, fm62_0⟩⟩

/-! ### F60 etalon/grow.CheckLabels -/
abbrev nt60 : Nat := 81
def sh60 : List (Nat × List Sh) := [(17, [.sl, .sl]), (18, [.sl, .sl]), (25, [.sl]), (28, [.sl]), (32, [.sl]), (36, [.int .i64]), (37, [.int .i64]), (42, [.sl]), (44, [.int .i64]), (45, [.int .i64]), (46, [.int .i64]), (48, [.sl]), (55, [.sl, .sl]), (56, [.int .i64]), (60, [.sl, .sl]), (61, [.int .i64]), (65, [.sl]), (67, [.int .i64]), (68, [.int .i64]), (69, [.sl]), (70, [.int .i64]), (71, [.int .i64]), (72, [.int .i64]), (76, [.sl]), (78, [.int .i64]), (79, [.int .i64]), (80, [.int .i64])]
def r60_2 : List AOper := [oO 3 (.box (.tmp 0)), oO 4 (.box (.tmp 1)), oO 5 (.box (.tmp 2)), oO 6 (.alloc [(.d (.v (.int .i64 0)))]), oO 7 (.alloc [(.d (.v (.int .i64 0)))])]
def r60_4 : List AOper := [oO 17 (.load true 2 (.tmp 3)), oO 18 (.load true 2 (.tmp 4)), oO 19 (.call 109 [(.tmp 17), (.tmp 18)]), oM 16 19, oO 20 (.extract 0 (.tmp 16)), oO 21 (.extract 1 (.tmp 16)), oO 8 (.alloc [.nils, .nils, (.d (.v (.int .i64 0))), (.d (.v (.int .i64 0)))]), ⟨none, (.store 4 (.tmp 8) (.tmp 20)), none⟩, oM 9 21]
def r60_7 : List AOper := [oM 22 9, oO 23 (.bin .neq 32 (.tmp 22) (.const (.int .i64 0)))]
def r60_10 : List AOper := [oM 24 9, ⟨none, (.store 1 (.tmp 6) (.const (.int .i64 0))), none⟩, ⟨none, (.store 1 (.tmp 7) (.tmp 24)), none⟩]
def r60_13 : List AOper := [oO 25 (.load false 1 (.tmp 5)), oO 26 (.len (.tmp 25)), oO 27 (.faddr 0 (.tmp 3)), oO 28 (.load false 1 (.tmp 27)), oO 29 (.len (.tmp 28)), oO 30 (.bin .shl 3 (.const (.int .i64 1)) (.tmp 29)), oO 31 (.bin .neq 3 (.tmp 26) (.tmp 30))]
def r60_16 : List AOper := [⟨none, (.store 1 (.tmp 6) (.const (.int .i64 0))), none⟩, ⟨none, (.store 1 (.tmp 7) (.const (.int .i64 12))), none⟩]
def r60_19 : List AOper := [oO 32 (.load false 1 (.tmp 5)), oO 33 (.len (.tmp 32)), oO 34 (.mv (.const (.int .i64 0)))]
def td60_21 : Option Tidy := (some ⟨[5, 6, 7, 8, 32, 33, 34], true, [⟨false, 32, 0, 20032, 1⟩, ⟨true, 3, 0, 30300, 1⟩, ⟨true, 3, 1, 30301, 4⟩, ⟨true, 4, 0, 30400, 1⟩, ⟨true, 4, 1, 30401, 1⟩, ⟨true, 5, 0, 30500, 1⟩, ⟨true, 8, 0, 30800, 1⟩, ⟨true, 8, 1, 30801, 4⟩, ⟨false, 0, 0, 30800, 999999⟩, ⟨false, 0, 0, 30801, 999999⟩], []⟩)
def r60_23 : List AOper := [oO 35 (.bin .lss 3 (.tmp 34) (.tmp 33))]
def r60_29 : List AOper := [oO 36 (.iaddr 1 none (.tmp 32) (.tmp 34)), oO 37 (.load false 1 (.tmp 36)), oM 11 37]
def r60_31 : List AOper := [oM 38 11, oO 39 (.call 78 [(.tmp 38), (.const (.int .i64 0)), (.const (.int .i64 1000))]), oO 40 (.pure (oB (.unOp .not 4 (.tmp 39)) 4))]
def r60_34 : List AOper := [⟨none, (.store 1 (.tmp 6) (.const (.int .i64 0))), none⟩, ⟨none, (.store 1 (.tmp 7) (.const (.int .i64 2))), none⟩]
def r60_35 : List AOper := [oO 41 (.bin .add 3 (.tmp 34) (.const (.int .i64 1))), oM 34 41]
def r60_38 : List AOper := [oO 42 (.load false 1 (.tmp 5)), oO 43 (.faddr 2 (.tmp 8)), oO 44 (.load false 1 (.tmp 43)), oO 45 (.iaddr 1 none (.tmp 42) (.tmp 44)), oO 46 (.load false 1 (.tmp 45)), oO 47 (.bin .neq 3 (.tmp 46) (.const (.int .i64 0)))]
def r60_41 : List AOper := [⟨none, (.store 1 (.tmp 6) (.const (.int .i64 0))), none⟩, ⟨none, (.store 1 (.tmp 7) (.const (.int .i64 20))), none⟩]
def r60_44 : List AOper := [oO 48 (.load false 1 (.tmp 5)), oO 49 (.len (.tmp 48)), oO 50 (.mv (.const (.int .i64 0)))]
def td60_46 : Option Tidy := (some ⟨[5, 6, 7, 8, 49, 50], true, [⟨true, 3, 0, 30300, 1⟩, ⟨true, 3, 1, 30301, 4⟩, ⟨true, 4, 0, 30400, 1⟩, ⟨true, 4, 1, 30401, 1⟩, ⟨true, 5, 0, 30500, 1⟩, ⟨true, 8, 0, 30800, 1⟩, ⟨true, 8, 1, 30801, 4⟩, ⟨false, 0, 0, 30800, 999999⟩, ⟨false, 0, 0, 30801, 999999⟩], []⟩)
def r60_48 : List AOper := [oO 51 (.bin .lss 3 (.tmp 50) (.tmp 49))]
def r60_54 : List AOper := [oM 52 50, oM 12 52]
def r60_56 : List AOper := [oM 53 12, oO 13 (.alloc [(.d (.v (.int .i64 0)))]), ⟨none, (.store 1 (.tmp 13) (.tmp 53)), none⟩]
def r60_59 : List AOper := [oO 54 (.faddr 0 (.tmp 8)), oO 55 (.load true 2 (.tmp 54)), oO 56 (.load false 1 (.tmp 13)), oO 57 (.call 116 [(.tmp 55), (.tmp 56)]), oO 58 (.pure (oB (.unOp .not 4 (.tmp 57)) 4))]
def r60_62 : List AOper := [oO 59 (.faddr 0 (.tmp 8)), oO 60 (.load true 2 (.tmp 59)), oO 61 (.load false 1 (.tmp 13)), oO 62 (.call 111 [(.tmp 60), (.tmp 61)])]
def td60_64 : Option Tidy := (some ⟨[5, 6, 7, 8, 13, 49, 50, 62], true, [⟨true, 3, 0, 30300, 1⟩, ⟨true, 3, 1, 30301, 4⟩, ⟨true, 4, 0, 30400, 1⟩, ⟨true, 4, 1, 30401, 1⟩, ⟨true, 5, 0, 30500, 1⟩, ⟨true, 8, 0, 30800, 1⟩, ⟨true, 8, 1, 30801, 4⟩, ⟨false, 0, 0, 30800, 999999⟩, ⟨false, 0, 0, 30801, 999999⟩], []⟩)
def r60_65 : List AOper := [oM 15 64]
def r60_68 : List AOper := [oO 65 (.load false 1 (.tmp 5)), oM 66 15, oO 67 (.iaddr 1 none (.tmp 65) (.tmp 66)), oO 68 (.load false 1 (.tmp 67)), oO 69 (.load false 1 (.tmp 5)), oO 70 (.load false 1 (.tmp 13)), oO 71 (.iaddr 1 none (.tmp 69) (.tmp 70)), oO 72 (.load false 1 (.tmp 71)), oO 73 (.bin .add 3 (.tmp 72) (.const (.int .i64 1))), oO 74 (.bin .gtr 3 (.tmp 68) (.tmp 73))]
def r60_71 : List AOper := [⟨none, (.store 1 (.tmp 6) (.const (.int .i64 0))), none⟩, ⟨none, (.store 1 (.tmp 7) (.const (.int .i64 20))), none⟩]
def r60_72 : List AOper := [oO 75 (.bin .add 3 (.tmp 50) (.const (.int .i64 1))), oM 50 75]
def r60_74 : List AOper := [oO 76 (.load false 1 (.tmp 5)), oO 77 (.faddr 3 (.tmp 8)), oO 78 (.load false 1 (.tmp 77)), oO 79 (.iaddr 1 none (.tmp 76) (.tmp 78)), oO 80 (.load false 1 (.tmp 79)), ⟨none, (.store 1 (.tmp 6) (.tmp 80)), none⟩, ⟨none, (.store 1 (.tmp 7) (.const (.int .i64 0))), none⟩]
def tr60 : List (Nat × Tidy) := [(0, ⟨[3, 4, 5, 6, 7], true, [], []⟩), (1, ⟨[3, 5, 6, 7, 8, 9], true, [], []⟩), (2, ⟨[3, 5, 6, 7, 8, 9, 23], true, [], []⟩), (3, ⟨[6, 7], true, [], []⟩), (4, ⟨[5, 6, 7, 8, 31], true, [], []⟩), (5, ⟨[6, 7], true, [], []⟩), (6, ⟨[5, 6, 7, 8, 32, 33, 34], true, [], []⟩), (7, ⟨[5, 6, 7, 8, 32, 33, 34, 35], true, [], []⟩), (8, ⟨[5, 6, 7, 8, 11, 32, 33, 34], true, [], []⟩), (9, ⟨[5, 6, 7, 8, 32, 33, 34, 40], true, [], []⟩), (10, ⟨[6, 7], true, [], []⟩), (11, ⟨[5, 6, 7, 8, 32, 33, 34], true, [], []⟩), (12, ⟨[5, 6, 7, 8, 47], true, [], []⟩), (13, ⟨[6, 7], true, [], []⟩), (14, ⟨[5, 6, 7, 8, 49, 50], true, [], []⟩), (15, ⟨[5, 6, 7, 8, 49, 50, 51], true, [], []⟩), (16, ⟨[5, 6, 7, 8, 12, 49, 50], true, [], []⟩), (17, ⟨[5, 6, 7, 8, 13, 49, 50], true, [], []⟩), (18, ⟨[5, 6, 7, 8, 13, 49, 50, 58], true, [], []⟩), (19, ⟨[5, 6, 7, 8, 13, 49, 50, 62], true, [⟨true, 3, 0, 30300, 1⟩, ⟨true, 3, 1, 30301, 4⟩, ⟨true, 4, 0, 30400, 1⟩, ⟨true, 4, 1, 30401, 1⟩, ⟨true, 5, 0, 30500, 1⟩, ⟨true, 8, 0, 30800, 1⟩, ⟨true, 8, 1, 30801, 4⟩, ⟨false, 0, 0, 30800, 999999⟩, ⟨false, 0, 0, 30801, 999999⟩], []⟩), (20, ⟨[5, 6, 7, 8, 13, 15, 49, 50], true, [], []⟩), (21, ⟨[5, 6, 7, 8, 13, 49, 50, 74], true, [], []⟩), (22, ⟨[6, 7], true, [], []⟩), (23, ⟨[5, 6, 7, 8, 49, 50], true, [], []⟩), (24, ⟨[6, 7], true, [], []⟩)]
def tl60 : List (Nat × Tidy) := [(7, ⟨[5, 6, 7, 8, 32, 33, 34], true, [⟨false, 32, 0, 20032, 1⟩, ⟨true, 3, 0, 30300, 1⟩, ⟨true, 3, 1, 30301, 4⟩, ⟨true, 4, 0, 30400, 1⟩, ⟨true, 4, 1, 30401, 1⟩, ⟨true, 5, 0, 30500, 1⟩, ⟨true, 8, 0, 30800, 1⟩, ⟨true, 8, 1, 30801, 4⟩, ⟨false, 0, 0, 30800, 999999⟩, ⟨false, 0, 0, 30801, 999999⟩], []⟩), (15, ⟨[5, 6, 7, 8, 49, 50], true, [⟨true, 3, 0, 30300, 1⟩, ⟨true, 3, 1, 30301, 4⟩, ⟨true, 4, 0, 30400, 1⟩, ⟨true, 4, 1, 30401, 1⟩, ⟨true, 5, 0, 30500, 1⟩, ⟨true, 8, 0, 30800, 1⟩, ⟨true, 8, 1, 30801, 4⟩, ⟨false, 0, 0, 30800, 999999⟩, ⟨false, 0, 0, 30801, 999999⟩], []⟩), (21, ⟨[5, 6, 7, 8, 13, 49, 50, 62], true, [⟨true, 3, 0, 30300, 1⟩, ⟨true, 3, 1, 30301, 4⟩, ⟨true, 4, 0, 30400, 1⟩, ⟨true, 4, 1, 30401, 1⟩, ⟨true, 5, 0, 30500, 1⟩, ⟨true, 8, 0, 30800, 1⟩, ⟨true, 8, 1, 30801, 4⟩, ⟨false, 0, 0, 30800, 999999⟩, ⟨false, 0, 0, 30801, 999999⟩], []⟩)]
def rs60 : List AResV := [.cell 6 false 1, .cell 7 false 1]
def p60_0_0 : PT St := pS [sl 3 (aV false [(cPtr 3 0)]), sl 4 (aV false [(cPtr 4 0)]), sl 5 (aV false [(cPtr 5 0)]), sl 6 (aV false [(cPtr 6 0)]), sl 7 (aV false [(cPtr 7 0)])] [eBox 3 [(cD dL), (cD dL)], eBox 4 [(cD dL), (cD dL)], eBox 5 [(cD dL)], eBox 6 [(cD (dI .i64))], eBox 7 [(cD (dI .i64))]]
def u60_0_0 {β : Type} (g : St → β) : Rows → Rows → Rows → Rows → Rows → Int → Int → β := p60_0_0.unc g

def p60_0_1 : PT St := pS [sl 3 (aV false [(cPtr 3 0)]), sl 5 (aV false [(cPtr 5 0)]), sl 6 (aV false [(cPtr 6 0)]), sl 7 (aV false [(cPtr 7 0)]), sl 8 (aV false [(cPtr 8 0)]), sl 9 (aV false [(cD (dI .i64))])] [eBox 3 [(cD dL), (cD dL)], eBox 5 [(cD dL)], eBox 6 [(cD (dI .i64))], eBox 7 [(cD (dI .i64))], eBox 8 [(cRef 19), (cRef 10019), (cD (dI .i64)), (cD (dI .i64))], eOwn 19 1, eOwn 10019 4]
def u60_0_1 {β : Type} (g : St → β) : Int → Rows → Rows → Rows → Int → Int → Int → Int → Rows → Rows → β := p60_0_1.unc g

def p60_0_2 : PT St := pS [sl 3 (aV false [(cPtr 3 0)]), sl 5 (aV false [(cPtr 5 0)]), sl 6 (aV false [(cPtr 6 0)]), sl 7 (aV false [(cPtr 7 0)]), sl 8 (aV false [(cPtr 8 0)]), sl 9 (aV false [(cD (dI .i64))])] [eBox 3 [(cD dL), (cD dL)], eBox 5 [(cD dL)], eBox 6 [(cD (dI .i64))], eBox 7 [(cD (dI .i64))], eBox 8 [(cD dL), (cD dL), (cD (dI .i64)), (cD (dI .i64))]]
def u60_0_2 {β : Type} (g : St → β) : Int → Rows → Rows → Rows → Int → Int → Rows → Rows → Int → Int → β := p60_0_2.unc g

def p60_0_3 : PT St := pS [sl 5 (aV false [(cPtr 5 0)]), sl 6 (aV false [(cPtr 6 0)]), sl 7 (aV false [(cPtr 7 0)]), sl 8 (aV false [(cPtr 8 0)]), sl 32 (aV false [(cD dL)]), sl 33 (aV false [(cD (dI .i64))]), sl 34 (aV false [(cD (dI .i64))])] [eBox 5 [(cD dL)], eBox 6 [(cD (dI .i64))], eBox 7 [(cD (dI .i64))], eBox 8 [(cRef 30800), (cRef 30801), (cD (dI .i64)), (cD (dI .i64))], eImm 30800, eImm 30801]
def u60_0_3 {β : Type} (g : St → β) : Rows → Int → Int → Rows → Int → Int → Int → Int → Rows → Rows → β := p60_0_3.unc g

def p60_0_4 : PT St := pS [sl 6 (aV false [(cPtr 6 0)]), sl 7 (aV false [(cPtr 7 0)])] [eBox 6 [(cD (dI .i64))], eBox 7 [(cD (dI .i64))]]
def u60_0_4 {β : Type} (g : St → β) : Int → Int → β := p60_0_4.unc g

def p60_0_5 : PT St := pS [sl 5 (aV false [(cPtr 5 0)]), sl 6 (aV false [(cPtr 6 0)]), sl 7 (aV false [(cPtr 7 0)]), sl 8 (aV false [(cPtr 8 0)]), sl 32 (aV false [(cD dL)]), sl 33 (aV false [(cD (dI .i64))]), sl 34 (aV false [(cD (dI .i64))]), sl 35 (aV false [(cD dB)])] [eBox 5 [(cD dL)], eBox 6 [(cD (dI .i64))], eBox 7 [(cD (dI .i64))], eBox 8 [(cRef 30800), (cRef 30801), (cD (dI .i64)), (cD (dI .i64))], eImm 30800, eImm 30801]
def u60_0_5 {β : Type} (g : St → β) : Rows → Int → Int → Bool → Rows → Int → Int → Int → Int → Rows → Rows → β := p60_0_5.unc g

def p60_0_6 : PT St := pS [sl 5 (aV false [(cPtr 5 0)]), sl 6 (aV false [(cPtr 6 0)]), sl 7 (aV false [(cPtr 7 0)]), sl 8 (aV false [(cPtr 8 0)]), sl 13 (aV false [(cPtr 13 0)]), sl 49 (aV false [(cD (dI .i64))]), sl 50 (aV false [(cD (dI .i64))]), sl 62 (aV false [(cD (dFn 131 [(dP [dL, dL] 0), (dP [(dI .i64)] 0)]))])] [eBox 5 [(cD dL)], eBox 6 [(cD (dI .i64))], eBox 7 [(cD (dI .i64))], eBox 8 [(cRef 30800), (cRef 30801), (cD (dI .i64)), (cD (dI .i64))], eImm 30800, eImm 30801, eBox 13 [(cD (dI .i64))]]
def u60_0_6 {β : Type} (g : St → β) : Int → Int → Rows → Rows → Int → Rows → Int → Int → Int → Int → Rows → Rows → Int → β := p60_0_6.unc g

def p60_0_7 : PT St := pS [sl 5 (aV false [(cPtr 5 0)]), sl 6 (aV false [(cPtr 6 0)]), sl 7 (aV false [(cPtr 7 0)]), sl 8 (aV false [(cPtr 8 0)]), sl 13 (aV false [(cPtr 13 0)]), sl 49 (aV false [(cD (dI .i64))]), sl 50 (aV false [(cD (dI .i64))]), sl 62 (aV false [(cD (dFn 131 [(dP [dL, dL] 0), (dP [(dI .i64)] 0)]))])] [eBox 6 [(cD (dI .i64))], eBox 7 [(cD (dI .i64))], eBox 5 [(cD dL)], eBox 8 [(cRef 30800), (cRef 30801), (cD (dI .i64)), (cD (dI .i64))], eImm 30800, eImm 30801, eBox 13 [(cD (dI .i64))]]
def u60_0_7 {β : Type} (g : St → β) : Int → Int → Rows → Rows → Int → Int → Int → Rows → Int → Int → Rows → Rows → Int → β := p60_0_7.unc g

def p60_0_8 : PT St := pS [sl 5 (aV false [(cPtr 5 0)]), sl 6 (aV false [(cPtr 6 0)]), sl 7 (aV false [(cPtr 7 0)]), sl 8 (aV false [(cPtr 8 0)]), sl 49 (aV false [(cD (dI .i64))]), sl 50 (aV false [(cD (dI .i64))])] [eBox 5 [(cD dL)], eBox 6 [(cD (dI .i64))], eBox 7 [(cD (dI .i64))], eBox 8 [(cRef 30800), (cRef 30801), (cD (dI .i64)), (cD (dI .i64))], eImm 30800, eImm 30801]
def u60_0_8 {β : Type} (g : St → β) : Int → Int → Rows → Int → Int → Int → Int → Rows → Rows → β := p60_0_8.unc g

def p60_0_9 : PT St := pS [sl 5 (aV false [(cPtr 5 0)]), sl 6 (aV false [(cPtr 6 0)]), sl 7 (aV false [(cPtr 7 0)]), sl 8 (aV false [(cPtr 8 0)]), sl 49 (aV false [(cD (dI .i64))]), sl 50 (aV false [(cD (dI .i64))]), sl 51 (aV false [(cD dB)])] [eBox 5 [(cD dL)], eBox 6 [(cD (dI .i64))], eBox 7 [(cD (dI .i64))], eBox 8 [(cRef 30800), (cRef 30801), (cD (dI .i64)), (cD (dI .i64))], eImm 30800, eImm 30801]
def u60_0_9 {β : Type} (g : St → β) : Int → Int → Bool → Rows → Int → Int → Int → Int → Rows → Rows → β := p60_0_9.unc g

def p60_0_10 : PT St := pS [sl 5 (aV false [(cPtr 5 0)]), sl 6 (aV false [(cPtr 6 0)]), sl 7 (aV false [(cPtr 7 0)]), sl 8 (aV false [(cPtr 8 0)]), sl 32 (aV false [(cD dL)]), sl 33 (aV false [(cD (dI .i64))]), sl 34 (aV false [(cD (dI .i64))])] [eBox 5 [(cD dL)], eBox 6 [(cD (dI .i64))], eBox 7 [(cD (dI .i64))], eBox 8 [(cD dL), (cD dL), (cD (dI .i64)), (cD (dI .i64))]]
def u60_0_10 {β : Type} (g : St → β) : Rows → Int → Int → Rows → Int → Int → Rows → Rows → Int → Int → β := p60_0_10.unc g

def p60_0_11 : PT St := pS [sl 5 (aV false [(cPtr 5 0)]), sl 6 (aV false [(cPtr 6 0)]), sl 7 (aV false [(cPtr 7 0)]), sl 8 (aV false [(cPtr 8 0)]), sl 32 (aV false [(cD dL)]), sl 33 (aV false [(cD (dI .i64))]), sl 34 (aV false [(cD (dI .i64))]), sl 35 (aV false [(cD dB)])] [eBox 5 [(cD dL)], eBox 6 [(cD (dI .i64))], eBox 7 [(cD (dI .i64))], eBox 8 [(cD dL), (cD dL), (cD (dI .i64)), (cD (dI .i64))]]
def u60_0_11 {β : Type} (g : St → β) : Rows → Int → Int → Bool → Rows → Int → Int → Rows → Rows → Int → Int → β := p60_0_11.unc g

def p60_0_12 : PT St := pS [sl 5 (aV false [(cPtr 5 0)]), sl 6 (aV false [(cPtr 6 0)]), sl 7 (aV false [(cPtr 7 0)]), sl 8 (aV false [(cPtr 8 0)]), sl 13 (aV false [(cPtr 13 0)]), sl 49 (aV false [(cD (dI .i64))]), sl 50 (aV false [(cD (dI .i64))]), sl 62 (aV false [(cD (dFn 131 [(dP [dL, dL] 0), (dP [(dI .i64)] 0)]))])] [eBox 5 [(cD dL)], eBox 6 [(cD (dI .i64))], eBox 7 [(cD (dI .i64))], eBox 8 [(cD dL), (cD dL), (cD (dI .i64)), (cD (dI .i64))], eBox 13 [(cD (dI .i64))]]
def u60_0_12 {β : Type} (g : St → β) : Int → Int → Rows → Rows → Int → Rows → Int → Int → Rows → Rows → Int → Int → Int → β := p60_0_12.unc g

def p60_0_13 : PT St := pS [sl 5 (aV false [(cPtr 5 0)]), sl 6 (aV false [(cPtr 6 0)]), sl 7 (aV false [(cPtr 7 0)]), sl 8 (aV false [(cPtr 8 0)]), sl 13 (aV false [(cPtr 13 0)]), sl 49 (aV false [(cD (dI .i64))]), sl 50 (aV false [(cD (dI .i64))]), sl 62 (aV false [(cD (dFn 131 [(dP [dL, dL] 0), (dP [(dI .i64)] 0)]))])] [eBox 6 [(cD (dI .i64))], eBox 7 [(cD (dI .i64))], eBox 5 [(cD dL)], eBox 8 [(cD dL), (cD dL), (cD (dI .i64)), (cD (dI .i64))], eBox 13 [(cD (dI .i64))]]
def u60_0_13 {β : Type} (g : St → β) : Int → Int → Rows → Rows → Int → Int → Int → Rows → Rows → Rows → Int → Int → Int → β := p60_0_13.unc g

def p60_0_14 : PT St := pS [sl 5 (aV false [(cPtr 5 0)]), sl 6 (aV false [(cPtr 6 0)]), sl 7 (aV false [(cPtr 7 0)]), sl 8 (aV false [(cPtr 8 0)]), sl 49 (aV false [(cD (dI .i64))]), sl 50 (aV false [(cD (dI .i64))])] [eBox 5 [(cD dL)], eBox 6 [(cD (dI .i64))], eBox 7 [(cD (dI .i64))], eBox 8 [(cD dL), (cD dL), (cD (dI .i64)), (cD (dI .i64))]]
def u60_0_14 {β : Type} (g : St → β) : Int → Int → Rows → Int → Int → Rows → Rows → Int → Int → β := p60_0_14.unc g

def p60_0_15 : PT St := pS [sl 5 (aV false [(cPtr 5 0)]), sl 6 (aV false [(cPtr 6 0)]), sl 7 (aV false [(cPtr 7 0)]), sl 8 (aV false [(cPtr 8 0)]), sl 49 (aV false [(cD (dI .i64))]), sl 50 (aV false [(cD (dI .i64))]), sl 51 (aV false [(cD dB)])] [eBox 5 [(cD dL)], eBox 6 [(cD (dI .i64))], eBox 7 [(cD (dI .i64))], eBox 8 [(cD dL), (cD dL), (cD (dI .i64)), (cD (dI .i64))]]
def u60_0_15 {β : Type} (g : St → β) : Int → Int → Bool → Rows → Int → Int → Rows → Rows → Int → Int → β := p60_0_15.unc g

def pr60_0_0 : PT (List RV) := pRs [pR false [rD (dI .i64)], pR false [rD (dI .i64)]]
def ur60_0_0 {β : Type} (g : List RV → β) : Int → Int → β := pr60_0_0.unc g

def E60_0g (vf109_0 : Tf109_0) (vf78_0 : Tf78_0) (vf116_0 : Tf116_0) (vf111_0 : Tf111_0) (vq131 : Tq131) : EnvK := EnvK.of [⟨109, nt109, [⟨pa109_0, Fn109_0 vf109_0⟩]⟩, ⟨78, nt78, [⟨pa78_0, Fn78_0 vf78_0⟩]⟩, ⟨116, nt116, [⟨pa116_0, Fn116_0 vf116_0⟩]⟩, ⟨111, nt111, [⟨pa111_0, Fn111_0 vf111_0⟩]⟩] (seqE [⟨131, pq131, vq131⟩])
noncomputable def E60_0 : EnvK := E60_0g f109_0 f78_0 f116_0 f111_0 q131
theorem eo60_0 : E60_0.Ok Try.prog := EnvK.of_ok (seqE_ok (l := [⟨131, pq131, q131⟩]) ⟨sqok131, trivial⟩) ⟨⟨io109_0, trivial⟩, ⟨io78_0, trivial⟩, ⟨io116_0, trivial⟩, ⟨io111_0, trivial⟩, trivial⟩

noncomputable def ca60_0_64 : MCode := (.region r60_65 [] (some ⟨[5, 6, 7, 8, 13, 15, 49, 50], true, [], []⟩))
theorem ga60_0_64 : ca60_0_64.Good Try.prog E60_0 sh60 := trivial

noncomputable def c60_0_64g  : MCode := (.block 5 (.seq (.region r60_68 [] (some ⟨[5, 6, 7, 8, 13, 49, 50, 74], true, [], []⟩)) (.cond (.tmp 74) (.seq (.region r60_71 [] (some ⟨[6, 7], true, [], []⟩)) .ret) .skip)))
noncomputable def c60_0_64 : MCode := c60_0_64g 
theorem g60_0_64 : c60_0_64.Good Try.prog E60_0 sh60 := ⟨trivial, ⟨⟨trivial, trivial⟩, trivial⟩⟩
--CODE 64 0
def S60_0_2g  (α : Type) (x66 : Rows) (x73 : Int) (y74 : Int × Int)  (kn : Option α) (k1 : Option α) (k2 : Option α) : Option α :=
 rowK x66 y74.2 [.int .i64]
 (fun (x75 : Int) => rowK x66 x73 [.int .i64]
 (fun (x76 : Int) => cK (decide ((w64 (x76 + 1)) < x75))
 (k2)
 (kn)))
noncomputable def S60_0_2 (α : Type) (x66 : Rows) (x73 : Int) (y74 : Int × Int)  (kn : Option α) (k1 : Option α) (k2 : Option α) : Option α := S60_0_2g  α x66 x73 y74  kn k1 k2
noncomputable def V60_0_2 (α : Type) (x66 : Rows) (x73 : Int) (k1 : Option α) (k2 : Option α) : List (Int × Int) → Option α
 | [] => k1 
 | y74 :: ys => S60_0_2 α x66 x73 y74  (V60_0_2 α x66 x73 k1 k2 ys) k1 k2
abbrev TV60_0_2 : Type 1 := (α : Type) → Rows → Int → (Option α) → (Option α) → List (Int × Int) → Option α
def F60_0_2 (v : TV60_0_2) (α : Type) (K : Exit → St → Option α) (ys : List (Int × Int)) : Int → Int → Rows → Rows → Int → Rows → Int → Int → Int → Int → Rows → Rows → Int → Option α := fun x61 x62 x63 x64 x65 x66 x67 x68 x69 x70 x71 x72 x73 => v α x66 x73 (u60_0_6 (K .normal) x61 x62 x63 x64 x65 x66 x67 x68 x69 x70 x71 x72 x73) (u60_0_7 (K .ret) x61 x62 x63 x64 x65 0 20 x66 x69 x70 x71 x72 x73) ys 
theorem r60_0_2g (vf109_0 : Tf109_0) (vf78_0 : Tf78_0) (vf116_0 : Tf116_0) (vf111_0 : Tf111_0) (vq131 : Tq131)  (α : Type) (K : Exit → St → Option α) (Kn : St → Option α) (y74 : Int × Int) (x61 : Int) (x62 : Int) (x63 : Rows) (x64 : Rows) (x65 : Int) (x66 : Rows) (x67 : Int) (x68 : Int) (x69 : Int) (x70 : Int) (x71 : Rows) (x72 : Rows) (x73 : Int) : u60_0_6 (fun σ => roundT (runM Try.prog (E60_0g vf109_0 vf78_0 vf116_0 vf111_0 vq131) sh60 ca60_0_64) (runM Try.prog (E60_0g vf109_0 vf78_0 vf116_0 vf111_0 vq131) sh60 c60_0_64) [63, 64] td60_64 Kn K (xII.ex y74) σ) x61 x62 x63 x64 x65 x66 x67 x68 x69 x70 x71 x72 x73 = S60_0_2g  α x66 x73 y74  (u60_0_6 Kn x61 x62 x63 x64 x65 x66 x67 x68 x69 x70 x71 x72 x73) (u60_0_6 (K .normal) x61 x62 x63 x64 x65 x66 x67 x68 x69 x70 x71 x72 x73) (u60_0_7 (K .ret) x61 x62 x63 x64 x65 0 20 x66 x69 x70 x71 x72 x73) := by kernel_rfl
theorem r60_0_2 (α : Type) (K : Exit → St → Option α) (Kn : St → Option α) (y74 : Int × Int) (x61 : Int) (x62 : Int) (x63 : Rows) (x64 : Rows) (x65 : Int) (x66 : Rows) (x67 : Int) (x68 : Int) (x69 : Int) (x70 : Int) (x71 : Rows) (x72 : Rows) (x73 : Int) : u60_0_6 (fun σ => roundT (runM Try.prog E60_0 sh60 ca60_0_64) (runM Try.prog E60_0 sh60 c60_0_64) [63, 64] td60_64 Kn K (xII.ex y74) σ) x61 x62 x63 x64 x65 x66 x67 x68 x69 x70 x71 x72 x73 = S60_0_2 α x66 x73 y74  (u60_0_6 Kn x61 x62 x63 x64 x65 x66 x67 x68 x69 x70 x71 x72 x73) (u60_0_6 (K .normal) x61 x62 x63 x64 x65 x66 x67 x68 x69 x70 x71 x72 x73) (u60_0_7 (K .ret) x61 x62 x63 x64 x65 0 20 x66 x69 x70 x71 x72 x73) := r60_0_2g f109_0 f78_0 f116_0 f111_0 q131 α K Kn y74 x61 x62 x63 x64 x65 x66 x67 x68 x69 x70 x71 x72 x73
theorem t60_0_2 (α : Type) (K : Exit → St → Option α) : ∀ (ys : List (Int × Int)) (x61 : Int) (x62 : Int) (x63 : Rows) (x64 : Rows) (x65 : Int) (x66 : Rows) (x67 : Int) (x68 : Int) (x69 : Int) (x70 : Int) (x71 : Rows) (x72 : Rows) (x73 : Int), V60_0_2 α x66 x73 (u60_0_6 (K .normal) x61 x62 x63 x64 x65 x66 x67 x68 x69 x70 x71 x72 x73) (u60_0_7 (K .ret) x61 x62 x63 x64 x65 0 20 x66 x69 x70 x71 x72 x73) ys  = u60_0_6 (roundsK (runM Try.prog E60_0 sh60 ca60_0_64) (runM Try.prog E60_0 sh60 c60_0_64) [63, 64] td60_64 K (ys.map xII.ex)) x61 x62 x63 x64 x65 x66 x67 x68 x69 x70 x71 x72 x73 := by
 intro ys
 induction ys with
 | nil => intros; rfl
 | cons y74 ys ih => intro x61 x62 x63 x64 x65 x66 x67 x68 x69 x70 x71 x72 x73; exact (congrArg (fun kn => S60_0_2 α x66 x73 y74  kn (u60_0_6 (K .normal) x61 x62 x63 x64 x65 x66 x67 x68 x69 x70 x71 x72 x73) (u60_0_7 (K .ret) x61 x62 x63 x64 x65 0 20 x66 x69 x70 x71 x72 x73)) (ih x61 x62 x63 x64 x65 x66 x67 x68 x69 x70 x71 x72 x73)).trans (r60_0_2 α K (roundsK (runM Try.prog E60_0 sh60 ca60_0_64) (runM Try.prog E60_0 sh60 c60_0_64) [63, 64] td60_64 K (ys.map xII.ex)) y74 x61 x62 x63 x64 x65 x66 x67 x68 x69 x70 x71 x72 x73).symm
theorem m60_0_2 : ∀ (α : Type) (K : Exit → St → Option α) (ys : List (Int × Int)), F60_0_2 V60_0_2 α K ys = p60_0_6.unc fun σ => roundsK (runM Try.prog E60_0 sh60 ca60_0_64) (runM Try.prog E60_0 sh60 c60_0_64) [63, 64] td60_64 K (ys.map xII.ex) σ := fun α K ys => funext fun x61 => funext fun x62 => funext fun x63 => funext fun x64 => funext fun x65 => funext fun x66 => funext fun x67 => funext fun x68 => funext fun x69 => funext fun x70 => funext fun x71 => funext fun x72 => funext fun x73 => t60_0_2 α K ys x61 x62 x63 x64 x65 x66 x67 x68 x69 x70 x71 x72 x73
--CODE 64 0
def S60_0_5g  (α : Type) (x128 : Rows) (x135 : Int) (y136 : Int × Int)  (kn : Option α) (k1 : Option α) (k2 : Option α) : Option α :=
 rowK x128 y136.2 [.int .i64]
 (fun (x137 : Int) => rowK x128 x135 [.int .i64]
 (fun (x138 : Int) => cK (decide ((w64 (x138 + 1)) < x137))
 (k2)
 (kn)))
noncomputable def S60_0_5 (α : Type) (x128 : Rows) (x135 : Int) (y136 : Int × Int)  (kn : Option α) (k1 : Option α) (k2 : Option α) : Option α := S60_0_5g  α x128 x135 y136  kn k1 k2
noncomputable def V60_0_5 (α : Type) (x128 : Rows) (x135 : Int) (k1 : Option α) (k2 : Option α) : List (Int × Int) → Option α
 | [] => k1 
 | y136 :: ys => S60_0_5 α x128 x135 y136  (V60_0_5 α x128 x135 k1 k2 ys) k1 k2
abbrev TV60_0_5 : Type 1 := (α : Type) → Rows → Int → (Option α) → (Option α) → List (Int × Int) → Option α
def F60_0_5 (v : TV60_0_5) (α : Type) (K : Exit → St → Option α) (ys : List (Int × Int)) : Int → Int → Rows → Rows → Int → Rows → Int → Int → Rows → Rows → Int → Int → Int → Option α := fun x123 x124 x125 x126 x127 x128 x129 x130 x131 x132 x133 x134 x135 => v α x128 x135 (u60_0_12 (K .normal) x123 x124 x125 x126 x127 x128 x129 x130 x131 x132 x133 x134 x135) (u60_0_13 (K .ret) x123 x124 x125 x126 x127 0 20 x128 x131 x132 x133 x134 x135) ys 
theorem r60_0_5g (vf109_0 : Tf109_0) (vf78_0 : Tf78_0) (vf116_0 : Tf116_0) (vf111_0 : Tf111_0) (vq131 : Tq131)  (α : Type) (K : Exit → St → Option α) (Kn : St → Option α) (y136 : Int × Int) (x123 : Int) (x124 : Int) (x125 : Rows) (x126 : Rows) (x127 : Int) (x128 : Rows) (x129 : Int) (x130 : Int) (x131 : Rows) (x132 : Rows) (x133 : Int) (x134 : Int) (x135 : Int) : u60_0_12 (fun σ => roundT (runM Try.prog (E60_0g vf109_0 vf78_0 vf116_0 vf111_0 vq131) sh60 ca60_0_64) (runM Try.prog (E60_0g vf109_0 vf78_0 vf116_0 vf111_0 vq131) sh60 c60_0_64) [63, 64] td60_64 Kn K (xII.ex y136) σ) x123 x124 x125 x126 x127 x128 x129 x130 x131 x132 x133 x134 x135 = S60_0_5g  α x128 x135 y136  (u60_0_12 Kn x123 x124 x125 x126 x127 x128 x129 x130 x131 x132 x133 x134 x135) (u60_0_12 (K .normal) x123 x124 x125 x126 x127 x128 x129 x130 x131 x132 x133 x134 x135) (u60_0_13 (K .ret) x123 x124 x125 x126 x127 0 20 x128 x131 x132 x133 x134 x135) := by kernel_rfl
theorem r60_0_5 (α : Type) (K : Exit → St → Option α) (Kn : St → Option α) (y136 : Int × Int) (x123 : Int) (x124 : Int) (x125 : Rows) (x126 : Rows) (x127 : Int) (x128 : Rows) (x129 : Int) (x130 : Int) (x131 : Rows) (x132 : Rows) (x133 : Int) (x134 : Int) (x135 : Int) : u60_0_12 (fun σ => roundT (runM Try.prog E60_0 sh60 ca60_0_64) (runM Try.prog E60_0 sh60 c60_0_64) [63, 64] td60_64 Kn K (xII.ex y136) σ) x123 x124 x125 x126 x127 x128 x129 x130 x131 x132 x133 x134 x135 = S60_0_5 α x128 x135 y136  (u60_0_12 Kn x123 x124 x125 x126 x127 x128 x129 x130 x131 x132 x133 x134 x135) (u60_0_12 (K .normal) x123 x124 x125 x126 x127 x128 x129 x130 x131 x132 x133 x134 x135) (u60_0_13 (K .ret) x123 x124 x125 x126 x127 0 20 x128 x131 x132 x133 x134 x135) := r60_0_5g f109_0 f78_0 f116_0 f111_0 q131 α K Kn y136 x123 x124 x125 x126 x127 x128 x129 x130 x131 x132 x133 x134 x135
theorem t60_0_5 (α : Type) (K : Exit → St → Option α) : ∀ (ys : List (Int × Int)) (x123 : Int) (x124 : Int) (x125 : Rows) (x126 : Rows) (x127 : Int) (x128 : Rows) (x129 : Int) (x130 : Int) (x131 : Rows) (x132 : Rows) (x133 : Int) (x134 : Int) (x135 : Int), V60_0_5 α x128 x135 (u60_0_12 (K .normal) x123 x124 x125 x126 x127 x128 x129 x130 x131 x132 x133 x134 x135) (u60_0_13 (K .ret) x123 x124 x125 x126 x127 0 20 x128 x131 x132 x133 x134 x135) ys  = u60_0_12 (roundsK (runM Try.prog E60_0 sh60 ca60_0_64) (runM Try.prog E60_0 sh60 c60_0_64) [63, 64] td60_64 K (ys.map xII.ex)) x123 x124 x125 x126 x127 x128 x129 x130 x131 x132 x133 x134 x135 := by
 intro ys
 induction ys with
 | nil => intros; rfl
 | cons y136 ys ih => intro x123 x124 x125 x126 x127 x128 x129 x130 x131 x132 x133 x134 x135; exact (congrArg (fun kn => S60_0_5 α x128 x135 y136  kn (u60_0_12 (K .normal) x123 x124 x125 x126 x127 x128 x129 x130 x131 x132 x133 x134 x135) (u60_0_13 (K .ret) x123 x124 x125 x126 x127 0 20 x128 x131 x132 x133 x134 x135)) (ih x123 x124 x125 x126 x127 x128 x129 x130 x131 x132 x133 x134 x135)).trans (r60_0_5 α K (roundsK (runM Try.prog E60_0 sh60 ca60_0_64) (runM Try.prog E60_0 sh60 c60_0_64) [63, 64] td60_64 K (ys.map xII.ex)) y136 x123 x124 x125 x126 x127 x128 x129 x130 x131 x132 x133 x134 x135).symm
theorem m60_0_5 : ∀ (α : Type) (K : Exit → St → Option α) (ys : List (Int × Int)), F60_0_5 V60_0_5 α K ys = p60_0_12.unc fun σ => roundsK (runM Try.prog E60_0 sh60 ca60_0_64) (runM Try.prog E60_0 sh60 c60_0_64) [63, 64] td60_64 K (ys.map xII.ex) σ := fun α K ys => funext fun x123 => funext fun x124 => funext fun x125 => funext fun x126 => funext fun x127 => funext fun x128 => funext fun x129 => funext fun x130 => funext fun x131 => funext fun x132 => funext fun x133 => funext fun x134 => funext fun x135 => t60_0_5 α K ys x123 x124 x125 x126 x127 x128 x129 x130 x131 x132 x133 x134 x135

noncomputable def c60_0_46g (vV60_0_2 : TV60_0_2) (vV60_0_5 : TV60_0_5) : MCode := (.seq (.region r60_48 [] (some ⟨[5, 6, 7, 8, 49, 50, 51], true, [], []⟩)) (.seq (.cond (.tmp 51) .skip (.exit 2)) (.seq (.block 3 (.seq (.region r60_54 [] (some ⟨[5, 6, 7, 8, 12, 49, 50], true, [], []⟩)) (.seq (.region r60_56 [] (some ⟨[5, 6, 7, 8, 13, 49, 50], true, [], []⟩)) (.seq (.seq (.region r60_59 [] (some ⟨[5, 6, 7, 8, 13, 49, 50, 58], true, [], []⟩)) (.cond (.tmp 58) (.exit 3) .skip)) (.seq (.region r60_62 [] (some ⟨[5, 6, 7, 8, 13, 49, 50, 62], true, [⟨true, 3, 0, 30300, 1⟩, ⟨true, 3, 1, 30301, 4⟩, ⟨true, 4, 0, 30400, 1⟩, ⟨true, 4, 1, 30401, 1⟩, ⟨true, 5, 0, 30500, 1⟩, ⟨true, 8, 0, 30800, 1⟩, ⟨true, 8, 1, 30801, 4⟩, ⟨false, 0, 0, 30800, 999999⟩, ⟨false, 0, 0, 30801, 999999⟩], []⟩)) (.block 4 (.rangeF (.tmp 62) [63, 64] td60_64 [⟨xII, p60_0_6, F60_0_2 vV60_0_2⟩, ⟨xII, p60_0_12, F60_0_5 vV60_0_5⟩] ca60_0_64 c60_0_64))))))) (.region r60_72 [] (some ⟨[5, 6, 7, 8, 49, 50], true, [], []⟩)))))
noncomputable def c60_0_46 : MCode := c60_0_46g V60_0_2 V60_0_5
theorem g60_0_46 : c60_0_46.Good Try.prog E60_0 sh60 := ⟨trivial, ⟨⟨trivial, trivial⟩, ⟨⟨trivial, ⟨trivial, ⟨⟨trivial, ⟨trivial, trivial⟩⟩, ⟨trivial, ⟨⟨ga60_0_64, g60_0_64⟩, m60_0_2, m60_0_5, trivial⟩⟩⟩⟩⟩, trivial⟩⟩⟩
--CODE 46 0
def S60_0_3g (vV60_0_2 : TV60_0_2) (vf111_0 : Tf111_0) (vf116_0 : Tf116_0) (vq131 : Tq131) (α : Type) (x42 : Int) (x44 : Rows) (x49 : Rows) (x50 : Rows) (x43 : Int) (kn : Int → Option α) (k1 : Int → Rows → Rows → Int → Int → Option α) (k2 : Int → Bool → Option α) : Option α :=
 cK (decide (x43 < x42))
 (vf116_0 α x49 x50 x43
 (fun (x52 : Bool) => cK (!x52)
 (kn (w64 (x43 + 1)))
 (vf111_0 α x49 x50 x43
 (fun (x53 : Rows) (x54 : Rows) (x55 : Int) => qK (vq131 x53 x54 x55) xII fun y77 => vV60_0_2 α x44 x43
 (kn (w64 (x43 + 1)))
 (k1 x43 x53 x54 x55 x43) y77 ))))
 (k2 x43 (decide (x43 < x42)))
noncomputable def S60_0_3 (α : Type) (x42 : Int) (x44 : Rows) (x49 : Rows) (x50 : Rows) (x43 : Int) (kn : Int → Option α) (k1 : Int → Rows → Rows → Int → Int → Option α) (k2 : Int → Bool → Option α) : Option α := S60_0_3g V60_0_2 f111_0 f116_0 q131 α x42 x44 x49 x50 x43 kn k1 k2
noncomputable def R60_0_3 (α : Type) (x42 : Int) (x44 : Rows) (x49 : Rows) (x50 : Rows) (k1 : Int → Rows → Rows → Int → Int → Option α) (k2 : Int → Bool → Option α) : Nat → Int → Option α
 | 0, _ => none
 | n + 1, x43 => S60_0_3 α x42 x44 x49 x50 x43 (R60_0_3 α x42 x44 x49 x50 k1 k2 n) k1 k2
noncomputable def L60_0_3 (α : Type) (x42 : Int) (x44 : Rows) (x49 : Rows) (x50 : Rows) (k1 : Int → Rows → Rows → Int → Int → Option α) (k2 : Int → Bool → Option α) (x43 : Int) : Option α := R60_0_3 α x42 x44 x49 x50 k1 k2 fuel x43
abbrev TL60_0_3 : Type 1 := (α : Type) → Int → Rows → Rows → Rows → (Int → Rows → Rows → Int → Int → Option α) → (Int → Bool → Option α) → Int → Option α
def F60_0_3 (v : TL60_0_3) (α : Type) (K : Exit → St → Option α) : Int → Int → Rows → Int → Int → Int → Int → Rows → Rows → Option α := fun x42 x43 x44 x45 x46 x47 x48 x49 x50 => v α x42 x44 x49 x50 (fun (y1 : Int) (y2 : Rows) (y3 : Rows) (y4 : Int) (y5 : Int) => u60_0_7 (K .ret) x42 y1 y2 y3 y4 0 20 x44 x47 x48 x49 x50 y5) (fun (y1 : Int) (y2 : Bool) => u60_0_9 (K (.exit 2)) x42 y1 y2 x44 x45 x46 x47 x48 x49 x50) x43
theorem r60_0_3g (vf109_0 : Tf109_0) (vf78_0 : Tf78_0) (vf116_0 : Tf116_0) (vf111_0 : Tf111_0) (vq131 : Tq131) (vV60_0_2 : TV60_0_2) (vV60_0_5 : TV60_0_5) (α : Type) (K : Exit → St → Option α) (Kn : St → Option α) (x42 : Int) (x43 : Int) (x44 : Rows) (x45 : Int) (x46 : Int) (x47 : Int) (x48 : Int) (x49 : Rows) (x50 : Rows) : u60_0_8 (fun σ => runM Try.prog (E60_0g vf109_0 vf78_0 vf116_0 vf111_0 vq131) sh60 (c60_0_46g vV60_0_2 vV60_0_5) (thenK (fun σ => tidyK td60_46 σ Kn) K) σ) x42 x43 x44 x45 x46 x47 x48 x49 x50 = S60_0_3g vV60_0_2 vf111_0 vf116_0 vq131 α x42 x44 x49 x50 x43 (fun x43 => u60_0_8 Kn x42 x43 x44 x45 x46 x47 x48 x49 x50) (fun (y1 : Int) (y2 : Rows) (y3 : Rows) (y4 : Int) (y5 : Int) => u60_0_7 (K .ret) x42 y1 y2 y3 y4 0 20 x44 x47 x48 x49 x50 y5) (fun (y1 : Int) (y2 : Bool) => u60_0_9 (K (.exit 2)) x42 y1 y2 x44 x45 x46 x47 x48 x49 x50) := by kernel_rfl
theorem r60_0_3 (α : Type) (K : Exit → St → Option α) (Kn : St → Option α) (x42 : Int) (x43 : Int) (x44 : Rows) (x45 : Int) (x46 : Int) (x47 : Int) (x48 : Int) (x49 : Rows) (x50 : Rows) : u60_0_8 (fun σ => runM Try.prog E60_0 sh60 c60_0_46 (thenK (fun σ => tidyK td60_46 σ Kn) K) σ) x42 x43 x44 x45 x46 x47 x48 x49 x50 = S60_0_3 α x42 x44 x49 x50 x43 (fun x43 => u60_0_8 Kn x42 x43 x44 x45 x46 x47 x48 x49 x50) (fun (y1 : Int) (y2 : Rows) (y3 : Rows) (y4 : Int) (y5 : Int) => u60_0_7 (K .ret) x42 y1 y2 y3 y4 0 20 x44 x47 x48 x49 x50 y5) (fun (y1 : Int) (y2 : Bool) => u60_0_9 (K (.exit 2)) x42 y1 y2 x44 x45 x46 x47 x48 x49 x50) := r60_0_3g f109_0 f78_0 f116_0 f111_0 q131 V60_0_2 V60_0_5 α K Kn x42 x43 x44 x45 x46 x47 x48 x49 x50
theorem t60_0_3 (α : Type) (K : Exit → St → Option α) : ∀ (n : Nat) (x42 : Int) (x43 : Int) (x44 : Rows) (x45 : Int) (x46 : Int) (x47 : Int) (x48 : Int) (x49 : Rows) (x50 : Rows), R60_0_3 α x42 x44 x49 x50 (fun (y1 : Int) (y2 : Rows) (y3 : Rows) (y4 : Int) (y5 : Int) => u60_0_7 (K .ret) x42 y1 y2 y3 y4 0 20 x44 x47 x48 x49 x50 y5) (fun (y1 : Int) (y2 : Bool) => u60_0_9 (K (.exit 2)) x42 y1 y2 x44 x45 x46 x47 x48 x49 x50) n x43 = u60_0_8 (loopT (runM Try.prog E60_0 sh60 c60_0_46) td60_46 K n) x42 x43 x44 x45 x46 x47 x48 x49 x50 := by
 intro n
 induction n with
 | zero => intros; rfl
 | succ n ih => intro x42 x43 x44 x45 x46 x47 x48 x49 x50; exact (congrArg (fun kn => S60_0_3 α x42 x44 x49 x50 x43 kn (fun (y1 : Int) (y2 : Rows) (y3 : Rows) (y4 : Int) (y5 : Int) => u60_0_7 (K .ret) x42 y1 y2 y3 y4 0 20 x44 x47 x48 x49 x50 y5) (fun (y1 : Int) (y2 : Bool) => u60_0_9 (K (.exit 2)) x42 y1 y2 x44 x45 x46 x47 x48 x49 x50)) (funext fun x43 => ih x42 x43 x44 x45 x46 x47 x48 x49 x50)).trans (r60_0_3 α K (loopT (runM Try.prog E60_0 sh60 c60_0_46) td60_46 K n) x42 x43 x44 x45 x46 x47 x48 x49 x50).symm
theorem m60_0_3 : ∀ (α : Type) (K : Exit → St → Option α), F60_0_3 L60_0_3 α K = p60_0_8.unc fun σ => loopT (runM Try.prog E60_0 sh60 c60_0_46) td60_46 K fuel σ := fun α K => funext fun x42 => funext fun x43 => funext fun x44 => funext fun x45 => funext fun x46 => funext fun x47 => funext fun x48 => funext fun x49 => funext fun x50 => t60_0_3 α K fuel x42 x43 x44 x45 x46 x47 x48 x49 x50
--CODE 46 0
def S60_0_6g (vV60_0_5 : TV60_0_5) (vf111_0 : Tf111_0) (vf116_0 : Tf116_0) (vq131 : Tq131) (α : Type) (x104 : Int) (x106 : Rows) (x109 : Rows) (x110 : Rows) (x105 : Int) (kn : Int → Option α) (k1 : Int → Rows → Rows → Int → Int → Option α) (k2 : Int → Bool → Option α) : Option α :=
 cK (decide (x105 < x104))
 (vf116_0 α x109 x110 x105
 (fun (x114 : Bool) => cK (!x114)
 (kn (w64 (x105 + 1)))
 (vf111_0 α x109 x110 x105
 (fun (x115 : Rows) (x116 : Rows) (x117 : Int) => qK (vq131 x115 x116 x117) xII fun y139 => vV60_0_5 α x106 x105
 (kn (w64 (x105 + 1)))
 (k1 x105 x115 x116 x117 x105) y139 ))))
 (k2 x105 (decide (x105 < x104)))
noncomputable def S60_0_6 (α : Type) (x104 : Int) (x106 : Rows) (x109 : Rows) (x110 : Rows) (x105 : Int) (kn : Int → Option α) (k1 : Int → Rows → Rows → Int → Int → Option α) (k2 : Int → Bool → Option α) : Option α := S60_0_6g V60_0_5 f111_0 f116_0 q131 α x104 x106 x109 x110 x105 kn k1 k2
noncomputable def R60_0_6 (α : Type) (x104 : Int) (x106 : Rows) (x109 : Rows) (x110 : Rows) (k1 : Int → Rows → Rows → Int → Int → Option α) (k2 : Int → Bool → Option α) : Nat → Int → Option α
 | 0, _ => none
 | n + 1, x105 => S60_0_6 α x104 x106 x109 x110 x105 (R60_0_6 α x104 x106 x109 x110 k1 k2 n) k1 k2
noncomputable def L60_0_6 (α : Type) (x104 : Int) (x106 : Rows) (x109 : Rows) (x110 : Rows) (k1 : Int → Rows → Rows → Int → Int → Option α) (k2 : Int → Bool → Option α) (x105 : Int) : Option α := R60_0_6 α x104 x106 x109 x110 k1 k2 fuel x105
abbrev TL60_0_6 : Type 1 := (α : Type) → Int → Rows → Rows → Rows → (Int → Rows → Rows → Int → Int → Option α) → (Int → Bool → Option α) → Int → Option α
def F60_0_6 (v : TL60_0_6) (α : Type) (K : Exit → St → Option α) : Int → Int → Rows → Int → Int → Rows → Rows → Int → Int → Option α := fun x104 x105 x106 x107 x108 x109 x110 x111 x112 => v α x104 x106 x109 x110 (fun (y1 : Int) (y2 : Rows) (y3 : Rows) (y4 : Int) (y5 : Int) => u60_0_13 (K .ret) x104 y1 y2 y3 y4 0 20 x106 x109 x110 x111 x112 y5) (fun (y1 : Int) (y2 : Bool) => u60_0_15 (K (.exit 2)) x104 y1 y2 x106 x107 x108 x109 x110 x111 x112) x105
theorem r60_0_6g (vf109_0 : Tf109_0) (vf78_0 : Tf78_0) (vf116_0 : Tf116_0) (vf111_0 : Tf111_0) (vq131 : Tq131) (vV60_0_2 : TV60_0_2) (vV60_0_5 : TV60_0_5) (α : Type) (K : Exit → St → Option α) (Kn : St → Option α) (x104 : Int) (x105 : Int) (x106 : Rows) (x107 : Int) (x108 : Int) (x109 : Rows) (x110 : Rows) (x111 : Int) (x112 : Int) : u60_0_14 (fun σ => runM Try.prog (E60_0g vf109_0 vf78_0 vf116_0 vf111_0 vq131) sh60 (c60_0_46g vV60_0_2 vV60_0_5) (thenK (fun σ => tidyK td60_46 σ Kn) K) σ) x104 x105 x106 x107 x108 x109 x110 x111 x112 = S60_0_6g vV60_0_5 vf111_0 vf116_0 vq131 α x104 x106 x109 x110 x105 (fun x105 => u60_0_14 Kn x104 x105 x106 x107 x108 x109 x110 x111 x112) (fun (y1 : Int) (y2 : Rows) (y3 : Rows) (y4 : Int) (y5 : Int) => u60_0_13 (K .ret) x104 y1 y2 y3 y4 0 20 x106 x109 x110 x111 x112 y5) (fun (y1 : Int) (y2 : Bool) => u60_0_15 (K (.exit 2)) x104 y1 y2 x106 x107 x108 x109 x110 x111 x112) := by kernel_rfl
theorem r60_0_6 (α : Type) (K : Exit → St → Option α) (Kn : St → Option α) (x104 : Int) (x105 : Int) (x106 : Rows) (x107 : Int) (x108 : Int) (x109 : Rows) (x110 : Rows) (x111 : Int) (x112 : Int) : u60_0_14 (fun σ => runM Try.prog E60_0 sh60 c60_0_46 (thenK (fun σ => tidyK td60_46 σ Kn) K) σ) x104 x105 x106 x107 x108 x109 x110 x111 x112 = S60_0_6 α x104 x106 x109 x110 x105 (fun x105 => u60_0_14 Kn x104 x105 x106 x107 x108 x109 x110 x111 x112) (fun (y1 : Int) (y2 : Rows) (y3 : Rows) (y4 : Int) (y5 : Int) => u60_0_13 (K .ret) x104 y1 y2 y3 y4 0 20 x106 x109 x110 x111 x112 y5) (fun (y1 : Int) (y2 : Bool) => u60_0_15 (K (.exit 2)) x104 y1 y2 x106 x107 x108 x109 x110 x111 x112) := r60_0_6g f109_0 f78_0 f116_0 f111_0 q131 V60_0_2 V60_0_5 α K Kn x104 x105 x106 x107 x108 x109 x110 x111 x112
theorem t60_0_6 (α : Type) (K : Exit → St → Option α) : ∀ (n : Nat) (x104 : Int) (x105 : Int) (x106 : Rows) (x107 : Int) (x108 : Int) (x109 : Rows) (x110 : Rows) (x111 : Int) (x112 : Int), R60_0_6 α x104 x106 x109 x110 (fun (y1 : Int) (y2 : Rows) (y3 : Rows) (y4 : Int) (y5 : Int) => u60_0_13 (K .ret) x104 y1 y2 y3 y4 0 20 x106 x109 x110 x111 x112 y5) (fun (y1 : Int) (y2 : Bool) => u60_0_15 (K (.exit 2)) x104 y1 y2 x106 x107 x108 x109 x110 x111 x112) n x105 = u60_0_14 (loopT (runM Try.prog E60_0 sh60 c60_0_46) td60_46 K n) x104 x105 x106 x107 x108 x109 x110 x111 x112 := by
 intro n
 induction n with
 | zero => intros; rfl
 | succ n ih => intro x104 x105 x106 x107 x108 x109 x110 x111 x112; exact (congrArg (fun kn => S60_0_6 α x104 x106 x109 x110 x105 kn (fun (y1 : Int) (y2 : Rows) (y3 : Rows) (y4 : Int) (y5 : Int) => u60_0_13 (K .ret) x104 y1 y2 y3 y4 0 20 x106 x109 x110 x111 x112 y5) (fun (y1 : Int) (y2 : Bool) => u60_0_15 (K (.exit 2)) x104 y1 y2 x106 x107 x108 x109 x110 x111 x112)) (funext fun x105 => ih x104 x105 x106 x107 x108 x109 x110 x111 x112)).trans (r60_0_6 α K (loopT (runM Try.prog E60_0 sh60 c60_0_46) td60_46 K n) x104 x105 x106 x107 x108 x109 x110 x111 x112).symm
theorem m60_0_6 : ∀ (α : Type) (K : Exit → St → Option α), F60_0_6 L60_0_6 α K = p60_0_14.unc fun σ => loopT (runM Try.prog E60_0 sh60 c60_0_46) td60_46 K fuel σ := fun α K => funext fun x104 => funext fun x105 => funext fun x106 => funext fun x107 => funext fun x108 => funext fun x109 => funext fun x110 => funext fun x111 => funext fun x112 => t60_0_6 α K fuel x104 x105 x106 x107 x108 x109 x110 x111 x112

noncomputable def c60_0_21g  : MCode := (.seq (.region r60_23 [] (some ⟨[5, 6, 7, 8, 32, 33, 34, 35], true, [], []⟩)) (.seq (.cond (.tmp 35) .skip (.exit 0)) (.seq (.block 1 (.seq (.region r60_29 [] (some ⟨[5, 6, 7, 8, 11, 32, 33, 34], true, [], []⟩)) (.seq (.region r60_31 [] (some ⟨[5, 6, 7, 8, 32, 33, 34, 40], true, [], []⟩)) (.cond (.tmp 40) (.seq (.region r60_34 [] (some ⟨[6, 7], true, [], []⟩)) .ret) .skip)))) (.region r60_35 [] (some ⟨[5, 6, 7, 8, 32, 33, 34], true, [], []⟩)))))
noncomputable def c60_0_21 : MCode := c60_0_21g 
theorem g60_0_21 : c60_0_21.Good Try.prog E60_0 sh60 := ⟨trivial, ⟨⟨trivial, trivial⟩, ⟨⟨trivial, ⟨trivial, ⟨⟨trivial, trivial⟩, trivial⟩⟩⟩, trivial⟩⟩⟩
--CODE 21 0
def S60_0_1g (vf78_0 : Tf78_0) (α : Type) (x25 : Rows) (x26 : Int) (x27 : Int) (kn : Int → Option α) (k1 : Option α) (k2 : Int → Bool → Option α) : Option α :=
 cK (decide (x27 < x26))
 (rowK x25 x27 [.int .i64]
 (fun (x36 : Int) => vf78_0 α x36 0 1000
 (fun (x37 : Bool) => cK (!x37)
 (k1)
 (kn (w64 (x27 + 1))))))
 (k2 x27 (decide (x27 < x26)))
noncomputable def S60_0_1 (α : Type) (x25 : Rows) (x26 : Int) (x27 : Int) (kn : Int → Option α) (k1 : Option α) (k2 : Int → Bool → Option α) : Option α := S60_0_1g f78_0 α x25 x26 x27 kn k1 k2
noncomputable def R60_0_1 (α : Type) (x25 : Rows) (x26 : Int) (k1 : Option α) (k2 : Int → Bool → Option α) : Nat → Int → Option α
 | 0, _ => none
 | n + 1, x27 => S60_0_1 α x25 x26 x27 (R60_0_1 α x25 x26 k1 k2 n) k1 k2
noncomputable def L60_0_1 (α : Type) (x25 : Rows) (x26 : Int) (k1 : Option α) (k2 : Int → Bool → Option α) (x27 : Int) : Option α := R60_0_1 α x25 x26 k1 k2 fuel x27
abbrev TL60_0_1 : Type 1 := (α : Type) → Rows → Int → (Option α) → (Int → Bool → Option α) → Int → Option α
def F60_0_1 (v : TL60_0_1) (α : Type) (K : Exit → St → Option α) : Rows → Int → Int → Rows → Int → Int → Int → Int → Rows → Rows → Option α := fun x25 x26 x27 x28 x29 x30 x31 x32 x33 x34 => v α x25 x26 (u60_0_4 (K .ret) 0 2) (fun (y1 : Int) (y2 : Bool) => u60_0_5 (K (.exit 0)) x25 x26 y1 y2 x28 x29 x30 x31 x32 x33 x34) x27
theorem r60_0_1g (vf109_0 : Tf109_0) (vf78_0 : Tf78_0) (vf116_0 : Tf116_0) (vf111_0 : Tf111_0) (vq131 : Tq131)  (α : Type) (K : Exit → St → Option α) (Kn : St → Option α) (x25 : Rows) (x26 : Int) (x27 : Int) (x28 : Rows) (x29 : Int) (x30 : Int) (x31 : Int) (x32 : Int) (x33 : Rows) (x34 : Rows) : u60_0_3 (fun σ => runM Try.prog (E60_0g vf109_0 vf78_0 vf116_0 vf111_0 vq131) sh60 (c60_0_21g ) (thenK (fun σ => tidyK td60_21 σ Kn) K) σ) x25 x26 x27 x28 x29 x30 x31 x32 x33 x34 = S60_0_1g vf78_0 α x25 x26 x27 (fun x27 => u60_0_3 Kn x25 x26 x27 x28 x29 x30 x31 x32 x33 x34) (u60_0_4 (K .ret) 0 2) (fun (y1 : Int) (y2 : Bool) => u60_0_5 (K (.exit 0)) x25 x26 y1 y2 x28 x29 x30 x31 x32 x33 x34) := by kernel_rfl
theorem r60_0_1 (α : Type) (K : Exit → St → Option α) (Kn : St → Option α) (x25 : Rows) (x26 : Int) (x27 : Int) (x28 : Rows) (x29 : Int) (x30 : Int) (x31 : Int) (x32 : Int) (x33 : Rows) (x34 : Rows) : u60_0_3 (fun σ => runM Try.prog E60_0 sh60 c60_0_21 (thenK (fun σ => tidyK td60_21 σ Kn) K) σ) x25 x26 x27 x28 x29 x30 x31 x32 x33 x34 = S60_0_1 α x25 x26 x27 (fun x27 => u60_0_3 Kn x25 x26 x27 x28 x29 x30 x31 x32 x33 x34) (u60_0_4 (K .ret) 0 2) (fun (y1 : Int) (y2 : Bool) => u60_0_5 (K (.exit 0)) x25 x26 y1 y2 x28 x29 x30 x31 x32 x33 x34) := r60_0_1g f109_0 f78_0 f116_0 f111_0 q131 α K Kn x25 x26 x27 x28 x29 x30 x31 x32 x33 x34
theorem t60_0_1 (α : Type) (K : Exit → St → Option α) : ∀ (n : Nat) (x25 : Rows) (x26 : Int) (x27 : Int) (x28 : Rows) (x29 : Int) (x30 : Int) (x31 : Int) (x32 : Int) (x33 : Rows) (x34 : Rows), R60_0_1 α x25 x26 (u60_0_4 (K .ret) 0 2) (fun (y1 : Int) (y2 : Bool) => u60_0_5 (K (.exit 0)) x25 x26 y1 y2 x28 x29 x30 x31 x32 x33 x34) n x27 = u60_0_3 (loopT (runM Try.prog E60_0 sh60 c60_0_21) td60_21 K n) x25 x26 x27 x28 x29 x30 x31 x32 x33 x34 := by
 intro n
 induction n with
 | zero => intros; rfl
 | succ n ih => intro x25 x26 x27 x28 x29 x30 x31 x32 x33 x34; exact (congrArg (fun kn => S60_0_1 α x25 x26 x27 kn (u60_0_4 (K .ret) 0 2) (fun (y1 : Int) (y2 : Bool) => u60_0_5 (K (.exit 0)) x25 x26 y1 y2 x28 x29 x30 x31 x32 x33 x34)) (funext fun x27 => ih x25 x26 x27 x28 x29 x30 x31 x32 x33 x34)).trans (r60_0_1 α K (loopT (runM Try.prog E60_0 sh60 c60_0_21) td60_21 K n) x25 x26 x27 x28 x29 x30 x31 x32 x33 x34).symm
theorem m60_0_1 : ∀ (α : Type) (K : Exit → St → Option α), F60_0_1 L60_0_1 α K = p60_0_3.unc fun σ => loopT (runM Try.prog E60_0 sh60 c60_0_21) td60_21 K fuel σ := fun α K => funext fun x25 => funext fun x26 => funext fun x27 => funext fun x28 => funext fun x29 => funext fun x30 => funext fun x31 => funext fun x32 => funext fun x33 => funext fun x34 => t60_0_1 α K fuel x25 x26 x27 x28 x29 x30 x31 x32 x33 x34
--CODE 21 0
def S60_0_4g (vf78_0 : Tf78_0) (α : Type) (x87 : Rows) (x88 : Int) (x89 : Int) (kn : Int → Option α) (k1 : Option α) (k2 : Int → Bool → Option α) : Option α :=
 cK (decide (x89 < x88))
 (rowK x87 x89 [.int .i64]
 (fun (x98 : Int) => vf78_0 α x98 0 1000
 (fun (x99 : Bool) => cK (!x99)
 (k1)
 (kn (w64 (x89 + 1))))))
 (k2 x89 (decide (x89 < x88)))
noncomputable def S60_0_4 (α : Type) (x87 : Rows) (x88 : Int) (x89 : Int) (kn : Int → Option α) (k1 : Option α) (k2 : Int → Bool → Option α) : Option α := S60_0_4g f78_0 α x87 x88 x89 kn k1 k2
noncomputable def R60_0_4 (α : Type) (x87 : Rows) (x88 : Int) (k1 : Option α) (k2 : Int → Bool → Option α) : Nat → Int → Option α
 | 0, _ => none
 | n + 1, x89 => S60_0_4 α x87 x88 x89 (R60_0_4 α x87 x88 k1 k2 n) k1 k2
noncomputable def L60_0_4 (α : Type) (x87 : Rows) (x88 : Int) (k1 : Option α) (k2 : Int → Bool → Option α) (x89 : Int) : Option α := R60_0_4 α x87 x88 k1 k2 fuel x89
abbrev TL60_0_4 : Type 1 := (α : Type) → Rows → Int → (Option α) → (Int → Bool → Option α) → Int → Option α
def F60_0_4 (v : TL60_0_4) (α : Type) (K : Exit → St → Option α) : Rows → Int → Int → Rows → Int → Int → Rows → Rows → Int → Int → Option α := fun x87 x88 x89 x90 x91 x92 x93 x94 x95 x96 => v α x87 x88 (u60_0_4 (K .ret) 0 2) (fun (y1 : Int) (y2 : Bool) => u60_0_11 (K (.exit 0)) x87 x88 y1 y2 x90 x91 x92 x93 x94 x95 x96) x89
theorem r60_0_4g (vf109_0 : Tf109_0) (vf78_0 : Tf78_0) (vf116_0 : Tf116_0) (vf111_0 : Tf111_0) (vq131 : Tq131)  (α : Type) (K : Exit → St → Option α) (Kn : St → Option α) (x87 : Rows) (x88 : Int) (x89 : Int) (x90 : Rows) (x91 : Int) (x92 : Int) (x93 : Rows) (x94 : Rows) (x95 : Int) (x96 : Int) : u60_0_10 (fun σ => runM Try.prog (E60_0g vf109_0 vf78_0 vf116_0 vf111_0 vq131) sh60 (c60_0_21g ) (thenK (fun σ => tidyK td60_21 σ Kn) K) σ) x87 x88 x89 x90 x91 x92 x93 x94 x95 x96 = S60_0_4g vf78_0 α x87 x88 x89 (fun x89 => u60_0_10 Kn x87 x88 x89 x90 x91 x92 x93 x94 x95 x96) (u60_0_4 (K .ret) 0 2) (fun (y1 : Int) (y2 : Bool) => u60_0_11 (K (.exit 0)) x87 x88 y1 y2 x90 x91 x92 x93 x94 x95 x96) := by kernel_rfl
theorem r60_0_4 (α : Type) (K : Exit → St → Option α) (Kn : St → Option α) (x87 : Rows) (x88 : Int) (x89 : Int) (x90 : Rows) (x91 : Int) (x92 : Int) (x93 : Rows) (x94 : Rows) (x95 : Int) (x96 : Int) : u60_0_10 (fun σ => runM Try.prog E60_0 sh60 c60_0_21 (thenK (fun σ => tidyK td60_21 σ Kn) K) σ) x87 x88 x89 x90 x91 x92 x93 x94 x95 x96 = S60_0_4 α x87 x88 x89 (fun x89 => u60_0_10 Kn x87 x88 x89 x90 x91 x92 x93 x94 x95 x96) (u60_0_4 (K .ret) 0 2) (fun (y1 : Int) (y2 : Bool) => u60_0_11 (K (.exit 0)) x87 x88 y1 y2 x90 x91 x92 x93 x94 x95 x96) := r60_0_4g f109_0 f78_0 f116_0 f111_0 q131 α K Kn x87 x88 x89 x90 x91 x92 x93 x94 x95 x96
theorem t60_0_4 (α : Type) (K : Exit → St → Option α) : ∀ (n : Nat) (x87 : Rows) (x88 : Int) (x89 : Int) (x90 : Rows) (x91 : Int) (x92 : Int) (x93 : Rows) (x94 : Rows) (x95 : Int) (x96 : Int), R60_0_4 α x87 x88 (u60_0_4 (K .ret) 0 2) (fun (y1 : Int) (y2 : Bool) => u60_0_11 (K (.exit 0)) x87 x88 y1 y2 x90 x91 x92 x93 x94 x95 x96) n x89 = u60_0_10 (loopT (runM Try.prog E60_0 sh60 c60_0_21) td60_21 K n) x87 x88 x89 x90 x91 x92 x93 x94 x95 x96 := by
 intro n
 induction n with
 | zero => intros; rfl
 | succ n ih => intro x87 x88 x89 x90 x91 x92 x93 x94 x95 x96; exact (congrArg (fun kn => S60_0_4 α x87 x88 x89 kn (u60_0_4 (K .ret) 0 2) (fun (y1 : Int) (y2 : Bool) => u60_0_11 (K (.exit 0)) x87 x88 y1 y2 x90 x91 x92 x93 x94 x95 x96)) (funext fun x89 => ih x87 x88 x89 x90 x91 x92 x93 x94 x95 x96)).trans (r60_0_4 α K (loopT (runM Try.prog E60_0 sh60 c60_0_21) td60_21 K n) x87 x88 x89 x90 x91 x92 x93 x94 x95 x96).symm
theorem m60_0_4 : ∀ (α : Type) (K : Exit → St → Option α), F60_0_4 L60_0_4 α K = p60_0_10.unc fun σ => loopT (runM Try.prog E60_0 sh60 c60_0_21) td60_21 K fuel σ := fun α K => funext fun x87 => funext fun x88 => funext fun x89 => funext fun x90 => funext fun x91 => funext fun x92 => funext fun x93 => funext fun x94 => funext fun x95 => funext fun x96 => t60_0_4 α K fuel x87 x88 x89 x90 x91 x92 x93 x94 x95 x96

noncomputable def c60_0_3g  : MCode := (.region r60_4 [] (some ⟨[3, 5, 6, 7, 8, 9], true, [], []⟩))
noncomputable def c60_0_3 : MCode := c60_0_3g 
theorem g60_0_3 : c60_0_3.Good Try.prog E60_0 sh60 := trivial
--CODE 3 0
abbrev TJ60_0_0 : Type 1 := (α : Type) → Rows → Rows → Rows → Rows → (Int → Option α) → (Rows → Rows → Int → Int → Option α) → Option α
def J60_0_0g (vf109_0 : Tf109_0) (α : Type) (x6 : Rows) (x7 : Rows) (x8 : Rows) (x9 : Rows) (k1 : Int → Option α) (k2 : Rows → Rows → Int → Int → Option α) : Option α :=
 vf109_0 α x6 x7 x8 x9
 (fun (x14 : Int) => k1 x14)
 (fun (x15 : Rows) (x16 : Rows) (x17 : Int) (x18 : Int) => k2 x15 x16 x17 x18)
noncomputable def J60_0_0 (α : Type) (x6 : Rows) (x7 : Rows) (x8 : Rows) (x9 : Rows) (k1 : Int → Option α) (k2 : Rows → Rows → Int → Int → Option α) : Option α := J60_0_0g f109_0 α x6 x7 x8 x9 k1 k2
def F60_0_0 (v : TJ60_0_0) (α : Type) (K : Exit → St → Option α) : Rows → Rows → Rows → Rows → Rows → Int → Int → Option α := fun x6 x7 x8 x9 x10 x11 x12 => v α x6 x7 x8 x9 (fun (y1 : Int) => u60_0_1 (K .normal) y1 x6 x7 x10 x11 x12 0 0 ([] : Rows) ([] : Rows)) (fun (y1 : Rows) (y2 : Rows) (y3 : Int) (y4 : Int) => u60_0_2 (K .normal) 0 x6 x7 x10 x11 x12 y1 y2 y3 y4) 
theorem m60_0_0g (vf109_0 : Tf109_0) (vf78_0 : Tf78_0) (vf116_0 : Tf116_0) (vf111_0 : Tf111_0) (vq131 : Tq131)  (α : Type) (K : Exit → St → Option α) : F60_0_0 (J60_0_0g vf109_0) α K = p60_0_0.unc fun σ => runM Try.prog (E60_0g vf109_0 vf78_0 vf116_0 vf111_0 vq131) sh60 (c60_0_3g ) K σ := by kernel_rfl
theorem m60_0_0 : ∀ (α : Type) (K : Exit → St → Option α), F60_0_0 J60_0_0 α K = p60_0_0.unc fun σ => runM Try.prog E60_0 sh60 c60_0_3 K σ := m60_0_0g f109_0 f78_0 f116_0 f111_0 q131

/-- etalon/grow.CheckLabels -/
abbrev Tf60_0 : Type 1 := (α : Type) → Rows → Rows → Rows → Rows → Rows → (Int → Int → Option α) → Option α
def f60_0g (vJ60_0_0 : TJ60_0_0) (vL60_0_1 : TL60_0_1) (vL60_0_3 : TL60_0_3) (vL60_0_4 : TL60_0_4) (vL60_0_6 : TL60_0_6) (α : Type) (x1 : Rows) (x2 : Rows) (x3 : Rows) (x4 : Rows) (x5 : Rows) (k1 : Int → Int → Option α) : Option α :=
 vJ60_0_0 α x1 x2 x3 x4
 (fun (x19 : Int) => cK (x19 != 0)
 (k1 0 x19)
 (gK (decide (0 ≤ ((List.length x1 : Nat) : Int))) (cK (((List.length x5 : Nat) : Int) != (w64 (1 * 2 ^ (min (Int.toNat ((List.length x1 : Nat) : Int)) 64))))
 (k1 0 12)
 (vL60_0_1 α x5 ((List.length x5 : Nat) : Int)
 (k1 0 2)
 (fun (x38 : Int) (x39 : Bool) => rowK x5 0 [.int .i64]
 (fun (x41 : Int) => cK (x41 != 0)
 (k1 0 20)
 (vL60_0_3 α ((List.length x5 : Nat) : Int) x5 ([] : Rows) ([] : Rows)
 (fun (x78 : Int) (x79 : Rows) (x80 : Rows) (x81 : Int) (x82 : Int) => k1 0 20)
 (fun (x83 : Int) (x84 : Bool) => rowK x5 0 [.int .i64]
 (fun (x86 : Int) => k1 x86 0)) 0))) 0))))
 (fun (x20 : Rows) (x21 : Rows) (x22 : Int) (x23 : Int) => gK (decide (0 ≤ ((List.length x1 : Nat) : Int))) (cK (((List.length x5 : Nat) : Int) != (w64 (1 * 2 ^ (min (Int.toNat ((List.length x1 : Nat) : Int)) 64))))
 (k1 0 12)
 (vL60_0_4 α x5 ((List.length x5 : Nat) : Int)
 (k1 0 2)
 (fun (x100 : Int) (x101 : Bool) => rowK x5 x22 [.int .i64]
 (fun (x103 : Int) => cK (x103 != 0)
 (k1 0 20)
 (vL60_0_6 α ((List.length x5 : Nat) : Int) x5 x20 x21
 (fun (x140 : Int) (x141 : Rows) (x142 : Rows) (x143 : Int) (x144 : Int) => k1 0 20)
 (fun (x145 : Int) (x146 : Bool) => rowK x5 x23 [.int .i64]
 (fun (x148 : Int) => k1 x148 0)) 0))) 0)))
noncomputable def f60_0 (α : Type) (x1 : Rows) (x2 : Rows) (x3 : Rows) (x4 : Rows) (x5 : Rows) (k1 : Int → Int → Option α) : Option α := f60_0g J60_0_0 L60_0_1 L60_0_3 L60_0_4 L60_0_6 α x1 x2 x3 x4 x5 k1
def pa60_0 : PT (List DV) := pA [pV true [dL, dL], pV true [dL, dL], pV false [dL]]
def Fn60_0 (v : Tf60_0) (α : Type) (k : List RV → Option α) : Rows → Rows → Rows → Rows → Rows → Option α := fun x1 x2 x3 x4 x5 => v α x1 x2 x3 x4 x5 (fun (y1 : Int) (y2 : Int) => ur60_0_0 k y1 y2)
noncomputable def cm60_0g (vJ60_0_0 : TJ60_0_0) (vL60_0_1 : TL60_0_1) (vL60_0_4 : TL60_0_4) (vL60_0_3 : TL60_0_3) (vL60_0_6 : TL60_0_6) : MCode := (.seq (.region r60_2 [] (some ⟨[3, 4, 5, 6, 7], true, [], []⟩)) (.seq (.mark [⟨p60_0_0, F60_0_0 vJ60_0_0⟩] c60_0_3) (.seq (.seq (.region r60_7 [] (some ⟨[3, 5, 6, 7, 8, 9, 23], true, [], []⟩)) (.cond (.tmp 23) (.seq (.region r60_10 [] (some ⟨[6, 7], true, [], []⟩)) .ret) .skip)) (.seq (.seq (.region r60_13 [] (some ⟨[5, 6, 7, 8, 31], true, [], []⟩)) (.cond (.tmp 31) (.seq (.region r60_16 [] (some ⟨[6, 7], true, [], []⟩)) .ret) .skip)) (.seq (.seq (.region r60_19 [] (some ⟨[5, 6, 7, 8, 32, 33, 34], true, [], []⟩)) (.block 0 (.loop td60_21 [⟨p60_0_3, F60_0_1 vL60_0_1⟩, ⟨p60_0_10, F60_0_4 vL60_0_4⟩] c60_0_21))) (.seq (.seq (.region r60_38 [] (some ⟨[5, 6, 7, 8, 47], true, [], []⟩)) (.cond (.tmp 47) (.seq (.region r60_41 [] (some ⟨[6, 7], true, [], []⟩)) .ret) .skip)) (.seq (.seq (.region r60_44 [] (some ⟨[5, 6, 7, 8, 49, 50], true, [], []⟩)) (.block 2 (.loop td60_46 [⟨p60_0_8, F60_0_3 vL60_0_3⟩, ⟨p60_0_14, F60_0_6 vL60_0_6⟩] c60_0_46))) (.seq (.region r60_74 [] (some ⟨[6, 7], true, [], []⟩)) .ret))))))))
noncomputable def cm60_0 : MCode := cm60_0g J60_0_0 L60_0_1 L60_0_4 L60_0_3 L60_0_6
theorem gm60_0 : cm60_0.Good Try.prog E60_0 sh60 := ⟨trivial, ⟨⟨g60_0_3, m60_0_0, trivial⟩, ⟨⟨trivial, ⟨⟨trivial, trivial⟩, trivial⟩⟩, ⟨⟨trivial, ⟨⟨trivial, trivial⟩, trivial⟩⟩, ⟨⟨trivial, ⟨g60_0_21, m60_0_1, m60_0_4, trivial⟩⟩, ⟨⟨trivial, ⟨⟨trivial, trivial⟩, trivial⟩⟩, ⟨⟨trivial, ⟨g60_0_46, m60_0_3, m60_0_6, trivial⟩⟩, ⟨trivial, trivial⟩⟩⟩⟩⟩⟩⟩⟩
theorem fm60_0g (vf109_0 : Tf109_0) (vf78_0 : Tf78_0) (vf116_0 : Tf116_0) (vf111_0 : Tf111_0) (vq131 : Tq131) (vJ60_0_0 : TJ60_0_0) (vL60_0_1 : TL60_0_1) (vL60_0_4 : TL60_0_4) (vL60_0_3 : TL60_0_3) (vL60_0_6 : TL60_0_6) (α : Type) (k : List RV → Option α) : Fn60_0 (f60_0g vJ60_0_0 vL60_0_1 vL60_0_3 vL60_0_4 vL60_0_6) α k = pa60_0.unc fun ds => fnM Try.prog (E60_0g vf109_0 vf78_0 vf116_0 vf111_0 vq131) sh60 (cm60_0g vJ60_0_0 vL60_0_1 vL60_0_4 vL60_0_3 vL60_0_6) rs60 k ds := by kernel_rfl
theorem fm60_0 : ∀ (α : Type) (k : List RV → Option α), Fn60_0 f60_0 α k = pa60_0.unc fun ds => fnM Try.prog E60_0 sh60 cm60_0 rs60 k ds := fm60_0g f109_0 f78_0 f116_0 f111_0 q131 J60_0_0 L60_0_1 L60_0_4 L60_0_3 L60_0_6

theorem is60 : FnIs Try.prog 60 nt60 tr60 tl60 cm60_0.erase rs60 := ⟨Try.f60, Try.func60, rfl, by kernel_rfl, by kernel_rfl, by kernel_rfl⟩
theorem io60_0 : InstOk Try.prog 60 nt60 ⟨pa60_0, Fn60_0 f60_0⟩ := inst_ok eo60_0 followsTry is60 ⟨⟨sh60, cm60_0, by kernel_rfl, gm60_0, fm60_0⟩⟩

/-! ### F110 (etalon/grow.chamber).labels -/
abbrev nt110 : Nat := 53
def sh110 : List (Nat × List Sh) := [(13, [.sl]), (17, [.sl]), (19, [.int .i64]), (22, [.sl]), (25, [.sl]), (26, [.int .i64]), (27, [.int .i64]), (28, [.sl]), (30, [.sl, .sl]), (31, [.int .i64]), (35, [.sl]), (37, [.int .i64]), (38, [.int .i64]), (40, [.sl]), (42, [.sl]), (43, [.int .i64]), (44, [.int .i64]), (45, [.int .i64]), (47, [.int .i64]), (48, [.sl]), (52, [.sl])]
def r110_2 : List AOper := [oO 2 (.box (.tmp 0)), oO 4 (.mv (.const (.slice none 0 0)))]
def r110_4 : List AOper := [oO 10 (.bslice 1 1 [(.v (.int .i64 0))] [(0, (.const (.int .i64 1000)))]), oO 11 (.faddr 0 (.tmp 2)), oO 12 (.faddr 0 (.tmp 11)), oO 13 (.load false 1 (.tmp 12)), oO 14 (.len (.tmp 13)), oO 15 (.bin .shl 3 (.const (.int .i64 1)) (.tmp 14)), oO 16 (.call 130 [(.tmp 10), (.tmp 15)]), oO 5 (.alloc [.nils]), ⟨none, (.store 1 (.tmp 5) (.tmp 16)), none⟩]
def r110_6 : List AOper := [oO 17 (.load false 1 (.tmp 5)), oM 18 1, oO 19 (.iaddr 1 none (.tmp 17) (.tmp 18)), ⟨none, (.store 1 (.tmp 19) (.const (.int .i64 0))), none⟩]
def r110_8 : List AOper := [oM 20 1, oO 21 (.bslice 1 1 [(.v (.int .i64 0))] [(0, (.tmp 20))]), oO 6 (.alloc [.nils]), ⟨none, (.store 1 (.tmp 6) (.tmp 21)), none⟩]
def td110_11 : Option Tidy := (some ⟨[2, 4, 5, 6], true, [⟨false, 4, 0, 20004, 1⟩, ⟨true, 2, 0, 30200, 1⟩, ⟨true, 2, 1, 30201, 4⟩, ⟨true, 5, 0, 30500, 1⟩, ⟨true, 6, 0, 30600, 1⟩], []⟩)
def r110_14 : List AOper := [oO 22 (.load false 1 (.tmp 6)), oO 23 (.len (.tmp 22)), oO 24 (.bin .gtr 3 (.tmp 23) (.const (.int .i64 0)))]
def r110_18 : List AOper := [oO 25 (.load false 1 (.tmp 6)), oO 26 (.iaddr 1 none (.tmp 25) (.const (.int .i64 0))), oO 27 (.load false 1 (.tmp 26)), oO 7 (.alloc [(.d (.v (.int .i64 0)))]), ⟨none, (.store 1 (.tmp 7) (.tmp 27)), none⟩]
def r110_20 : List AOper := [oO 28 (.load false 1 (.tmp 6)), oO 29 (.slice 1 true (.tmp 28) (some (.const (.int .i64 1))) none), ⟨none, (.store 1 (.tmp 6) (.tmp 29)), none⟩]
def r110_22 : List AOper := [oO 30 (.load true 2 (.tmp 2)), oO 31 (.load false 1 (.tmp 7)), oO 32 (.call 111 [(.tmp 30), (.tmp 31)])]
def td110_24 : Option Tidy := (some ⟨[2, 4, 5, 6, 7, 32], true, [⟨false, 4, 0, 20004, 1⟩, ⟨true, 2, 0, 30200, 1⟩, ⟨true, 2, 1, 30201, 4⟩, ⟨true, 5, 0, 30500, 1⟩, ⟨true, 6, 0, 30600, 1⟩], []⟩)
def r110_25 : List AOper := [oM 9 34]
def r110_28 : List AOper := [oO 35 (.load false 1 (.tmp 5)), oM 36 9, oO 37 (.iaddr 1 none (.tmp 35) (.tmp 36)), oO 38 (.load false 1 (.tmp 37)), oO 39 (.bin .eql 3 (.tmp 38) (.const (.int .i64 1000)))]
def r110_31 : List AOper := [oO 40 (.load false 1 (.tmp 5)), oM 41 9, oO 42 (.load false 1 (.tmp 5)), oO 43 (.load false 1 (.tmp 7)), oO 44 (.iaddr 1 none (.tmp 42) (.tmp 43)), oO 45 (.load false 1 (.tmp 44)), oO 46 (.bin .add 3 (.tmp 45) (.const (.int .i64 1))), oO 47 (.iaddr 1 none (.tmp 40) (.tmp 41)), ⟨none, (.store 1 (.tmp 47) (.tmp 46)), none⟩]
def r110_32 : List AOper := [oO 48 (.load false 1 (.tmp 6)), oM 49 9, oO 50 (.bslice 1 1 [(.v (.int .i64 0))] [(0, (.tmp 49))]), oO 51 (.append 1 8 (.tmp 48) (.tmp 50)), ⟨none, (.store 1 (.tmp 6) (.tmp 51)), none⟩]
def r110_34 : List AOper := [oO 52 (.load false 1 (.tmp 5)), oM 4 52]
def tr110 : List (Nat × Tidy) := [(0, ⟨[1, 2, 4], true, [⟨false, 4, 0, 20004, 1⟩], []⟩), (1, ⟨[1, 2, 4, 5], true, [⟨false, 4, 0, 20004, 1⟩], []⟩), (2, ⟨[1, 2, 4, 5], true, [⟨false, 4, 0, 20004, 1⟩], []⟩), (3, ⟨[2, 4, 5, 6], true, [⟨false, 4, 0, 20004, 1⟩], []⟩), (4, ⟨[2, 4, 5, 6, 24], true, [⟨false, 4, 0, 20004, 1⟩], []⟩), (5, ⟨[2, 4, 5, 6, 7], true, [⟨false, 4, 0, 20004, 1⟩], []⟩), (6, ⟨[2, 4, 5, 6, 7], true, [⟨false, 4, 0, 20004, 1⟩], []⟩), (7, ⟨[2, 4, 5, 6, 7, 32], true, [⟨false, 4, 0, 20004, 1⟩, ⟨true, 2, 0, 30200, 1⟩, ⟨true, 2, 1, 30201, 4⟩, ⟨true, 5, 0, 30500, 1⟩, ⟨true, 6, 0, 30600, 1⟩], []⟩), (8, ⟨[2, 4, 5, 6, 7, 9], true, [⟨false, 4, 0, 20004, 1⟩], []⟩), (9, ⟨[2, 4, 5, 6, 7, 9, 39], true, [⟨false, 4, 0, 20004, 1⟩], []⟩), (10, ⟨[2, 4, 5, 6, 7, 9], true, [⟨false, 4, 0, 20004, 1⟩], []⟩), (11, ⟨[2, 4, 5, 6, 7], true, [⟨false, 4, 0, 20004, 1⟩], []⟩), (12, ⟨[4], true, [⟨false, 4, 0, 20004, 1⟩], []⟩), (1000029, ⟨[], false, [], []⟩)]
def tl110 : List (Nat × Tidy) := [(4, ⟨[2, 4, 5, 6], true, [⟨false, 4, 0, 20004, 1⟩, ⟨true, 2, 0, 30200, 1⟩, ⟨true, 2, 1, 30201, 4⟩, ⟨true, 5, 0, 30500, 1⟩, ⟨true, 6, 0, 30600, 1⟩], []⟩), (9, ⟨[2, 4, 5, 6, 7, 32], true, [⟨false, 4, 0, 20004, 1⟩, ⟨true, 2, 0, 30200, 1⟩, ⟨true, 2, 1, 30201, 4⟩, ⟨true, 5, 0, 30500, 1⟩, ⟨true, 6, 0, 30600, 1⟩], []⟩)]
def rs110 : List AResV := [.tmp 4]
def p110_0_0 : PT St := pS [sl 2 (aV false [(cPtr 2 0)]), sl 4 (aV false [(cRef 20004)]), sl 5 (aV false [(cPtr 5 0)]), sl 6 (aV false [(cPtr 6 0)]), sl 7 (aV false [(cPtr 7 0)]), sl 32 (aV false [(cD (dFn 131 [(dP [dL, dL] 0), (dP [(dI .i64)] 0)]))])] [eBox 2 [(cD dL), (cD dL)], eOwn 20004 1, eBox 5 [(cRef 30500)], eOwn 30500 1, eBox 6 [(cRef 30600)], eOwn 30600 1, eBox 7 [(cD (dI .i64))]]
def u110_0_0 {β : Type} (g : St → β) : Rows → Rows → Int → Rows → Rows → Rows → Rows → Rows → Int → β := p110_0_0.unc g

def p110_0_1 : PT St := pS [sl 2 (aV false [(cPtr 2 0)]), sl 4 (aV false [(cRef 20004)]), sl 5 (aV false [(cPtr 5 0)]), sl 6 (aV false [(cPtr 6 0)])] [eBox 2 [(cD dL), (cD dL)], eOwn 20004 1, eBox 5 [(cRef 30500)], eOwn 30500 1, eBox 6 [(cRef 30600)], eOwn 30600 1]
def u110_0_1 {β : Type} (g : St → β) : Rows → Rows → Rows → Rows → Rows → β := p110_0_1.unc g

def p110_0_2 : PT St := pS [sl 2 (aV false [(cPtr 2 0)]), sl 4 (aV false [(cRef 20004)]), sl 5 (aV false [(cPtr 5 0)]), sl 6 (aV false [(cPtr 6 0)]), sl 24 (aV false [(cD dB)])] [eBox 2 [(cD dL), (cD dL)], eOwn 20004 1, eBox 5 [(cRef 30500)], eOwn 30500 1, eBox 6 [(cRef 30600)], eOwn 30600 1]
def u110_0_2 {β : Type} (g : St → β) : Bool → Rows → Rows → Rows → Rows → Rows → β := p110_0_2.unc g

def pr110_0_0 : PT (List RV) := pRs [pR false [rO 1]]
def ur110_0_0 {β : Type} (g : List RV → β) : Rows → β := pr110_0_0.unc g

def E110_0g (vf130_0 : Tf130_0) (vf111_0 : Tf111_0) (vq131 : Tq131) : EnvK := EnvK.of [⟨130, nt130, [⟨pa130_0, Fn130_0 vf130_0⟩]⟩, ⟨111, nt111, [⟨pa111_0, Fn111_0 vf111_0⟩]⟩] (seqE [⟨131, pq131, vq131⟩])
noncomputable def E110_0 : EnvK := E110_0g f130_0 f111_0 q131
theorem eo110_0 : E110_0.Ok Try.prog := EnvK.of_ok (seqE_ok (l := [⟨131, pq131, q131⟩]) ⟨sqok131, trivial⟩) ⟨⟨io130_0, trivial⟩, ⟨io111_0, trivial⟩, trivial⟩

noncomputable def ca110_0_24 : MCode := (.region r110_25 [] (some ⟨[2, 4, 5, 6, 7, 9], true, [⟨false, 4, 0, 20004, 1⟩], []⟩))
theorem ga110_0_24 : ca110_0_24.Good Try.prog E110_0 sh110 := trivial

noncomputable def c110_0_24g  : MCode := (.block 3 (.seq (.region r110_28 [] (some ⟨[2, 4, 5, 6, 7, 9, 39], true, [⟨false, 4, 0, 20004, 1⟩], []⟩)) (.cond (.tmp 39) (.seq (.region r110_31 [] (some ⟨[2, 4, 5, 6, 7, 9], true, [⟨false, 4, 0, 20004, 1⟩], []⟩)) (.region r110_32 [] (some ⟨[2, 4, 5, 6, 7], true, [⟨false, 4, 0, 20004, 1⟩], []⟩))) .skip)))
noncomputable def c110_0_24 : MCode := c110_0_24g 
theorem g110_0_24 : c110_0_24.Good Try.prog E110_0 sh110 := ⟨trivial, ⟨⟨trivial, trivial⟩, trivial⟩⟩
--CODE 24 0
def S110_0_0g  (α : Type) (x28 : Int) (y29 : Int × Int) (x26 : Rows) (x27 : Rows) (kn : Rows → Rows → Option α) (k1 : Rows → Rows → Option α) : Option α :=
 ixK x26 y29.2 1
 (ldK x26 (Int.toNat y29.2) 0 [.int .i64]
 (fun (x30 : Int) => cK (x30 == 1000)
 (ixK x26 x28 1
 (ldK x26 (Int.toNat x28) 0 [.int .i64]
 (fun (x31 : Int) => ixK x26 y29.2 1
 (stK x26 (Int.toNat y29.2) 0 1
 (gK (apOk 1 8 x27 [[DC.v (.int .i64 y29.2)]]) (kn (List.set x26 (Int.toNat y29.2) (splice (rowAt x26 (Int.toNat y29.2)) 0 [DC.v (.int .i64 (w64 (x31 + 1)))])) (x27 ++ [[DC.v (.int .i64 y29.2)]])))))))
 (kn x26 x27)))
noncomputable def S110_0_0 (α : Type) (x28 : Int) (y29 : Int × Int) (x26 : Rows) (x27 : Rows) (kn : Rows → Rows → Option α) (k1 : Rows → Rows → Option α) : Option α := S110_0_0g  α x28 y29 x26 x27 kn k1
noncomputable def V110_0_0 (α : Type) (x28 : Int) (k1 : Rows → Rows → Option α) : List (Int × Int) → Rows → Rows → Option α
 | [], x26, x27 => k1 x26 x27
 | y29 :: ys, x26, x27 => S110_0_0 α x28 y29 x26 x27 (V110_0_0 α x28 k1 ys) k1
abbrev TV110_0_0 : Type 1 := (α : Type) → Int → (Rows → Rows → Option α) → List (Int × Int) → Rows → Rows → Option α
def F110_0_0 (v : TV110_0_0) (α : Type) (K : Exit → St → Option α) (ys : List (Int × Int)) : Rows → Rows → Int → Rows → Rows → Rows → Rows → Rows → Int → Option α := fun x20 x21 x22 x23 x24 x25 x26 x27 x28 => v α x28 (fun (y1 : Rows) (y2 : Rows) => u110_0_0 (K .normal) x20 x21 x22 x23 x24 x25 y1 y2 x28) ys x26 x27
theorem r110_0_0g (vf130_0 : Tf130_0) (vf111_0 : Tf111_0) (vq131 : Tq131)  (α : Type) (K : Exit → St → Option α) (Kn : St → Option α) (y29 : Int × Int) (x20 : Rows) (x21 : Rows) (x22 : Int) (x23 : Rows) (x24 : Rows) (x25 : Rows) (x26 : Rows) (x27 : Rows) (x28 : Int) : u110_0_0 (fun σ => roundT (runM Try.prog (E110_0g vf130_0 vf111_0 vq131) sh110 ca110_0_24) (runM Try.prog (E110_0g vf130_0 vf111_0 vq131) sh110 c110_0_24) [33, 34] td110_24 Kn K (xII.ex y29) σ) x20 x21 x22 x23 x24 x25 x26 x27 x28 = S110_0_0g  α x28 y29 x26 x27 (fun x26 x27 => u110_0_0 Kn x20 x21 x22 x23 x24 x25 x26 x27 x28) (fun (y1 : Rows) (y2 : Rows) => u110_0_0 (K .normal) x20 x21 x22 x23 x24 x25 y1 y2 x28) := by kernel_rfl
theorem r110_0_0 (α : Type) (K : Exit → St → Option α) (Kn : St → Option α) (y29 : Int × Int) (x20 : Rows) (x21 : Rows) (x22 : Int) (x23 : Rows) (x24 : Rows) (x25 : Rows) (x26 : Rows) (x27 : Rows) (x28 : Int) : u110_0_0 (fun σ => roundT (runM Try.prog E110_0 sh110 ca110_0_24) (runM Try.prog E110_0 sh110 c110_0_24) [33, 34] td110_24 Kn K (xII.ex y29) σ) x20 x21 x22 x23 x24 x25 x26 x27 x28 = S110_0_0 α x28 y29 x26 x27 (fun x26 x27 => u110_0_0 Kn x20 x21 x22 x23 x24 x25 x26 x27 x28) (fun (y1 : Rows) (y2 : Rows) => u110_0_0 (K .normal) x20 x21 x22 x23 x24 x25 y1 y2 x28) := r110_0_0g f130_0 f111_0 q131 α K Kn y29 x20 x21 x22 x23 x24 x25 x26 x27 x28
theorem t110_0_0 (α : Type) (K : Exit → St → Option α) : ∀ (ys : List (Int × Int)) (x20 : Rows) (x21 : Rows) (x22 : Int) (x23 : Rows) (x24 : Rows) (x25 : Rows) (x26 : Rows) (x27 : Rows) (x28 : Int), V110_0_0 α x28 (fun (y1 : Rows) (y2 : Rows) => u110_0_0 (K .normal) x20 x21 x22 x23 x24 x25 y1 y2 x28) ys x26 x27 = u110_0_0 (roundsK (runM Try.prog E110_0 sh110 ca110_0_24) (runM Try.prog E110_0 sh110 c110_0_24) [33, 34] td110_24 K (ys.map xII.ex)) x20 x21 x22 x23 x24 x25 x26 x27 x28 := by
 intro ys
 induction ys with
 | nil => intros; rfl
 | cons y29 ys ih => intro x20 x21 x22 x23 x24 x25 x26 x27 x28; exact (congrArg (fun kn => S110_0_0 α x28 y29 x26 x27 kn (fun (y1 : Rows) (y2 : Rows) => u110_0_0 (K .normal) x20 x21 x22 x23 x24 x25 y1 y2 x28)) (funext fun x26 => funext fun x27 => ih x20 x21 x22 x23 x24 x25 x26 x27 x28)).trans (r110_0_0 α K (roundsK (runM Try.prog E110_0 sh110 ca110_0_24) (runM Try.prog E110_0 sh110 c110_0_24) [33, 34] td110_24 K (ys.map xII.ex)) y29 x20 x21 x22 x23 x24 x25 x26 x27 x28).symm
theorem m110_0_0 : ∀ (α : Type) (K : Exit → St → Option α) (ys : List (Int × Int)), F110_0_0 V110_0_0 α K ys = p110_0_0.unc fun σ => roundsK (runM Try.prog E110_0 sh110 ca110_0_24) (runM Try.prog E110_0 sh110 c110_0_24) [33, 34] td110_24 K (ys.map xII.ex) σ := fun α K ys => funext fun x20 => funext fun x21 => funext fun x22 => funext fun x23 => funext fun x24 => funext fun x25 => funext fun x26 => funext fun x27 => funext fun x28 => t110_0_0 α K ys x20 x21 x22 x23 x24 x25 x26 x27 x28

noncomputable def c110_0_11g (vV110_0_0 : TV110_0_0) : MCode := (.seq (.seq (.region r110_14 [] (some ⟨[2, 4, 5, 6, 24], true, [⟨false, 4, 0, 20004, 1⟩], []⟩)) (.cond (.tmp 24) .skip (.exit 0))) (.block 1 (.seq (.region r110_18 [] (some ⟨[2, 4, 5, 6, 7], true, [⟨false, 4, 0, 20004, 1⟩], []⟩)) (.seq (.region r110_20 [] (some ⟨[2, 4, 5, 6, 7], true, [⟨false, 4, 0, 20004, 1⟩], []⟩)) (.seq (.region r110_22 [] (some ⟨[2, 4, 5, 6, 7, 32], true, [⟨false, 4, 0, 20004, 1⟩, ⟨true, 2, 0, 30200, 1⟩, ⟨true, 2, 1, 30201, 4⟩, ⟨true, 5, 0, 30500, 1⟩, ⟨true, 6, 0, 30600, 1⟩], []⟩)) (.block 2 (.rangeF (.tmp 32) [33, 34] td110_24 [⟨xII, p110_0_0, F110_0_0 vV110_0_0⟩] ca110_0_24 c110_0_24)))))))
noncomputable def c110_0_11 : MCode := c110_0_11g V110_0_0
theorem g110_0_11 : c110_0_11.Good Try.prog E110_0 sh110 := ⟨⟨trivial, ⟨trivial, trivial⟩⟩, ⟨trivial, ⟨trivial, ⟨trivial, ⟨⟨ga110_0_24, g110_0_24⟩, m110_0_0, trivial⟩⟩⟩⟩⟩
--CODE 11 0
def S110_0_1g (vV110_0_0 : TV110_0_0) (vf111_0 : Tf111_0) (vq131 : Tq131) (α : Type) (x5 : Rows) (x6 : Rows) (x8 : Rows) (x9 : Rows) (kn : Rows → Rows → Option α) (k1 : Bool → Rows → Rows → Option α) : Option α :=
 cK (decide (0 < ((List.length x9 : Nat) : Int)))
 (ixK x9 0 1
 (ldK x9 0 0 [.int .i64]
 (fun (x11 : Int) => gK (decide ((0 : Int) ≤ 1 ∧ 1 ≤ ((List.length x9 : Nat) : Int) ∧ ((List.length x9 : Nat) : Int) ≤ ((List.length x9 : Nat) : Int))) (vf111_0 α x5 x6 x11
 (fun (x12 : Rows) (x13 : Rows) (x14 : Int) => qK (vq131 x12 x13 x14) xII fun y34 => vV110_0_0 α x11
 (fun (x32 : Rows) (x33 : Rows) => kn x32 x33) y34 x8 (List.drop 1 (List.take (Int.toNat ((List.length x9 : Nat) : Int)) x9)))))))
 (k1 (decide (0 < ((List.length x9 : Nat) : Int))) x8 x9)
noncomputable def S110_0_1 (α : Type) (x5 : Rows) (x6 : Rows) (x8 : Rows) (x9 : Rows) (kn : Rows → Rows → Option α) (k1 : Bool → Rows → Rows → Option α) : Option α := S110_0_1g V110_0_0 f111_0 q131 α x5 x6 x8 x9 kn k1
noncomputable def R110_0_1 (α : Type) (x5 : Rows) (x6 : Rows) (k1 : Bool → Rows → Rows → Option α) : Nat → Rows → Rows → Option α
 | 0, _, _ => none
 | n + 1, x8, x9 => S110_0_1 α x5 x6 x8 x9 (R110_0_1 α x5 x6 k1 n) k1
noncomputable def L110_0_1 (α : Type) (x5 : Rows) (x6 : Rows) (k1 : Bool → Rows → Rows → Option α) (x8 : Rows) (x9 : Rows) : Option α := R110_0_1 α x5 x6 k1 fuel x8 x9
abbrev TL110_0_1 : Type 1 := (α : Type) → Rows → Rows → (Bool → Rows → Rows → Option α) → Rows → Rows → Option α
def F110_0_1 (v : TL110_0_1) (α : Type) (K : Exit → St → Option α) : Rows → Rows → Rows → Rows → Rows → Option α := fun x5 x6 x7 x8 x9 => v α x5 x6 (fun (y1 : Bool) (y2 : Rows) (y3 : Rows) => u110_0_2 (K (.exit 0)) y1 x5 x6 x7 y2 y3) x8 x9
theorem r110_0_1g (vf130_0 : Tf130_0) (vf111_0 : Tf111_0) (vq131 : Tq131) (vV110_0_0 : TV110_0_0) (α : Type) (K : Exit → St → Option α) (Kn : St → Option α) (x5 : Rows) (x6 : Rows) (x7 : Rows) (x8 : Rows) (x9 : Rows) : u110_0_1 (fun σ => runM Try.prog (E110_0g vf130_0 vf111_0 vq131) sh110 (c110_0_11g vV110_0_0) (thenK (fun σ => tidyK td110_11 σ Kn) K) σ) x5 x6 x7 x8 x9 = S110_0_1g vV110_0_0 vf111_0 vq131 α x5 x6 x8 x9 (fun x8 x9 => u110_0_1 Kn x5 x6 x7 x8 x9) (fun (y1 : Bool) (y2 : Rows) (y3 : Rows) => u110_0_2 (K (.exit 0)) y1 x5 x6 x7 y2 y3) := by kernel_rfl
theorem r110_0_1 (α : Type) (K : Exit → St → Option α) (Kn : St → Option α) (x5 : Rows) (x6 : Rows) (x7 : Rows) (x8 : Rows) (x9 : Rows) : u110_0_1 (fun σ => runM Try.prog E110_0 sh110 c110_0_11 (thenK (fun σ => tidyK td110_11 σ Kn) K) σ) x5 x6 x7 x8 x9 = S110_0_1 α x5 x6 x8 x9 (fun x8 x9 => u110_0_1 Kn x5 x6 x7 x8 x9) (fun (y1 : Bool) (y2 : Rows) (y3 : Rows) => u110_0_2 (K (.exit 0)) y1 x5 x6 x7 y2 y3) := r110_0_1g f130_0 f111_0 q131 V110_0_0 α K Kn x5 x6 x7 x8 x9
theorem t110_0_1 (α : Type) (K : Exit → St → Option α) : ∀ (n : Nat) (x5 : Rows) (x6 : Rows) (x7 : Rows) (x8 : Rows) (x9 : Rows), R110_0_1 α x5 x6 (fun (y1 : Bool) (y2 : Rows) (y3 : Rows) => u110_0_2 (K (.exit 0)) y1 x5 x6 x7 y2 y3) n x8 x9 = u110_0_1 (loopT (runM Try.prog E110_0 sh110 c110_0_11) td110_11 K n) x5 x6 x7 x8 x9 := by
 intro n
 induction n with
 | zero => intros; rfl
 | succ n ih => intro x5 x6 x7 x8 x9; exact (congrArg (fun kn => S110_0_1 α x5 x6 x8 x9 kn (fun (y1 : Bool) (y2 : Rows) (y3 : Rows) => u110_0_2 (K (.exit 0)) y1 x5 x6 x7 y2 y3)) (funext fun x8 => funext fun x9 => ih x5 x6 x7 x8 x9)).trans (r110_0_1 α K (loopT (runM Try.prog E110_0 sh110 c110_0_11) td110_11 K n) x5 x6 x7 x8 x9).symm
theorem m110_0_1 : ∀ (α : Type) (K : Exit → St → Option α), F110_0_1 L110_0_1 α K = p110_0_1.unc fun σ => loopT (runM Try.prog E110_0 sh110 c110_0_11) td110_11 K fuel σ := fun α K => funext fun x5 => funext fun x6 => funext fun x7 => funext fun x8 => funext fun x9 => t110_0_1 α K fuel x5 x6 x7 x8 x9

/-- (etalon/grow.chamber).labels -/
abbrev Tf110_0 : Type 1 := (α : Type) → Rows → Rows → Int → (Rows → Option α) → Option α
def f110_0g (vL110_0_1 : TL110_0_1) (vf130_0 : Tf130_0) (α : Type) (x1 : Rows) (x2 : Rows) (x3 : Int) (k1 : Rows → Option α) : Option α :=
 gK (decide (0 ≤ ((List.length x1 : Nat) : Int))) (vf130_0 α [[DC.v (.int .i64 1000)]] (w64 (1 * 2 ^ (min (Int.toNat ((List.length x1 : Nat) : Int)) 64)))
 (fun (x4 : Rows) => flatK [x4]
 (ixK x4 x3 1
 (stK x4 (Int.toNat x3) 0 1
 (vL110_0_1 α x1 x2
 (fun (x35 : Bool) (x36 : Rows) (x37 : Rows) => k1 x36) (List.set x4 (Int.toNat x3) (splice (rowAt x4 (Int.toNat x3)) 0 [DC.v (.int .i64 0)])) [[DC.v (.int .i64 x3)]])))))
noncomputable def f110_0 (α : Type) (x1 : Rows) (x2 : Rows) (x3 : Int) (k1 : Rows → Option α) : Option α := f110_0g L110_0_1 f130_0 α x1 x2 x3 k1
def pa110_0 : PT (List DV) := pA [pV true [dL, dL], pV false [(dI .i64)]]
def Fn110_0 (v : Tf110_0) (α : Type) (k : List RV → Option α) : Rows → Rows → Int → Option α := fun x1 x2 x3 => v α x1 x2 x3 (fun (y1 : Rows) => ur110_0_0 k y1)
noncomputable def cm110_0g (vL110_0_1 : TL110_0_1) : MCode := (.seq (.region r110_2 [] (some ⟨[1, 2, 4], true, [⟨false, 4, 0, 20004, 1⟩], []⟩)) (.seq (.region r110_4 [] (some ⟨[1, 2, 4, 5], true, [⟨false, 4, 0, 20004, 1⟩], []⟩)) (.seq (.region r110_6 [] (some ⟨[1, 2, 4, 5], true, [⟨false, 4, 0, 20004, 1⟩], []⟩)) (.seq (.region r110_8 [] (some ⟨[2, 4, 5, 6], true, [⟨false, 4, 0, 20004, 1⟩], []⟩)) (.seq (.block 0 (.loop td110_11 [⟨p110_0_1, F110_0_1 vL110_0_1⟩] c110_0_11)) (.seq (.region r110_34 [] (some ⟨[4], true, [⟨false, 4, 0, 20004, 1⟩], []⟩)) .ret))))))
noncomputable def cm110_0 : MCode := cm110_0g L110_0_1
theorem gm110_0 : cm110_0.Good Try.prog E110_0 sh110 := ⟨trivial, ⟨trivial, ⟨trivial, ⟨trivial, ⟨⟨g110_0_11, m110_0_1, trivial⟩, ⟨trivial, trivial⟩⟩⟩⟩⟩⟩
theorem fm110_0g (vf130_0 : Tf130_0) (vf111_0 : Tf111_0) (vq131 : Tq131) (vL110_0_1 : TL110_0_1) (α : Type) (k : List RV → Option α) : Fn110_0 (f110_0g vL110_0_1 vf130_0) α k = pa110_0.unc fun ds => fnM Try.prog (E110_0g vf130_0 vf111_0 vq131) sh110 (cm110_0g vL110_0_1) rs110 k ds := by kernel_rfl
theorem fm110_0 : ∀ (α : Type) (k : List RV → Option α), Fn110_0 f110_0 α k = pa110_0.unc fun ds => fnM Try.prog E110_0 sh110 cm110_0 rs110 k ds := fm110_0g f130_0 f111_0 q131 L110_0_1

theorem is110 : FnIs Try.prog 110 nt110 tr110 tl110 cm110_0.erase rs110 := ⟨Try.f110, Try.func110, rfl, by kernel_rfl, by kernel_rfl, by kernel_rfl⟩
theorem io110_0 : InstOk Try.prog 110 nt110 ⟨pa110_0, Fn110_0 f110_0⟩ := inst_ok eo110_0 followsTry is110 ⟨⟨sh110, cm110_0, by kernel_rfl, gm110_0, fm110_0⟩⟩

/-! ### F55 etalon/grow.Sequence -/
abbrev nt55 : Nat := 70
def sh55 : List (Nat × List Sh) := [(16, [.sl, .sl]), (17, [.sl, .sl]), (25, [.sl, .sl]), (27, [.int .i64]), (31, [.int .i64]), (32, [.int .i64]), (33, [.int .i64]), (37, [.sl, .sl]), (39, [.int .i64]), (42, [.int .i64]), (43, [.int .i64]), (45, [.int .i64]), (48, [.sl, .sl]), (49, [.int .i64]), (53, [.sl]), (55, [.int .i64]), (56, [.int .i64]), (57, [.sl]), (58, [.int .i64]), (59, [.int .i64]), (60, [.int .i64]), (62, [.sl]), (67, [.int .i64]), (68, [.sl])]
def r55_2 : List AOper := [oO 2 (.box (.tmp 0)), oO 3 (.box (.tmp 1)), oO 4 (.mv (.const (.slice none 0 0))), oO 5 (.mv (.const (.slice none 0 0))), oO 6 (.mv (.const (.int .i64 0)))]
def r55_4 : List AOper := [oO 16 (.load true 2 (.tmp 2)), oO 17 (.load true 2 (.tmp 3)), oO 18 (.call 109 [(.tmp 16), (.tmp 17)]), oM 15 18, oO 19 (.extract 0 (.tmp 15)), oO 20 (.extract 1 (.tmp 15)), oO 7 (.alloc [.nils, .nils, (.d (.v (.int .i64 0))), (.d (.v (.int .i64 0)))]), ⟨none, (.store 4 (.tmp 7) (.tmp 19)), none⟩, oM 8 20]
def r55_7 : List AOper := [oM 21 8, oO 22 (.bin .neq 32 (.tmp 21) (.const (.int .i64 0)))]
def r55_10 : List AOper := [oM 23 8, oO 4 (.mv (.const (.slice none 0 0))), oO 5 (.mv (.const (.slice none 0 0))), oM 6 23]
def r55_12 : List AOper := [oO 24 (.faddr 0 (.tmp 7)), oO 25 (.load true 2 (.tmp 24)), oO 26 (.faddr 2 (.tmp 7)), oO 27 (.load false 1 (.tmp 26)), oO 28 (.call 110 [(.tmp 25), (.tmp 27)]), oM 9 28]
def r55_15 : List AOper := [oM 29 9, oO 30 (.faddr 3 (.tmp 7)), oO 31 (.load false 1 (.tmp 30)), oO 32 (.iaddr 1 none (.tmp 29) (.tmp 31)), oO 33 (.load false 1 (.tmp 32)), oO 34 (.bin .eql 3 (.tmp 33) (.const (.int .i64 1000)))]
def r55_18 : List AOper := [oM 35 9, oO 4 (.mv (.const (.slice none 0 0))), oM 5 35, oO 6 (.mv (.const (.int .i64 17)))]
def r55_20 : List AOper := [oO 10 (.alloc [.nils])]
def r55_22 : List AOper := [oO 36 (.faddr 0 (.tmp 7)), oO 37 (.load true 2 (.tmp 36)), oO 38 (.faddr 3 (.tmp 7)), oO 39 (.load false 1 (.tmp 38)), oO 40 (.call 110 [(.tmp 37), (.tmp 39)]), oO 11 (.alloc [.nils]), ⟨none, (.store 1 (.tmp 11) (.tmp 40)), none⟩]
def r55_25 : List AOper := [oO 41 (.faddr 2 (.tmp 7)), oO 42 (.load false 1 (.tmp 41)), oO 12 (.alloc [(.d (.v (.int .i64 0)))]), ⟨none, (.store 1 (.tmp 12) (.tmp 42)), none⟩]
def td55_27 : Option Tidy := (some ⟨[4, 5, 6, 7, 9, 10, 11, 12], true, [⟨false, 4, 0, 20004, 1⟩, ⟨false, 5, 0, 20005, 1⟩, ⟨false, 9, 0, 20009, 1⟩, ⟨true, 2, 0, 30200, 1⟩, ⟨true, 2, 1, 30201, 4⟩, ⟨true, 3, 0, 30300, 1⟩, ⟨true, 3, 1, 30301, 1⟩, ⟨true, 7, 0, 30700, 1⟩, ⟨true, 7, 1, 30701, 4⟩, ⟨true, 10, 0, 31000, 1⟩, ⟨true, 11, 0, 31100, 1⟩, ⟨false, 0, 0, 30700, 999999⟩, ⟨false, 0, 0, 30701, 999999⟩], []⟩)
def r55_30 : List AOper := [oO 43 (.load false 1 (.tmp 12)), oO 44 (.faddr 3 (.tmp 7)), oO 45 (.load false 1 (.tmp 44)), oO 46 (.bin .neq 171 (.tmp 43) (.tmp 45))]
def r55_35 : List AOper := [oO 47 (.faddr 0 (.tmp 7)), oO 48 (.load true 2 (.tmp 47)), oO 49 (.load false 1 (.tmp 12)), oO 50 (.call 111 [(.tmp 48), (.tmp 49)])]
def td55_37 : Option Tidy := (some ⟨[4, 5, 6, 7, 9, 10, 11, 12, 50], true, [⟨false, 4, 0, 20004, 1⟩, ⟨false, 5, 0, 20005, 1⟩, ⟨false, 9, 0, 20009, 1⟩, ⟨true, 2, 0, 30200, 1⟩, ⟨true, 2, 1, 30201, 4⟩, ⟨true, 3, 0, 30300, 1⟩, ⟨true, 3, 1, 30301, 1⟩, ⟨true, 7, 0, 30700, 1⟩, ⟨true, 7, 1, 30701, 4⟩, ⟨true, 10, 0, 31000, 1⟩, ⟨true, 11, 0, 31100, 1⟩, ⟨false, 0, 0, 30700, 999999⟩, ⟨false, 0, 0, 30701, 999999⟩], []⟩)
def r55_39 : List AOper := [oM 13 51]
def r55_40 : List AOper := [oM 14 52]
def r55_43 : List AOper := [oO 53 (.load false 1 (.tmp 11)), oM 54 14, oO 55 (.iaddr 1 none (.tmp 53) (.tmp 54)), oO 56 (.load false 1 (.tmp 55)), oO 57 (.load false 1 (.tmp 11)), oO 58 (.load false 1 (.tmp 12)), oO 59 (.iaddr 1 none (.tmp 57) (.tmp 58)), oO 60 (.load false 1 (.tmp 59)), oO 61 (.bin .lss 3 (.tmp 56) (.tmp 60))]
def r55_46 : List AOper := [oO 62 (.load false 1 (.tmp 10)), oM 63 13, oO 64 (.bslice 1 1 [(.v (.int .i64 0))] [(0, (.tmp 63))]), oO 65 (.append 1 8 (.tmp 62) (.tmp 64)), oM 66 14, ⟨none, (.store 1 (.tmp 10) (.tmp 65)), none⟩, ⟨none, (.store 1 (.tmp 12) (.tmp 66)), none⟩]
def r55_48 : List AOper := [oO 67 (.load false 1 (.tmp 12))]
def r55_49 : List AOper := [oO 12 (.alloc [(.d (.v (.int .i64 0)))]), ⟨none, (.store 1 (.tmp 12) (.tmp 67)), none⟩]
def r55_51 : List AOper := [oO 68 (.load false 1 (.tmp 10)), oM 69 9, oM 4 68, oM 5 69, oO 6 (.mv (.const (.int .i64 0)))]
def tr55 : List (Nat × Tidy) := [(0, ⟨[2, 3, 4, 5, 6], true, [⟨false, 4, 0, 20004, 1⟩, ⟨false, 5, 0, 20005, 1⟩], []⟩), (1, ⟨[4, 5, 6, 7, 8], true, [⟨false, 4, 0, 20004, 1⟩, ⟨false, 5, 0, 20005, 1⟩], []⟩), (2, ⟨[4, 5, 6, 7, 8, 22], true, [⟨false, 4, 0, 20004, 1⟩, ⟨false, 5, 0, 20005, 1⟩], []⟩), (3, ⟨[4, 5, 6], true, [⟨false, 4, 0, 20004, 1⟩, ⟨false, 5, 0, 20005, 1⟩], []⟩), (4, ⟨[4, 5, 6, 7, 9], true, [⟨false, 4, 0, 20004, 1⟩, ⟨false, 5, 0, 20005, 1⟩], []⟩), (5, ⟨[4, 5, 6, 7, 9, 34], true, [⟨false, 4, 0, 20004, 1⟩, ⟨false, 5, 0, 20005, 1⟩], []⟩), (6, ⟨[4, 5, 6], true, [⟨false, 4, 0, 20004, 1⟩, ⟨false, 5, 0, 20005, 1⟩], []⟩), (7, ⟨[4, 5, 6, 7, 9, 10], true, [⟨false, 4, 0, 20004, 1⟩, ⟨false, 5, 0, 20005, 1⟩], []⟩), (8, ⟨[4, 5, 6, 7, 9, 10, 11], true, [⟨false, 4, 0, 20004, 1⟩, ⟨false, 5, 0, 20005, 1⟩], []⟩), (9, ⟨[4, 5, 6, 7, 9, 10, 11, 12], true, [⟨false, 4, 0, 20004, 1⟩, ⟨false, 5, 0, 20005, 1⟩], []⟩), (10, ⟨[4, 5, 6, 7, 9, 10, 11, 12, 46], true, [⟨false, 4, 0, 20004, 1⟩, ⟨false, 5, 0, 20005, 1⟩], []⟩), (11, ⟨[4, 5, 6, 7, 9, 10, 11, 12, 50], true, [⟨false, 4, 0, 20004, 1⟩, ⟨false, 5, 0, 20005, 1⟩, ⟨false, 9, 0, 20009, 1⟩, ⟨true, 2, 0, 30200, 1⟩, ⟨true, 2, 1, 30201, 4⟩, ⟨true, 3, 0, 30300, 1⟩, ⟨true, 3, 1, 30301, 1⟩, ⟨true, 7, 0, 30700, 1⟩, ⟨true, 7, 1, 30701, 4⟩, ⟨true, 10, 0, 31000, 1⟩, ⟨true, 11, 0, 31100, 1⟩, ⟨false, 0, 0, 30700, 999999⟩, ⟨false, 0, 0, 30701, 999999⟩], []⟩), (12, ⟨[4, 5, 6, 7, 9, 10, 11, 12, 13, 52], true, [⟨false, 4, 0, 20004, 1⟩, ⟨false, 5, 0, 20005, 1⟩], []⟩), (13, ⟨[4, 5, 6, 7, 9, 10, 11, 12, 13, 14], true, [⟨false, 4, 0, 20004, 1⟩, ⟨false, 5, 0, 20005, 1⟩], []⟩), (14, ⟨[4, 5, 6, 7, 9, 10, 11, 12, 13, 14, 61], true, [⟨false, 4, 0, 20004, 1⟩, ⟨false, 5, 0, 20005, 1⟩], []⟩), (15, ⟨[4, 5, 6, 7, 9, 10, 11, 12], true, [⟨false, 4, 0, 20004, 1⟩, ⟨false, 5, 0, 20005, 1⟩], []⟩), (16, ⟨[4, 5, 6, 7, 9, 10, 11, 67], true, [⟨false, 4, 0, 20004, 1⟩, ⟨false, 5, 0, 20005, 1⟩], []⟩), (17, ⟨[4, 5, 6, 7, 9, 10, 11, 12], true, [⟨false, 4, 0, 20004, 1⟩, ⟨false, 5, 0, 20005, 1⟩], []⟩), (18, ⟨[4, 5, 6], true, [⟨false, 4, 0, 20004, 1⟩, ⟨false, 5, 0, 20005, 1⟩], []⟩)]
def tl55 : List (Nat × Tidy) := [(10, ⟨[4, 5, 6, 7, 9, 10, 11, 12], true, [⟨false, 4, 0, 20004, 1⟩, ⟨false, 5, 0, 20005, 1⟩, ⟨false, 9, 0, 20009, 1⟩, ⟨true, 2, 0, 30200, 1⟩, ⟨true, 2, 1, 30201, 4⟩, ⟨true, 3, 0, 30300, 1⟩, ⟨true, 3, 1, 30301, 1⟩, ⟨true, 7, 0, 30700, 1⟩, ⟨true, 7, 1, 30701, 4⟩, ⟨true, 10, 0, 31000, 1⟩, ⟨true, 11, 0, 31100, 1⟩, ⟨false, 0, 0, 30700, 999999⟩, ⟨false, 0, 0, 30701, 999999⟩], []⟩), (14, ⟨[4, 5, 6, 7, 9, 10, 11, 12, 50], true, [⟨false, 4, 0, 20004, 1⟩, ⟨false, 5, 0, 20005, 1⟩, ⟨false, 9, 0, 20009, 1⟩, ⟨true, 2, 0, 30200, 1⟩, ⟨true, 2, 1, 30201, 4⟩, ⟨true, 3, 0, 30300, 1⟩, ⟨true, 3, 1, 30301, 1⟩, ⟨true, 7, 0, 30700, 1⟩, ⟨true, 7, 1, 30701, 4⟩, ⟨true, 10, 0, 31000, 1⟩, ⟨true, 11, 0, 31100, 1⟩, ⟨false, 0, 0, 30700, 999999⟩, ⟨false, 0, 0, 30701, 999999⟩], []⟩)]
def rs55 : List AResV := [.tmp 4, .tmp 5, .tmp 6]
def p55_0_0 : PT St := pS [sl 2 (aV false [(cPtr 2 0)]), sl 3 (aV false [(cPtr 3 0)]), sl 4 (aV false [(cRef 20004)]), sl 5 (aV false [(cRef 20005)]), sl 6 (aV false [(cD (dI .i64))])] [eBox 2 [(cD dL), (cD dL)], eBox 3 [(cD dL), (cD dL)], eOwn 20004 1, eOwn 20005 1]
def u55_0_0 {β : Type} (g : St → β) : Int → Rows → Rows → Rows → Rows → Rows → Rows → β := p55_0_0.unc g

def p55_0_1 : PT St := pS [sl 4 (aV false [(cRef 20004)]), sl 5 (aV false [(cRef 20005)]), sl 6 (aV false [(cD (dI .i64))]), sl 7 (aV false [(cPtr 7 0)]), sl 8 (aV false [(cD (dI .i64))])] [eOwn 20004 1, eOwn 20005 1, eBox 7 [(cRef 18), (cRef 10018), (cD (dI .i64)), (cD (dI .i64))], eOwn 18 1, eOwn 10018 4]
def u55_0_1 {β : Type} (g : St → β) : Int → Int → Rows → Rows → Int → Int → Rows → Rows → β := p55_0_1.unc g

def p55_0_2 : PT St := pS [sl 4 (aV false [(cRef 20004)]), sl 5 (aV false [(cRef 20005)]), sl 6 (aV false [(cD (dI .i64))]), sl 7 (aV false [(cPtr 7 0)]), sl 8 (aV false [(cD (dI .i64))])] [eOwn 20004 1, eOwn 20005 1, eBox 7 [(cD dL), (cD dL), (cD (dI .i64)), (cD (dI .i64))]]
def u55_0_2 {β : Type} (g : St → β) : Int → Int → Rows → Rows → Rows → Rows → Int → Int → β := p55_0_2.unc g

def p55_0_3 : PT St := pS [sl 4 (aV false [(cRef 20004)]), sl 5 (aV false [(cRef 20005)]), sl 6 (aV false [(cD (dI .i64))]), sl 7 (aV false [(cPtr 7 0)]), sl 9 (aV false [(cRef 20009)]), sl 10 (aV false [(cPtr 10 0)]), sl 11 (aV false [(cPtr 11 0)]), sl 12 (aV false [(cPtr 12 0)]), sl 50 (aV false [(cD (dFn 131 [(dP [dL, dL] 0), (dP [(dI .i64)] 0)]))])] [eOwn 20004 1, eOwn 20005 1, eBox 7 [(cRef 30700), (cRef 30701), (cD (dI .i64)), (cD (dI .i64))], eImm 30700, eImm 30701, eOwn 20009 1, eBox 10 [(cRef 31000)], eOwn 31000 1, eBox 11 [(cRef 31100)], eOwn 31100 1, eBox 12 [(cD (dI .i64))]]
def u55_0_3 {β : Type} (g : St → β) : Int → Rows → Rows → Int → Rows → Rows → Int → Int → Rows → Rows → Rows → Rows → Rows → Int → β := p55_0_3.unc g

def p55_0_4 : PT St := pS [sl 4 (aV false [(cRef 20004)]), sl 5 (aV false [(cRef 20005)]), sl 6 (aV false [(cD (dI .i64))]), sl 7 (aV false [(cPtr 7 0)]), sl 9 (aV false [(cRef 20009)]), sl 10 (aV false [(cPtr 10 0)]), sl 11 (aV false [(cPtr 11 0)]), sl 12 (aV false [(cPtr 12 0)]), sl 50 (aV false [(cD (dFn 131 [(dP [dL, dL] 0), (dP [(dI .i64)] 0)]))])] [eOwn 20004 1, eOwn 20005 1, eBox 7 [(cRef 30700), (cRef 30701), (cD (dI .i64)), (cD (dI .i64))], eImm 30700, eImm 30701, eOwn 20009 1, eBox 10 [(cRef 65)], eOwn 65 1, eBox 11 [(cRef 31100)], eOwn 31100 1, eBox 12 [(cD (dI .i64))]]
def u55_0_4 {β : Type} (g : St → β) : Int → Rows → Rows → Int → Rows → Rows → Int → Int → Rows → Rows → Rows → Rows → Rows → Int → β := p55_0_4.unc g

def p55_0_5 : PT St := pS [sl 4 (aV false [(cRef 20004)]), sl 5 (aV false [(cRef 20005)]), sl 6 (aV false [(cD (dI .i64))]), sl 7 (aV false [(cPtr 7 0)]), sl 9 (aV false [(cRef 20009)]), sl 10 (aV false [(cPtr 10 0)]), sl 11 (aV false [(cPtr 11 0)]), sl 12 (aV false [(cPtr 12 0)])] [eOwn 20004 1, eOwn 20005 1, eBox 7 [(cRef 30700), (cRef 30701), (cD (dI .i64)), (cD (dI .i64))], eImm 30700, eImm 30701, eOwn 20009 1, eBox 10 [(cRef 31000)], eOwn 31000 1, eBox 11 [(cRef 31100)], eOwn 31100 1, eBox 12 [(cD (dI .i64))]]
def u55_0_5 {β : Type} (g : St → β) : Int → Rows → Rows → Int → Int → Rows → Rows → Rows → Rows → Rows → Int → β := p55_0_5.unc g

def p55_0_6 : PT St := pS [sl 4 (aV false [(cRef 20004)]), sl 5 (aV false [(cRef 20005)]), sl 6 (aV false [(cD (dI .i64))]), sl 7 (aV false [(cPtr 7 0)]), sl 9 (aV false [(cRef 20009)]), sl 10 (aV false [(cPtr 10 0)]), sl 11 (aV false [(cPtr 11 0)]), sl 12 (aV false [(cPtr 12 0)]), sl 46 (aV false [(cD dB)])] [eOwn 20004 1, eOwn 20005 1, eBox 7 [(cRef 30700), (cRef 30701), (cD (dI .i64)), (cD (dI .i64))], eImm 30700, eImm 30701, eOwn 20009 1, eBox 10 [(cRef 31000)], eOwn 31000 1, eBox 11 [(cRef 31100)], eOwn 31100 1, eBox 12 [(cD (dI .i64))]]
def u55_0_6 {β : Type} (g : St → β) : Int → Bool → Rows → Rows → Int → Int → Rows → Rows → Rows → Rows → Rows → Int → β := p55_0_6.unc g

def p55_0_7 : PT St := pS [sl 4 (aV false [(cRef 20004)]), sl 5 (aV false [(cRef 20005)]), sl 6 (aV false [(cD (dI .i64))]), sl 7 (aV false [(cPtr 7 0)]), sl 9 (aV false [(cRef 20009)]), sl 10 (aV false [(cPtr 10 0)]), sl 11 (aV false [(cPtr 11 0)]), sl 12 (aV false [(cPtr 12 0)]), sl 50 (aV false [(cD (dFn 131 [(dP [dL, dL] 0), (dP [(dI .i64)] 0)]))])] [eOwn 20004 1, eOwn 20005 1, eBox 7 [(cD dL), (cD dL), (cD (dI .i64)), (cD (dI .i64))], eOwn 20009 1, eBox 10 [(cRef 31000)], eOwn 31000 1, eBox 11 [(cRef 31100)], eOwn 31100 1, eBox 12 [(cD (dI .i64))]]
def u55_0_7 {β : Type} (g : St → β) : Int → Rows → Rows → Int → Rows → Rows → Rows → Rows → Int → Int → Rows → Rows → Rows → Int → β := p55_0_7.unc g

def p55_0_8 : PT St := pS [sl 4 (aV false [(cRef 20004)]), sl 5 (aV false [(cRef 20005)]), sl 6 (aV false [(cD (dI .i64))]), sl 7 (aV false [(cPtr 7 0)]), sl 9 (aV false [(cRef 20009)]), sl 10 (aV false [(cPtr 10 0)]), sl 11 (aV false [(cPtr 11 0)]), sl 12 (aV false [(cPtr 12 0)]), sl 50 (aV false [(cD (dFn 131 [(dP [dL, dL] 0), (dP [(dI .i64)] 0)]))])] [eOwn 20004 1, eOwn 20005 1, eBox 7 [(cD dL), (cD dL), (cD (dI .i64)), (cD (dI .i64))], eOwn 20009 1, eBox 10 [(cRef 65)], eOwn 65 1, eBox 11 [(cRef 31100)], eOwn 31100 1, eBox 12 [(cD (dI .i64))]]
def u55_0_8 {β : Type} (g : St → β) : Int → Rows → Rows → Int → Rows → Rows → Rows → Rows → Int → Int → Rows → Rows → Rows → Int → β := p55_0_8.unc g

def p55_0_9 : PT St := pS [sl 4 (aV false [(cRef 20004)]), sl 5 (aV false [(cRef 20005)]), sl 6 (aV false [(cD (dI .i64))]), sl 7 (aV false [(cPtr 7 0)]), sl 9 (aV false [(cRef 20009)]), sl 10 (aV false [(cPtr 10 0)]), sl 11 (aV false [(cPtr 11 0)]), sl 12 (aV false [(cPtr 12 0)])] [eOwn 20004 1, eOwn 20005 1, eBox 7 [(cD dL), (cD dL), (cD (dI .i64)), (cD (dI .i64))], eOwn 20009 1, eBox 10 [(cRef 31000)], eOwn 31000 1, eBox 11 [(cRef 31100)], eOwn 31100 1, eBox 12 [(cD (dI .i64))]]
def u55_0_9 {β : Type} (g : St → β) : Int → Rows → Rows → Rows → Rows → Int → Int → Rows → Rows → Rows → Int → β := p55_0_9.unc g

def p55_0_10 : PT St := pS [sl 4 (aV false [(cRef 20004)]), sl 5 (aV false [(cRef 20005)]), sl 6 (aV false [(cD (dI .i64))]), sl 7 (aV false [(cPtr 7 0)]), sl 9 (aV false [(cRef 20009)]), sl 10 (aV false [(cPtr 10 0)]), sl 11 (aV false [(cPtr 11 0)]), sl 12 (aV false [(cPtr 12 0)]), sl 46 (aV false [(cD dB)])] [eOwn 20004 1, eOwn 20005 1, eBox 7 [(cD dL), (cD dL), (cD (dI .i64)), (cD (dI .i64))], eOwn 20009 1, eBox 10 [(cRef 31000)], eOwn 31000 1, eBox 11 [(cRef 31100)], eOwn 31100 1, eBox 12 [(cD (dI .i64))]]
def u55_0_10 {β : Type} (g : St → β) : Int → Bool → Rows → Rows → Rows → Rows → Int → Int → Rows → Rows → Rows → Int → β := p55_0_10.unc g

def pr55_0_0 : PT (List RV) := pRs [pR false [rO 1], pR false [rO 1], pR false [rD (dI .i64)]]
def ur55_0_0 {β : Type} (g : List RV → β) : Rows → Rows → Int → β := pr55_0_0.unc g

def E55_0g (vf109_0 : Tf109_0) (vf110_0 : Tf110_0) (vf111_0 : Tf111_0) (vq131 : Tq131) : EnvK := EnvK.of [⟨109, nt109, [⟨pa109_0, Fn109_0 vf109_0⟩]⟩, ⟨110, nt110, [⟨pa110_0, Fn110_0 vf110_0⟩]⟩, ⟨111, nt111, [⟨pa111_0, Fn111_0 vf111_0⟩]⟩] (seqE [⟨131, pq131, vq131⟩])
noncomputable def E55_0 : EnvK := E55_0g f109_0 f110_0 f111_0 q131
theorem eo55_0 : E55_0.Ok Try.prog := EnvK.of_ok (seqE_ok (l := [⟨131, pq131, q131⟩]) ⟨sqok131, trivial⟩) ⟨⟨io109_0, trivial⟩, ⟨io110_0, trivial⟩, ⟨io111_0, trivial⟩, trivial⟩

noncomputable def ca55_0_37 : MCode := (.seq (.region r55_39 [] (some ⟨[4, 5, 6, 7, 9, 10, 11, 12, 13, 52], true, [⟨false, 4, 0, 20004, 1⟩, ⟨false, 5, 0, 20005, 1⟩], []⟩)) (.region r55_40 [] (some ⟨[4, 5, 6, 7, 9, 10, 11, 12, 13, 14], true, [⟨false, 4, 0, 20004, 1⟩, ⟨false, 5, 0, 20005, 1⟩], []⟩)))
theorem ga55_0_37 : ca55_0_37.Good Try.prog E55_0 sh55 := ⟨trivial, trivial⟩

noncomputable def c55_0_37g  : MCode := (.block 3 (.seq (.region r55_43 [] (some ⟨[4, 5, 6, 7, 9, 10, 11, 12, 13, 14, 61], true, [⟨false, 4, 0, 20004, 1⟩, ⟨false, 5, 0, 20005, 1⟩], []⟩)) (.cond (.tmp 61) (.seq (.region r55_46 [] (some ⟨[4, 5, 6, 7, 9, 10, 11, 12], true, [⟨false, 4, 0, 20004, 1⟩, ⟨false, 5, 0, 20005, 1⟩], []⟩)) (.exit 2)) .skip)))
noncomputable def c55_0_37 : MCode := c55_0_37g 
theorem g55_0_37 : c55_0_37.Good Try.prog E55_0 sh55 := ⟨trivial, ⟨⟨trivial, trivial⟩, trivial⟩⟩
--CODE 37 0
def S55_0_1g  (α : Type) (x58 : Rows) (x59 : Rows) (x60 : Int) (y61 : Int × Int)  (kn : Option α) (k1 : Option α) (k2 : Rows → Int → Option α) : Option α :=
 ixK x59 y61.2 1
 (ldK x59 (Int.toNat y61.2) 0 [.int .i64]
 (fun (x62 : Int) => ixK x59 x60 1
 (ldK x59 (Int.toNat x60) 0 [.int .i64]
 (fun (x63 : Int) => cK (decide (x62 < x63))
 (gK (apOk 1 8 x58 [[DC.v (.int .i64 y61.1)]]) (k2 (x58 ++ [[DC.v (.int .i64 y61.1)]]) y61.2))
 (kn)))))
noncomputable def S55_0_1 (α : Type) (x58 : Rows) (x59 : Rows) (x60 : Int) (y61 : Int × Int)  (kn : Option α) (k1 : Option α) (k2 : Rows → Int → Option α) : Option α := S55_0_1g  α x58 x59 x60 y61  kn k1 k2
noncomputable def V55_0_1 (α : Type) (x58 : Rows) (x59 : Rows) (x60 : Int) (k1 : Option α) (k2 : Rows → Int → Option α) : List (Int × Int) → Option α
 | [] => k1 
 | y61 :: ys => S55_0_1 α x58 x59 x60 y61  (V55_0_1 α x58 x59 x60 k1 k2 ys) k1 k2
abbrev TV55_0_1 : Type 1 := (α : Type) → Rows → Rows → Int → (Option α) → (Rows → Int → Option α) → List (Int × Int) → Option α
def F55_0_1 (v : TV55_0_1) (α : Type) (K : Exit → St → Option α) (ys : List (Int × Int)) : Int → Rows → Rows → Int → Rows → Rows → Int → Int → Rows → Rows → Rows → Rows → Rows → Int → Option α := fun x47 x48 x49 x50 x51 x52 x53 x54 x55 x56 x57 x58 x59 x60 => v α x58 x59 x60 (u55_0_3 (K .normal) x47 x48 x49 x50 x51 x52 x53 x54 x55 x56 x57 x58 x59 x60) (fun (y1 : Rows) (y2 : Int) => u55_0_4 (K (.exit 2)) x47 x48 x49 x50 x51 x52 x53 x54 x55 x56 x57 y1 x59 y2) ys 
theorem r55_0_1g (vf109_0 : Tf109_0) (vf110_0 : Tf110_0) (vf111_0 : Tf111_0) (vq131 : Tq131)  (α : Type) (K : Exit → St → Option α) (Kn : St → Option α) (y61 : Int × Int) (x47 : Int) (x48 : Rows) (x49 : Rows) (x50 : Int) (x51 : Rows) (x52 : Rows) (x53 : Int) (x54 : Int) (x55 : Rows) (x56 : Rows) (x57 : Rows) (x58 : Rows) (x59 : Rows) (x60 : Int) : u55_0_3 (fun σ => roundT (runM Try.prog (E55_0g vf109_0 vf110_0 vf111_0 vq131) sh55 ca55_0_37) (runM Try.prog (E55_0g vf109_0 vf110_0 vf111_0 vq131) sh55 c55_0_37) [51, 52] td55_37 Kn K (xII.ex y61) σ) x47 x48 x49 x50 x51 x52 x53 x54 x55 x56 x57 x58 x59 x60 = S55_0_1g  α x58 x59 x60 y61  (u55_0_3 Kn x47 x48 x49 x50 x51 x52 x53 x54 x55 x56 x57 x58 x59 x60) (u55_0_3 (K .normal) x47 x48 x49 x50 x51 x52 x53 x54 x55 x56 x57 x58 x59 x60) (fun (y1 : Rows) (y2 : Int) => u55_0_4 (K (.exit 2)) x47 x48 x49 x50 x51 x52 x53 x54 x55 x56 x57 y1 x59 y2) := by kernel_rfl
theorem r55_0_1 (α : Type) (K : Exit → St → Option α) (Kn : St → Option α) (y61 : Int × Int) (x47 : Int) (x48 : Rows) (x49 : Rows) (x50 : Int) (x51 : Rows) (x52 : Rows) (x53 : Int) (x54 : Int) (x55 : Rows) (x56 : Rows) (x57 : Rows) (x58 : Rows) (x59 : Rows) (x60 : Int) : u55_0_3 (fun σ => roundT (runM Try.prog E55_0 sh55 ca55_0_37) (runM Try.prog E55_0 sh55 c55_0_37) [51, 52] td55_37 Kn K (xII.ex y61) σ) x47 x48 x49 x50 x51 x52 x53 x54 x55 x56 x57 x58 x59 x60 = S55_0_1 α x58 x59 x60 y61  (u55_0_3 Kn x47 x48 x49 x50 x51 x52 x53 x54 x55 x56 x57 x58 x59 x60) (u55_0_3 (K .normal) x47 x48 x49 x50 x51 x52 x53 x54 x55 x56 x57 x58 x59 x60) (fun (y1 : Rows) (y2 : Int) => u55_0_4 (K (.exit 2)) x47 x48 x49 x50 x51 x52 x53 x54 x55 x56 x57 y1 x59 y2) := r55_0_1g f109_0 f110_0 f111_0 q131 α K Kn y61 x47 x48 x49 x50 x51 x52 x53 x54 x55 x56 x57 x58 x59 x60
theorem t55_0_1 (α : Type) (K : Exit → St → Option α) : ∀ (ys : List (Int × Int)) (x47 : Int) (x48 : Rows) (x49 : Rows) (x50 : Int) (x51 : Rows) (x52 : Rows) (x53 : Int) (x54 : Int) (x55 : Rows) (x56 : Rows) (x57 : Rows) (x58 : Rows) (x59 : Rows) (x60 : Int), V55_0_1 α x58 x59 x60 (u55_0_3 (K .normal) x47 x48 x49 x50 x51 x52 x53 x54 x55 x56 x57 x58 x59 x60) (fun (y1 : Rows) (y2 : Int) => u55_0_4 (K (.exit 2)) x47 x48 x49 x50 x51 x52 x53 x54 x55 x56 x57 y1 x59 y2) ys  = u55_0_3 (roundsK (runM Try.prog E55_0 sh55 ca55_0_37) (runM Try.prog E55_0 sh55 c55_0_37) [51, 52] td55_37 K (ys.map xII.ex)) x47 x48 x49 x50 x51 x52 x53 x54 x55 x56 x57 x58 x59 x60 := by
 intro ys
 induction ys with
 | nil => intros; rfl
 | cons y61 ys ih => intro x47 x48 x49 x50 x51 x52 x53 x54 x55 x56 x57 x58 x59 x60; exact (congrArg (fun kn => S55_0_1 α x58 x59 x60 y61  kn (u55_0_3 (K .normal) x47 x48 x49 x50 x51 x52 x53 x54 x55 x56 x57 x58 x59 x60) (fun (y1 : Rows) (y2 : Int) => u55_0_4 (K (.exit 2)) x47 x48 x49 x50 x51 x52 x53 x54 x55 x56 x57 y1 x59 y2)) (ih x47 x48 x49 x50 x51 x52 x53 x54 x55 x56 x57 x58 x59 x60)).trans (r55_0_1 α K (roundsK (runM Try.prog E55_0 sh55 ca55_0_37) (runM Try.prog E55_0 sh55 c55_0_37) [51, 52] td55_37 K (ys.map xII.ex)) y61 x47 x48 x49 x50 x51 x52 x53 x54 x55 x56 x57 x58 x59 x60).symm
theorem m55_0_1 : ∀ (α : Type) (K : Exit → St → Option α) (ys : List (Int × Int)), F55_0_1 V55_0_1 α K ys = p55_0_3.unc fun σ => roundsK (runM Try.prog E55_0 sh55 ca55_0_37) (runM Try.prog E55_0 sh55 c55_0_37) [51, 52] td55_37 K (ys.map xII.ex) σ := fun α K ys => funext fun x47 => funext fun x48 => funext fun x49 => funext fun x50 => funext fun x51 => funext fun x52 => funext fun x53 => funext fun x54 => funext fun x55 => funext fun x56 => funext fun x57 => funext fun x58 => funext fun x59 => funext fun x60 => t55_0_1 α K ys x47 x48 x49 x50 x51 x52 x53 x54 x55 x56 x57 x58 x59 x60
--CODE 37 0
def S55_0_3g  (α : Type) (x105 : Rows) (x106 : Rows) (x107 : Int) (y108 : Int × Int)  (kn : Option α) (k1 : Option α) (k2 : Rows → Int → Option α) : Option α :=
 ixK x106 y108.2 1
 (ldK x106 (Int.toNat y108.2) 0 [.int .i64]
 (fun (x109 : Int) => ixK x106 x107 1
 (ldK x106 (Int.toNat x107) 0 [.int .i64]
 (fun (x110 : Int) => cK (decide (x109 < x110))
 (gK (apOk 1 8 x105 [[DC.v (.int .i64 y108.1)]]) (k2 (x105 ++ [[DC.v (.int .i64 y108.1)]]) y108.2))
 (kn)))))
noncomputable def S55_0_3 (α : Type) (x105 : Rows) (x106 : Rows) (x107 : Int) (y108 : Int × Int)  (kn : Option α) (k1 : Option α) (k2 : Rows → Int → Option α) : Option α := S55_0_3g  α x105 x106 x107 y108  kn k1 k2
noncomputable def V55_0_3 (α : Type) (x105 : Rows) (x106 : Rows) (x107 : Int) (k1 : Option α) (k2 : Rows → Int → Option α) : List (Int × Int) → Option α
 | [] => k1 
 | y108 :: ys => S55_0_3 α x105 x106 x107 y108  (V55_0_3 α x105 x106 x107 k1 k2 ys) k1 k2
abbrev TV55_0_3 : Type 1 := (α : Type) → Rows → Rows → Int → (Option α) → (Rows → Int → Option α) → List (Int × Int) → Option α
def F55_0_3 (v : TV55_0_3) (α : Type) (K : Exit → St → Option α) (ys : List (Int × Int)) : Int → Rows → Rows → Int → Rows → Rows → Rows → Rows → Int → Int → Rows → Rows → Rows → Int → Option α := fun x94 x95 x96 x97 x98 x99 x100 x101 x102 x103 x104 x105 x106 x107 => v α x105 x106 x107 (u55_0_7 (K .normal) x94 x95 x96 x97 x98 x99 x100 x101 x102 x103 x104 x105 x106 x107) (fun (y1 : Rows) (y2 : Int) => u55_0_8 (K (.exit 2)) x94 x95 x96 x97 x98 x99 x100 x101 x102 x103 x104 y1 x106 y2) ys 
theorem r55_0_3g (vf109_0 : Tf109_0) (vf110_0 : Tf110_0) (vf111_0 : Tf111_0) (vq131 : Tq131)  (α : Type) (K : Exit → St → Option α) (Kn : St → Option α) (y108 : Int × Int) (x94 : Int) (x95 : Rows) (x96 : Rows) (x97 : Int) (x98 : Rows) (x99 : Rows) (x100 : Rows) (x101 : Rows) (x102 : Int) (x103 : Int) (x104 : Rows) (x105 : Rows) (x106 : Rows) (x107 : Int) : u55_0_7 (fun σ => roundT (runM Try.prog (E55_0g vf109_0 vf110_0 vf111_0 vq131) sh55 ca55_0_37) (runM Try.prog (E55_0g vf109_0 vf110_0 vf111_0 vq131) sh55 c55_0_37) [51, 52] td55_37 Kn K (xII.ex y108) σ) x94 x95 x96 x97 x98 x99 x100 x101 x102 x103 x104 x105 x106 x107 = S55_0_3g  α x105 x106 x107 y108  (u55_0_7 Kn x94 x95 x96 x97 x98 x99 x100 x101 x102 x103 x104 x105 x106 x107) (u55_0_7 (K .normal) x94 x95 x96 x97 x98 x99 x100 x101 x102 x103 x104 x105 x106 x107) (fun (y1 : Rows) (y2 : Int) => u55_0_8 (K (.exit 2)) x94 x95 x96 x97 x98 x99 x100 x101 x102 x103 x104 y1 x106 y2) := by kernel_rfl
theorem r55_0_3 (α : Type) (K : Exit → St → Option α) (Kn : St → Option α) (y108 : Int × Int) (x94 : Int) (x95 : Rows) (x96 : Rows) (x97 : Int) (x98 : Rows) (x99 : Rows) (x100 : Rows) (x101 : Rows) (x102 : Int) (x103 : Int) (x104 : Rows) (x105 : Rows) (x106 : Rows) (x107 : Int) : u55_0_7 (fun σ => roundT (runM Try.prog E55_0 sh55 ca55_0_37) (runM Try.prog E55_0 sh55 c55_0_37) [51, 52] td55_37 Kn K (xII.ex y108) σ) x94 x95 x96 x97 x98 x99 x100 x101 x102 x103 x104 x105 x106 x107 = S55_0_3 α x105 x106 x107 y108  (u55_0_7 Kn x94 x95 x96 x97 x98 x99 x100 x101 x102 x103 x104 x105 x106 x107) (u55_0_7 (K .normal) x94 x95 x96 x97 x98 x99 x100 x101 x102 x103 x104 x105 x106 x107) (fun (y1 : Rows) (y2 : Int) => u55_0_8 (K (.exit 2)) x94 x95 x96 x97 x98 x99 x100 x101 x102 x103 x104 y1 x106 y2) := r55_0_3g f109_0 f110_0 f111_0 q131 α K Kn y108 x94 x95 x96 x97 x98 x99 x100 x101 x102 x103 x104 x105 x106 x107
theorem t55_0_3 (α : Type) (K : Exit → St → Option α) : ∀ (ys : List (Int × Int)) (x94 : Int) (x95 : Rows) (x96 : Rows) (x97 : Int) (x98 : Rows) (x99 : Rows) (x100 : Rows) (x101 : Rows) (x102 : Int) (x103 : Int) (x104 : Rows) (x105 : Rows) (x106 : Rows) (x107 : Int), V55_0_3 α x105 x106 x107 (u55_0_7 (K .normal) x94 x95 x96 x97 x98 x99 x100 x101 x102 x103 x104 x105 x106 x107) (fun (y1 : Rows) (y2 : Int) => u55_0_8 (K (.exit 2)) x94 x95 x96 x97 x98 x99 x100 x101 x102 x103 x104 y1 x106 y2) ys  = u55_0_7 (roundsK (runM Try.prog E55_0 sh55 ca55_0_37) (runM Try.prog E55_0 sh55 c55_0_37) [51, 52] td55_37 K (ys.map xII.ex)) x94 x95 x96 x97 x98 x99 x100 x101 x102 x103 x104 x105 x106 x107 := by
 intro ys
 induction ys with
 | nil => intros; rfl
 | cons y108 ys ih => intro x94 x95 x96 x97 x98 x99 x100 x101 x102 x103 x104 x105 x106 x107; exact (congrArg (fun kn => S55_0_3 α x105 x106 x107 y108  kn (u55_0_7 (K .normal) x94 x95 x96 x97 x98 x99 x100 x101 x102 x103 x104 x105 x106 x107) (fun (y1 : Rows) (y2 : Int) => u55_0_8 (K (.exit 2)) x94 x95 x96 x97 x98 x99 x100 x101 x102 x103 x104 y1 x106 y2)) (ih x94 x95 x96 x97 x98 x99 x100 x101 x102 x103 x104 x105 x106 x107)).trans (r55_0_3 α K (roundsK (runM Try.prog E55_0 sh55 ca55_0_37) (runM Try.prog E55_0 sh55 c55_0_37) [51, 52] td55_37 K (ys.map xII.ex)) y108 x94 x95 x96 x97 x98 x99 x100 x101 x102 x103 x104 x105 x106 x107).symm
theorem m55_0_3 : ∀ (α : Type) (K : Exit → St → Option α) (ys : List (Int × Int)), F55_0_3 V55_0_3 α K ys = p55_0_7.unc fun σ => roundsK (runM Try.prog E55_0 sh55 ca55_0_37) (runM Try.prog E55_0 sh55 c55_0_37) [51, 52] td55_37 K (ys.map xII.ex) σ := fun α K ys => funext fun x94 => funext fun x95 => funext fun x96 => funext fun x97 => funext fun x98 => funext fun x99 => funext fun x100 => funext fun x101 => funext fun x102 => funext fun x103 => funext fun x104 => funext fun x105 => funext fun x106 => funext fun x107 => t55_0_3 α K ys x94 x95 x96 x97 x98 x99 x100 x101 x102 x103 x104 x105 x106 x107

noncomputable def c55_0_27g (vV55_0_1 : TV55_0_1) (vV55_0_3 : TV55_0_3) : MCode := (.seq (.seq (.region r55_30 [] (some ⟨[4, 5, 6, 7, 9, 10, 11, 12, 46], true, [⟨false, 4, 0, 20004, 1⟩, ⟨false, 5, 0, 20005, 1⟩], []⟩)) (.cond (.tmp 46) .skip (.exit 0))) (.seq (.block 1 (.seq (.region r55_35 [] (some ⟨[4, 5, 6, 7, 9, 10, 11, 12, 50], true, [⟨false, 4, 0, 20004, 1⟩, ⟨false, 5, 0, 20005, 1⟩, ⟨false, 9, 0, 20009, 1⟩, ⟨true, 2, 0, 30200, 1⟩, ⟨true, 2, 1, 30201, 4⟩, ⟨true, 3, 0, 30300, 1⟩, ⟨true, 3, 1, 30301, 1⟩, ⟨true, 7, 0, 30700, 1⟩, ⟨true, 7, 1, 30701, 4⟩, ⟨true, 10, 0, 31000, 1⟩, ⟨true, 11, 0, 31100, 1⟩, ⟨false, 0, 0, 30700, 999999⟩, ⟨false, 0, 0, 30701, 999999⟩], []⟩)) (.block 2 (.rangeF (.tmp 50) [51, 52] td55_37 [⟨xII, p55_0_3, F55_0_1 vV55_0_1⟩, ⟨xII, p55_0_7, F55_0_3 vV55_0_3⟩] ca55_0_37 c55_0_37)))) (.seq (.region r55_48 [] (some ⟨[4, 5, 6, 7, 9, 10, 11, 67], true, [⟨false, 4, 0, 20004, 1⟩, ⟨false, 5, 0, 20005, 1⟩], []⟩)) (.region r55_49 [] (some ⟨[4, 5, 6, 7, 9, 10, 11, 12], true, [⟨false, 4, 0, 20004, 1⟩, ⟨false, 5, 0, 20005, 1⟩], []⟩)))))
noncomputable def c55_0_27 : MCode := c55_0_27g V55_0_1 V55_0_3
theorem g55_0_27 : c55_0_27.Good Try.prog E55_0 sh55 := ⟨⟨trivial, ⟨trivial, trivial⟩⟩, ⟨⟨trivial, ⟨⟨ga55_0_37, g55_0_37⟩, m55_0_1, m55_0_3, trivial⟩⟩, ⟨trivial, trivial⟩⟩⟩
--CODE 27 0
def S55_0_2g (vV55_0_1 : TV55_0_1) (vf111_0 : Tf111_0) (vq131 : Tq131) (α : Type) (x31 : Int) (x32 : Rows) (x33 : Rows) (x36 : Rows) (x35 : Rows) (x37 : Int) (kn : Rows → Int → Option α) (k1 : Bool → Rows → Int → Option α) : Option α :=
 cK (x37 != x31)
 (vf111_0 α x32 x33 x37
 (fun (x39 : Rows) (x40 : Rows) (x41 : Int) => qK (vq131 x39 x40 x41) xII fun y66 => vV55_0_1 α x35 x36 x37
 (kn x35 x37)
 (fun (x64 : Rows) (x65 : Int) => kn x64 x65) y66 ))
 (k1 (x37 != x31) x35 x37)
noncomputable def S55_0_2 (α : Type) (x31 : Int) (x32 : Rows) (x33 : Rows) (x36 : Rows) (x35 : Rows) (x37 : Int) (kn : Rows → Int → Option α) (k1 : Bool → Rows → Int → Option α) : Option α := S55_0_2g V55_0_1 f111_0 q131 α x31 x32 x33 x36 x35 x37 kn k1
noncomputable def R55_0_2 (α : Type) (x31 : Int) (x32 : Rows) (x33 : Rows) (x36 : Rows) (k1 : Bool → Rows → Int → Option α) : Nat → Rows → Int → Option α
 | 0, _, _ => none
 | n + 1, x35, x37 => S55_0_2 α x31 x32 x33 x36 x35 x37 (R55_0_2 α x31 x32 x33 x36 k1 n) k1
noncomputable def L55_0_2 (α : Type) (x31 : Int) (x32 : Rows) (x33 : Rows) (x36 : Rows) (k1 : Bool → Rows → Int → Option α) (x35 : Rows) (x37 : Int) : Option α := R55_0_2 α x31 x32 x33 x36 k1 fuel x35 x37
abbrev TL55_0_2 : Type 1 := (α : Type) → Int → Rows → Rows → Rows → (Bool → Rows → Int → Option α) → Rows → Int → Option α
def F55_0_2 (v : TL55_0_2) (α : Type) (K : Exit → St → Option α) : Int → Rows → Rows → Int → Int → Rows → Rows → Rows → Rows → Rows → Int → Option α := fun x27 x28 x29 x30 x31 x32 x33 x34 x35 x36 x37 => v α x31 x32 x33 x36 (fun (y1 : Bool) (y2 : Rows) (y3 : Int) => u55_0_6 (K (.exit 0)) x27 y1 x28 x29 x30 x31 x32 x33 x34 y2 x36 y3) x35 x37
theorem r55_0_2g (vf109_0 : Tf109_0) (vf110_0 : Tf110_0) (vf111_0 : Tf111_0) (vq131 : Tq131) (vV55_0_1 : TV55_0_1) (vV55_0_3 : TV55_0_3) (α : Type) (K : Exit → St → Option α) (Kn : St → Option α) (x27 : Int) (x28 : Rows) (x29 : Rows) (x30 : Int) (x31 : Int) (x32 : Rows) (x33 : Rows) (x34 : Rows) (x35 : Rows) (x36 : Rows) (x37 : Int) : u55_0_5 (fun σ => runM Try.prog (E55_0g vf109_0 vf110_0 vf111_0 vq131) sh55 (c55_0_27g vV55_0_1 vV55_0_3) (thenK (fun σ => tidyK td55_27 σ Kn) K) σ) x27 x28 x29 x30 x31 x32 x33 x34 x35 x36 x37 = S55_0_2g vV55_0_1 vf111_0 vq131 α x31 x32 x33 x36 x35 x37 (fun x35 x37 => u55_0_5 Kn x27 x28 x29 x30 x31 x32 x33 x34 x35 x36 x37) (fun (y1 : Bool) (y2 : Rows) (y3 : Int) => u55_0_6 (K (.exit 0)) x27 y1 x28 x29 x30 x31 x32 x33 x34 y2 x36 y3) := by kernel_rfl
theorem r55_0_2 (α : Type) (K : Exit → St → Option α) (Kn : St → Option α) (x27 : Int) (x28 : Rows) (x29 : Rows) (x30 : Int) (x31 : Int) (x32 : Rows) (x33 : Rows) (x34 : Rows) (x35 : Rows) (x36 : Rows) (x37 : Int) : u55_0_5 (fun σ => runM Try.prog E55_0 sh55 c55_0_27 (thenK (fun σ => tidyK td55_27 σ Kn) K) σ) x27 x28 x29 x30 x31 x32 x33 x34 x35 x36 x37 = S55_0_2 α x31 x32 x33 x36 x35 x37 (fun x35 x37 => u55_0_5 Kn x27 x28 x29 x30 x31 x32 x33 x34 x35 x36 x37) (fun (y1 : Bool) (y2 : Rows) (y3 : Int) => u55_0_6 (K (.exit 0)) x27 y1 x28 x29 x30 x31 x32 x33 x34 y2 x36 y3) := r55_0_2g f109_0 f110_0 f111_0 q131 V55_0_1 V55_0_3 α K Kn x27 x28 x29 x30 x31 x32 x33 x34 x35 x36 x37
theorem t55_0_2 (α : Type) (K : Exit → St → Option α) : ∀ (n : Nat) (x27 : Int) (x28 : Rows) (x29 : Rows) (x30 : Int) (x31 : Int) (x32 : Rows) (x33 : Rows) (x34 : Rows) (x35 : Rows) (x36 : Rows) (x37 : Int), R55_0_2 α x31 x32 x33 x36 (fun (y1 : Bool) (y2 : Rows) (y3 : Int) => u55_0_6 (K (.exit 0)) x27 y1 x28 x29 x30 x31 x32 x33 x34 y2 x36 y3) n x35 x37 = u55_0_5 (loopT (runM Try.prog E55_0 sh55 c55_0_27) td55_27 K n) x27 x28 x29 x30 x31 x32 x33 x34 x35 x36 x37 := by
 intro n
 induction n with
 | zero => intros; rfl
 | succ n ih => intro x27 x28 x29 x30 x31 x32 x33 x34 x35 x36 x37; exact (congrArg (fun kn => S55_0_2 α x31 x32 x33 x36 x35 x37 kn (fun (y1 : Bool) (y2 : Rows) (y3 : Int) => u55_0_6 (K (.exit 0)) x27 y1 x28 x29 x30 x31 x32 x33 x34 y2 x36 y3)) (funext fun x35 => funext fun x37 => ih x27 x28 x29 x30 x31 x32 x33 x34 x35 x36 x37)).trans (r55_0_2 α K (loopT (runM Try.prog E55_0 sh55 c55_0_27) td55_27 K n) x27 x28 x29 x30 x31 x32 x33 x34 x35 x36 x37).symm
theorem m55_0_2 : ∀ (α : Type) (K : Exit → St → Option α), F55_0_2 L55_0_2 α K = p55_0_5.unc fun σ => loopT (runM Try.prog E55_0 sh55 c55_0_27) td55_27 K fuel σ := fun α K => funext fun x27 => funext fun x28 => funext fun x29 => funext fun x30 => funext fun x31 => funext fun x32 => funext fun x33 => funext fun x34 => funext fun x35 => funext fun x36 => funext fun x37 => t55_0_2 α K fuel x27 x28 x29 x30 x31 x32 x33 x34 x35 x36 x37
--CODE 27 0
def S55_0_4g (vV55_0_3 : TV55_0_3) (vf111_0 : Tf111_0) (vq131 : Tq131) (α : Type) (x77 : Rows) (x78 : Rows) (x80 : Int) (x83 : Rows) (x82 : Rows) (x84 : Int) (kn : Rows → Int → Option α) (k1 : Bool → Rows → Int → Option α) : Option α :=
 cK (x84 != x80)
 (vf111_0 α x77 x78 x84
 (fun (x86 : Rows) (x87 : Rows) (x88 : Int) => qK (vq131 x86 x87 x88) xII fun y113 => vV55_0_3 α x82 x83 x84
 (kn x82 x84)
 (fun (x111 : Rows) (x112 : Int) => kn x111 x112) y113 ))
 (k1 (x84 != x80) x82 x84)
noncomputable def S55_0_4 (α : Type) (x77 : Rows) (x78 : Rows) (x80 : Int) (x83 : Rows) (x82 : Rows) (x84 : Int) (kn : Rows → Int → Option α) (k1 : Bool → Rows → Int → Option α) : Option α := S55_0_4g V55_0_3 f111_0 q131 α x77 x78 x80 x83 x82 x84 kn k1
noncomputable def R55_0_4 (α : Type) (x77 : Rows) (x78 : Rows) (x80 : Int) (x83 : Rows) (k1 : Bool → Rows → Int → Option α) : Nat → Rows → Int → Option α
 | 0, _, _ => none
 | n + 1, x82, x84 => S55_0_4 α x77 x78 x80 x83 x82 x84 (R55_0_4 α x77 x78 x80 x83 k1 n) k1
noncomputable def L55_0_4 (α : Type) (x77 : Rows) (x78 : Rows) (x80 : Int) (x83 : Rows) (k1 : Bool → Rows → Int → Option α) (x82 : Rows) (x84 : Int) : Option α := R55_0_4 α x77 x78 x80 x83 k1 fuel x82 x84
abbrev TL55_0_4 : Type 1 := (α : Type) → Rows → Rows → Int → Rows → (Bool → Rows → Int → Option α) → Rows → Int → Option α
def F55_0_4 (v : TL55_0_4) (α : Type) (K : Exit → St → Option α) : Int → Rows → Rows → Rows → Rows → Int → Int → Rows → Rows → Rows → Int → Option α := fun x74 x75 x76 x77 x78 x79 x80 x81 x82 x83 x84 => v α x77 x78 x80 x83 (fun (y1 : Bool) (y2 : Rows) (y3 : Int) => u55_0_10 (K (.exit 0)) x74 y1 x75 x76 x77 x78 x79 x80 x81 y2 x83 y3) x82 x84
theorem r55_0_4g (vf109_0 : Tf109_0) (vf110_0 : Tf110_0) (vf111_0 : Tf111_0) (vq131 : Tq131) (vV55_0_1 : TV55_0_1) (vV55_0_3 : TV55_0_3) (α : Type) (K : Exit → St → Option α) (Kn : St → Option α) (x74 : Int) (x75 : Rows) (x76 : Rows) (x77 : Rows) (x78 : Rows) (x79 : Int) (x80 : Int) (x81 : Rows) (x82 : Rows) (x83 : Rows) (x84 : Int) : u55_0_9 (fun σ => runM Try.prog (E55_0g vf109_0 vf110_0 vf111_0 vq131) sh55 (c55_0_27g vV55_0_1 vV55_0_3) (thenK (fun σ => tidyK td55_27 σ Kn) K) σ) x74 x75 x76 x77 x78 x79 x80 x81 x82 x83 x84 = S55_0_4g vV55_0_3 vf111_0 vq131 α x77 x78 x80 x83 x82 x84 (fun x82 x84 => u55_0_9 Kn x74 x75 x76 x77 x78 x79 x80 x81 x82 x83 x84) (fun (y1 : Bool) (y2 : Rows) (y3 : Int) => u55_0_10 (K (.exit 0)) x74 y1 x75 x76 x77 x78 x79 x80 x81 y2 x83 y3) := by kernel_rfl
theorem r55_0_4 (α : Type) (K : Exit → St → Option α) (Kn : St → Option α) (x74 : Int) (x75 : Rows) (x76 : Rows) (x77 : Rows) (x78 : Rows) (x79 : Int) (x80 : Int) (x81 : Rows) (x82 : Rows) (x83 : Rows) (x84 : Int) : u55_0_9 (fun σ => runM Try.prog E55_0 sh55 c55_0_27 (thenK (fun σ => tidyK td55_27 σ Kn) K) σ) x74 x75 x76 x77 x78 x79 x80 x81 x82 x83 x84 = S55_0_4 α x77 x78 x80 x83 x82 x84 (fun x82 x84 => u55_0_9 Kn x74 x75 x76 x77 x78 x79 x80 x81 x82 x83 x84) (fun (y1 : Bool) (y2 : Rows) (y3 : Int) => u55_0_10 (K (.exit 0)) x74 y1 x75 x76 x77 x78 x79 x80 x81 y2 x83 y3) := r55_0_4g f109_0 f110_0 f111_0 q131 V55_0_1 V55_0_3 α K Kn x74 x75 x76 x77 x78 x79 x80 x81 x82 x83 x84
theorem t55_0_4 (α : Type) (K : Exit → St → Option α) : ∀ (n : Nat) (x74 : Int) (x75 : Rows) (x76 : Rows) (x77 : Rows) (x78 : Rows) (x79 : Int) (x80 : Int) (x81 : Rows) (x82 : Rows) (x83 : Rows) (x84 : Int), R55_0_4 α x77 x78 x80 x83 (fun (y1 : Bool) (y2 : Rows) (y3 : Int) => u55_0_10 (K (.exit 0)) x74 y1 x75 x76 x77 x78 x79 x80 x81 y2 x83 y3) n x82 x84 = u55_0_9 (loopT (runM Try.prog E55_0 sh55 c55_0_27) td55_27 K n) x74 x75 x76 x77 x78 x79 x80 x81 x82 x83 x84 := by
 intro n
 induction n with
 | zero => intros; rfl
 | succ n ih => intro x74 x75 x76 x77 x78 x79 x80 x81 x82 x83 x84; exact (congrArg (fun kn => S55_0_4 α x77 x78 x80 x83 x82 x84 kn (fun (y1 : Bool) (y2 : Rows) (y3 : Int) => u55_0_10 (K (.exit 0)) x74 y1 x75 x76 x77 x78 x79 x80 x81 y2 x83 y3)) (funext fun x82 => funext fun x84 => ih x74 x75 x76 x77 x78 x79 x80 x81 x82 x83 x84)).trans (r55_0_4 α K (loopT (runM Try.prog E55_0 sh55 c55_0_27) td55_27 K n) x74 x75 x76 x77 x78 x79 x80 x81 x82 x83 x84).symm
theorem m55_0_4 : ∀ (α : Type) (K : Exit → St → Option α), F55_0_4 L55_0_4 α K = p55_0_9.unc fun σ => loopT (runM Try.prog E55_0 sh55 c55_0_27) td55_27 K fuel σ := fun α K => funext fun x74 => funext fun x75 => funext fun x76 => funext fun x77 => funext fun x78 => funext fun x79 => funext fun x80 => funext fun x81 => funext fun x82 => funext fun x83 => funext fun x84 => t55_0_4 α K fuel x74 x75 x76 x77 x78 x79 x80 x81 x82 x83 x84

noncomputable def c55_0_3g  : MCode := (.region r55_4 [] (some ⟨[4, 5, 6, 7, 8], true, [⟨false, 4, 0, 20004, 1⟩, ⟨false, 5, 0, 20005, 1⟩], []⟩))
noncomputable def c55_0_3 : MCode := c55_0_3g 
theorem g55_0_3 : c55_0_3.Good Try.prog E55_0 sh55 := trivial
--CODE 3 0
abbrev TJ55_0_0 : Type 1 := (α : Type) → Rows → Rows → Rows → Rows → (Int → Option α) → (Rows → Rows → Int → Int → Option α) → Option α
def J55_0_0g (vf109_0 : Tf109_0) (α : Type) (x6 : Rows) (x7 : Rows) (x8 : Rows) (x9 : Rows) (k1 : Int → Option α) (k2 : Rows → Rows → Int → Int → Option α) : Option α :=
 vf109_0 α x6 x7 x8 x9
 (fun (x13 : Int) => k1 x13)
 (fun (x14 : Rows) (x15 : Rows) (x16 : Int) (x17 : Int) => k2 x14 x15 x16 x17)
noncomputable def J55_0_0 (α : Type) (x6 : Rows) (x7 : Rows) (x8 : Rows) (x9 : Rows) (k1 : Int → Option α) (k2 : Rows → Rows → Int → Int → Option α) : Option α := J55_0_0g f109_0 α x6 x7 x8 x9 k1 k2
def F55_0_0 (v : TJ55_0_0) (α : Type) (K : Exit → St → Option α) : Int → Rows → Rows → Rows → Rows → Rows → Rows → Option α := fun x5 x6 x7 x8 x9 x10 x11 => v α x6 x7 x8 x9 (fun (y1 : Int) => u55_0_1 (K .normal) x5 y1 x10 x11 0 0 ([] : Rows) ([] : Rows)) (fun (y1 : Rows) (y2 : Rows) (y3 : Int) (y4 : Int) => u55_0_2 (K .normal) x5 0 x10 x11 y1 y2 y3 y4) 
theorem m55_0_0g (vf109_0 : Tf109_0) (vf110_0 : Tf110_0) (vf111_0 : Tf111_0) (vq131 : Tq131)  (α : Type) (K : Exit → St → Option α) : F55_0_0 (J55_0_0g vf109_0) α K = p55_0_0.unc fun σ => runM Try.prog (E55_0g vf109_0 vf110_0 vf111_0 vq131) sh55 (c55_0_3g ) K σ := by kernel_rfl
theorem m55_0_0 : ∀ (α : Type) (K : Exit → St → Option α), F55_0_0 J55_0_0 α K = p55_0_0.unc fun σ => runM Try.prog E55_0 sh55 c55_0_3 K σ := m55_0_0g f109_0 f110_0 f111_0 q131

/-- etalon/grow.Sequence -/
abbrev Tf55_0 : Type 1 := (α : Type) → Rows → Rows → Rows → Rows → (Rows → Rows → Int → Option α) → Option α
def f55_0g (vJ55_0_0 : TJ55_0_0) (vL55_0_2 : TL55_0_2) (vL55_0_4 : TL55_0_4) (vf110_0 : Tf110_0) (α : Type) (x1 : Rows) (x2 : Rows) (x3 : Rows) (x4 : Rows) (k1 : Rows → Rows → Int → Option α) : Option α :=
 vJ55_0_0 α x1 x2 x3 x4
 (fun (x18 : Int) => cK (x18 != 0)
 (k1 ([] : Rows) ([] : Rows) x18)
 (vf110_0 α ([] : Rows) ([] : Rows) 0
 (fun (x24 : Rows) => flatK [x24]
 (ixK x24 0 1
 (ldK x24 0 0 [.int .i64]
 (fun (x25 : Int) => cK (x25 == 1000)
 (k1 ([] : Rows) x24 17)
 (vf110_0 α ([] : Rows) ([] : Rows) 0
 (fun (x26 : Rows) => flatK [x26]
 (vL55_0_2 α 0 ([] : Rows) ([] : Rows) x26
 (fun (x67 : Bool) (x68 : Rows) (x69 : Int) => k1 x68 x24 0) ([] : Rows) 0)))))))))
 (fun (x19 : Rows) (x20 : Rows) (x21 : Int) (x22 : Int) => vf110_0 α x19 x20 x21
 (fun (x71 : Rows) => ixK x71 x22 1
 (ldK x71 (Int.toNat x22) 0 [.int .i64]
 (fun (x72 : Int) => cK (x72 == 1000)
 (k1 ([] : Rows) x71 17)
 (vf110_0 α x19 x20 x22
 (fun (x73 : Rows) => vL55_0_4 α x19 x20 x22 x73
 (fun (x114 : Bool) (x115 : Rows) (x116 : Int) => k1 x115 x71 0) ([] : Rows) x21))))))
noncomputable def f55_0 (α : Type) (x1 : Rows) (x2 : Rows) (x3 : Rows) (x4 : Rows) (k1 : Rows → Rows → Int → Option α) : Option α := f55_0g J55_0_0 L55_0_2 L55_0_4 f110_0 α x1 x2 x3 x4 k1
def pa55_0 : PT (List DV) := pA [pV true [dL, dL], pV true [dL, dL]]
def Fn55_0 (v : Tf55_0) (α : Type) (k : List RV → Option α) : Rows → Rows → Rows → Rows → Option α := fun x1 x2 x3 x4 => v α x1 x2 x3 x4 (fun (y1 : Rows) (y2 : Rows) (y3 : Int) => ur55_0_0 k y1 y2 y3)
noncomputable def cm55_0g (vJ55_0_0 : TJ55_0_0) (vL55_0_2 : TL55_0_2) (vL55_0_4 : TL55_0_4) : MCode := (.seq (.region r55_2 [] (some ⟨[2, 3, 4, 5, 6], true, [⟨false, 4, 0, 20004, 1⟩, ⟨false, 5, 0, 20005, 1⟩], []⟩)) (.seq (.mark [⟨p55_0_0, F55_0_0 vJ55_0_0⟩] c55_0_3) (.seq (.seq (.region r55_7 [] (some ⟨[4, 5, 6, 7, 8, 22], true, [⟨false, 4, 0, 20004, 1⟩, ⟨false, 5, 0, 20005, 1⟩], []⟩)) (.cond (.tmp 22) (.seq (.region r55_10 [] (some ⟨[4, 5, 6], true, [⟨false, 4, 0, 20004, 1⟩, ⟨false, 5, 0, 20005, 1⟩], []⟩)) .ret) .skip)) (.seq (.region r55_12 [] (some ⟨[4, 5, 6, 7, 9], true, [⟨false, 4, 0, 20004, 1⟩, ⟨false, 5, 0, 20005, 1⟩], []⟩)) (.seq (.seq (.region r55_15 [] (some ⟨[4, 5, 6, 7, 9, 34], true, [⟨false, 4, 0, 20004, 1⟩, ⟨false, 5, 0, 20005, 1⟩], []⟩)) (.cond (.tmp 34) (.seq (.region r55_18 [] (some ⟨[4, 5, 6], true, [⟨false, 4, 0, 20004, 1⟩, ⟨false, 5, 0, 20005, 1⟩], []⟩)) .ret) .skip)) (.seq (.region r55_20 [] (some ⟨[4, 5, 6, 7, 9, 10], true, [⟨false, 4, 0, 20004, 1⟩, ⟨false, 5, 0, 20005, 1⟩], []⟩)) (.seq (.region r55_22 [] (some ⟨[4, 5, 6, 7, 9, 10, 11], true, [⟨false, 4, 0, 20004, 1⟩, ⟨false, 5, 0, 20005, 1⟩], []⟩)) (.seq (.seq (.region r55_25 [] (some ⟨[4, 5, 6, 7, 9, 10, 11, 12], true, [⟨false, 4, 0, 20004, 1⟩, ⟨false, 5, 0, 20005, 1⟩], []⟩)) (.block 0 (.loop td55_27 [⟨p55_0_5, F55_0_2 vL55_0_2⟩, ⟨p55_0_9, F55_0_4 vL55_0_4⟩] c55_0_27))) (.seq (.region r55_51 [] (some ⟨[4, 5, 6], true, [⟨false, 4, 0, 20004, 1⟩, ⟨false, 5, 0, 20005, 1⟩], []⟩)) .ret)))))))))
noncomputable def cm55_0 : MCode := cm55_0g J55_0_0 L55_0_2 L55_0_4
theorem gm55_0 : cm55_0.Good Try.prog E55_0 sh55 := ⟨trivial, ⟨⟨g55_0_3, m55_0_0, trivial⟩, ⟨⟨trivial, ⟨⟨trivial, trivial⟩, trivial⟩⟩, ⟨trivial, ⟨⟨trivial, ⟨⟨trivial, trivial⟩, trivial⟩⟩, ⟨trivial, ⟨trivial, ⟨⟨trivial, ⟨g55_0_27, m55_0_2, m55_0_4, trivial⟩⟩, ⟨trivial, trivial⟩⟩⟩⟩⟩⟩⟩⟩⟩
theorem fm55_0g (vf109_0 : Tf109_0) (vf110_0 : Tf110_0) (vf111_0 : Tf111_0) (vq131 : Tq131) (vJ55_0_0 : TJ55_0_0) (vL55_0_2 : TL55_0_2) (vL55_0_4 : TL55_0_4) (α : Type) (k : List RV → Option α) : Fn55_0 (f55_0g vJ55_0_0 vL55_0_2 vL55_0_4 vf110_0) α k = pa55_0.unc fun ds => fnM Try.prog (E55_0g vf109_0 vf110_0 vf111_0 vq131) sh55 (cm55_0g vJ55_0_0 vL55_0_2 vL55_0_4) rs55 k ds := by kernel_rfl
theorem fm55_0 : ∀ (α : Type) (k : List RV → Option α), Fn55_0 f55_0 α k = pa55_0.unc fun ds => fnM Try.prog E55_0 sh55 cm55_0 rs55 k ds := fm55_0g f109_0 f110_0 f111_0 q131 J55_0_0 L55_0_2 L55_0_4

theorem is55 : FnIs Try.prog 55 nt55 tr55 tl55 cm55_0.erase rs55 := ⟨Try.f55, Try.func55, rfl, by kernel_rfl, by kernel_rfl, by kernel_rfl⟩
theorem io55_0 : InstOk Try.prog 55 nt55 ⟨pa55_0, Fn55_0 f55_0⟩ := inst_ok eo55_0 followsTry is55 ⟨⟨sh55, cm55_0, by kernel_rfl, gm55_0, fm55_0⟩⟩

/-! ### F10 etalon/etalonlaw08.GrowSequences -/
abbrev nt10 : Nat := 139
def sh10 : List (Nat × List Sh) := [(19, [.sl, .sl]), (24, [.sl]), (30, [.sl]), (35, [.sl, .sl]), (37, [.sl, .sl]), (43, [.sl, .sl]), (44, [.sl, .sl]), (60, [.sl, .sl]), (61, [.sl, .sl]), (66, [.sl, .sl]), (67, [.sl, .sl]), (73, [.sl, .sl]), (75, [.sl, .sl]), (107, [.sl, .sl]), (109, [.sl, .sl])]
def r10_2 : List AOper := [oO 2 (.box (.tmp 0)), oO 3 (.box (.tmp 1)), oO 4 (.mv (.const (.bool false)))]
def r10_5 : List AOper := [oO 17 (.call 14 []), oO 18 (.pure (oB (.unOp .not 4 (.tmp 17)) 4))]
def r10_8 : List AOper := [oO 4 (.mv (.const (.bool false)))]
def r10_11 : List AOper := [oO 19 (.load true 2 (.tmp 2)), oO 20 (.call 44 [(.tmp 19)]), oO 21 (.pure (oB (.unOp .not 4 (.tmp 20)) 4)), oM 22 21, ⟨(some 23), (.faddr 0 (.tmp 3)), (some (22, false))⟩, ⟨(some 24), (.load false 1 (.tmp 23)), (some (22, false))⟩, ⟨(some 25), (.len (.tmp 24)), (some (22, false))⟩, ⟨(some 26), (.bin .gtr 3 (.tmp 25) (.const (.int .i64 12))), (some (22, false))⟩, oO 27 (.pick (.tmp 22) (.const (.bool true)) (.tmp 26)), oM 28 27, ⟨(some 29), (.faddr 1 (.tmp 3)), (some (28, false))⟩, ⟨(some 30), (.load false 1 (.tmp 29)), (some (28, false))⟩, ⟨(some 31), (.len (.tmp 30)), (some (28, false))⟩, ⟨(some 32), (.bin .gtr 3 (.tmp 31) (.const (.int .i64 12))), (some (28, false))⟩, oO 33 (.pick (.tmp 28) (.const (.bool true)) (.tmp 32))]
def r10_14 : List AOper := [oO 4 (.mv (.const (.bool true)))]
def r10_16 : List AOper := [oO 35 (.load true 2 (.tmp 2)), oO 36 (.call 46 [(.tmp 35)]), oO 37 (.load true 2 (.tmp 3)), oO 38 (.call 56 [(.tmp 37)]), oO 39 (.call 55 [(.tmp 36), (.tmp 38)]), oM 34 39, oO 40 (.extract 0 (.tmp 34)), oO 41 (.extract 1 (.tmp 34)), oO 42 (.extract 2 (.tmp 34)), oM 5 40, oM 6 41, oM 7 42]
def r10_19 : List AOper := [oO 43 (.load true 2 (.tmp 2)), oO 44 (.load true 2 (.tmp 3)), oO 45 (.call 57 [(.tmp 43), (.tmp 44)]), oM 8 45]
def r10_21 : List AOper := [oM 46 8, oO 47 (.bin .neq 3 (.tmp 46) (.const (.int .i64 0)))]
def r10_24 : List AOper := [oM 48 7, oM 49 8, oO 50 (.bin .eql 3 (.tmp 48) (.tmp 49)), oM 51 50, ⟨(some 52), (.mv (.tmp 5)), (some (51, true))⟩, ⟨(some 53), (.len (.tmp 52)), (some (51, true))⟩, ⟨(some 54), (.mv (.tmp 6)), (some (51, true))⟩, ⟨(some 55), (.len (.tmp 54)), (some (51, true))⟩, ⟨(some 56), (.bin .add 3 (.tmp 53) (.tmp 55)), (some (51, true))⟩, ⟨(some 57), (.bin .eql 3 (.tmp 56) (.const (.int .i64 0))), (some (51, true))⟩, oO 58 (.pick (.tmp 51) (.tmp 57) (.const (.bool false))), oM 4 58]
def r10_26 : List AOper := [oO 60 (.load true 2 (.tmp 2)), oO 61 (.load true 2 (.tmp 3)), oO 62 (.call 58 [(.tmp 60), (.tmp 61)]), oM 59 62, oO 63 (.extract 0 (.tmp 59)), oO 64 (.extract 1 (.tmp 59)), oM 9 63, oM 10 64]
def r10_28 : List AOper := [oO 66 (.load true 2 (.tmp 2)), oO 67 (.load true 2 (.tmp 3)), oM 68 6, oO 69 (.call 59 [(.tmp 66), (.tmp 67), (.tmp 68)]), oM 65 69, oO 70 (.extract 0 (.tmp 65)), oO 71 (.extract 1 (.tmp 65)), oM 11 70, oM 12 71]
def r10_30 : List AOper := [oO 73 (.load true 2 (.tmp 2)), oO 74 (.call 46 [(.tmp 73)]), oO 75 (.load true 2 (.tmp 3)), oO 76 (.call 56 [(.tmp 75)]), oM 77 6, oO 78 (.call 61 [(.tmp 77)]), oO 79 (.call 60 [(.tmp 74), (.tmp 76), (.tmp 78)]), oM 72 79, oO 80 (.extract 0 (.tmp 72)), oO 81 (.extract 1 (.tmp 72)), oM 13 80, oM 14 81]
def r10_33 : List AOper := [oM 82 12, oO 83 (.bin .neq 3 (.tmp 82) (.const (.int .i64 0))), oM 84 83, ⟨(some 85), (.mv (.tmp 14)), (some (84, false))⟩, ⟨(some 86), (.bin .neq 32 (.tmp 85) (.const (.int .i64 0))), (some (84, false))⟩, oO 87 (.pick (.tmp 84) (.const (.bool true)) (.tmp 86)), oM 88 87, ⟨(some 89), (.mv (.tmp 13)), (some (88, false))⟩, ⟨(some 90), (.mv (.tmp 11)), (some (88, false))⟩, ⟨(some 91), (.bin .neq 3 (.tmp 89) (.tmp 90)), (some (88, false))⟩, oO 92 (.pick (.tmp 88) (.const (.bool true)) (.tmp 91))]
def r10_36 : List AOper := [oO 4 (.mv (.const (.bool false)))]
def r10_39 : List AOper := [oM 93 10, oO 94 (.pure (oB (.unOp .not 4 (.tmp 93)) 4))]
def r10_42 : List AOper := [oM 95 7, oO 96 (.bin .eql 32 (.tmp 95) (.const (.int .i64 17))), oM 97 96, ⟨(some 98), (.mv (.tmp 5)), (some (97, true))⟩, ⟨(some 99), (.len (.tmp 98)), (some (97, true))⟩, ⟨(some 100), (.bin .eql 3 (.tmp 99) (.const (.int .i64 0))), (some (97, true))⟩, oO 101 (.pick (.tmp 97) (.tmp 100) (.const (.bool false))), oM 102 101, ⟨(some 103), (.mv (.tmp 11)), (some (102, true))⟩, ⟨(some 104), (.bin .eql 3 (.tmp 103) (.const (.int .i64 1000))), (some (102, true))⟩, oO 105 (.pick (.tmp 102) (.tmp 104) (.const (.bool false))), oM 4 105]
def r10_44 : List AOper := [oO 107 (.load true 2 (.tmp 2)), oO 108 (.call 46 [(.tmp 107)]), oO 109 (.load true 2 (.tmp 3)), oO 110 (.call 56 [(.tmp 109)]), oM 111 5, oO 112 (.call 61 [(.tmp 111)]), oO 113 (.call 62 [(.tmp 108), (.tmp 110), (.tmp 112)]), oM 106 113, oO 114 (.extract 0 (.tmp 106)), oO 115 (.extract 1 (.tmp 106)), oM 15 114, oM 16 115]
def r10_46 : List AOper := [oM 116 7, oO 117 (.bin .eql 32 (.tmp 116) (.const (.int .i64 0))), oM 118 117, ⟨(some 119), (.mv (.tmp 5)), (some (118, true))⟩, ⟨(some 120), (.mv (.tmp 9)), (some (118, true))⟩, ⟨(some 121), (.call 63 [(.tmp 119), (.tmp 120)]), (some (118, true))⟩, oO 122 (.pick (.tmp 118) (.tmp 121) (.const (.bool false))), oM 123 122, ⟨(some 124), (.mv (.tmp 11)), (some (123, true))⟩, ⟨(some 125), (.mv (.tmp 5)), (some (123, true))⟩, ⟨(some 126), (.len (.tmp 125)), (some (123, true))⟩, ⟨(some 127), (.bin .eql 3 (.tmp 124) (.tmp 126)), (some (123, true))⟩, oO 128 (.pick (.tmp 123) (.tmp 127) (.const (.bool false))), oM 129 128, ⟨(some 130), (.mv (.tmp 16)), (some (129, true))⟩, ⟨(some 131), (.bin .eql 32 (.tmp 130) (.const (.int .i64 0))), (some (129, true))⟩, oO 132 (.pick (.tmp 129) (.tmp 131) (.const (.bool false))), oM 133 132, ⟨(some 134), (.mv (.tmp 15)), (some (133, true))⟩, ⟨(some 135), (.mv (.tmp 5)), (some (133, true))⟩, ⟨(some 136), (.len (.tmp 135)), (some (133, true))⟩, ⟨(some 137), (.bin .eql 3 (.tmp 134) (.tmp 136)), (some (133, true))⟩, oO 138 (.pick (.tmp 133) (.tmp 137) (.const (.bool false))), oM 4 138]
def tr10 : List (Nat × Tidy) := [(0, ⟨[2, 3], true, [], []⟩), (1, ⟨[2, 3, 18], true, [], []⟩), (2, ⟨[4], true, [], []⟩), (3, ⟨[2, 3, 33], true, [], []⟩), (4, ⟨[4], true, [], []⟩), (5, ⟨[2, 3, 5, 6, 7], true, [], []⟩), (6, ⟨[2, 3, 5, 6, 7, 8], true, [], []⟩), (7, ⟨[2, 3, 5, 6, 7, 8, 47], true, [], []⟩), (8, ⟨[4], true, [], []⟩), (9, ⟨[2, 3, 5, 6, 7, 9, 10], true, [], []⟩), (10, ⟨[2, 3, 5, 6, 7, 9, 10, 11, 12], true, [], []⟩), (11, ⟨[2, 3, 5, 7, 9, 10, 11, 12, 13, 14], true, [], []⟩), (12, ⟨[2, 3, 5, 7, 9, 10, 11, 92], true, [], []⟩), (13, ⟨[4], true, [], []⟩), (14, ⟨[2, 3, 5, 7, 9, 11, 94], true, [], []⟩), (15, ⟨[4], true, [], []⟩), (16, ⟨[5, 7, 9, 11, 15, 16], true, [], []⟩), (17, ⟨[4], true, [], []⟩)]
def tl10 : List (Nat × Tidy) := []
def rs10 : List AResV := [.tmp 4]
def pr10_0_0 : PT (List RV) := pRs [pR false [rD dB]]
def ur10_0_0 {β : Type} (g : List RV → β) : Bool → β := pr10_0_0.unc g

def E10_0g (vf14_0 : Tf14_0) (vf44_0 : Tf44_0) (vf46_0 : Tf46_0) (vf56_0 : Tf56_0) (vf55_0 : Tf55_0) (vf57_0 : Tf57_0) (vf58_0 : Tf58_0) (vf59_0 : Tf59_0) (vf61_0 : Tf61_0) (vf60_0 : Tf60_0) (vf62_0 : Tf62_0) (vf63_0 : Tf63_0) : EnvK := EnvK.of [⟨14, nt14, [⟨pa14_0, Fn14_0 vf14_0⟩]⟩, ⟨44, nt44, [⟨pa44_0, Fn44_0 vf44_0⟩]⟩, ⟨46, nt46, [⟨pa46_0, Fn46_0 vf46_0⟩]⟩, ⟨56, nt56, [⟨pa56_0, Fn56_0 vf56_0⟩]⟩, ⟨55, nt55, [⟨pa55_0, Fn55_0 vf55_0⟩]⟩, ⟨57, nt57, [⟨pa57_0, Fn57_0 vf57_0⟩]⟩, ⟨58, nt58, [⟨pa58_0, Fn58_0 vf58_0⟩]⟩, ⟨59, nt59, [⟨pa59_0, Fn59_0 vf59_0⟩]⟩, ⟨61, nt61, [⟨pa61_0, Fn61_0 vf61_0⟩]⟩, ⟨60, nt60, [⟨pa60_0, Fn60_0 vf60_0⟩]⟩, ⟨62, nt62, [⟨pa62_0, Fn62_0 vf62_0⟩]⟩, ⟨63, nt63, [⟨pa63_0, Fn63_0 vf63_0⟩]⟩] noSeq
noncomputable def E10_0 : EnvK := E10_0g f14_0 f44_0 f46_0 f56_0 f55_0 f57_0 f58_0 f59_0 f61_0 f60_0 f62_0 f63_0
theorem eo10_0 : E10_0.Ok Try.prog := EnvK.of_ok noSeq_ok ⟨⟨io14_0, trivial⟩, ⟨io44_0, trivial⟩, ⟨io46_0, trivial⟩, ⟨io56_0, trivial⟩, ⟨io55_0, trivial⟩, ⟨io57_0, trivial⟩, ⟨io58_0, trivial⟩, ⟨io59_0, trivial⟩, ⟨io61_0, trivial⟩, ⟨io60_0, trivial⟩, ⟨io62_0, trivial⟩, ⟨io63_0, trivial⟩, trivial⟩

/-- etalon/etalonlaw08.GrowSequences -/
abbrev Tf10_0 : Type 1 := (α : Type) → Rows → Rows → Rows → Rows → (Bool → Option α) → Option α
def f10_0g (vf14_0 : Tf14_0) (vf44_0 : Tf44_0) (vf46_0 : Tf46_0) (vf55_0 : Tf55_0) (vf56_0 : Tf56_0) (vf57_0 : Tf57_0) (vf58_0 : Tf58_0) (vf59_0 : Tf59_0) (vf60_0 : Tf60_0) (vf61_0 : Tf61_0) (vf62_0 : Tf62_0) (vf63_0 : Tf63_0) (α : Type) (x1 : Rows) (x2 : Rows) (x3 : Rows) (x4 : Rows) (k1 : Bool → Option α) : Option α :=
 vf14_0 α 
 (vf44_0 α x1 x2
 (fun (x5 : Bool) => cK (!x5)
 (k1 true)
 (cK (decide (12 < ((List.length x3 : Nat) : Int)))
 (k1 true)
 (cK (decide (12 < ((List.length x4 : Nat) : Int)))
 (k1 true)
 (vf46_0 α x1 x2
 (fun (x6 : Rows) (x7 : Rows) => vf56_0 α x3 x4
 (fun (x8 : Rows) (x9 : Rows) => vf55_0 α x6 x7 x8 x9
 (fun (x10 : Rows) (x11 : Rows) (x12 : Int) => flatK [x10, x11]
 (vf57_0 α x1 x2 x3 x4
 (fun (x13 : Int) => cK (x13 != 0)
 (cK (x12 == x13)
 (k1 ((w64 (((List.length x10 : Nat) : Int) + ((List.length x11 : Nat) : Int))) == 0))
 (k1 false))
 (vf58_0 α x1 x2 x3 x4
 (fun (x14 : Rows) (x15 : Bool) => vf59_0 α x1 x2 x3 x4 x11
 (fun (x16 : Int) (x17 : Int) => vf46_0 α x1 x2
 (fun (x18 : Rows) (x19 : Rows) => vf56_0 α x3 x4
 (fun (x20 : Rows) (x21 : Rows) => vf61_0 α x11
 (fun (x22 : Rows) => flatK [x22]
 (vf60_0 α x18 x19 x20 x21 x22
 (fun (x23 : Int) (x24 : Int) => cK (x17 != 0)
 (k1 false)
 (cK (x24 != 0)
 (k1 false)
 (cK (x23 != x16)
 (k1 false)
 (cK (!x15)
 (cK (x12 == 17)
 (cK (((List.length x10 : Nat) : Int) == 0)
 (k1 (x16 == 1000))
 (k1 false))
 (k1 false))
 (vf46_0 α x1 x2
 (fun (x25 : Rows) (x26 : Rows) => vf56_0 α x3 x4
 (fun (x27 : Rows) (x28 : Rows) => vf61_0 α x10
 (fun (x29 : Rows) => flatK [x29]
 (vf62_0 α x25 x26 x27 x28 x29
 (fun (x30 : Int) (x31 : Int) => cK (x12 == 0)
 (vf63_0 α x10 x14
 (fun (x32 : Bool) => cK x32
 (cK (x16 == ((List.length x10 : Nat) : Int))
 (cK (x31 == 0)
 (k1 (x30 == ((List.length x10 : Nat) : Int)))
 (k1 false))
 (k1 false))
 (k1 false)))
 (k1 false))))))))))))))))))))))))))))
noncomputable def f10_0 (α : Type) (x1 : Rows) (x2 : Rows) (x3 : Rows) (x4 : Rows) (k1 : Bool → Option α) : Option α := f10_0g f14_0 f44_0 f46_0 f55_0 f56_0 f57_0 f58_0 f59_0 f60_0 f61_0 f62_0 f63_0 α x1 x2 x3 x4 k1
def pa10_0 : PT (List DV) := pA [pV true [dL, dL], pV true [dL, dL]]
def Fn10_0 (v : Tf10_0) (α : Type) (k : List RV → Option α) : Rows → Rows → Rows → Rows → Option α := fun x1 x2 x3 x4 => v α x1 x2 x3 x4 (fun (y1 : Bool) => ur10_0_0 k y1)
noncomputable def cm10_0g  : MCode := (.seq (.region r10_2 [] (some ⟨[2, 3], true, [], []⟩)) (.seq (.seq (.region r10_5 [] (some ⟨[2, 3, 18], true, [], []⟩)) (.cond (.tmp 18) (.seq (.region r10_8 [] (some ⟨[4], true, [], []⟩)) .ret) .skip)) (.seq (.seq (.region r10_11 [] (some ⟨[2, 3, 33], true, [], []⟩)) (.cond (.tmp 33) (.seq (.region r10_14 [] (some ⟨[4], true, [], []⟩)) .ret) .skip)) (.seq (.region r10_16 [(1, 2)] (some ⟨[2, 3, 5, 6, 7], true, [], []⟩)) (.seq (.seq (.region r10_19 [] (some ⟨[2, 3, 5, 6, 7, 8], true, [], []⟩)) (.seq (.region r10_21 [] (some ⟨[2, 3, 5, 6, 7, 8, 47], true, [], []⟩)) (.cond (.tmp 47) (.seq (.region r10_24 [] (some ⟨[4], true, [], []⟩)) .ret) .skip))) (.seq (.region r10_26 [] (some ⟨[2, 3, 5, 6, 7, 9, 10], true, [], []⟩)) (.seq (.region r10_28 [] (some ⟨[2, 3, 5, 6, 7, 9, 10, 11, 12], true, [], []⟩)) (.seq (.region r10_30 [(1, 2)] (some ⟨[2, 3, 5, 7, 9, 10, 11, 12, 13, 14], true, [], []⟩)) (.seq (.seq (.region r10_33 [] (some ⟨[2, 3, 5, 7, 9, 10, 11, 92], true, [], []⟩)) (.cond (.tmp 92) (.seq (.region r10_36 [] (some ⟨[4], true, [], []⟩)) .ret) .skip)) (.seq (.seq (.region r10_39 [] (some ⟨[2, 3, 5, 7, 9, 11, 94], true, [], []⟩)) (.cond (.tmp 94) (.seq (.region r10_42 [] (some ⟨[4], true, [], []⟩)) .ret) .skip)) (.seq (.region r10_44 [(1, 2)] (some ⟨[5, 7, 9, 11, 15, 16], true, [], []⟩)) (.seq (.region r10_46 [] (some ⟨[4], true, [], []⟩)) .ret))))))))))))
noncomputable def cm10_0 : MCode := cm10_0g 
theorem gm10_0 : cm10_0.Good Try.prog E10_0 sh10 := ⟨trivial, ⟨⟨trivial, ⟨⟨trivial, trivial⟩, trivial⟩⟩, ⟨⟨trivial, ⟨⟨trivial, trivial⟩, trivial⟩⟩, ⟨trivial, ⟨⟨trivial, ⟨trivial, ⟨⟨trivial, trivial⟩, trivial⟩⟩⟩, ⟨trivial, ⟨trivial, ⟨trivial, ⟨⟨trivial, ⟨⟨trivial, trivial⟩, trivial⟩⟩, ⟨⟨trivial, ⟨⟨trivial, trivial⟩, trivial⟩⟩, ⟨trivial, ⟨trivial, trivial⟩⟩⟩⟩⟩⟩⟩⟩⟩⟩⟩⟩
theorem fm10_0g (vf14_0 : Tf14_0) (vf44_0 : Tf44_0) (vf46_0 : Tf46_0) (vf56_0 : Tf56_0) (vf55_0 : Tf55_0) (vf57_0 : Tf57_0) (vf58_0 : Tf58_0) (vf59_0 : Tf59_0) (vf61_0 : Tf61_0) (vf60_0 : Tf60_0) (vf62_0 : Tf62_0) (vf63_0 : Tf63_0)  (α : Type) (k : List RV → Option α) : Fn10_0 (f10_0g vf14_0 vf44_0 vf46_0 vf55_0 vf56_0 vf57_0 vf58_0 vf59_0 vf60_0 vf61_0 vf62_0 vf63_0) α k = pa10_0.unc fun ds => fnM Try.prog (E10_0g vf14_0 vf44_0 vf46_0 vf56_0 vf55_0 vf57_0 vf58_0 vf59_0 vf61_0 vf60_0 vf62_0 vf63_0) sh10 (cm10_0g ) rs10 k ds := by kernel_rfl
theorem fm10_0 : ∀ (α : Type) (k : List RV → Option α), Fn10_0 f10_0 α k = pa10_0.unc fun ds => fnM Try.prog E10_0 sh10 cm10_0 rs10 k ds := fm10_0g f14_0 f44_0 f46_0 f56_0 f55_0 f57_0 f58_0 f59_0 f61_0 f60_0 f62_0 f63_0

theorem is10 : FnIs Try.prog 10 nt10 tr10 tl10 cm10_0.erase rs10 := ⟨Try.f10, Try.func10, rfl, by kernel_rfl, by kernel_rfl, by kernel_rfl⟩
theorem io10_0 : InstOk Try.prog 10 nt10 ⟨pa10_0, Fn10_0 f10_0⟩ := inst_ok eo10_0 followsTry is10 ⟨⟨sh10, cm10_0, by kernel_rfl, gm10_0, fm10_0⟩⟩


end Go.AM.K
