/- Printed by KGen. -/
import Derived.Test.YtcidonjhifjpaaaKTwa
namespace Go.AM.K
open Go.Proofs
set_option maxRecDepth 100000
set_option linter.unusedVariables false

/-! ### F45 etalon/grow.CheckChamber -/
abbrev nt45 : Nat := 66
def sh45 : List (Nat × List Sh) := [(9, [.sl]), (13, [.sl]), (18, [.str]), (19, [.str]), (27, [.sl]), (35, [.sl]), (39, [.sl]), (44, [.int .i64, .bool, .int .i64, .bool]), (45, [.int .i64, .bool, .int .i64, .bool]), (47, [.int .i64]), (49, [.sl]), (56, [.int .i64]), (58, [.sl])]
def r45_2 : List AOper := [⟨(some 1), (.box (.tmp 0)), none⟩, ⟨(some 2), (.mv (.const (.int .i64 0))), none⟩, ⟨(some 3), (.mv (.const (.int .i64 0))), none⟩]
def r45_5 : List AOper := [⟨(some 8), (.faddr 0 (.tmp 1)), none⟩, ⟨(some 9), (.load false 1 (.tmp 8)), none⟩, ⟨(some 10), (.len (.tmp 9)), none⟩, ⟨(some 11), (.bin .gtr 3 (.tmp 10) (.const (.int .i64 8))), none⟩]
def r45_8 : List AOper := [⟨(some 2), (.mv (.const (.int .i64 0))), none⟩, ⟨(some 3), (.mv (.const (.int .i64 8))), none⟩]
def r45_11 : List AOper := [⟨(some 12), (.faddr 0 (.tmp 1)), none⟩, ⟨(some 13), (.load false 1 (.tmp 12)), none⟩, ⟨(some 14), (.len (.tmp 13)), none⟩, ⟨(some 15), (.mv (.const (.int .i64 0))), none⟩]
def td45_13 : Option Tidy := (some ⟨[1, 13, 14, 15], true, [⟨false, 13, 0, 20013, 1⟩, ⟨true, 1, 0, 30100, 1⟩, ⟨true, 1, 1, 30101, 4⟩], []⟩)
def r45_15 : List AOper := [⟨(some 16), (.bin .lss 3 (.tmp 15) (.tmp 14)), none⟩]
def r45_21 : List AOper := [⟨(some 17), (.mv (.tmp 15)), none⟩, ⟨(some 18), (.iaddr 1 none (.tmp 13) (.tmp 15)), none⟩, ⟨(some 19), (.load false 1 (.tmp 18)), none⟩, ⟨(some 4), (.mv (.tmp 17)), none⟩, ⟨(some 5), (.mv (.tmp 19)), none⟩]
def r45_24 : List AOper := [⟨(some 21), (.mv (.tmp 5)), none⟩, ⟨(some 22), (.call 100 [(.tmp 21)]), none⟩, ⟨(some 23), (.pure (oB (.unOp .not 4 (.tmp 22)) 4)), none⟩, ⟨(some 20), (.mv (.tmp 23)), none⟩]
def r45_27 : List AOper := [⟨(some 24), (.mv (.tmp 4)), none⟩, ⟨(some 2), (.mv (.tmp 24)), none⟩, ⟨(some 3), (.mv (.const (.int .i64 3))), none⟩]
def r45_29 : List AOper := [⟨(some 26), (.faddr 0 (.tmp 1)), none⟩, ⟨(some 27), (.load false 1 (.tmp 26)), none⟩, ⟨(some 28), (.mv (.tmp 4)), none⟩, ⟨(some 29), (.slice 1 false (.tmp 27) none (some (.tmp 28))), none⟩, ⟨(some 30), (.mv (.tmp 5)), none⟩, ⟨(some 31), (.call 101 [(.tmp 29), (.tmp 30)]), none⟩, ⟨(some 25), (.mv (.tmp 31)), none⟩]
def r45_32 : List AOper := [⟨(some 32), (.mv (.tmp 4)), none⟩, ⟨(some 2), (.mv (.tmp 32)), none⟩, ⟨(some 3), (.mv (.const (.int .i64 5))), none⟩]
def r45_33 : List AOper := [⟨(some 33), (.bin .add 3 (.tmp 15) (.const (.int .i64 1))), none⟩, ⟨(some 15), (.mv (.tmp 33)), none⟩]
def r45_36 : List AOper := [⟨(some 34), (.faddr 1 (.tmp 1)), none⟩, ⟨(some 35), (.load false 1 (.tmp 34)), none⟩, ⟨(some 36), (.len (.tmp 35)), none⟩, ⟨(some 37), (.bin .gtr 3 (.tmp 36) (.const (.int .i64 30))), none⟩]
def r45_39 : List AOper := [⟨(some 2), (.mv (.const (.int .i64 0))), none⟩, ⟨(some 3), (.mv (.const (.int .i64 8))), none⟩]
def r45_42 : List AOper := [⟨(some 38), (.faddr 1 (.tmp 1)), none⟩, ⟨(some 39), (.load false 1 (.tmp 38)), none⟩, ⟨(some 40), (.len (.tmp 39)), none⟩, ⟨(some 41), (.mv (.const (.int .i64 0))), none⟩]
def td45_44 : Option Tidy := (some ⟨[1, 39, 40, 41], true, [⟨false, 39, 0, 20039, 4⟩, ⟨true, 1, 0, 30100, 1⟩, ⟨true, 1, 1, 30101, 4⟩], []⟩)
def r45_46 : List AOper := [⟨(some 42), (.bin .lss 3 (.tmp 41) (.tmp 40)), none⟩]
def r45_52 : List AOper := [⟨(some 43), (.mv (.tmp 41)), none⟩, ⟨(some 44), (.iaddr 4 none (.tmp 39) (.tmp 41)), none⟩, ⟨(some 45), (.load true 4 (.tmp 44)), none⟩, ⟨(some 7), (.alloc [(.d (.v (.int .i64 0))), (.d (.v (.bool false))), (.d (.v (.int .i64 0))), (.d (.v (.bool false)))]), none⟩, ⟨(some 6), (.mv (.tmp 43)), none⟩, ⟨none, (.store 4 (.tmp 7) (.tmp 45)), none⟩]
def r45_54 : List AOper := [⟨(some 46), (.faddr 0 (.tmp 7)), none⟩, ⟨(some 47), (.load false 1 (.tmp 46)), none⟩, ⟨(some 48), (.faddr 0 (.tmp 1)), none⟩, ⟨(some 49), (.load false 1 (.tmp 48)), none⟩, ⟨(some 50), (.len (.tmp 49)), none⟩, ⟨(some 51), (.bin .sub 3 (.tmp 50) (.const (.int .i64 1))), none⟩, ⟨(some 52), (.call 78 [(.tmp 47), (.const (.int .i64 0)), (.tmp 51)]), none⟩, ⟨(some 53), (.pure (oB (.unOp .not 4 (.tmp 52)) 4)), none⟩, ⟨(some 54), (.mv (.tmp 53)), none⟩, ⟨(some 55), (.faddr 2 (.tmp 7)), (some (54, false))⟩, ⟨(some 56), (.load false 1 (.tmp 55)), (some (54, false))⟩, ⟨(some 57), (.faddr 0 (.tmp 1)), (some (54, false))⟩, ⟨(some 58), (.load false 1 (.tmp 57)), (some (54, false))⟩, ⟨(some 59), (.len (.tmp 58)), (some (54, false))⟩, ⟨(some 60), (.bin .sub 3 (.tmp 59) (.const (.int .i64 1))), (some (54, false))⟩, ⟨(some 61), (.call 78 [(.tmp 56), (.const (.int .i64 0)), (.tmp 60)]), (some (54, false))⟩, ⟨(some 62), (.pure (oB (.unOp .not 4 (.tmp 61)) 4)), (some (54, false))⟩, ⟨(some 63), (.pick (.tmp 54) (.const (.bool true)) (.tmp 62)), none⟩]
def r45_57 : List AOper := [⟨(some 64), (.mv (.tmp 6)), none⟩, ⟨(some 2), (.mv (.tmp 64)), none⟩, ⟨(some 3), (.mv (.const (.int .i64 6))), none⟩]
def r45_58 : List AOper := [⟨(some 65), (.bin .add 3 (.tmp 41) (.const (.int .i64 1))), none⟩, ⟨(some 41), (.mv (.tmp 65)), none⟩]
def r45_60 : List AOper := [⟨(some 2), (.mv (.const (.int .i64 0))), none⟩, ⟨(some 3), (.mv (.const (.int .i64 0))), none⟩]
def tr45 : List (Nat × Tidy) := [(0, ⟨[1], true, [], []⟩), (1, ⟨[1, 11], true, [], []⟩), (2, ⟨[2, 3], true, [], []⟩), (3, ⟨[1, 13, 14, 15], true, [], []⟩), (4, ⟨[1, 13, 14, 15, 16], true, [], []⟩), (5, ⟨[1, 4, 5, 13, 14, 15], true, [], []⟩), (6, ⟨[1, 4, 5, 13, 14, 15, 20], true, [], []⟩), (7, ⟨[2, 3], true, [], []⟩), (8, ⟨[1, 4, 13, 14, 15, 25], true, [], []⟩), (9, ⟨[2, 3], true, [], []⟩), (10, ⟨[1, 13, 14, 15], true, [], []⟩), (11, ⟨[1, 37], true, [], []⟩), (12, ⟨[2, 3], true, [], []⟩), (13, ⟨[1, 39, 40, 41], true, [], []⟩), (14, ⟨[1, 39, 40, 41, 42], true, [], []⟩), (15, ⟨[1, 6, 7, 39, 40, 41], true, [], []⟩), (16, ⟨[1, 6, 39, 40, 41, 63], true, [], []⟩), (17, ⟨[2, 3], true, [], []⟩), (18, ⟨[1, 39, 40, 41], true, [], []⟩), (19, ⟨[2, 3], true, [], []⟩)]
def tl45 : List (Nat × Tidy) := [(4, ⟨[1, 13, 14, 15], true, [⟨false, 13, 0, 20013, 1⟩, ⟨true, 1, 0, 30100, 1⟩, ⟨true, 1, 1, 30101, 4⟩], []⟩), (14, ⟨[1, 39, 40, 41], true, [⟨false, 39, 0, 20039, 4⟩, ⟨true, 1, 0, 30100, 1⟩, ⟨true, 1, 1, 30101, 4⟩], []⟩)]
def rs45 : List AResV := [.tmp 2, .tmp 3]
def p45_0_0 : PT St := pS [sl 1 (aV false [(cPtr 1 0)]), sl 13 (aV false [(cD dL)]), sl 14 (aV false [(cD (dI .i64))]), sl 15 (aV false [(cD (dI .i64))])] [eBox 1 [(cD dL), (cD dL)]]
def u45_0_0 {β : Type} (g : St → β) : Rows → Int → Int → Rows → Rows → β := p45_0_0.unc g

def p45_0_1 : PT St := pS [sl 2 (aV false [(cD (dI .i64))]), sl 3 (aV false [(cD (dI .i64))])] []
def u45_0_1 {β : Type} (g : St → β) : Int → Int → β := p45_0_1.unc g

def p45_0_2 : PT St := pS [sl 1 (aV false [(cPtr 1 0)]), sl 13 (aV false [(cD dL)]), sl 14 (aV false [(cD (dI .i64))]), sl 15 (aV false [(cD (dI .i64))]), sl 16 (aV false [(cD dB)])] [eBox 1 [(cD dL), (cD dL)]]
def u45_0_2 {β : Type} (g : St → β) : Rows → Int → Int → Bool → Rows → Rows → β := p45_0_2.unc g

def p45_0_3 : PT St := pS [sl 1 (aV false [(cPtr 1 0)]), sl 39 (aV false [(cD dL)]), sl 40 (aV false [(cD (dI .i64))]), sl 41 (aV false [(cD (dI .i64))])] [eBox 1 [(cD dL), (cD dL)]]
def u45_0_3 {β : Type} (g : St → β) : Rows → Int → Int → Rows → Rows → β := p45_0_3.unc g

def p45_0_4 : PT St := pS [sl 1 (aV false [(cPtr 1 0)]), sl 39 (aV false [(cD dL)]), sl 40 (aV false [(cD (dI .i64))]), sl 41 (aV false [(cD (dI .i64))]), sl 42 (aV false [(cD dB)])] [eBox 1 [(cD dL), (cD dL)]]
def u45_0_4 {β : Type} (g : St → β) : Rows → Int → Int → Bool → Rows → Rows → β := p45_0_4.unc g

def pr45_0_0 : PT (List RV) := pRs [pR false [rD (dI .i64)], pR false [rD (dI .i64)]]
def ur45_0_0 {β : Type} (g : List RV → β) : Int → Int → β := pr45_0_0.unc g

def E45_0g (vf100_0 : Tf100_0) (vf101_0 : Tf101_0) (vf78_0 : Tf78_0) : EnvK := EnvK.of [⟨100, nt100, [⟨pa100_0, Fn100_0 vf100_0⟩]⟩, ⟨101, nt101, [⟨pa101_0, Fn101_0 vf101_0⟩]⟩, ⟨78, nt78, [⟨pa78_0, Fn78_0 vf78_0⟩]⟩] noSeq
noncomputable def E45_0 : EnvK := E45_0g f100_0 f101_0 f78_0
theorem eo45_0 : E45_0.Ok Try.prog := EnvK.of_ok noSeq_ok ⟨⟨io100_0, trivial⟩, ⟨io101_0, trivial⟩, ⟨io78_0, trivial⟩, trivial⟩

noncomputable def c45_0_44g  : MCode := (.seq (.region r45_46 [] (some ⟨[1, 39, 40, 41, 42], true, [], []⟩)) (.seq (.cond (.tmp 42) .skip (.exit 3)) (.seq (.block 4 (.seq (.region r45_52 [] (some ⟨[1, 6, 7, 39, 40, 41], true, [], []⟩)) (.seq (.region r45_54 [] (some ⟨[1, 6, 39, 40, 41, 63], true, [], []⟩)) (.cond (.tmp 63) (.seq (.region r45_57 [] (some ⟨[2, 3], true, [], []⟩)) .ret) .skip)))) (.region r45_58 [] (some ⟨[1, 39, 40, 41], true, [], []⟩)))))
noncomputable def c45_0_44 : MCode := c45_0_44g 
theorem g45_0_44 : c45_0_44.Good Try.prog E45_0 sh45 := ⟨trivial, ⟨⟨trivial, trivial⟩, ⟨⟨trivial, ⟨trivial, ⟨⟨trivial, trivial⟩, trivial⟩⟩⟩, trivial⟩⟩⟩
--CODE 44 0
def S45_0_1g (vf78_0 : Tf78_0) (α : Type) (x17 : Rows) (x18 : Int) (x20 : Rows) (x19 : Int) (kn : Int → Option α) (k1 : Int → Option α) (k2 : Int → Bool → Option α) : Option α :=
  cK (decide (x19 < x18))
    (rowK x17 x19 [.int .i64, .bool, .int .i64, .bool]
      (fun (x23 : Int) (x24 : Bool) (x25 : Int) (x26 : Bool) => vf78_0 α x23 0 (w64 (((List.length x20 : Nat) : Int) - 1))
        (fun (x27 : Bool) => cK (!x27)
          (k1 x19)
          (vf78_0 α x25 0 (w64 (((List.length x20 : Nat) : Int) - 1))
            (fun (x28 : Bool) => cK (!x28)
              (k1 x19)
              (kn (w64 (x19 + 1))))))))
    (k2 x19 (decide (x19 < x18)))
noncomputable def S45_0_1 (α : Type) (x17 : Rows) (x18 : Int) (x20 : Rows) (x19 : Int) (kn : Int → Option α) (k1 : Int → Option α) (k2 : Int → Bool → Option α) : Option α := S45_0_1g f78_0 α x17 x18 x20 x19 kn k1 k2
noncomputable def R45_0_1 (α : Type) (x17 : Rows) (x18 : Int) (x20 : Rows) (k1 : Int → Option α) (k2 : Int → Bool → Option α) : Nat → Int → Option α
  | 0, _ => none
  | n + 1, x19 => S45_0_1 α x17 x18 x20 x19 (R45_0_1 α x17 x18 x20 k1 k2 n) k1 k2
noncomputable def L45_0_1 (α : Type) (x17 : Rows) (x18 : Int) (x20 : Rows) (k1 : Int → Option α) (k2 : Int → Bool → Option α) (x19 : Int) : Option α := R45_0_1 α x17 x18 x20 k1 k2 fuel x19
abbrev TL45_0_1 : Type 1 := (α : Type) → Rows → Int → Rows → (Int → Option α) → (Int → Bool → Option α) → Int → Option α
def F45_0_1 (v : TL45_0_1) (α : Type) (K : Exit → St → Option α) : Rows → Int → Int → Rows → Rows → Option α := fun x17 x18 x19 x20 x21 => v α x17 x18 x20 (fun (y1 : Int) => u45_0_1 (K .ret) y1 6) (fun (y1 : Int) (y2 : Bool) => u45_0_4 (K (.exit 3)) x17 x18 y1 y2 x20 x21) x19
theorem r45_0_1g (vf100_0 : Tf100_0) (vf101_0 : Tf101_0) (vf78_0 : Tf78_0)  (α : Type) (K : Exit → St → Option α) (Kn : St → Option α) (x17 : Rows) (x18 : Int) (x19 : Int) (x20 : Rows) (x21 : Rows) : u45_0_3 (fun σ => runM Try.prog (E45_0g vf100_0 vf101_0 vf78_0) sh45 (c45_0_44g ) (thenK (fun σ => tidyK td45_44 σ Kn) K) σ) x17 x18 x19 x20 x21 = S45_0_1g vf78_0 α x17 x18 x20 x19 (fun x19 => u45_0_3 Kn x17 x18 x19 x20 x21) (fun (y1 : Int) => u45_0_1 (K .ret) y1 6) (fun (y1 : Int) (y2 : Bool) => u45_0_4 (K (.exit 3)) x17 x18 y1 y2 x20 x21) := by kernel_rfl
theorem r45_0_1 (α : Type) (K : Exit → St → Option α) (Kn : St → Option α) (x17 : Rows) (x18 : Int) (x19 : Int) (x20 : Rows) (x21 : Rows) : u45_0_3 (fun σ => runM Try.prog E45_0 sh45 c45_0_44 (thenK (fun σ => tidyK td45_44 σ Kn) K) σ) x17 x18 x19 x20 x21 = S45_0_1 α x17 x18 x20 x19 (fun x19 => u45_0_3 Kn x17 x18 x19 x20 x21) (fun (y1 : Int) => u45_0_1 (K .ret) y1 6) (fun (y1 : Int) (y2 : Bool) => u45_0_4 (K (.exit 3)) x17 x18 y1 y2 x20 x21) := r45_0_1g f100_0 f101_0 f78_0 α K Kn x17 x18 x19 x20 x21
theorem t45_0_1 (α : Type) (K : Exit → St → Option α) : ∀ (n : Nat) (x17 : Rows) (x18 : Int) (x19 : Int) (x20 : Rows) (x21 : Rows), R45_0_1 α x17 x18 x20 (fun (y1 : Int) => u45_0_1 (K .ret) y1 6) (fun (y1 : Int) (y2 : Bool) => u45_0_4 (K (.exit 3)) x17 x18 y1 y2 x20 x21) n x19 = u45_0_3 (loopT (runM Try.prog E45_0 sh45 c45_0_44) td45_44 K n) x17 x18 x19 x20 x21 := by
  intro n
  induction n with
  | zero => intros; rfl
  | succ n ih => intro x17 x18 x19 x20 x21; exact (congrArg (fun kn => S45_0_1 α x17 x18 x20 x19 kn (fun (y1 : Int) => u45_0_1 (K .ret) y1 6) (fun (y1 : Int) (y2 : Bool) => u45_0_4 (K (.exit 3)) x17 x18 y1 y2 x20 x21)) (funext fun x19 => ih x17 x18 x19 x20 x21)).trans (r45_0_1 α K (loopT (runM Try.prog E45_0 sh45 c45_0_44) td45_44 K n) x17 x18 x19 x20 x21).symm
theorem m45_0_1 : ∀ (α : Type) (K : Exit → St → Option α), F45_0_1 L45_0_1 α K = p45_0_3.unc fun σ => loopT (runM Try.prog E45_0 sh45 c45_0_44) td45_44 K fuel σ := fun α K => funext fun x17 => funext fun x18 => funext fun x19 => funext fun x20 => funext fun x21 => t45_0_1 α K fuel x17 x18 x19 x20 x21

noncomputable def c45_0_13g  : MCode := (.seq (.region r45_15 [] (some ⟨[1, 13, 14, 15, 16], true, [], []⟩)) (.seq (.cond (.tmp 16) .skip (.exit 0)) (.seq (.block 1 (.seq (.region r45_21 [] (some ⟨[1, 4, 5, 13, 14, 15], true, [], []⟩)) (.block 2 (.seq (.region r45_24 [] (some ⟨[1, 4, 5, 13, 14, 15, 20], true, [], []⟩)) (.cond (.tmp 20) (.seq (.region r45_27 [] (some ⟨[2, 3], true, [], []⟩)) .ret) (.seq (.region r45_29 [] (some ⟨[1, 4, 13, 14, 15, 25], true, [], []⟩)) (.cond (.tmp 25) (.seq (.region r45_32 [] (some ⟨[2, 3], true, [], []⟩)) .ret) .skip))))))) (.region r45_33 [] (some ⟨[1, 13, 14, 15], true, [], []⟩)))))
noncomputable def c45_0_13 : MCode := c45_0_13g 
theorem g45_0_13 : c45_0_13.Good Try.prog E45_0 sh45 := ⟨trivial, ⟨⟨trivial, trivial⟩, ⟨⟨trivial, ⟨trivial, ⟨⟨trivial, trivial⟩, ⟨trivial, ⟨⟨trivial, trivial⟩, trivial⟩⟩⟩⟩⟩, trivial⟩⟩⟩
--CODE 13 0
def S45_0_0g (vf100_0 : Tf100_0) (vf101_0 : Tf101_0) (α : Type) (x3 : Rows) (x4 : Int) (x6 : Rows) (x5 : Int) (kn : Int → Option α) (k1 : Int → Int → Option α) (k2 : Int → Bool → Option α) : Option α :=
  cK (decide (x5 < x4))
    (rowK x3 x5 [.str]
      (fun (x9 : ByteArray) => vf100_0 α x9
        (fun (x10 : Bool) => cK (!x10)
          (k1 x5 3)
          (gK (decide ((0 : Int) ≤ 0 ∧ 0 ≤ x5 ∧ x5 ≤ ((List.length x6 : Nat) : Int) ∧ allLen 1 x6 = true)) (vf101_0 α (List.drop 0 (List.take (Int.toNat x5) x6)) x9
            (fun (x11 : Bool) => cK x11
              (k1 x5 5)
              (kn (w64 (x5 + 1)))))))))
    (k2 x5 (decide (x5 < x4)))
noncomputable def S45_0_0 (α : Type) (x3 : Rows) (x4 : Int) (x6 : Rows) (x5 : Int) (kn : Int → Option α) (k1 : Int → Int → Option α) (k2 : Int → Bool → Option α) : Option α := S45_0_0g f100_0 f101_0 α x3 x4 x6 x5 kn k1 k2
noncomputable def R45_0_0 (α : Type) (x3 : Rows) (x4 : Int) (x6 : Rows) (k1 : Int → Int → Option α) (k2 : Int → Bool → Option α) : Nat → Int → Option α
  | 0, _ => none
  | n + 1, x5 => S45_0_0 α x3 x4 x6 x5 (R45_0_0 α x3 x4 x6 k1 k2 n) k1 k2
noncomputable def L45_0_0 (α : Type) (x3 : Rows) (x4 : Int) (x6 : Rows) (k1 : Int → Int → Option α) (k2 : Int → Bool → Option α) (x5 : Int) : Option α := R45_0_0 α x3 x4 x6 k1 k2 fuel x5
abbrev TL45_0_0 : Type 1 := (α : Type) → Rows → Int → Rows → (Int → Int → Option α) → (Int → Bool → Option α) → Int → Option α
def F45_0_0 (v : TL45_0_0) (α : Type) (K : Exit → St → Option α) : Rows → Int → Int → Rows → Rows → Option α := fun x3 x4 x5 x6 x7 => v α x3 x4 x6 (fun (y1 : Int) (y2 : Int) => u45_0_1 (K .ret) y1 y2) (fun (y1 : Int) (y2 : Bool) => u45_0_2 (K (.exit 0)) x3 x4 y1 y2 x6 x7) x5
theorem r45_0_0g (vf100_0 : Tf100_0) (vf101_0 : Tf101_0) (vf78_0 : Tf78_0)  (α : Type) (K : Exit → St → Option α) (Kn : St → Option α) (x3 : Rows) (x4 : Int) (x5 : Int) (x6 : Rows) (x7 : Rows) : u45_0_0 (fun σ => runM Try.prog (E45_0g vf100_0 vf101_0 vf78_0) sh45 (c45_0_13g ) (thenK (fun σ => tidyK td45_13 σ Kn) K) σ) x3 x4 x5 x6 x7 = S45_0_0g vf100_0 vf101_0 α x3 x4 x6 x5 (fun x5 => u45_0_0 Kn x3 x4 x5 x6 x7) (fun (y1 : Int) (y2 : Int) => u45_0_1 (K .ret) y1 y2) (fun (y1 : Int) (y2 : Bool) => u45_0_2 (K (.exit 0)) x3 x4 y1 y2 x6 x7) := by kernel_rfl
theorem r45_0_0 (α : Type) (K : Exit → St → Option α) (Kn : St → Option α) (x3 : Rows) (x4 : Int) (x5 : Int) (x6 : Rows) (x7 : Rows) : u45_0_0 (fun σ => runM Try.prog E45_0 sh45 c45_0_13 (thenK (fun σ => tidyK td45_13 σ Kn) K) σ) x3 x4 x5 x6 x7 = S45_0_0 α x3 x4 x6 x5 (fun x5 => u45_0_0 Kn x3 x4 x5 x6 x7) (fun (y1 : Int) (y2 : Int) => u45_0_1 (K .ret) y1 y2) (fun (y1 : Int) (y2 : Bool) => u45_0_2 (K (.exit 0)) x3 x4 y1 y2 x6 x7) := r45_0_0g f100_0 f101_0 f78_0 α K Kn x3 x4 x5 x6 x7
theorem t45_0_0 (α : Type) (K : Exit → St → Option α) : ∀ (n : Nat) (x3 : Rows) (x4 : Int) (x5 : Int) (x6 : Rows) (x7 : Rows), R45_0_0 α x3 x4 x6 (fun (y1 : Int) (y2 : Int) => u45_0_1 (K .ret) y1 y2) (fun (y1 : Int) (y2 : Bool) => u45_0_2 (K (.exit 0)) x3 x4 y1 y2 x6 x7) n x5 = u45_0_0 (loopT (runM Try.prog E45_0 sh45 c45_0_13) td45_13 K n) x3 x4 x5 x6 x7 := by
  intro n
  induction n with
  | zero => intros; rfl
  | succ n ih => intro x3 x4 x5 x6 x7; exact (congrArg (fun kn => S45_0_0 α x3 x4 x6 x5 kn (fun (y1 : Int) (y2 : Int) => u45_0_1 (K .ret) y1 y2) (fun (y1 : Int) (y2 : Bool) => u45_0_2 (K (.exit 0)) x3 x4 y1 y2 x6 x7)) (funext fun x5 => ih x3 x4 x5 x6 x7)).trans (r45_0_0 α K (loopT (runM Try.prog E45_0 sh45 c45_0_13) td45_13 K n) x3 x4 x5 x6 x7).symm
theorem m45_0_0 : ∀ (α : Type) (K : Exit → St → Option α), F45_0_0 L45_0_0 α K = p45_0_0.unc fun σ => loopT (runM Try.prog E45_0 sh45 c45_0_13) td45_13 K fuel σ := fun α K => funext fun x3 => funext fun x4 => funext fun x5 => funext fun x6 => funext fun x7 => t45_0_0 α K fuel x3 x4 x5 x6 x7

/-- etalon/grow.CheckChamber -/
abbrev Tf45_0 : Type 1 := (α : Type) → Rows → Rows → (Int → Int → Option α) → Option α
def f45_0g (vL45_0_0 : TL45_0_0) (vL45_0_1 : TL45_0_1) (α : Type) (x1 : Rows) (x2 : Rows) (k1 : Int → Int → Option α) : Option α :=
  cK (decide (8 < ((List.length x1 : Nat) : Int)))
    (k1 0 8)
    (vL45_0_0 α x1 ((List.length x1 : Nat) : Int) x1
      (fun (x12 : Int) (x13 : Int) => k1 x12 x13)
      (fun (x14 : Int) (x15 : Bool) => cK (decide (30 < ((List.length x2 : Nat) : Int)))
        (k1 0 8)
        (vL45_0_1 α x2 ((List.length x2 : Nat) : Int) x1
          (fun (x29 : Int) => k1 x29 6)
          (fun (x30 : Int) (x31 : Bool) => k1 0 0) 0)) 0)
noncomputable def f45_0 (α : Type) (x1 : Rows) (x2 : Rows) (k1 : Int → Int → Option α) : Option α := f45_0g L45_0_0 L45_0_1 α x1 x2 k1
def pa45_0 : PT (List DV) := pA [pV true [dL, dL]]
def Fn45_0 (v : Tf45_0) (α : Type) (k : List RV → Option α) : Rows → Rows → Option α := fun x1 x2 => v α x1 x2 (fun (y1 : Int) (y2 : Int) => ur45_0_0 k y1 y2)
noncomputable def cm45_0g (vL45_0_0 : TL45_0_0) (vL45_0_1 : TL45_0_1) : MCode := (.seq (.region r45_2 [] (some ⟨[1], true, [], []⟩)) (.seq (.seq (.region r45_5 [] (some ⟨[1, 11], true, [], []⟩)) (.cond (.tmp 11) (.seq (.region r45_8 [] (some ⟨[2, 3], true, [], []⟩)) .ret) .skip)) (.seq (.seq (.region r45_11 [] (some ⟨[1, 13, 14, 15], true, [], []⟩)) (.block 0 (.loop td45_13 [⟨p45_0_0, F45_0_0 vL45_0_0⟩] c45_0_13))) (.seq (.seq (.region r45_36 [] (some ⟨[1, 37], true, [], []⟩)) (.cond (.tmp 37) (.seq (.region r45_39 [] (some ⟨[2, 3], true, [], []⟩)) .ret) .skip)) (.seq (.seq (.region r45_42 [] (some ⟨[1, 39, 40, 41], true, [], []⟩)) (.block 3 (.loop td45_44 [⟨p45_0_3, F45_0_1 vL45_0_1⟩] c45_0_44))) (.seq (.region r45_60 [] (some ⟨[2, 3], true, [], []⟩)) .ret))))))
noncomputable def cm45_0 : MCode := cm45_0g L45_0_0 L45_0_1
theorem gm45_0 : cm45_0.Good Try.prog E45_0 sh45 := ⟨trivial, ⟨⟨trivial, ⟨⟨trivial, trivial⟩, trivial⟩⟩, ⟨⟨trivial, ⟨g45_0_13, m45_0_0, trivial⟩⟩, ⟨⟨trivial, ⟨⟨trivial, trivial⟩, trivial⟩⟩, ⟨⟨trivial, ⟨g45_0_44, m45_0_1, trivial⟩⟩, ⟨trivial, trivial⟩⟩⟩⟩⟩⟩
theorem fm45_0g (vf100_0 : Tf100_0) (vf101_0 : Tf101_0) (vf78_0 : Tf78_0) (vL45_0_0 : TL45_0_0) (vL45_0_1 : TL45_0_1) (α : Type) (k : List RV → Option α) : Fn45_0 (f45_0g vL45_0_0 vL45_0_1) α k = pa45_0.unc fun ds => fnM Try.prog (E45_0g vf100_0 vf101_0 vf78_0) sh45 (cm45_0g vL45_0_0 vL45_0_1) rs45 k ds := by kernel_rfl
theorem fm45_0 : ∀ (α : Type) (k : List RV → Option α), Fn45_0 f45_0 α k = pa45_0.unc fun ds => fnM Try.prog E45_0 sh45 cm45_0 rs45 k ds := fm45_0g f100_0 f101_0 f78_0 L45_0_0 L45_0_1

theorem is45 : FnIs Try.prog 45 nt45 tr45 tl45 cm45_0.erase rs45 := ⟨Try.f45, Try.func45, rfl, by kernel_rfl, by kernel_rfl, by kernel_rfl⟩
theorem io45_0 : InstOk Try.prog 45 nt45 ⟨pa45_0, Fn45_0 f45_0⟩ := inst_ok eo45_0 followsTry is45 ⟨⟨sh45, cm45_0, by kernel_rfl, gm45_0, fm45_0⟩⟩

/-! ### F104 (etalon/grow.chamber).broken -/
abbrev nt104 : Nat := 10
def sh104 : List (Nat × List Sh) := [(7, [.sl])]
def r104_2 : List AOper := [⟨(some 2), (.box (.tmp 0)), none⟩, ⟨(some 3), (.box (.tmp 1)), none⟩, ⟨(some 4), (.mv (.const (.int .i64 0))), none⟩]
def r104_4 : List AOper := [⟨(some 5), (.faddr 0 (.tmp 2)), none⟩, ⟨(some 6), (.faddr 1 (.tmp 5)), none⟩, ⟨(some 7), (.load false 1 (.tmp 6)), none⟩, ⟨(some 8), (.mkfn 128 [(.tmp 3)]), none⟩, ⟨(some 9), (.call 127 [(.tmp 7), (.tmp 8)]), none⟩, ⟨(some 4), (.mv (.tmp 9)), none⟩]
def tr104 : List (Nat × Tidy) := [(0, ⟨[2, 3], true, [], []⟩), (1, ⟨[4], true, [], []⟩)]
def tl104 : List (Nat × Tidy) := []
def rs104 : List AResV := [.tmp 4]
def pr104_0_0 : PT (List RV) := pRs [pR false [rD (dI .i64)]]
def ur104_0_0 {β : Type} (g : List RV → β) : Int → β := pr104_0_0.unc g

def E104_0g (vf127_0 : Tf127_0) : EnvK := EnvK.of [⟨127, nt127, [⟨pa127_0, Fn127_0 vf127_0⟩]⟩] noSeq
noncomputable def E104_0 : EnvK := E104_0g f127_0
theorem eo104_0 : E104_0.Ok Try.prog := EnvK.of_ok noSeq_ok ⟨⟨io127_0, trivial⟩, trivial⟩

/-- (etalon/grow.chamber).broken -/
abbrev Tf104_0 : Type 1 := (α : Type) → Rows → Rows → Int → (Int → Option α) → Option α
def f104_0g (vf127_0 : Tf127_0) (α : Type) (x1 : Rows) (x2 : Rows) (x3 : Int) (k1 : Int → Option α) : Option α :=
  vf127_0 α x2 x3
    (fun (x4 : Int) => k1 x4)
noncomputable def f104_0 (α : Type) (x1 : Rows) (x2 : Rows) (x3 : Int) (k1 : Int → Option α) : Option α := f104_0g f127_0 α x1 x2 x3 k1
def pa104_0 : PT (List DV) := pA [pV true [dL, dL], pV false [(dI .i64)]]
def Fn104_0 (v : Tf104_0) (α : Type) (k : List RV → Option α) : Rows → Rows → Int → Option α := fun x1 x2 x3 => v α x1 x2 x3 (fun (y1 : Int) => ur104_0_0 k y1)
noncomputable def cm104_0g  : MCode := (.seq (.region r104_2 [] (some ⟨[2, 3], true, [], []⟩)) (.seq (.region r104_4 [] (some ⟨[4], true, [], []⟩)) .ret))
noncomputable def cm104_0 : MCode := cm104_0g 
theorem gm104_0 : cm104_0.Good Try.prog E104_0 sh104 := ⟨trivial, ⟨trivial, trivial⟩⟩
theorem fm104_0g (vf127_0 : Tf127_0)  (α : Type) (k : List RV → Option α) : Fn104_0 (f104_0g vf127_0) α k = pa104_0.unc fun ds => fnM Try.prog (E104_0g vf127_0) sh104 (cm104_0g ) rs104 k ds := by kernel_rfl
theorem fm104_0 : ∀ (α : Type) (k : List RV → Option α), Fn104_0 f104_0 α k = pa104_0.unc fun ds => fnM Try.prog E104_0 sh104 cm104_0 rs104 k ds := fm104_0g f127_0

theorem is104 : FnIs Try.prog 104 nt104 tr104 tl104 cm104_0.erase rs104 := ⟨Try.f104, Try.func104, rfl, by kernel_rfl, by kernel_rfl, by kernel_rfl⟩
theorem io104_0 : InstOk Try.prog 104 nt104 ⟨pa104_0, Fn104_0 f104_0⟩ := inst_ok eo104_0 followsTry is104 ⟨⟨sh104, cm104_0, by kernel_rfl, gm104_0, fm104_0⟩⟩

/-! ### F103 etalon/grow.open -/
abbrev nt103 : Nat := 43
def sh103 : List (Nat × List Sh) := [(13, [.sl, .sl]), (25, [.sl]), (26, [.sl]), (30, [.sl]), (40, [.sl, .sl])]
def r103_2 : List AOper := [⟨(some 2), (.box (.tmp 0)), none⟩, ⟨(some 4), (.alloc [.nils, .nils]), none⟩, ⟨(some 5), (.mv (.const (.slice none 0 0))), none⟩, ⟨(some 6), (.mv (.const (.int .i64 0))), none⟩]
def r103_5 : List AOper := [⟨(some 13), (.load true 2 (.tmp 2)), none⟩, ⟨(some 14), (.call 45 [(.tmp 13)]), none⟩, ⟨(some 12), (.mv (.tmp 14)), none⟩, ⟨(some 15), (.extract 0 (.tmp 12)), none⟩, ⟨(some 16), (.extract 1 (.tmp 12)), none⟩, ⟨(some 7), (.mv (.tmp 15)), none⟩, ⟨(some 8), (.mv (.tmp 16)), none⟩]
def r103_7 : List AOper := [⟨(some 17), (.mv (.tmp 8)), none⟩, ⟨(some 18), (.bin .neq 32 (.tmp 17) (.const (.int .i64 0))), none⟩]
def r103_10 : List AOper := [⟨(some 19), (.build [.nils, .nils] []), none⟩, ⟨(some 20), (.mv (.tmp 8)), none⟩, ⟨none, (.store 2 (.tmp 4) (.tmp 19)), none⟩, ⟨(some 5), (.mv (.const (.slice none 0 0))), none⟩, ⟨(some 6), (.mv (.tmp 20)), none⟩]
def r103_12 : List AOper := [⟨(some 9), (.mv (.const (.slice none 0 0))), none⟩]
def r103_15 : List AOper := [⟨(some 21), (.mv (.tmp 1)), none⟩, ⟨(some 22), (.len (.tmp 21)), none⟩, ⟨(some 23), (.mv (.const (.int .i64 0))), none⟩]
def td103_17 : Option Tidy := (some ⟨[2, 4, 9, 21, 22, 23], true, [⟨false, 9, 0, 20009, 1⟩, ⟨false, 21, 0, 20021, 1⟩, ⟨true, 2, 0, 30200, 1⟩, ⟨true, 2, 1, 30201, 4⟩, ⟨true, 4, 0, 30400, 1⟩, ⟨true, 4, 1, 30401, 4⟩], []⟩)
def r103_19 : List AOper := [⟨(some 24), (.bin .lss 3 (.tmp 23) (.tmp 22)), none⟩]
def r103_25 : List AOper := [⟨(some 25), (.iaddr 1 none (.tmp 21) (.tmp 23)), none⟩, ⟨(some 26), (.load false 1 (.tmp 25)), none⟩, ⟨(some 11), (.mv (.tmp 26)), none⟩]
def r103_28 : List AOper := [⟨(some 27), (.mv (.tmp 11)), none⟩, ⟨(some 28), (.len (.tmp 27)), none⟩, ⟨(some 29), (.faddr 0 (.tmp 2)), none⟩, ⟨(some 30), (.load false 1 (.tmp 29)), none⟩, ⟨(some 31), (.len (.tmp 30)), none⟩, ⟨(some 32), (.bin .neq 3 (.tmp 28) (.tmp 31)), none⟩]
def r103_31 : List AOper := [⟨(some 33), (.build [.nils, .nils] []), none⟩, ⟨none, (.store 2 (.tmp 4) (.tmp 33)), none⟩, ⟨(some 5), (.mv (.const (.slice none 0 0))), none⟩, ⟨(some 6), (.mv (.const (.int .i64 12))), none⟩]
def r103_32 : List AOper := [⟨(some 34), (.mv (.tmp 9)), none⟩, ⟨(some 35), (.mv (.tmp 11)), none⟩, ⟨(some 36), (.call 126 [(.tmp 35)]), none⟩, ⟨(some 37), (.bslice 1 1 [(.v (.int .i64 0))] [(0, (.tmp 36))]), none⟩, ⟨(some 38), (.append 1 8 (.tmp 34) (.tmp 37)), none⟩, ⟨(some 9), (.mv (.tmp 38)), none⟩]
def r103_33 : List AOper := [⟨(some 39), (.bin .add 3 (.tmp 23) (.const (.int .i64 1))), none⟩, ⟨(some 23), (.mv (.tmp 39)), none⟩]
def r103_35 : List AOper := [⟨(some 40), (.load true 2 (.tmp 2)), none⟩, ⟨(some 41), (.build [.nils, .nils] [(0, 2, (.tmp 40))]), none⟩, ⟨(some 42), (.mv (.tmp 9)), none⟩, ⟨none, (.store 2 (.tmp 4) (.tmp 41)), none⟩, ⟨(some 5), (.mv (.tmp 42)), none⟩, ⟨(some 6), (.mv (.const (.int .i64 0))), none⟩]
def tr103 : List (Nat × Tidy) := [(0, ⟨[1, 2, 4], true, [⟨true, 4, 0, 30400, 1⟩, ⟨true, 4, 1, 30401, 4⟩], []⟩), (1, ⟨[1, 2, 4, 8], true, [⟨true, 4, 0, 30400, 1⟩, ⟨true, 4, 1, 30401, 4⟩], []⟩), (2, ⟨[1, 2, 4, 8, 18], true, [⟨true, 4, 0, 30400, 1⟩, ⟨true, 4, 1, 30401, 4⟩], []⟩), (3, ⟨[4, 5, 6], true, [⟨false, 5, 0, 20005, 1⟩, ⟨true, 4, 0, 30400, 1⟩, ⟨true, 4, 1, 30401, 4⟩], []⟩), (4, ⟨[1, 2, 4, 9], true, [⟨true, 4, 0, 30400, 1⟩, ⟨true, 4, 1, 30401, 4⟩], []⟩), (5, ⟨[2, 4, 9, 21, 22, 23], true, [⟨true, 4, 0, 30400, 1⟩, ⟨true, 4, 1, 30401, 4⟩], []⟩), (6, ⟨[2, 4, 9, 21, 22, 23, 24], true, [⟨true, 4, 0, 30400, 1⟩, ⟨true, 4, 1, 30401, 4⟩], []⟩), (7, ⟨[2, 4, 9, 11, 21, 22, 23], true, [⟨true, 4, 0, 30400, 1⟩, ⟨true, 4, 1, 30401, 4⟩], []⟩), (8, ⟨[2, 4, 9, 11, 21, 22, 23, 32], true, [⟨true, 4, 0, 30400, 1⟩, ⟨true, 4, 1, 30401, 4⟩], []⟩), (9, ⟨[4, 5, 6], true, [⟨false, 5, 0, 20005, 1⟩, ⟨true, 4, 0, 30400, 1⟩, ⟨true, 4, 1, 30401, 4⟩], []⟩), (10, ⟨[2, 4, 9, 21, 22, 23], true, [⟨true, 4, 0, 30400, 1⟩, ⟨true, 4, 1, 30401, 4⟩], []⟩), (11, ⟨[2, 4, 9, 21, 22, 23], true, [⟨true, 4, 0, 30400, 1⟩, ⟨true, 4, 1, 30401, 4⟩], []⟩), (12, ⟨[4, 5, 6], true, [⟨false, 5, 0, 20005, 1⟩, ⟨true, 4, 0, 30400, 1⟩, ⟨true, 4, 1, 30401, 4⟩], []⟩)]
def tl103 : List (Nat × Tidy) := [(6, ⟨[2, 4, 9, 21, 22, 23], true, [⟨false, 9, 0, 20009, 1⟩, ⟨false, 21, 0, 20021, 1⟩, ⟨true, 2, 0, 30200, 1⟩, ⟨true, 2, 1, 30201, 4⟩, ⟨true, 4, 0, 30400, 1⟩, ⟨true, 4, 1, 30401, 4⟩], []⟩)]
def rs103 : List AResV := [.cell 4 true 2, .tmp 5, .tmp 6]
def p103_0_0 : PT St := pS [sl 2 (aV false [(cPtr 2 0)]), sl 4 (aV false [(cPtr 4 0)]), sl 9 (aV false [(cRef 20009)]), sl 21 (aV false [(cD dL)]), sl 22 (aV false [(cD (dI .i64))]), sl 23 (aV false [(cD (dI .i64))])] [eBox 2 [(cD dL), (cD dL)], eBox 4 [(cRef 30400), (cRef 30401)], eOwn 30400 1, eOwn 30401 4, eOwn 20009 1]
def u103_0_0 {β : Type} (g : St → β) : Rows → Int → Int → Rows → Rows → Rows → Rows → Rows → β := p103_0_0.unc g

def p103_0_1 : PT St := pS [sl 4 (aV false [(cPtr 4 0)]), sl 5 (aV false [(cRef 20005)]), sl 6 (aV false [(cD (dI .i64))])] [eBox 4 [(cRef 30400), (cRef 30401)], eOwn 30400 1, eOwn 30401 4, eOwn 20005 1]
def u103_0_1 {β : Type} (g : St → β) : Int → Rows → Rows → Rows → β := p103_0_1.unc g

def p103_0_2 : PT St := pS [sl 2 (aV false [(cPtr 2 0)]), sl 4 (aV false [(cPtr 4 0)]), sl 9 (aV false [(cRef 20009)]), sl 21 (aV false [(cD dL)]), sl 22 (aV false [(cD (dI .i64))]), sl 23 (aV false [(cD (dI .i64))]), sl 24 (aV false [(cD dB)])] [eBox 2 [(cD dL), (cD dL)], eBox 4 [(cRef 30400), (cRef 30401)], eOwn 30400 1, eOwn 30401 4, eOwn 20009 1]
def u103_0_2 {β : Type} (g : St → β) : Rows → Int → Int → Bool → Rows → Rows → Rows → Rows → Rows → β := p103_0_2.unc g

def pr103_0_0 : PT (List RV) := pRs [pR true [rO 1, rO 4], pR false [rO 1], pR false [rD (dI .i64)]]
def ur103_0_0 {β : Type} (g : List RV → β) : Rows → Rows → Rows → Int → β := pr103_0_0.unc g

def pr103_0_1 : PT (List RV) := pRs [pR true [rD dL, rD dL], pR false [rO 1], pR false [rD (dI .i64)]]
def ur103_0_1 {β : Type} (g : List RV → β) : Rows → Rows → Rows → Int → β := pr103_0_1.unc g

def E103_0g (vf45_0 : Tf45_0) (vf126_0 : Tf126_0) : EnvK := EnvK.of [⟨45, nt45, [⟨pa45_0, Fn45_0 vf45_0⟩]⟩, ⟨126, nt126, [⟨pa126_0, Fn126_0 vf126_0⟩]⟩] noSeq
noncomputable def E103_0 : EnvK := E103_0g f45_0 f126_0
theorem eo103_0 : E103_0.Ok Try.prog := EnvK.of_ok noSeq_ok ⟨⟨io45_0, trivial⟩, ⟨io126_0, trivial⟩, trivial⟩

noncomputable def c103_0_17g  : MCode := (.seq (.region r103_19 [] (some ⟨[2, 4, 9, 21, 22, 23, 24], true, [⟨true, 4, 0, 30400, 1⟩, ⟨true, 4, 1, 30401, 4⟩], []⟩)) (.seq (.cond (.tmp 24) .skip (.exit 0)) (.seq (.block 1 (.seq (.region r103_25 [] (some ⟨[2, 4, 9, 11, 21, 22, 23], true, [⟨true, 4, 0, 30400, 1⟩, ⟨true, 4, 1, 30401, 4⟩], []⟩)) (.seq (.seq (.region r103_28 [] (some ⟨[2, 4, 9, 11, 21, 22, 23, 32], true, [⟨true, 4, 0, 30400, 1⟩, ⟨true, 4, 1, 30401, 4⟩], []⟩)) (.cond (.tmp 32) (.seq (.region r103_31 [] (some ⟨[4, 5, 6], true, [⟨false, 5, 0, 20005, 1⟩, ⟨true, 4, 0, 30400, 1⟩, ⟨true, 4, 1, 30401, 4⟩], []⟩)) .ret) .skip)) (.region r103_32 [] (some ⟨[2, 4, 9, 21, 22, 23], true, [⟨true, 4, 0, 30400, 1⟩, ⟨true, 4, 1, 30401, 4⟩], []⟩))))) (.region r103_33 [] (some ⟨[2, 4, 9, 21, 22, 23], true, [⟨true, 4, 0, 30400, 1⟩, ⟨true, 4, 1, 30401, 4⟩], []⟩)))))
noncomputable def c103_0_17 : MCode := c103_0_17g 
theorem g103_0_17 : c103_0_17.Good Try.prog E103_0 sh103 := ⟨trivial, ⟨⟨trivial, trivial⟩, ⟨⟨trivial, ⟨⟨trivial, ⟨⟨trivial, trivial⟩, trivial⟩⟩, trivial⟩⟩, trivial⟩⟩⟩
--CODE 17 0
def S103_0_0g (vf126_0 : Tf126_0) (α : Type) (x6 : Rows) (x7 : Int) (x9 : Rows) (x8 : Int) (x13 : Rows) (kn : Int → Rows → Option α) (k1 : Option α) (k2 : Int → Bool → Rows → Option α) : Option α :=
  cK (decide (x8 < x7))
    (rowK x6 x8 [.sl]
      (fun (x15 : Rows) => cK (((List.length x15 : Nat) : Int) != ((List.length x9 : Nat) : Int))
        (k1)
        (vf126_0 α x15
          (fun (x16 : Int) => gK (apOk 1 8 x13 [[DC.v (.int .i64 x16)]]) (kn (w64 (x8 + 1)) (x13 ++ [[DC.v (.int .i64 x16)]]))))))
    (k2 x8 (decide (x8 < x7)) x13)
noncomputable def S103_0_0 (α : Type) (x6 : Rows) (x7 : Int) (x9 : Rows) (x8 : Int) (x13 : Rows) (kn : Int → Rows → Option α) (k1 : Option α) (k2 : Int → Bool → Rows → Option α) : Option α := S103_0_0g f126_0 α x6 x7 x9 x8 x13 kn k1 k2
noncomputable def R103_0_0 (α : Type) (x6 : Rows) (x7 : Int) (x9 : Rows) (k1 : Option α) (k2 : Int → Bool → Rows → Option α) : Nat → Int → Rows → Option α
  | 0, _, _ => none
  | n + 1, x8, x13 => S103_0_0 α x6 x7 x9 x8 x13 (R103_0_0 α x6 x7 x9 k1 k2 n) k1 k2
noncomputable def L103_0_0 (α : Type) (x6 : Rows) (x7 : Int) (x9 : Rows) (k1 : Option α) (k2 : Int → Bool → Rows → Option α) (x8 : Int) (x13 : Rows) : Option α := R103_0_0 α x6 x7 x9 k1 k2 fuel x8 x13
abbrev TL103_0_0 : Type 1 := (α : Type) → Rows → Int → Rows → (Option α) → (Int → Bool → Rows → Option α) → Int → Rows → Option α
def F103_0_0 (v : TL103_0_0) (α : Type) (K : Exit → St → Option α) : Rows → Int → Int → Rows → Rows → Rows → Rows → Rows → Option α := fun x6 x7 x8 x9 x10 x11 x12 x13 => v α x6 x7 x9 (u103_0_1 (K .ret) 12 ([] : Rows) ([] : Rows) ([] : Rows)) (fun (y1 : Int) (y2 : Bool) (y3 : Rows) => u103_0_2 (K (.exit 0)) x6 x7 y1 y2 x9 x10 x11 x12 y3) x8 x13
theorem r103_0_0g (vf45_0 : Tf45_0) (vf126_0 : Tf126_0)  (α : Type) (K : Exit → St → Option α) (Kn : St → Option α) (x6 : Rows) (x7 : Int) (x8 : Int) (x9 : Rows) (x10 : Rows) (x11 : Rows) (x12 : Rows) (x13 : Rows) : u103_0_0 (fun σ => runM Try.prog (E103_0g vf45_0 vf126_0) sh103 (c103_0_17g ) (thenK (fun σ => tidyK td103_17 σ Kn) K) σ) x6 x7 x8 x9 x10 x11 x12 x13 = S103_0_0g vf126_0 α x6 x7 x9 x8 x13 (fun x8 x13 => u103_0_0 Kn x6 x7 x8 x9 x10 x11 x12 x13) (u103_0_1 (K .ret) 12 ([] : Rows) ([] : Rows) ([] : Rows)) (fun (y1 : Int) (y2 : Bool) (y3 : Rows) => u103_0_2 (K (.exit 0)) x6 x7 y1 y2 x9 x10 x11 x12 y3) := by kernel_rfl
theorem r103_0_0 (α : Type) (K : Exit → St → Option α) (Kn : St → Option α) (x6 : Rows) (x7 : Int) (x8 : Int) (x9 : Rows) (x10 : Rows) (x11 : Rows) (x12 : Rows) (x13 : Rows) : u103_0_0 (fun σ => runM Try.prog E103_0 sh103 c103_0_17 (thenK (fun σ => tidyK td103_17 σ Kn) K) σ) x6 x7 x8 x9 x10 x11 x12 x13 = S103_0_0 α x6 x7 x9 x8 x13 (fun x8 x13 => u103_0_0 Kn x6 x7 x8 x9 x10 x11 x12 x13) (u103_0_1 (K .ret) 12 ([] : Rows) ([] : Rows) ([] : Rows)) (fun (y1 : Int) (y2 : Bool) (y3 : Rows) => u103_0_2 (K (.exit 0)) x6 x7 y1 y2 x9 x10 x11 x12 y3) := r103_0_0g f45_0 f126_0 α K Kn x6 x7 x8 x9 x10 x11 x12 x13
theorem t103_0_0 (α : Type) (K : Exit → St → Option α) : ∀ (n : Nat) (x6 : Rows) (x7 : Int) (x8 : Int) (x9 : Rows) (x10 : Rows) (x11 : Rows) (x12 : Rows) (x13 : Rows), R103_0_0 α x6 x7 x9 (u103_0_1 (K .ret) 12 ([] : Rows) ([] : Rows) ([] : Rows)) (fun (y1 : Int) (y2 : Bool) (y3 : Rows) => u103_0_2 (K (.exit 0)) x6 x7 y1 y2 x9 x10 x11 x12 y3) n x8 x13 = u103_0_0 (loopT (runM Try.prog E103_0 sh103 c103_0_17) td103_17 K n) x6 x7 x8 x9 x10 x11 x12 x13 := by
  intro n
  induction n with
  | zero => intros; rfl
  | succ n ih => intro x6 x7 x8 x9 x10 x11 x12 x13; exact (congrArg (fun kn => S103_0_0 α x6 x7 x9 x8 x13 kn (u103_0_1 (K .ret) 12 ([] : Rows) ([] : Rows) ([] : Rows)) (fun (y1 : Int) (y2 : Bool) (y3 : Rows) => u103_0_2 (K (.exit 0)) x6 x7 y1 y2 x9 x10 x11 x12 y3)) (funext fun x8 => funext fun x13 => ih x6 x7 x8 x9 x10 x11 x12 x13)).trans (r103_0_0 α K (loopT (runM Try.prog E103_0 sh103 c103_0_17) td103_17 K n) x6 x7 x8 x9 x10 x11 x12 x13).symm
theorem m103_0_0 : ∀ (α : Type) (K : Exit → St → Option α), F103_0_0 L103_0_0 α K = p103_0_0.unc fun σ => loopT (runM Try.prog E103_0 sh103 c103_0_17) td103_17 K fuel σ := fun α K => funext fun x6 => funext fun x7 => funext fun x8 => funext fun x9 => funext fun x10 => funext fun x11 => funext fun x12 => funext fun x13 => t103_0_0 α K fuel x6 x7 x8 x9 x10 x11 x12 x13

/-- etalon/grow.open -/
abbrev Tf103_0 : Type 1 := (α : Type) → Rows → Rows → Rows → (Int → Option α) → (Rows → Rows → Rows → Option α) → Option α
def f103_0g (vL103_0_0 : TL103_0_0) (vf45_0 : Tf45_0) (α : Type) (x1 : Rows) (x2 : Rows) (x3 : Rows) (k1 : Int → Option α) (k2 : Rows → Rows → Rows → Option α) : Option α :=
  vf45_0 α x1 x2
    (fun (x4 : Int) (x5 : Int) => cK (x5 != 0)
      (k1 x5)
      (vL103_0_0 α x3 ((List.length x3 : Nat) : Int) x1
        (k1 12)
        (fun (x17 : Int) (x18 : Bool) (x19 : Rows) => k2 x1 x2 x19) 0 ([] : Rows)))
noncomputable def f103_0 (α : Type) (x1 : Rows) (x2 : Rows) (x3 : Rows) (k1 : Int → Option α) (k2 : Rows → Rows → Rows → Option α) : Option α := f103_0g L103_0_0 f45_0 α x1 x2 x3 k1 k2
def pa103_0 : PT (List DV) := pA [pV true [dL, dL], pV false [dL]]
def Fn103_0 (v : Tf103_0) (α : Type) (k : List RV → Option α) : Rows → Rows → Rows → Option α := fun x1 x2 x3 => v α x1 x2 x3 (fun (y1 : Int) => ur103_0_0 k ([] : Rows) ([] : Rows) ([] : Rows) y1) (fun (y1 : Rows) (y2 : Rows) (y3 : Rows) => ur103_0_1 k y1 y2 y3 0)
noncomputable def cm103_0g (vL103_0_0 : TL103_0_0) : MCode := (.seq (.region r103_2 [] (some ⟨[1, 2, 4], true, [⟨true, 4, 0, 30400, 1⟩, ⟨true, 4, 1, 30401, 4⟩], []⟩)) (.seq (.seq (.region r103_5 [] (some ⟨[1, 2, 4, 8], true, [⟨true, 4, 0, 30400, 1⟩, ⟨true, 4, 1, 30401, 4⟩], []⟩)) (.seq (.region r103_7 [] (some ⟨[1, 2, 4, 8, 18], true, [⟨true, 4, 0, 30400, 1⟩, ⟨true, 4, 1, 30401, 4⟩], []⟩)) (.cond (.tmp 18) (.seq (.region r103_10 [] (some ⟨[4, 5, 6], true, [⟨false, 5, 0, 20005, 1⟩, ⟨true, 4, 0, 30400, 1⟩, ⟨true, 4, 1, 30401, 4⟩], []⟩)) .ret) .skip))) (.seq (.region r103_12 [] (some ⟨[1, 2, 4, 9], true, [⟨true, 4, 0, 30400, 1⟩, ⟨true, 4, 1, 30401, 4⟩], []⟩)) (.seq (.seq (.region r103_15 [] (some ⟨[2, 4, 9, 21, 22, 23], true, [⟨true, 4, 0, 30400, 1⟩, ⟨true, 4, 1, 30401, 4⟩], []⟩)) (.block 0 (.loop td103_17 [⟨p103_0_0, F103_0_0 vL103_0_0⟩] c103_0_17))) (.seq (.region r103_35 [] (some ⟨[4, 5, 6], true, [⟨false, 5, 0, 20005, 1⟩, ⟨true, 4, 0, 30400, 1⟩, ⟨true, 4, 1, 30401, 4⟩], []⟩)) .ret)))))
noncomputable def cm103_0 : MCode := cm103_0g L103_0_0
theorem gm103_0 : cm103_0.Good Try.prog E103_0 sh103 := ⟨trivial, ⟨⟨trivial, ⟨trivial, ⟨⟨trivial, trivial⟩, trivial⟩⟩⟩, ⟨trivial, ⟨⟨trivial, ⟨g103_0_17, m103_0_0, trivial⟩⟩, ⟨trivial, trivial⟩⟩⟩⟩⟩
theorem fm103_0g (vf45_0 : Tf45_0) (vf126_0 : Tf126_0) (vL103_0_0 : TL103_0_0) (α : Type) (k : List RV → Option α) : Fn103_0 (f103_0g vL103_0_0 vf45_0) α k = pa103_0.unc fun ds => fnM Try.prog (E103_0g vf45_0 vf126_0) sh103 (cm103_0g vL103_0_0) rs103 k ds := by kernel_rfl
theorem fm103_0 : ∀ (α : Type) (k : List RV → Option α), Fn103_0 f103_0 α k = pa103_0.unc fun ds => fnM Try.prog E103_0 sh103 cm103_0 rs103 k ds := fm103_0g f45_0 f126_0 L103_0_0

theorem is103 : FnIs Try.prog 103 nt103 tr103 tl103 cm103_0.erase rs103 := ⟨Try.f103, Try.func103, rfl, by kernel_rfl, by kernel_rfl, by kernel_rfl⟩
theorem io103_0 : InstOk Try.prog 103 nt103 ⟨pa103_0, Fn103_0 f103_0⟩ := inst_ok eo103_0 followsTry is103 ⟨⟨sh103, cm103_0, by kernel_rfl, gm103_0, fm103_0⟩⟩

/-! ### F47 etalon/grow.FirstBroken -/
abbrev nt47 : Nat := 29
def sh47 : List (Nat × List Sh) := [(11, [.sl, .sl]), (21, [.sl, .sl]), (23, [.int .i64]), (24, [.int .i64])]
def r47_2 : List AOper := [⟨(some 2), (.box (.tmp 0)), none⟩, ⟨(some 4), (.mv (.const (.int .i64 0))), none⟩, ⟨(some 5), (.mv (.const (.int .i64 0))), none⟩]
def r47_4 : List AOper := [⟨(some 11), (.load true 2 (.tmp 2)), none⟩, ⟨(some 12), (.mv (.tmp 1)), none⟩, ⟨(some 13), (.bslice 1 1 [(.sl [])] [(0, (.tmp 12))]), none⟩, ⟨(some 14), (.call 103 [(.tmp 11), (.tmp 13)]), none⟩, ⟨(some 10), (.mv (.tmp 14)), none⟩, ⟨(some 15), (.extract 0 (.tmp 10)), none⟩, ⟨(some 16), (.extract 1 (.tmp 10)), none⟩, ⟨(some 17), (.extract 2 (.tmp 10)), none⟩, ⟨(some 6), (.alloc [.nils, .nils]), none⟩, ⟨none, (.store 2 (.tmp 6) (.tmp 15)), none⟩, ⟨(some 7), (.mv (.tmp 16)), none⟩, ⟨(some 8), (.mv (.tmp 17)), none⟩]
def r47_7 : List AOper := [⟨(some 18), (.mv (.tmp 8)), none⟩, ⟨(some 19), (.bin .neq 32 (.tmp 18) (.const (.int .i64 0))), none⟩]
def r47_10 : List AOper := [⟨(some 20), (.mv (.tmp 8)), none⟩, ⟨(some 4), (.mv (.const (.int .i64 0))), none⟩, ⟨(some 5), (.mv (.tmp 20)), none⟩]
def r47_12 : List AOper := [⟨(some 21), (.load true 2 (.tmp 6)), none⟩, ⟨(some 22), (.mv (.tmp 7)), none⟩, ⟨(some 23), (.iaddr 1 none (.tmp 22) (.const (.int .i64 0))), none⟩, ⟨(some 24), (.load false 1 (.tmp 23)), none⟩, ⟨(some 25), (.call 104 [(.tmp 21), (.tmp 24)]), none⟩, ⟨(some 9), (.mv (.tmp 25)), none⟩]
def r47_15 : List AOper := [⟨(some 26), (.mv (.tmp 9)), none⟩, ⟨(some 27), (.bin .lss 3 (.tmp 26) (.const (.int .i64 0))), none⟩]
def r47_18 : List AOper := [⟨(some 4), (.mv (.const (.int .i64 0))), none⟩, ⟨(some 5), (.mv (.const (.int .i64 17))), none⟩]
def r47_20 : List AOper := [⟨(some 28), (.mv (.tmp 9)), none⟩, ⟨(some 4), (.mv (.tmp 28)), none⟩, ⟨(some 5), (.mv (.const (.int .i64 0))), none⟩]
def tr47 : List (Nat × Tidy) := [(0, ⟨[1, 2], true, [], []⟩), (1, ⟨[6, 7, 8], true, [], []⟩), (2, ⟨[6, 7, 8, 19], true, [], []⟩), (3, ⟨[4, 5], true, [], []⟩), (4, ⟨[9], true, [], []⟩), (5, ⟨[9, 27], true, [], []⟩), (6, ⟨[4, 5], true, [], []⟩), (7, ⟨[4, 5], true, [], []⟩)]
def tl47 : List (Nat × Tidy) := []
def rs47 : List AResV := [.tmp 4, .tmp 5]
def p47_0_0 : PT St := pS [sl 1 (aV false [(cD dL)]), sl 2 (aV false [(cPtr 2 0)])] [eBox 2 [(cD dL), (cD dL)]]
def u47_0_0 {β : Type} (g : St → β) : Rows → Rows → Rows → β := p47_0_0.unc g

def p47_0_1 : PT St := pS [sl 6 (aV false [(cPtr 6 0)]), sl 7 (aV false [(cRef 640014)]), sl 8 (aV false [(cD (dI .i64))])] [eBox 6 [(cRef 14), (cRef 10014)], eOwn 14 1, eOwn 10014 4, eOwn 640014 1]
def u47_0_1 {β : Type} (g : St → β) : Int → Rows → Rows → Rows → β := p47_0_1.unc g

def p47_0_2 : PT St := pS [sl 6 (aV false [(cPtr 6 0)]), sl 7 (aV false [(cRef 640014)]), sl 8 (aV false [(cD (dI .i64))])] [eBox 6 [(cD dL), (cD dL)], eOwn 640014 1]
def u47_0_2 {β : Type} (g : St → β) : Int → Rows → Rows → Rows → β := p47_0_2.unc g

def pr47_0_0 : PT (List RV) := pRs [pR false [rD (dI .i64)], pR false [rD (dI .i64)]]
def ur47_0_0 {β : Type} (g : List RV → β) : Int → Int → β := pr47_0_0.unc g

def E47_0g (vf103_0 : Tf103_0) (vf104_0 : Tf104_0) : EnvK := EnvK.of [⟨103, nt103, [⟨pa103_0, Fn103_0 vf103_0⟩]⟩, ⟨104, nt104, [⟨pa104_0, Fn104_0 vf104_0⟩]⟩] noSeq
noncomputable def E47_0 : EnvK := E47_0g f103_0 f104_0
theorem eo47_0 : E47_0.Ok Try.prog := EnvK.of_ok noSeq_ok ⟨⟨io103_0, trivial⟩, ⟨io104_0, trivial⟩, trivial⟩

noncomputable def c47_0_3g  : MCode := (.region r47_4 [] (some ⟨[6, 7, 8], true, [], []⟩))
noncomputable def c47_0_3 : MCode := c47_0_3g 
theorem g47_0_3 : c47_0_3.Good Try.prog E47_0 sh47 := trivial
--CODE 3 0
abbrev TJ47_0_0 : Type 1 := (α : Type) → Rows → Rows → Rows → (Int → Option α) → (Rows → Rows → Rows → Option α) → Option α
def J47_0_0g (vf103_0 : Tf103_0) (α : Type) (x4 : Rows) (x5 : Rows) (x6 : Rows) (k1 : Int → Option α) (k2 : Rows → Rows → Rows → Option α) : Option α :=
  vf103_0 α x5 x6 [[DC.sl x4]]
    (fun (x8 : Int) => flatK [([] : Rows), ([] : Rows), ([] : Rows)]
      (k1 x8))
    (fun (x9 : Rows) (x10 : Rows) (x11 : Rows) => k2 x9 x10 x11)
noncomputable def J47_0_0 (α : Type) (x4 : Rows) (x5 : Rows) (x6 : Rows) (k1 : Int → Option α) (k2 : Rows → Rows → Rows → Option α) : Option α := J47_0_0g f103_0 α x4 x5 x6 k1 k2
def F47_0_0 (v : TJ47_0_0) (α : Type) (K : Exit → St → Option α) : Rows → Rows → Rows → Option α := fun x4 x5 x6 => v α x4 x5 x6 (fun (y1 : Int) => u47_0_1 (K .normal) y1 ([] : Rows) ([] : Rows) ([] : Rows)) (fun (y1 : Rows) (y2 : Rows) (y3 : Rows) => u47_0_2 (K .normal) 0 y1 y2 y3) 
theorem m47_0_0g (vf103_0 : Tf103_0) (vf104_0 : Tf104_0)  (α : Type) (K : Exit → St → Option α) : F47_0_0 (J47_0_0g vf103_0) α K = p47_0_0.unc fun σ => runM Try.prog (E47_0g vf103_0 vf104_0) sh47 (c47_0_3g ) K σ := by kernel_rfl
theorem m47_0_0 : ∀ (α : Type) (K : Exit → St → Option α), F47_0_0 J47_0_0 α K = p47_0_0.unc fun σ => runM Try.prog E47_0 sh47 c47_0_3 K σ := m47_0_0g f103_0 f104_0

/-- etalon/grow.FirstBroken -/
abbrev Tf47_0 : Type 1 := (α : Type) → Rows → Rows → Rows → (Int → Int → Option α) → Option α
def f47_0g (vJ47_0_0 : TJ47_0_0) (vf104_0 : Tf104_0) (α : Type) (x1 : Rows) (x2 : Rows) (x3 : Rows) (k1 : Int → Int → Option α) : Option α :=
  vJ47_0_0 α x3 x1 x2
    (fun (x12 : Int) => cK (x12 != 0)
      (k1 0 x12)
      (none))
    (fun (x13 : Rows) (x14 : Rows) (x15 : Rows) => ixK x15 0 1
      (ldK x15 0 0 [.int .i64]
        (fun (x17 : Int) => vf104_0 α x13 x14 x17
          (fun (x18 : Int) => cK (decide (x18 < 0))
            (k1 0 17)
            (k1 x18 0)))))
noncomputable def f47_0 (α : Type) (x1 : Rows) (x2 : Rows) (x3 : Rows) (k1 : Int → Int → Option α) : Option α := f47_0g J47_0_0 f104_0 α x1 x2 x3 k1
def pa47_0 : PT (List DV) := pA [pV true [dL, dL], pV false [dL]]
def Fn47_0 (v : Tf47_0) (α : Type) (k : List RV → Option α) : Rows → Rows → Rows → Option α := fun x1 x2 x3 => v α x1 x2 x3 (fun (y1 : Int) (y2 : Int) => ur47_0_0 k y1 y2)
noncomputable def cm47_0g (vJ47_0_0 : TJ47_0_0) : MCode := (.seq (.region r47_2 [] (some ⟨[1, 2], true, [], []⟩)) (.seq (.mark [⟨p47_0_0, F47_0_0 vJ47_0_0⟩] c47_0_3) (.seq (.seq (.region r47_7 [] (some ⟨[6, 7, 8, 19], true, [], []⟩)) (.cond (.tmp 19) (.seq (.region r47_10 [] (some ⟨[4, 5], true, [], []⟩)) .ret) .skip)) (.seq (.region r47_12 [] (some ⟨[9], true, [], []⟩)) (.seq (.seq (.region r47_15 [] (some ⟨[9, 27], true, [], []⟩)) (.cond (.tmp 27) (.seq (.region r47_18 [] (some ⟨[4, 5], true, [], []⟩)) .ret) .skip)) (.seq (.region r47_20 [] (some ⟨[4, 5], true, [], []⟩)) .ret))))))
noncomputable def cm47_0 : MCode := cm47_0g J47_0_0
theorem gm47_0 : cm47_0.Good Try.prog E47_0 sh47 := ⟨trivial, ⟨⟨g47_0_3, m47_0_0, trivial⟩, ⟨⟨trivial, ⟨⟨trivial, trivial⟩, trivial⟩⟩, ⟨trivial, ⟨⟨trivial, ⟨⟨trivial, trivial⟩, trivial⟩⟩, ⟨trivial, trivial⟩⟩⟩⟩⟩⟩
theorem fm47_0g (vf103_0 : Tf103_0) (vf104_0 : Tf104_0) (vJ47_0_0 : TJ47_0_0) (α : Type) (k : List RV → Option α) : Fn47_0 (f47_0g vJ47_0_0 vf104_0) α k = pa47_0.unc fun ds => fnM Try.prog (E47_0g vf103_0 vf104_0) sh47 (cm47_0g vJ47_0_0) rs47 k ds := by kernel_rfl
theorem fm47_0 : ∀ (α : Type) (k : List RV → Option α), Fn47_0 f47_0 α k = pa47_0.unc fun ds => fnM Try.prog E47_0 sh47 cm47_0 rs47 k ds := fm47_0g f103_0 f104_0 J47_0_0

theorem is47 : FnIs Try.prog 47 nt47 tr47 tl47 cm47_0.erase rs47 := ⟨Try.f47, Try.func47, rfl, by kernel_rfl, by kernel_rfl, by kernel_rfl⟩
theorem io47_0 : InstOk Try.prog 47 nt47 ⟨pa47_0, Fn47_0 f47_0⟩ := inst_ok eo47_0 followsTry is47 ⟨⟨sh47, cm47_0, by kernel_rfl, gm47_0, fm47_0⟩⟩

/-! ### F49 etalon/grow.Switched -/
abbrev nt49 : Nat := 48
def sh49 : List (Nat × List Sh) := [(15, [.sl, .sl]), (27, [.sl]), (33, [.int .i64]), (34, [.int .i64]), (37, [.sl, .sl]), (45, [.sl])]
def r49_2 : List AOper := [⟨(some 3), (.box (.tmp 0)), none⟩, ⟨(some 6), (.mv (.const (.slice none 0 0))), none⟩, ⟨(some 7), (.mv (.const (.int .i64 0))), none⟩, ⟨(some 8), (.mv (.const (.int .i64 0))), none⟩]
def r49_4 : List AOper := [⟨(some 15), (.load true 2 (.tmp 3)), none⟩, ⟨(some 16), (.mv (.tmp 1)), none⟩, ⟨(some 17), (.bslice 1 1 [(.sl [])] [(0, (.tmp 16))]), none⟩, ⟨(some 18), (.call 103 [(.tmp 15), (.tmp 17)]), none⟩, ⟨(some 14), (.mv (.tmp 18)), none⟩, ⟨(some 19), (.extract 0 (.tmp 14)), none⟩, ⟨(some 20), (.extract 1 (.tmp 14)), none⟩, ⟨(some 21), (.extract 2 (.tmp 14)), none⟩, ⟨(some 9), (.alloc [.nils, .nils]), none⟩, ⟨none, (.store 2 (.tmp 9) (.tmp 19)), none⟩, ⟨(some 10), (.mv (.tmp 20)), none⟩, ⟨(some 11), (.mv (.tmp 21)), none⟩]
def r49_7 : List AOper := [⟨(some 22), (.mv (.tmp 11)), none⟩, ⟨(some 23), (.bin .neq 32 (.tmp 22) (.const (.int .i64 0))), none⟩]
def r49_10 : List AOper := [⟨(some 24), (.mv (.tmp 11)), none⟩, ⟨(some 6), (.mv (.const (.slice none 0 0))), none⟩, ⟨(some 7), (.mv (.const (.int .i64 0))), none⟩, ⟨(some 8), (.mv (.tmp 24)), none⟩]
def r49_13 : List AOper := [⟨(some 25), (.mv (.tmp 2)), none⟩, ⟨(some 26), (.faddr 0 (.tmp 3)), none⟩, ⟨(some 27), (.load false 1 (.tmp 26)), none⟩, ⟨(some 28), (.len (.tmp 27)), none⟩, ⟨(some 29), (.bin .sub 3 (.tmp 28) (.const (.int .i64 1))), none⟩, ⟨(some 30), (.call 78 [(.tmp 25), (.const (.int .i64 0)), (.tmp 29)]), none⟩, ⟨(some 31), (.pure (oB (.unOp .not 4 (.tmp 30)) 4)), none⟩]
def r49_16 : List AOper := [⟨(some 6), (.mv (.const (.slice none 0 0))), none⟩, ⟨(some 7), (.mv (.const (.int .i64 0))), none⟩, ⟨(some 8), (.mv (.const (.int .i64 6))), none⟩]
def r49_18 : List AOper := [⟨(some 32), (.mv (.tmp 10)), none⟩, ⟨(some 33), (.iaddr 1 none (.tmp 32) (.const (.int .i64 0))), none⟩, ⟨(some 34), (.load false 1 (.tmp 33)), none⟩, ⟨(some 35), (.mv (.tmp 2)), none⟩, ⟨(some 36), (.call 105 [(.tmp 34), (.tmp 35)]), none⟩, ⟨(some 12), (.mv (.tmp 36)), none⟩]
def r49_21 : List AOper := [⟨(some 37), (.load true 2 (.tmp 9)), none⟩, ⟨(some 38), (.mv (.tmp 12)), none⟩, ⟨(some 39), (.call 104 [(.tmp 37), (.tmp 38)]), none⟩, ⟨(some 13), (.mv (.tmp 39)), none⟩]
def r49_23 : List AOper := [⟨(some 40), (.mv (.tmp 13)), none⟩, ⟨(some 41), (.bin .geq 3 (.tmp 40) (.const (.int .i64 0))), none⟩]
def r49_26 : List AOper := [⟨(some 42), (.mv (.tmp 13)), none⟩, ⟨(some 6), (.mv (.const (.slice none 0 0))), none⟩, ⟨(some 7), (.mv (.tmp 42)), none⟩, ⟨(some 8), (.mv (.const (.int .i64 24))), none⟩]
def r49_28 : List AOper := [⟨(some 43), (.mv (.tmp 12)), none⟩, ⟨(some 44), (.faddr 0 (.tmp 3)), none⟩, ⟨(some 45), (.load false 1 (.tmp 44)), none⟩, ⟨(some 46), (.len (.tmp 45)), none⟩, ⟨(some 47), (.call 106 [(.tmp 43), (.tmp 46)]), none⟩, ⟨(some 6), (.mv (.tmp 47)), none⟩, ⟨(some 7), (.mv (.const (.int .i64 0))), none⟩, ⟨(some 8), (.mv (.const (.int .i64 0))), none⟩]
def tr49 : List (Nat × Tidy) := [(0, ⟨[1, 2, 3], true, [], []⟩), (1, ⟨[2, 3, 9, 10, 11], true, [], []⟩), (2, ⟨[2, 3, 9, 10, 11, 23], true, [], []⟩), (3, ⟨[6, 7, 8], true, [⟨false, 6, 0, 20006, 1⟩], []⟩), (4, ⟨[2, 3, 9, 10, 31], true, [], []⟩), (5, ⟨[6, 7, 8], true, [⟨false, 6, 0, 20006, 1⟩], []⟩), (6, ⟨[3, 9, 12], true, [], []⟩), (7, ⟨[3, 12, 13], true, [], []⟩), (8, ⟨[3, 12, 13, 41], true, [], []⟩), (9, ⟨[6, 7, 8], true, [⟨false, 6, 0, 20006, 1⟩], []⟩), (10, ⟨[6, 7, 8], true, [⟨false, 6, 0, 20006, 1⟩], []⟩)]
def tl49 : List (Nat × Tidy) := []
def rs49 : List AResV := [.tmp 6, .tmp 7, .tmp 8]
def p49_0_0 : PT St := pS [sl 1 (aV false [(cD dL)]), sl 2 (aV false [(cD (dI .i64))]), sl 3 (aV false [(cPtr 3 0)])] [eBox 3 [(cD dL), (cD dL)]]
def u49_0_0 {β : Type} (g : St → β) : Rows → Int → Rows → Rows → β := p49_0_0.unc g

def p49_0_1 : PT St := pS [sl 2 (aV false [(cD (dI .i64))]), sl 3 (aV false [(cPtr 3 0)]), sl 9 (aV false [(cPtr 9 0)]), sl 10 (aV false [(cRef 640018)]), sl 11 (aV false [(cD (dI .i64))])] [eBox 3 [(cD dL), (cD dL)], eBox 9 [(cRef 18), (cRef 10018)], eOwn 18 1, eOwn 10018 4, eOwn 640018 1]
def u49_0_1 {β : Type} (g : St → β) : Int → Int → Rows → Rows → Rows → Rows → Rows → β := p49_0_1.unc g

def p49_0_2 : PT St := pS [sl 2 (aV false [(cD (dI .i64))]), sl 3 (aV false [(cPtr 3 0)]), sl 9 (aV false [(cPtr 9 0)]), sl 10 (aV false [(cRef 640018)]), sl 11 (aV false [(cD (dI .i64))])] [eBox 3 [(cD dL), (cD dL)], eBox 9 [(cD dL), (cD dL)], eOwn 640018 1]
def u49_0_2 {β : Type} (g : St → β) : Int → Int → Rows → Rows → Rows → Rows → Rows → β := p49_0_2.unc g

def pr49_0_0 : PT (List RV) := pRs [pR false [rO 1], pR false [rD (dI .i64)], pR false [rD (dI .i64)]]
def ur49_0_0 {β : Type} (g : List RV → β) : Rows → Int → Int → β := pr49_0_0.unc g

def E49_0g (vf103_0 : Tf103_0) (vf78_0 : Tf78_0) (vf105_0 : Tf105_0) (vf104_0 : Tf104_0) (vf106_0 : Tf106_0) : EnvK := EnvK.of [⟨103, nt103, [⟨pa103_0, Fn103_0 vf103_0⟩]⟩, ⟨78, nt78, [⟨pa78_0, Fn78_0 vf78_0⟩]⟩, ⟨105, nt105, [⟨pa105_0, Fn105_0 vf105_0⟩]⟩, ⟨104, nt104, [⟨pa104_0, Fn104_0 vf104_0⟩]⟩, ⟨106, nt106, [⟨pa106_0, Fn106_0 vf106_0⟩]⟩] noSeq
noncomputable def E49_0 : EnvK := E49_0g f103_0 f78_0 f105_0 f104_0 f106_0
theorem eo49_0 : E49_0.Ok Try.prog := EnvK.of_ok noSeq_ok ⟨⟨io103_0, trivial⟩, ⟨io78_0, trivial⟩, ⟨io105_0, trivial⟩, ⟨io104_0, trivial⟩, ⟨io106_0, trivial⟩, trivial⟩

noncomputable def c49_0_3g  : MCode := (.region r49_4 [] (some ⟨[2, 3, 9, 10, 11], true, [], []⟩))
noncomputable def c49_0_3 : MCode := c49_0_3g 
theorem g49_0_3 : c49_0_3.Good Try.prog E49_0 sh49 := trivial
--CODE 3 0
abbrev TJ49_0_0 : Type 1 := (α : Type) → Rows → Rows → Rows → (Int → Option α) → (Rows → Rows → Rows → Option α) → Option α
def J49_0_0g (vf103_0 : Tf103_0) (α : Type) (x5 : Rows) (x7 : Rows) (x8 : Rows) (k1 : Int → Option α) (k2 : Rows → Rows → Rows → Option α) : Option α :=
  vf103_0 α x7 x8 [[DC.sl x5]]
    (fun (x10 : Int) => flatK [([] : Rows), ([] : Rows), ([] : Rows)]
      (k1 x10))
    (fun (x11 : Rows) (x12 : Rows) (x13 : Rows) => k2 x11 x12 x13)
noncomputable def J49_0_0 (α : Type) (x5 : Rows) (x7 : Rows) (x8 : Rows) (k1 : Int → Option α) (k2 : Rows → Rows → Rows → Option α) : Option α := J49_0_0g f103_0 α x5 x7 x8 k1 k2
def F49_0_0 (v : TJ49_0_0) (α : Type) (K : Exit → St → Option α) : Rows → Int → Rows → Rows → Option α := fun x5 x6 x7 x8 => v α x5 x7 x8 (fun (y1 : Int) => u49_0_1 (K .normal) x6 y1 x7 x8 ([] : Rows) ([] : Rows) ([] : Rows)) (fun (y1 : Rows) (y2 : Rows) (y3 : Rows) => u49_0_2 (K .normal) x6 0 x7 x8 y1 y2 y3) 
theorem m49_0_0g (vf103_0 : Tf103_0) (vf78_0 : Tf78_0) (vf105_0 : Tf105_0) (vf104_0 : Tf104_0) (vf106_0 : Tf106_0)  (α : Type) (K : Exit → St → Option α) : F49_0_0 (J49_0_0g vf103_0) α K = p49_0_0.unc fun σ => runM Try.prog (E49_0g vf103_0 vf78_0 vf105_0 vf104_0 vf106_0) sh49 (c49_0_3g ) K σ := by kernel_rfl
theorem m49_0_0 : ∀ (α : Type) (K : Exit → St → Option α), F49_0_0 J49_0_0 α K = p49_0_0.unc fun σ => runM Try.prog E49_0 sh49 c49_0_3 K σ := m49_0_0g f103_0 f78_0 f105_0 f104_0 f106_0

/-- etalon/grow.Switched -/
abbrev Tf49_0 : Type 1 := (α : Type) → Rows → Rows → Rows → Int → (Rows → Int → Int → Option α) → Option α
def f49_0g (vJ49_0_0 : TJ49_0_0) (vf104_0 : Tf104_0) (vf105_0 : Tf105_0) (vf106_0 : Tf106_0) (vf78_0 : Tf78_0) (α : Type) (x1 : Rows) (x2 : Rows) (x3 : Rows) (x4 : Int) (k1 : Rows → Int → Int → Option α) : Option α :=
  vJ49_0_0 α x3 x1 x2
    (fun (x14 : Int) => cK (x14 != 0)
      (k1 ([] : Rows) 0 x14)
      (vf78_0 α x4 0 (w64 (((List.length x1 : Nat) : Int) - 1))
        (fun (x19 : Bool) => cK (!x19)
          (k1 ([] : Rows) 0 6)
          (none))))
    (fun (x15 : Rows) (x16 : Rows) (x17 : Rows) => vf78_0 α x4 0 (w64 (((List.length x1 : Nat) : Int) - 1))
      (fun (x20 : Bool) => cK (!x20)
        (k1 ([] : Rows) 0 6)
        (ixK x17 0 1
          (ldK x17 0 0 [.int .i64]
            (fun (x21 : Int) => vf105_0 α x21 x4
              (fun (x22 : Int) => vf104_0 α x15 x16 x22
                (fun (x23 : Int) => cK (decide (0 ≤ x23))
                  (k1 ([] : Rows) x23 24)
                  (vf106_0 α x22 ((List.length x1 : Nat) : Int)
                    (fun (x24 : Rows) => k1 x24 0 0)))))))))
noncomputable def f49_0 (α : Type) (x1 : Rows) (x2 : Rows) (x3 : Rows) (x4 : Int) (k1 : Rows → Int → Int → Option α) : Option α := f49_0g J49_0_0 f104_0 f105_0 f106_0 f78_0 α x1 x2 x3 x4 k1
def pa49_0 : PT (List DV) := pA [pV true [dL, dL], pV false [dL], pV false [(dI .i64)]]
def Fn49_0 (v : Tf49_0) (α : Type) (k : List RV → Option α) : Rows → Rows → Rows → Int → Option α := fun x1 x2 x3 x4 => v α x1 x2 x3 x4 (fun (y1 : Rows) (y2 : Int) (y3 : Int) => ur49_0_0 k y1 y2 y3)
noncomputable def cm49_0g (vJ49_0_0 : TJ49_0_0) : MCode := (.seq (.region r49_2 [] (some ⟨[1, 2, 3], true, [], []⟩)) (.seq (.mark [⟨p49_0_0, F49_0_0 vJ49_0_0⟩] c49_0_3) (.seq (.seq (.region r49_7 [] (some ⟨[2, 3, 9, 10, 11, 23], true, [], []⟩)) (.cond (.tmp 23) (.seq (.region r49_10 [] (some ⟨[6, 7, 8], true, [⟨false, 6, 0, 20006, 1⟩], []⟩)) .ret) .skip)) (.seq (.seq (.region r49_13 [] (some ⟨[2, 3, 9, 10, 31], true, [], []⟩)) (.cond (.tmp 31) (.seq (.region r49_16 [] (some ⟨[6, 7, 8], true, [⟨false, 6, 0, 20006, 1⟩], []⟩)) .ret) .skip)) (.seq (.region r49_18 [] (some ⟨[3, 9, 12], true, [], []⟩)) (.seq (.seq (.region r49_21 [] (some ⟨[3, 12, 13], true, [], []⟩)) (.seq (.region r49_23 [] (some ⟨[3, 12, 13, 41], true, [], []⟩)) (.cond (.tmp 41) (.seq (.region r49_26 [] (some ⟨[6, 7, 8], true, [⟨false, 6, 0, 20006, 1⟩], []⟩)) .ret) .skip))) (.seq (.region r49_28 [] (some ⟨[6, 7, 8], true, [⟨false, 6, 0, 20006, 1⟩], []⟩)) .ret)))))))
noncomputable def cm49_0 : MCode := cm49_0g J49_0_0
theorem gm49_0 : cm49_0.Good Try.prog E49_0 sh49 := ⟨trivial, ⟨⟨g49_0_3, m49_0_0, trivial⟩, ⟨⟨trivial, ⟨⟨trivial, trivial⟩, trivial⟩⟩, ⟨⟨trivial, ⟨⟨trivial, trivial⟩, trivial⟩⟩, ⟨trivial, ⟨⟨trivial, ⟨trivial, ⟨⟨trivial, trivial⟩, trivial⟩⟩⟩, ⟨trivial, trivial⟩⟩⟩⟩⟩⟩⟩
theorem fm49_0g (vf103_0 : Tf103_0) (vf78_0 : Tf78_0) (vf105_0 : Tf105_0) (vf104_0 : Tf104_0) (vf106_0 : Tf106_0) (vJ49_0_0 : TJ49_0_0) (α : Type) (k : List RV → Option α) : Fn49_0 (f49_0g vJ49_0_0 vf104_0 vf105_0 vf106_0 vf78_0) α k = pa49_0.unc fun ds => fnM Try.prog (E49_0g vf103_0 vf78_0 vf105_0 vf104_0 vf106_0) sh49 (cm49_0g vJ49_0_0) rs49 k ds := by kernel_rfl
theorem fm49_0 : ∀ (α : Type) (k : List RV → Option α), Fn49_0 f49_0 α k = pa49_0.unc fun ds => fnM Try.prog E49_0 sh49 cm49_0 rs49 k ds := fm49_0g f103_0 f78_0 f105_0 f104_0 f106_0 J49_0_0

theorem is49 : FnIs Try.prog 49 nt49 tr49 tl49 cm49_0.erase rs49 := ⟨Try.f49, Try.func49, rfl, by kernel_rfl, by kernel_rfl, by kernel_rfl⟩
theorem io49_0 : InstOk Try.prog 49 nt49 ⟨pa49_0, Fn49_0 f49_0⟩ := inst_ok eo49_0 followsTry is49 ⟨⟨sh49, cm49_0, by kernel_rfl, gm49_0, fm49_0⟩⟩

/-! ### F116 (etalon/grow.chamber).safe -/
abbrev nt116 : Nat := 9
def sh116 : List (Nat × List Sh) := [(5, [.sl, .sl])]
def r116_2 : List AOper := [⟨(some 2), (.box (.tmp 0)), none⟩, ⟨(some 4), (.mv (.const (.bool false))), none⟩]
def r116_4 : List AOper := [⟨(some 5), (.load true 2 (.tmp 2)), none⟩, ⟨(some 6), (.mv (.tmp 1)), none⟩, ⟨(some 7), (.call 104 [(.tmp 5), (.tmp 6)]), none⟩, ⟨(some 8), (.bin .lss 3 (.tmp 7) (.const (.int .i64 0))), none⟩, ⟨(some 4), (.mv (.tmp 8)), none⟩]
def tr116 : List (Nat × Tidy) := [(0, ⟨[1, 2], true, [], []⟩), (1, ⟨[4], true, [], []⟩)]
def tl116 : List (Nat × Tidy) := []
def rs116 : List AResV := [.tmp 4]
def pr116_0_0 : PT (List RV) := pRs [pR false [rD dB]]
def ur116_0_0 {β : Type} (g : List RV → β) : Bool → β := pr116_0_0.unc g

def E116_0g (vf104_0 : Tf104_0) : EnvK := EnvK.of [⟨104, nt104, [⟨pa104_0, Fn104_0 vf104_0⟩]⟩] noSeq
noncomputable def E116_0 : EnvK := E116_0g f104_0
theorem eo116_0 : E116_0.Ok Try.prog := EnvK.of_ok noSeq_ok ⟨⟨io104_0, trivial⟩, trivial⟩

/-- (etalon/grow.chamber).safe -/
abbrev Tf116_0 : Type 1 := (α : Type) → Rows → Rows → Int → (Bool → Option α) → Option α
def f116_0g (vf104_0 : Tf104_0) (α : Type) (x1 : Rows) (x2 : Rows) (x3 : Int) (k1 : Bool → Option α) : Option α :=
  vf104_0 α x1 x2 x3
    (fun (x4 : Int) => k1 (decide (x4 < 0)))
noncomputable def f116_0 (α : Type) (x1 : Rows) (x2 : Rows) (x3 : Int) (k1 : Bool → Option α) : Option α := f116_0g f104_0 α x1 x2 x3 k1
def pa116_0 : PT (List DV) := pA [pV true [dL, dL], pV false [(dI .i64)]]
def Fn116_0 (v : Tf116_0) (α : Type) (k : List RV → Option α) : Rows → Rows → Int → Option α := fun x1 x2 x3 => v α x1 x2 x3 (fun (y1 : Bool) => ur116_0_0 k y1)
noncomputable def cm116_0g  : MCode := (.seq (.region r116_2 [] (some ⟨[1, 2], true, [], []⟩)) (.seq (.region r116_4 [] (some ⟨[4], true, [], []⟩)) .ret))
noncomputable def cm116_0 : MCode := cm116_0g 
theorem gm116_0 : cm116_0.Good Try.prog E116_0 sh116 := ⟨trivial, ⟨trivial, trivial⟩⟩
theorem fm116_0g (vf104_0 : Tf104_0)  (α : Type) (k : List RV → Option α) : Fn116_0 (f116_0g vf104_0) α k = pa116_0.unc fun ds => fnM Try.prog (E116_0g vf104_0) sh116 (cm116_0g ) rs116 k ds := by kernel_rfl
theorem fm116_0 : ∀ (α : Type) (k : List RV → Option α), Fn116_0 f116_0 α k = pa116_0.unc fun ds => fnM Try.prog E116_0 sh116 cm116_0 rs116 k ds := fm116_0g f104_0

theorem is116 : FnIs Try.prog 116 nt116 tr116 tl116 cm116_0.erase rs116 := ⟨Try.f116, Try.func116, rfl, by kernel_rfl, by kernel_rfl, by kernel_rfl⟩
theorem io116_0 : InstOk Try.prog 116 nt116 ⟨pa116_0, Fn116_0 f116_0⟩ := inst_ok eo116_0 followsTry is116 ⟨⟨sh116, cm116_0, by kernel_rfl, gm116_0, fm116_0⟩⟩

/-! ### F9 etalon/etalonlaw08.GrowChambers -/
abbrev nt9 : Nat := 169
def sh9 : List (Nat × List Sh) := [(21, [.sl, .sl]), (30, [.sl, .sl]), (36, [.sl, .sl]), (44, [.sl, .sl]), (54, [.sl, .sl]), (68, [.sl, .sl]), (94, [.sl, .sl]), (122, [.sl]), (141, [.sl, .sl])]
def r9_2 : List AOper := [⟨(some 3), (.box (.tmp 0)), none⟩, ⟨(some 6), (.mv (.const (.bool false))), none⟩]
def r9_5 : List AOper := [⟨(some 19), (.call 14 []), none⟩, ⟨(some 20), (.pure (oB (.unOp .not 4 (.tmp 19)) 4)), none⟩]
def r9_8 : List AOper := [⟨(some 6), (.mv (.const (.bool false))), none⟩]
def r9_11 : List AOper := [⟨(some 21), (.load true 2 (.tmp 3)), none⟩, ⟨(some 22), (.call 44 [(.tmp 21)]), none⟩, ⟨(some 23), (.pure (oB (.unOp .not 4 (.tmp 22)) 4)), none⟩, ⟨(some 24), (.mv (.tmp 23)), none⟩, ⟨(some 25), (.mv (.tmp 1)), (some (24, false))⟩, ⟨(some 26), (.len (.tmp 25)), (some (24, false))⟩, ⟨(some 27), (.bin .gtr 3 (.tmp 26) (.const (.int .i64 12))), (some (24, false))⟩, ⟨(some 28), (.pick (.tmp 24) (.const (.bool true)) (.tmp 27)), none⟩]
def r9_14 : List AOper := [⟨(some 6), (.mv (.const (.bool true))), none⟩]
def r9_16 : List AOper := [⟨(some 30), (.load true 2 (.tmp 3)), none⟩, ⟨(some 31), (.call 46 [(.tmp 30)]), none⟩, ⟨(some 32), (.call 45 [(.tmp 31)]), none⟩, ⟨(some 29), (.mv (.tmp 32)), none⟩, ⟨(some 33), (.extract 0 (.tmp 29)), none⟩, ⟨(some 34), (.extract 1 (.tmp 29)), none⟩, ⟨(some 7), (.mv (.tmp 33)), none⟩, ⟨(some 8), (.mv (.tmp 34)), none⟩]
def r9_18 : List AOper := [⟨(some 36), (.load true 2 (.tmp 3)), none⟩, ⟨(some 37), (.call 46 [(.tmp 36)]), none⟩, ⟨(some 38), (.mv (.tmp 1)), none⟩, ⟨(some 39), (.call 48 [(.tmp 38)]), none⟩, ⟨(some 40), (.call 47 [(.tmp 37), (.tmp 39)]), none⟩, ⟨(some 35), (.mv (.tmp 40)), none⟩, ⟨(some 41), (.extract 0 (.tmp 35)), none⟩, ⟨(some 42), (.extract 1 (.tmp 35)), none⟩, ⟨(some 9), (.mv (.tmp 41)), none⟩, ⟨(some 10), (.mv (.tmp 42)), none⟩]
def r9_20 : List AOper := [⟨(some 44), (.load true 2 (.tmp 3)), none⟩, ⟨(some 45), (.call 46 [(.tmp 44)]), none⟩, ⟨(some 46), (.mv (.tmp 1)), none⟩, ⟨(some 47), (.call 48 [(.tmp 46)]), none⟩, ⟨(some 48), (.mv (.tmp 2)), none⟩, ⟨(some 49), (.call 49 [(.tmp 45), (.tmp 47), (.tmp 48)]), none⟩, ⟨(some 43), (.mv (.tmp 49)), none⟩, ⟨(some 50), (.extract 0 (.tmp 43)), none⟩, ⟨(some 51), (.extract 1 (.tmp 43)), none⟩, ⟨(some 52), (.extract 2 (.tmp 43)), none⟩, ⟨(some 11), (.mv (.tmp 50)), none⟩, ⟨(some 12), (.mv (.tmp 51)), none⟩, ⟨(some 13), (.mv (.tmp 52)), none⟩]
def r9_22 : List AOper := [⟨(some 54), (.load true 2 (.tmp 3)), none⟩, ⟨(some 55), (.call 50 [(.tmp 54)]), none⟩, ⟨(some 53), (.mv (.tmp 55)), none⟩, ⟨(some 56), (.extract 0 (.tmp 53)), none⟩, ⟨(some 57), (.extract 1 (.tmp 53)), none⟩, ⟨(some 14), (.mv (.tmp 56)), none⟩, ⟨(some 15), (.mv (.tmp 57)), none⟩]
def r9_25 : List AOper := [⟨(some 58), (.mv (.tmp 7)), none⟩, ⟨(some 59), (.mv (.tmp 14)), none⟩, ⟨(some 60), (.bin .neq 3 (.tmp 58) (.tmp 59)), none⟩, ⟨(some 61), (.mv (.tmp 60)), none⟩, ⟨(some 62), (.mv (.tmp 8)), (some (61, false))⟩, ⟨(some 63), (.mv (.tmp 15)), (some (61, false))⟩, ⟨(some 64), (.bin .neq 3 (.tmp 62) (.tmp 63)), (some (61, false))⟩, ⟨(some 65), (.pick (.tmp 61) (.const (.bool true)) (.tmp 64)), none⟩]
def r9_28 : List AOper := [⟨(some 6), (.mv (.const (.bool false))), none⟩]
def r9_31 : List AOper := [⟨(some 66), (.mv (.tmp 15)), none⟩, ⟨(some 67), (.bin .eql 3 (.tmp 66) (.const (.int .i64 0))), none⟩]
def r9_33 : List AOper := [⟨(some 68), (.load true 2 (.tmp 3)), none⟩, ⟨(some 69), (.mv (.tmp 1)), none⟩, ⟨(some 70), (.call 51 [(.tmp 68), (.tmp 69)]), none⟩, ⟨(some 15), (.mv (.tmp 70)), none⟩]
def r9_36 : List AOper := [⟨(some 71), (.mv (.tmp 15)), none⟩, ⟨(some 72), (.bin .neq 3 (.tmp 71) (.const (.int .i64 0))), none⟩]
def r9_39 : List AOper := [⟨(some 73), (.mv (.tmp 10)), none⟩, ⟨(some 74), (.mv (.tmp 15)), none⟩, ⟨(some 75), (.bin .eql 3 (.tmp 73) (.tmp 74)), none⟩, ⟨(some 76), (.mv (.tmp 75)), none⟩, ⟨(some 77), (.mv (.tmp 13)), (some (76, true))⟩, ⟨(some 78), (.mv (.tmp 15)), (some (76, true))⟩, ⟨(some 79), (.bin .eql 3 (.tmp 77) (.tmp 78)), (some (76, true))⟩, ⟨(some 80), (.pick (.tmp 76) (.tmp 79) (.const (.bool false))), none⟩, ⟨(some 81), (.mv (.tmp 80)), none⟩, ⟨(some 82), (.mv (.tmp 9)), (some (81, true))⟩, ⟨(some 83), (.bin .eql 3 (.tmp 82) (.const (.int .i64 0))), (some (81, true))⟩, ⟨(some 84), (.pick (.tmp 81) (.tmp 83) (.const (.bool false))), none⟩, ⟨(some 85), (.mv (.tmp 84)), none⟩, ⟨(some 86), (.mv (.tmp 11)), (some (85, true))⟩, ⟨(some 87), (.len (.tmp 86)), (some (85, true))⟩, ⟨(some 88), (.bin .eql 3 (.tmp 87) (.const (.int .i64 0))), (some (85, true))⟩, ⟨(some 89), (.pick (.tmp 85) (.tmp 88) (.const (.bool false))), none⟩, ⟨(some 90), (.mv (.tmp 89)), none⟩, ⟨(some 91), (.mv (.tmp 12)), (some (90, true))⟩, ⟨(some 92), (.bin .eql 3 (.tmp 91) (.const (.int .i64 0))), (some (90, true))⟩, ⟨(some 93), (.pick (.tmp 90) (.tmp 92) (.const (.bool false))), none⟩, ⟨(some 6), (.mv (.tmp 93)), none⟩]
def r9_42 : List AOper := [⟨(some 94), (.load true 2 (.tmp 3)), none⟩, ⟨(some 95), (.mv (.tmp 1)), none⟩, ⟨(some 96), (.call 52 [(.tmp 94), (.tmp 95)]), none⟩, ⟨(some 16), (.mv (.tmp 96)), none⟩]
def r9_44 : List AOper := [⟨(some 97), (.mv (.tmp 16)), none⟩, ⟨(some 98), (.bin .lss 3 (.tmp 97) (.const (.int .i64 0))), none⟩, ⟨(some 99), (.mv (.tmp 98)), none⟩, ⟨(some 100), (.mv (.tmp 10)), (some (99, true))⟩, ⟨(some 101), (.bin .neq 32 (.tmp 100) (.const (.int .i64 17))), (some (99, true))⟩, ⟨(some 102), (.mv (.tmp 101)), (some (99, true))⟩, ⟨(some 103), (.mv (.tmp 9)), (some (102, false))⟩, ⟨(some 104), (.bin .neq 3 (.tmp 103) (.const (.int .i64 0))), (some (102, false))⟩, ⟨(some 105), (.pick (.tmp 102) (.const (.bool true)) (.tmp 104)), (some (99, true))⟩, ⟨(some 106), (.pick (.tmp 99) (.tmp 105) (.const (.bool false))), none⟩, ⟨(some 107), (.mv (.tmp 106)), none⟩, ⟨(some 108), (.mv (.tmp 16)), (some (107, false))⟩, ⟨(some 109), (.bin .geq 3 (.tmp 108) (.const (.int .i64 0))), (some (107, false))⟩, ⟨(some 110), (.mv (.tmp 109)), (some (107, false))⟩, ⟨(some 111), (.mv (.tmp 10)), (some (110, true))⟩, ⟨(some 112), (.bin .neq 32 (.tmp 111) (.const (.int .i64 0))), (some (110, true))⟩, ⟨(some 113), (.mv (.tmp 112)), (some (110, true))⟩, ⟨(some 114), (.mv (.tmp 9)), (some (113, false))⟩, ⟨(some 115), (.mv (.tmp 16)), (some (113, false))⟩, ⟨(some 116), (.bin .neq 3 (.tmp 114) (.tmp 115)), (some (113, false))⟩, ⟨(some 117), (.pick (.tmp 113) (.const (.bool true)) (.tmp 116)), (some (110, true))⟩, ⟨(some 118), (.pick (.tmp 110) (.tmp 117) (.const (.bool false))), (some (107, false))⟩, ⟨(some 119), (.pick (.tmp 107) (.const (.bool true)) (.tmp 118)), none⟩]
def r9_47 : List AOper := [⟨(some 6), (.mv (.const (.bool false))), none⟩]
def r9_50 : List AOper := [⟨(some 120), (.mv (.tmp 2)), none⟩, ⟨(some 121), (.faddr 0 (.tmp 3)), none⟩, ⟨(some 122), (.load false 1 (.tmp 121)), none⟩, ⟨(some 123), (.len (.tmp 122)), none⟩, ⟨(some 124), (.bin .sub 3 (.tmp 123) (.const (.int .i64 1))), none⟩, ⟨(some 125), (.call 19 [(.tmp 120), (.const (.int .i64 0)), (.tmp 124)]), none⟩, ⟨(some 126), (.pure (oB (.unOp .not 4 (.tmp 125)) 4)), none⟩]
def r9_53 : List AOper := [⟨(some 127), (.mv (.tmp 13)), none⟩, ⟨(some 128), (.bin .eql 32 (.tmp 127) (.const (.int .i64 6))), none⟩, ⟨(some 129), (.mv (.tmp 128)), none⟩, ⟨(some 130), (.mv (.tmp 11)), (some (129, true))⟩, ⟨(some 131), (.len (.tmp 130)), (some (129, true))⟩, ⟨(some 132), (.bin .eql 3 (.tmp 131) (.const (.int .i64 0))), (some (129, true))⟩, ⟨(some 133), (.pick (.tmp 129) (.tmp 132) (.const (.bool false))), none⟩, ⟨(some 134), (.mv (.tmp 133)), none⟩, ⟨(some 135), (.mv (.tmp 12)), (some (134, true))⟩, ⟨(some 136), (.bin .eql 3 (.tmp 135) (.const (.int .i64 0))), (some (134, true))⟩, ⟨(some 137), (.pick (.tmp 134) (.tmp 136) (.const (.bool false))), none⟩, ⟨(some 6), (.mv (.tmp 137)), none⟩]
def r9_55 : List AOper := [⟨(some 138), (.mv (.tmp 1)), none⟩, ⟨(some 139), (.mv (.tmp 2)), none⟩, ⟨(some 140), (.call 53 [(.tmp 138), (.tmp 139)]), none⟩, ⟨(some 17), (.mv (.tmp 140)), none⟩]
def r9_58 : List AOper := [⟨(some 141), (.load true 2 (.tmp 3)), none⟩, ⟨(some 142), (.mv (.tmp 17)), none⟩, ⟨(some 143), (.call 52 [(.tmp 141), (.tmp 142)]), none⟩, ⟨(some 18), (.mv (.tmp 143)), none⟩]
def r9_60 : List AOper := [⟨(some 144), (.mv (.tmp 18)), none⟩, ⟨(some 145), (.bin .geq 3 (.tmp 144) (.const (.int .i64 0))), none⟩]
def r9_63 : List AOper := [⟨(some 146), (.mv (.tmp 13)), none⟩, ⟨(some 147), (.bin .eql 32 (.tmp 146) (.const (.int .i64 24))), none⟩, ⟨(some 148), (.mv (.tmp 147)), none⟩, ⟨(some 149), (.mv (.tmp 12)), (some (148, true))⟩, ⟨(some 150), (.mv (.tmp 18)), (some (148, true))⟩, ⟨(some 151), (.bin .eql 3 (.tmp 149) (.tmp 150)), (some (148, true))⟩, ⟨(some 152), (.pick (.tmp 148) (.tmp 151) (.const (.bool false))), none⟩, ⟨(some 153), (.mv (.tmp 152)), none⟩, ⟨(some 154), (.mv (.tmp 11)), (some (153, true))⟩, ⟨(some 155), (.len (.tmp 154)), (some (153, true))⟩, ⟨(some 156), (.bin .eql 3 (.tmp 155) (.const (.int .i64 0))), (some (153, true))⟩, ⟨(some 157), (.pick (.tmp 153) (.tmp 156) (.const (.bool false))), none⟩, ⟨(some 6), (.mv (.tmp 157)), none⟩]
def r9_65 : List AOper := [⟨(some 158), (.mv (.tmp 13)), none⟩, ⟨(some 159), (.bin .eql 32 (.tmp 158) (.const (.int .i64 0))), none⟩, ⟨(some 160), (.mv (.tmp 159)), none⟩, ⟨(some 161), (.mv (.tmp 12)), (some (160, true))⟩, ⟨(some 162), (.bin .eql 3 (.tmp 161) (.const (.int .i64 0))), (some (160, true))⟩, ⟨(some 163), (.pick (.tmp 160) (.tmp 162) (.const (.bool false))), none⟩, ⟨(some 164), (.mv (.tmp 163)), none⟩, ⟨(some 165), (.mv (.tmp 11)), (some (164, true))⟩, ⟨(some 166), (.mv (.tmp 17)), (some (164, true))⟩, ⟨(some 167), (.call 54 [(.tmp 165), (.tmp 166)]), (some (164, true))⟩, ⟨(some 168), (.pick (.tmp 164) (.tmp 167) (.const (.bool false))), none⟩, ⟨(some 6), (.mv (.tmp 168)), none⟩]
def tr9 : List (Nat × Tidy) := [(0, ⟨[1, 2, 3], true, [], []⟩), (1, ⟨[1, 2, 3, 20], true, [], []⟩), (2, ⟨[6], true, [], []⟩), (3, ⟨[1, 2, 3, 28], true, [], []⟩), (4, ⟨[6], true, [], []⟩), (5, ⟨[1, 2, 3, 7, 8], true, [], []⟩), (6, ⟨[1, 2, 3, 7, 8, 9, 10], true, [], []⟩), (7, ⟨[1, 2, 3, 7, 8, 9, 10, 11, 12, 13], true, [], []⟩), (8, ⟨[1, 2, 3, 7, 8, 9, 10, 11, 12, 13, 14, 15], true, [], []⟩), (9, ⟨[1, 2, 3, 9, 10, 11, 12, 13, 15, 65], true, [], []⟩), (10, ⟨[6], true, [], []⟩), (11, ⟨[1, 2, 3, 9, 10, 11, 12, 13, 15, 67], true, [], []⟩), (12, ⟨[1, 2, 3, 9, 10, 11, 12, 13, 15], true, [], []⟩), (13, ⟨[1, 2, 3, 9, 10, 11, 12, 13, 15, 72], true, [], []⟩), (14, ⟨[6], true, [], []⟩), (15, ⟨[1, 2, 3, 9, 10, 11, 12, 13, 16], true, [], []⟩), (16, ⟨[1, 2, 3, 11, 12, 13, 119], true, [], []⟩), (17, ⟨[6], true, [], []⟩), (18, ⟨[1, 2, 3, 11, 12, 13, 126], true, [], []⟩), (19, ⟨[6], true, [], []⟩), (20, ⟨[3, 11, 12, 13, 17], true, [], []⟩), (21, ⟨[11, 12, 13, 17, 18], true, [], []⟩), (22, ⟨[11, 12, 13, 17, 18, 145], true, [], []⟩), (23, ⟨[6], true, [], []⟩), (24, ⟨[6], true, [], []⟩)]
def tl9 : List (Nat × Tidy) := []
def rs9 : List AResV := [.tmp 6]
def p9_0_0 : PT St := pS [sl 1 (aV false [(cD dL)]), sl 2 (aV false [(cD (dI .i64))]), sl 3 (aV false [(cPtr 3 0)]), sl 9 (aV false [(cD (dI .i64))]), sl 10 (aV false [(cD (dI .i64))]), sl 11 (aV false [(cRef 49)]), sl 12 (aV false [(cD (dI .i64))]), sl 13 (aV false [(cD (dI .i64))]), sl 15 (aV false [(cD (dI .i64))]), sl 65 (aV false [(cD dB)])] [eBox 3 [(cD dL), (cD dL)], eOwn 49 1]
def u9_0_0 {β : Type} (g : St → β) : Rows → Int → Int → Int → Int → Int → Int → Bool → Rows → Rows → Rows → β := p9_0_0.unc g

def p9_0_1 : PT St := pS [sl 1 (aV false [(cD dL)]), sl 2 (aV false [(cD (dI .i64))]), sl 3 (aV false [(cPtr 3 0)]), sl 9 (aV false [(cD (dI .i64))]), sl 10 (aV false [(cD (dI .i64))]), sl 11 (aV false [(cRef 49)]), sl 12 (aV false [(cD (dI .i64))]), sl 13 (aV false [(cD (dI .i64))]), sl 15 (aV false [(cD (dI .i64))])] [eBox 3 [(cD dL), (cD dL)], eOwn 49 1]
def u9_0_1 {β : Type} (g : St → β) : Rows → Int → Int → Int → Int → Int → Int → Rows → Rows → Rows → β := p9_0_1.unc g

def p9_0_2 : PT St := pS [sl 1 (aV false [(cD dL)]), sl 2 (aV false [(cD (dI .i64))]), sl 3 (aV false [(cPtr 3 0)]), sl 9 (aV false [(cD (dI .i64))]), sl 10 (aV false [(cD (dI .i64))]), sl 11 (aV false [(cRef 49)]), sl 12 (aV false [(cD (dI .i64))]), sl 13 (aV false [(cD (dI .i64))]), sl 15 (aV false [(cD (dI .i64))]), sl 67 (aV false [(cD dB)])] [eBox 3 [(cD dL), (cD dL)], eOwn 49 1]
def u9_0_2 {β : Type} (g : St → β) : Rows → Int → Int → Int → Int → Int → Int → Bool → Rows → Rows → Rows → β := p9_0_2.unc g

def p9_0_3 : PT St := pS [sl 1 (aV false [(cD dL)]), sl 2 (aV false [(cD (dI .i64))]), sl 3 (aV false [(cPtr 3 0)]), sl 9 (aV false [(cD (dI .i64))]), sl 10 (aV false [(cD (dI .i64))]), sl 11 (aV false [(cRef 49)]), sl 12 (aV false [(cD (dI .i64))]), sl 13 (aV false [(cD (dI .i64))]), sl 16 (aV false [(cD (dI .i64))])] [eBox 3 [(cD dL), (cD dL)], eOwn 49 1]
def u9_0_3 {β : Type} (g : St → β) : Rows → Int → Int → Int → Int → Int → Int → Rows → Rows → Rows → β := p9_0_3.unc g

def p9_0_4 : PT St := pS [sl 1 (aV false [(cD dL)]), sl 2 (aV false [(cD (dI .i64))]), sl 3 (aV false [(cPtr 3 0)]), sl 11 (aV false [(cRef 49)]), sl 12 (aV false [(cD (dI .i64))]), sl 13 (aV false [(cD (dI .i64))]), sl 119 (aV false [(cD dB)])] [eBox 3 [(cD dL), (cD dL)], eOwn 49 1]
def u9_0_4 {β : Type} (g : St → β) : Rows → Int → Int → Int → Bool → Rows → Rows → Rows → β := p9_0_4.unc g

def pr9_0_0 : PT (List RV) := pRs [pR false [rD dB]]
def ur9_0_0 {β : Type} (g : List RV → β) : Bool → β := pr9_0_0.unc g

def E9_0g (vf14_0 : Tf14_0) (vf44_0 : Tf44_0) (vf46_0 : Tf46_0) (vf45_0 : Tf45_0) (vf48_0 : Tf48_0) (vf47_0 : Tf47_0) (vf49_0 : Tf49_0) (vf50_0 : Tf50_0) (vf51_0 : Tf51_0) (vf52_0 : Tf52_0) (vf19_0 : Tf19_0) (vf53_0 : Tf53_0) (vf54_0 : Tf54_0) : EnvK := EnvK.of [⟨14, nt14, [⟨pa14_0, Fn14_0 vf14_0⟩]⟩, ⟨44, nt44, [⟨pa44_0, Fn44_0 vf44_0⟩]⟩, ⟨46, nt46, [⟨pa46_0, Fn46_0 vf46_0⟩]⟩, ⟨45, nt45, [⟨pa45_0, Fn45_0 vf45_0⟩]⟩, ⟨48, nt48, [⟨pa48_0, Fn48_0 vf48_0⟩]⟩, ⟨47, nt47, [⟨pa47_0, Fn47_0 vf47_0⟩]⟩, ⟨49, nt49, [⟨pa49_0, Fn49_0 vf49_0⟩]⟩, ⟨50, nt50, [⟨pa50_0, Fn50_0 vf50_0⟩]⟩, ⟨51, nt51, [⟨pa51_0, Fn51_0 vf51_0⟩]⟩, ⟨52, nt52, [⟨pa52_0, Fn52_0 vf52_0⟩]⟩, ⟨19, nt19, [⟨pa19_0, Fn19_0 vf19_0⟩]⟩, ⟨53, nt53, [⟨pa53_0, Fn53_0 vf53_0⟩]⟩, ⟨54, nt54, [⟨pa54_0, Fn54_0 vf54_0⟩]⟩] noSeq
noncomputable def E9_0 : EnvK := E9_0g f14_0 f44_0 f46_0 f45_0 f48_0 f47_0 f49_0 f50_0 f51_0 f52_0 f19_0 f53_0 f54_0
theorem eo9_0 : E9_0.Ok Try.prog := EnvK.of_ok noSeq_ok ⟨⟨io14_0, trivial⟩, ⟨io44_0, trivial⟩, ⟨io46_0, trivial⟩, ⟨io45_0, trivial⟩, ⟨io48_0, trivial⟩, ⟨io47_0, trivial⟩, ⟨io49_0, trivial⟩, ⟨io50_0, trivial⟩, ⟨io51_0, trivial⟩, ⟨io52_0, trivial⟩, ⟨io19_0, trivial⟩, ⟨io53_0, trivial⟩, ⟨io54_0, trivial⟩, trivial⟩

noncomputable def c9_0_43g  : MCode := (.region r9_44 [] (some ⟨[1, 2, 3, 11, 12, 13, 119], true, [], []⟩))
noncomputable def c9_0_43 : MCode := c9_0_43g 
theorem g9_0_43 : c9_0_43.Good Try.prog E9_0 sh9 := trivial
--CODE 43 0
abbrev TJ9_0_1 : Type 1 := (α : Type) → Int → Int → Int → (Bool → Option α) → Option α
def J9_0_1g  (α : Type) (x42 : Int) (x43 : Int) (x46 : Int) (k1 : Bool → Option α) : Option α :=
  cK (decide (x46 < 0))
    (cK (x43 != 17)
      (k1 true)
      (cK (x42 != 0)
        (k1 true)
        (cK (decide (0 ≤ x46))
          (cK (x43 != 0)
            (k1 true)
            (k1 (x42 != x46)))
          (k1 false))))
    (cK (decide (0 ≤ x46))
      (cK (x43 != 0)
        (k1 true)
        (k1 (x42 != x46)))
      (k1 false))
noncomputable def J9_0_1 (α : Type) (x42 : Int) (x43 : Int) (x46 : Int) (k1 : Bool → Option α) : Option α := J9_0_1g  α x42 x43 x46 k1
def F9_0_1 (v : TJ9_0_1) (α : Type) (K : Exit → St → Option α) : Rows → Int → Int → Int → Int → Int → Int → Rows → Rows → Rows → Option α := fun x40 x41 x42 x43 x44 x45 x46 x47 x48 x49 => v α x42 x43 x46 (fun (y1 : Bool) => u9_0_4 (K .normal) x40 x41 x44 x45 y1 x47 x48 x49) 
theorem m9_0_1g (vf14_0 : Tf14_0) (vf44_0 : Tf44_0) (vf46_0 : Tf46_0) (vf45_0 : Tf45_0) (vf48_0 : Tf48_0) (vf47_0 : Tf47_0) (vf49_0 : Tf49_0) (vf50_0 : Tf50_0) (vf51_0 : Tf51_0) (vf52_0 : Tf52_0) (vf19_0 : Tf19_0) (vf53_0 : Tf53_0) (vf54_0 : Tf54_0)  (α : Type) (K : Exit → St → Option α) : F9_0_1 (J9_0_1g ) α K = p9_0_3.unc fun σ => runM Try.prog (E9_0g vf14_0 vf44_0 vf46_0 vf45_0 vf48_0 vf47_0 vf49_0 vf50_0 vf51_0 vf52_0 vf19_0 vf53_0 vf54_0) sh9 (c9_0_43g ) K σ := by kernel_rfl
theorem m9_0_1 : ∀ (α : Type) (K : Exit → St → Option α), F9_0_1 J9_0_1 α K = p9_0_3.unc fun σ => runM Try.prog E9_0 sh9 c9_0_43 K σ := m9_0_1g f14_0 f44_0 f46_0 f45_0 f48_0 f47_0 f49_0 f50_0 f51_0 f52_0 f19_0 f53_0 f54_0

noncomputable def c9_0_29g  : MCode := (.seq (.region r9_31 [] (some ⟨[1, 2, 3, 9, 10, 11, 12, 13, 15, 67], true, [], []⟩)) (.cond (.tmp 67) (.region r9_33 [] (some ⟨[1, 2, 3, 9, 10, 11, 12, 13, 15], true, [], []⟩)) .skip))
noncomputable def c9_0_29 : MCode := c9_0_29g 
theorem g9_0_29 : c9_0_29.Good Try.prog E9_0 sh9 := ⟨trivial, ⟨trivial, trivial⟩⟩
--CODE 29 0
abbrev TJ9_0_0 : Type 1 := (α : Type) → Rows → Int → Rows → Rows → (Int → Option α) → (Bool → Option α) → Option α
def J9_0_0g (vf51_0 : Tf51_0) (α : Type) (x23 : Rows) (x29 : Int) (x31 : Rows) (x32 : Rows) (k1 : Int → Option α) (k2 : Bool → Option α) : Option α :=
  cK (x29 == 0)
    (vf51_0 α x31 x32 x23
      (fun (x35 : Int) => k1 x35))
    (k2 (x29 == 0))
noncomputable def J9_0_0 (α : Type) (x23 : Rows) (x29 : Int) (x31 : Rows) (x32 : Rows) (k1 : Int → Option α) (k2 : Bool → Option α) : Option α := J9_0_0g f51_0 α x23 x29 x31 x32 k1 k2
def F9_0_0 (v : TJ9_0_0) (α : Type) (K : Exit → St → Option α) : Rows → Int → Int → Int → Int → Int → Int → Bool → Rows → Rows → Rows → Option α := fun x23 x24 x25 x26 x27 x28 x29 x30 x31 x32 x33 => v α x23 x29 x31 x32 (fun (y1 : Int) => u9_0_1 (K .normal) x23 x24 x25 x26 x27 x28 y1 x31 x32 x33) (fun (y1 : Bool) => u9_0_2 (K .normal) x23 x24 x25 x26 x27 x28 x29 y1 x31 x32 x33) 
theorem m9_0_0g (vf14_0 : Tf14_0) (vf44_0 : Tf44_0) (vf46_0 : Tf46_0) (vf45_0 : Tf45_0) (vf48_0 : Tf48_0) (vf47_0 : Tf47_0) (vf49_0 : Tf49_0) (vf50_0 : Tf50_0) (vf51_0 : Tf51_0) (vf52_0 : Tf52_0) (vf19_0 : Tf19_0) (vf53_0 : Tf53_0) (vf54_0 : Tf54_0)  (α : Type) (K : Exit → St → Option α) : F9_0_0 (J9_0_0g vf51_0) α K = p9_0_0.unc fun σ => runM Try.prog (E9_0g vf14_0 vf44_0 vf46_0 vf45_0 vf48_0 vf47_0 vf49_0 vf50_0 vf51_0 vf52_0 vf19_0 vf53_0 vf54_0) sh9 (c9_0_29g ) K σ := by kernel_rfl
theorem m9_0_0 : ∀ (α : Type) (K : Exit → St → Option α), F9_0_0 J9_0_0 α K = p9_0_0.unc fun σ => runM Try.prog E9_0 sh9 c9_0_29 K σ := m9_0_0g f14_0 f44_0 f46_0 f45_0 f48_0 f47_0 f49_0 f50_0 f51_0 f52_0 f19_0 f53_0 f54_0

/-- etalon/etalonlaw08.GrowChambers -/
abbrev Tf9_0 : Type 1 := (α : Type) → Rows → Rows → Rows → Int → (Bool → Option α) → Option α
def f9_0g (vJ9_0_0 : TJ9_0_0) (vJ9_0_1 : TJ9_0_1) (vf14_0 : Tf14_0) (vf19_0 : Tf19_0) (vf44_0 : Tf44_0) (vf45_0 : Tf45_0) (vf46_0 : Tf46_0) (vf47_0 : Tf47_0) (vf48_0 : Tf48_0) (vf49_0 : Tf49_0) (vf50_0 : Tf50_0) (vf52_0 : Tf52_0) (vf53_0 : Tf53_0) (vf54_0 : Tf54_0) (α : Type) (x1 : Rows) (x2 : Rows) (x3 : Rows) (x4 : Int) (k1 : Bool → Option α) : Option α :=
  vf14_0 α 
    (vf44_0 α x1 x2
      (fun (x5 : Bool) => cK (!x5)
        (k1 true)
        (cK (decide (12 < ((List.length x3 : Nat) : Int)))
          (k1 true)
          (vf46_0 α x1 x2
            (fun (x6 : Rows) (x7 : Rows) => vf45_0 α x6 x7
              (fun (x8 : Int) (x9 : Int) => vf46_0 α x1 x2
                (fun (x10 : Rows) (x11 : Rows) => vf48_0 α x3
                  (fun (x12 : Rows) => vf47_0 α x10 x11 x12
                    (fun (x13 : Int) (x14 : Int) => vf46_0 α x1 x2
                      (fun (x15 : Rows) (x16 : Rows) => vf48_0 α x3
                        (fun (x17 : Rows) => vf49_0 α x15 x16 x17 x4
                          (fun (x18 : Rows) (x19 : Int) (x20 : Int) => flatK [x18]
                            (vf50_0 α x1 x2
                              (fun (x21 : Int) (x22 : Int) => cK (x8 != x21)
                                (k1 false)
                                (cK (x9 != x22)
                                  (k1 false)
                                  (vJ9_0_0 α x3 x22 x1 x2
                                    (fun (x36 : Int) => cK (x36 != 0)
                                      (cK (x14 == x36)
                                        (cK (x20 == x36)
                                          (cK (x13 == 0)
                                            (cK (((List.length x18 : Nat) : Int) == 0)
                                              (k1 (x19 == 0))
                                              (k1 false))
                                            (k1 false))
                                          (k1 false))
                                        (k1 false))
                                      (vf52_0 α x1 x2 x3
                                        (fun (x39 : Int) => vJ9_0_1 α x13 x14 x39
                                          (fun (x51 : Bool) => cK x51
                                            (k1 false)
                                            (vf19_0 α x4 0 (w64 (((List.length x1 : Nat) : Int) - 1))
                                              (fun (x53 : Bool) => cK (!x53)
                                                (cK (x20 == 6)
                                                  (cK (((List.length x18 : Nat) : Int) == 0)
                                                    (k1 (x19 == 0))
                                                    (k1 false))
                                                  (k1 false))
                                                (vf53_0 α x3 x4
                                                  (fun (x54 : Rows) => vf52_0 α x1 x2 x54
                                                    (fun (x55 : Int) => cK (decide (0 ≤ x55))
                                                      (cK (x20 == 24)
                                                        (cK (x19 == x55)
                                                          (k1 (((List.length x18 : Nat) : Int) == 0))
                                                          (k1 false))
                                                        (k1 false))
                                                      (cK (x20 == 0)
                                                        (cK (x19 == 0)
                                                          (vf54_0 α x18 x54
                                                            (fun (x56 : Bool) => k1 x56))
                                                          (k1 false))
                                                        (k1 false)))))))))))
                                    (fun (x37 : Bool) => cK (x22 != 0)
                                      (cK (x14 == x22)
                                        (cK (x20 == x22)
                                          (cK (x13 == 0)
                                            (cK (((List.length x18 : Nat) : Int) == 0)
                                              (k1 (x19 == 0))
                                              (k1 false))
                                            (k1 false))
                                          (k1 false))
                                        (k1 false))
                                      (vf52_0 α x1 x2 x3
                                        (fun (x57 : Int) => vJ9_0_1 α x13 x14 x57
                                          (fun (x58 : Bool) => cK x58
                                            (k1 false)
                                            (vf19_0 α x4 0 (w64 (((List.length x1 : Nat) : Int) - 1))
                                              (fun (x60 : Bool) => cK (!x60)
                                                (cK (x20 == 6)
                                                  (cK (((List.length x18 : Nat) : Int) == 0)
                                                    (k1 (x19 == 0))
                                                    (k1 false))
                                                  (k1 false))
                                                (vf53_0 α x3 x4
                                                  (fun (x61 : Rows) => vf52_0 α x1 x2 x61
                                                    (fun (x62 : Int) => cK (decide (0 ≤ x62))
                                                      (cK (x20 == 24)
                                                        (cK (x19 == x62)
                                                          (k1 (((List.length x18 : Nat) : Int) == 0))
                                                          (k1 false))
                                                        (k1 false))
                                                      (cK (x20 == 0)
                                                        (cK (x19 == 0)
                                                          (vf54_0 α x18 x61
                                                            (fun (x63 : Bool) => k1 x63))
                                                          (k1 false))
                                                        (k1 false)))))))))))))))))))))))))))
noncomputable def f9_0 (α : Type) (x1 : Rows) (x2 : Rows) (x3 : Rows) (x4 : Int) (k1 : Bool → Option α) : Option α := f9_0g J9_0_0 J9_0_1 f14_0 f19_0 f44_0 f45_0 f46_0 f47_0 f48_0 f49_0 f50_0 f52_0 f53_0 f54_0 α x1 x2 x3 x4 k1
def pa9_0 : PT (List DV) := pA [pV true [dL, dL], pV false [dL], pV false [(dI .i64)]]
def Fn9_0 (v : Tf9_0) (α : Type) (k : List RV → Option α) : Rows → Rows → Rows → Int → Option α := fun x1 x2 x3 x4 => v α x1 x2 x3 x4 (fun (y1 : Bool) => ur9_0_0 k y1)
noncomputable def cm9_0g (vJ9_0_0 : TJ9_0_0) (vJ9_0_1 : TJ9_0_1) : MCode := (.seq (.region r9_2 [] (some ⟨[1, 2, 3], true, [], []⟩)) (.seq (.seq (.region r9_5 [] (some ⟨[1, 2, 3, 20], true, [], []⟩)) (.cond (.tmp 20) (.seq (.region r9_8 [] (some ⟨[6], true, [], []⟩)) .ret) .skip)) (.seq (.seq (.region r9_11 [] (some ⟨[1, 2, 3, 28], true, [], []⟩)) (.cond (.tmp 28) (.seq (.region r9_14 [] (some ⟨[6], true, [], []⟩)) .ret) .skip)) (.seq (.region r9_16 [] (some ⟨[1, 2, 3, 7, 8], true, [], []⟩)) (.seq (.region r9_18 [] (some ⟨[1, 2, 3, 7, 8, 9, 10], true, [], []⟩)) (.seq (.region r9_20 [] (some ⟨[1, 2, 3, 7, 8, 9, 10, 11, 12, 13], true, [], []⟩)) (.seq (.region r9_22 [] (some ⟨[1, 2, 3, 7, 8, 9, 10, 11, 12, 13, 14, 15], true, [], []⟩)) (.seq (.seq (.region r9_25 [] (some ⟨[1, 2, 3, 9, 10, 11, 12, 13, 15, 65], true, [], []⟩)) (.cond (.tmp 65) (.seq (.region r9_28 [] (some ⟨[6], true, [], []⟩)) .ret) .skip)) (.seq (.mark [⟨p9_0_0, F9_0_0 vJ9_0_0⟩] c9_0_29) (.seq (.seq (.region r9_36 [] (some ⟨[1, 2, 3, 9, 10, 11, 12, 13, 15, 72], true, [], []⟩)) (.cond (.tmp 72) (.seq (.region r9_39 [] (some ⟨[6], true, [], []⟩)) .ret) .skip)) (.seq (.seq (.region r9_42 [] (some ⟨[1, 2, 3, 9, 10, 11, 12, 13, 16], true, [], []⟩)) (.seq (.mark [⟨p9_0_3, F9_0_1 vJ9_0_1⟩] c9_0_43) (.cond (.tmp 119) (.seq (.region r9_47 [] (some ⟨[6], true, [], []⟩)) .ret) .skip))) (.seq (.seq (.region r9_50 [] (some ⟨[1, 2, 3, 11, 12, 13, 126], true, [], []⟩)) (.cond (.tmp 126) (.seq (.region r9_53 [] (some ⟨[6], true, [], []⟩)) .ret) .skip)) (.seq (.region r9_55 [] (some ⟨[3, 11, 12, 13, 17], true, [], []⟩)) (.seq (.seq (.region r9_58 [] (some ⟨[11, 12, 13, 17, 18], true, [], []⟩)) (.seq (.region r9_60 [] (some ⟨[11, 12, 13, 17, 18, 145], true, [], []⟩)) (.cond (.tmp 145) (.seq (.region r9_63 [] (some ⟨[6], true, [], []⟩)) .ret) .skip))) (.seq (.region r9_65 [] (some ⟨[6], true, [], []⟩)) .ret)))))))))))))))
noncomputable def cm9_0 : MCode := cm9_0g J9_0_0 J9_0_1
theorem gm9_0 : cm9_0.Good Try.prog E9_0 sh9 := ⟨trivial, ⟨⟨trivial, ⟨⟨trivial, trivial⟩, trivial⟩⟩, ⟨⟨trivial, ⟨⟨trivial, trivial⟩, trivial⟩⟩, ⟨trivial, ⟨trivial, ⟨trivial, ⟨trivial, ⟨⟨trivial, ⟨⟨trivial, trivial⟩, trivial⟩⟩, ⟨⟨g9_0_29, m9_0_0, trivial⟩, ⟨⟨trivial, ⟨⟨trivial, trivial⟩, trivial⟩⟩, ⟨⟨trivial, ⟨⟨g9_0_43, m9_0_1, trivial⟩, ⟨⟨trivial, trivial⟩, trivial⟩⟩⟩, ⟨⟨trivial, ⟨⟨trivial, trivial⟩, trivial⟩⟩, ⟨trivial, ⟨⟨trivial, ⟨trivial, ⟨⟨trivial, trivial⟩, trivial⟩⟩⟩, ⟨trivial, trivial⟩⟩⟩⟩⟩⟩⟩⟩⟩⟩⟩⟩⟩⟩⟩
theorem fm9_0g (vf14_0 : Tf14_0) (vf44_0 : Tf44_0) (vf46_0 : Tf46_0) (vf45_0 : Tf45_0) (vf48_0 : Tf48_0) (vf47_0 : Tf47_0) (vf49_0 : Tf49_0) (vf50_0 : Tf50_0) (vf51_0 : Tf51_0) (vf52_0 : Tf52_0) (vf19_0 : Tf19_0) (vf53_0 : Tf53_0) (vf54_0 : Tf54_0) (vJ9_0_0 : TJ9_0_0) (vJ9_0_1 : TJ9_0_1) (α : Type) (k : List RV → Option α) : Fn9_0 (f9_0g vJ9_0_0 vJ9_0_1 vf14_0 vf19_0 vf44_0 vf45_0 vf46_0 vf47_0 vf48_0 vf49_0 vf50_0 vf52_0 vf53_0 vf54_0) α k = pa9_0.unc fun ds => fnM Try.prog (E9_0g vf14_0 vf44_0 vf46_0 vf45_0 vf48_0 vf47_0 vf49_0 vf50_0 vf51_0 vf52_0 vf19_0 vf53_0 vf54_0) sh9 (cm9_0g vJ9_0_0 vJ9_0_1) rs9 k ds := by kernel_rfl
theorem fm9_0 : ∀ (α : Type) (k : List RV → Option α), Fn9_0 f9_0 α k = pa9_0.unc fun ds => fnM Try.prog E9_0 sh9 cm9_0 rs9 k ds := fm9_0g f14_0 f44_0 f46_0 f45_0 f48_0 f47_0 f49_0 f50_0 f51_0 f52_0 f19_0 f53_0 f54_0 J9_0_0 J9_0_1

theorem is9 : FnIs Try.prog 9 nt9 tr9 tl9 cm9_0.erase rs9 := ⟨Try.f9, Try.func9, rfl, by kernel_rfl, by kernel_rfl, by kernel_rfl⟩
theorem io9_0 : InstOk Try.prog 9 nt9 ⟨pa9_0, Fn9_0 f9_0⟩ := inst_ok eo9_0 followsTry is9 ⟨⟨sh9, cm9_0, by kernel_rfl, gm9_0, fm9_0⟩⟩

/-! ### F131: an iterator -/
abbrev Tq131 : Type := Rows → Rows → Int → Option (List (List Value))
def pq131 : PT (List DC) := PT.ofL [(dP [dL, dL] 0), (dP [(dI .i64)] 0)]
noncomputable def E131q : EnvK := EnvK.of [⟨105, nt105, [⟨pa105_0, Fn105_0 f105_0⟩]⟩, ⟨116, nt116, [⟨pa116_0, Fn116_0 f116_0⟩]⟩] noSeq
theorem eo131q : E131q.Ok Try.prog := EnvK.of_ok noSeq_ok ⟨⟨io105_0, trivial⟩, ⟨io116_0, trivial⟩, trivial⟩
noncomputable def q131 (a b : Rows) (s : Int) : Option (List (List Value)) := nextSq E131q.env 131 [.cref [.sl a, .sl b] 0, .cref [.v (.int .i64 s)] 0]
theorem sqok131 : SeqOk Try.prog ⟨131, pq131, q131⟩ := fun caps xs h => by
  have e : q131 = pq131.unc fun caps => nextSq E131q.env 131 caps := rfl
  simp only at h
  rw [e] at h
  rcases pq131.law caps with hl | hr
  · rw [hl] at h; exact next_ok _ eo131q.ok 131 caps xs (by simpa using h)
  · rw [hr] at h; cases h

/-! ### F109 etalon/grow.openChange -/
abbrev nt109 : Nat := 47
def sh109 : List (Nat × List Sh) := [(11, [.sl, .sl]), (13, [.sl]), (15, [.sl]), (25, [.sl, .sl]), (27, [.int .i64]), (28, [.int .i64]), (30, [.int .i64]), (31, [.int .i64]), (33, [.sl, .sl]), (35, [.int .i64]), (39, [.sl, .sl]), (41, [.int .i64]), (46, [.sl, .sl, .int .i64, .int .i64])]
def r109_2 : List AOper := [⟨(some 2), (.box (.tmp 0)), none⟩, ⟨(some 3), (.box (.tmp 1)), none⟩, ⟨(some 4), (.alloc [.nils, .nils, (.d (.v (.int .i64 0))), (.d (.v (.int .i64 0)))]), none⟩, ⟨(some 5), (.mv (.const (.int .i64 0))), none⟩]
def r109_4 : List AOper := [⟨(some 11), (.load true 2 (.tmp 2)), none⟩, ⟨(some 12), (.faddr 0 (.tmp 3)), none⟩, ⟨(some 13), (.load false 1 (.tmp 12)), none⟩, ⟨(some 14), (.faddr 1 (.tmp 3)), none⟩, ⟨(some 15), (.load false 1 (.tmp 14)), none⟩, ⟨(some 16), (.bslice 1 2 [(.sl [])] [(0, (.tmp 13)), (1, (.tmp 15))]), none⟩, ⟨(some 17), (.call 103 [(.tmp 11), (.tmp 16)]), none⟩, ⟨(some 10), (.mv (.tmp 17)), none⟩, ⟨(some 18), (.extract 0 (.tmp 10)), none⟩, ⟨(some 19), (.extract 1 (.tmp 10)), none⟩, ⟨(some 20), (.extract 2 (.tmp 10)), none⟩, ⟨(some 6), (.alloc [.nils, .nils]), none⟩, ⟨none, (.store 2 (.tmp 6) (.tmp 18)), none⟩, ⟨(some 7), (.mv (.tmp 19)), none⟩, ⟨(some 8), (.mv (.tmp 20)), none⟩]
def r109_7 : List AOper := [⟨(some 21), (.mv (.tmp 8)), none⟩, ⟨(some 22), (.bin .neq 32 (.tmp 21) (.const (.int .i64 0))), none⟩]
def r109_10 : List AOper := [⟨(some 23), (.build [.nils, .nils, (.d (.v (.int .i64 0))), (.d (.v (.int .i64 0)))] []), none⟩, ⟨(some 24), (.mv (.tmp 8)), none⟩, ⟨none, (.store 4 (.tmp 4) (.tmp 23)), none⟩, ⟨(some 5), (.mv (.tmp 24)), none⟩]
def r109_12 : List AOper := [⟨(some 25), (.load true 2 (.tmp 6)), none⟩, ⟨(some 26), (.mv (.tmp 7)), none⟩, ⟨(some 27), (.iaddr 1 none (.tmp 26) (.const (.int .i64 0))), none⟩, ⟨(some 28), (.load false 1 (.tmp 27)), none⟩, ⟨(some 29), (.mv (.tmp 7)), none⟩, ⟨(some 30), (.iaddr 1 none (.tmp 29) (.const (.int .i64 1))), none⟩, ⟨(some 31), (.load false 1 (.tmp 30)), none⟩, ⟨(some 32), (.build [.nils, .nils, (.d (.v (.int .i64 0))), (.d (.v (.int .i64 0)))] [(0, 2, (.tmp 25)), (2, 1, (.tmp 28)), (3, 1, (.tmp 31))]), none⟩, ⟨(some 9), (.alloc [.nils, .nils, (.d (.v (.int .i64 0))), (.d (.v (.int .i64 0)))]), none⟩, ⟨none, (.store 4 (.tmp 9) (.tmp 32)), none⟩]
def r109_15 : List AOper := [⟨(some 33), (.load true 2 (.tmp 6)), none⟩, ⟨(some 34), (.faddr 2 (.tmp 9)), none⟩, ⟨(some 35), (.load false 1 (.tmp 34)), none⟩, ⟨(some 36), (.call 116 [(.tmp 33), (.tmp 35)]), none⟩, ⟨(some 37), (.pure (oB (.unOp .not 4 (.tmp 36)) 4)), none⟩, ⟨(some 38), (.mv (.tmp 37)), none⟩, ⟨(some 39), (.load true 2 (.tmp 6)), (some (38, false))⟩, ⟨(some 40), (.faddr 3 (.tmp 9)), (some (38, false))⟩, ⟨(some 41), (.load false 1 (.tmp 40)), (some (38, false))⟩, ⟨(some 42), (.call 116 [(.tmp 39), (.tmp 41)]), (some (38, false))⟩, ⟨(some 43), (.pure (oB (.unOp .not 4 (.tmp 42)) 4)), (some (38, false))⟩, ⟨(some 44), (.pick (.tmp 38) (.const (.bool true)) (.tmp 43)), none⟩]
def r109_18 : List AOper := [⟨(some 45), (.build [.nils, .nils, (.d (.v (.int .i64 0))), (.d (.v (.int .i64 0)))] []), none⟩, ⟨none, (.store 4 (.tmp 4) (.tmp 45)), none⟩, ⟨(some 5), (.mv (.const (.int .i64 24))), none⟩]
def r109_20 : List AOper := [⟨(some 46), (.load true 4 (.tmp 9)), none⟩, ⟨none, (.store 4 (.tmp 4) (.tmp 46)), none⟩, ⟨(some 5), (.mv (.const (.int .i64 0))), none⟩]
def tr109 : List (Nat × Tidy) := [(0, ⟨[2, 3, 4], true, [⟨true, 4, 0, 30400, 1⟩, ⟨true, 4, 1, 30401, 4⟩], []⟩), (1, ⟨[4, 6, 7, 8], true, [⟨true, 4, 0, 30400, 1⟩, ⟨true, 4, 1, 30401, 4⟩], []⟩), (2, ⟨[4, 6, 7, 8, 22], true, [⟨true, 4, 0, 30400, 1⟩, ⟨true, 4, 1, 30401, 4⟩], []⟩), (3, ⟨[4, 5], true, [⟨true, 4, 0, 30400, 1⟩, ⟨true, 4, 1, 30401, 4⟩], []⟩), (4, ⟨[4, 6, 9], true, [⟨true, 4, 0, 30400, 1⟩, ⟨true, 4, 1, 30401, 4⟩], []⟩), (5, ⟨[4, 9, 44], true, [⟨true, 4, 0, 30400, 1⟩, ⟨true, 4, 1, 30401, 4⟩], []⟩), (6, ⟨[4, 5], true, [⟨true, 4, 0, 30400, 1⟩, ⟨true, 4, 1, 30401, 4⟩], []⟩), (7, ⟨[4, 5], true, [⟨true, 4, 0, 30400, 1⟩, ⟨true, 4, 1, 30401, 4⟩], []⟩)]
def tl109 : List (Nat × Tidy) := []
def rs109 : List AResV := [.cell 4 true 4, .tmp 5]
def p109_0_0 : PT St := pS [sl 2 (aV false [(cPtr 2 0)]), sl 3 (aV false [(cPtr 3 0)]), sl 4 (aV false [(cPtr 4 0)])] [eBox 2 [(cD dL), (cD dL)], eBox 3 [(cD dL), (cD dL)], eBox 4 [(cRef 30400), (cRef 30401), (cD (dI .i64)), (cD (dI .i64))], eOwn 30400 1, eOwn 30401 4]
def u109_0_0 {β : Type} (g : St → β) : Rows → Rows → Rows → Rows → Int → Int → Rows → Rows → β := p109_0_0.unc g

def p109_0_1 : PT St := pS [sl 4 (aV false [(cPtr 4 0)]), sl 6 (aV false [(cPtr 6 0)]), sl 7 (aV false [(cRef 640017)]), sl 8 (aV false [(cD (dI .i64))])] [eBox 4 [(cRef 30400), (cRef 30401), (cD (dI .i64)), (cD (dI .i64))], eOwn 30400 1, eOwn 30401 4, eBox 6 [(cRef 17), (cRef 10017)], eOwn 17 1, eOwn 10017 4, eOwn 640017 1]
def u109_0_1 {β : Type} (g : St → β) : Int → Int → Int → Rows → Rows → Rows → Rows → Rows → β := p109_0_1.unc g

def p109_0_2 : PT St := pS [sl 4 (aV false [(cPtr 4 0)]), sl 6 (aV false [(cPtr 6 0)]), sl 7 (aV false [(cRef 640017)]), sl 8 (aV false [(cD (dI .i64))])] [eBox 4 [(cRef 30400), (cRef 30401), (cD (dI .i64)), (cD (dI .i64))], eOwn 30400 1, eOwn 30401 4, eBox 6 [(cD dL), (cD dL)], eOwn 640017 1]
def u109_0_2 {β : Type} (g : St → β) : Int → Int → Int → Rows → Rows → Rows → Rows → Rows → β := p109_0_2.unc g

def pr109_0_0 : PT (List RV) := pRs [pR true [rO 1, rO 4, rD (dI .i64), rD (dI .i64)], pR false [rD (dI .i64)]]
def ur109_0_0 {β : Type} (g : List RV → β) : Rows → Rows → Int → Int → Int → β := pr109_0_0.unc g

def pr109_0_1 : PT (List RV) := pRs [pR true [rD dL, rD dL, rD (dI .i64), rD (dI .i64)], pR false [rD (dI .i64)]]
def ur109_0_1 {β : Type} (g : List RV → β) : Rows → Rows → Int → Int → Int → β := pr109_0_1.unc g

def E109_0g (vf103_0 : Tf103_0) (vf116_0 : Tf116_0) : EnvK := EnvK.of [⟨103, nt103, [⟨pa103_0, Fn103_0 vf103_0⟩]⟩, ⟨116, nt116, [⟨pa116_0, Fn116_0 vf116_0⟩]⟩] noSeq
noncomputable def E109_0 : EnvK := E109_0g f103_0 f116_0
theorem eo109_0 : E109_0.Ok Try.prog := EnvK.of_ok noSeq_ok ⟨⟨io103_0, trivial⟩, ⟨io116_0, trivial⟩, trivial⟩

noncomputable def c109_0_3g  : MCode := (.region r109_4 [] (some ⟨[4, 6, 7, 8], true, [⟨true, 4, 0, 30400, 1⟩, ⟨true, 4, 1, 30401, 4⟩], []⟩))
noncomputable def c109_0_3 : MCode := c109_0_3g 
theorem g109_0_3 : c109_0_3.Good Try.prog E109_0 sh109 := trivial
--CODE 3 0
abbrev TJ109_0_0 : Type 1 := (α : Type) → Rows → Rows → Rows → Rows → (Int → Option α) → (Rows → Rows → Rows → Option α) → Option α
def J109_0_0g (vf103_0 : Tf103_0) (α : Type) (x5 : Rows) (x6 : Rows) (x7 : Rows) (x8 : Rows) (k1 : Int → Option α) (k2 : Rows → Rows → Rows → Option α) : Option α :=
  vf103_0 α x5 x6 [[DC.sl x7], [DC.sl x8]]
    (fun (x14 : Int) => flatK [([] : Rows), ([] : Rows), ([] : Rows)]
      (k1 x14))
    (fun (x15 : Rows) (x16 : Rows) (x17 : Rows) => k2 x15 x16 x17)
noncomputable def J109_0_0 (α : Type) (x5 : Rows) (x6 : Rows) (x7 : Rows) (x8 : Rows) (k1 : Int → Option α) (k2 : Rows → Rows → Rows → Option α) : Option α := J109_0_0g f103_0 α x5 x6 x7 x8 k1 k2
def F109_0_0 (v : TJ109_0_0) (α : Type) (K : Exit → St → Option α) : Rows → Rows → Rows → Rows → Int → Int → Rows → Rows → Option α := fun x5 x6 x7 x8 x9 x10 x11 x12 => v α x5 x6 x7 x8 (fun (y1 : Int) => u109_0_1 (K .normal) y1 x9 x10 x11 x12 ([] : Rows) ([] : Rows) ([] : Rows)) (fun (y1 : Rows) (y2 : Rows) (y3 : Rows) => u109_0_2 (K .normal) 0 x9 x10 x11 x12 y1 y2 y3) 
theorem m109_0_0g (vf103_0 : Tf103_0) (vf116_0 : Tf116_0)  (α : Type) (K : Exit → St → Option α) : F109_0_0 (J109_0_0g vf103_0) α K = p109_0_0.unc fun σ => runM Try.prog (E109_0g vf103_0 vf116_0) sh109 (c109_0_3g ) K σ := by kernel_rfl
theorem m109_0_0 : ∀ (α : Type) (K : Exit → St → Option α), F109_0_0 J109_0_0 α K = p109_0_0.unc fun σ => runM Try.prog E109_0 sh109 c109_0_3 K σ := m109_0_0g f103_0 f116_0

/-- etalon/grow.openChange -/
abbrev Tf109_0 : Type 1 := (α : Type) → Rows → Rows → Rows → Rows → (Int → Option α) → (Rows → Rows → Int → Int → Option α) → Option α
def f109_0g (vJ109_0_0 : TJ109_0_0) (vf116_0 : Tf116_0) (α : Type) (x1 : Rows) (x2 : Rows) (x3 : Rows) (x4 : Rows) (k1 : Int → Option α) (k2 : Rows → Rows → Int → Int → Option α) : Option α :=
  vJ109_0_0 α x1 x2 x3 x4
    (fun (x18 : Int) => cK (x18 != 0)
      (k1 x18)
      (none))
    (fun (x19 : Rows) (x20 : Rows) (x21 : Rows) => ixK x21 0 1
      (ldK x21 0 0 [.int .i64]
        (fun (x23 : Int) => ixK x21 1 1
          (ldK x21 1 0 [.int .i64]
            (fun (x24 : Int) => vf116_0 α x19 x20 x23
              (fun (x25 : Bool) => cK (!x25)
                (k1 24)
                (vf116_0 α x19 x20 x24
                  (fun (x26 : Bool) => cK (!x26)
                    (k1 24)
                    (k2 x19 x20 x23 x24)))))))))
noncomputable def f109_0 (α : Type) (x1 : Rows) (x2 : Rows) (x3 : Rows) (x4 : Rows) (k1 : Int → Option α) (k2 : Rows → Rows → Int → Int → Option α) : Option α := f109_0g J109_0_0 f116_0 α x1 x2 x3 x4 k1 k2
def pa109_0 : PT (List DV) := pA [pV true [dL, dL], pV true [dL, dL]]
def Fn109_0 (v : Tf109_0) (α : Type) (k : List RV → Option α) : Rows → Rows → Rows → Rows → Option α := fun x1 x2 x3 x4 => v α x1 x2 x3 x4 (fun (y1 : Int) => ur109_0_0 k ([] : Rows) ([] : Rows) 0 0 y1) (fun (y1 : Rows) (y2 : Rows) (y3 : Int) (y4 : Int) => ur109_0_1 k y1 y2 y3 y4 0)
noncomputable def cm109_0g (vJ109_0_0 : TJ109_0_0) : MCode := (.seq (.region r109_2 [] (some ⟨[2, 3, 4], true, [⟨true, 4, 0, 30400, 1⟩, ⟨true, 4, 1, 30401, 4⟩], []⟩)) (.seq (.mark [⟨p109_0_0, F109_0_0 vJ109_0_0⟩] c109_0_3) (.seq (.seq (.region r109_7 [] (some ⟨[4, 6, 7, 8, 22], true, [⟨true, 4, 0, 30400, 1⟩, ⟨true, 4, 1, 30401, 4⟩], []⟩)) (.cond (.tmp 22) (.seq (.region r109_10 [] (some ⟨[4, 5], true, [⟨true, 4, 0, 30400, 1⟩, ⟨true, 4, 1, 30401, 4⟩], []⟩)) .ret) .skip)) (.seq (.region r109_12 [(0, 8), (2, 8), (3, 8), (5, 8), (6, 8)] (some ⟨[4, 6, 9], true, [⟨true, 4, 0, 30400, 1⟩, ⟨true, 4, 1, 30401, 4⟩], []⟩)) (.seq (.seq (.region r109_15 [] (some ⟨[4, 9, 44], true, [⟨true, 4, 0, 30400, 1⟩, ⟨true, 4, 1, 30401, 4⟩], []⟩)) (.cond (.tmp 44) (.seq (.region r109_18 [] (some ⟨[4, 5], true, [⟨true, 4, 0, 30400, 1⟩, ⟨true, 4, 1, 30401, 4⟩], []⟩)) .ret) .skip)) (.seq (.region r109_20 [] (some ⟨[4, 5], true, [⟨true, 4, 0, 30400, 1⟩, ⟨true, 4, 1, 30401, 4⟩], []⟩)) .ret))))))
noncomputable def cm109_0 : MCode := cm109_0g J109_0_0
theorem gm109_0 : cm109_0.Good Try.prog E109_0 sh109 := ⟨trivial, ⟨⟨g109_0_3, m109_0_0, trivial⟩, ⟨⟨trivial, ⟨⟨trivial, trivial⟩, trivial⟩⟩, ⟨trivial, ⟨⟨trivial, ⟨⟨trivial, trivial⟩, trivial⟩⟩, ⟨trivial, trivial⟩⟩⟩⟩⟩⟩
theorem fm109_0g (vf103_0 : Tf103_0) (vf116_0 : Tf116_0) (vJ109_0_0 : TJ109_0_0) (α : Type) (k : List RV → Option α) : Fn109_0 (f109_0g vJ109_0_0 vf116_0) α k = pa109_0.unc fun ds => fnM Try.prog (E109_0g vf103_0 vf116_0) sh109 (cm109_0g vJ109_0_0) rs109 k ds := by kernel_rfl
theorem fm109_0 : ∀ (α : Type) (k : List RV → Option α), Fn109_0 f109_0 α k = pa109_0.unc fun ds => fnM Try.prog E109_0 sh109 cm109_0 rs109 k ds := fm109_0g f103_0 f116_0 J109_0_0

theorem is109 : FnIs Try.prog 109 nt109 tr109 tl109 cm109_0.erase rs109 := ⟨Try.f109, Try.func109, rfl, by kernel_rfl, by kernel_rfl, by kernel_rfl⟩
theorem io109_0 : InstOk Try.prog 109 nt109 ⟨pa109_0, Fn109_0 f109_0⟩ := inst_ok eo109_0 followsTry is109 ⟨⟨sh109, cm109_0, by kernel_rfl, gm109_0, fm109_0⟩⟩

/-! ### F60 etalon/grow.CheckLabels -/
abbrev nt60 : Nat := 81
def sh60 : List (Nat × List Sh) := [(17, [.sl, .sl]), (18, [.sl, .sl]), (25, [.sl]), (28, [.sl]), (32, [.sl]), (36, [.int .i64]), (37, [.int .i64]), (42, [.sl]), (44, [.int .i64]), (45, [.int .i64]), (46, [.int .i64]), (48, [.sl]), (55, [.sl, .sl]), (56, [.int .i64]), (60, [.sl, .sl]), (61, [.int .i64]), (65, [.sl]), (67, [.int .i64]), (68, [.int .i64]), (69, [.sl]), (70, [.int .i64]), (71, [.int .i64]), (72, [.int .i64]), (76, [.sl]), (78, [.int .i64]), (79, [.int .i64]), (80, [.int .i64])]
def r60_2 : List AOper := [⟨(some 3), (.box (.tmp 0)), none⟩, ⟨(some 4), (.box (.tmp 1)), none⟩, ⟨(some 5), (.box (.tmp 2)), none⟩, ⟨(some 6), (.alloc [(.d (.v (.int .i64 0)))]), none⟩, ⟨(some 7), (.alloc [(.d (.v (.int .i64 0)))]), none⟩]
def r60_4 : List AOper := [⟨(some 17), (.load true 2 (.tmp 3)), none⟩, ⟨(some 18), (.load true 2 (.tmp 4)), none⟩, ⟨(some 19), (.call 109 [(.tmp 17), (.tmp 18)]), none⟩, ⟨(some 16), (.mv (.tmp 19)), none⟩, ⟨(some 20), (.extract 0 (.tmp 16)), none⟩, ⟨(some 21), (.extract 1 (.tmp 16)), none⟩, ⟨(some 8), (.alloc [.nils, .nils, (.d (.v (.int .i64 0))), (.d (.v (.int .i64 0)))]), none⟩, ⟨none, (.store 4 (.tmp 8) (.tmp 20)), none⟩, ⟨(some 9), (.mv (.tmp 21)), none⟩]
def r60_7 : List AOper := [⟨(some 22), (.mv (.tmp 9)), none⟩, ⟨(some 23), (.bin .neq 32 (.tmp 22) (.const (.int .i64 0))), none⟩]
def r60_10 : List AOper := [⟨(some 24), (.mv (.tmp 9)), none⟩, ⟨none, (.store 1 (.tmp 6) (.const (.int .i64 0))), none⟩, ⟨none, (.store 1 (.tmp 7) (.tmp 24)), none⟩]
def r60_13 : List AOper := [⟨(some 25), (.load false 1 (.tmp 5)), none⟩, ⟨(some 26), (.len (.tmp 25)), none⟩, ⟨(some 27), (.faddr 0 (.tmp 3)), none⟩, ⟨(some 28), (.load false 1 (.tmp 27)), none⟩, ⟨(some 29), (.len (.tmp 28)), none⟩, ⟨(some 30), (.bin .shl 3 (.const (.int .i64 1)) (.tmp 29)), none⟩, ⟨(some 31), (.bin .neq 3 (.tmp 26) (.tmp 30)), none⟩]
def r60_16 : List AOper := [⟨none, (.store 1 (.tmp 6) (.const (.int .i64 0))), none⟩, ⟨none, (.store 1 (.tmp 7) (.const (.int .i64 12))), none⟩]
def r60_19 : List AOper := [⟨(some 32), (.load false 1 (.tmp 5)), none⟩, ⟨(some 33), (.len (.tmp 32)), none⟩, ⟨(some 34), (.mv (.const (.int .i64 0))), none⟩]
def td60_21 : Option Tidy := (some ⟨[5, 6, 7, 8, 32, 33, 34], true, [⟨false, 32, 0, 20032, 1⟩, ⟨true, 3, 0, 30300, 1⟩, ⟨true, 3, 1, 30301, 4⟩, ⟨true, 4, 0, 30400, 1⟩, ⟨true, 4, 1, 30401, 1⟩, ⟨true, 5, 0, 30500, 1⟩, ⟨true, 8, 0, 30800, 1⟩, ⟨true, 8, 1, 30801, 4⟩, ⟨false, 0, 0, 30800, 999999⟩, ⟨false, 0, 0, 30801, 999999⟩], []⟩)
def r60_23 : List AOper := [⟨(some 35), (.bin .lss 3 (.tmp 34) (.tmp 33)), none⟩]
def r60_29 : List AOper := [⟨(some 36), (.iaddr 1 none (.tmp 32) (.tmp 34)), none⟩, ⟨(some 37), (.load false 1 (.tmp 36)), none⟩, ⟨(some 11), (.mv (.tmp 37)), none⟩]
def r60_31 : List AOper := [⟨(some 38), (.mv (.tmp 11)), none⟩, ⟨(some 39), (.call 78 [(.tmp 38), (.const (.int .i64 0)), (.const (.int .i64 1000))]), none⟩, ⟨(some 40), (.pure (oB (.unOp .not 4 (.tmp 39)) 4)), none⟩]
def r60_34 : List AOper := [⟨none, (.store 1 (.tmp 6) (.const (.int .i64 0))), none⟩, ⟨none, (.store 1 (.tmp 7) (.const (.int .i64 2))), none⟩]
def r60_35 : List AOper := [⟨(some 41), (.bin .add 3 (.tmp 34) (.const (.int .i64 1))), none⟩, ⟨(some 34), (.mv (.tmp 41)), none⟩]
def r60_38 : List AOper := [⟨(some 42), (.load false 1 (.tmp 5)), none⟩, ⟨(some 43), (.faddr 2 (.tmp 8)), none⟩, ⟨(some 44), (.load false 1 (.tmp 43)), none⟩, ⟨(some 45), (.iaddr 1 none (.tmp 42) (.tmp 44)), none⟩, ⟨(some 46), (.load false 1 (.tmp 45)), none⟩, ⟨(some 47), (.bin .neq 3 (.tmp 46) (.const (.int .i64 0))), none⟩]
def r60_41 : List AOper := [⟨none, (.store 1 (.tmp 6) (.const (.int .i64 0))), none⟩, ⟨none, (.store 1 (.tmp 7) (.const (.int .i64 20))), none⟩]
def r60_44 : List AOper := [⟨(some 48), (.load false 1 (.tmp 5)), none⟩, ⟨(some 49), (.len (.tmp 48)), none⟩, ⟨(some 50), (.mv (.const (.int .i64 0))), none⟩]
def td60_46 : Option Tidy := (some ⟨[5, 6, 7, 8, 49, 50], true, [⟨true, 3, 0, 30300, 1⟩, ⟨true, 3, 1, 30301, 4⟩, ⟨true, 4, 0, 30400, 1⟩, ⟨true, 4, 1, 30401, 1⟩, ⟨true, 5, 0, 30500, 1⟩, ⟨true, 8, 0, 30800, 1⟩, ⟨true, 8, 1, 30801, 4⟩, ⟨false, 0, 0, 30800, 999999⟩, ⟨false, 0, 0, 30801, 999999⟩], []⟩)
def r60_48 : List AOper := [⟨(some 51), (.bin .lss 3 (.tmp 50) (.tmp 49)), none⟩]
def r60_54 : List AOper := [⟨(some 52), (.mv (.tmp 50)), none⟩, ⟨(some 12), (.mv (.tmp 52)), none⟩]
def r60_56 : List AOper := [⟨(some 53), (.mv (.tmp 12)), none⟩, ⟨(some 13), (.alloc [(.d (.v (.int .i64 0)))]), none⟩, ⟨none, (.store 1 (.tmp 13) (.tmp 53)), none⟩]
def r60_59 : List AOper := [⟨(some 54), (.faddr 0 (.tmp 8)), none⟩, ⟨(some 55), (.load true 2 (.tmp 54)), none⟩, ⟨(some 56), (.load false 1 (.tmp 13)), none⟩, ⟨(some 57), (.call 116 [(.tmp 55), (.tmp 56)]), none⟩, ⟨(some 58), (.pure (oB (.unOp .not 4 (.tmp 57)) 4)), none⟩]
def r60_62 : List AOper := [⟨(some 59), (.faddr 0 (.tmp 8)), none⟩, ⟨(some 60), (.load true 2 (.tmp 59)), none⟩, ⟨(some 61), (.load false 1 (.tmp 13)), none⟩, ⟨(some 62), (.call 111 [(.tmp 60), (.tmp 61)]), none⟩]
def td60_64 : Option Tidy := (some ⟨[5, 6, 7, 8, 13, 49, 50, 62], true, [⟨true, 3, 0, 30300, 1⟩, ⟨true, 3, 1, 30301, 4⟩, ⟨true, 4, 0, 30400, 1⟩, ⟨true, 4, 1, 30401, 1⟩, ⟨true, 5, 0, 30500, 1⟩, ⟨true, 8, 0, 30800, 1⟩, ⟨true, 8, 1, 30801, 4⟩, ⟨false, 0, 0, 30800, 999999⟩, ⟨false, 0, 0, 30801, 999999⟩], []⟩)
def r60_65 : List AOper := [⟨(some 15), (.mv (.tmp 64)), none⟩]
def r60_68 : List AOper := [⟨(some 65), (.load false 1 (.tmp 5)), none⟩, ⟨(some 66), (.mv (.tmp 15)), none⟩, ⟨(some 67), (.iaddr 1 none (.tmp 65) (.tmp 66)), none⟩, ⟨(some 68), (.load false 1 (.tmp 67)), none⟩, ⟨(some 69), (.load false 1 (.tmp 5)), none⟩, ⟨(some 70), (.load false 1 (.tmp 13)), none⟩, ⟨(some 71), (.iaddr 1 none (.tmp 69) (.tmp 70)), none⟩, ⟨(some 72), (.load false 1 (.tmp 71)), none⟩, ⟨(some 73), (.bin .add 3 (.tmp 72) (.const (.int .i64 1))), none⟩, ⟨(some 74), (.bin .gtr 3 (.tmp 68) (.tmp 73)), none⟩]
def r60_71 : List AOper := [⟨none, (.store 1 (.tmp 6) (.const (.int .i64 0))), none⟩, ⟨none, (.store 1 (.tmp 7) (.const (.int .i64 20))), none⟩]
def r60_72 : List AOper := [⟨(some 75), (.bin .add 3 (.tmp 50) (.const (.int .i64 1))), none⟩, ⟨(some 50), (.mv (.tmp 75)), none⟩]
def r60_74 : List AOper := [⟨(some 76), (.load false 1 (.tmp 5)), none⟩, ⟨(some 77), (.faddr 3 (.tmp 8)), none⟩, ⟨(some 78), (.load false 1 (.tmp 77)), none⟩, ⟨(some 79), (.iaddr 1 none (.tmp 76) (.tmp 78)), none⟩, ⟨(some 80), (.load false 1 (.tmp 79)), none⟩, ⟨none, (.store 1 (.tmp 6) (.tmp 80)), none⟩, ⟨none, (.store 1 (.tmp 7) (.const (.int .i64 0))), none⟩]
def tr60 : List (Nat × Tidy) := [(0, ⟨[3, 4, 5, 6, 7], true, [], []⟩), (1, ⟨[3, 5, 6, 7, 8, 9], true, [], []⟩), (2, ⟨[3, 5, 6, 7, 8, 9, 23], true, [], []⟩), (3, ⟨[6, 7], true, [], []⟩), (4, ⟨[5, 6, 7, 8, 31], true, [], []⟩), (5, ⟨[6, 7], true, [], []⟩), (6, ⟨[5, 6, 7, 8, 32, 33, 34], true, [], []⟩), (7, ⟨[5, 6, 7, 8, 32, 33, 34, 35], true, [], []⟩), (8, ⟨[5, 6, 7, 8, 11, 32, 33, 34], true, [], []⟩), (9, ⟨[5, 6, 7, 8, 32, 33, 34, 40], true, [], []⟩), (10, ⟨[6, 7], true, [], []⟩), (11, ⟨[5, 6, 7, 8, 32, 33, 34], true, [], []⟩), (12, ⟨[5, 6, 7, 8, 47], true, [], []⟩), (13, ⟨[6, 7], true, [], []⟩), (14, ⟨[5, 6, 7, 8, 49, 50], true, [], []⟩), (15, ⟨[5, 6, 7, 8, 49, 50, 51], true, [], []⟩), (16, ⟨[5, 6, 7, 8, 12, 49, 50], true, [], []⟩), (17, ⟨[5, 6, 7, 8, 13, 49, 50], true, [], []⟩), (18, ⟨[5, 6, 7, 8, 13, 49, 50, 58], true, [], []⟩), (19, ⟨[5, 6, 7, 8, 13, 49, 50, 62], true, [⟨true, 3, 0, 30300, 1⟩, ⟨true, 3, 1, 30301, 4⟩, ⟨true, 4, 0, 30400, 1⟩, ⟨true, 4, 1, 30401, 1⟩, ⟨true, 5, 0, 30500, 1⟩, ⟨true, 8, 0, 30800, 1⟩, ⟨true, 8, 1, 30801, 4⟩, ⟨false, 0, 0, 30800, 999999⟩, ⟨false, 0, 0, 30801, 999999⟩], []⟩), (20, ⟨[5, 6, 7, 8, 13, 15, 49, 50], true, [], []⟩), (21, ⟨[5, 6, 7, 8, 13, 49, 50, 74], true, [], []⟩), (22, ⟨[6, 7], true, [], []⟩), (23, ⟨[5, 6, 7, 8, 49, 50], true, [], []⟩), (24, ⟨[6, 7], true, [], []⟩)]
def tl60 : List (Nat × Tidy) := [(7, ⟨[5, 6, 7, 8, 32, 33, 34], true, [⟨false, 32, 0, 20032, 1⟩, ⟨true, 3, 0, 30300, 1⟩, ⟨true, 3, 1, 30301, 4⟩, ⟨true, 4, 0, 30400, 1⟩, ⟨true, 4, 1, 30401, 1⟩, ⟨true, 5, 0, 30500, 1⟩, ⟨true, 8, 0, 30800, 1⟩, ⟨true, 8, 1, 30801, 4⟩, ⟨false, 0, 0, 30800, 999999⟩, ⟨false, 0, 0, 30801, 999999⟩], []⟩), (15, ⟨[5, 6, 7, 8, 49, 50], true, [⟨true, 3, 0, 30300, 1⟩, ⟨true, 3, 1, 30301, 4⟩, ⟨true, 4, 0, 30400, 1⟩, ⟨true, 4, 1, 30401, 1⟩, ⟨true, 5, 0, 30500, 1⟩, ⟨true, 8, 0, 30800, 1⟩, ⟨true, 8, 1, 30801, 4⟩, ⟨false, 0, 0, 30800, 999999⟩, ⟨false, 0, 0, 30801, 999999⟩], []⟩), (21, ⟨[5, 6, 7, 8, 13, 49, 50, 62], true, [⟨true, 3, 0, 30300, 1⟩, ⟨true, 3, 1, 30301, 4⟩, ⟨true, 4, 0, 30400, 1⟩, ⟨true, 4, 1, 30401, 1⟩, ⟨true, 5, 0, 30500, 1⟩, ⟨true, 8, 0, 30800, 1⟩, ⟨true, 8, 1, 30801, 4⟩, ⟨false, 0, 0, 30800, 999999⟩, ⟨false, 0, 0, 30801, 999999⟩], []⟩)]
def rs60 : List AResV := [.cell 6 false 1, .cell 7 false 1]
def p60_0_0 : PT St := pS [sl 3 (aV false [(cPtr 3 0)]), sl 4 (aV false [(cPtr 4 0)]), sl 5 (aV false [(cPtr 5 0)]), sl 6 (aV false [(cPtr 6 0)]), sl 7 (aV false [(cPtr 7 0)])] [eBox 3 [(cD dL), (cD dL)], eBox 4 [(cD dL), (cD dL)], eBox 5 [(cD dL)], eBox 6 [(cD (dI .i64))], eBox 7 [(cD (dI .i64))]]
def u60_0_0 {β : Type} (g : St → β) : Rows → Rows → Rows → Rows → Rows → Int → Int → β := p60_0_0.unc g

def p60_0_1 : PT St := pS [sl 3 (aV false [(cPtr 3 0)]), sl 5 (aV false [(cPtr 5 0)]), sl 6 (aV false [(cPtr 6 0)]), sl 7 (aV false [(cPtr 7 0)]), sl 8 (aV false [(cPtr 8 0)]), sl 9 (aV false [(cD (dI .i64))])] [eBox 3 [(cD dL), (cD dL)], eBox 5 [(cD dL)], eBox 6 [(cD (dI .i64))], eBox 7 [(cD (dI .i64))], eBox 8 [(cRef 19), (cRef 10019), (cD (dI .i64)), (cD (dI .i64))], eOwn 19 1, eOwn 10019 4]
def u60_0_1 {β : Type} (g : St → β) : Int → Rows → Rows → Rows → Int → Int → Int → Int → Rows → Rows → β := p60_0_1.unc g

def p60_0_2 : PT St := pS [sl 3 (aV false [(cPtr 3 0)]), sl 5 (aV false [(cPtr 5 0)]), sl 6 (aV false [(cPtr 6 0)]), sl 7 (aV false [(cPtr 7 0)]), sl 8 (aV false [(cPtr 8 0)]), sl 9 (aV false [(cD (dI .i64))])] [eBox 3 [(cD dL), (cD dL)], eBox 5 [(cD dL)], eBox 6 [(cD (dI .i64))], eBox 7 [(cD (dI .i64))], eBox 8 [(cD dL), (cD dL), (cD (dI .i64)), (cD (dI .i64))]]
def u60_0_2 {β : Type} (g : St → β) : Int → Rows → Rows → Rows → Int → Int → Rows → Rows → Int → Int → β := p60_0_2.unc g

def p60_0_3 : PT St := pS [sl 5 (aV false [(cPtr 5 0)]), sl 6 (aV false [(cPtr 6 0)]), sl 7 (aV false [(cPtr 7 0)]), sl 8 (aV false [(cPtr 8 0)]), sl 32 (aV false [(cD dL)]), sl 33 (aV false [(cD (dI .i64))]), sl 34 (aV false [(cD (dI .i64))])] [eBox 5 [(cD dL)], eBox 6 [(cD (dI .i64))], eBox 7 [(cD (dI .i64))], eBox 8 [(cRef 30800), (cRef 30801), (cD (dI .i64)), (cD (dI .i64))], eImm 30800, eImm 30801]
def u60_0_3 {β : Type} (g : St → β) : Rows → Int → Int → Rows → Int → Int → Int → Int → Rows → Rows → β := p60_0_3.unc g

def p60_0_4 : PT St := pS [sl 6 (aV false [(cPtr 6 0)]), sl 7 (aV false [(cPtr 7 0)])] [eBox 6 [(cD (dI .i64))], eBox 7 [(cD (dI .i64))]]
def u60_0_4 {β : Type} (g : St → β) : Int → Int → β := p60_0_4.unc g

def p60_0_5 : PT St := pS [sl 5 (aV false [(cPtr 5 0)]), sl 6 (aV false [(cPtr 6 0)]), sl 7 (aV false [(cPtr 7 0)]), sl 8 (aV false [(cPtr 8 0)]), sl 32 (aV false [(cD dL)]), sl 33 (aV false [(cD (dI .i64))]), sl 34 (aV false [(cD (dI .i64))]), sl 35 (aV false [(cD dB)])] [eBox 5 [(cD dL)], eBox 6 [(cD (dI .i64))], eBox 7 [(cD (dI .i64))], eBox 8 [(cRef 30800), (cRef 30801), (cD (dI .i64)), (cD (dI .i64))], eImm 30800, eImm 30801]
def u60_0_5 {β : Type} (g : St → β) : Rows → Int → Int → Bool → Rows → Int → Int → Int → Int → Rows → Rows → β := p60_0_5.unc g

def p60_0_6 : PT St := pS [sl 5 (aV false [(cPtr 5 0)]), sl 6 (aV false [(cPtr 6 0)]), sl 7 (aV false [(cPtr 7 0)]), sl 8 (aV false [(cPtr 8 0)]), sl 13 (aV false [(cPtr 13 0)]), sl 49 (aV false [(cD (dI .i64))]), sl 50 (aV false [(cD (dI .i64))]), sl 62 (aV false [(cD (dFn 131 [(dP [dL, dL] 0), (dP [(dI .i64)] 0)]))])] [eBox 5 [(cD dL)], eBox 6 [(cD (dI .i64))], eBox 7 [(cD (dI .i64))], eBox 8 [(cRef 30800), (cRef 30801), (cD (dI .i64)), (cD (dI .i64))], eImm 30800, eImm 30801, eBox 13 [(cD (dI .i64))]]
def u60_0_6 {β : Type} (g : St → β) : Int → Int → Rows → Rows → Int → Rows → Int → Int → Int → Int → Rows → Rows → Int → β := p60_0_6.unc g

def p60_0_7 : PT St := pS [sl 5 (aV false [(cPtr 5 0)]), sl 6 (aV false [(cPtr 6 0)]), sl 7 (aV false [(cPtr 7 0)]), sl 8 (aV false [(cPtr 8 0)]), sl 13 (aV false [(cPtr 13 0)]), sl 49 (aV false [(cD (dI .i64))]), sl 50 (aV false [(cD (dI .i64))]), sl 62 (aV false [(cD (dFn 131 [(dP [dL, dL] 0), (dP [(dI .i64)] 0)]))])] [eBox 6 [(cD (dI .i64))], eBox 7 [(cD (dI .i64))], eBox 5 [(cD dL)], eBox 8 [(cRef 30800), (cRef 30801), (cD (dI .i64)), (cD (dI .i64))], eImm 30800, eImm 30801, eBox 13 [(cD (dI .i64))]]
def u60_0_7 {β : Type} (g : St → β) : Int → Int → Rows → Rows → Int → Int → Int → Rows → Int → Int → Rows → Rows → Int → β := p60_0_7.unc g

def p60_0_8 : PT St := pS [sl 5 (aV false [(cPtr 5 0)]), sl 6 (aV false [(cPtr 6 0)]), sl 7 (aV false [(cPtr 7 0)]), sl 8 (aV false [(cPtr 8 0)]), sl 49 (aV false [(cD (dI .i64))]), sl 50 (aV false [(cD (dI .i64))])] [eBox 5 [(cD dL)], eBox 6 [(cD (dI .i64))], eBox 7 [(cD (dI .i64))], eBox 8 [(cRef 30800), (cRef 30801), (cD (dI .i64)), (cD (dI .i64))], eImm 30800, eImm 30801]
def u60_0_8 {β : Type} (g : St → β) : Int → Int → Rows → Int → Int → Int → Int → Rows → Rows → β := p60_0_8.unc g

def p60_0_9 : PT St := pS [sl 5 (aV false [(cPtr 5 0)]), sl 6 (aV false [(cPtr 6 0)]), sl 7 (aV false [(cPtr 7 0)]), sl 8 (aV false [(cPtr 8 0)]), sl 49 (aV false [(cD (dI .i64))]), sl 50 (aV false [(cD (dI .i64))]), sl 51 (aV false [(cD dB)])] [eBox 5 [(cD dL)], eBox 6 [(cD (dI .i64))], eBox 7 [(cD (dI .i64))], eBox 8 [(cRef 30800), (cRef 30801), (cD (dI .i64)), (cD (dI .i64))], eImm 30800, eImm 30801]
def u60_0_9 {β : Type} (g : St → β) : Int → Int → Bool → Rows → Int → Int → Int → Int → Rows → Rows → β := p60_0_9.unc g

def p60_0_10 : PT St := pS [sl 5 (aV false [(cPtr 5 0)]), sl 6 (aV false [(cPtr 6 0)]), sl 7 (aV false [(cPtr 7 0)]), sl 8 (aV false [(cPtr 8 0)]), sl 32 (aV false [(cD dL)]), sl 33 (aV false [(cD (dI .i64))]), sl 34 (aV false [(cD (dI .i64))])] [eBox 5 [(cD dL)], eBox 6 [(cD (dI .i64))], eBox 7 [(cD (dI .i64))], eBox 8 [(cD dL), (cD dL), (cD (dI .i64)), (cD (dI .i64))]]
def u60_0_10 {β : Type} (g : St → β) : Rows → Int → Int → Rows → Int → Int → Rows → Rows → Int → Int → β := p60_0_10.unc g

def p60_0_11 : PT St := pS [sl 5 (aV false [(cPtr 5 0)]), sl 6 (aV false [(cPtr 6 0)]), sl 7 (aV false [(cPtr 7 0)]), sl 8 (aV false [(cPtr 8 0)]), sl 32 (aV false [(cD dL)]), sl 33 (aV false [(cD (dI .i64))]), sl 34 (aV false [(cD (dI .i64))]), sl 35 (aV false [(cD dB)])] [eBox 5 [(cD dL)], eBox 6 [(cD (dI .i64))], eBox 7 [(cD (dI .i64))], eBox 8 [(cD dL), (cD dL), (cD (dI .i64)), (cD (dI .i64))]]
def u60_0_11 {β : Type} (g : St → β) : Rows → Int → Int → Bool → Rows → Int → Int → Rows → Rows → Int → Int → β := p60_0_11.unc g

def p60_0_12 : PT St := pS [sl 5 (aV false [(cPtr 5 0)]), sl 6 (aV false [(cPtr 6 0)]), sl 7 (aV false [(cPtr 7 0)]), sl 8 (aV false [(cPtr 8 0)]), sl 13 (aV false [(cPtr 13 0)]), sl 49 (aV false [(cD (dI .i64))]), sl 50 (aV false [(cD (dI .i64))]), sl 62 (aV false [(cD (dFn 131 [(dP [dL, dL] 0), (dP [(dI .i64)] 0)]))])] [eBox 5 [(cD dL)], eBox 6 [(cD (dI .i64))], eBox 7 [(cD (dI .i64))], eBox 8 [(cD dL), (cD dL), (cD (dI .i64)), (cD (dI .i64))], eBox 13 [(cD (dI .i64))]]
def u60_0_12 {β : Type} (g : St → β) : Int → Int → Rows → Rows → Int → Rows → Int → Int → Rows → Rows → Int → Int → Int → β := p60_0_12.unc g

def p60_0_13 : PT St := pS [sl 5 (aV false [(cPtr 5 0)]), sl 6 (aV false [(cPtr 6 0)]), sl 7 (aV false [(cPtr 7 0)]), sl 8 (aV false [(cPtr 8 0)]), sl 13 (aV false [(cPtr 13 0)]), sl 49 (aV false [(cD (dI .i64))]), sl 50 (aV false [(cD (dI .i64))]), sl 62 (aV false [(cD (dFn 131 [(dP [dL, dL] 0), (dP [(dI .i64)] 0)]))])] [eBox 6 [(cD (dI .i64))], eBox 7 [(cD (dI .i64))], eBox 5 [(cD dL)], eBox 8 [(cD dL), (cD dL), (cD (dI .i64)), (cD (dI .i64))], eBox 13 [(cD (dI .i64))]]
def u60_0_13 {β : Type} (g : St → β) : Int → Int → Rows → Rows → Int → Int → Int → Rows → Rows → Rows → Int → Int → Int → β := p60_0_13.unc g

def p60_0_14 : PT St := pS [sl 5 (aV false [(cPtr 5 0)]), sl 6 (aV false [(cPtr 6 0)]), sl 7 (aV false [(cPtr 7 0)]), sl 8 (aV false [(cPtr 8 0)]), sl 49 (aV false [(cD (dI .i64))]), sl 50 (aV false [(cD (dI .i64))])] [eBox 5 [(cD dL)], eBox 6 [(cD (dI .i64))], eBox 7 [(cD (dI .i64))], eBox 8 [(cD dL), (cD dL), (cD (dI .i64)), (cD (dI .i64))]]
def u60_0_14 {β : Type} (g : St → β) : Int → Int → Rows → Int → Int → Rows → Rows → Int → Int → β := p60_0_14.unc g

def p60_0_15 : PT St := pS [sl 5 (aV false [(cPtr 5 0)]), sl 6 (aV false [(cPtr 6 0)]), sl 7 (aV false [(cPtr 7 0)]), sl 8 (aV false [(cPtr 8 0)]), sl 49 (aV false [(cD (dI .i64))]), sl 50 (aV false [(cD (dI .i64))]), sl 51 (aV false [(cD dB)])] [eBox 5 [(cD dL)], eBox 6 [(cD (dI .i64))], eBox 7 [(cD (dI .i64))], eBox 8 [(cD dL), (cD dL), (cD (dI .i64)), (cD (dI .i64))]]
def u60_0_15 {β : Type} (g : St → β) : Int → Int → Bool → Rows → Int → Int → Rows → Rows → Int → Int → β := p60_0_15.unc g

def pr60_0_0 : PT (List RV) := pRs [pR false [rD (dI .i64)], pR false [rD (dI .i64)]]
def ur60_0_0 {β : Type} (g : List RV → β) : Int → Int → β := pr60_0_0.unc g

def E60_0g (vf109_0 : Tf109_0) (vf78_0 : Tf78_0) (vf116_0 : Tf116_0) (vf111_0 : Tf111_0) (vq131 : Tq131) : EnvK := EnvK.of [⟨109, nt109, [⟨pa109_0, Fn109_0 vf109_0⟩]⟩, ⟨78, nt78, [⟨pa78_0, Fn78_0 vf78_0⟩]⟩, ⟨116, nt116, [⟨pa116_0, Fn116_0 vf116_0⟩]⟩, ⟨111, nt111, [⟨pa111_0, Fn111_0 vf111_0⟩]⟩] (seqE [⟨131, pq131, vq131⟩])
noncomputable def E60_0 : EnvK := E60_0g f109_0 f78_0 f116_0 f111_0 q131
theorem eo60_0 : E60_0.Ok Try.prog := EnvK.of_ok (seqE_ok (l := [⟨131, pq131, q131⟩]) ⟨sqok131, trivial⟩) ⟨⟨io109_0, trivial⟩, ⟨io78_0, trivial⟩, ⟨io116_0, trivial⟩, ⟨io111_0, trivial⟩, trivial⟩

noncomputable def ca60_0_64 : MCode := (.region r60_65 [] (some ⟨[5, 6, 7, 8, 13, 15, 49, 50], true, [], []⟩))
theorem ga60_0_64 : ca60_0_64.Good Try.prog E60_0 sh60 := trivial

noncomputable def c60_0_64g  : MCode := (.block 5 (.seq (.region r60_68 [] (some ⟨[5, 6, 7, 8, 13, 49, 50, 74], true, [], []⟩)) (.cond (.tmp 74) (.seq (.region r60_71 [] (some ⟨[6, 7], true, [], []⟩)) .ret) .skip)))
noncomputable def c60_0_64 : MCode := c60_0_64g 
theorem g60_0_64 : c60_0_64.Good Try.prog E60_0 sh60 := ⟨trivial, ⟨⟨trivial, trivial⟩, trivial⟩⟩
--CODE 64 0
def S60_0_2g  (α : Type) (x66 : Rows) (x73 : Int) (y74 : Int × Int)  (kn : Option α) (k1 : Option α) (k2 : Option α) : Option α :=
  rowK x66 y74.2 [.int .i64]
    (fun (x75 : Int) => rowK x66 x73 [.int .i64]
      (fun (x76 : Int) => cK (decide ((w64 (x76 + 1)) < x75))
        (k2)
        (kn)))
noncomputable def S60_0_2 (α : Type) (x66 : Rows) (x73 : Int) (y74 : Int × Int)  (kn : Option α) (k1 : Option α) (k2 : Option α) : Option α := S60_0_2g  α x66 x73 y74  kn k1 k2
noncomputable def V60_0_2 (α : Type) (x66 : Rows) (x73 : Int) (k1 : Option α) (k2 : Option α) : List (Int × Int) → Option α
  | [] => k1 
  | y74 :: ys => S60_0_2 α x66 x73 y74  (V60_0_2 α x66 x73 k1 k2 ys) k1 k2
abbrev TV60_0_2 : Type 1 := (α : Type) → Rows → Int → (Option α) → (Option α) → List (Int × Int) → Option α
def F60_0_2 (v : TV60_0_2) (α : Type) (K : Exit → St → Option α) (ys : List (Int × Int)) : Int → Int → Rows → Rows → Int → Rows → Int → Int → Int → Int → Rows → Rows → Int → Option α := fun x61 x62 x63 x64 x65 x66 x67 x68 x69 x70 x71 x72 x73 => v α x66 x73 (u60_0_6 (K .normal) x61 x62 x63 x64 x65 x66 x67 x68 x69 x70 x71 x72 x73) (u60_0_7 (K .ret) x61 x62 x63 x64 x65 0 20 x66 x69 x70 x71 x72 x73) ys 
theorem r60_0_2g (vf109_0 : Tf109_0) (vf78_0 : Tf78_0) (vf116_0 : Tf116_0) (vf111_0 : Tf111_0) (vq131 : Tq131)  (α : Type) (K : Exit → St → Option α) (Kn : St → Option α) (y74 : Int × Int) (x61 : Int) (x62 : Int) (x63 : Rows) (x64 : Rows) (x65 : Int) (x66 : Rows) (x67 : Int) (x68 : Int) (x69 : Int) (x70 : Int) (x71 : Rows) (x72 : Rows) (x73 : Int) : u60_0_6 (fun σ => roundT (runM Try.prog (E60_0g vf109_0 vf78_0 vf116_0 vf111_0 vq131) sh60 ca60_0_64) (runM Try.prog (E60_0g vf109_0 vf78_0 vf116_0 vf111_0 vq131) sh60 c60_0_64) [63, 64] td60_64 Kn K (xII.ex y74) σ) x61 x62 x63 x64 x65 x66 x67 x68 x69 x70 x71 x72 x73 = S60_0_2g  α x66 x73 y74  (u60_0_6 Kn x61 x62 x63 x64 x65 x66 x67 x68 x69 x70 x71 x72 x73) (u60_0_6 (K .normal) x61 x62 x63 x64 x65 x66 x67 x68 x69 x70 x71 x72 x73) (u60_0_7 (K .ret) x61 x62 x63 x64 x65 0 20 x66 x69 x70 x71 x72 x73) := by kernel_rfl
theorem r60_0_2 (α : Type) (K : Exit → St → Option α) (Kn : St → Option α) (y74 : Int × Int) (x61 : Int) (x62 : Int) (x63 : Rows) (x64 : Rows) (x65 : Int) (x66 : Rows) (x67 : Int) (x68 : Int) (x69 : Int) (x70 : Int) (x71 : Rows) (x72 : Rows) (x73 : Int) : u60_0_6 (fun σ => roundT (runM Try.prog E60_0 sh60 ca60_0_64) (runM Try.prog E60_0 sh60 c60_0_64) [63, 64] td60_64 Kn K (xII.ex y74) σ) x61 x62 x63 x64 x65 x66 x67 x68 x69 x70 x71 x72 x73 = S60_0_2 α x66 x73 y74  (u60_0_6 Kn x61 x62 x63 x64 x65 x66 x67 x68 x69 x70 x71 x72 x73) (u60_0_6 (K .normal) x61 x62 x63 x64 x65 x66 x67 x68 x69 x70 x71 x72 x73) (u60_0_7 (K .ret) x61 x62 x63 x64 x65 0 20 x66 x69 x70 x71 x72 x73) := r60_0_2g f109_0 f78_0 f116_0 f111_0 q131 α K Kn y74 x61 x62 x63 x64 x65 x66 x67 x68 x69 x70 x71 x72 x73
theorem t60_0_2 (α : Type) (K : Exit → St → Option α) : ∀ (ys : List (Int × Int)) (x61 : Int) (x62 : Int) (x63 : Rows) (x64 : Rows) (x65 : Int) (x66 : Rows) (x67 : Int) (x68 : Int) (x69 : Int) (x70 : Int) (x71 : Rows) (x72 : Rows) (x73 : Int), V60_0_2 α x66 x73 (u60_0_6 (K .normal) x61 x62 x63 x64 x65 x66 x67 x68 x69 x70 x71 x72 x73) (u60_0_7 (K .ret) x61 x62 x63 x64 x65 0 20 x66 x69 x70 x71 x72 x73) ys  = u60_0_6 (roundsK (runM Try.prog E60_0 sh60 ca60_0_64) (runM Try.prog E60_0 sh60 c60_0_64) [63, 64] td60_64 K (ys.map xII.ex)) x61 x62 x63 x64 x65 x66 x67 x68 x69 x70 x71 x72 x73 := by
  intro ys
  induction ys with
  | nil => intros; rfl
  | cons y74 ys ih => intro x61 x62 x63 x64 x65 x66 x67 x68 x69 x70 x71 x72 x73; exact (congrArg (fun kn => S60_0_2 α x66 x73 y74  kn (u60_0_6 (K .normal) x61 x62 x63 x64 x65 x66 x67 x68 x69 x70 x71 x72 x73) (u60_0_7 (K .ret) x61 x62 x63 x64 x65 0 20 x66 x69 x70 x71 x72 x73)) (ih x61 x62 x63 x64 x65 x66 x67 x68 x69 x70 x71 x72 x73)).trans (r60_0_2 α K (roundsK (runM Try.prog E60_0 sh60 ca60_0_64) (runM Try.prog E60_0 sh60 c60_0_64) [63, 64] td60_64 K (ys.map xII.ex)) y74 x61 x62 x63 x64 x65 x66 x67 x68 x69 x70 x71 x72 x73).symm
theorem m60_0_2 : ∀ (α : Type) (K : Exit → St → Option α) (ys : List (Int × Int)), F60_0_2 V60_0_2 α K ys = p60_0_6.unc fun σ => roundsK (runM Try.prog E60_0 sh60 ca60_0_64) (runM Try.prog E60_0 sh60 c60_0_64) [63, 64] td60_64 K (ys.map xII.ex) σ := fun α K ys => funext fun x61 => funext fun x62 => funext fun x63 => funext fun x64 => funext fun x65 => funext fun x66 => funext fun x67 => funext fun x68 => funext fun x69 => funext fun x70 => funext fun x71 => funext fun x72 => funext fun x73 => t60_0_2 α K ys x61 x62 x63 x64 x65 x66 x67 x68 x69 x70 x71 x72 x73
--CODE 64 0
def S60_0_5g  (α : Type) (x128 : Rows) (x135 : Int) (y136 : Int × Int)  (kn : Option α) (k1 : Option α) (k2 : Option α) : Option α :=
  rowK x128 y136.2 [.int .i64]
    (fun (x137 : Int) => rowK x128 x135 [.int .i64]
      (fun (x138 : Int) => cK (decide ((w64 (x138 + 1)) < x137))
        (k2)
        (kn)))
noncomputable def S60_0_5 (α : Type) (x128 : Rows) (x135 : Int) (y136 : Int × Int)  (kn : Option α) (k1 : Option α) (k2 : Option α) : Option α := S60_0_5g  α x128 x135 y136  kn k1 k2
noncomputable def V60_0_5 (α : Type) (x128 : Rows) (x135 : Int) (k1 : Option α) (k2 : Option α) : List (Int × Int) → Option α
  | [] => k1 
  | y136 :: ys => S60_0_5 α x128 x135 y136  (V60_0_5 α x128 x135 k1 k2 ys) k1 k2
abbrev TV60_0_5 : Type 1 := (α : Type) → Rows → Int → (Option α) → (Option α) → List (Int × Int) → Option α
def F60_0_5 (v : TV60_0_5) (α : Type) (K : Exit → St → Option α) (ys : List (Int × Int)) : Int → Int → Rows → Rows → Int → Rows → Int → Int → Rows → Rows → Int → Int → Int → Option α := fun x123 x124 x125 x126 x127 x128 x129 x130 x131 x132 x133 x134 x135 => v α x128 x135 (u60_0_12 (K .normal) x123 x124 x125 x126 x127 x128 x129 x130 x131 x132 x133 x134 x135) (u60_0_13 (K .ret) x123 x124 x125 x126 x127 0 20 x128 x131 x132 x133 x134 x135) ys 
theorem r60_0_5g (vf109_0 : Tf109_0) (vf78_0 : Tf78_0) (vf116_0 : Tf116_0) (vf111_0 : Tf111_0) (vq131 : Tq131)  (α : Type) (K : Exit → St → Option α) (Kn : St → Option α) (y136 : Int × Int) (x123 : Int) (x124 : Int) (x125 : Rows) (x126 : Rows) (x127 : Int) (x128 : Rows) (x129 : Int) (x130 : Int) (x131 : Rows) (x132 : Rows) (x133 : Int) (x134 : Int) (x135 : Int) : u60_0_12 (fun σ => roundT (runM Try.prog (E60_0g vf109_0 vf78_0 vf116_0 vf111_0 vq131) sh60 ca60_0_64) (runM Try.prog (E60_0g vf109_0 vf78_0 vf116_0 vf111_0 vq131) sh60 c60_0_64) [63, 64] td60_64 Kn K (xII.ex y136) σ) x123 x124 x125 x126 x127 x128 x129 x130 x131 x132 x133 x134 x135 = S60_0_5g  α x128 x135 y136  (u60_0_12 Kn x123 x124 x125 x126 x127 x128 x129 x130 x131 x132 x133 x134 x135) (u60_0_12 (K .normal) x123 x124 x125 x126 x127 x128 x129 x130 x131 x132 x133 x134 x135) (u60_0_13 (K .ret) x123 x124 x125 x126 x127 0 20 x128 x131 x132 x133 x134 x135) := by kernel_rfl
theorem r60_0_5 (α : Type) (K : Exit → St → Option α) (Kn : St → Option α) (y136 : Int × Int) (x123 : Int) (x124 : Int) (x125 : Rows) (x126 : Rows) (x127 : Int) (x128 : Rows) (x129 : Int) (x130 : Int) (x131 : Rows) (x132 : Rows) (x133 : Int) (x134 : Int) (x135 : Int) : u60_0_12 (fun σ => roundT (runM Try.prog E60_0 sh60 ca60_0_64) (runM Try.prog E60_0 sh60 c60_0_64) [63, 64] td60_64 Kn K (xII.ex y136) σ) x123 x124 x125 x126 x127 x128 x129 x130 x131 x132 x133 x134 x135 = S60_0_5 α x128 x135 y136  (u60_0_12 Kn x123 x124 x125 x126 x127 x128 x129 x130 x131 x132 x133 x134 x135) (u60_0_12 (K .normal) x123 x124 x125 x126 x127 x128 x129 x130 x131 x132 x133 x134 x135) (u60_0_13 (K .ret) x123 x124 x125 x126 x127 0 20 x128 x131 x132 x133 x134 x135) := r60_0_5g f109_0 f78_0 f116_0 f111_0 q131 α K Kn y136 x123 x124 x125 x126 x127 x128 x129 x130 x131 x132 x133 x134 x135
theorem t60_0_5 (α : Type) (K : Exit → St → Option α) : ∀ (ys : List (Int × Int)) (x123 : Int) (x124 : Int) (x125 : Rows) (x126 : Rows) (x127 : Int) (x128 : Rows) (x129 : Int) (x130 : Int) (x131 : Rows) (x132 : Rows) (x133 : Int) (x134 : Int) (x135 : Int), V60_0_5 α x128 x135 (u60_0_12 (K .normal) x123 x124 x125 x126 x127 x128 x129 x130 x131 x132 x133 x134 x135) (u60_0_13 (K .ret) x123 x124 x125 x126 x127 0 20 x128 x131 x132 x133 x134 x135) ys  = u60_0_12 (roundsK (runM Try.prog E60_0 sh60 ca60_0_64) (runM Try.prog E60_0 sh60 c60_0_64) [63, 64] td60_64 K (ys.map xII.ex)) x123 x124 x125 x126 x127 x128 x129 x130 x131 x132 x133 x134 x135 := by
  intro ys
  induction ys with
  | nil => intros; rfl
  | cons y136 ys ih => intro x123 x124 x125 x126 x127 x128 x129 x130 x131 x132 x133 x134 x135; exact (congrArg (fun kn => S60_0_5 α x128 x135 y136  kn (u60_0_12 (K .normal) x123 x124 x125 x126 x127 x128 x129 x130 x131 x132 x133 x134 x135) (u60_0_13 (K .ret) x123 x124 x125 x126 x127 0 20 x128 x131 x132 x133 x134 x135)) (ih x123 x124 x125 x126 x127 x128 x129 x130 x131 x132 x133 x134 x135)).trans (r60_0_5 α K (roundsK (runM Try.prog E60_0 sh60 ca60_0_64) (runM Try.prog E60_0 sh60 c60_0_64) [63, 64] td60_64 K (ys.map xII.ex)) y136 x123 x124 x125 x126 x127 x128 x129 x130 x131 x132 x133 x134 x135).symm
theorem m60_0_5 : ∀ (α : Type) (K : Exit → St → Option α) (ys : List (Int × Int)), F60_0_5 V60_0_5 α K ys = p60_0_12.unc fun σ => roundsK (runM Try.prog E60_0 sh60 ca60_0_64) (runM Try.prog E60_0 sh60 c60_0_64) [63, 64] td60_64 K (ys.map xII.ex) σ := fun α K ys => funext fun x123 => funext fun x124 => funext fun x125 => funext fun x126 => funext fun x127 => funext fun x128 => funext fun x129 => funext fun x130 => funext fun x131 => funext fun x132 => funext fun x133 => funext fun x134 => funext fun x135 => t60_0_5 α K ys x123 x124 x125 x126 x127 x128 x129 x130 x131 x132 x133 x134 x135

noncomputable def c60_0_46g (vV60_0_2 : TV60_0_2) (vV60_0_5 : TV60_0_5) : MCode := (.seq (.region r60_48 [] (some ⟨[5, 6, 7, 8, 49, 50, 51], true, [], []⟩)) (.seq (.cond (.tmp 51) .skip (.exit 2)) (.seq (.block 3 (.seq (.region r60_54 [] (some ⟨[5, 6, 7, 8, 12, 49, 50], true, [], []⟩)) (.seq (.region r60_56 [] (some ⟨[5, 6, 7, 8, 13, 49, 50], true, [], []⟩)) (.seq (.seq (.region r60_59 [] (some ⟨[5, 6, 7, 8, 13, 49, 50, 58], true, [], []⟩)) (.cond (.tmp 58) (.exit 3) .skip)) (.seq (.region r60_62 [] (some ⟨[5, 6, 7, 8, 13, 49, 50, 62], true, [⟨true, 3, 0, 30300, 1⟩, ⟨true, 3, 1, 30301, 4⟩, ⟨true, 4, 0, 30400, 1⟩, ⟨true, 4, 1, 30401, 1⟩, ⟨true, 5, 0, 30500, 1⟩, ⟨true, 8, 0, 30800, 1⟩, ⟨true, 8, 1, 30801, 4⟩, ⟨false, 0, 0, 30800, 999999⟩, ⟨false, 0, 0, 30801, 999999⟩], []⟩)) (.block 4 (.rangeF (.tmp 62) [63, 64] td60_64 [⟨xII, p60_0_6, F60_0_2 vV60_0_2⟩, ⟨xII, p60_0_12, F60_0_5 vV60_0_5⟩] ca60_0_64 c60_0_64))))))) (.region r60_72 [] (some ⟨[5, 6, 7, 8, 49, 50], true, [], []⟩)))))
noncomputable def c60_0_46 : MCode := c60_0_46g V60_0_2 V60_0_5
theorem g60_0_46 : c60_0_46.Good Try.prog E60_0 sh60 := ⟨trivial, ⟨⟨trivial, trivial⟩, ⟨⟨trivial, ⟨trivial, ⟨⟨trivial, ⟨trivial, trivial⟩⟩, ⟨trivial, ⟨⟨ga60_0_64, g60_0_64⟩, m60_0_2, m60_0_5, trivial⟩⟩⟩⟩⟩, trivial⟩⟩⟩
--CODE 46 0
def S60_0_3g (vV60_0_2 : TV60_0_2) (vf111_0 : Tf111_0) (vf116_0 : Tf116_0) (vq131 : Tq131) (α : Type) (x42 : Int) (x44 : Rows) (x49 : Rows) (x50 : Rows) (x43 : Int) (kn : Int → Option α) (k1 : Int → Rows → Rows → Int → Int → Option α) (k2 : Int → Bool → Option α) : Option α :=
  cK (decide (x43 < x42))
    (vf116_0 α x49 x50 x43
      (fun (x52 : Bool) => cK (!x52)
        (kn (w64 (x43 + 1)))
        (vf111_0 α x49 x50 x43
          (fun (x53 : Rows) (x54 : Rows) (x55 : Int) => qK (vq131 x53 x54 x55) xII fun y77 => vV60_0_2 α x44 x43
            (kn (w64 (x43 + 1)))
            (k1 x43 x53 x54 x55 x43) y77 ))))
    (k2 x43 (decide (x43 < x42)))
noncomputable def S60_0_3 (α : Type) (x42 : Int) (x44 : Rows) (x49 : Rows) (x50 : Rows) (x43 : Int) (kn : Int → Option α) (k1 : Int → Rows → Rows → Int → Int → Option α) (k2 : Int → Bool → Option α) : Option α := S60_0_3g V60_0_2 f111_0 f116_0 q131 α x42 x44 x49 x50 x43 kn k1 k2
noncomputable def R60_0_3 (α : Type) (x42 : Int) (x44 : Rows) (x49 : Rows) (x50 : Rows) (k1 : Int → Rows → Rows → Int → Int → Option α) (k2 : Int → Bool → Option α) : Nat → Int → Option α
  | 0, _ => none
  | n + 1, x43 => S60_0_3 α x42 x44 x49 x50 x43 (R60_0_3 α x42 x44 x49 x50 k1 k2 n) k1 k2
noncomputable def L60_0_3 (α : Type) (x42 : Int) (x44 : Rows) (x49 : Rows) (x50 : Rows) (k1 : Int → Rows → Rows → Int → Int → Option α) (k2 : Int → Bool → Option α) (x43 : Int) : Option α := R60_0_3 α x42 x44 x49 x50 k1 k2 fuel x43
abbrev TL60_0_3 : Type 1 := (α : Type) → Int → Rows → Rows → Rows → (Int → Rows → Rows → Int → Int → Option α) → (Int → Bool → Option α) → Int → Option α
def F60_0_3 (v : TL60_0_3) (α : Type) (K : Exit → St → Option α) : Int → Int → Rows → Int → Int → Int → Int → Rows → Rows → Option α := fun x42 x43 x44 x45 x46 x47 x48 x49 x50 => v α x42 x44 x49 x50 (fun (y1 : Int) (y2 : Rows) (y3 : Rows) (y4 : Int) (y5 : Int) => u60_0_7 (K .ret) x42 y1 y2 y3 y4 0 20 x44 x47 x48 x49 x50 y5) (fun (y1 : Int) (y2 : Bool) => u60_0_9 (K (.exit 2)) x42 y1 y2 x44 x45 x46 x47 x48 x49 x50) x43
theorem r60_0_3g (vf109_0 : Tf109_0) (vf78_0 : Tf78_0) (vf116_0 : Tf116_0) (vf111_0 : Tf111_0) (vq131 : Tq131) (vV60_0_2 : TV60_0_2) (vV60_0_5 : TV60_0_5) (α : Type) (K : Exit → St → Option α) (Kn : St → Option α) (x42 : Int) (x43 : Int) (x44 : Rows) (x45 : Int) (x46 : Int) (x47 : Int) (x48 : Int) (x49 : Rows) (x50 : Rows) : u60_0_8 (fun σ => runM Try.prog (E60_0g vf109_0 vf78_0 vf116_0 vf111_0 vq131) sh60 (c60_0_46g vV60_0_2 vV60_0_5) (thenK (fun σ => tidyK td60_46 σ Kn) K) σ) x42 x43 x44 x45 x46 x47 x48 x49 x50 = S60_0_3g vV60_0_2 vf111_0 vf116_0 vq131 α x42 x44 x49 x50 x43 (fun x43 => u60_0_8 Kn x42 x43 x44 x45 x46 x47 x48 x49 x50) (fun (y1 : Int) (y2 : Rows) (y3 : Rows) (y4 : Int) (y5 : Int) => u60_0_7 (K .ret) x42 y1 y2 y3 y4 0 20 x44 x47 x48 x49 x50 y5) (fun (y1 : Int) (y2 : Bool) => u60_0_9 (K (.exit 2)) x42 y1 y2 x44 x45 x46 x47 x48 x49 x50) := by kernel_rfl
theorem r60_0_3 (α : Type) (K : Exit → St → Option α) (Kn : St → Option α) (x42 : Int) (x43 : Int) (x44 : Rows) (x45 : Int) (x46 : Int) (x47 : Int) (x48 : Int) (x49 : Rows) (x50 : Rows) : u60_0_8 (fun σ => runM Try.prog E60_0 sh60 c60_0_46 (thenK (fun σ => tidyK td60_46 σ Kn) K) σ) x42 x43 x44 x45 x46 x47 x48 x49 x50 = S60_0_3 α x42 x44 x49 x50 x43 (fun x43 => u60_0_8 Kn x42 x43 x44 x45 x46 x47 x48 x49 x50) (fun (y1 : Int) (y2 : Rows) (y3 : Rows) (y4 : Int) (y5 : Int) => u60_0_7 (K .ret) x42 y1 y2 y3 y4 0 20 x44 x47 x48 x49 x50 y5) (fun (y1 : Int) (y2 : Bool) => u60_0_9 (K (.exit 2)) x42 y1 y2 x44 x45 x46 x47 x48 x49 x50) := r60_0_3g f109_0 f78_0 f116_0 f111_0 q131 V60_0_2 V60_0_5 α K Kn x42 x43 x44 x45 x46 x47 x48 x49 x50
theorem t60_0_3 (α : Type) (K : Exit → St → Option α) : ∀ (n : Nat) (x42 : Int) (x43 : Int) (x44 : Rows) (x45 : Int) (x46 : Int) (x47 : Int) (x48 : Int) (x49 : Rows) (x50 : Rows), R60_0_3 α x42 x44 x49 x50 (fun (y1 : Int) (y2 : Rows) (y3 : Rows) (y4 : Int) (y5 : Int) => u60_0_7 (K .ret) x42 y1 y2 y3 y4 0 20 x44 x47 x48 x49 x50 y5) (fun (y1 : Int) (y2 : Bool) => u60_0_9 (K (.exit 2)) x42 y1 y2 x44 x45 x46 x47 x48 x49 x50) n x43 = u60_0_8 (loopT (runM Try.prog E60_0 sh60 c60_0_46) td60_46 K n) x42 x43 x44 x45 x46 x47 x48 x49 x50 := by
  intro n
  induction n with
  | zero => intros; rfl
  | succ n ih => intro x42 x43 x44 x45 x46 x47 x48 x49 x50; exact (congrArg (fun kn => S60_0_3 α x42 x44 x49 x50 x43 kn (fun (y1 : Int) (y2 : Rows) (y3 : Rows) (y4 : Int) (y5 : Int) => u60_0_7 (K .ret) x42 y1 y2 y3 y4 0 20 x44 x47 x48 x49 x50 y5) (fun (y1 : Int) (y2 : Bool) => u60_0_9 (K (.exit 2)) x42 y1 y2 x44 x45 x46 x47 x48 x49 x50)) (funext fun x43 => ih x42 x43 x44 x45 x46 x47 x48 x49 x50)).trans (r60_0_3 α K (loopT (runM Try.prog E60_0 sh60 c60_0_46) td60_46 K n) x42 x43 x44 x45 x46 x47 x48 x49 x50).symm
theorem m60_0_3 : ∀ (α : Type) (K : Exit → St → Option α), F60_0_3 L60_0_3 α K = p60_0_8.unc fun σ => loopT (runM Try.prog E60_0 sh60 c60_0_46) td60_46 K fuel σ := fun α K => funext fun x42 => funext fun x43 => funext fun x44 => funext fun x45 => funext fun x46 => funext fun x47 => funext fun x48 => funext fun x49 => funext fun x50 => t60_0_3 α K fuel x42 x43 x44 x45 x46 x47 x48 x49 x50
--CODE 46 0
def S60_0_6g (vV60_0_5 : TV60_0_5) (vf111_0 : Tf111_0) (vf116_0 : Tf116_0) (vq131 : Tq131) (α : Type) (x104 : Int) (x106 : Rows) (x109 : Rows) (x110 : Rows) (x105 : Int) (kn : Int → Option α) (k1 : Int → Rows → Rows → Int → Int → Option α) (k2 : Int → Bool → Option α) : Option α :=
  cK (decide (x105 < x104))
    (vf116_0 α x109 x110 x105
      (fun (x114 : Bool) => cK (!x114)
        (kn (w64 (x105 + 1)))
        (vf111_0 α x109 x110 x105
          (fun (x115 : Rows) (x116 : Rows) (x117 : Int) => qK (vq131 x115 x116 x117) xII fun y139 => vV60_0_5 α x106 x105
            (kn (w64 (x105 + 1)))
            (k1 x105 x115 x116 x117 x105) y139 ))))
    (k2 x105 (decide (x105 < x104)))
noncomputable def S60_0_6 (α : Type) (x104 : Int) (x106 : Rows) (x109 : Rows) (x110 : Rows) (x105 : Int) (kn : Int → Option α) (k1 : Int → Rows → Rows → Int → Int → Option α) (k2 : Int → Bool → Option α) : Option α := S60_0_6g V60_0_5 f111_0 f116_0 q131 α x104 x106 x109 x110 x105 kn k1 k2
noncomputable def R60_0_6 (α : Type) (x104 : Int) (x106 : Rows) (x109 : Rows) (x110 : Rows) (k1 : Int → Rows → Rows → Int → Int → Option α) (k2 : Int → Bool → Option α) : Nat → Int → Option α
  | 0, _ => none
  | n + 1, x105 => S60_0_6 α x104 x106 x109 x110 x105 (R60_0_6 α x104 x106 x109 x110 k1 k2 n) k1 k2
noncomputable def L60_0_6 (α : Type) (x104 : Int) (x106 : Rows) (x109 : Rows) (x110 : Rows) (k1 : Int → Rows → Rows → Int → Int → Option α) (k2 : Int → Bool → Option α) (x105 : Int) : Option α := R60_0_6 α x104 x106 x109 x110 k1 k2 fuel x105
abbrev TL60_0_6 : Type 1 := (α : Type) → Int → Rows → Rows → Rows → (Int → Rows → Rows → Int → Int → Option α) → (Int → Bool → Option α) → Int → Option α
def F60_0_6 (v : TL60_0_6) (α : Type) (K : Exit → St → Option α) : Int → Int → Rows → Int → Int → Rows → Rows → Int → Int → Option α := fun x104 x105 x106 x107 x108 x109 x110 x111 x112 => v α x104 x106 x109 x110 (fun (y1 : Int) (y2 : Rows) (y3 : Rows) (y4 : Int) (y5 : Int) => u60_0_13 (K .ret) x104 y1 y2 y3 y4 0 20 x106 x109 x110 x111 x112 y5) (fun (y1 : Int) (y2 : Bool) => u60_0_15 (K (.exit 2)) x104 y1 y2 x106 x107 x108 x109 x110 x111 x112) x105
theorem r60_0_6g (vf109_0 : Tf109_0) (vf78_0 : Tf78_0) (vf116_0 : Tf116_0) (vf111_0 : Tf111_0) (vq131 : Tq131) (vV60_0_2 : TV60_0_2) (vV60_0_5 : TV60_0_5) (α : Type) (K : Exit → St → Option α) (Kn : St → Option α) (x104 : Int) (x105 : Int) (x106 : Rows) (x107 : Int) (x108 : Int) (x109 : Rows) (x110 : Rows) (x111 : Int) (x112 : Int) : u60_0_14 (fun σ => runM Try.prog (E60_0g vf109_0 vf78_0 vf116_0 vf111_0 vq131) sh60 (c60_0_46g vV60_0_2 vV60_0_5) (thenK (fun σ => tidyK td60_46 σ Kn) K) σ) x104 x105 x106 x107 x108 x109 x110 x111 x112 = S60_0_6g vV60_0_5 vf111_0 vf116_0 vq131 α x104 x106 x109 x110 x105 (fun x105 => u60_0_14 Kn x104 x105 x106 x107 x108 x109 x110 x111 x112) (fun (y1 : Int) (y2 : Rows) (y3 : Rows) (y4 : Int) (y5 : Int) => u60_0_13 (K .ret) x104 y1 y2 y3 y4 0 20 x106 x109 x110 x111 x112 y5) (fun (y1 : Int) (y2 : Bool) => u60_0_15 (K (.exit 2)) x104 y1 y2 x106 x107 x108 x109 x110 x111 x112) := by kernel_rfl
theorem r60_0_6 (α : Type) (K : Exit → St → Option α) (Kn : St → Option α) (x104 : Int) (x105 : Int) (x106 : Rows) (x107 : Int) (x108 : Int) (x109 : Rows) (x110 : Rows) (x111 : Int) (x112 : Int) : u60_0_14 (fun σ => runM Try.prog E60_0 sh60 c60_0_46 (thenK (fun σ => tidyK td60_46 σ Kn) K) σ) x104 x105 x106 x107 x108 x109 x110 x111 x112 = S60_0_6 α x104 x106 x109 x110 x105 (fun x105 => u60_0_14 Kn x104 x105 x106 x107 x108 x109 x110 x111 x112) (fun (y1 : Int) (y2 : Rows) (y3 : Rows) (y4 : Int) (y5 : Int) => u60_0_13 (K .ret) x104 y1 y2 y3 y4 0 20 x106 x109 x110 x111 x112 y5) (fun (y1 : Int) (y2 : Bool) => u60_0_15 (K (.exit 2)) x104 y1 y2 x106 x107 x108 x109 x110 x111 x112) := r60_0_6g f109_0 f78_0 f116_0 f111_0 q131 V60_0_2 V60_0_5 α K Kn x104 x105 x106 x107 x108 x109 x110 x111 x112
theorem t60_0_6 (α : Type) (K : Exit → St → Option α) : ∀ (n : Nat) (x104 : Int) (x105 : Int) (x106 : Rows) (x107 : Int) (x108 : Int) (x109 : Rows) (x110 : Rows) (x111 : Int) (x112 : Int), R60_0_6 α x104 x106 x109 x110 (fun (y1 : Int) (y2 : Rows) (y3 : Rows) (y4 : Int) (y5 : Int) => u60_0_13 (K .ret) x104 y1 y2 y3 y4 0 20 x106 x109 x110 x111 x112 y5) (fun (y1 : Int) (y2 : Bool) => u60_0_15 (K (.exit 2)) x104 y1 y2 x106 x107 x108 x109 x110 x111 x112) n x105 = u60_0_14 (loopT (runM Try.prog E60_0 sh60 c60_0_46) td60_46 K n) x104 x105 x106 x107 x108 x109 x110 x111 x112 := by
  intro n
  induction n with
  | zero => intros; rfl
  | succ n ih => intro x104 x105 x106 x107 x108 x109 x110 x111 x112; exact (congrArg (fun kn => S60_0_6 α x104 x106 x109 x110 x105 kn (fun (y1 : Int) (y2 : Rows) (y3 : Rows) (y4 : Int) (y5 : Int) => u60_0_13 (K .ret) x104 y1 y2 y3 y4 0 20 x106 x109 x110 x111 x112 y5) (fun (y1 : Int) (y2 : Bool) => u60_0_15 (K (.exit 2)) x104 y1 y2 x106 x107 x108 x109 x110 x111 x112)) (funext fun x105 => ih x104 x105 x106 x107 x108 x109 x110 x111 x112)).trans (r60_0_6 α K (loopT (runM Try.prog E60_0 sh60 c60_0_46) td60_46 K n) x104 x105 x106 x107 x108 x109 x110 x111 x112).symm
theorem m60_0_6 : ∀ (α : Type) (K : Exit → St → Option α), F60_0_6 L60_0_6 α K = p60_0_14.unc fun σ => loopT (runM Try.prog E60_0 sh60 c60_0_46) td60_46 K fuel σ := fun α K => funext fun x104 => funext fun x105 => funext fun x106 => funext fun x107 => funext fun x108 => funext fun x109 => funext fun x110 => funext fun x111 => funext fun x112 => t60_0_6 α K fuel x104 x105 x106 x107 x108 x109 x110 x111 x112

noncomputable def c60_0_21g  : MCode := (.seq (.region r60_23 [] (some ⟨[5, 6, 7, 8, 32, 33, 34, 35], true, [], []⟩)) (.seq (.cond (.tmp 35) .skip (.exit 0)) (.seq (.block 1 (.seq (.region r60_29 [] (some ⟨[5, 6, 7, 8, 11, 32, 33, 34], true, [], []⟩)) (.seq (.region r60_31 [] (some ⟨[5, 6, 7, 8, 32, 33, 34, 40], true, [], []⟩)) (.cond (.tmp 40) (.seq (.region r60_34 [] (some ⟨[6, 7], true, [], []⟩)) .ret) .skip)))) (.region r60_35 [] (some ⟨[5, 6, 7, 8, 32, 33, 34], true, [], []⟩)))))
noncomputable def c60_0_21 : MCode := c60_0_21g 
theorem g60_0_21 : c60_0_21.Good Try.prog E60_0 sh60 := ⟨trivial, ⟨⟨trivial, trivial⟩, ⟨⟨trivial, ⟨trivial, ⟨⟨trivial, trivial⟩, trivial⟩⟩⟩, trivial⟩⟩⟩
--CODE 21 0
def S60_0_1g (vf78_0 : Tf78_0) (α : Type) (x25 : Rows) (x26 : Int) (x27 : Int) (kn : Int → Option α) (k1 : Option α) (k2 : Int → Bool → Option α) : Option α :=
  cK (decide (x27 < x26))
    (rowK x25 x27 [.int .i64]
      (fun (x36 : Int) => vf78_0 α x36 0 1000
        (fun (x37 : Bool) => cK (!x37)
          (k1)
          (kn (w64 (x27 + 1))))))
    (k2 x27 (decide (x27 < x26)))
noncomputable def S60_0_1 (α : Type) (x25 : Rows) (x26 : Int) (x27 : Int) (kn : Int → Option α) (k1 : Option α) (k2 : Int → Bool → Option α) : Option α := S60_0_1g f78_0 α x25 x26 x27 kn k1 k2
noncomputable def R60_0_1 (α : Type) (x25 : Rows) (x26 : Int) (k1 : Option α) (k2 : Int → Bool → Option α) : Nat → Int → Option α
  | 0, _ => none
  | n + 1, x27 => S60_0_1 α x25 x26 x27 (R60_0_1 α x25 x26 k1 k2 n) k1 k2
noncomputable def L60_0_1 (α : Type) (x25 : Rows) (x26 : Int) (k1 : Option α) (k2 : Int → Bool → Option α) (x27 : Int) : Option α := R60_0_1 α x25 x26 k1 k2 fuel x27
abbrev TL60_0_1 : Type 1 := (α : Type) → Rows → Int → (Option α) → (Int → Bool → Option α) → Int → Option α
def F60_0_1 (v : TL60_0_1) (α : Type) (K : Exit → St → Option α) : Rows → Int → Int → Rows → Int → Int → Int → Int → Rows → Rows → Option α := fun x25 x26 x27 x28 x29 x30 x31 x32 x33 x34 => v α x25 x26 (u60_0_4 (K .ret) 0 2) (fun (y1 : Int) (y2 : Bool) => u60_0_5 (K (.exit 0)) x25 x26 y1 y2 x28 x29 x30 x31 x32 x33 x34) x27
theorem r60_0_1g (vf109_0 : Tf109_0) (vf78_0 : Tf78_0) (vf116_0 : Tf116_0) (vf111_0 : Tf111_0) (vq131 : Tq131)  (α : Type) (K : Exit → St → Option α) (Kn : St → Option α) (x25 : Rows) (x26 : Int) (x27 : Int) (x28 : Rows) (x29 : Int) (x30 : Int) (x31 : Int) (x32 : Int) (x33 : Rows) (x34 : Rows) : u60_0_3 (fun σ => runM Try.prog (E60_0g vf109_0 vf78_0 vf116_0 vf111_0 vq131) sh60 (c60_0_21g ) (thenK (fun σ => tidyK td60_21 σ Kn) K) σ) x25 x26 x27 x28 x29 x30 x31 x32 x33 x34 = S60_0_1g vf78_0 α x25 x26 x27 (fun x27 => u60_0_3 Kn x25 x26 x27 x28 x29 x30 x31 x32 x33 x34) (u60_0_4 (K .ret) 0 2) (fun (y1 : Int) (y2 : Bool) => u60_0_5 (K (.exit 0)) x25 x26 y1 y2 x28 x29 x30 x31 x32 x33 x34) := by kernel_rfl
theorem r60_0_1 (α : Type) (K : Exit → St → Option α) (Kn : St → Option α) (x25 : Rows) (x26 : Int) (x27 : Int) (x28 : Rows) (x29 : Int) (x30 : Int) (x31 : Int) (x32 : Int) (x33 : Rows) (x34 : Rows) : u60_0_3 (fun σ => runM Try.prog E60_0 sh60 c60_0_21 (thenK (fun σ => tidyK td60_21 σ Kn) K) σ) x25 x26 x27 x28 x29 x30 x31 x32 x33 x34 = S60_0_1 α x25 x26 x27 (fun x27 => u60_0_3 Kn x25 x26 x27 x28 x29 x30 x31 x32 x33 x34) (u60_0_4 (K .ret) 0 2) (fun (y1 : Int) (y2 : Bool) => u60_0_5 (K (.exit 0)) x25 x26 y1 y2 x28 x29 x30 x31 x32 x33 x34) := r60_0_1g f109_0 f78_0 f116_0 f111_0 q131 α K Kn x25 x26 x27 x28 x29 x30 x31 x32 x33 x34
theorem t60_0_1 (α : Type) (K : Exit → St → Option α) : ∀ (n : Nat) (x25 : Rows) (x26 : Int) (x27 : Int) (x28 : Rows) (x29 : Int) (x30 : Int) (x31 : Int) (x32 : Int) (x33 : Rows) (x34 : Rows), R60_0_1 α x25 x26 (u60_0_4 (K .ret) 0 2) (fun (y1 : Int) (y2 : Bool) => u60_0_5 (K (.exit 0)) x25 x26 y1 y2 x28 x29 x30 x31 x32 x33 x34) n x27 = u60_0_3 (loopT (runM Try.prog E60_0 sh60 c60_0_21) td60_21 K n) x25 x26 x27 x28 x29 x30 x31 x32 x33 x34 := by
  intro n
  induction n with
  | zero => intros; rfl
  | succ n ih => intro x25 x26 x27 x28 x29 x30 x31 x32 x33 x34; exact (congrArg (fun kn => S60_0_1 α x25 x26 x27 kn (u60_0_4 (K .ret) 0 2) (fun (y1 : Int) (y2 : Bool) => u60_0_5 (K (.exit 0)) x25 x26 y1 y2 x28 x29 x30 x31 x32 x33 x34)) (funext fun x27 => ih x25 x26 x27 x28 x29 x30 x31 x32 x33 x34)).trans (r60_0_1 α K (loopT (runM Try.prog E60_0 sh60 c60_0_21) td60_21 K n) x25 x26 x27 x28 x29 x30 x31 x32 x33 x34).symm
theorem m60_0_1 : ∀ (α : Type) (K : Exit → St → Option α), F60_0_1 L60_0_1 α K = p60_0_3.unc fun σ => loopT (runM Try.prog E60_0 sh60 c60_0_21) td60_21 K fuel σ := fun α K => funext fun x25 => funext fun x26 => funext fun x27 => funext fun x28 => funext fun x29 => funext fun x30 => funext fun x31 => funext fun x32 => funext fun x33 => funext fun x34 => t60_0_1 α K fuel x25 x26 x27 x28 x29 x30 x31 x32 x33 x34
--CODE 21 0
def S60_0_4g (vf78_0 : Tf78_0) (α : Type) (x87 : Rows) (x88 : Int) (x89 : Int) (kn : Int → Option α) (k1 : Option α) (k2 : Int → Bool → Option α) : Option α :=
  cK (decide (x89 < x88))
    (rowK x87 x89 [.int .i64]
      (fun (x98 : Int) => vf78_0 α x98 0 1000
        (fun (x99 : Bool) => cK (!x99)
          (k1)
          (kn (w64 (x89 + 1))))))
    (k2 x89 (decide (x89 < x88)))
noncomputable def S60_0_4 (α : Type) (x87 : Rows) (x88 : Int) (x89 : Int) (kn : Int → Option α) (k1 : Option α) (k2 : Int → Bool → Option α) : Option α := S60_0_4g f78_0 α x87 x88 x89 kn k1 k2
noncomputable def R60_0_4 (α : Type) (x87 : Rows) (x88 : Int) (k1 : Option α) (k2 : Int → Bool → Option α) : Nat → Int → Option α
  | 0, _ => none
  | n + 1, x89 => S60_0_4 α x87 x88 x89 (R60_0_4 α x87 x88 k1 k2 n) k1 k2
noncomputable def L60_0_4 (α : Type) (x87 : Rows) (x88 : Int) (k1 : Option α) (k2 : Int → Bool → Option α) (x89 : Int) : Option α := R60_0_4 α x87 x88 k1 k2 fuel x89
abbrev TL60_0_4 : Type 1 := (α : Type) → Rows → Int → (Option α) → (Int → Bool → Option α) → Int → Option α
def F60_0_4 (v : TL60_0_4) (α : Type) (K : Exit → St → Option α) : Rows → Int → Int → Rows → Int → Int → Rows → Rows → Int → Int → Option α := fun x87 x88 x89 x90 x91 x92 x93 x94 x95 x96 => v α x87 x88 (u60_0_4 (K .ret) 0 2) (fun (y1 : Int) (y2 : Bool) => u60_0_11 (K (.exit 0)) x87 x88 y1 y2 x90 x91 x92 x93 x94 x95 x96) x89
theorem r60_0_4g (vf109_0 : Tf109_0) (vf78_0 : Tf78_0) (vf116_0 : Tf116_0) (vf111_0 : Tf111_0) (vq131 : Tq131)  (α : Type) (K : Exit → St → Option α) (Kn : St → Option α) (x87 : Rows) (x88 : Int) (x89 : Int) (x90 : Rows) (x91 : Int) (x92 : Int) (x93 : Rows) (x94 : Rows) (x95 : Int) (x96 : Int) : u60_0_10 (fun σ => runM Try.prog (E60_0g vf109_0 vf78_0 vf116_0 vf111_0 vq131) sh60 (c60_0_21g ) (thenK (fun σ => tidyK td60_21 σ Kn) K) σ) x87 x88 x89 x90 x91 x92 x93 x94 x95 x96 = S60_0_4g vf78_0 α x87 x88 x89 (fun x89 => u60_0_10 Kn x87 x88 x89 x90 x91 x92 x93 x94 x95 x96) (u60_0_4 (K .ret) 0 2) (fun (y1 : Int) (y2 : Bool) => u60_0_11 (K (.exit 0)) x87 x88 y1 y2 x90 x91 x92 x93 x94 x95 x96) := by kernel_rfl
theorem r60_0_4 (α : Type) (K : Exit → St → Option α) (Kn : St → Option α) (x87 : Rows) (x88 : Int) (x89 : Int) (x90 : Rows) (x91 : Int) (x92 : Int) (x93 : Rows) (x94 : Rows) (x95 : Int) (x96 : Int) : u60_0_10 (fun σ => runM Try.prog E60_0 sh60 c60_0_21 (thenK (fun σ => tidyK td60_21 σ Kn) K) σ) x87 x88 x89 x90 x91 x92 x93 x94 x95 x96 = S60_0_4 α x87 x88 x89 (fun x89 => u60_0_10 Kn x87 x88 x89 x90 x91 x92 x93 x94 x95 x96) (u60_0_4 (K .ret) 0 2) (fun (y1 : Int) (y2 : Bool) => u60_0_11 (K (.exit 0)) x87 x88 y1 y2 x90 x91 x92 x93 x94 x95 x96) := r60_0_4g f109_0 f78_0 f116_0 f111_0 q131 α K Kn x87 x88 x89 x90 x91 x92 x93 x94 x95 x96
theorem t60_0_4 (α : Type) (K : Exit → St → Option α) : ∀ (n : Nat) (x87 : Rows) (x88 : Int) (x89 : Int) (x90 : Rows) (x91 : Int) (x92 : Int) (x93 : Rows) (x94 : Rows) (x95 : Int) (x96 : Int), R60_0_4 α x87 x88 (u60_0_4 (K .ret) 0 2) (fun (y1 : Int) (y2 : Bool) => u60_0_11 (K (.exit 0)) x87 x88 y1 y2 x90 x91 x92 x93 x94 x95 x96) n x89 = u60_0_10 (loopT (runM Try.prog E60_0 sh60 c60_0_21) td60_21 K n) x87 x88 x89 x90 x91 x92 x93 x94 x95 x96 := by
  intro n
  induction n with
  | zero => intros; rfl
  | succ n ih => intro x87 x88 x89 x90 x91 x92 x93 x94 x95 x96; exact (congrArg (fun kn => S60_0_4 α x87 x88 x89 kn (u60_0_4 (K .ret) 0 2) (fun (y1 : Int) (y2 : Bool) => u60_0_11 (K (.exit 0)) x87 x88 y1 y2 x90 x91 x92 x93 x94 x95 x96)) (funext fun x89 => ih x87 x88 x89 x90 x91 x92 x93 x94 x95 x96)).trans (r60_0_4 α K (loopT (runM Try.prog E60_0 sh60 c60_0_21) td60_21 K n) x87 x88 x89 x90 x91 x92 x93 x94 x95 x96).symm
theorem m60_0_4 : ∀ (α : Type) (K : Exit → St → Option α), F60_0_4 L60_0_4 α K = p60_0_10.unc fun σ => loopT (runM Try.prog E60_0 sh60 c60_0_21) td60_21 K fuel σ := fun α K => funext fun x87 => funext fun x88 => funext fun x89 => funext fun x90 => funext fun x91 => funext fun x92 => funext fun x93 => funext fun x94 => funext fun x95 => funext fun x96 => t60_0_4 α K fuel x87 x88 x89 x90 x91 x92 x93 x94 x95 x96

noncomputable def c60_0_3g  : MCode := (.region r60_4 [] (some ⟨[3, 5, 6, 7, 8, 9], true, [], []⟩))
noncomputable def c60_0_3 : MCode := c60_0_3g 
theorem g60_0_3 : c60_0_3.Good Try.prog E60_0 sh60 := trivial
--CODE 3 0
abbrev TJ60_0_0 : Type 1 := (α : Type) → Rows → Rows → Rows → Rows → (Int → Option α) → (Rows → Rows → Int → Int → Option α) → Option α
def J60_0_0g (vf109_0 : Tf109_0) (α : Type) (x6 : Rows) (x7 : Rows) (x8 : Rows) (x9 : Rows) (k1 : Int → Option α) (k2 : Rows → Rows → Int → Int → Option α) : Option α :=
  vf109_0 α x6 x7 x8 x9
    (fun (x14 : Int) => k1 x14)
    (fun (x15 : Rows) (x16 : Rows) (x17 : Int) (x18 : Int) => k2 x15 x16 x17 x18)
noncomputable def J60_0_0 (α : Type) (x6 : Rows) (x7 : Rows) (x8 : Rows) (x9 : Rows) (k1 : Int → Option α) (k2 : Rows → Rows → Int → Int → Option α) : Option α := J60_0_0g f109_0 α x6 x7 x8 x9 k1 k2
def F60_0_0 (v : TJ60_0_0) (α : Type) (K : Exit → St → Option α) : Rows → Rows → Rows → Rows → Rows → Int → Int → Option α := fun x6 x7 x8 x9 x10 x11 x12 => v α x6 x7 x8 x9 (fun (y1 : Int) => u60_0_1 (K .normal) y1 x6 x7 x10 x11 x12 0 0 ([] : Rows) ([] : Rows)) (fun (y1 : Rows) (y2 : Rows) (y3 : Int) (y4 : Int) => u60_0_2 (K .normal) 0 x6 x7 x10 x11 x12 y1 y2 y3 y4) 
theorem m60_0_0g (vf109_0 : Tf109_0) (vf78_0 : Tf78_0) (vf116_0 : Tf116_0) (vf111_0 : Tf111_0) (vq131 : Tq131)  (α : Type) (K : Exit → St → Option α) : F60_0_0 (J60_0_0g vf109_0) α K = p60_0_0.unc fun σ => runM Try.prog (E60_0g vf109_0 vf78_0 vf116_0 vf111_0 vq131) sh60 (c60_0_3g ) K σ := by kernel_rfl
theorem m60_0_0 : ∀ (α : Type) (K : Exit → St → Option α), F60_0_0 J60_0_0 α K = p60_0_0.unc fun σ => runM Try.prog E60_0 sh60 c60_0_3 K σ := m60_0_0g f109_0 f78_0 f116_0 f111_0 q131

/-- etalon/grow.CheckLabels -/
abbrev Tf60_0 : Type 1 := (α : Type) → Rows → Rows → Rows → Rows → Rows → (Int → Int → Option α) → Option α
def f60_0g (vJ60_0_0 : TJ60_0_0) (vL60_0_1 : TL60_0_1) (vL60_0_3 : TL60_0_3) (vL60_0_4 : TL60_0_4) (vL60_0_6 : TL60_0_6) (α : Type) (x1 : Rows) (x2 : Rows) (x3 : Rows) (x4 : Rows) (x5 : Rows) (k1 : Int → Int → Option α) : Option α :=
  vJ60_0_0 α x1 x2 x3 x4
    (fun (x19 : Int) => cK (x19 != 0)
      (k1 0 x19)
      (gK (decide (0 ≤ ((List.length x1 : Nat) : Int))) (cK (((List.length x5 : Nat) : Int) != (w64 (1 * 2 ^ (min (Int.toNat ((List.length x1 : Nat) : Int)) 64))))
        (k1 0 12)
        (vL60_0_1 α x5 ((List.length x5 : Nat) : Int)
          (k1 0 2)
          (fun (x38 : Int) (x39 : Bool) => rowK x5 0 [.int .i64]
            (fun (x41 : Int) => cK (x41 != 0)
              (k1 0 20)
              (vL60_0_3 α ((List.length x5 : Nat) : Int) x5 ([] : Rows) ([] : Rows)
                (fun (x78 : Int) (x79 : Rows) (x80 : Rows) (x81 : Int) (x82 : Int) => k1 0 20)
                (fun (x83 : Int) (x84 : Bool) => rowK x5 0 [.int .i64]
                  (fun (x86 : Int) => k1 x86 0)) 0))) 0))))
    (fun (x20 : Rows) (x21 : Rows) (x22 : Int) (x23 : Int) => gK (decide (0 ≤ ((List.length x1 : Nat) : Int))) (cK (((List.length x5 : Nat) : Int) != (w64 (1 * 2 ^ (min (Int.toNat ((List.length x1 : Nat) : Int)) 64))))
      (k1 0 12)
      (vL60_0_4 α x5 ((List.length x5 : Nat) : Int)
        (k1 0 2)
        (fun (x100 : Int) (x101 : Bool) => rowK x5 x22 [.int .i64]
          (fun (x103 : Int) => cK (x103 != 0)
            (k1 0 20)
            (vL60_0_6 α ((List.length x5 : Nat) : Int) x5 x20 x21
              (fun (x140 : Int) (x141 : Rows) (x142 : Rows) (x143 : Int) (x144 : Int) => k1 0 20)
              (fun (x145 : Int) (x146 : Bool) => rowK x5 x23 [.int .i64]
                (fun (x148 : Int) => k1 x148 0)) 0))) 0)))
noncomputable def f60_0 (α : Type) (x1 : Rows) (x2 : Rows) (x3 : Rows) (x4 : Rows) (x5 : Rows) (k1 : Int → Int → Option α) : Option α := f60_0g J60_0_0 L60_0_1 L60_0_3 L60_0_4 L60_0_6 α x1 x2 x3 x4 x5 k1
def pa60_0 : PT (List DV) := pA [pV true [dL, dL], pV true [dL, dL], pV false [dL]]
def Fn60_0 (v : Tf60_0) (α : Type) (k : List RV → Option α) : Rows → Rows → Rows → Rows → Rows → Option α := fun x1 x2 x3 x4 x5 => v α x1 x2 x3 x4 x5 (fun (y1 : Int) (y2 : Int) => ur60_0_0 k y1 y2)
noncomputable def cm60_0g (vJ60_0_0 : TJ60_0_0) (vL60_0_1 : TL60_0_1) (vL60_0_4 : TL60_0_4) (vL60_0_3 : TL60_0_3) (vL60_0_6 : TL60_0_6) : MCode := (.seq (.region r60_2 [] (some ⟨[3, 4, 5, 6, 7], true, [], []⟩)) (.seq (.mark [⟨p60_0_0, F60_0_0 vJ60_0_0⟩] c60_0_3) (.seq (.seq (.region r60_7 [] (some ⟨[3, 5, 6, 7, 8, 9, 23], true, [], []⟩)) (.cond (.tmp 23) (.seq (.region r60_10 [] (some ⟨[6, 7], true, [], []⟩)) .ret) .skip)) (.seq (.seq (.region r60_13 [] (some ⟨[5, 6, 7, 8, 31], true, [], []⟩)) (.cond (.tmp 31) (.seq (.region r60_16 [] (some ⟨[6, 7], true, [], []⟩)) .ret) .skip)) (.seq (.seq (.region r60_19 [] (some ⟨[5, 6, 7, 8, 32, 33, 34], true, [], []⟩)) (.block 0 (.loop td60_21 [⟨p60_0_3, F60_0_1 vL60_0_1⟩, ⟨p60_0_10, F60_0_4 vL60_0_4⟩] c60_0_21))) (.seq (.seq (.region r60_38 [] (some ⟨[5, 6, 7, 8, 47], true, [], []⟩)) (.cond (.tmp 47) (.seq (.region r60_41 [] (some ⟨[6, 7], true, [], []⟩)) .ret) .skip)) (.seq (.seq (.region r60_44 [] (some ⟨[5, 6, 7, 8, 49, 50], true, [], []⟩)) (.block 2 (.loop td60_46 [⟨p60_0_8, F60_0_3 vL60_0_3⟩, ⟨p60_0_14, F60_0_6 vL60_0_6⟩] c60_0_46))) (.seq (.region r60_74 [] (some ⟨[6, 7], true, [], []⟩)) .ret))))))))
noncomputable def cm60_0 : MCode := cm60_0g J60_0_0 L60_0_1 L60_0_4 L60_0_3 L60_0_6
theorem gm60_0 : cm60_0.Good Try.prog E60_0 sh60 := ⟨trivial, ⟨⟨g60_0_3, m60_0_0, trivial⟩, ⟨⟨trivial, ⟨⟨trivial, trivial⟩, trivial⟩⟩, ⟨⟨trivial, ⟨⟨trivial, trivial⟩, trivial⟩⟩, ⟨⟨trivial, ⟨g60_0_21, m60_0_1, m60_0_4, trivial⟩⟩, ⟨⟨trivial, ⟨⟨trivial, trivial⟩, trivial⟩⟩, ⟨⟨trivial, ⟨g60_0_46, m60_0_3, m60_0_6, trivial⟩⟩, ⟨trivial, trivial⟩⟩⟩⟩⟩⟩⟩⟩
theorem fm60_0g (vf109_0 : Tf109_0) (vf78_0 : Tf78_0) (vf116_0 : Tf116_0) (vf111_0 : Tf111_0) (vq131 : Tq131) (vJ60_0_0 : TJ60_0_0) (vL60_0_1 : TL60_0_1) (vL60_0_4 : TL60_0_4) (vL60_0_3 : TL60_0_3) (vL60_0_6 : TL60_0_6) (α : Type) (k : List RV → Option α) : Fn60_0 (f60_0g vJ60_0_0 vL60_0_1 vL60_0_3 vL60_0_4 vL60_0_6) α k = pa60_0.unc fun ds => fnM Try.prog (E60_0g vf109_0 vf78_0 vf116_0 vf111_0 vq131) sh60 (cm60_0g vJ60_0_0 vL60_0_1 vL60_0_4 vL60_0_3 vL60_0_6) rs60 k ds := by kernel_rfl
theorem fm60_0 : ∀ (α : Type) (k : List RV → Option α), Fn60_0 f60_0 α k = pa60_0.unc fun ds => fnM Try.prog E60_0 sh60 cm60_0 rs60 k ds := fm60_0g f109_0 f78_0 f116_0 f111_0 q131 J60_0_0 L60_0_1 L60_0_4 L60_0_3 L60_0_6

theorem is60 : FnIs Try.prog 60 nt60 tr60 tl60 cm60_0.erase rs60 := ⟨Try.f60, Try.func60, rfl, by kernel_rfl, by kernel_rfl, by kernel_rfl⟩
theorem io60_0 : InstOk Try.prog 60 nt60 ⟨pa60_0, Fn60_0 f60_0⟩ := inst_ok eo60_0 followsTry is60 ⟨⟨sh60, cm60_0, by kernel_rfl, gm60_0, fm60_0⟩⟩

/-! ### F62 etalon/grow.CheckSequence -/
abbrev nt62 : Nat := 55
def sh62 : List (Nat × List Sh) := [(14, [.sl, .sl]), (15, [.sl, .sl]), (26, [.int .i64]), (31, [.int .i64]), (32, [.int .i64]), (35, [.sl]), (44, [.sl, .sl]), (51, [.int .i64])]
def r62_2 : List AOper := [⟨(some 3), (.box (.tmp 0)), none⟩, ⟨(some 4), (.box (.tmp 1)), none⟩, ⟨(some 6), (.mv (.const (.int .i64 0))), none⟩, ⟨(some 7), (.mv (.const (.int .i64 0))), none⟩]
def r62_4 : List AOper := [⟨(some 14), (.load true 2 (.tmp 3)), none⟩, ⟨(some 15), (.load true 2 (.tmp 4)), none⟩, ⟨(some 16), (.call 109 [(.tmp 14), (.tmp 15)]), none⟩, ⟨(some 13), (.mv (.tmp 16)), none⟩, ⟨(some 17), (.extract 0 (.tmp 13)), none⟩, ⟨(some 18), (.extract 1 (.tmp 13)), none⟩, ⟨(some 8), (.alloc [.nils, .nils, (.d (.v (.int .i64 0))), (.d (.v (.int .i64 0)))]), none⟩, ⟨none, (.store 4 (.tmp 8) (.tmp 17)), none⟩, ⟨(some 9), (.mv (.tmp 18)), none⟩]
def r62_7 : List AOper := [⟨(some 19), (.mv (.tmp 9)), none⟩, ⟨(some 20), (.bin .neq 32 (.tmp 19) (.const (.int .i64 0))), none⟩]
def r62_10 : List AOper := [⟨(some 21), (.mv (.tmp 9)), none⟩, ⟨(some 6), (.mv (.const (.int .i64 0))), none⟩, ⟨(some 7), (.mv (.tmp 21)), none⟩]
def r62_13 : List AOper := [⟨(some 22), (.mv (.tmp 2)), none⟩, ⟨(some 23), (.len (.tmp 22)), none⟩, ⟨(some 24), (.bin .gtr 3 (.tmp 23) (.const (.int .i64 1000))), none⟩]
def r62_16 : List AOper := [⟨(some 6), (.mv (.const (.int .i64 0))), none⟩, ⟨(some 7), (.mv (.const (.int .i64 8))), none⟩]
def r62_18 : List AOper := [⟨(some 25), (.faddr 2 (.tmp 8)), none⟩, ⟨(some 26), (.load false 1 (.tmp 25)), none⟩, ⟨(some 10), (.mv (.tmp 26)), none⟩]
def r62_21 : List AOper := [⟨(some 27), (.mv (.tmp 2)), none⟩, ⟨(some 28), (.len (.tmp 27)), none⟩, ⟨(some 29), (.mv (.const (.int .i64 0))), none⟩]
def td62_23 : Option Tidy := (some ⟨[2, 3, 8, 10, 27, 28, 29], true, [⟨false, 27, 0, 20027, 1⟩, ⟨true, 3, 0, 30300, 1⟩, ⟨true, 3, 1, 30301, 4⟩, ⟨true, 4, 0, 30400, 1⟩, ⟨true, 4, 1, 30401, 1⟩, ⟨true, 8, 0, 30800, 1⟩, ⟨true, 8, 1, 30801, 4⟩], []⟩)
def r62_25 : List AOper := [⟨(some 30), (.bin .lss 3 (.tmp 29) (.tmp 28)), none⟩]
def r62_31 : List AOper := [⟨(some 31), (.iaddr 1 none (.tmp 27) (.tmp 29)), none⟩, ⟨(some 32), (.load false 1 (.tmp 31)), none⟩, ⟨(some 12), (.mv (.tmp 32)), none⟩]
def r62_34 : List AOper := [⟨(some 33), (.mv (.tmp 12)), none⟩, ⟨(some 34), (.faddr 0 (.tmp 3)), none⟩, ⟨(some 35), (.load false 1 (.tmp 34)), none⟩, ⟨(some 36), (.len (.tmp 35)), none⟩, ⟨(some 37), (.bin .sub 3 (.tmp 36) (.const (.int .i64 1))), none⟩, ⟨(some 38), (.call 78 [(.tmp 33), (.const (.int .i64 0)), (.tmp 37)]), none⟩, ⟨(some 39), (.pure (oB (.unOp .not 4 (.tmp 38)) 4)), none⟩]
def r62_37 : List AOper := [⟨(some 6), (.mv (.const (.int .i64 0))), none⟩, ⟨(some 7), (.mv (.const (.int .i64 6))), none⟩]
def r62_39 : List AOper := [⟨(some 40), (.mv (.tmp 10)), none⟩, ⟨(some 41), (.mv (.tmp 12)), none⟩, ⟨(some 42), (.call 105 [(.tmp 40), (.tmp 41)]), none⟩, ⟨(some 10), (.mv (.tmp 42)), none⟩]
def r62_41 : List AOper := [⟨(some 43), (.faddr 0 (.tmp 8)), none⟩, ⟨(some 44), (.load true 2 (.tmp 43)), none⟩, ⟨(some 45), (.mv (.tmp 10)), none⟩, ⟨(some 46), (.call 116 [(.tmp 44), (.tmp 45)]), none⟩, ⟨(some 47), (.pure (oB (.unOp .not 4 (.tmp 46)) 4)), none⟩]
def r62_44 : List AOper := [⟨(some 6), (.mv (.const (.int .i64 0))), none⟩, ⟨(some 7), (.mv (.const (.int .i64 24))), none⟩]
def r62_45 : List AOper := [⟨(some 48), (.bin .add 3 (.tmp 29) (.const (.int .i64 1))), none⟩, ⟨(some 29), (.mv (.tmp 48)), none⟩]
def r62_48 : List AOper := [⟨(some 49), (.mv (.tmp 10)), none⟩, ⟨(some 50), (.faddr 3 (.tmp 8)), none⟩, ⟨(some 51), (.load false 1 (.tmp 50)), none⟩, ⟨(some 52), (.bin .neq 171 (.tmp 49) (.tmp 51)), none⟩]
def r62_51 : List AOper := [⟨(some 6), (.mv (.const (.int .i64 0))), none⟩, ⟨(some 7), (.mv (.const (.int .i64 23))), none⟩]
def r62_53 : List AOper := [⟨(some 53), (.mv (.tmp 2)), none⟩, ⟨(some 54), (.len (.tmp 53)), none⟩, ⟨(some 6), (.mv (.tmp 54)), none⟩, ⟨(some 7), (.mv (.const (.int .i64 0))), none⟩]
def tr62 : List (Nat × Tidy) := [(0, ⟨[2, 3, 4], true, [], []⟩), (1, ⟨[2, 3, 8, 9], true, [], []⟩), (2, ⟨[2, 3, 8, 9, 20], true, [], []⟩), (3, ⟨[6, 7], true, [], []⟩), (4, ⟨[2, 3, 8, 24], true, [], []⟩), (5, ⟨[6, 7], true, [], []⟩), (6, ⟨[2, 3, 8, 10], true, [], []⟩), (7, ⟨[2, 3, 8, 10, 27, 28, 29], true, [], []⟩), (8, ⟨[2, 3, 8, 10, 27, 28, 29, 30], true, [], []⟩), (9, ⟨[2, 3, 8, 10, 12, 27, 28, 29], true, [], []⟩), (10, ⟨[2, 3, 8, 10, 12, 27, 28, 29, 39], true, [], []⟩), (11, ⟨[6, 7], true, [], []⟩), (12, ⟨[2, 3, 8, 10, 27, 28, 29], true, [], []⟩), (13, ⟨[2, 3, 8, 10, 27, 28, 29, 47], true, [], []⟩), (14, ⟨[6, 7], true, [], []⟩), (15, ⟨[2, 3, 8, 10, 27, 28, 29], true, [], []⟩), (16, ⟨[2, 52], true, [], []⟩), (17, ⟨[6, 7], true, [], []⟩), (18, ⟨[6, 7], true, [], []⟩)]
def tl62 : List (Nat × Tidy) := [(8, ⟨[2, 3, 8, 10, 27, 28, 29], true, [⟨false, 27, 0, 20027, 1⟩, ⟨true, 3, 0, 30300, 1⟩, ⟨true, 3, 1, 30301, 4⟩, ⟨true, 4, 0, 30400, 1⟩, ⟨true, 4, 1, 30401, 1⟩, ⟨true, 8, 0, 30800, 1⟩, ⟨true, 8, 1, 30801, 4⟩], []⟩)]
def rs62 : List AResV := [.tmp 6, .tmp 7]
def p62_0_0 : PT St := pS [sl 2 (aV false [(cD dL)]), sl 3 (aV false [(cPtr 3 0)]), sl 4 (aV false [(cPtr 4 0)])] [eBox 3 [(cD dL), (cD dL)], eBox 4 [(cD dL), (cD dL)]]
def u62_0_0 {β : Type} (g : St → β) : Rows → Rows → Rows → Rows → Rows → β := p62_0_0.unc g

def p62_0_1 : PT St := pS [sl 2 (aV false [(cD dL)]), sl 3 (aV false [(cPtr 3 0)]), sl 8 (aV false [(cPtr 8 0)]), sl 9 (aV false [(cD (dI .i64))])] [eBox 3 [(cD dL), (cD dL)], eBox 8 [(cRef 16), (cRef 10016), (cD (dI .i64)), (cD (dI .i64))], eOwn 16 1, eOwn 10016 4]
def u62_0_1 {β : Type} (g : St → β) : Rows → Int → Rows → Rows → Int → Int → Rows → Rows → β := p62_0_1.unc g

def p62_0_2 : PT St := pS [sl 2 (aV false [(cD dL)]), sl 3 (aV false [(cPtr 3 0)]), sl 8 (aV false [(cPtr 8 0)]), sl 9 (aV false [(cD (dI .i64))])] [eBox 3 [(cD dL), (cD dL)], eBox 8 [(cD dL), (cD dL), (cD (dI .i64)), (cD (dI .i64))]]
def u62_0_2 {β : Type} (g : St → β) : Rows → Int → Rows → Rows → Rows → Rows → Int → Int → β := p62_0_2.unc g

def p62_0_3 : PT St := pS [sl 2 (aV false [(cD dL)]), sl 3 (aV false [(cPtr 3 0)]), sl 8 (aV false [(cPtr 8 0)]), sl 10 (aV false [(cD (dI .i64))]), sl 27 (aV false [(cD dL)]), sl 28 (aV false [(cD (dI .i64))]), sl 29 (aV false [(cD (dI .i64))])] [eBox 3 [(cD dL), (cD dL)], eBox 8 [(cRef 30800), (cRef 30801), (cD (dI .i64)), (cD (dI .i64))], eOwn 30800 1, eOwn 30801 4]
def u62_0_3 {β : Type} (g : St → β) : Rows → Int → Rows → Int → Int → Rows → Rows → Int → Int → Rows → Rows → β := p62_0_3.unc g

def p62_0_4 : PT St := pS [sl 6 (aV false [(cD (dI .i64))]), sl 7 (aV false [(cD (dI .i64))])] []
def u62_0_4 {β : Type} (g : St → β) : Int → Int → β := p62_0_4.unc g

def p62_0_5 : PT St := pS [sl 2 (aV false [(cD dL)]), sl 3 (aV false [(cPtr 3 0)]), sl 8 (aV false [(cPtr 8 0)]), sl 10 (aV false [(cD (dI .i64))]), sl 27 (aV false [(cD dL)]), sl 28 (aV false [(cD (dI .i64))]), sl 29 (aV false [(cD (dI .i64))]), sl 30 (aV false [(cD dB)])] [eBox 3 [(cD dL), (cD dL)], eBox 8 [(cRef 30800), (cRef 30801), (cD (dI .i64)), (cD (dI .i64))], eOwn 30800 1, eOwn 30801 4]
def u62_0_5 {β : Type} (g : St → β) : Rows → Int → Rows → Int → Int → Bool → Rows → Rows → Int → Int → Rows → Rows → β := p62_0_5.unc g

def p62_0_6 : PT St := pS [sl 2 (aV false [(cD dL)]), sl 3 (aV false [(cPtr 3 0)]), sl 8 (aV false [(cPtr 8 0)]), sl 10 (aV false [(cD (dI .i64))]), sl 27 (aV false [(cD dL)]), sl 28 (aV false [(cD (dI .i64))]), sl 29 (aV false [(cD (dI .i64))])] [eBox 3 [(cD dL), (cD dL)], eBox 8 [(cD dL), (cD dL), (cD (dI .i64)), (cD (dI .i64))]]
def u62_0_6 {β : Type} (g : St → β) : Rows → Int → Rows → Int → Int → Rows → Rows → Rows → Rows → Int → Int → β := p62_0_6.unc g

def p62_0_7 : PT St := pS [sl 2 (aV false [(cD dL)]), sl 3 (aV false [(cPtr 3 0)]), sl 8 (aV false [(cPtr 8 0)]), sl 10 (aV false [(cD (dI .i64))]), sl 27 (aV false [(cD dL)]), sl 28 (aV false [(cD (dI .i64))]), sl 29 (aV false [(cD (dI .i64))]), sl 30 (aV false [(cD dB)])] [eBox 3 [(cD dL), (cD dL)], eBox 8 [(cD dL), (cD dL), (cD (dI .i64)), (cD (dI .i64))]]
def u62_0_7 {β : Type} (g : St → β) : Rows → Int → Rows → Int → Int → Bool → Rows → Rows → Rows → Rows → Int → Int → β := p62_0_7.unc g

def pr62_0_0 : PT (List RV) := pRs [pR false [rD (dI .i64)], pR false [rD (dI .i64)]]
def ur62_0_0 {β : Type} (g : List RV → β) : Int → Int → β := pr62_0_0.unc g

def E62_0g (vf109_0 : Tf109_0) (vf78_0 : Tf78_0) (vf105_0 : Tf105_0) (vf116_0 : Tf116_0) : EnvK := EnvK.of [⟨109, nt109, [⟨pa109_0, Fn109_0 vf109_0⟩]⟩, ⟨78, nt78, [⟨pa78_0, Fn78_0 vf78_0⟩]⟩, ⟨105, nt105, [⟨pa105_0, Fn105_0 vf105_0⟩]⟩, ⟨116, nt116, [⟨pa116_0, Fn116_0 vf116_0⟩]⟩] noSeq
noncomputable def E62_0 : EnvK := E62_0g f109_0 f78_0 f105_0 f116_0
theorem eo62_0 : E62_0.Ok Try.prog := EnvK.of_ok noSeq_ok ⟨⟨io109_0, trivial⟩, ⟨io78_0, trivial⟩, ⟨io105_0, trivial⟩, ⟨io116_0, trivial⟩, trivial⟩

noncomputable def c62_0_23g  : MCode := (.seq (.region r62_25 [] (some ⟨[2, 3, 8, 10, 27, 28, 29, 30], true, [], []⟩)) (.seq (.cond (.tmp 30) .skip (.exit 0)) (.seq (.block 1 (.seq (.region r62_31 [] (some ⟨[2, 3, 8, 10, 12, 27, 28, 29], true, [], []⟩)) (.seq (.seq (.region r62_34 [] (some ⟨[2, 3, 8, 10, 12, 27, 28, 29, 39], true, [], []⟩)) (.cond (.tmp 39) (.seq (.region r62_37 [] (some ⟨[6, 7], true, [], []⟩)) .ret) .skip)) (.seq (.region r62_39 [] (some ⟨[2, 3, 8, 10, 27, 28, 29], true, [], []⟩)) (.seq (.region r62_41 [] (some ⟨[2, 3, 8, 10, 27, 28, 29, 47], true, [], []⟩)) (.cond (.tmp 47) (.seq (.region r62_44 [] (some ⟨[6, 7], true, [], []⟩)) .ret) .skip)))))) (.region r62_45 [] (some ⟨[2, 3, 8, 10, 27, 28, 29], true, [], []⟩)))))
noncomputable def c62_0_23 : MCode := c62_0_23g 
theorem g62_0_23 : c62_0_23.Good Try.prog E62_0 sh62 := ⟨trivial, ⟨⟨trivial, trivial⟩, ⟨⟨trivial, ⟨⟨trivial, ⟨⟨trivial, trivial⟩, trivial⟩⟩, ⟨trivial, ⟨trivial, ⟨⟨trivial, trivial⟩, trivial⟩⟩⟩⟩⟩, trivial⟩⟩⟩
--CODE 23 0
def S62_0_1g (vf105_0 : Tf105_0) (vf116_0 : Tf116_0) (vf78_0 : Tf78_0) (α : Type) (x25 : Rows) (x26 : Int) (x28 : Rows) (x32 : Rows) (x33 : Rows) (x24 : Int) (x27 : Int) (kn : Int → Int → Option α) (k1 : Int → Option α) (k2 : Int → Int → Bool → Option α) : Option α :=
  cK (decide (x27 < x26))
    (rowK x25 x27 [.int .i64]
      (fun (x35 : Int) => vf78_0 α x35 0 (w64 (((List.length x28 : Nat) : Int) - 1))
        (fun (x36 : Bool) => cK (!x36)
          (k1 6)
          (vf105_0 α x24 x35
            (fun (x37 : Int) => vf116_0 α x32 x33 x37
              (fun (x38 : Bool) => cK (!x38)
                (k1 24)
                (kn x37 (w64 (x27 + 1)))))))))
    (k2 x24 x27 (decide (x27 < x26)))
noncomputable def S62_0_1 (α : Type) (x25 : Rows) (x26 : Int) (x28 : Rows) (x32 : Rows) (x33 : Rows) (x24 : Int) (x27 : Int) (kn : Int → Int → Option α) (k1 : Int → Option α) (k2 : Int → Int → Bool → Option α) : Option α := S62_0_1g f105_0 f116_0 f78_0 α x25 x26 x28 x32 x33 x24 x27 kn k1 k2
noncomputable def R62_0_1 (α : Type) (x25 : Rows) (x26 : Int) (x28 : Rows) (x32 : Rows) (x33 : Rows) (k1 : Int → Option α) (k2 : Int → Int → Bool → Option α) : Nat → Int → Int → Option α
  | 0, _, _ => none
  | n + 1, x24, x27 => S62_0_1 α x25 x26 x28 x32 x33 x24 x27 (R62_0_1 α x25 x26 x28 x32 x33 k1 k2 n) k1 k2
noncomputable def L62_0_1 (α : Type) (x25 : Rows) (x26 : Int) (x28 : Rows) (x32 : Rows) (x33 : Rows) (k1 : Int → Option α) (k2 : Int → Int → Bool → Option α) (x24 : Int) (x27 : Int) : Option α := R62_0_1 α x25 x26 x28 x32 x33 k1 k2 fuel x24 x27
abbrev TL62_0_1 : Type 1 := (α : Type) → Rows → Int → Rows → Rows → Rows → (Int → Option α) → (Int → Int → Bool → Option α) → Int → Int → Option α
def F62_0_1 (v : TL62_0_1) (α : Type) (K : Exit → St → Option α) : Rows → Int → Rows → Int → Int → Rows → Rows → Int → Int → Rows → Rows → Option α := fun x23 x24 x25 x26 x27 x28 x29 x30 x31 x32 x33 => v α x25 x26 x28 x32 x33 (fun (y1 : Int) => u62_0_4 (K .ret) 0 y1) (fun (y1 : Int) (y2 : Int) (y3 : Bool) => u62_0_5 (K (.exit 0)) x23 y1 x25 x26 y2 y3 x28 x29 x30 x31 x32 x33) x24 x27
theorem r62_0_1g (vf109_0 : Tf109_0) (vf78_0 : Tf78_0) (vf105_0 : Tf105_0) (vf116_0 : Tf116_0)  (α : Type) (K : Exit → St → Option α) (Kn : St → Option α) (x23 : Rows) (x24 : Int) (x25 : Rows) (x26 : Int) (x27 : Int) (x28 : Rows) (x29 : Rows) (x30 : Int) (x31 : Int) (x32 : Rows) (x33 : Rows) : u62_0_3 (fun σ => runM Try.prog (E62_0g vf109_0 vf78_0 vf105_0 vf116_0) sh62 (c62_0_23g ) (thenK (fun σ => tidyK td62_23 σ Kn) K) σ) x23 x24 x25 x26 x27 x28 x29 x30 x31 x32 x33 = S62_0_1g vf105_0 vf116_0 vf78_0 α x25 x26 x28 x32 x33 x24 x27 (fun x24 x27 => u62_0_3 Kn x23 x24 x25 x26 x27 x28 x29 x30 x31 x32 x33) (fun (y1 : Int) => u62_0_4 (K .ret) 0 y1) (fun (y1 : Int) (y2 : Int) (y3 : Bool) => u62_0_5 (K (.exit 0)) x23 y1 x25 x26 y2 y3 x28 x29 x30 x31 x32 x33) := by kernel_rfl
theorem r62_0_1 (α : Type) (K : Exit → St → Option α) (Kn : St → Option α) (x23 : Rows) (x24 : Int) (x25 : Rows) (x26 : Int) (x27 : Int) (x28 : Rows) (x29 : Rows) (x30 : Int) (x31 : Int) (x32 : Rows) (x33 : Rows) : u62_0_3 (fun σ => runM Try.prog E62_0 sh62 c62_0_23 (thenK (fun σ => tidyK td62_23 σ Kn) K) σ) x23 x24 x25 x26 x27 x28 x29 x30 x31 x32 x33 = S62_0_1 α x25 x26 x28 x32 x33 x24 x27 (fun x24 x27 => u62_0_3 Kn x23 x24 x25 x26 x27 x28 x29 x30 x31 x32 x33) (fun (y1 : Int) => u62_0_4 (K .ret) 0 y1) (fun (y1 : Int) (y2 : Int) (y3 : Bool) => u62_0_5 (K (.exit 0)) x23 y1 x25 x26 y2 y3 x28 x29 x30 x31 x32 x33) := r62_0_1g f109_0 f78_0 f105_0 f116_0 α K Kn x23 x24 x25 x26 x27 x28 x29 x30 x31 x32 x33
theorem t62_0_1 (α : Type) (K : Exit → St → Option α) : ∀ (n : Nat) (x23 : Rows) (x24 : Int) (x25 : Rows) (x26 : Int) (x27 : Int) (x28 : Rows) (x29 : Rows) (x30 : Int) (x31 : Int) (x32 : Rows) (x33 : Rows), R62_0_1 α x25 x26 x28 x32 x33 (fun (y1 : Int) => u62_0_4 (K .ret) 0 y1) (fun (y1 : Int) (y2 : Int) (y3 : Bool) => u62_0_5 (K (.exit 0)) x23 y1 x25 x26 y2 y3 x28 x29 x30 x31 x32 x33) n x24 x27 = u62_0_3 (loopT (runM Try.prog E62_0 sh62 c62_0_23) td62_23 K n) x23 x24 x25 x26 x27 x28 x29 x30 x31 x32 x33 := by
  intro n
  induction n with
  | zero => intros; rfl
  | succ n ih => intro x23 x24 x25 x26 x27 x28 x29 x30 x31 x32 x33; exact (congrArg (fun kn => S62_0_1 α x25 x26 x28 x32 x33 x24 x27 kn (fun (y1 : Int) => u62_0_4 (K .ret) 0 y1) (fun (y1 : Int) (y2 : Int) (y3 : Bool) => u62_0_5 (K (.exit 0)) x23 y1 x25 x26 y2 y3 x28 x29 x30 x31 x32 x33)) (funext fun x24 => funext fun x27 => ih x23 x24 x25 x26 x27 x28 x29 x30 x31 x32 x33)).trans (r62_0_1 α K (loopT (runM Try.prog E62_0 sh62 c62_0_23) td62_23 K n) x23 x24 x25 x26 x27 x28 x29 x30 x31 x32 x33).symm
theorem m62_0_1 : ∀ (α : Type) (K : Exit → St → Option α), F62_0_1 L62_0_1 α K = p62_0_3.unc fun σ => loopT (runM Try.prog E62_0 sh62 c62_0_23) td62_23 K fuel σ := fun α K => funext fun x23 => funext fun x24 => funext fun x25 => funext fun x26 => funext fun x27 => funext fun x28 => funext fun x29 => funext fun x30 => funext fun x31 => funext fun x32 => funext fun x33 => t62_0_1 α K fuel x23 x24 x25 x26 x27 x28 x29 x30 x31 x32 x33
--CODE 23 0
def S62_0_2g (vf105_0 : Tf105_0) (vf116_0 : Tf116_0) (vf78_0 : Tf78_0) (α : Type) (x46 : Rows) (x47 : Int) (x49 : Rows) (x51 : Rows) (x52 : Rows) (x45 : Int) (x48 : Int) (kn : Int → Int → Option α) (k1 : Int → Option α) (k2 : Int → Int → Bool → Option α) : Option α :=
  cK (decide (x48 < x47))
    (rowK x46 x48 [.int .i64]
      (fun (x56 : Int) => vf78_0 α x56 0 (w64 (((List.length x49 : Nat) : Int) - 1))
        (fun (x57 : Bool) => cK (!x57)
          (k1 6)
          (vf105_0 α x45 x56
            (fun (x58 : Int) => vf116_0 α x51 x52 x58
              (fun (x59 : Bool) => cK (!x59)
                (k1 24)
                (kn x58 (w64 (x48 + 1)))))))))
    (k2 x45 x48 (decide (x48 < x47)))
noncomputable def S62_0_2 (α : Type) (x46 : Rows) (x47 : Int) (x49 : Rows) (x51 : Rows) (x52 : Rows) (x45 : Int) (x48 : Int) (kn : Int → Int → Option α) (k1 : Int → Option α) (k2 : Int → Int → Bool → Option α) : Option α := S62_0_2g f105_0 f116_0 f78_0 α x46 x47 x49 x51 x52 x45 x48 kn k1 k2
noncomputable def R62_0_2 (α : Type) (x46 : Rows) (x47 : Int) (x49 : Rows) (x51 : Rows) (x52 : Rows) (k1 : Int → Option α) (k2 : Int → Int → Bool → Option α) : Nat → Int → Int → Option α
  | 0, _, _ => none
  | n + 1, x45, x48 => S62_0_2 α x46 x47 x49 x51 x52 x45 x48 (R62_0_2 α x46 x47 x49 x51 x52 k1 k2 n) k1 k2
noncomputable def L62_0_2 (α : Type) (x46 : Rows) (x47 : Int) (x49 : Rows) (x51 : Rows) (x52 : Rows) (k1 : Int → Option α) (k2 : Int → Int → Bool → Option α) (x45 : Int) (x48 : Int) : Option α := R62_0_2 α x46 x47 x49 x51 x52 k1 k2 fuel x45 x48
abbrev TL62_0_2 : Type 1 := (α : Type) → Rows → Int → Rows → Rows → Rows → (Int → Option α) → (Int → Int → Bool → Option α) → Int → Int → Option α
def F62_0_2 (v : TL62_0_2) (α : Type) (K : Exit → St → Option α) : Rows → Int → Rows → Int → Int → Rows → Rows → Rows → Rows → Int → Int → Option α := fun x44 x45 x46 x47 x48 x49 x50 x51 x52 x53 x54 => v α x46 x47 x49 x51 x52 (fun (y1 : Int) => u62_0_4 (K .ret) 0 y1) (fun (y1 : Int) (y2 : Int) (y3 : Bool) => u62_0_7 (K (.exit 0)) x44 y1 x46 x47 y2 y3 x49 x50 x51 x52 x53 x54) x45 x48
theorem r62_0_2g (vf109_0 : Tf109_0) (vf78_0 : Tf78_0) (vf105_0 : Tf105_0) (vf116_0 : Tf116_0)  (α : Type) (K : Exit → St → Option α) (Kn : St → Option α) (x44 : Rows) (x45 : Int) (x46 : Rows) (x47 : Int) (x48 : Int) (x49 : Rows) (x50 : Rows) (x51 : Rows) (x52 : Rows) (x53 : Int) (x54 : Int) : u62_0_6 (fun σ => runM Try.prog (E62_0g vf109_0 vf78_0 vf105_0 vf116_0) sh62 (c62_0_23g ) (thenK (fun σ => tidyK td62_23 σ Kn) K) σ) x44 x45 x46 x47 x48 x49 x50 x51 x52 x53 x54 = S62_0_2g vf105_0 vf116_0 vf78_0 α x46 x47 x49 x51 x52 x45 x48 (fun x45 x48 => u62_0_6 Kn x44 x45 x46 x47 x48 x49 x50 x51 x52 x53 x54) (fun (y1 : Int) => u62_0_4 (K .ret) 0 y1) (fun (y1 : Int) (y2 : Int) (y3 : Bool) => u62_0_7 (K (.exit 0)) x44 y1 x46 x47 y2 y3 x49 x50 x51 x52 x53 x54) := by kernel_rfl
theorem r62_0_2 (α : Type) (K : Exit → St → Option α) (Kn : St → Option α) (x44 : Rows) (x45 : Int) (x46 : Rows) (x47 : Int) (x48 : Int) (x49 : Rows) (x50 : Rows) (x51 : Rows) (x52 : Rows) (x53 : Int) (x54 : Int) : u62_0_6 (fun σ => runM Try.prog E62_0 sh62 c62_0_23 (thenK (fun σ => tidyK td62_23 σ Kn) K) σ) x44 x45 x46 x47 x48 x49 x50 x51 x52 x53 x54 = S62_0_2 α x46 x47 x49 x51 x52 x45 x48 (fun x45 x48 => u62_0_6 Kn x44 x45 x46 x47 x48 x49 x50 x51 x52 x53 x54) (fun (y1 : Int) => u62_0_4 (K .ret) 0 y1) (fun (y1 : Int) (y2 : Int) (y3 : Bool) => u62_0_7 (K (.exit 0)) x44 y1 x46 x47 y2 y3 x49 x50 x51 x52 x53 x54) := r62_0_2g f109_0 f78_0 f105_0 f116_0 α K Kn x44 x45 x46 x47 x48 x49 x50 x51 x52 x53 x54
theorem t62_0_2 (α : Type) (K : Exit → St → Option α) : ∀ (n : Nat) (x44 : Rows) (x45 : Int) (x46 : Rows) (x47 : Int) (x48 : Int) (x49 : Rows) (x50 : Rows) (x51 : Rows) (x52 : Rows) (x53 : Int) (x54 : Int), R62_0_2 α x46 x47 x49 x51 x52 (fun (y1 : Int) => u62_0_4 (K .ret) 0 y1) (fun (y1 : Int) (y2 : Int) (y3 : Bool) => u62_0_7 (K (.exit 0)) x44 y1 x46 x47 y2 y3 x49 x50 x51 x52 x53 x54) n x45 x48 = u62_0_6 (loopT (runM Try.prog E62_0 sh62 c62_0_23) td62_23 K n) x44 x45 x46 x47 x48 x49 x50 x51 x52 x53 x54 := by
  intro n
  induction n with
  | zero => intros; rfl
  | succ n ih => intro x44 x45 x46 x47 x48 x49 x50 x51 x52 x53 x54; exact (congrArg (fun kn => S62_0_2 α x46 x47 x49 x51 x52 x45 x48 kn (fun (y1 : Int) => u62_0_4 (K .ret) 0 y1) (fun (y1 : Int) (y2 : Int) (y3 : Bool) => u62_0_7 (K (.exit 0)) x44 y1 x46 x47 y2 y3 x49 x50 x51 x52 x53 x54)) (funext fun x45 => funext fun x48 => ih x44 x45 x46 x47 x48 x49 x50 x51 x52 x53 x54)).trans (r62_0_2 α K (loopT (runM Try.prog E62_0 sh62 c62_0_23) td62_23 K n) x44 x45 x46 x47 x48 x49 x50 x51 x52 x53 x54).symm
theorem m62_0_2 : ∀ (α : Type) (K : Exit → St → Option α), F62_0_2 L62_0_2 α K = p62_0_6.unc fun σ => loopT (runM Try.prog E62_0 sh62 c62_0_23) td62_23 K fuel σ := fun α K => funext fun x44 => funext fun x45 => funext fun x46 => funext fun x47 => funext fun x48 => funext fun x49 => funext fun x50 => funext fun x51 => funext fun x52 => funext fun x53 => funext fun x54 => t62_0_2 α K fuel x44 x45 x46 x47 x48 x49 x50 x51 x52 x53 x54

noncomputable def c62_0_3g  : MCode := (.region r62_4 [] (some ⟨[2, 3, 8, 9], true, [], []⟩))
noncomputable def c62_0_3 : MCode := c62_0_3g 
theorem g62_0_3 : c62_0_3.Good Try.prog E62_0 sh62 := trivial
--CODE 3 0
abbrev TJ62_0_0 : Type 1 := (α : Type) → Rows → Rows → Rows → Rows → (Int → Option α) → (Rows → Rows → Int → Int → Option α) → Option α
def J62_0_0g (vf109_0 : Tf109_0) (α : Type) (x7 : Rows) (x8 : Rows) (x9 : Rows) (x10 : Rows) (k1 : Int → Option α) (k2 : Rows → Rows → Int → Int → Option α) : Option α :=
  vf109_0 α x7 x8 x9 x10
    (fun (x12 : Int) => k1 x12)
    (fun (x13 : Rows) (x14 : Rows) (x15 : Int) (x16 : Int) => k2 x13 x14 x15 x16)
noncomputable def J62_0_0 (α : Type) (x7 : Rows) (x8 : Rows) (x9 : Rows) (x10 : Rows) (k1 : Int → Option α) (k2 : Rows → Rows → Int → Int → Option α) : Option α := J62_0_0g f109_0 α x7 x8 x9 x10 k1 k2
def F62_0_0 (v : TJ62_0_0) (α : Type) (K : Exit → St → Option α) : Rows → Rows → Rows → Rows → Rows → Option α := fun x6 x7 x8 x9 x10 => v α x7 x8 x9 x10 (fun (y1 : Int) => u62_0_1 (K .normal) x6 y1 x7 x8 0 0 ([] : Rows) ([] : Rows)) (fun (y1 : Rows) (y2 : Rows) (y3 : Int) (y4 : Int) => u62_0_2 (K .normal) x6 0 x7 x8 y1 y2 y3 y4) 
theorem m62_0_0g (vf109_0 : Tf109_0) (vf78_0 : Tf78_0) (vf105_0 : Tf105_0) (vf116_0 : Tf116_0)  (α : Type) (K : Exit → St → Option α) : F62_0_0 (J62_0_0g vf109_0) α K = p62_0_0.unc fun σ => runM Try.prog (E62_0g vf109_0 vf78_0 vf105_0 vf116_0) sh62 (c62_0_3g ) K σ := by kernel_rfl
theorem m62_0_0 : ∀ (α : Type) (K : Exit → St → Option α), F62_0_0 J62_0_0 α K = p62_0_0.unc fun σ => runM Try.prog E62_0 sh62 c62_0_3 K σ := m62_0_0g f109_0 f78_0 f105_0 f116_0

/-- etalon/grow.CheckSequence -/
abbrev Tf62_0 : Type 1 := (α : Type) → Rows → Rows → Rows → Rows → Rows → (Int → Int → Option α) → Option α
def f62_0g (vJ62_0_0 : TJ62_0_0) (vL62_0_1 : TL62_0_1) (vL62_0_2 : TL62_0_2) (α : Type) (x1 : Rows) (x2 : Rows) (x3 : Rows) (x4 : Rows) (x5 : Rows) (k1 : Int → Int → Option α) : Option α :=
  vJ62_0_0 α x1 x2 x3 x4
    (fun (x17 : Int) => cK (x17 != 0)
      (k1 0 x17)
      (cK (decide (1000 < ((List.length x5 : Nat) : Int)))
        (k1 0 8)
        (vL62_0_1 α x5 ((List.length x5 : Nat) : Int) x1 ([] : Rows) ([] : Rows)
          (fun (x39 : Int) => k1 0 x39)
          (fun (x40 : Int) (x41 : Int) (x42 : Bool) => cK (x40 != 0)
            (k1 0 23)
            (k1 ((List.length x5 : Nat) : Int) 0)) 0 0)))
    (fun (x18 : Rows) (x19 : Rows) (x20 : Int) (x21 : Int) => cK (decide (1000 < ((List.length x5 : Nat) : Int)))
      (k1 0 8)
      (vL62_0_2 α x5 ((List.length x5 : Nat) : Int) x1 x18 x19
        (fun (x60 : Int) => k1 0 x60)
        (fun (x61 : Int) (x62 : Int) (x63 : Bool) => cK (x61 != x21)
          (k1 0 23)
          (k1 ((List.length x5 : Nat) : Int) 0)) x20 0))
noncomputable def f62_0 (α : Type) (x1 : Rows) (x2 : Rows) (x3 : Rows) (x4 : Rows) (x5 : Rows) (k1 : Int → Int → Option α) : Option α := f62_0g J62_0_0 L62_0_1 L62_0_2 α x1 x2 x3 x4 x5 k1
def pa62_0 : PT (List DV) := pA [pV true [dL, dL], pV true [dL, dL], pV false [dL]]
def Fn62_0 (v : Tf62_0) (α : Type) (k : List RV → Option α) : Rows → Rows → Rows → Rows → Rows → Option α := fun x1 x2 x3 x4 x5 => v α x1 x2 x3 x4 x5 (fun (y1 : Int) (y2 : Int) => ur62_0_0 k y1 y2)
noncomputable def cm62_0g (vJ62_0_0 : TJ62_0_0) (vL62_0_1 : TL62_0_1) (vL62_0_2 : TL62_0_2) : MCode := (.seq (.region r62_2 [] (some ⟨[2, 3, 4], true, [], []⟩)) (.seq (.mark [⟨p62_0_0, F62_0_0 vJ62_0_0⟩] c62_0_3) (.seq (.seq (.region r62_7 [] (some ⟨[2, 3, 8, 9, 20], true, [], []⟩)) (.cond (.tmp 20) (.seq (.region r62_10 [] (some ⟨[6, 7], true, [], []⟩)) .ret) .skip)) (.seq (.seq (.region r62_13 [] (some ⟨[2, 3, 8, 24], true, [], []⟩)) (.cond (.tmp 24) (.seq (.region r62_16 [] (some ⟨[6, 7], true, [], []⟩)) .ret) .skip)) (.seq (.region r62_18 [] (some ⟨[2, 3, 8, 10], true, [], []⟩)) (.seq (.seq (.region r62_21 [] (some ⟨[2, 3, 8, 10, 27, 28, 29], true, [], []⟩)) (.block 0 (.loop td62_23 [⟨p62_0_3, F62_0_1 vL62_0_1⟩, ⟨p62_0_6, F62_0_2 vL62_0_2⟩] c62_0_23))) (.seq (.seq (.region r62_48 [] (some ⟨[2, 52], true, [], []⟩)) (.cond (.tmp 52) (.seq (.region r62_51 [] (some ⟨[6, 7], true, [], []⟩)) .ret) .skip)) (.seq (.region r62_53 [] (some ⟨[6, 7], true, [], []⟩)) .ret))))))))
noncomputable def cm62_0 : MCode := cm62_0g J62_0_0 L62_0_1 L62_0_2
theorem gm62_0 : cm62_0.Good Try.prog E62_0 sh62 := ⟨trivial, ⟨⟨g62_0_3, m62_0_0, trivial⟩, ⟨⟨trivial, ⟨⟨trivial, trivial⟩, trivial⟩⟩, ⟨⟨trivial, ⟨⟨trivial, trivial⟩, trivial⟩⟩, ⟨trivial, ⟨⟨trivial, ⟨g62_0_23, m62_0_1, m62_0_2, trivial⟩⟩, ⟨⟨trivial, ⟨⟨trivial, trivial⟩, trivial⟩⟩, ⟨trivial, trivial⟩⟩⟩⟩⟩⟩⟩⟩
theorem fm62_0g (vf109_0 : Tf109_0) (vf78_0 : Tf78_0) (vf105_0 : Tf105_0) (vf116_0 : Tf116_0) (vJ62_0_0 : TJ62_0_0) (vL62_0_1 : TL62_0_1) (vL62_0_2 : TL62_0_2) (α : Type) (k : List RV → Option α) : Fn62_0 (f62_0g vJ62_0_0 vL62_0_1 vL62_0_2) α k = pa62_0.unc fun ds => fnM Try.prog (E62_0g vf109_0 vf78_0 vf105_0 vf116_0) sh62 (cm62_0g vJ62_0_0 vL62_0_1 vL62_0_2) rs62 k ds := by kernel_rfl
theorem fm62_0 : ∀ (α : Type) (k : List RV → Option α), Fn62_0 f62_0 α k = pa62_0.unc fun ds => fnM Try.prog E62_0 sh62 cm62_0 rs62 k ds := fm62_0g f109_0 f78_0 f105_0 f116_0 J62_0_0 L62_0_1 L62_0_2

theorem is62 : FnIs Try.prog 62 nt62 tr62 tl62 cm62_0.erase rs62 := ⟨Try.f62, Try.func62, rfl, by kernel_rfl, by kernel_rfl, by kernel_rfl⟩
theorem io62_0 : InstOk Try.prog 62 nt62 ⟨pa62_0, Fn62_0 f62_0⟩ := inst_ok eo62_0 followsTry is62 ⟨⟨sh62, cm62_0, by kernel_rfl, gm62_0, fm62_0⟩⟩

/-! ### F12 etalon/etalonlaw08.GrowBack -/
abbrev nt12 : Nat := 128
def sh12 : List (Nat × List Sh) := [(21, [.sl, .sl]), (26, [.sl]), (32, [.sl]), (42, [.sl, .sl]), (44, [.sl, .sl]), (54, [.sl]), (63, [.sl, .sl]), (68, [.int .i64]), (69, [.int .i64]), (75, [.sl, .sl]), (96, [.int .i64]), (97, [.int .i64]), (101, [.sl, .sl]), (104, [.sl]), (107, [.sl]), (116, [.sl])]
def r12_2 : List AOper := [⟨(some 3), (.box (.tmp 0)), none⟩, ⟨(some 4), (.box (.tmp 1)), none⟩, ⟨(some 6), (.mv (.const (.bool false))), none⟩]
def r12_5 : List AOper := [⟨(some 19), (.call 14 []), none⟩, ⟨(some 20), (.pure (oB (.unOp .not 4 (.tmp 19)) 4)), none⟩]
def r12_8 : List AOper := [⟨(some 6), (.mv (.const (.bool false))), none⟩]
def r12_11 : List AOper := [⟨(some 21), (.load true 2 (.tmp 3)), none⟩, ⟨(some 22), (.call 44 [(.tmp 21)]), none⟩, ⟨(some 23), (.pure (oB (.unOp .not 4 (.tmp 22)) 4)), none⟩, ⟨(some 24), (.mv (.tmp 23)), none⟩, ⟨(some 25), (.faddr 0 (.tmp 4)), (some (24, false))⟩, ⟨(some 26), (.load false 1 (.tmp 25)), (some (24, false))⟩, ⟨(some 27), (.len (.tmp 26)), (some (24, false))⟩, ⟨(some 28), (.bin .gtr 3 (.tmp 27) (.const (.int .i64 12))), (some (24, false))⟩, ⟨(some 29), (.pick (.tmp 24) (.const (.bool true)) (.tmp 28)), none⟩, ⟨(some 30), (.mv (.tmp 29)), none⟩, ⟨(some 31), (.faddr 1 (.tmp 4)), (some (30, false))⟩, ⟨(some 32), (.load false 1 (.tmp 31)), (some (30, false))⟩, ⟨(some 33), (.len (.tmp 32)), (some (30, false))⟩, ⟨(some 34), (.bin .gtr 3 (.tmp 33) (.const (.int .i64 12))), (some (30, false))⟩, ⟨(some 35), (.pick (.tmp 30) (.const (.bool true)) (.tmp 34)), none⟩, ⟨(some 36), (.mv (.tmp 35)), none⟩, ⟨(some 37), (.mv (.tmp 2)), (some (36, false))⟩, ⟨(some 38), (.len (.tmp 37)), (some (36, false))⟩, ⟨(some 39), (.bin .gtr 3 (.tmp 38) (.const (.int .i64 40))), (some (36, false))⟩, ⟨(some 40), (.pick (.tmp 36) (.const (.bool true)) (.tmp 39)), none⟩]
def r12_14 : List AOper := [⟨(some 6), (.mv (.const (.bool true))), none⟩]
def r12_17 : List AOper := [⟨(some 42), (.load true 2 (.tmp 3)), none⟩, ⟨(some 43), (.call 46 [(.tmp 42)]), none⟩, ⟨(some 44), (.load true 2 (.tmp 4)), none⟩, ⟨(some 45), (.call 56 [(.tmp 44)]), none⟩, ⟨(some 46), (.mv (.tmp 2)), none⟩, ⟨(some 47), (.call 61 [(.tmp 46)]), none⟩, ⟨(some 48), (.call 62 [(.tmp 43), (.tmp 45), (.tmp 47)]), none⟩, ⟨(some 41), (.mv (.tmp 48)), none⟩, ⟨(some 49), (.extract 0 (.tmp 41)), none⟩, ⟨(some 50), (.extract 1 (.tmp 41)), none⟩, ⟨(some 7), (.mv (.tmp 49)), none⟩, ⟨(some 8), (.mv (.tmp 50)), none⟩]
def r12_19 : List AOper := [⟨(some 51), (.mv (.tmp 8)), none⟩, ⟨(some 52), (.bin .neq 32 (.tmp 51) (.const (.int .i64 0))), none⟩]
def r12_22 : List AOper := [⟨(some 6), (.mv (.const (.bool true))), none⟩]
def r12_24 : List AOper := [⟨(some 9), (.mv (.const (.slice none 0 0))), none⟩]
def r12_26 : List AOper := [⟨(some 53), (.faddr 0 (.tmp 4)), none⟩, ⟨(some 54), (.load false 1 (.tmp 53)), none⟩, ⟨(some 55), (.call 48 [(.tmp 54)]), none⟩, ⟨(some 10), (.mv (.tmp 55)), none⟩]
def r12_29 : List AOper := [⟨(some 11), (.mv (.const (.int .i64 0))), none⟩]
def td12_31 : Option Tidy := (some ⟨[2, 3, 4, 9, 10, 11], true, [⟨false, 9, 0, 20009, 1⟩, ⟨false, 10, 0, 20010, 1⟩, ⟨true, 3, 0, 30300, 1⟩, ⟨true, 3, 1, 30301, 4⟩, ⟨true, 4, 0, 30400, 1⟩, ⟨true, 4, 1, 30401, 1⟩], []⟩)
def r12_34 : List AOper := [⟨(some 56), (.mv (.tmp 11)), none⟩, ⟨(some 57), (.mv (.tmp 2)), none⟩, ⟨(some 58), (.len (.tmp 57)), none⟩, ⟨(some 59), (.bin .lss 3 (.tmp 56) (.tmp 58)), none⟩]
def r12_39 : List AOper := [⟨(some 63), (.load true 2 (.tmp 3)), none⟩, ⟨(some 64), (.call 46 [(.tmp 63)]), none⟩, ⟨(some 65), (.mv (.tmp 10)), none⟩, ⟨(some 66), (.mv (.tmp 2)), none⟩, ⟨(some 67), (.mv (.tmp 11)), none⟩, ⟨(some 68), (.iaddr 1 none (.tmp 66) (.tmp 67)), none⟩, ⟨(some 69), (.load false 1 (.tmp 68)), none⟩, ⟨(some 70), (.call 49 [(.tmp 64), (.tmp 65), (.tmp 69)]), none⟩, ⟨(some 62), (.mv (.tmp 70)), none⟩, ⟨(some 71), (.extract 0 (.tmp 62)), none⟩, ⟨(some 72), (.extract 1 (.tmp 62)), none⟩, ⟨(some 73), (.extract 2 (.tmp 62)), none⟩, ⟨(some 12), (.mv (.tmp 71)), none⟩, ⟨(some 13), (.mv (.tmp 72)), none⟩, ⟨(some 14), (.mv (.tmp 73)), none⟩]
def r12_41 : List AOper := [⟨(some 75), (.load true 2 (.tmp 3)), none⟩, ⟨(some 76), (.call 46 [(.tmp 75)]), none⟩, ⟨(some 77), (.mv (.tmp 12)), none⟩, ⟨(some 78), (.call 48 [(.tmp 77)]), none⟩, ⟨(some 79), (.call 47 [(.tmp 76), (.tmp 78)]), none⟩, ⟨(some 74), (.mv (.tmp 79)), none⟩, ⟨(some 80), (.extract 0 (.tmp 74)), none⟩, ⟨(some 81), (.extract 1 (.tmp 74)), none⟩, ⟨(some 15), (.mv (.tmp 80)), none⟩, ⟨(some 16), (.mv (.tmp 81)), none⟩]
def r12_44 : List AOper := [⟨(some 82), (.mv (.tmp 14)), none⟩, ⟨(some 83), (.bin .neq 32 (.tmp 82) (.const (.int .i64 0))), none⟩, ⟨(some 84), (.mv (.tmp 83)), none⟩, ⟨(some 85), (.mv (.tmp 16)), (some (84, false))⟩, ⟨(some 86), (.bin .neq 32 (.tmp 85) (.const (.int .i64 17))), (some (84, false))⟩, ⟨(some 87), (.pick (.tmp 84) (.const (.bool true)) (.tmp 86)), none⟩]
def r12_47 : List AOper := [⟨(some 6), (.mv (.const (.bool false))), none⟩]
def r12_49 : List AOper := [⟨(some 88), (.mv (.tmp 12)), none⟩, ⟨(some 10), (.mv (.tmp 88)), none⟩]
def r12_50 : List AOper := [⟨(some 89), (.mv (.tmp 9)), none⟩, ⟨(some 90), (.mv (.tmp 2)), none⟩, ⟨(some 91), (.mv (.tmp 2)), none⟩, ⟨(some 92), (.len (.tmp 91)), none⟩, ⟨(some 93), (.bin .sub 3 (.tmp 92) (.const (.int .i64 1))), none⟩, ⟨(some 94), (.mv (.tmp 11)), none⟩, ⟨(some 95), (.bin .sub 3 (.tmp 93) (.tmp 94)), none⟩, ⟨(some 96), (.iaddr 1 none (.tmp 90) (.tmp 95)), none⟩, ⟨(some 97), (.load false 1 (.tmp 96)), none⟩, ⟨(some 98), (.bslice 1 1 [(.v (.int .i64 0))] [(0, (.tmp 97))]), none⟩, ⟨(some 99), (.append 1 8 (.tmp 89) (.tmp 98)), none⟩, ⟨(some 9), (.mv (.tmp 99)), none⟩]
def r12_51 : List AOper := [⟨(some 60), (.mv (.tmp 11)), none⟩, ⟨(some 61), (.bin .add 3 (.tmp 60) (.const (.int .i64 1))), none⟩, ⟨(some 11), (.mv (.tmp 61)), none⟩]
def r12_53 : List AOper := [⟨(some 101), (.load true 2 (.tmp 3)), none⟩, ⟨(some 102), (.call 46 [(.tmp 101)]), none⟩, ⟨(some 103), (.faddr 1 (.tmp 4)), none⟩, ⟨(some 104), (.load false 1 (.tmp 103)), none⟩, ⟨(some 105), (.call 48 [(.tmp 104)]), none⟩, ⟨(some 106), (.faddr 0 (.tmp 4)), none⟩, ⟨(some 107), (.load false 1 (.tmp 106)), none⟩, ⟨(some 108), (.call 48 [(.tmp 107)]), none⟩, ⟨(some 109), (.build [.nils, .nils] [(0, 1, (.tmp 105)), (1, 1, (.tmp 108))]), none⟩, ⟨(some 110), (.mv (.tmp 9)), none⟩, ⟨(some 111), (.call 62 [(.tmp 102), (.tmp 109), (.tmp 110)]), none⟩, ⟨(some 100), (.mv (.tmp 111)), none⟩, ⟨(some 112), (.extract 0 (.tmp 100)), none⟩, ⟨(some 113), (.extract 1 (.tmp 100)), none⟩, ⟨(some 17), (.mv (.tmp 112)), none⟩, ⟨(some 18), (.mv (.tmp 113)), none⟩]
def r12_55 : List AOper := [⟨(some 114), (.mv (.tmp 10)), none⟩, ⟨(some 115), (.faddr 1 (.tmp 4)), none⟩, ⟨(some 116), (.load false 1 (.tmp 115)), none⟩, ⟨(some 117), (.call 54 [(.tmp 114), (.tmp 116)]), none⟩, ⟨(some 118), (.mv (.tmp 117)), none⟩, ⟨(some 119), (.mv (.tmp 18)), (some (118, true))⟩, ⟨(some 120), (.bin .eql 32 (.tmp 119) (.const (.int .i64 0))), (some (118, true))⟩, ⟨(some 121), (.pick (.tmp 118) (.tmp 120) (.const (.bool false))), none⟩, ⟨(some 122), (.mv (.tmp 121)), none⟩, ⟨(some 123), (.mv (.tmp 17)), (some (122, true))⟩, ⟨(some 124), (.mv (.tmp 2)), (some (122, true))⟩, ⟨(some 125), (.len (.tmp 124)), (some (122, true))⟩, ⟨(some 126), (.bin .eql 3 (.tmp 123) (.tmp 125)), (some (122, true))⟩, ⟨(some 127), (.pick (.tmp 122) (.tmp 126) (.const (.bool false))), none⟩, ⟨(some 6), (.mv (.tmp 127)), none⟩]
def tr12 : List (Nat × Tidy) := [(0, ⟨[2, 3, 4], true, [], []⟩), (1, ⟨[2, 3, 4, 20], true, [], []⟩), (2, ⟨[6], true, [], []⟩), (3, ⟨[2, 3, 4, 40], true, [], []⟩), (4, ⟨[6], true, [], []⟩), (5, ⟨[2, 3, 4, 8], true, [], []⟩), (6, ⟨[2, 3, 4, 52], true, [], []⟩), (7, ⟨[6], true, [], []⟩), (8, ⟨[2, 3, 4, 9], true, [], []⟩), (9, ⟨[2, 3, 4, 9, 10], true, [], []⟩), (10, ⟨[2, 3, 4, 9, 10, 11], true, [], []⟩), (11, ⟨[2, 3, 4, 9, 10, 11, 59], true, [], []⟩), (13, ⟨[2, 3, 4, 9, 11, 12, 14], true, [], []⟩), (14, ⟨[2, 3, 4, 9, 11, 12, 14, 16], true, [], []⟩), (15, ⟨[2, 3, 4, 9, 11, 12, 87], true, [], []⟩), (16, ⟨[6], true, [], []⟩), (17, ⟨[2, 3, 4, 9, 10, 11], true, [], []⟩), (18, ⟨[2, 3, 4, 9, 10, 11], true, [], []⟩), (12, ⟨[2, 3, 4, 9, 10, 11], true, [], []⟩), (19, ⟨[2, 4, 10, 17, 18], true, [], []⟩), (20, ⟨[6], true, [], []⟩)]
def tl12 : List (Nat × Tidy) := [(11, ⟨[2, 3, 4, 9, 10, 11], true, [⟨false, 9, 0, 20009, 1⟩, ⟨false, 10, 0, 20010, 1⟩, ⟨true, 3, 0, 30300, 1⟩, ⟨true, 3, 1, 30301, 4⟩, ⟨true, 4, 0, 30400, 1⟩, ⟨true, 4, 1, 30401, 1⟩], []⟩)]
def rs12 : List AResV := [.tmp 6]
def p12_0_0 : PT St := pS [sl 2 (aV false [(cD dL)]), sl 3 (aV false [(cPtr 3 0)]), sl 4 (aV false [(cPtr 4 0)]), sl 9 (aV false [(cRef 20009)]), sl 10 (aV false [(cRef 20010)]), sl 11 (aV false [(cD (dI .i64))])] [eBox 3 [(cD dL), (cD dL)], eBox 4 [(cD dL), (cD dL)], eOwn 20009 1, eOwn 20010 1]
def u12_0_0 {β : Type} (g : St → β) : Rows → Int → Rows → Rows → Rows → Rows → Rows → Rows → β := p12_0_0.unc g

def p12_0_1 : PT St := pS [sl 6 (aV false [(cD dB)])] []
def u12_0_1 {β : Type} (g : St → β) : Bool → β := p12_0_1.unc g

def p12_0_2 : PT St := pS [sl 2 (aV false [(cD dL)]), sl 3 (aV false [(cPtr 3 0)]), sl 4 (aV false [(cPtr 4 0)]), sl 9 (aV false [(cRef 20009)]), sl 10 (aV false [(cRef 20010)]), sl 11 (aV false [(cD (dI .i64))]), sl 59 (aV false [(cD dB)])] [eBox 3 [(cD dL), (cD dL)], eBox 4 [(cD dL), (cD dL)], eOwn 20009 1, eOwn 20010 1]
def u12_0_2 {β : Type} (g : St → β) : Rows → Int → Bool → Rows → Rows → Rows → Rows → Rows → Rows → β := p12_0_2.unc g

def pr12_0_0 : PT (List RV) := pRs [pR false [rD dB]]
def ur12_0_0 {β : Type} (g : List RV → β) : Bool → β := pr12_0_0.unc g

def E12_0g (vf14_0 : Tf14_0) (vf44_0 : Tf44_0) (vf46_0 : Tf46_0) (vf56_0 : Tf56_0) (vf61_0 : Tf61_0) (vf62_0 : Tf62_0) (vf48_0 : Tf48_0) (vf49_0 : Tf49_0) (vf47_0 : Tf47_0) (vf54_0 : Tf54_0) : EnvK := EnvK.of [⟨14, nt14, [⟨pa14_0, Fn14_0 vf14_0⟩]⟩, ⟨44, nt44, [⟨pa44_0, Fn44_0 vf44_0⟩]⟩, ⟨46, nt46, [⟨pa46_0, Fn46_0 vf46_0⟩]⟩, ⟨56, nt56, [⟨pa56_0, Fn56_0 vf56_0⟩]⟩, ⟨61, nt61, [⟨pa61_0, Fn61_0 vf61_0⟩]⟩, ⟨62, nt62, [⟨pa62_0, Fn62_0 vf62_0⟩]⟩, ⟨48, nt48, [⟨pa48_0, Fn48_0 vf48_0⟩]⟩, ⟨49, nt49, [⟨pa49_0, Fn49_0 vf49_0⟩]⟩, ⟨47, nt47, [⟨pa47_0, Fn47_0 vf47_0⟩]⟩, ⟨54, nt54, [⟨pa54_0, Fn54_0 vf54_0⟩]⟩] noSeq
noncomputable def E12_0 : EnvK := E12_0g f14_0 f44_0 f46_0 f56_0 f61_0 f62_0 f48_0 f49_0 f47_0 f54_0
theorem eo12_0 : E12_0.Ok Try.prog := EnvK.of_ok noSeq_ok ⟨⟨io14_0, trivial⟩, ⟨io44_0, trivial⟩, ⟨io46_0, trivial⟩, ⟨io56_0, trivial⟩, ⟨io61_0, trivial⟩, ⟨io62_0, trivial⟩, ⟨io48_0, trivial⟩, ⟨io49_0, trivial⟩, ⟨io47_0, trivial⟩, ⟨io54_0, trivial⟩, trivial⟩

noncomputable def c12_0_31g  : MCode := (.seq (.seq (.region r12_34 [] (some ⟨[2, 3, 4, 9, 10, 11, 59], true, [], []⟩)) (.cond (.tmp 59) .skip (.exit 0))) (.seq (.block 1 (.seq (.region r12_39 [(1, 5), (1, 6)] (some ⟨[2, 3, 4, 9, 11, 12, 14], true, [], []⟩)) (.seq (.region r12_41 [] (some ⟨[2, 3, 4, 9, 11, 12, 14, 16], true, [], []⟩)) (.seq (.seq (.region r12_44 [] (some ⟨[2, 3, 4, 9, 11, 12, 87], true, [], []⟩)) (.cond (.tmp 87) (.seq (.region r12_47 [] (some ⟨[6], true, [], []⟩)) .ret) .skip)) (.seq (.region r12_49 [] (some ⟨[2, 3, 4, 9, 10, 11], true, [], []⟩)) (.region r12_50 [] (some ⟨[2, 3, 4, 9, 10, 11], true, [], []⟩))))))) (.region r12_51 [] (some ⟨[2, 3, 4, 9, 10, 11], true, [], []⟩))))
noncomputable def c12_0_31 : MCode := c12_0_31g 
theorem g12_0_31 : c12_0_31.Good Try.prog E12_0 sh12 := ⟨⟨trivial, ⟨trivial, trivial⟩⟩, ⟨⟨trivial, ⟨trivial, ⟨⟨trivial, ⟨⟨trivial, trivial⟩, trivial⟩⟩, ⟨trivial, trivial⟩⟩⟩⟩, trivial⟩⟩
--CODE 31 0
def S12_0_0g (vf46_0 : Tf46_0) (vf47_0 : Tf47_0) (vf48_0 : Tf48_0) (vf49_0 : Tf49_0) (α : Type) (x15 : Rows) (x17 : Rows) (x18 : Rows) (x16 : Int) (x21 : Rows) (x22 : Rows) (kn : Int → Rows → Rows → Option α) (k1 : Option α) (k2 : Int → Bool → Rows → Rows → Option α) : Option α :=
  cK (decide (x16 < ((List.length x15 : Nat) : Int)))
    (vf46_0 α x17 x18
      (fun (x24 : Rows) (x25 : Rows) => rowK x15 x16 [.int .i64]
        (fun (x26 : Int) => vf49_0 α x24 x25 x22 x26
          (fun (x27 : Rows) (x28 : Int) (x29 : Int) => flatK [x27]
            (vf46_0 α x17 x18
              (fun (x30 : Rows) (x31 : Rows) => vf48_0 α x27
                (fun (x32 : Rows) => flatK [x32]
                  (vf47_0 α x30 x31 x32
                    (fun (x33 : Int) (x34 : Int) => cK (x29 != 0)
                      (k1)
                      (cK (x34 != 17)
                        (k1)
                        (rowK x15 (w64 ((w64 (((List.length x15 : Nat) : Int) - 1)) - x16)) [.int .i64]
                          (fun (x35 : Int) => gK (apOk 1 8 x21 [[DC.v (.int .i64 x35)]]) (kn (w64 (x16 + 1)) (x21 ++ [[DC.v (.int .i64 x35)]]) x27)))))))))))))
    (k2 x16 (decide (x16 < ((List.length x15 : Nat) : Int))) x21 x22)
noncomputable def S12_0_0 (α : Type) (x15 : Rows) (x17 : Rows) (x18 : Rows) (x16 : Int) (x21 : Rows) (x22 : Rows) (kn : Int → Rows → Rows → Option α) (k1 : Option α) (k2 : Int → Bool → Rows → Rows → Option α) : Option α := S12_0_0g f46_0 f47_0 f48_0 f49_0 α x15 x17 x18 x16 x21 x22 kn k1 k2
noncomputable def R12_0_0 (α : Type) (x15 : Rows) (x17 : Rows) (x18 : Rows) (k1 : Option α) (k2 : Int → Bool → Rows → Rows → Option α) : Nat → Int → Rows → Rows → Option α
  | 0, _, _, _ => none
  | n + 1, x16, x21, x22 => S12_0_0 α x15 x17 x18 x16 x21 x22 (R12_0_0 α x15 x17 x18 k1 k2 n) k1 k2
noncomputable def L12_0_0 (α : Type) (x15 : Rows) (x17 : Rows) (x18 : Rows) (k1 : Option α) (k2 : Int → Bool → Rows → Rows → Option α) (x16 : Int) (x21 : Rows) (x22 : Rows) : Option α := R12_0_0 α x15 x17 x18 k1 k2 fuel x16 x21 x22
abbrev TL12_0_0 : Type 1 := (α : Type) → Rows → Rows → Rows → (Option α) → (Int → Bool → Rows → Rows → Option α) → Int → Rows → Rows → Option α
def F12_0_0 (v : TL12_0_0) (α : Type) (K : Exit → St → Option α) : Rows → Int → Rows → Rows → Rows → Rows → Rows → Rows → Option α := fun x15 x16 x17 x18 x19 x20 x21 x22 => v α x15 x17 x18 (u12_0_1 (K .ret) false) (fun (y1 : Int) (y2 : Bool) (y3 : Rows) (y4 : Rows) => u12_0_2 (K (.exit 0)) x15 y1 y2 x17 x18 x19 x20 y3 y4) x16 x21 x22
theorem r12_0_0g (vf14_0 : Tf14_0) (vf44_0 : Tf44_0) (vf46_0 : Tf46_0) (vf56_0 : Tf56_0) (vf61_0 : Tf61_0) (vf62_0 : Tf62_0) (vf48_0 : Tf48_0) (vf49_0 : Tf49_0) (vf47_0 : Tf47_0) (vf54_0 : Tf54_0)  (α : Type) (K : Exit → St → Option α) (Kn : St → Option α) (x15 : Rows) (x16 : Int) (x17 : Rows) (x18 : Rows) (x19 : Rows) (x20 : Rows) (x21 : Rows) (x22 : Rows) : u12_0_0 (fun σ => runM Try.prog (E12_0g vf14_0 vf44_0 vf46_0 vf56_0 vf61_0 vf62_0 vf48_0 vf49_0 vf47_0 vf54_0) sh12 (c12_0_31g ) (thenK (fun σ => tidyK td12_31 σ Kn) K) σ) x15 x16 x17 x18 x19 x20 x21 x22 = S12_0_0g vf46_0 vf47_0 vf48_0 vf49_0 α x15 x17 x18 x16 x21 x22 (fun x16 x21 x22 => u12_0_0 Kn x15 x16 x17 x18 x19 x20 x21 x22) (u12_0_1 (K .ret) false) (fun (y1 : Int) (y2 : Bool) (y3 : Rows) (y4 : Rows) => u12_0_2 (K (.exit 0)) x15 y1 y2 x17 x18 x19 x20 y3 y4) := by kernel_rfl
theorem r12_0_0 (α : Type) (K : Exit → St → Option α) (Kn : St → Option α) (x15 : Rows) (x16 : Int) (x17 : Rows) (x18 : Rows) (x19 : Rows) (x20 : Rows) (x21 : Rows) (x22 : Rows) : u12_0_0 (fun σ => runM Try.prog E12_0 sh12 c12_0_31 (thenK (fun σ => tidyK td12_31 σ Kn) K) σ) x15 x16 x17 x18 x19 x20 x21 x22 = S12_0_0 α x15 x17 x18 x16 x21 x22 (fun x16 x21 x22 => u12_0_0 Kn x15 x16 x17 x18 x19 x20 x21 x22) (u12_0_1 (K .ret) false) (fun (y1 : Int) (y2 : Bool) (y3 : Rows) (y4 : Rows) => u12_0_2 (K (.exit 0)) x15 y1 y2 x17 x18 x19 x20 y3 y4) := r12_0_0g f14_0 f44_0 f46_0 f56_0 f61_0 f62_0 f48_0 f49_0 f47_0 f54_0 α K Kn x15 x16 x17 x18 x19 x20 x21 x22
theorem t12_0_0 (α : Type) (K : Exit → St → Option α) : ∀ (n : Nat) (x15 : Rows) (x16 : Int) (x17 : Rows) (x18 : Rows) (x19 : Rows) (x20 : Rows) (x21 : Rows) (x22 : Rows), R12_0_0 α x15 x17 x18 (u12_0_1 (K .ret) false) (fun (y1 : Int) (y2 : Bool) (y3 : Rows) (y4 : Rows) => u12_0_2 (K (.exit 0)) x15 y1 y2 x17 x18 x19 x20 y3 y4) n x16 x21 x22 = u12_0_0 (loopT (runM Try.prog E12_0 sh12 c12_0_31) td12_31 K n) x15 x16 x17 x18 x19 x20 x21 x22 := by
  intro n
  induction n with
  | zero => intros; rfl
  | succ n ih => intro x15 x16 x17 x18 x19 x20 x21 x22; exact (congrArg (fun kn => S12_0_0 α x15 x17 x18 x16 x21 x22 kn (u12_0_1 (K .ret) false) (fun (y1 : Int) (y2 : Bool) (y3 : Rows) (y4 : Rows) => u12_0_2 (K (.exit 0)) x15 y1 y2 x17 x18 x19 x20 y3 y4)) (funext fun x16 => funext fun x21 => funext fun x22 => ih x15 x16 x17 x18 x19 x20 x21 x22)).trans (r12_0_0 α K (loopT (runM Try.prog E12_0 sh12 c12_0_31) td12_31 K n) x15 x16 x17 x18 x19 x20 x21 x22).symm
theorem m12_0_0 : ∀ (α : Type) (K : Exit → St → Option α), F12_0_0 L12_0_0 α K = p12_0_0.unc fun σ => loopT (runM Try.prog E12_0 sh12 c12_0_31) td12_31 K fuel σ := fun α K => funext fun x15 => funext fun x16 => funext fun x17 => funext fun x18 => funext fun x19 => funext fun x20 => funext fun x21 => funext fun x22 => t12_0_0 α K fuel x15 x16 x17 x18 x19 x20 x21 x22

/-- etalon/etalonlaw08.GrowBack -/
abbrev Tf12_0 : Type 1 := (α : Type) → Rows → Rows → Rows → Rows → Rows → (Bool → Option α) → Option α
def f12_0g (vL12_0_0 : TL12_0_0) (vf14_0 : Tf14_0) (vf44_0 : Tf44_0) (vf46_0 : Tf46_0) (vf48_0 : Tf48_0) (vf54_0 : Tf54_0) (vf56_0 : Tf56_0) (vf61_0 : Tf61_0) (vf62_0 : Tf62_0) (α : Type) (x1 : Rows) (x2 : Rows) (x3 : Rows) (x4 : Rows) (x5 : Rows) (k1 : Bool → Option α) : Option α :=
  vf14_0 α 
    (vf44_0 α x1 x2
      (fun (x6 : Bool) => cK (!x6)
        (k1 true)
        (cK (decide (12 < ((List.length x3 : Nat) : Int)))
          (k1 true)
          (cK (decide (12 < ((List.length x4 : Nat) : Int)))
            (k1 true)
            (cK (decide (40 < ((List.length x5 : Nat) : Int)))
              (k1 true)
              (vf46_0 α x1 x2
                (fun (x7 : Rows) (x8 : Rows) => vf56_0 α x3 x4
                  (fun (x9 : Rows) (x10 : Rows) => vf61_0 α x5
                    (fun (x11 : Rows) => vf62_0 α x7 x8 x9 x10 x11
                      (fun (x12 : Int) (x13 : Int) => cK (x13 != 0)
                        (k1 true)
                        (vf48_0 α x3
                          (fun (x14 : Rows) => vL12_0_0 α x5 x1 x2
                            (k1 false)
                            (fun (x36 : Int) (x37 : Bool) (x38 : Rows) (x39 : Rows) => vf46_0 α x1 x2
                              (fun (x41 : Rows) (x42 : Rows) => vf48_0 α x4
                                (fun (x43 : Rows) => vf48_0 α x3
                                  (fun (x44 : Rows) => vf62_0 α x41 x42 x43 x44 x38
                                    (fun (x45 : Int) (x46 : Int) => vf54_0 α x39 x4
                                      (fun (x47 : Bool) => cK x47
                                        (cK (x46 == 0)
                                          (k1 (x45 == ((List.length x5 : Nat) : Int)))
                                          (k1 false))
                                        (k1 false))))))) 0 ([] : Rows) x14))))))))))))
noncomputable def f12_0 (α : Type) (x1 : Rows) (x2 : Rows) (x3 : Rows) (x4 : Rows) (x5 : Rows) (k1 : Bool → Option α) : Option α := f12_0g L12_0_0 f14_0 f44_0 f46_0 f48_0 f54_0 f56_0 f61_0 f62_0 α x1 x2 x3 x4 x5 k1
def pa12_0 : PT (List DV) := pA [pV true [dL, dL], pV true [dL, dL], pV false [dL]]
def Fn12_0 (v : Tf12_0) (α : Type) (k : List RV → Option α) : Rows → Rows → Rows → Rows → Rows → Option α := fun x1 x2 x3 x4 x5 => v α x1 x2 x3 x4 x5 (fun (y1 : Bool) => ur12_0_0 k y1)
noncomputable def cm12_0g (vL12_0_0 : TL12_0_0) : MCode := (.seq (.region r12_2 [] (some ⟨[2, 3, 4], true, [], []⟩)) (.seq (.seq (.region r12_5 [] (some ⟨[2, 3, 4, 20], true, [], []⟩)) (.cond (.tmp 20) (.seq (.region r12_8 [] (some ⟨[6], true, [], []⟩)) .ret) .skip)) (.seq (.seq (.region r12_11 [] (some ⟨[2, 3, 4, 40], true, [], []⟩)) (.cond (.tmp 40) (.seq (.region r12_14 [] (some ⟨[6], true, [], []⟩)) .ret) .skip)) (.seq (.seq (.region r12_17 [(1, 2)] (some ⟨[2, 3, 4, 8], true, [], []⟩)) (.seq (.region r12_19 [] (some ⟨[2, 3, 4, 52], true, [], []⟩)) (.cond (.tmp 52) (.seq (.region r12_22 [] (some ⟨[6], true, [], []⟩)) .ret) .skip))) (.seq (.region r12_24 [] (some ⟨[2, 3, 4, 9], true, [], []⟩)) (.seq (.region r12_26 [] (some ⟨[2, 3, 4, 9, 10], true, [], []⟩)) (.seq (.seq (.region r12_29 [] (some ⟨[2, 3, 4, 9, 10, 11], true, [], []⟩)) (.block 0 (.loop td12_31 [⟨p12_0_0, F12_0_0 vL12_0_0⟩] c12_0_31))) (.seq (.region r12_53 [(1, 3), (1, 6), (4, 6)] (some ⟨[2, 4, 10, 17, 18], true, [], []⟩)) (.seq (.region r12_55 [] (some ⟨[6], true, [], []⟩)) .ret)))))))))
noncomputable def cm12_0 : MCode := cm12_0g L12_0_0
theorem gm12_0 : cm12_0.Good Try.prog E12_0 sh12 := ⟨trivial, ⟨⟨trivial, ⟨⟨trivial, trivial⟩, trivial⟩⟩, ⟨⟨trivial, ⟨⟨trivial, trivial⟩, trivial⟩⟩, ⟨⟨trivial, ⟨trivial, ⟨⟨trivial, trivial⟩, trivial⟩⟩⟩, ⟨trivial, ⟨trivial, ⟨⟨trivial, ⟨g12_0_31, m12_0_0, trivial⟩⟩, ⟨trivial, ⟨trivial, trivial⟩⟩⟩⟩⟩⟩⟩⟩⟩
theorem fm12_0g (vf14_0 : Tf14_0) (vf44_0 : Tf44_0) (vf46_0 : Tf46_0) (vf56_0 : Tf56_0) (vf61_0 : Tf61_0) (vf62_0 : Tf62_0) (vf48_0 : Tf48_0) (vf49_0 : Tf49_0) (vf47_0 : Tf47_0) (vf54_0 : Tf54_0) (vL12_0_0 : TL12_0_0) (α : Type) (k : List RV → Option α) : Fn12_0 (f12_0g vL12_0_0 vf14_0 vf44_0 vf46_0 vf48_0 vf54_0 vf56_0 vf61_0 vf62_0) α k = pa12_0.unc fun ds => fnM Try.prog (E12_0g vf14_0 vf44_0 vf46_0 vf56_0 vf61_0 vf62_0 vf48_0 vf49_0 vf47_0 vf54_0) sh12 (cm12_0g vL12_0_0) rs12 k ds := by kernel_rfl
theorem fm12_0 : ∀ (α : Type) (k : List RV → Option α), Fn12_0 f12_0 α k = pa12_0.unc fun ds => fnM Try.prog E12_0 sh12 cm12_0 rs12 k ds := fm12_0g f14_0 f44_0 f46_0 f56_0 f61_0 f62_0 f48_0 f49_0 f47_0 f54_0 L12_0_0

theorem is12 : FnIs Try.prog 12 nt12 tr12 tl12 cm12_0.erase rs12 := ⟨Try.f12, Try.func12, rfl, by kernel_rfl, by kernel_rfl, by kernel_rfl⟩
theorem io12_0 : InstOk Try.prog 12 nt12 ⟨pa12_0, Fn12_0 f12_0⟩ := inst_ok eo12_0 followsTry is12 ⟨⟨sh12, cm12_0, by kernel_rfl, gm12_0, fm12_0⟩⟩

/-! ### F11 etalon/etalonlaw08.GrowClaims -/
abbrev nt11 : Nat := 147
def sh11 : List (Nat × List Sh) := [(18, [.sl, .sl]), (23, [.sl]), (29, [.sl]), (35, [.sl]), (40, [.sl]), (47, [.sl]), (53, [.sl]), (58, [.sl, .sl]), (60, [.sl, .sl]), (63, [.sl]), (69, [.sl, .sl]), (71, [.sl, .sl]), (74, [.sl]), (79, [.sl, .sl]), (80, [.sl, .sl]), (101, [.sl, .sl]), (102, [.sl, .sl]), (104, [.sl]), (109, [.sl, .sl]), (110, [.sl, .sl]), (112, [.sl])]
def r11_2 : List AOper := [⟨(some 3), (.box (.tmp 0)), none⟩, ⟨(some 4), (.box (.tmp 1)), none⟩, ⟨(some 5), (.box (.tmp 2)), none⟩, ⟨(some 6), (.mv (.const (.bool false))), none⟩]
def r11_5 : List AOper := [⟨(some 16), (.call 14 []), none⟩, ⟨(some 17), (.pure (oB (.unOp .not 4 (.tmp 16)) 4)), none⟩]
def r11_8 : List AOper := [⟨(some 6), (.mv (.const (.bool false))), none⟩]
def r11_11 : List AOper := [⟨(some 18), (.load true 2 (.tmp 3)), none⟩, ⟨(some 19), (.call 44 [(.tmp 18)]), none⟩, ⟨(some 20), (.pure (oB (.unOp .not 4 (.tmp 19)) 4)), none⟩, ⟨(some 21), (.mv (.tmp 20)), none⟩, ⟨(some 22), (.faddr 0 (.tmp 4)), (some (21, false))⟩, ⟨(some 23), (.load false 1 (.tmp 22)), (some (21, false))⟩, ⟨(some 24), (.len (.tmp 23)), (some (21, false))⟩, ⟨(some 25), (.bin .gtr 3 (.tmp 24) (.const (.int .i64 12))), (some (21, false))⟩, ⟨(some 26), (.pick (.tmp 21) (.const (.bool true)) (.tmp 25)), none⟩, ⟨(some 27), (.mv (.tmp 26)), none⟩, ⟨(some 28), (.faddr 1 (.tmp 4)), (some (27, false))⟩, ⟨(some 29), (.load false 1 (.tmp 28)), (some (27, false))⟩, ⟨(some 30), (.len (.tmp 29)), (some (27, false))⟩, ⟨(some 31), (.bin .gtr 3 (.tmp 30) (.const (.int .i64 12))), (some (27, false))⟩, ⟨(some 32), (.pick (.tmp 27) (.const (.bool true)) (.tmp 31)), none⟩, ⟨(some 33), (.mv (.tmp 32)), none⟩, ⟨(some 34), (.faddr 0 (.tmp 5)), (some (33, false))⟩, ⟨(some 35), (.load false 1 (.tmp 34)), (some (33, false))⟩, ⟨(some 36), (.len (.tmp 35)), (some (33, false))⟩, ⟨(some 37), (.bin .gtr 3 (.tmp 36) (.const (.int .i64 40))), (some (33, false))⟩, ⟨(some 38), (.mv (.tmp 37)), (some (33, false))⟩, ⟨(some 39), (.faddr 0 (.tmp 5)), (some (38, true))⟩, ⟨(some 40), (.load false 1 (.tmp 39)), (some (38, true))⟩, ⟨(some 41), (.len (.tmp 40)), (some (38, true))⟩, ⟨(some 42), (.bin .leq 3 (.tmp 41) (.const (.int .i64 1000))), (some (38, true))⟩, ⟨(some 43), (.pick (.tmp 38) (.tmp 42) (.const (.bool false))), (some (33, false))⟩, ⟨(some 44), (.pick (.tmp 33) (.const (.bool true)) (.tmp 43)), none⟩, ⟨(some 45), (.mv (.tmp 44)), none⟩, ⟨(some 46), (.faddr 0 (.tmp 5)), (some (45, false))⟩, ⟨(some 47), (.load false 1 (.tmp 46)), (some (45, false))⟩, ⟨(some 48), (.len (.tmp 47)), (some (45, false))⟩, ⟨(some 49), (.bin .gtr 3 (.tmp 48) (.const (.int .i64 1002))), (some (45, false))⟩, ⟨(some 50), (.pick (.tmp 45) (.const (.bool true)) (.tmp 49)), none⟩, ⟨(some 51), (.mv (.tmp 50)), none⟩, ⟨(some 52), (.faddr 1 (.tmp 5)), (some (51, false))⟩, ⟨(some 53), (.load false 1 (.tmp 52)), (some (51, false))⟩, ⟨(some 54), (.len (.tmp 53)), (some (51, false))⟩, ⟨(some 55), (.bin .gtr 3 (.tmp 54) (.const (.int .i64 40))), (some (51, false))⟩, ⟨(some 56), (.pick (.tmp 51) (.const (.bool true)) (.tmp 55)), none⟩]
def r11_14 : List AOper := [⟨(some 6), (.mv (.const (.bool true))), none⟩]
def r11_16 : List AOper := [⟨(some 58), (.load true 2 (.tmp 3)), none⟩, ⟨(some 59), (.call 46 [(.tmp 58)]), none⟩, ⟨(some 60), (.load true 2 (.tmp 4)), none⟩, ⟨(some 61), (.call 56 [(.tmp 60)]), none⟩, ⟨(some 62), (.faddr 0 (.tmp 5)), none⟩, ⟨(some 63), (.load false 1 (.tmp 62)), none⟩, ⟨(some 64), (.call 61 [(.tmp 63)]), none⟩, ⟨(some 65), (.call 62 [(.tmp 59), (.tmp 61), (.tmp 64)]), none⟩, ⟨(some 57), (.mv (.tmp 65)), none⟩, ⟨(some 66), (.extract 0 (.tmp 57)), none⟩, ⟨(some 67), (.extract 1 (.tmp 57)), none⟩, ⟨(some 7), (.mv (.tmp 66)), none⟩, ⟨(some 8), (.mv (.tmp 67)), none⟩]
def r11_18 : List AOper := [⟨(some 69), (.load true 2 (.tmp 3)), none⟩, ⟨(some 70), (.call 46 [(.tmp 69)]), none⟩, ⟨(some 71), (.load true 2 (.tmp 4)), none⟩, ⟨(some 72), (.call 56 [(.tmp 71)]), none⟩, ⟨(some 73), (.faddr 1 (.tmp 5)), none⟩, ⟨(some 74), (.load false 1 (.tmp 73)), none⟩, ⟨(some 75), (.call 61 [(.tmp 74)]), none⟩, ⟨(some 76), (.call 60 [(.tmp 70), (.tmp 72), (.tmp 75)]), none⟩, ⟨(some 68), (.mv (.tmp 76)), none⟩, ⟨(some 77), (.extract 0 (.tmp 68)), none⟩, ⟨(some 78), (.extract 1 (.tmp 68)), none⟩, ⟨(some 9), (.mv (.tmp 77)), none⟩, ⟨(some 10), (.mv (.tmp 78)), none⟩]
def r11_21 : List AOper := [⟨(some 79), (.load true 2 (.tmp 3)), none⟩, ⟨(some 80), (.load true 2 (.tmp 4)), none⟩, ⟨(some 81), (.call 57 [(.tmp 79), (.tmp 80)]), none⟩, ⟨(some 11), (.mv (.tmp 81)), none⟩]
def r11_23 : List AOper := [⟨(some 82), (.mv (.tmp 11)), none⟩, ⟨(some 83), (.bin .neq 3 (.tmp 82) (.const (.int .i64 0))), none⟩]
def r11_26 : List AOper := [⟨(some 84), (.mv (.tmp 8)), none⟩, ⟨(some 85), (.mv (.tmp 11)), none⟩, ⟨(some 86), (.bin .eql 3 (.tmp 84) (.tmp 85)), none⟩, ⟨(some 87), (.mv (.tmp 86)), none⟩, ⟨(some 88), (.mv (.tmp 10)), (some (87, true))⟩, ⟨(some 89), (.mv (.tmp 11)), (some (87, true))⟩, ⟨(some 90), (.bin .eql 3 (.tmp 88) (.tmp 89)), (some (87, true))⟩, ⟨(some 91), (.pick (.tmp 87) (.tmp 90) (.const (.bool false))), none⟩, ⟨(some 92), (.mv (.tmp 91)), none⟩, ⟨(some 93), (.mv (.tmp 7)), (some (92, true))⟩, ⟨(some 94), (.bin .eql 3 (.tmp 93) (.const (.int .i64 0))), (some (92, true))⟩, ⟨(some 95), (.pick (.tmp 92) (.tmp 94) (.const (.bool false))), none⟩, ⟨(some 96), (.mv (.tmp 95)), none⟩, ⟨(some 97), (.mv (.tmp 9)), (some (96, true))⟩, ⟨(some 98), (.bin .eql 3 (.tmp 97) (.const (.int .i64 0))), (some (96, true))⟩, ⟨(some 99), (.pick (.tmp 96) (.tmp 98) (.const (.bool false))), none⟩, ⟨(some 6), (.mv (.tmp 99)), none⟩]
def r11_28 : List AOper := [⟨(some 101), (.load true 2 (.tmp 3)), none⟩, ⟨(some 102), (.load true 2 (.tmp 4)), none⟩, ⟨(some 103), (.faddr 0 (.tmp 5)), none⟩, ⟨(some 104), (.load false 1 (.tmp 103)), none⟩, ⟨(some 105), (.call 64 [(.tmp 101), (.tmp 102), (.tmp 104)]), none⟩, ⟨(some 100), (.mv (.tmp 105)), none⟩, ⟨(some 106), (.extract 0 (.tmp 100)), none⟩, ⟨(some 107), (.extract 1 (.tmp 100)), none⟩, ⟨(some 12), (.mv (.tmp 106)), none⟩, ⟨(some 13), (.mv (.tmp 107)), none⟩]
def r11_30 : List AOper := [⟨(some 109), (.load true 2 (.tmp 3)), none⟩, ⟨(some 110), (.load true 2 (.tmp 4)), none⟩, ⟨(some 111), (.faddr 1 (.tmp 5)), none⟩, ⟨(some 112), (.load false 1 (.tmp 111)), none⟩, ⟨(some 113), (.call 59 [(.tmp 109), (.tmp 110), (.tmp 112)]), none⟩, ⟨(some 108), (.mv (.tmp 113)), none⟩, ⟨(some 114), (.extract 0 (.tmp 108)), none⟩, ⟨(some 115), (.extract 1 (.tmp 108)), none⟩, ⟨(some 14), (.mv (.tmp 114)), none⟩, ⟨(some 15), (.mv (.tmp 115)), none⟩]
def r11_32 : List AOper := [⟨(some 116), (.mv (.tmp 8)), none⟩, ⟨(some 117), (.mv (.tmp 13)), none⟩, ⟨(some 118), (.bin .eql 3 (.tmp 116) (.tmp 117)), none⟩, ⟨(some 119), (.mv (.tmp 118)), none⟩, ⟨(some 120), (.mv (.tmp 7)), (some (119, true))⟩, ⟨(some 121), (.mv (.tmp 12)), (some (119, true))⟩, ⟨(some 122), (.bin .eql 3 (.tmp 120) (.tmp 121)), (some (119, true))⟩, ⟨(some 123), (.pick (.tmp 119) (.tmp 122) (.const (.bool false))), none⟩, ⟨(some 124), (.mv (.tmp 123)), none⟩, ⟨(some 125), (.mv (.tmp 10)), (some (124, true))⟩, ⟨(some 126), (.mv (.tmp 15)), (some (124, true))⟩, ⟨(some 127), (.bin .eql 3 (.tmp 125) (.tmp 126)), (some (124, true))⟩, ⟨(some 128), (.pick (.tmp 124) (.tmp 127) (.const (.bool false))), none⟩, ⟨(some 129), (.mv (.tmp 128)), none⟩, ⟨(some 130), (.mv (.tmp 9)), (some (129, true))⟩, ⟨(some 131), (.mv (.tmp 14)), (some (129, true))⟩, ⟨(some 132), (.bin .eql 3 (.tmp 130) (.tmp 131)), (some (129, true))⟩, ⟨(some 133), (.pick (.tmp 129) (.tmp 132) (.const (.bool false))), none⟩, ⟨(some 134), (.mv (.tmp 133)), none⟩, ⟨(some 135), (.mv (.tmp 13)), (some (134, true))⟩, ⟨(some 136), (.bin .neq 3 (.tmp 135) (.const (.int .i64 0))), (some (134, true))⟩, ⟨(some 137), (.mv (.tmp 136)), (some (134, true))⟩, ⟨(some 138), (.mv (.tmp 15)), (some (137, false))⟩, ⟨(some 139), (.bin .neq 3 (.tmp 138) (.const (.int .i64 0))), (some (137, false))⟩, ⟨(some 140), (.pick (.tmp 137) (.const (.bool true)) (.tmp 139)), (some (134, true))⟩, ⟨(some 141), (.mv (.tmp 140)), (some (134, true))⟩, ⟨(some 142), (.mv (.tmp 14)), (some (141, false))⟩, ⟨(some 143), (.mv (.tmp 12)), (some (141, false))⟩, ⟨(some 144), (.bin .leq 3 (.tmp 142) (.tmp 143)), (some (141, false))⟩, ⟨(some 145), (.pick (.tmp 141) (.const (.bool true)) (.tmp 144)), (some (134, true))⟩, ⟨(some 146), (.pick (.tmp 134) (.tmp 145) (.const (.bool false))), none⟩, ⟨(some 6), (.mv (.tmp 146)), none⟩]
def tr11 : List (Nat × Tidy) := [(0, ⟨[3, 4, 5], true, [], []⟩), (1, ⟨[3, 4, 5, 17], true, [], []⟩), (2, ⟨[6], true, [], []⟩), (3, ⟨[3, 4, 5, 56], true, [], []⟩), (4, ⟨[6], true, [], []⟩), (5, ⟨[3, 4, 5, 7, 8], true, [], []⟩), (6, ⟨[3, 4, 5, 7, 8, 9, 10], true, [], []⟩), (7, ⟨[3, 4, 5, 7, 8, 9, 10, 11], true, [], []⟩), (8, ⟨[3, 4, 5, 7, 8, 9, 10, 11, 83], true, [], []⟩), (9, ⟨[6], true, [], []⟩), (10, ⟨[3, 4, 5, 7, 8, 9, 10, 12, 13], true, [], []⟩), (11, ⟨[7, 8, 9, 10, 12, 13, 14, 15], true, [], []⟩), (12, ⟨[6], true, [], []⟩)]
def tl11 : List (Nat × Tidy) := []
def rs11 : List AResV := [.tmp 6]
def p11_0_0 : PT St := pS [sl 3 (aV false [(cPtr 3 0)]), sl 4 (aV false [(cPtr 4 0)]), sl 5 (aV false [(cPtr 5 0)]), sl 17 (aV false [(cD dB)])] [eBox 3 [(cD dL), (cD dL)], eBox 4 [(cD dL), (cD dL)], eBox 5 [(cD dL), (cD dL)]]
def u11_0_0 {β : Type} (g : St → β) : Bool → Rows → Rows → Rows → Rows → Rows → Rows → β := p11_0_0.unc g

def p11_0_1 : PT St := pS [sl 3 (aV false [(cPtr 3 0)]), sl 4 (aV false [(cPtr 4 0)]), sl 5 (aV false [(cPtr 5 0)]), sl 56 (aV false [(cD dB)])] [eBox 3 [(cD dL), (cD dL)], eBox 4 [(cD dL), (cD dL)], eBox 5 [(cD dL), (cD dL)]]
def u11_0_1 {β : Type} (g : St → β) : Bool → Rows → Rows → Rows → Rows → Rows → Rows → β := p11_0_1.unc g

def pr11_0_0 : PT (List RV) := pRs [pR false [rD dB]]
def ur11_0_0 {β : Type} (g : List RV → β) : Bool → β := pr11_0_0.unc g

def E11_0g (vf14_0 : Tf14_0) (vf44_0 : Tf44_0) (vf46_0 : Tf46_0) (vf56_0 : Tf56_0) (vf61_0 : Tf61_0) (vf62_0 : Tf62_0) (vf60_0 : Tf60_0) (vf57_0 : Tf57_0) (vf64_0 : Tf64_0) (vf59_0 : Tf59_0) : EnvK := EnvK.of [⟨14, nt14, [⟨pa14_0, Fn14_0 vf14_0⟩]⟩, ⟨44, nt44, [⟨pa44_0, Fn44_0 vf44_0⟩]⟩, ⟨46, nt46, [⟨pa46_0, Fn46_0 vf46_0⟩]⟩, ⟨56, nt56, [⟨pa56_0, Fn56_0 vf56_0⟩]⟩, ⟨61, nt61, [⟨pa61_0, Fn61_0 vf61_0⟩]⟩, ⟨62, nt62, [⟨pa62_0, Fn62_0 vf62_0⟩]⟩, ⟨60, nt60, [⟨pa60_0, Fn60_0 vf60_0⟩]⟩, ⟨57, nt57, [⟨pa57_0, Fn57_0 vf57_0⟩]⟩, ⟨64, nt64, [⟨pa64_0, Fn64_0 vf64_0⟩]⟩, ⟨59, nt59, [⟨pa59_0, Fn59_0 vf59_0⟩]⟩] noSeq
noncomputable def E11_0 : EnvK := E11_0g f14_0 f44_0 f46_0 f56_0 f61_0 f62_0 f60_0 f57_0 f64_0 f59_0
theorem eo11_0 : E11_0.Ok Try.prog := EnvK.of_ok noSeq_ok ⟨⟨io14_0, trivial⟩, ⟨io44_0, trivial⟩, ⟨io46_0, trivial⟩, ⟨io56_0, trivial⟩, ⟨io61_0, trivial⟩, ⟨io62_0, trivial⟩, ⟨io60_0, trivial⟩, ⟨io57_0, trivial⟩, ⟨io64_0, trivial⟩, ⟨io59_0, trivial⟩, trivial⟩

noncomputable def c11_0_10g  : MCode := (.region r11_11 [] (some ⟨[3, 4, 5, 56], true, [], []⟩))
noncomputable def c11_0_10 : MCode := c11_0_10g 
theorem g11_0_10 : c11_0_10.Good Try.prog E11_0 sh11 := trivial
--CODE 10 0
abbrev TJ11_0_0 : Type 1 := (α : Type) → Rows → Rows → Rows → Rows → Rows → Rows → (Bool → Option α) → Option α
def J11_0_0g (vf44_0 : Tf44_0) (α : Type) (x8 : Rows) (x9 : Rows) (x10 : Rows) (x11 : Rows) (x12 : Rows) (x13 : Rows) (k1 : Bool → Option α) : Option α :=
  vf44_0 α x8 x9
    (fun (x15 : Bool) => cK (!x15)
      (k1 true)
      (cK (decide (12 < ((List.length x10 : Nat) : Int)))
        (k1 true)
        (cK (decide (12 < ((List.length x11 : Nat) : Int)))
          (k1 true)
          (cK (decide (40 < ((List.length x12 : Nat) : Int)))
            (cK (decide (((List.length x12 : Nat) : Int) ≤ 1000))
              (k1 true)
              (cK (decide (1002 < ((List.length x12 : Nat) : Int)))
                (k1 true)
                (k1 (decide (40 < ((List.length x13 : Nat) : Int))))))
            (cK (decide (1002 < ((List.length x12 : Nat) : Int)))
              (k1 true)
              (k1 (decide (40 < ((List.length x13 : Nat) : Int)))))))))
noncomputable def J11_0_0 (α : Type) (x8 : Rows) (x9 : Rows) (x10 : Rows) (x11 : Rows) (x12 : Rows) (x13 : Rows) (k1 : Bool → Option α) : Option α := J11_0_0g f44_0 α x8 x9 x10 x11 x12 x13 k1
def F11_0_0 (v : TJ11_0_0) (α : Type) (K : Exit → St → Option α) : Bool → Rows → Rows → Rows → Rows → Rows → Rows → Option α := fun x7 x8 x9 x10 x11 x12 x13 => v α x8 x9 x10 x11 x12 x13 (fun (y1 : Bool) => u11_0_1 (K .normal) y1 x8 x9 x10 x11 x12 x13) 
theorem m11_0_0g (vf14_0 : Tf14_0) (vf44_0 : Tf44_0) (vf46_0 : Tf46_0) (vf56_0 : Tf56_0) (vf61_0 : Tf61_0) (vf62_0 : Tf62_0) (vf60_0 : Tf60_0) (vf57_0 : Tf57_0) (vf64_0 : Tf64_0) (vf59_0 : Tf59_0)  (α : Type) (K : Exit → St → Option α) : F11_0_0 (J11_0_0g vf44_0) α K = p11_0_0.unc fun σ => runM Try.prog (E11_0g vf14_0 vf44_0 vf46_0 vf56_0 vf61_0 vf62_0 vf60_0 vf57_0 vf64_0 vf59_0) sh11 (c11_0_10g ) K σ := by kernel_rfl
theorem m11_0_0 : ∀ (α : Type) (K : Exit → St → Option α), F11_0_0 J11_0_0 α K = p11_0_0.unc fun σ => runM Try.prog E11_0 sh11 c11_0_10 K σ := m11_0_0g f14_0 f44_0 f46_0 f56_0 f61_0 f62_0 f60_0 f57_0 f64_0 f59_0

/-- etalon/etalonlaw08.GrowClaims -/
abbrev Tf11_0 : Type 1 := (α : Type) → Rows → Rows → Rows → Rows → Rows → Rows → (Bool → Option α) → Option α
def f11_0g (vJ11_0_0 : TJ11_0_0) (vf14_0 : Tf14_0) (vf46_0 : Tf46_0) (vf56_0 : Tf56_0) (vf57_0 : Tf57_0) (vf59_0 : Tf59_0) (vf60_0 : Tf60_0) (vf61_0 : Tf61_0) (vf62_0 : Tf62_0) (vf64_0 : Tf64_0) (α : Type) (x1 : Rows) (x2 : Rows) (x3 : Rows) (x4 : Rows) (x5 : Rows) (x6 : Rows) (k1 : Bool → Option α) : Option α :=
  vf14_0 α 
    (vJ11_0_0 α x1 x2 x3 x4 x5 x6
      (fun (x16 : Bool) => cK x16
        (k1 true)
        (vf46_0 α x1 x2
          (fun (x18 : Rows) (x19 : Rows) => vf56_0 α x3 x4
            (fun (x20 : Rows) (x21 : Rows) => vf61_0 α x5
              (fun (x22 : Rows) => vf62_0 α x18 x19 x20 x21 x22
                (fun (x23 : Int) (x24 : Int) => vf46_0 α x1 x2
                  (fun (x25 : Rows) (x26 : Rows) => vf56_0 α x3 x4
                    (fun (x27 : Rows) (x28 : Rows) => vf61_0 α x6
                      (fun (x29 : Rows) => vf60_0 α x25 x26 x27 x28 x29
                        (fun (x30 : Int) (x31 : Int) => vf57_0 α x1 x2 x3 x4
                          (fun (x32 : Int) => cK (x32 != 0)
                            (cK (x24 == x32)
                              (cK (x31 == x32)
                                (cK (x23 == 0)
                                  (k1 (x30 == 0))
                                  (k1 false))
                                (k1 false))
                              (k1 false))
                            (vf64_0 α x1 x2 x3 x4 x5
                              (fun (x33 : Int) (x34 : Int) => vf59_0 α x1 x2 x3 x4 x6
                                (fun (x35 : Int) (x36 : Int) => cK (x24 == x34)
                                  (cK (x23 == x33)
                                    (cK (x31 == x36)
                                      (cK (x30 == x35)
                                        (cK (x34 != 0)
                                          (k1 true)
                                          (cK (x36 != 0)
                                            (k1 true)
                                            (k1 (decide (x35 ≤ x33)))))
                                        (k1 false))
                                      (k1 false))
                                    (k1 false))
                                  (k1 false))))))))))))))))
noncomputable def f11_0 (α : Type) (x1 : Rows) (x2 : Rows) (x3 : Rows) (x4 : Rows) (x5 : Rows) (x6 : Rows) (k1 : Bool → Option α) : Option α := f11_0g J11_0_0 f14_0 f46_0 f56_0 f57_0 f59_0 f60_0 f61_0 f62_0 f64_0 α x1 x2 x3 x4 x5 x6 k1
def pa11_0 : PT (List DV) := pA [pV true [dL, dL], pV true [dL, dL], pV true [dL, dL]]
def Fn11_0 (v : Tf11_0) (α : Type) (k : List RV → Option α) : Rows → Rows → Rows → Rows → Rows → Rows → Option α := fun x1 x2 x3 x4 x5 x6 => v α x1 x2 x3 x4 x5 x6 (fun (y1 : Bool) => ur11_0_0 k y1)
noncomputable def cm11_0g (vJ11_0_0 : TJ11_0_0) : MCode := (.seq (.region r11_2 [] (some ⟨[3, 4, 5], true, [], []⟩)) (.seq (.seq (.region r11_5 [] (some ⟨[3, 4, 5, 17], true, [], []⟩)) (.cond (.tmp 17) (.seq (.region r11_8 [] (some ⟨[6], true, [], []⟩)) .ret) .skip)) (.seq (.seq (.mark [⟨p11_0_0, F11_0_0 vJ11_0_0⟩] c11_0_10) (.cond (.tmp 56) (.seq (.region r11_14 [] (some ⟨[6], true, [], []⟩)) .ret) .skip)) (.seq (.region r11_16 [(1, 2), (1, 5), (3, 5)] (some ⟨[3, 4, 5, 7, 8], true, [], []⟩)) (.seq (.region r11_18 [(1, 2), (1, 5), (3, 5)] (some ⟨[3, 4, 5, 7, 8, 9, 10], true, [], []⟩)) (.seq (.seq (.region r11_21 [] (some ⟨[3, 4, 5, 7, 8, 9, 10, 11], true, [], []⟩)) (.seq (.region r11_23 [] (some ⟨[3, 4, 5, 7, 8, 9, 10, 11, 83], true, [], []⟩)) (.cond (.tmp 83) (.seq (.region r11_26 [] (some ⟨[6], true, [], []⟩)) .ret) .skip))) (.seq (.region r11_28 [] (some ⟨[3, 4, 5, 7, 8, 9, 10, 12, 13], true, [], []⟩)) (.seq (.region r11_30 [] (some ⟨[7, 8, 9, 10, 12, 13, 14, 15], true, [], []⟩)) (.seq (.region r11_32 [] (some ⟨[6], true, [], []⟩)) .ret)))))))))
noncomputable def cm11_0 : MCode := cm11_0g J11_0_0
theorem gm11_0 : cm11_0.Good Try.prog E11_0 sh11 := ⟨trivial, ⟨⟨trivial, ⟨⟨trivial, trivial⟩, trivial⟩⟩, ⟨⟨⟨g11_0_10, m11_0_0, trivial⟩, ⟨⟨trivial, trivial⟩, trivial⟩⟩, ⟨trivial, ⟨trivial, ⟨⟨trivial, ⟨trivial, ⟨⟨trivial, trivial⟩, trivial⟩⟩⟩, ⟨trivial, ⟨trivial, ⟨trivial, trivial⟩⟩⟩⟩⟩⟩⟩⟩⟩
theorem fm11_0g (vf14_0 : Tf14_0) (vf44_0 : Tf44_0) (vf46_0 : Tf46_0) (vf56_0 : Tf56_0) (vf61_0 : Tf61_0) (vf62_0 : Tf62_0) (vf60_0 : Tf60_0) (vf57_0 : Tf57_0) (vf64_0 : Tf64_0) (vf59_0 : Tf59_0) (vJ11_0_0 : TJ11_0_0) (α : Type) (k : List RV → Option α) : Fn11_0 (f11_0g vJ11_0_0 vf14_0 vf46_0 vf56_0 vf57_0 vf59_0 vf60_0 vf61_0 vf62_0 vf64_0) α k = pa11_0.unc fun ds => fnM Try.prog (E11_0g vf14_0 vf44_0 vf46_0 vf56_0 vf61_0 vf62_0 vf60_0 vf57_0 vf64_0 vf59_0) sh11 (cm11_0g vJ11_0_0) rs11 k ds := by kernel_rfl
theorem fm11_0 : ∀ (α : Type) (k : List RV → Option α), Fn11_0 f11_0 α k = pa11_0.unc fun ds => fnM Try.prog E11_0 sh11 cm11_0 rs11 k ds := fm11_0g f14_0 f44_0 f46_0 f56_0 f61_0 f62_0 f60_0 f57_0 f64_0 f59_0 J11_0_0

theorem is11 : FnIs Try.prog 11 nt11 tr11 tl11 cm11_0.erase rs11 := ⟨Try.f11, Try.func11, rfl, by kernel_rfl, by kernel_rfl, by kernel_rfl⟩
theorem io11_0 : InstOk Try.prog 11 nt11 ⟨pa11_0, Fn11_0 f11_0⟩ := inst_ok eo11_0 followsTry is11 ⟨⟨sh11, cm11_0, by kernel_rfl, gm11_0, fm11_0⟩⟩


end Go.AM.K
