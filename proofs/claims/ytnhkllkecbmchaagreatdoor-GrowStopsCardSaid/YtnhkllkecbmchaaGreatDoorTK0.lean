/- Printed by KGen. -/
import Derived.Test.YtnhkllkecbmchaaGreatDoorTLB
import Derived.Test.YtnhkllkecbmchaaGreatDoorKMa
namespace Go.AM.K
open Go.Proofs
set_option maxRecDepth 100000
set_option linter.unusedVariables false
theorem followsTry : Tryz.prog.follows .mixedOrders = true := by kernel_rfl
abbrev nt164 : Nat := 7
def sh164 : List (Nat × List Sh) := []
def r164_2 : List AOper := [⟨(some 2), (.mv (.const (.int .i64 0))), none⟩]
def r164_4 : List AOper := [⟨(some 3), (.mv (.tmp 0)), none⟩, ⟨(some 4), (.mv (.tmp 0)), none⟩, ⟨(some 5), (.pure (oB (.unOp .neg 3 (.tmp 4)) 3)), none⟩, ⟨(some 6), (.pure (oB (.call { callee := .builtin .max, args := #[(.tmp 3), (.tmp 5)], argTypes := #[3, 3] }) 3)), none⟩, ⟨(some 2), (.mv (.tmp 6)), none⟩]
def tr164 : List (Nat × Tidy) := [(0, ⟨[0], true, [], []⟩), (1, ⟨[2], true, [], []⟩)]
def tl164 : List (Nat × Tidy) := []
def rs164 : List AResV := [.tmp 2]
def pr164_0_0 : PT (List RV) := pRs [pR false [rD (dI .i64)]]
def ur164_0_0 {β : Type} (g : List RV → β) : Int → β := pr164_0_0.unc g
def E164_0g  : EnvK := EnvK.of [] noSeq
noncomputable def E164_0 : EnvK := E164_0g 
theorem eo164_0 : E164_0.Ok Tryz.prog := EnvK.of_ok noSeq_ok trivial
abbrev Tf164_0 : Type 1 := (α : Type) → Int → (Int → Option α) → Option α
def f164_0g  (α : Type) (x1 : Int) (k1 : Int → Option α) : Option α :=
  k1 (if (w64 (0 - x1)) > x1 then (w64 (0 - x1)) else x1)
noncomputable def f164_0 (α : Type) (x1 : Int) (k1 : Int → Option α) : Option α := f164_0g  α x1 k1
def pa164_0 : PT (List DV) := pA [pV false [(dI .i64)]]
def Fn164_0 (v : Tf164_0) (α : Type) (k : List RV → Option α) : Int → Option α := fun x1 => v α x1 (fun (y1 : Int) => ur164_0_0 k y1)
noncomputable def cm164_0g  : MCode := (.seq (.region r164_2 [] (some ⟨[0], true, [], []⟩)) (.seq (.region r164_4 [] (some ⟨[2], true, [], []⟩)) .ret))
noncomputable def cm164_0 : MCode := cm164_0g 
theorem gm164_0 : cm164_0.Good Tryz.prog E164_0 sh164 := ⟨trivial, ⟨trivial, trivial⟩⟩
theorem fm164_0g   (α : Type) (k : List RV → Option α) : Fn164_0 (f164_0g ) α k = pa164_0.unc fun ds => fnM Tryz.prog (E164_0g ) sh164 (cm164_0g ) rs164 k ds := by kernel_rfl
theorem fm164_0 : ∀ (α : Type) (k : List RV → Option α), Fn164_0 f164_0 α k = pa164_0.unc fun ds => fnM Tryz.prog E164_0 sh164 cm164_0 rs164 k ds := fm164_0g 
theorem is164 : FnIs Tryz.prog 164 nt164 tr164 tl164 cm164_0.erase rs164 := ⟨Tryz.f164, Tryz.func164, rfl, by kernel_rfl, by kernel_rfl, by kernel_rfl⟩
theorem io164_0 : InstOk Tryz.prog 164 nt164 ⟨pa164_0, Fn164_0 f164_0⟩ := inst_ok eo164_0 followsTry is164 ⟨⟨sh164, cm164_0, by kernel_rfl, gm164_0, fm164_0⟩⟩
abbrev nt44 : Nat := 15
def sh44 : List (Nat × List Sh) := []
def r44_2 : List AOper := [⟨(some 6), (.mv (.const (.bool false))), none⟩]
def r44_4 : List AOper := [⟨(some 7), (.mv (.tmp 1)), none⟩, ⟨(some 8), (.mv (.tmp 0)), none⟩, ⟨(some 9), (.bin .leq 3 (.tmp 7) (.tmp 8)), none⟩, ⟨(some 10), (.mv (.tmp 9)), none⟩, ⟨(some 11), (.mv (.tmp 0)), (some (10, true))⟩, ⟨(some 12), (.mv (.tmp 2)), (some (10, true))⟩, ⟨(some 13), (.bin .leq 3 (.tmp 11) (.tmp 12)), (some (10, true))⟩, ⟨(some 14), (.pick (.tmp 10) (.tmp 13) (.const (.bool false))), none⟩, ⟨(some 6), (.mv (.tmp 14)), none⟩]
def tr44 : List (Nat × Tidy) := [(0, ⟨[0, 1, 2], true, [], []⟩), (1, ⟨[6], true, [], []⟩)]
def tl44 : List (Nat × Tidy) := []
def rs44 : List AResV := [.tmp 6]
def pr44_0_0 : PT (List RV) := pRs [pR false [rD dB]]
def ur44_0_0 {β : Type} (g : List RV → β) : Bool → β := pr44_0_0.unc g
def E44_0g  : EnvK := EnvK.of [] noSeq
noncomputable def E44_0 : EnvK := E44_0g 
theorem eo44_0 : E44_0.Ok Tryz.prog := EnvK.of_ok noSeq_ok trivial
abbrev Tf44_0 : Type 1 := (α : Type) → Int → Int → Int → (Bool → Option α) → Option α
def f44_0g  (α : Type) (x1 : Int) (x2 : Int) (x3 : Int) (k1 : Bool → Option α) : Option α :=
  cK (decide (x2 ≤ x1))
    (k1 (decide (x1 ≤ x3)))
    (k1 false)
noncomputable def f44_0 (α : Type) (x1 : Int) (x2 : Int) (x3 : Int) (k1 : Bool → Option α) : Option α := f44_0g  α x1 x2 x3 k1
def pa44_0 : PT (List DV) := pA [pV false [(dI .i64)], pV false [(dI .i64)], pV false [(dI .i64)]]
def Fn44_0 (v : Tf44_0) (α : Type) (k : List RV → Option α) : Int → Int → Int → Option α := fun x1 x2 x3 => v α x1 x2 x3 (fun (y1 : Bool) => ur44_0_0 k y1)
noncomputable def cm44_0g  : MCode := (.seq (.region r44_2 [] (some ⟨[0, 1, 2], true, [], []⟩)) (.seq (.region r44_4 [] (some ⟨[6], true, [], []⟩)) .ret))
noncomputable def cm44_0 : MCode := cm44_0g 
theorem gm44_0 : cm44_0.Good Tryz.prog E44_0 sh44 := ⟨trivial, ⟨trivial, trivial⟩⟩
theorem fm44_0g   (α : Type) (k : List RV → Option α) : Fn44_0 (f44_0g ) α k = pa44_0.unc fun ds => fnM Tryz.prog (E44_0g ) sh44 (cm44_0g ) rs44 k ds := by kernel_rfl
theorem fm44_0 : ∀ (α : Type) (k : List RV → Option α), Fn44_0 f44_0 α k = pa44_0.unc fun ds => fnM Tryz.prog E44_0 sh44 cm44_0 rs44 k ds := fm44_0g 
theorem is44 : FnIs Tryz.prog 44 nt44 tr44 tl44 cm44_0.erase rs44 := ⟨Tryz.f44, Tryz.func44, rfl, by kernel_rfl, by kernel_rfl, by kernel_rfl⟩
theorem io44_0 : InstOk Tryz.prog 44 nt44 ⟨pa44_0, Fn44_0 f44_0⟩ := inst_ok eo44_0 followsTry is44 ⟨⟨sh44, cm44_0, by kernel_rfl, gm44_0, fm44_0⟩⟩
abbrev nt68 : Nat := 70
def sh68 : List (Nat × List Sh) := []
def r68_2 : List AOper := [⟨(some 4), (.mv (.const (.int .i64 0))), none⟩, ⟨(some 5), (.mv (.const (.bool false))), none⟩]
def r68_4 : List AOper := [⟨(some 6), (.mv (.const (.int .i64 0))), none⟩]
def r68_7 : List AOper := [⟨(some 9), (.mv (.tmp 0)), none⟩, ⟨(some 10), (.pure (oB (.call { callee := .builtin .len, args := #[(.tmp 9)], argTypes := #[9] }) 3)), none⟩, ⟨(some 11), (.bin .gtr 3 (.tmp 10) (.const (.int .i64 0))), none⟩, ⟨(some 12), (.mv (.tmp 11)), none⟩, ⟨(some 13), (.mv (.tmp 0)), (some (12, true))⟩, ⟨(some 14), (.pure (oB (.index 9 (.tmp 13) (.const (.int .i64 0))) 5)), (some (12, true))⟩, ⟨(some 15), (.bin .eql 5 (.tmp 14) (.const (.int .u8 45))), (some (12, true))⟩, ⟨(some 16), (.pick (.tmp 12) (.tmp 15) (.const (.bool false))), none⟩]
def r68_9 : List AOper := [⟨(some 6), (.mv (.const (.int .i64 1))), none⟩]
def r68_12 : List AOper := [⟨(some 17), (.mv (.tmp 0)), none⟩, ⟨(some 18), (.pure (oB (.call { callee := .builtin .len, args := #[(.tmp 17)], argTypes := #[9] }) 3)), none⟩, ⟨(some 19), (.mv (.tmp 6)), none⟩, ⟨(some 20), (.bin .eql 3 (.tmp 18) (.tmp 19)), none⟩, ⟨(some 21), (.mv (.tmp 20)), none⟩, ⟨(some 22), (.mv (.tmp 0)), (some (21, false))⟩, ⟨(some 23), (.pure (oB (.call { callee := .builtin .len, args := #[(.tmp 22)], argTypes := #[9] }) 3)), (some (21, false))⟩, ⟨(some 24), (.mv (.tmp 6)), (some (21, false))⟩, ⟨(some 25), (.bin .sub 3 (.tmp 23) (.tmp 24)), (some (21, false))⟩, ⟨(some 26), (.mv (.tmp 1)), (some (21, false))⟩, ⟨(some 27), (.bin .gtr 3 (.tmp 25) (.tmp 26)), (some (21, false))⟩, ⟨(some 28), (.pick (.tmp 21) (.const (.bool true)) (.tmp 27)), none⟩, ⟨(some 29), (.mv (.tmp 28)), none⟩, ⟨(some 30), (.mv (.tmp 0)), (some (29, false))⟩, ⟨(some 31), (.mv (.tmp 6)), (some (29, false))⟩, ⟨(some 32), (.pure (oB (.index 9 (.tmp 30) (.tmp 31)) 5)), (some (29, false))⟩, ⟨(some 33), (.bin .eql 5 (.tmp 32) (.const (.int .u8 48))), (some (29, false))⟩, ⟨(some 34), (.mv (.tmp 33)), (some (29, false))⟩, ⟨(some 35), (.mv (.tmp 0)), (some (34, true))⟩, ⟨(some 36), (.pure (oB (.call { callee := .builtin .len, args := #[(.tmp 35)], argTypes := #[9] }) 3)), (some (34, true))⟩, ⟨(some 37), (.bin .gtr 3 (.tmp 36) (.const (.int .i64 1))), (some (34, true))⟩, ⟨(some 38), (.pick (.tmp 34) (.tmp 37) (.const (.bool false))), (some (29, false))⟩, ⟨(some 39), (.pick (.tmp 29) (.const (.bool true)) (.tmp 38)), none⟩]
def r68_15 : List AOper := [⟨(some 4), (.mv (.const (.int .i64 0))), none⟩, ⟨(some 5), (.mv (.const (.bool false))), none⟩]
def r68_17 : List AOper := [⟨(some 7), (.mv (.const (.int .i64 0))), none⟩]
def r68_20 : List AOper := [⟨(some 40), (.mv (.tmp 6)), none⟩, ⟨(some 8), (.mv (.tmp 40)), none⟩]
def td68_22 : Option Tidy := (some ⟨[0, 6, 7, 8], true, [], []⟩)
def r68_25 : List AOper := [⟨(some 41), (.mv (.tmp 8)), none⟩, ⟨(some 42), (.mv (.tmp 0)), none⟩, ⟨(some 43), (.pure (oB (.call { callee := .builtin .len, args := #[(.tmp 42)], argTypes := #[9] }) 3)), none⟩, ⟨(some 44), (.bin .lss 3 (.tmp 41) (.tmp 43)), none⟩]
def r68_31 : List AOper := [⟨(some 47), (.mv (.tmp 0)), none⟩, ⟨(some 48), (.mv (.tmp 8)), none⟩, ⟨(some 49), (.pure (oB (.index 9 (.tmp 47) (.tmp 48)) 5)), none⟩, ⟨(some 50), (.bin .lss 5 (.tmp 49) (.const (.int .u8 48))), none⟩, ⟨(some 51), (.mv (.tmp 50)), none⟩, ⟨(some 52), (.mv (.tmp 0)), (some (51, false))⟩, ⟨(some 53), (.mv (.tmp 8)), (some (51, false))⟩, ⟨(some 54), (.pure (oB (.index 9 (.tmp 52) (.tmp 53)) 5)), (some (51, false))⟩, ⟨(some 55), (.bin .gtr 5 (.tmp 54) (.const (.int .u8 57))), (some (51, false))⟩, ⟨(some 56), (.pick (.tmp 51) (.const (.bool true)) (.tmp 55)), none⟩]
def r68_34 : List AOper := [⟨(some 4), (.mv (.const (.int .i64 0))), none⟩, ⟨(some 5), (.mv (.const (.bool false))), none⟩]
def r68_35 : List AOper := [⟨(some 57), (.mv (.tmp 7)), none⟩, ⟨(some 58), (.bin .mul 3 (.const (.int .i64 10)) (.tmp 57)), none⟩, ⟨(some 59), (.mv (.tmp 0)), none⟩, ⟨(some 60), (.mv (.tmp 8)), none⟩, ⟨(some 61), (.pure (oB (.index 9 (.tmp 59) (.tmp 60)) 5)), none⟩, ⟨(some 62), (.bin .sub 5 (.tmp 61) (.const (.int .u8 48))), none⟩, ⟨(some 63), (.pure (oB (.convert 5 3 (.tmp 62)) 3)), none⟩, ⟨(some 64), (.bin .add 3 (.tmp 58) (.tmp 63)), none⟩, ⟨(some 7), (.mv (.tmp 64)), none⟩]
def r68_36 : List AOper := [⟨(some 45), (.mv (.tmp 8)), none⟩, ⟨(some 46), (.bin .add 3 (.tmp 45) (.const (.int .i64 1))), none⟩, ⟨(some 8), (.mv (.tmp 46)), none⟩]
def r68_39 : List AOper := [⟨(some 65), (.mv (.tmp 6)), none⟩, ⟨(some 66), (.bin .eql 3 (.tmp 65) (.const (.int .i64 1))), none⟩]
def r68_41 : List AOper := [⟨(some 67), (.mv (.tmp 7)), none⟩, ⟨(some 68), (.pure (oB (.unOp .neg 3 (.tmp 67)) 3)), none⟩, ⟨(some 7), (.mv (.tmp 68)), none⟩]
def r68_43 : List AOper := [⟨(some 69), (.mv (.tmp 7)), none⟩, ⟨(some 4), (.mv (.tmp 69)), none⟩, ⟨(some 5), (.mv (.const (.bool true))), none⟩]
def tr68 : List (Nat × Tidy) := [(0, ⟨[0, 1], true, [], []⟩), (1, ⟨[0, 1, 6], true, [], []⟩), (2, ⟨[0, 1, 6, 16], true, [], []⟩), (3, ⟨[0, 1, 6], true, [], []⟩), (4, ⟨[0, 6, 39], true, [], []⟩), (5, ⟨[4, 5], true, [], []⟩), (6, ⟨[0, 6, 7], true, [], []⟩), (7, ⟨[0, 6, 7, 8], true, [], []⟩), (8, ⟨[0, 6, 7, 8, 44], true, [], []⟩), (10, ⟨[0, 6, 7, 8, 56], true, [], []⟩), (11, ⟨[4, 5], true, [], []⟩), (12, ⟨[0, 6, 7, 8], true, [], []⟩), (9, ⟨[0, 6, 7, 8], true, [], []⟩), (13, ⟨[7, 66], true, [], []⟩), (14, ⟨[7], true, [], []⟩), (15, ⟨[4, 5], true, [], []⟩)]
def tl68 : List (Nat × Tidy) := [(8, ⟨[0, 6, 7, 8], true, [], []⟩)]
def rs68 : List AResV := [.tmp 4, .tmp 5]
def p68_0_0 : PT St := pS [sl 0 (aV false [(cD dS)]), sl 1 (aV false [(cD (dI .i64))]), sl 6 (aV false [(cD (dI .i64))])] []
def u68_0_0 {β : Type} (g : St → β) : ByteArray → Int → Int → β := p68_0_0.unc g
def p68_0_1 : PT St := pS [sl 0 (aV false [(cD dS)]), sl 1 (aV false [(cD (dI .i64))]), sl 6 (aV false [(cD (dI .i64))]), sl 16 (aV false [(cD dB)])] []
def u68_0_1 {β : Type} (g : St → β) : ByteArray → Int → Int → Bool → β := p68_0_1.unc g
def p68_0_2 : PT St := pS [sl 4 (aV false [(cD (dI .i64))]), sl 5 (aV false [(cD dB)])] []
def u68_0_2 {β : Type} (g : St → β) : Int → Bool → β := p68_0_2.unc g
def p68_0_3 : PT St := pS [sl 0 (aV false [(cD dS)]), sl 6 (aV false [(cD (dI .i64))]), sl 39 (aV false [(cD dB)])] []
def u68_0_3 {β : Type} (g : St → β) : ByteArray → Int → Bool → β := p68_0_3.unc g
def p68_0_4 : PT St := pS [sl 0 (aV false [(cD dS)]), sl 6 (aV false [(cD (dI .i64))]), sl 7 (aV false [(cD (dI .i64))]), sl 8 (aV false [(cD (dI .i64))])] []
def u68_0_4 {β : Type} (g : St → β) : ByteArray → Int → Int → Int → β := p68_0_4.unc g
def p68_0_5 : PT St := pS [sl 0 (aV false [(cD dS)]), sl 6 (aV false [(cD (dI .i64))]), sl 7 (aV false [(cD (dI .i64))]), sl 8 (aV false [(cD (dI .i64))]), sl 44 (aV false [(cD dB)])] []
def u68_0_5 {β : Type} (g : St → β) : ByteArray → Int → Int → Int → Bool → β := p68_0_5.unc g
def pr68_0_0 : PT (List RV) := pRs [pR false [rD (dI .i64)], pR false [rD dB]]
def ur68_0_0 {β : Type} (g : List RV → β) : Int → Bool → β := pr68_0_0.unc g
def E68_0g  : EnvK := EnvK.of [] noSeq
noncomputable def E68_0 : EnvK := E68_0g 
theorem eo68_0 : E68_0.Ok Tryz.prog := EnvK.of_ok noSeq_ok trivial
noncomputable def c68_0_22g  : MCode := (.seq (.seq (.region r68_25 [] (some ⟨[0, 6, 7, 8, 44], true, [], []⟩)) (.cond (.tmp 44) .skip (.exit 0))) (.seq (.block 1 (.seq (.seq (.region r68_31 [] (some ⟨[0, 6, 7, 8, 56], true, [], []⟩)) (.cond (.tmp 56) (.seq (.region r68_34 [] (some ⟨[4, 5], true, [], []⟩)) .ret) .skip)) (.region r68_35 [] (some ⟨[0, 6, 7, 8], true, [], []⟩)))) (.region r68_36 [] (some ⟨[0, 6, 7, 8], true, [], []⟩))))
noncomputable def c68_0_22 : MCode := c68_0_22g 
theorem g68_0_22 : c68_0_22.Good Tryz.prog E68_0 sh68 := ⟨⟨trivial, ⟨trivial, trivial⟩⟩, ⟨⟨⟨trivial, ⟨⟨trivial, trivial⟩, trivial⟩⟩, trivial⟩, trivial⟩⟩
--CODE 22 0
def S68_0_2g  (α : Type) (x17 : ByteArray) (x19 : Int) (x20 : Int) (kn : Int → Int → Option α) (k1 : Option α) (k2 : Int → Int → Bool → Option α) : Option α :=
  cK (decide (x20 < ((ByteArray.size x17 : Nat) : Int)))
    (sixK x17 x20
      (fun (x22 : UInt8) => cK (decide (((UInt8.toNat x22 : Nat) : Int) < 48))
        (k1)
        (sixK x17 x20
          (fun (x23 : UInt8) => cK (decide (57 < ((UInt8.toNat x23 : Nat) : Int)))
            (k1)
            (sixK x17 x20
              (fun (x24 : UInt8) => kn (w64 ((w64 (10 * x19)) + (w64 ((IntKind.wrap .u8 (((UInt8.toNat x24 : Nat) : Int) - 48)))))) (w64 (x20 + 1))))))))
    (k2 x19 x20 (decide (x20 < ((ByteArray.size x17 : Nat) : Int))))
noncomputable def S68_0_2 (α : Type) (x17 : ByteArray) (x19 : Int) (x20 : Int) (kn : Int → Int → Option α) (k1 : Option α) (k2 : Int → Int → Bool → Option α) : Option α := S68_0_2g  α x17 x19 x20 kn k1 k2
noncomputable def R68_0_2 (α : Type) (x17 : ByteArray) (k1 : Option α) (k2 : Int → Int → Bool → Option α) : Nat → Int → Int → Option α
  | 0, _, _ => none
  | n + 1, x19, x20 => S68_0_2 α x17 x19 x20 (R68_0_2 α x17 k1 k2 n) k1 k2
noncomputable def L68_0_2 (α : Type) (x17 : ByteArray) (k1 : Option α) (k2 : Int → Int → Bool → Option α) (x19 : Int) (x20 : Int) : Option α := R68_0_2 α x17 k1 k2 fuel x19 x20
abbrev TL68_0_2 : Type 1 := (α : Type) → ByteArray → (Option α) → (Int → Int → Bool → Option α) → Int → Int → Option α
def F68_0_2 (v : TL68_0_2) (α : Type) (K : Exit → St → Option α) : ByteArray → Int → Int → Int → Option α := fun x17 x18 x19 x20 => v α x17 (u68_0_2 (K .ret) 0 false) (fun (y1 : Int) (y2 : Int) (y3 : Bool) => u68_0_5 (K (.exit 0)) x17 x18 y1 y2 y3) x19 x20
theorem r68_0_2g   (α : Type) (K : Exit → St → Option α) (Kn : St → Option α) (x17 : ByteArray) (x18 : Int) (x19 : Int) (x20 : Int) : u68_0_4 (fun σ => runM Tryz.prog (E68_0g ) sh68 (c68_0_22g ) (thenK (fun σ => tidyK td68_22 σ Kn) K) σ) x17 x18 x19 x20 = S68_0_2g  α x17 x19 x20 (fun x19 x20 => u68_0_4 Kn x17 x18 x19 x20) (u68_0_2 (K .ret) 0 false) (fun (y1 : Int) (y2 : Int) (y3 : Bool) => u68_0_5 (K (.exit 0)) x17 x18 y1 y2 y3) := by kernel_rfl
theorem r68_0_2 (α : Type) (K : Exit → St → Option α) (Kn : St → Option α) (x17 : ByteArray) (x18 : Int) (x19 : Int) (x20 : Int) : u68_0_4 (fun σ => runM Tryz.prog E68_0 sh68 c68_0_22 (thenK (fun σ => tidyK td68_22 σ Kn) K) σ) x17 x18 x19 x20 = S68_0_2 α x17 x19 x20 (fun x19 x20 => u68_0_4 Kn x17 x18 x19 x20) (u68_0_2 (K .ret) 0 false) (fun (y1 : Int) (y2 : Int) (y3 : Bool) => u68_0_5 (K (.exit 0)) x17 x18 y1 y2 y3) := r68_0_2g  α K Kn x17 x18 x19 x20
theorem t68_0_2 (α : Type) (K : Exit → St → Option α) : ∀ (n : Nat) (x17 : ByteArray) (x18 : Int) (x19 : Int) (x20 : Int), R68_0_2 α x17 (u68_0_2 (K .ret) 0 false) (fun (y1 : Int) (y2 : Int) (y3 : Bool) => u68_0_5 (K (.exit 0)) x17 x18 y1 y2 y3) n x19 x20 = u68_0_4 (loopT (runM Tryz.prog E68_0 sh68 c68_0_22) td68_22 K n) x17 x18 x19 x20 := by
  intro n
  induction n with
  | zero => intros; rfl
  | succ n ih => intro x17 x18 x19 x20; exact (congrArg (fun kn => S68_0_2 α x17 x19 x20 kn (u68_0_2 (K .ret) 0 false) (fun (y1 : Int) (y2 : Int) (y3 : Bool) => u68_0_5 (K (.exit 0)) x17 x18 y1 y2 y3)) (funext fun x19 => funext fun x20 => ih x17 x18 x19 x20)).trans (r68_0_2 α K (loopT (runM Tryz.prog E68_0 sh68 c68_0_22) td68_22 K n) x17 x18 x19 x20).symm
theorem m68_0_2 : ∀ (α : Type) (K : Exit → St → Option α), F68_0_2 L68_0_2 α K = p68_0_4.unc fun σ => loopT (runM Tryz.prog E68_0 sh68 c68_0_22) td68_22 K fuel σ := fun α K => funext fun x17 => funext fun x18 => funext fun x19 => funext fun x20 => t68_0_2 α K fuel x17 x18 x19 x20
noncomputable def c68_0_10g  : MCode := (.seq (.region r68_12 [] (some ⟨[0, 6, 39], true, [], []⟩)) (.cond (.tmp 39) (.seq (.region r68_15 [] (some ⟨[4, 5], true, [], []⟩)) .ret) .skip))
noncomputable def c68_0_10 : MCode := c68_0_10g 
theorem g68_0_10 : c68_0_10.Good Tryz.prog E68_0 sh68 := ⟨trivial, ⟨⟨trivial, trivial⟩, trivial⟩⟩
--CODE 10 0
abbrev TJ68_0_1 : Type 1 := (α : Type) → ByteArray → Int → Int → (Option α) → (Bool → Option α) → Option α
def J68_0_1g  (α : Type) (x10 : ByteArray) (x11 : Int) (x12 : Int) (k1 : Option α) (k2 : Bool → Option α) : Option α :=
  cK (((ByteArray.size x10 : Nat) : Int) == x12)
    (k1)
    (cK (decide (x11 < (w64 (((ByteArray.size x10 : Nat) : Int) - x12))))
      (k1)
      (sixK x10 x12
        (fun (x14 : UInt8) => cK (((UInt8.toNat x14 : Nat) : Int) == 48)
          (cK (decide (1 < ((ByteArray.size x10 : Nat) : Int)))
            (k1)
            (k2 (decide (1 < ((ByteArray.size x10 : Nat) : Int)))))
          (k2 false))))
noncomputable def J68_0_1 (α : Type) (x10 : ByteArray) (x11 : Int) (x12 : Int) (k1 : Option α) (k2 : Bool → Option α) : Option α := J68_0_1g  α x10 x11 x12 k1 k2
def F68_0_1 (v : TJ68_0_1) (α : Type) (K : Exit → St → Option α) : ByteArray → Int → Int → Option α := fun x10 x11 x12 => v α x10 x11 x12 (u68_0_2 (K .ret) 0 false) (fun (y1 : Bool) => u68_0_3 (K .normal) x10 x12 y1) 
theorem m68_0_1g   (α : Type) (K : Exit → St → Option α) : F68_0_1 (J68_0_1g ) α K = p68_0_0.unc fun σ => runM Tryz.prog (E68_0g ) sh68 (c68_0_10g ) K σ := by kernel_rfl
theorem m68_0_1 : ∀ (α : Type) (K : Exit → St → Option α), F68_0_1 J68_0_1 α K = p68_0_0.unc fun σ => runM Tryz.prog E68_0 sh68 c68_0_10 K σ := m68_0_1g 
--CODE 10 0
abbrev TJ68_0_3 : Type 1 := (α : Type) → ByteArray → Int → Int → (Option α) → (Bool → Option α) → Option α
def J68_0_3g  (α : Type) (x29 : ByteArray) (x30 : Int) (x31 : Int) (k1 : Option α) (k2 : Bool → Option α) : Option α :=
  cK (((ByteArray.size x29 : Nat) : Int) == x31)
    (k1)
    (cK (decide (x30 < (w64 (((ByteArray.size x29 : Nat) : Int) - x31))))
      (k1)
      (sixK x29 x31
        (fun (x34 : UInt8) => cK (((UInt8.toNat x34 : Nat) : Int) == 48)
          (cK (decide (1 < ((ByteArray.size x29 : Nat) : Int)))
            (k1)
            (k2 (decide (1 < ((ByteArray.size x29 : Nat) : Int)))))
          (k2 false))))
noncomputable def J68_0_3 (α : Type) (x29 : ByteArray) (x30 : Int) (x31 : Int) (k1 : Option α) (k2 : Bool → Option α) : Option α := J68_0_3g  α x29 x30 x31 k1 k2
def F68_0_3 (v : TJ68_0_3) (α : Type) (K : Exit → St → Option α) : ByteArray → Int → Int → Bool → Option α := fun x29 x30 x31 x32 => v α x29 x30 x31 (u68_0_2 (K .ret) 0 false) (fun (y1 : Bool) => u68_0_3 (K .normal) x29 x31 y1) 
theorem m68_0_3g   (α : Type) (K : Exit → St → Option α) : F68_0_3 (J68_0_3g ) α K = p68_0_1.unc fun σ => runM Tryz.prog (E68_0g ) sh68 (c68_0_10g ) K σ := by kernel_rfl
theorem m68_0_3 : ∀ (α : Type) (K : Exit → St → Option α), F68_0_3 J68_0_3 α K = p68_0_1.unc fun σ => runM Tryz.prog E68_0 sh68 c68_0_10 K σ := m68_0_3g 
noncomputable def c68_0_5g  : MCode := (.seq (.region r68_7 [] (some ⟨[0, 1, 6, 16], true, [], []⟩)) (.cond (.tmp 16) (.region r68_9 [] (some ⟨[0, 1, 6], true, [], []⟩)) .skip))
noncomputable def c68_0_5 : MCode := c68_0_5g 
theorem g68_0_5 : c68_0_5.Good Tryz.prog E68_0 sh68 := ⟨trivial, ⟨trivial, trivial⟩⟩
--CODE 5 0
abbrev TJ68_0_0 : Type 1 := (α : Type) → ByteArray → (Option α) → (Bool → Option α) → Option α
def J68_0_0g  (α : Type) (x3 : ByteArray) (k1 : Option α) (k2 : Bool → Option α) : Option α :=
  cK (decide (0 < ((ByteArray.size x3 : Nat) : Int)))
    (sixK x3 0
      (fun (x7 : UInt8) => cK (((UInt8.toNat x7 : Nat) : Int) == 45)
        (k1)
        (k2 (((UInt8.toNat x7 : Nat) : Int) == 45))))
    (k2 false)
noncomputable def J68_0_0 (α : Type) (x3 : ByteArray) (k1 : Option α) (k2 : Bool → Option α) : Option α := J68_0_0g  α x3 k1 k2
def F68_0_0 (v : TJ68_0_0) (α : Type) (K : Exit → St → Option α) : ByteArray → Int → Int → Option α := fun x3 x4 x5 => v α x3 (u68_0_0 (K .normal) x3 x4 1) (fun (y1 : Bool) => u68_0_1 (K .normal) x3 x4 x5 y1) 
theorem m68_0_0g   (α : Type) (K : Exit → St → Option α) : F68_0_0 (J68_0_0g ) α K = p68_0_0.unc fun σ => runM Tryz.prog (E68_0g ) sh68 (c68_0_5g ) K σ := by kernel_rfl
theorem m68_0_0 : ∀ (α : Type) (K : Exit → St → Option α), F68_0_0 J68_0_0 α K = p68_0_0.unc fun σ => runM Tryz.prog E68_0 sh68 c68_0_5 K σ := m68_0_0g 
abbrev Tf68_0 : Type 1 := (α : Type) → ByteArray → Int → (Int → Bool → Option α) → Option α
def f68_0g (vJ68_0_0 : TJ68_0_0) (vJ68_0_1 : TJ68_0_1) (vJ68_0_3 : TJ68_0_3) (vL68_0_2 : TL68_0_2) (α : Type) (x1 : ByteArray) (x2 : Int) (k1 : Int → Bool → Option α) : Option α :=
  vJ68_0_0 α x1
    (vJ68_0_1 α x1 x2 1
      (k1 0 false)
      (fun (x15 : Bool) => vL68_0_2 α x1
        (k1 0 false)
        (fun (x25 : Int) (x26 : Int) (x27 : Bool) => k1 (w64 (0 - x25)) true) 0 1))
    (fun (x8 : Bool) => vJ68_0_3 α x1 x2 0
      (k1 0 false)
      (fun (x35 : Bool) => vL68_0_2 α x1
        (k1 0 false)
        (fun (x37 : Int) (x38 : Int) (x39 : Bool) => k1 x37 true) 0 0))
noncomputable def f68_0 (α : Type) (x1 : ByteArray) (x2 : Int) (k1 : Int → Bool → Option α) : Option α := f68_0g J68_0_0 J68_0_1 J68_0_3 L68_0_2 α x1 x2 k1
def pa68_0 : PT (List DV) := pA [pV false [dS], pV false [(dI .i64)]]
def Fn68_0 (v : Tf68_0) (α : Type) (k : List RV → Option α) : ByteArray → Int → Option α := fun x1 x2 => v α x1 x2 (fun (y1 : Int) (y2 : Bool) => ur68_0_0 k y1 y2)
noncomputable def cm68_0g (vJ68_0_0 : TJ68_0_0) (vJ68_0_1 : TJ68_0_1) (vJ68_0_3 : TJ68_0_3) (vL68_0_2 : TL68_0_2) : MCode := (.seq (.region r68_2 [] (some ⟨[0, 1], true, [], []⟩)) (.seq (.region r68_4 [] (some ⟨[0, 1, 6], true, [], []⟩)) (.seq (.mark [⟨p68_0_0, F68_0_0 vJ68_0_0⟩] c68_0_5) (.seq (.mark [⟨p68_0_0, F68_0_1 vJ68_0_1⟩, ⟨p68_0_1, F68_0_3 vJ68_0_3⟩] c68_0_10) (.seq (.region r68_17 [] (some ⟨[0, 6, 7], true, [], []⟩)) (.seq (.seq (.region r68_20 [] (some ⟨[0, 6, 7, 8], true, [], []⟩)) (.block 0 (.loop td68_22 [⟨p68_0_4, F68_0_2 vL68_0_2⟩] c68_0_22))) (.seq (.seq (.region r68_39 [] (some ⟨[7, 66], true, [], []⟩)) (.cond (.tmp 66) (.region r68_41 [] (some ⟨[7], true, [], []⟩)) .skip)) (.seq (.region r68_43 [] (some ⟨[4, 5], true, [], []⟩)) .ret))))))))
noncomputable def cm68_0 : MCode := cm68_0g J68_0_0 J68_0_1 J68_0_3 L68_0_2
theorem gm68_0 : cm68_0.Good Tryz.prog E68_0 sh68 := ⟨trivial, ⟨trivial, ⟨⟨g68_0_5, m68_0_0, trivial⟩, ⟨⟨g68_0_10, m68_0_1, m68_0_3, trivial⟩, ⟨trivial, ⟨⟨trivial, ⟨g68_0_22, m68_0_2, trivial⟩⟩, ⟨⟨trivial, ⟨trivial, trivial⟩⟩, ⟨trivial, trivial⟩⟩⟩⟩⟩⟩⟩⟩
theorem fm68_0g  (vJ68_0_0 : TJ68_0_0) (vJ68_0_1 : TJ68_0_1) (vJ68_0_3 : TJ68_0_3) (vL68_0_2 : TL68_0_2) (α : Type) (k : List RV → Option α) : Fn68_0 (f68_0g vJ68_0_0 vJ68_0_1 vJ68_0_3 vL68_0_2) α k = pa68_0.unc fun ds => fnM Tryz.prog (E68_0g ) sh68 (cm68_0g vJ68_0_0 vJ68_0_1 vJ68_0_3 vL68_0_2) rs68 k ds := by kernel_rfl
theorem fm68_0 : ∀ (α : Type) (k : List RV → Option α), Fn68_0 f68_0 α k = pa68_0.unc fun ds => fnM Tryz.prog E68_0 sh68 cm68_0 rs68 k ds := fm68_0g J68_0_0 J68_0_1 J68_0_3 L68_0_2
theorem is68 : FnIs Tryz.prog 68 nt68 tr68 tl68 cm68_0.erase rs68 := ⟨Tryz.f68, Tryz.func68, rfl, by kernel_rfl, by kernel_rfl, by kernel_rfl⟩
theorem io68_0 : InstOk Tryz.prog 68 nt68 ⟨pa68_0, Fn68_0 f68_0⟩ := inst_ok eo68_0 followsTry is68 ⟨⟨sh68, cm68_0, by kernel_rfl, gm68_0, fm68_0⟩⟩
abbrev nt67 : Nat := 34
def sh67 : List (Nat × List Sh) := []
def r67_2 : List AOper := [⟨(some 4), (.mv (.const (.slice none 0 0))), none⟩]
def r67_4 : List AOper := [⟨(some 5), (.mv (.const (.slice none 0 0))), none⟩]
def r67_6 : List AOper := [⟨(some 6), (.mv (.const (.int .i64 0))), none⟩]
def r67_9 : List AOper := [⟨(some 7), (.mv (.const (.int .i64 0))), none⟩]
def td67_11 : Option Tidy := (some ⟨[0, 1, 5, 6, 7], true, [⟨false, 5, 0, 20005, 1⟩], []⟩)
def r67_14 : List AOper := [⟨(some 8), (.mv (.tmp 7)), none⟩, ⟨(some 9), (.mv (.tmp 0)), none⟩, ⟨(some 10), (.pure (oB (.call { callee := .builtin .len, args := #[(.tmp 9)], argTypes := #[9] }) 3)), none⟩, ⟨(some 11), (.bin .lss 3 (.tmp 8) (.tmp 10)), none⟩]
def r67_19 : List AOper := [⟨(some 14), (.mv (.tmp 0)), none⟩, ⟨(some 15), (.mv (.tmp 7)), none⟩, ⟨(some 16), (.pure (oB (.index 9 (.tmp 14) (.tmp 15)) 5)), none⟩, ⟨(some 17), (.mv (.tmp 1)), none⟩, ⟨(some 18), (.bin .eql 5 (.tmp 16) (.tmp 17)), none⟩]
def r67_22 : List AOper := [⟨(some 19), (.mv (.tmp 5)), none⟩, ⟨(some 20), (.mv (.tmp 0)), none⟩, ⟨(some 21), (.mv (.tmp 6)), none⟩, ⟨(some 22), (.mv (.tmp 7)), none⟩, ⟨(some 23), (.pure (oB (.slice 9 (.tmp 20) (some (.tmp 21)) (some (.tmp 22)) none) 9)), none⟩, ⟨(some 24), (.bslice 1 1 [(.v (.string ⟨#[]⟩))] [(0, (.tmp 23))]), none⟩, ⟨(some 25), (.append 1 16 (.tmp 19) (.tmp 24)), none⟩, ⟨(some 5), (.mv (.tmp 25)), none⟩]
def r67_23 : List AOper := [⟨(some 26), (.mv (.tmp 7)), none⟩, ⟨(some 27), (.bin .add 3 (.tmp 26) (.const (.int .i64 1))), none⟩, ⟨(some 6), (.mv (.tmp 27)), none⟩]
def r67_24 : List AOper := [⟨(some 12), (.mv (.tmp 7)), none⟩, ⟨(some 13), (.bin .add 3 (.tmp 12) (.const (.int .i64 1))), none⟩, ⟨(some 7), (.mv (.tmp 13)), none⟩]
def r67_26 : List AOper := [⟨(some 28), (.mv (.tmp 5)), none⟩, ⟨(some 29), (.mv (.tmp 0)), none⟩, ⟨(some 30), (.mv (.tmp 6)), none⟩, ⟨(some 31), (.pure (oB (.slice 9 (.tmp 29) (some (.tmp 30)) none none) 9)), none⟩, ⟨(some 32), (.bslice 1 1 [(.v (.string ⟨#[]⟩))] [(0, (.tmp 31))]), none⟩, ⟨(some 33), (.append 1 16 (.tmp 28) (.tmp 32)), none⟩, ⟨(some 4), (.mv (.tmp 33)), none⟩]
def tr67 : List (Nat × Tidy) := [(0, ⟨[0, 1], true, [], []⟩), (1, ⟨[0, 1, 5], true, [], []⟩), (2, ⟨[0, 1, 5, 6], true, [], []⟩), (3, ⟨[0, 1, 5, 6, 7], true, [], []⟩), (4, ⟨[0, 1, 5, 6, 7, 11], true, [], []⟩), (6, ⟨[0, 1, 5, 6, 7, 18], true, [], []⟩), (7, ⟨[0, 1, 5, 7], true, [], []⟩), (8, ⟨[0, 1, 5, 6, 7], true, [], []⟩), (5, ⟨[0, 1, 5, 6, 7], true, [], []⟩), (9, ⟨[4], true, [⟨false, 4, 0, 20004, 1⟩], []⟩)]
def tl67 : List (Nat × Tidy) := [(4, ⟨[0, 1, 5, 6, 7], true, [⟨false, 5, 0, 20005, 1⟩], []⟩)]
def rs67 : List AResV := [.tmp 4]
def p67_0_0 : PT St := pS [sl 0 (aV false [(cD dS)]), sl 1 (aV false [(cD (dI .u8))]), sl 5 (aV false [(cRef 20005)]), sl 6 (aV false [(cD (dI .i64))]), sl 7 (aV false [(cD (dI .i64))])] [eOwn 20005 1]
def u67_0_0 {β : Type} (g : St → β) : ByteArray → Int → Int → Int → Rows → β := p67_0_0.unc g
def p67_0_1 : PT St := pS [sl 0 (aV false [(cD dS)]), sl 1 (aV false [(cD (dI .u8))]), sl 5 (aV false [(cRef 20005)]), sl 6 (aV false [(cD (dI .i64))]), sl 7 (aV false [(cD (dI .i64))]), sl 11 (aV false [(cD dB)])] [eOwn 20005 1]
def u67_0_1 {β : Type} (g : St → β) : ByteArray → Int → Int → Int → Bool → Rows → β := p67_0_1.unc g
def pr67_0_0 : PT (List RV) := pRs [pR false [rO 1]]
def ur67_0_0 {β : Type} (g : List RV → β) : Rows → β := pr67_0_0.unc g
def E67_0g  : EnvK := EnvK.of [] noSeq
noncomputable def E67_0 : EnvK := E67_0g 
theorem eo67_0 : E67_0.Ok Tryz.prog := EnvK.of_ok noSeq_ok trivial
noncomputable def c67_0_11g  : MCode := (.seq (.seq (.region r67_14 [] (some ⟨[0, 1, 5, 6, 7, 11], true, [], []⟩)) (.cond (.tmp 11) .skip (.exit 0))) (.seq (.block 1 (.seq (.region r67_19 [] (some ⟨[0, 1, 5, 6, 7, 18], true, [], []⟩)) (.cond (.tmp 18) (.seq (.region r67_22 [] (some ⟨[0, 1, 5, 7], true, [], []⟩)) (.region r67_23 [] (some ⟨[0, 1, 5, 6, 7], true, [], []⟩))) .skip))) (.region r67_24 [] (some ⟨[0, 1, 5, 6, 7], true, [], []⟩))))
noncomputable def c67_0_11 : MCode := c67_0_11g 
theorem g67_0_11 : c67_0_11.Good Tryz.prog E67_0 sh67 := ⟨⟨trivial, ⟨trivial, trivial⟩⟩, ⟨⟨trivial, ⟨⟨trivial, trivial⟩, trivial⟩⟩, trivial⟩⟩
--CODE 11 0
def S67_0_0g  (α : Type) (x3 : ByteArray) (x4 : Int) (x5 : Int) (x6 : Int) (x7 : Rows) (kn : Int → Int → Rows → Option α) (k1 : Int → Int → Bool → Rows → Option α) : Option α :=
  cK (decide (x6 < ((ByteArray.size x3 : Nat) : Int)))
    (sixK x3 x6
      (fun (x9 : UInt8) => cK (((UInt8.toNat x9 : Nat) : Int) == x4)
        (gK (decide ((0 : Int) ≤ x5 ∧ x5 ≤ x6 ∧ x6 ≤ ((ByteArray.size x3 : Nat) : Int))) (gK (apOk 1 16 x7 [[DC.v (.string (ByteArray.extract x3 (Int.toNat x5) (Int.toNat x6)))]]) (kn (w64 (x6 + 1)) (w64 (x6 + 1)) (x7 ++ [[DC.v (.string (ByteArray.extract x3 (Int.toNat x5) (Int.toNat x6)))]]))))
        (kn x5 (w64 (x6 + 1)) x7)))
    (k1 x5 x6 (decide (x6 < ((ByteArray.size x3 : Nat) : Int))) x7)
noncomputable def S67_0_0 (α : Type) (x3 : ByteArray) (x4 : Int) (x5 : Int) (x6 : Int) (x7 : Rows) (kn : Int → Int → Rows → Option α) (k1 : Int → Int → Bool → Rows → Option α) : Option α := S67_0_0g  α x3 x4 x5 x6 x7 kn k1
noncomputable def R67_0_0 (α : Type) (x3 : ByteArray) (x4 : Int) (k1 : Int → Int → Bool → Rows → Option α) : Nat → Int → Int → Rows → Option α
  | 0, _, _, _ => none
  | n + 1, x5, x6, x7 => S67_0_0 α x3 x4 x5 x6 x7 (R67_0_0 α x3 x4 k1 n) k1
noncomputable def L67_0_0 (α : Type) (x3 : ByteArray) (x4 : Int) (k1 : Int → Int → Bool → Rows → Option α) (x5 : Int) (x6 : Int) (x7 : Rows) : Option α := R67_0_0 α x3 x4 k1 fuel x5 x6 x7
abbrev TL67_0_0 : Type 1 := (α : Type) → ByteArray → Int → (Int → Int → Bool → Rows → Option α) → Int → Int → Rows → Option α
def F67_0_0 (v : TL67_0_0) (α : Type) (K : Exit → St → Option α) : ByteArray → Int → Int → Int → Rows → Option α := fun x3 x4 x5 x6 x7 => v α x3 x4 (fun (y1 : Int) (y2 : Int) (y3 : Bool) (y4 : Rows) => u67_0_1 (K (.exit 0)) x3 x4 y1 y2 y3 y4) x5 x6 x7
theorem r67_0_0g   (α : Type) (K : Exit → St → Option α) (Kn : St → Option α) (x3 : ByteArray) (x4 : Int) (x5 : Int) (x6 : Int) (x7 : Rows) : u67_0_0 (fun σ => runM Tryz.prog (E67_0g ) sh67 (c67_0_11g ) (thenK (fun σ => tidyK td67_11 σ Kn) K) σ) x3 x4 x5 x6 x7 = S67_0_0g  α x3 x4 x5 x6 x7 (fun x5 x6 x7 => u67_0_0 Kn x3 x4 x5 x6 x7) (fun (y1 : Int) (y2 : Int) (y3 : Bool) (y4 : Rows) => u67_0_1 (K (.exit 0)) x3 x4 y1 y2 y3 y4) := by kernel_rfl
theorem r67_0_0 (α : Type) (K : Exit → St → Option α) (Kn : St → Option α) (x3 : ByteArray) (x4 : Int) (x5 : Int) (x6 : Int) (x7 : Rows) : u67_0_0 (fun σ => runM Tryz.prog E67_0 sh67 c67_0_11 (thenK (fun σ => tidyK td67_11 σ Kn) K) σ) x3 x4 x5 x6 x7 = S67_0_0 α x3 x4 x5 x6 x7 (fun x5 x6 x7 => u67_0_0 Kn x3 x4 x5 x6 x7) (fun (y1 : Int) (y2 : Int) (y3 : Bool) (y4 : Rows) => u67_0_1 (K (.exit 0)) x3 x4 y1 y2 y3 y4) := r67_0_0g  α K Kn x3 x4 x5 x6 x7
theorem t67_0_0 (α : Type) (K : Exit → St → Option α) : ∀ (n : Nat) (x3 : ByteArray) (x4 : Int) (x5 : Int) (x6 : Int) (x7 : Rows), R67_0_0 α x3 x4 (fun (y1 : Int) (y2 : Int) (y3 : Bool) (y4 : Rows) => u67_0_1 (K (.exit 0)) x3 x4 y1 y2 y3 y4) n x5 x6 x7 = u67_0_0 (loopT (runM Tryz.prog E67_0 sh67 c67_0_11) td67_11 K n) x3 x4 x5 x6 x7 := by
  intro n
  induction n with
  | zero => intros; rfl
  | succ n ih => intro x3 x4 x5 x6 x7; exact (congrArg (fun kn => S67_0_0 α x3 x4 x5 x6 x7 kn (fun (y1 : Int) (y2 : Int) (y3 : Bool) (y4 : Rows) => u67_0_1 (K (.exit 0)) x3 x4 y1 y2 y3 y4)) (funext fun x5 => funext fun x6 => funext fun x7 => ih x3 x4 x5 x6 x7)).trans (r67_0_0 α K (loopT (runM Tryz.prog E67_0 sh67 c67_0_11) td67_11 K n) x3 x4 x5 x6 x7).symm
theorem m67_0_0 : ∀ (α : Type) (K : Exit → St → Option α), F67_0_0 L67_0_0 α K = p67_0_0.unc fun σ => loopT (runM Tryz.prog E67_0 sh67 c67_0_11) td67_11 K fuel σ := fun α K => funext fun x3 => funext fun x4 => funext fun x5 => funext fun x6 => funext fun x7 => t67_0_0 α K fuel x3 x4 x5 x6 x7
abbrev Tf67_0 : Type 1 := (α : Type) → ByteArray → Int → (Rows → Option α) → Option α
def f67_0g (vL67_0_0 : TL67_0_0) (α : Type) (x1 : ByteArray) (x2 : Int) (k1 : Rows → Option α) : Option α :=
  vL67_0_0 α x1 x2
    (fun (x10 : Int) (x11 : Int) (x12 : Bool) (x13 : Rows) => gK (decide ((0 : Int) ≤ x10 ∧ x10 ≤ ((ByteArray.size x1 : Nat) : Int) ∧ ((ByteArray.size x1 : Nat) : Int) ≤ ((ByteArray.size x1 : Nat) : Int))) (gK (apOk 1 16 x13 [[DC.v (.string (ByteArray.extract x1 (Int.toNat x10) (Int.toNat ((ByteArray.size x1 : Nat) : Int))))]]) (k1 (x13 ++ [[DC.v (.string (ByteArray.extract x1 (Int.toNat x10) (Int.toNat ((ByteArray.size x1 : Nat) : Int))))]])))) 0 0 ([] : Rows)
noncomputable def f67_0 (α : Type) (x1 : ByteArray) (x2 : Int) (k1 : Rows → Option α) : Option α := f67_0g L67_0_0 α x1 x2 k1
def pa67_0 : PT (List DV) := pA [pV false [dS], pV false [(dI .u8)]]
def Fn67_0 (v : Tf67_0) (α : Type) (k : List RV → Option α) : ByteArray → Int → Option α := fun x1 x2 => v α x1 x2 (fun (y1 : Rows) => ur67_0_0 k y1)
noncomputable def cm67_0g (vL67_0_0 : TL67_0_0) : MCode := (.seq (.region r67_2 [] (some ⟨[0, 1], true, [], []⟩)) (.seq (.region r67_4 [] (some ⟨[0, 1, 5], true, [], []⟩)) (.seq (.region r67_6 [] (some ⟨[0, 1, 5, 6], true, [], []⟩)) (.seq (.seq (.region r67_9 [] (some ⟨[0, 1, 5, 6, 7], true, [], []⟩)) (.block 0 (.loop td67_11 [⟨p67_0_0, F67_0_0 vL67_0_0⟩] c67_0_11))) (.seq (.region r67_26 [] (some ⟨[4], true, [⟨false, 4, 0, 20004, 1⟩], []⟩)) .ret)))))
noncomputable def cm67_0 : MCode := cm67_0g L67_0_0
theorem gm67_0 : cm67_0.Good Tryz.prog E67_0 sh67 := ⟨trivial, ⟨trivial, ⟨trivial, ⟨⟨trivial, ⟨g67_0_11, m67_0_0, trivial⟩⟩, ⟨trivial, trivial⟩⟩⟩⟩⟩
theorem fm67_0g  (vL67_0_0 : TL67_0_0) (α : Type) (k : List RV → Option α) : Fn67_0 (f67_0g vL67_0_0) α k = pa67_0.unc fun ds => fnM Tryz.prog (E67_0g ) sh67 (cm67_0g vL67_0_0) rs67 k ds := by kernel_rfl
theorem fm67_0 : ∀ (α : Type) (k : List RV → Option α), Fn67_0 f67_0 α k = pa67_0.unc fun ds => fnM Tryz.prog E67_0 sh67 cm67_0 rs67 k ds := fm67_0g L67_0_0
theorem is67 : FnIs Tryz.prog 67 nt67 tr67 tl67 cm67_0.erase rs67 := ⟨Tryz.f67, Tryz.func67, rfl, by kernel_rfl, by kernel_rfl, by kernel_rfl⟩
theorem io67_0 : InstOk Tryz.prog 67 nt67 ⟨pa67_0, Fn67_0 f67_0⟩ := inst_ok eo67_0 followsTry is67 ⟨⟨sh67, cm67_0, by kernel_rfl, gm67_0, fm67_0⟩⟩
abbrev nt65 : Nat := 15
def sh65 : List (Nat × List Sh) := []
def r65_2 : List AOper := [⟨(some 6), (.mv (.const (.bool false))), none⟩]
def r65_4 : List AOper := [⟨(some 7), (.mv (.tmp 1)), none⟩, ⟨(some 8), (.mv (.tmp 0)), none⟩, ⟨(some 9), (.bin .leq 3 (.tmp 7) (.tmp 8)), none⟩, ⟨(some 10), (.mv (.tmp 9)), none⟩, ⟨(some 11), (.mv (.tmp 0)), (some (10, true))⟩, ⟨(some 12), (.mv (.tmp 2)), (some (10, true))⟩, ⟨(some 13), (.bin .leq 3 (.tmp 11) (.tmp 12)), (some (10, true))⟩, ⟨(some 14), (.pick (.tmp 10) (.tmp 13) (.const (.bool false))), none⟩, ⟨(some 6), (.mv (.tmp 14)), none⟩]
def tr65 : List (Nat × Tidy) := [(0, ⟨[0, 1, 2], true, [], []⟩), (1, ⟨[6], true, [], []⟩)]
def tl65 : List (Nat × Tidy) := []
def rs65 : List AResV := [.tmp 6]
def pr65_0_0 : PT (List RV) := pRs [pR false [rD dB]]
def ur65_0_0 {β : Type} (g : List RV → β) : Bool → β := pr65_0_0.unc g
def E65_0g  : EnvK := EnvK.of [] noSeq
noncomputable def E65_0 : EnvK := E65_0g 
theorem eo65_0 : E65_0.Ok Tryz.prog := EnvK.of_ok noSeq_ok trivial
abbrev Tf65_0 : Type 1 := (α : Type) → Int → Int → Int → (Bool → Option α) → Option α
def f65_0g  (α : Type) (x1 : Int) (x2 : Int) (x3 : Int) (k1 : Bool → Option α) : Option α :=
  cK (decide (x2 ≤ x1))
    (k1 (decide (x1 ≤ x3)))
    (k1 false)
noncomputable def f65_0 (α : Type) (x1 : Int) (x2 : Int) (x3 : Int) (k1 : Bool → Option α) : Option α := f65_0g  α x1 x2 x3 k1
def pa65_0 : PT (List DV) := pA [pV false [(dI .i64)], pV false [(dI .i64)], pV false [(dI .i64)]]
def Fn65_0 (v : Tf65_0) (α : Type) (k : List RV → Option α) : Int → Int → Int → Option α := fun x1 x2 x3 => v α x1 x2 x3 (fun (y1 : Bool) => ur65_0_0 k y1)
noncomputable def cm65_0g  : MCode := (.seq (.region r65_2 [] (some ⟨[0, 1, 2], true, [], []⟩)) (.seq (.region r65_4 [] (some ⟨[6], true, [], []⟩)) .ret))
noncomputable def cm65_0 : MCode := cm65_0g 
theorem gm65_0 : cm65_0.Good Tryz.prog E65_0 sh65 := ⟨trivial, ⟨trivial, trivial⟩⟩
theorem fm65_0g   (α : Type) (k : List RV → Option α) : Fn65_0 (f65_0g ) α k = pa65_0.unc fun ds => fnM Tryz.prog (E65_0g ) sh65 (cm65_0g ) rs65 k ds := by kernel_rfl
theorem fm65_0 : ∀ (α : Type) (k : List RV → Option α), Fn65_0 f65_0 α k = pa65_0.unc fun ds => fnM Tryz.prog E65_0 sh65 cm65_0 rs65 k ds := fm65_0g 
theorem is65 : FnIs Tryz.prog 65 nt65 tr65 tl65 cm65_0.erase rs65 := ⟨Tryz.f65, Tryz.func65, rfl, by kernel_rfl, by kernel_rfl, by kernel_rfl⟩
theorem io65_0 : InstOk Tryz.prog 65 nt65 ⟨pa65_0, Fn65_0 f65_0⟩ := inst_ok eo65_0 followsTry is65 ⟨⟨sh65, cm65_0, by kernel_rfl, gm65_0, fm65_0⟩⟩
abbrev nt10 : Nat := 18
def sh10 : List (Nat × List Sh) := [(4, [.int .i64]), (9, [.int .i64]), (15, [.int .i64])]
def r10_2 : List AOper := [⟨(some 1), (.box (.tmp 0)), none⟩, ⟨(some 2), (.mv (.const (.string ⟨#[]⟩))), none⟩]
def r10_4 : List AOper := [⟨(some 3), (.faddr 0 (.tmp 1)), none⟩, ⟨(some 4), (.load false 1 (.tmp 3)), none⟩, ⟨(some 5), (.call 61 [(.tmp 4)]), none⟩, ⟨(some 6), (.bin .add 9 (.tmp 5) (.const (.string ⟨#[32]⟩))), none⟩, ⟨(some 7), (.faddr 1 (.tmp 1)), none⟩, ⟨(some 8), (.faddr 0 (.tmp 7)), none⟩, ⟨(some 9), (.load false 1 (.tmp 8)), none⟩, ⟨(some 10), (.call 61 [(.tmp 9)]), none⟩, ⟨(some 11), (.bin .add 9 (.tmp 6) (.tmp 10)), none⟩, ⟨(some 12), (.bin .add 9 (.tmp 11) (.const (.string ⟨#[32]⟩))), none⟩, ⟨(some 13), (.faddr 1 (.tmp 1)), none⟩, ⟨(some 14), (.faddr 1 (.tmp 13)), none⟩, ⟨(some 15), (.load false 1 (.tmp 14)), none⟩, ⟨(some 16), (.call 61 [(.tmp 15)]), none⟩, ⟨(some 17), (.bin .add 9 (.tmp 12) (.tmp 16)), none⟩, ⟨(some 2), (.mv (.tmp 17)), none⟩]
def tr10 : List (Nat × Tidy) := [(0, ⟨[1], true, [], []⟩), (1, ⟨[2], true, [], []⟩)]
def tl10 : List (Nat × Tidy) := []
def rs10 : List AResV := [.tmp 2]
def pr10_0_0 : PT (List RV) := pRs [pR false [rD dS]]
def ur10_0_0 {β : Type} (g : List RV → β) : ByteArray → β := pr10_0_0.unc g
def E10_0g (vf61_0 : Tf61_0) : EnvK := EnvK.of [⟨61, nt61, [⟨pa61_0, Fn61_0 vf61_0⟩]⟩] noSeq
noncomputable def E10_0 : EnvK := E10_0g f61_0
theorem eo10_0 : E10_0.Ok Tryz.prog := EnvK.of_ok noSeq_ok ⟨⟨io61_0, trivial⟩, trivial⟩
abbrev Tf10_0 : Type 1 := (α : Type) → Int → Int → Int → (ByteArray → Option α) → Option α
def f10_0g (vf61_0 : Tf61_0) (α : Type) (x1 : Int) (x2 : Int) (x3 : Int) (k1 : ByteArray → Option α) : Option α :=
  vf61_0 α x1
    (fun (x4 : ByteArray) => gK (!decide (IntKind.i64.max < ((ByteArray.size x4 + ByteArray.size (⟨#[32]⟩ : ByteArray) : Nat) : Int))) (vf61_0 α x2
      (fun (x5 : ByteArray) => gK (!decide (IntKind.i64.max < ((ByteArray.size (x4 ++ (⟨#[32]⟩ : ByteArray)) + ByteArray.size x5 : Nat) : Int))) (gK (!decide (IntKind.i64.max < ((ByteArray.size ((x4 ++ (⟨#[32]⟩ : ByteArray)) ++ x5) + ByteArray.size (⟨#[32]⟩ : ByteArray) : Nat) : Int))) (vf61_0 α x3
        (fun (x6 : ByteArray) => gK (!decide (IntKind.i64.max < ((ByteArray.size (((x4 ++ (⟨#[32]⟩ : ByteArray)) ++ x5) ++ (⟨#[32]⟩ : ByteArray)) + ByteArray.size x6 : Nat) : Int))) (k1 ((((x4 ++ (⟨#[32]⟩ : ByteArray)) ++ x5) ++ (⟨#[32]⟩ : ByteArray)) ++ x6))))))))
noncomputable def f10_0 (α : Type) (x1 : Int) (x2 : Int) (x3 : Int) (k1 : ByteArray → Option α) : Option α := f10_0g f61_0 α x1 x2 x3 k1
def pa10_0 : PT (List DV) := pA [pV true [(dI .i64), (dI .i64), (dI .i64)]]
def Fn10_0 (v : Tf10_0) (α : Type) (k : List RV → Option α) : Int → Int → Int → Option α := fun x1 x2 x3 => v α x1 x2 x3 (fun (y1 : ByteArray) => ur10_0_0 k y1)
noncomputable def cm10_0g  : MCode := (.seq (.region r10_2 [] (some ⟨[1], true, [], []⟩)) (.seq (.region r10_4 [(2, 6), (2, 12), (7, 12)] (some ⟨[2], true, [], []⟩)) .ret))
noncomputable def cm10_0 : MCode := cm10_0g 
theorem gm10_0 : cm10_0.Good Tryz.prog E10_0 sh10 := ⟨trivial, ⟨trivial, trivial⟩⟩
theorem fm10_0g (vf61_0 : Tf61_0)  (α : Type) (k : List RV → Option α) : Fn10_0 (f10_0g vf61_0) α k = pa10_0.unc fun ds => fnM Tryz.prog (E10_0g vf61_0) sh10 (cm10_0g ) rs10 k ds := by kernel_rfl
theorem fm10_0 : ∀ (α : Type) (k : List RV → Option α), Fn10_0 f10_0 α k = pa10_0.unc fun ds => fnM Tryz.prog E10_0 sh10 cm10_0 rs10 k ds := fm10_0g f61_0
theorem is10 : FnIs Tryz.prog 10 nt10 tr10 tl10 cm10_0.erase rs10 := ⟨Tryz.f10, Tryz.func10, rfl, by kernel_rfl, by kernel_rfl, by kernel_rfl⟩
theorem io10_0 : InstOk Tryz.prog 10 nt10 ⟨pa10_0, Fn10_0 f10_0⟩ := inst_ok eo10_0 followsTry is10 ⟨⟨sh10, cm10_0, by kernel_rfl, gm10_0, fm10_0⟩⟩
abbrev nt69 : Nat := 27
def sh69 : List (Nat × List Sh) := []
def r69_2 : List AOper := [⟨(some 2), (.mv (.const (.string ⟨#[]⟩))), none⟩]
def r69_5 : List AOper := [⟨(some 6), (.mv (.tmp 0)), none⟩, ⟨(some 7), (.bin .eql 3 (.tmp 6) (.const (.int .i64 0))), none⟩]
def r69_8 : List AOper := [⟨(some 2), (.mv (.const (.string ⟨#[48]⟩))), none⟩]
def r69_10 : List AOper := [⟨(some 3), (.mv (.const (.string ⟨#[]⟩))), none⟩, ⟨(some 4), (.mv (.const (.string ⟨#[]⟩))), none⟩]
def r69_13 : List AOper := [⟨(some 8), (.mv (.tmp 0)), none⟩, ⟨(some 9), (.bin .lss 3 (.tmp 8) (.const (.int .i64 0))), none⟩]
def r69_15 : List AOper := [⟨(some 4), (.mv (.const (.string ⟨#[45]⟩))), none⟩]
def td69_18 : Option Tidy := (some ⟨[0, 3, 4], true, [], []⟩)
def r69_21 : List AOper := [⟨(some 10), (.mv (.tmp 0)), none⟩, ⟨(some 11), (.bin .neq 3 (.tmp 10) (.const (.int .i64 0))), none⟩]
def r69_25 : List AOper := [⟨(some 12), (.mv (.tmp 0)), none⟩, ⟨(some 13), (.bin .rem 3 (.tmp 12) (.const (.int .i64 10))), none⟩, ⟨(some 5), (.mv (.tmp 13)), none⟩]
def r69_27 : List AOper := [⟨(some 14), (.mv (.tmp 5)), none⟩, ⟨(some 15), (.call 164 [(.tmp 14)]), none⟩, ⟨(some 16), (.bin .add 3 (.const (.int .i64 48)) (.tmp 15)), none⟩, ⟨(some 17), (.pure (oB (.convert 3 5 (.tmp 16)) 5)), none⟩, ⟨(some 18), (.bslice 1 1 [(.v (.int .u8 0))] [(0, (.tmp 17))]), none⟩, ⟨(some 19), (.str (.tmp 18)), none⟩, ⟨(some 20), (.mv (.tmp 3)), none⟩, ⟨(some 21), (.bin .add 9 (.tmp 19) (.tmp 20)), none⟩, ⟨(some 3), (.mv (.tmp 21)), none⟩]
def r69_28 : List AOper := [⟨(some 22), (.mv (.tmp 0)), none⟩, ⟨(some 23), (.bin .quo 3 (.tmp 22) (.const (.int .i64 10))), none⟩, ⟨(some 0), (.mv (.tmp 23)), none⟩]
def r69_30 : List AOper := [⟨(some 24), (.mv (.tmp 4)), none⟩, ⟨(some 25), (.mv (.tmp 3)), none⟩, ⟨(some 26), (.bin .add 9 (.tmp 24) (.tmp 25)), none⟩, ⟨(some 2), (.mv (.tmp 26)), none⟩]
def tr69 : List (Nat × Tidy) := [(0, ⟨[0], true, [], []⟩), (1, ⟨[0, 7], true, [], []⟩), (2, ⟨[2], true, [], []⟩), (3, ⟨[0, 3, 4], true, [], []⟩), (4, ⟨[0, 3, 4, 9], true, [], []⟩), (5, ⟨[0, 3, 4], true, [], []⟩), (6, ⟨[0, 3, 4, 11], true, [], []⟩), (7, ⟨[0, 3, 4, 5], true, [], []⟩), (8, ⟨[0, 3, 4], true, [], []⟩), (9, ⟨[0, 3, 4], true, [], []⟩), (10, ⟨[2], true, [], []⟩)]
def tl69 : List (Nat × Tidy) := [(6, ⟨[0, 3, 4], true, [], []⟩)]
def rs69 : List AResV := [.tmp 2]
def p69_0_0 : PT St := pS [sl 0 (aV false [(cD (dI .i64))]), sl 3 (aV false [(cD dS)]), sl 4 (aV false [(cD dS)])] []
def u69_0_0 {β : Type} (g : St → β) : Int → ByteArray → ByteArray → β := p69_0_0.unc g
def p69_0_1 : PT St := pS [sl 0 (aV false [(cD (dI .i64))]), sl 3 (aV false [(cD dS)]), sl 4 (aV false [(cD dS)]), sl 9 (aV false [(cD dB)])] []
def u69_0_1 {β : Type} (g : St → β) : Int → ByteArray → ByteArray → Bool → β := p69_0_1.unc g
def p69_0_2 : PT St := pS [sl 0 (aV false [(cD (dI .i64))]), sl 3 (aV false [(cD dS)]), sl 4 (aV false [(cD dS)]), sl 11 (aV false [(cD dB)])] []
def u69_0_2 {β : Type} (g : St → β) : Int → ByteArray → ByteArray → Bool → β := p69_0_2.unc g
def pr69_0_0 : PT (List RV) := pRs [pR false [rD dS]]
def ur69_0_0 {β : Type} (g : List RV → β) : ByteArray → β := pr69_0_0.unc g
def E69_0g (vf164_0 : Tf164_0) : EnvK := EnvK.of [⟨164, nt164, [⟨pa164_0, Fn164_0 vf164_0⟩]⟩] noSeq
noncomputable def E69_0 : EnvK := E69_0g f164_0
theorem eo69_0 : E69_0.Ok Tryz.prog := EnvK.of_ok noSeq_ok ⟨⟨io164_0, trivial⟩, trivial⟩
noncomputable def c69_0_18g  : MCode := (.seq (.seq (.region r69_21 [] (some ⟨[0, 3, 4, 11], true, [], []⟩)) (.cond (.tmp 11) .skip (.exit 0))) (.block 1 (.seq (.region r69_25 [] (some ⟨[0, 3, 4, 5], true, [], []⟩)) (.seq (.region r69_27 [] (some ⟨[0, 3, 4], true, [], []⟩)) (.region r69_28 [] (some ⟨[0, 3, 4], true, [], []⟩))))))
noncomputable def c69_0_18 : MCode := c69_0_18g 
theorem g69_0_18 : c69_0_18.Good Tryz.prog E69_0 sh69 := ⟨⟨trivial, ⟨trivial, trivial⟩⟩, ⟨trivial, ⟨trivial, trivial⟩⟩⟩
--CODE 18 0
def S69_0_1g (vf164_0 : Tf164_0) (α : Type)  (x8 : Int) (x9 : ByteArray) (kn : Int → ByteArray → Option α) (k1 : Int → ByteArray → Bool → Option α) : Option α :=
  cK (x8 != 0)
    (vf164_0 α (Int.tmod x8 10)
      (fun (x12 : Int) => gK (!decide (IntKind.i64.max < ((ByteArray.size (strOf [(IntKind.wrap .u8 ((w64 (48 + x12))))]) + ByteArray.size x9 : Nat) : Int))) (kn (w64 (Int.tdiv x8 10)) ((strOf [(IntKind.wrap .u8 ((w64 (48 + x12))))]) ++ x9))))
    (k1 x8 x9 (x8 != 0))
noncomputable def S69_0_1 (α : Type)  (x8 : Int) (x9 : ByteArray) (kn : Int → ByteArray → Option α) (k1 : Int → ByteArray → Bool → Option α) : Option α := S69_0_1g f164_0 α  x8 x9 kn k1
noncomputable def R69_0_1 (α : Type)  (k1 : Int → ByteArray → Bool → Option α) : Nat → Int → ByteArray → Option α
  | 0, _, _ => none
  | n + 1, x8, x9 => S69_0_1 α  x8 x9 (R69_0_1 α  k1 n) k1
noncomputable def L69_0_1 (α : Type)  (k1 : Int → ByteArray → Bool → Option α) (x8 : Int) (x9 : ByteArray) : Option α := R69_0_1 α  k1 fuel x8 x9
abbrev TL69_0_1 : Type 1 := (α : Type) → (Int → ByteArray → Bool → Option α) → Int → ByteArray → Option α
def F69_0_1 (v : TL69_0_1) (α : Type) (K : Exit → St → Option α) : Int → ByteArray → ByteArray → Option α := fun x8 x9 x10 => v α  (fun (y1 : Int) (y2 : ByteArray) (y3 : Bool) => u69_0_2 (K (.exit 0)) y1 y2 x10 y3) x8 x9
theorem r69_0_1g (vf164_0 : Tf164_0)  (α : Type) (K : Exit → St → Option α) (Kn : St → Option α) (x8 : Int) (x9 : ByteArray) (x10 : ByteArray) : u69_0_0 (fun σ => runM Tryz.prog (E69_0g vf164_0) sh69 (c69_0_18g ) (thenK (fun σ => tidyK td69_18 σ Kn) K) σ) x8 x9 x10 = S69_0_1g vf164_0 α  x8 x9 (fun x8 x9 => u69_0_0 Kn x8 x9 x10) (fun (y1 : Int) (y2 : ByteArray) (y3 : Bool) => u69_0_2 (K (.exit 0)) y1 y2 x10 y3) := by kernel_rfl
theorem r69_0_1 (α : Type) (K : Exit → St → Option α) (Kn : St → Option α) (x8 : Int) (x9 : ByteArray) (x10 : ByteArray) : u69_0_0 (fun σ => runM Tryz.prog E69_0 sh69 c69_0_18 (thenK (fun σ => tidyK td69_18 σ Kn) K) σ) x8 x9 x10 = S69_0_1 α  x8 x9 (fun x8 x9 => u69_0_0 Kn x8 x9 x10) (fun (y1 : Int) (y2 : ByteArray) (y3 : Bool) => u69_0_2 (K (.exit 0)) y1 y2 x10 y3) := r69_0_1g f164_0 α K Kn x8 x9 x10
theorem t69_0_1 (α : Type) (K : Exit → St → Option α) : ∀ (n : Nat) (x8 : Int) (x9 : ByteArray) (x10 : ByteArray), R69_0_1 α  (fun (y1 : Int) (y2 : ByteArray) (y3 : Bool) => u69_0_2 (K (.exit 0)) y1 y2 x10 y3) n x8 x9 = u69_0_0 (loopT (runM Tryz.prog E69_0 sh69 c69_0_18) td69_18 K n) x8 x9 x10 := by
  intro n
  induction n with
  | zero => intros; rfl
  | succ n ih => intro x8 x9 x10; exact (congrArg (fun kn => S69_0_1 α  x8 x9 kn (fun (y1 : Int) (y2 : ByteArray) (y3 : Bool) => u69_0_2 (K (.exit 0)) y1 y2 x10 y3)) (funext fun x8 => funext fun x9 => ih x8 x9 x10)).trans (r69_0_1 α K (loopT (runM Tryz.prog E69_0 sh69 c69_0_18) td69_18 K n) x8 x9 x10).symm
theorem m69_0_1 : ∀ (α : Type) (K : Exit → St → Option α), F69_0_1 L69_0_1 α K = p69_0_0.unc fun σ => loopT (runM Tryz.prog E69_0 sh69 c69_0_18) td69_18 K fuel σ := fun α K => funext fun x8 => funext fun x9 => funext fun x10 => t69_0_1 α K fuel x8 x9 x10
noncomputable def c69_0_11g  : MCode := (.seq (.region r69_13 [] (some ⟨[0, 3, 4, 9], true, [], []⟩)) (.cond (.tmp 9) (.region r69_15 [] (some ⟨[0, 3, 4], true, [], []⟩)) .skip))
noncomputable def c69_0_11 : MCode := c69_0_11g 
theorem g69_0_11 : c69_0_11.Good Tryz.prog E69_0 sh69 := ⟨trivial, ⟨trivial, trivial⟩⟩
--CODE 11 0
abbrev TJ69_0_0 : Type 1 := (α : Type) → Int → (Option α) → (Bool → Option α) → Option α
def J69_0_0g  (α : Type) (x2 : Int) (k1 : Option α) (k2 : Bool → Option α) : Option α :=
  cK (decide (x2 < 0))
    (k1)
    (k2 (decide (x2 < 0)))
noncomputable def J69_0_0 (α : Type) (x2 : Int) (k1 : Option α) (k2 : Bool → Option α) : Option α := J69_0_0g  α x2 k1 k2
def F69_0_0 (v : TJ69_0_0) (α : Type) (K : Exit → St → Option α) : Int → ByteArray → ByteArray → Option α := fun x2 x3 x4 => v α x2 (u69_0_0 (K .normal) x2 x3 (⟨#[45]⟩ : ByteArray)) (fun (y1 : Bool) => u69_0_1 (K .normal) x2 x3 x4 y1) 
theorem m69_0_0g (vf164_0 : Tf164_0)  (α : Type) (K : Exit → St → Option α) : F69_0_0 (J69_0_0g ) α K = p69_0_0.unc fun σ => runM Tryz.prog (E69_0g vf164_0) sh69 (c69_0_11g ) K σ := by kernel_rfl
theorem m69_0_0 : ∀ (α : Type) (K : Exit → St → Option α), F69_0_0 J69_0_0 α K = p69_0_0.unc fun σ => runM Tryz.prog E69_0 sh69 c69_0_11 K σ := m69_0_0g f164_0
abbrev Tf69_0 : Type 1 := (α : Type) → Int → (ByteArray → Option α) → Option α
def f69_0g (vJ69_0_0 : TJ69_0_0) (vL69_0_1 : TL69_0_1) (α : Type) (x1 : Int) (k1 : ByteArray → Option α) : Option α :=
  cK (x1 == 0)
    (k1 (⟨#[48]⟩ : ByteArray))
    (vJ69_0_0 α x1
      (vL69_0_1 α
        (fun (x13 : Int) (x14 : ByteArray) (x15 : Bool) => gK (!decide (IntKind.i64.max < ((ByteArray.size (⟨#[45]⟩ : ByteArray) + ByteArray.size x14 : Nat) : Int))) (k1 ((⟨#[45]⟩ : ByteArray) ++ x14))) x1 (⟨#[]⟩ : ByteArray))
      (fun (x6 : Bool) => vL69_0_1 α
        (fun (x17 : Int) (x18 : ByteArray) (x19 : Bool) => gK (!decide (IntKind.i64.max < ((ByteArray.size (⟨#[]⟩ : ByteArray) + ByteArray.size x18 : Nat) : Int))) (k1 ((⟨#[]⟩ : ByteArray) ++ x18))) x1 (⟨#[]⟩ : ByteArray)))
noncomputable def f69_0 (α : Type) (x1 : Int) (k1 : ByteArray → Option α) : Option α := f69_0g J69_0_0 L69_0_1 α x1 k1
def pa69_0 : PT (List DV) := pA [pV false [(dI .i64)]]
def Fn69_0 (v : Tf69_0) (α : Type) (k : List RV → Option α) : Int → Option α := fun x1 => v α x1 (fun (y1 : ByteArray) => ur69_0_0 k y1)
noncomputable def cm69_0g (vJ69_0_0 : TJ69_0_0) (vL69_0_1 : TL69_0_1) : MCode := (.seq (.region r69_2 [] (some ⟨[0], true, [], []⟩)) (.seq (.seq (.region r69_5 [] (some ⟨[0, 7], true, [], []⟩)) (.cond (.tmp 7) (.seq (.region r69_8 [] (some ⟨[2], true, [], []⟩)) .ret) .skip)) (.seq (.region r69_10 [] (some ⟨[0, 3, 4], true, [], []⟩)) (.seq (.mark [⟨p69_0_0, F69_0_0 vJ69_0_0⟩] c69_0_11) (.seq (.block 0 (.loop td69_18 [⟨p69_0_0, F69_0_1 vL69_0_1⟩] c69_0_18)) (.seq (.region r69_30 [] (some ⟨[2], true, [], []⟩)) .ret))))))
noncomputable def cm69_0 : MCode := cm69_0g J69_0_0 L69_0_1
theorem gm69_0 : cm69_0.Good Tryz.prog E69_0 sh69 := ⟨trivial, ⟨⟨trivial, ⟨⟨trivial, trivial⟩, trivial⟩⟩, ⟨trivial, ⟨⟨g69_0_11, m69_0_0, trivial⟩, ⟨⟨g69_0_18, m69_0_1, trivial⟩, ⟨trivial, trivial⟩⟩⟩⟩⟩⟩
theorem fm69_0g (vf164_0 : Tf164_0) (vJ69_0_0 : TJ69_0_0) (vL69_0_1 : TL69_0_1) (α : Type) (k : List RV → Option α) : Fn69_0 (f69_0g vJ69_0_0 vL69_0_1) α k = pa69_0.unc fun ds => fnM Tryz.prog (E69_0g vf164_0) sh69 (cm69_0g vJ69_0_0 vL69_0_1) rs69 k ds := by kernel_rfl
theorem fm69_0 : ∀ (α : Type) (k : List RV → Option α), Fn69_0 f69_0 α k = pa69_0.unc fun ds => fnM Tryz.prog E69_0 sh69 cm69_0 rs69 k ds := fm69_0g f164_0 J69_0_0 L69_0_1
theorem is69 : FnIs Tryz.prog 69 nt69 tr69 tl69 cm69_0.erase rs69 := ⟨Tryz.f69, Tryz.func69, rfl, by kernel_rfl, by kernel_rfl, by kernel_rfl⟩
theorem io69_0 : InstOk Tryz.prog 69 nt69 ⟨pa69_0, Fn69_0 f69_0⟩ := inst_ok eo69_0 followsTry is69 ⟨⟨sh69, cm69_0, by kernel_rfl, gm69_0, fm69_0⟩⟩
abbrev nt14 : Nat := 28
def sh14 : List (Nat × List Sh) := [(4, [.int .i64]), (10, [.int .i64]), (17, [.int .i64]), (23, [.int .i64]), (26, [.int .i64])]
def r14_2 : List AOper := [⟨(some 1), (.box (.tmp 0)), none⟩, ⟨(some 2), (.mv (.const (.int .i64 0))), none⟩]
def r14_5 : List AOper := [⟨(some 3), (.faddr 0 (.tmp 1)), none⟩, ⟨(some 4), (.load false 1 (.tmp 3)), none⟩, ⟨(some 5), (.call 44 [(.tmp 4), (.const (.int .i64 0)), (.const (.int .i64 39))]), none⟩, ⟨(some 6), (.pure (oB (.unOp .not 4 (.tmp 5)) 4)), none⟩, ⟨(some 7), (.mv (.tmp 6)), none⟩, ⟨(some 8), (.faddr 1 (.tmp 1)), (some (7, false))⟩, ⟨(some 9), (.faddr 0 (.tmp 8)), (some (7, false))⟩, ⟨(some 10), (.load false 1 (.tmp 9)), (some (7, false))⟩, ⟨(some 11), (.call 44 [(.tmp 10), (.const (.int .i64 0)), (.const (.int .i64 1000000))]), (some (7, false))⟩, ⟨(some 12), (.pure (oB (.unOp .not 4 (.tmp 11)) 4)), (some (7, false))⟩, ⟨(some 13), (.pick (.tmp 7) (.const (.bool true)) (.tmp 12)), none⟩, ⟨(some 14), (.mv (.tmp 13)), none⟩, ⟨(some 15), (.faddr 1 (.tmp 1)), (some (14, false))⟩, ⟨(some 16), (.faddr 1 (.tmp 15)), (some (14, false))⟩, ⟨(some 17), (.load false 1 (.tmp 16)), (some (14, false))⟩, ⟨(some 18), (.call 44 [(.tmp 17), (.const (.int .i64 0)), (.const (.int .i64 1000000))]), (some (14, false))⟩, ⟨(some 19), (.pure (oB (.unOp .not 4 (.tmp 18)) 4)), (some (14, false))⟩, ⟨(some 20), (.pick (.tmp 14) (.const (.bool true)) (.tmp 19)), none⟩]
def r14_8 : List AOper := [⟨(some 2), (.mv (.const (.int .i64 2))), none⟩]
def r14_11 : List AOper := [⟨(some 21), (.faddr 1 (.tmp 1)), none⟩, ⟨(some 22), (.faddr 0 (.tmp 21)), none⟩, ⟨(some 23), (.load false 1 (.tmp 22)), none⟩, ⟨(some 24), (.faddr 1 (.tmp 1)), none⟩, ⟨(some 25), (.faddr 1 (.tmp 24)), none⟩, ⟨(some 26), (.load false 1 (.tmp 25)), none⟩, ⟨(some 27), (.bin .gtr 3 (.tmp 23) (.tmp 26)), none⟩]
def r14_14 : List AOper := [⟨(some 2), (.mv (.const (.int .i64 10))), none⟩]
def r14_16 : List AOper := [⟨(some 2), (.mv (.const (.int .i64 0))), none⟩]
def tr14 : List (Nat × Tidy) := [(0, ⟨[1], true, [], []⟩), (1, ⟨[1, 20], true, [], []⟩), (2, ⟨[2], true, [], []⟩), (3, ⟨[27], true, [], []⟩), (4, ⟨[2], true, [], []⟩), (5, ⟨[2], true, [], []⟩)]
def tl14 : List (Nat × Tidy) := []
def rs14 : List AResV := [.tmp 2]
def pr14_0_0 : PT (List RV) := pRs [pR false [rD (dI .i64)]]
def ur14_0_0 {β : Type} (g : List RV → β) : Int → β := pr14_0_0.unc g
def E14_0g (vf44_0 : Tf44_0) : EnvK := EnvK.of [⟨44, nt44, [⟨pa44_0, Fn44_0 vf44_0⟩]⟩] noSeq
noncomputable def E14_0 : EnvK := E14_0g f44_0
theorem eo14_0 : E14_0.Ok Tryz.prog := EnvK.of_ok noSeq_ok ⟨⟨io44_0, trivial⟩, trivial⟩
abbrev Tf14_0 : Type 1 := (α : Type) → Int → Int → Int → (Int → Option α) → Option α
def f14_0g (vf44_0 : Tf44_0) (α : Type) (x1 : Int) (x2 : Int) (x3 : Int) (k1 : Int → Option α) : Option α :=
  vf44_0 α x1 0 39
    (fun (x4 : Bool) => cK (!x4)
      (k1 2)
      (vf44_0 α x2 0 1000000
        (fun (x5 : Bool) => cK (!x5)
          (k1 2)
          (vf44_0 α x3 0 1000000
            (fun (x6 : Bool) => cK (!x6)
              (k1 2)
              (cK (decide (x3 < x2))
                (k1 10)
                (k1 0)))))))
noncomputable def f14_0 (α : Type) (x1 : Int) (x2 : Int) (x3 : Int) (k1 : Int → Option α) : Option α := f14_0g f44_0 α x1 x2 x3 k1
def pa14_0 : PT (List DV) := pA [pV true [(dI .i64), (dI .i64), (dI .i64)]]
def Fn14_0 (v : Tf14_0) (α : Type) (k : List RV → Option α) : Int → Int → Int → Option α := fun x1 x2 x3 => v α x1 x2 x3 (fun (y1 : Int) => ur14_0_0 k y1)
noncomputable def cm14_0g  : MCode := (.seq (.region r14_2 [] (some ⟨[1], true, [], []⟩)) (.seq (.seq (.region r14_5 [] (some ⟨[1, 20], true, [], []⟩)) (.cond (.tmp 20) (.seq (.region r14_8 [] (some ⟨[2], true, [], []⟩)) .ret) .skip)) (.seq (.seq (.region r14_11 [] (some ⟨[27], true, [], []⟩)) (.cond (.tmp 27) (.seq (.region r14_14 [] (some ⟨[2], true, [], []⟩)) .ret) .skip)) (.seq (.region r14_16 [] (some ⟨[2], true, [], []⟩)) .ret))))
noncomputable def cm14_0 : MCode := cm14_0g 
theorem gm14_0 : cm14_0.Good Tryz.prog E14_0 sh14 := ⟨trivial, ⟨⟨trivial, ⟨⟨trivial, trivial⟩, trivial⟩⟩, ⟨⟨trivial, ⟨⟨trivial, trivial⟩, trivial⟩⟩, ⟨trivial, trivial⟩⟩⟩⟩
theorem fm14_0g (vf44_0 : Tf44_0)  (α : Type) (k : List RV → Option α) : Fn14_0 (f14_0g vf44_0) α k = pa14_0.unc fun ds => fnM Tryz.prog (E14_0g vf44_0) sh14 (cm14_0g ) rs14 k ds := by kernel_rfl
theorem fm14_0 : ∀ (α : Type) (k : List RV → Option α), Fn14_0 f14_0 α k = pa14_0.unc fun ds => fnM Tryz.prog E14_0 sh14 cm14_0 rs14 k ds := fm14_0g f44_0
theorem is14 : FnIs Tryz.prog 14 nt14 tr14 tl14 cm14_0.erase rs14 := ⟨Tryz.f14, Tryz.func14, rfl, by kernel_rfl, by kernel_rfl, by kernel_rfl⟩
theorem io14_0 : InstOk Tryz.prog 14 nt14 ⟨pa14_0, Fn14_0 f14_0⟩ := inst_ok eo14_0 followsTry is14 ⟨⟨sh14, cm14_0, by kernel_rfl, gm14_0, fm14_0⟩⟩
abbrev nt163 : Nat := 19
def sh163 : List (Nat × List Sh) := [(8, [.int .i64]), (14, [.int .i64])]
def r163_2 : List AOper := [⟨(some 3), (.box (.tmp 0)), none⟩, ⟨(some 6), (.mv (.const (.bool false))), none⟩]
def r163_4 : List AOper := [⟨(some 7), (.faddr 0 (.tmp 3)), none⟩, ⟨(some 8), (.load false 1 (.tmp 7)), none⟩, ⟨(some 9), (.mv (.tmp 1)), none⟩, ⟨(some 10), (.mv (.tmp 2)), none⟩, ⟨(some 11), (.call 65 [(.tmp 8), (.tmp 9), (.tmp 10)]), none⟩, ⟨(some 12), (.mv (.tmp 11)), none⟩, ⟨(some 13), (.faddr 1 (.tmp 3)), (some (12, true))⟩, ⟨(some 14), (.load false 1 (.tmp 13)), (some (12, true))⟩, ⟨(some 15), (.mv (.tmp 1)), (some (12, true))⟩, ⟨(some 16), (.mv (.tmp 2)), (some (12, true))⟩, ⟨(some 17), (.call 65 [(.tmp 14), (.tmp 15), (.tmp 16)]), (some (12, true))⟩, ⟨(some 18), (.pick (.tmp 12) (.tmp 17) (.const (.bool false))), none⟩, ⟨(some 6), (.mv (.tmp 18)), none⟩]
def tr163 : List (Nat × Tidy) := [(0, ⟨[1, 2, 3], true, [], []⟩), (1, ⟨[6], true, [], []⟩)]
def tl163 : List (Nat × Tidy) := []
def rs163 : List AResV := [.tmp 6]
def pr163_0_0 : PT (List RV) := pRs [pR false [rD dB]]
def ur163_0_0 {β : Type} (g : List RV → β) : Bool → β := pr163_0_0.unc g
def E163_0g (vf65_0 : Tf65_0) : EnvK := EnvK.of [⟨65, nt65, [⟨pa65_0, Fn65_0 vf65_0⟩]⟩] noSeq
noncomputable def E163_0 : EnvK := E163_0g f65_0
theorem eo163_0 : E163_0.Ok Tryz.prog := EnvK.of_ok noSeq_ok ⟨⟨io65_0, trivial⟩, trivial⟩
abbrev Tf163_0 : Type 1 := (α : Type) → Int → Int → Int → Int → (Bool → Option α) → Option α
def f163_0g (vf65_0 : Tf65_0) (α : Type) (x1 : Int) (x2 : Int) (x3 : Int) (x4 : Int) (k1 : Bool → Option α) : Option α :=
  vf65_0 α x1 x3 x4
    (fun (x5 : Bool) => cK x5
      (vf65_0 α x2 x3 x4
        (fun (x6 : Bool) => k1 x6))
      (k1 false))
noncomputable def f163_0 (α : Type) (x1 : Int) (x2 : Int) (x3 : Int) (x4 : Int) (k1 : Bool → Option α) : Option α := f163_0g f65_0 α x1 x2 x3 x4 k1
def pa163_0 : PT (List DV) := pA [pV true [(dI .i64), (dI .i64)], pV false [(dI .i64)], pV false [(dI .i64)]]
def Fn163_0 (v : Tf163_0) (α : Type) (k : List RV → Option α) : Int → Int → Int → Int → Option α := fun x1 x2 x3 x4 => v α x1 x2 x3 x4 (fun (y1 : Bool) => ur163_0_0 k y1)
noncomputable def cm163_0g  : MCode := (.seq (.region r163_2 [] (some ⟨[1, 2, 3], true, [], []⟩)) (.seq (.region r163_4 [] (some ⟨[6], true, [], []⟩)) .ret))
noncomputable def cm163_0 : MCode := cm163_0g 
theorem gm163_0 : cm163_0.Good Tryz.prog E163_0 sh163 := ⟨trivial, ⟨trivial, trivial⟩⟩
theorem fm163_0g (vf65_0 : Tf65_0)  (α : Type) (k : List RV → Option α) : Fn163_0 (f163_0g vf65_0) α k = pa163_0.unc fun ds => fnM Tryz.prog (E163_0g vf65_0) sh163 (cm163_0g ) rs163 k ds := by kernel_rfl
theorem fm163_0 : ∀ (α : Type) (k : List RV → Option α), Fn163_0 f163_0 α k = pa163_0.unc fun ds => fnM Tryz.prog E163_0 sh163 cm163_0 rs163 k ds := fm163_0g f65_0
theorem is163 : FnIs Tryz.prog 163 nt163 tr163 tl163 cm163_0.erase rs163 := ⟨Tryz.f163, Tryz.func163, rfl, by kernel_rfl, by kernel_rfl, by kernel_rfl⟩
theorem io163_0 : InstOk Tryz.prog 163 nt163 ⟨pa163_0, Fn163_0 f163_0⟩ := inst_ok eo163_0 followsTry is163 ⟨⟨sh163, cm163_0, by kernel_rfl, gm163_0, fm163_0⟩⟩
abbrev nt13 : Nat := 18
def sh13 : List (Nat × List Sh) := [(4, [.int .i64]), (9, [.int .i64]), (15, [.int .i64])]
def r13_2 : List AOper := [⟨(some 1), (.box (.tmp 0)), none⟩, ⟨(some 2), (.mv (.const (.string ⟨#[]⟩))), none⟩]
def r13_4 : List AOper := [⟨(some 3), (.faddr 0 (.tmp 1)), none⟩, ⟨(some 4), (.load false 1 (.tmp 3)), none⟩, ⟨(some 5), (.call 69 [(.tmp 4)]), none⟩, ⟨(some 6), (.bin .add 9 (.tmp 5) (.const (.string ⟨#[32]⟩))), none⟩, ⟨(some 7), (.faddr 1 (.tmp 1)), none⟩, ⟨(some 8), (.faddr 0 (.tmp 7)), none⟩, ⟨(some 9), (.load false 1 (.tmp 8)), none⟩, ⟨(some 10), (.call 69 [(.tmp 9)]), none⟩, ⟨(some 11), (.bin .add 9 (.tmp 6) (.tmp 10)), none⟩, ⟨(some 12), (.bin .add 9 (.tmp 11) (.const (.string ⟨#[32]⟩))), none⟩, ⟨(some 13), (.faddr 1 (.tmp 1)), none⟩, ⟨(some 14), (.faddr 1 (.tmp 13)), none⟩, ⟨(some 15), (.load false 1 (.tmp 14)), none⟩, ⟨(some 16), (.call 69 [(.tmp 15)]), none⟩, ⟨(some 17), (.bin .add 9 (.tmp 12) (.tmp 16)), none⟩, ⟨(some 2), (.mv (.tmp 17)), none⟩]
def tr13 : List (Nat × Tidy) := [(0, ⟨[1], true, [], []⟩), (1, ⟨[2], true, [], []⟩)]
def tl13 : List (Nat × Tidy) := []
def rs13 : List AResV := [.tmp 2]
def pr13_0_0 : PT (List RV) := pRs [pR false [rD dS]]
def ur13_0_0 {β : Type} (g : List RV → β) : ByteArray → β := pr13_0_0.unc g
def E13_0g (vf69_0 : Tf69_0) : EnvK := EnvK.of [⟨69, nt69, [⟨pa69_0, Fn69_0 vf69_0⟩]⟩] noSeq
noncomputable def E13_0 : EnvK := E13_0g f69_0
theorem eo13_0 : E13_0.Ok Tryz.prog := EnvK.of_ok noSeq_ok ⟨⟨io69_0, trivial⟩, trivial⟩
abbrev Tf13_0 : Type 1 := (α : Type) → Int → Int → Int → (ByteArray → Option α) → Option α
def f13_0g (vf69_0 : Tf69_0) (α : Type) (x1 : Int) (x2 : Int) (x3 : Int) (k1 : ByteArray → Option α) : Option α :=
  vf69_0 α x1
    (fun (x4 : ByteArray) => gK (!decide (IntKind.i64.max < ((ByteArray.size x4 + ByteArray.size (⟨#[32]⟩ : ByteArray) : Nat) : Int))) (vf69_0 α x2
      (fun (x5 : ByteArray) => gK (!decide (IntKind.i64.max < ((ByteArray.size (x4 ++ (⟨#[32]⟩ : ByteArray)) + ByteArray.size x5 : Nat) : Int))) (gK (!decide (IntKind.i64.max < ((ByteArray.size ((x4 ++ (⟨#[32]⟩ : ByteArray)) ++ x5) + ByteArray.size (⟨#[32]⟩ : ByteArray) : Nat) : Int))) (vf69_0 α x3
        (fun (x6 : ByteArray) => gK (!decide (IntKind.i64.max < ((ByteArray.size (((x4 ++ (⟨#[32]⟩ : ByteArray)) ++ x5) ++ (⟨#[32]⟩ : ByteArray)) + ByteArray.size x6 : Nat) : Int))) (k1 ((((x4 ++ (⟨#[32]⟩ : ByteArray)) ++ x5) ++ (⟨#[32]⟩ : ByteArray)) ++ x6))))))))
noncomputable def f13_0 (α : Type) (x1 : Int) (x2 : Int) (x3 : Int) (k1 : ByteArray → Option α) : Option α := f13_0g f69_0 α x1 x2 x3 k1
def pa13_0 : PT (List DV) := pA [pV true [(dI .i64), (dI .i64), (dI .i64)]]
def Fn13_0 (v : Tf13_0) (α : Type) (k : List RV → Option α) : Int → Int → Int → Option α := fun x1 x2 x3 => v α x1 x2 x3 (fun (y1 : ByteArray) => ur13_0_0 k y1)
noncomputable def cm13_0g  : MCode := (.seq (.region r13_2 [] (some ⟨[1], true, [], []⟩)) (.seq (.region r13_4 [(2, 6), (2, 12), (7, 12)] (some ⟨[2], true, [], []⟩)) .ret))
noncomputable def cm13_0 : MCode := cm13_0g 
theorem gm13_0 : cm13_0.Good Tryz.prog E13_0 sh13 := ⟨trivial, ⟨trivial, trivial⟩⟩
theorem fm13_0g (vf69_0 : Tf69_0)  (α : Type) (k : List RV → Option α) : Fn13_0 (f13_0g vf69_0) α k = pa13_0.unc fun ds => fnM Tryz.prog (E13_0g vf69_0) sh13 (cm13_0g ) rs13 k ds := by kernel_rfl
theorem fm13_0 : ∀ (α : Type) (k : List RV → Option α), Fn13_0 f13_0 α k = pa13_0.unc fun ds => fnM Tryz.prog E13_0 sh13 cm13_0 rs13 k ds := fm13_0g f69_0
theorem is13 : FnIs Tryz.prog 13 nt13 tr13 tl13 cm13_0.erase rs13 := ⟨Tryz.f13, Tryz.func13, rfl, by kernel_rfl, by kernel_rfl, by kernel_rfl⟩
theorem io13_0 : InstOk Tryz.prog 13 nt13 ⟨pa13_0, Fn13_0 f13_0⟩ := inst_ok eo13_0 followsTry is13 ⟨⟨sh13, cm13_0, by kernel_rfl, gm13_0, fm13_0⟩⟩
abbrev nt12 : Nat := 56
def sh12 : List (Nat × List Sh) := [(22, [.str]), (23, [.str]), (39, [.int .i64]), (40, [.int .i64]), (42, [.int .i64]), (43, [.int .i64]), (45, [.int .i64]), (46, [.int .i64]), (49, [.int .i64, .int .i64, .int .i64]), (55, [.int .i64, .int .i64, .int .i64])]
def r12_2 : List AOper := [⟨(some 2), (.alloc [(.d (.v (.int .i64 0))), (.d (.v (.int .i64 0))), (.d (.v (.int .i64 0)))]), none⟩, ⟨(some 3), (.mv (.const (.int .i64 0))), none⟩]
def r12_4 : List AOper := [⟨(some 11), (.mv (.tmp 0)), none⟩, ⟨(some 12), (.call 67 [(.tmp 11), (.const (.int .u8 32))]), none⟩, ⟨(some 4), (.mv (.tmp 12)), none⟩]
def r12_6 : List AOper := [⟨(some 5), (.mv (.const (.slice none 0 0))), none⟩]
def r12_9 : List AOper := [⟨(some 6), (.mv (.const (.int .i64 0))), none⟩]
def td12_11 : Option Tidy := (some ⟨[2, 4, 5, 6], true, [⟨false, 4, 0, 20004, 1⟩, ⟨false, 5, 0, 20005, 1⟩], []⟩)
def r12_14 : List AOper := [⟨(some 13), (.mv (.tmp 6)), none⟩, ⟨(some 14), (.mv (.tmp 4)), none⟩, ⟨(some 15), (.len (.tmp 14)), none⟩, ⟨(some 16), (.bin .lss 3 (.tmp 13) (.tmp 15)), none⟩]
def r12_19 : List AOper := [⟨(some 20), (.mv (.tmp 4)), none⟩, ⟨(some 21), (.mv (.tmp 6)), none⟩, ⟨(some 22), (.iaddr 1 none (.tmp 20) (.tmp 21)), none⟩, ⟨(some 23), (.load false 1 (.tmp 22)), none⟩, ⟨(some 24), (.call 68 [(.tmp 23), (.const (.int .i64 7))]), none⟩, ⟨(some 19), (.mv (.tmp 24)), none⟩, ⟨(some 25), (.extract 0 (.tmp 19)), none⟩, ⟨(some 26), (.extract 1 (.tmp 19)), none⟩, ⟨(some 7), (.mv (.tmp 25)), none⟩, ⟨(some 8), (.mv (.tmp 26)), none⟩]
def r12_22 : List AOper := [⟨(some 27), (.mv (.tmp 8)), none⟩, ⟨(some 28), (.pure (oB (.unOp .not 4 (.tmp 27)) 4)), none⟩]
def r12_25 : List AOper := [⟨(some 29), (.build [(.d (.v (.int .i64 0))), (.d (.v (.int .i64 0))), (.d (.v (.int .i64 0)))] []), none⟩, ⟨none, (.store 3 (.tmp 2) (.tmp 29)), none⟩, ⟨(some 3), (.mv (.const (.int .i64 4))), none⟩]
def r12_26 : List AOper := [⟨(some 30), (.mv (.tmp 5)), none⟩, ⟨(some 31), (.mv (.tmp 7)), none⟩, ⟨(some 32), (.bslice 1 1 [(.v (.int .i64 0))] [(0, (.tmp 31))]), none⟩, ⟨(some 33), (.append 1 8 (.tmp 30) (.tmp 32)), none⟩, ⟨(some 5), (.mv (.tmp 33)), none⟩]
def r12_27 : List AOper := [⟨(some 17), (.mv (.tmp 6)), none⟩, ⟨(some 18), (.bin .add 3 (.tmp 17) (.const (.int .i64 1))), none⟩, ⟨(some 6), (.mv (.tmp 18)), none⟩]
def r12_30 : List AOper := [⟨(some 34), (.mv (.tmp 5)), none⟩, ⟨(some 35), (.len (.tmp 34)), none⟩, ⟨(some 36), (.bin .neq 3 (.tmp 35) (.const (.int .i64 3))), none⟩]
def r12_33 : List AOper := [⟨(some 37), (.build [(.d (.v (.int .i64 0))), (.d (.v (.int .i64 0))), (.d (.v (.int .i64 0)))] []), none⟩, ⟨none, (.store 3 (.tmp 2) (.tmp 37)), none⟩, ⟨(some 3), (.mv (.const (.int .i64 4))), none⟩]
def r12_35 : List AOper := [⟨(some 38), (.mv (.tmp 5)), none⟩, ⟨(some 39), (.iaddr 1 none (.tmp 38) (.const (.int .i64 0))), none⟩, ⟨(some 40), (.load false 1 (.tmp 39)), none⟩, ⟨(some 41), (.mv (.tmp 5)), none⟩, ⟨(some 42), (.iaddr 1 none (.tmp 41) (.const (.int .i64 1))), none⟩, ⟨(some 43), (.load false 1 (.tmp 42)), none⟩, ⟨(some 44), (.mv (.tmp 5)), none⟩, ⟨(some 45), (.iaddr 1 none (.tmp 44) (.const (.int .i64 2))), none⟩, ⟨(some 46), (.load false 1 (.tmp 45)), none⟩, ⟨(some 47), (.build [(.d (.v (.int .i64 0))), (.d (.v (.int .i64 0)))] [(0, 1, (.tmp 43)), (1, 1, (.tmp 46))]), none⟩, ⟨(some 48), (.build [(.d (.v (.int .i64 0))), (.d (.v (.int .i64 0))), (.d (.v (.int .i64 0)))] [(0, 1, (.tmp 40)), (1, 2, (.tmp 47))]), none⟩, ⟨(some 9), (.alloc [(.d (.v (.int .i64 0))), (.d (.v (.int .i64 0))), (.d (.v (.int .i64 0)))]), none⟩, ⟨none, (.store 3 (.tmp 9) (.tmp 48)), none⟩]
def r12_38 : List AOper := [⟨(some 49), (.load true 3 (.tmp 9)), none⟩, ⟨(some 50), (.call 14 [(.tmp 49)]), none⟩, ⟨(some 10), (.mv (.tmp 50)), none⟩]
def r12_40 : List AOper := [⟨(some 51), (.mv (.tmp 10)), none⟩, ⟨(some 52), (.bin .neq 3 (.tmp 51) (.const (.int .i64 0))), none⟩]
def r12_43 : List AOper := [⟨(some 53), (.build [(.d (.v (.int .i64 0))), (.d (.v (.int .i64 0))), (.d (.v (.int .i64 0)))] []), none⟩, ⟨(some 54), (.mv (.tmp 10)), none⟩, ⟨none, (.store 3 (.tmp 2) (.tmp 53)), none⟩, ⟨(some 3), (.mv (.tmp 54)), none⟩]
def r12_45 : List AOper := [⟨(some 55), (.load true 3 (.tmp 9)), none⟩, ⟨none, (.store 3 (.tmp 2) (.tmp 55)), none⟩, ⟨(some 3), (.mv (.const (.int .i64 0))), none⟩]
def tr12 : List (Nat × Tidy) := [(0, ⟨[0, 2], true, [], []⟩), (1, ⟨[2, 4], true, [], []⟩), (2, ⟨[2, 4, 5], true, [], []⟩), (3, ⟨[2, 4, 5, 6], true, [], []⟩), (4, ⟨[2, 4, 5, 6, 16], true, [], []⟩), (6, ⟨[2, 4, 5, 6, 7, 8], true, [], []⟩), (7, ⟨[2, 4, 5, 6, 7, 28], true, [], []⟩), (8, ⟨[2, 3], true, [], []⟩), (9, ⟨[2, 4, 5, 6], true, [], []⟩), (5, ⟨[2, 4, 5, 6], true, [], []⟩), (10, ⟨[2, 5, 36], true, [], []⟩), (11, ⟨[2, 3], true, [], []⟩), (12, ⟨[2, 9], true, [], []⟩), (13, ⟨[2, 9, 10], true, [], []⟩), (14, ⟨[2, 9, 10, 52], true, [], []⟩), (15, ⟨[2, 3], true, [], []⟩), (16, ⟨[2, 3], true, [], []⟩)]
def tl12 : List (Nat × Tidy) := [(4, ⟨[2, 4, 5, 6], true, [⟨false, 4, 0, 20004, 1⟩, ⟨false, 5, 0, 20005, 1⟩], []⟩)]
def rs12 : List AResV := [.cell 2 true 3, .tmp 3]
def p12_0_0 : PT St := pS [sl 2 (aV false [(cPtr 2 0)]), sl 4 (aV false [(cRef 20004)]), sl 5 (aV false [(cRef 20005)]), sl 6 (aV false [(cD (dI .i64))])] [eBox 2 [(cD (dI .i64)), (cD (dI .i64)), (cD (dI .i64))], eOwn 20004 1, eOwn 20005 1]
def u12_0_0 {β : Type} (g : St → β) : Int → Int → Int → Int → Rows → Rows → β := p12_0_0.unc g
def p12_0_1 : PT St := pS [sl 2 (aV false [(cPtr 2 0)]), sl 3 (aV false [(cD (dI .i64))])] [eBox 2 [(cD (dI .i64)), (cD (dI .i64)), (cD (dI .i64))]]
def u12_0_1 {β : Type} (g : St → β) : Int → Int → Int → Int → β := p12_0_1.unc g
def p12_0_2 : PT St := pS [sl 2 (aV false [(cPtr 2 0)]), sl 4 (aV false [(cRef 20004)]), sl 5 (aV false [(cRef 20005)]), sl 6 (aV false [(cD (dI .i64))]), sl 16 (aV false [(cD dB)])] [eBox 2 [(cD (dI .i64)), (cD (dI .i64)), (cD (dI .i64))], eOwn 20004 1, eOwn 20005 1]
def u12_0_2 {β : Type} (g : St → β) : Int → Bool → Int → Int → Int → Rows → Rows → β := p12_0_2.unc g
def pr12_0_0 : PT (List RV) := pRs [pR true [rD (dI .i64), rD (dI .i64), rD (dI .i64)], pR false [rD (dI .i64)]]
def ur12_0_0 {β : Type} (g : List RV → β) : Int → Int → Int → Int → β := pr12_0_0.unc g
def E12_0g (vf67_0 : Tf67_0) (vf68_0 : Tf68_0) (vf14_0 : Tf14_0) : EnvK := EnvK.of [⟨67, nt67, [⟨pa67_0, Fn67_0 vf67_0⟩]⟩, ⟨68, nt68, [⟨pa68_0, Fn68_0 vf68_0⟩]⟩, ⟨14, nt14, [⟨pa14_0, Fn14_0 vf14_0⟩]⟩] noSeq
noncomputable def E12_0 : EnvK := E12_0g f67_0 f68_0 f14_0
theorem eo12_0 : E12_0.Ok Tryz.prog := EnvK.of_ok noSeq_ok ⟨⟨io67_0, trivial⟩, ⟨io68_0, trivial⟩, ⟨io14_0, trivial⟩, trivial⟩
noncomputable def c12_0_11g  : MCode := (.seq (.seq (.region r12_14 [] (some ⟨[2, 4, 5, 6, 16], true, [], []⟩)) (.cond (.tmp 16) .skip (.exit 0))) (.seq (.block 1 (.seq (.region r12_19 [] (some ⟨[2, 4, 5, 6, 7, 8], true, [], []⟩)) (.seq (.seq (.region r12_22 [] (some ⟨[2, 4, 5, 6, 7, 28], true, [], []⟩)) (.cond (.tmp 28) (.seq (.region r12_25 [] (some ⟨[2, 3], true, [], []⟩)) .ret) .skip)) (.region r12_26 [] (some ⟨[2, 4, 5, 6], true, [], []⟩))))) (.region r12_27 [] (some ⟨[2, 4, 5, 6], true, [], []⟩))))
noncomputable def c12_0_11 : MCode := c12_0_11g 
theorem g12_0_11 : c12_0_11.Good Tryz.prog E12_0 sh12 := ⟨⟨trivial, ⟨trivial, trivial⟩⟩, ⟨⟨trivial, ⟨⟨trivial, ⟨⟨trivial, trivial⟩, trivial⟩⟩, trivial⟩⟩, trivial⟩⟩
--CODE 11 0
def S12_0_0g (vf68_0 : Tf68_0) (α : Type) (x7 : Rows) (x3 : Int) (x8 : Rows) (kn : Int → Rows → Option α) (k1 : Option α) (k2 : Int → Bool → Rows → Option α) : Option α :=
  cK (decide (x3 < ((List.length x7 : Nat) : Int)))
    (ixK x7 x3 1
      (ldK x7 (Int.toNat x3) 0 [.str]
        (fun (x10 : ByteArray) => vf68_0 α x10 7
          (fun (x11 : Int) (x12 : Bool) => cK (!x12)
            (k1)
            (gK (apOk 1 8 x8 [[DC.v (.int .i64 x11)]]) (kn (w64 (x3 + 1)) (x8 ++ [[DC.v (.int .i64 x11)]])))))))
    (k2 x3 (decide (x3 < ((List.length x7 : Nat) : Int))) x8)
noncomputable def S12_0_0 (α : Type) (x7 : Rows) (x3 : Int) (x8 : Rows) (kn : Int → Rows → Option α) (k1 : Option α) (k2 : Int → Bool → Rows → Option α) : Option α := S12_0_0g f68_0 α x7 x3 x8 kn k1 k2
noncomputable def R12_0_0 (α : Type) (x7 : Rows) (k1 : Option α) (k2 : Int → Bool → Rows → Option α) : Nat → Int → Rows → Option α
  | 0, _, _ => none
  | n + 1, x3, x8 => S12_0_0 α x7 x3 x8 (R12_0_0 α x7 k1 k2 n) k1 k2
noncomputable def L12_0_0 (α : Type) (x7 : Rows) (k1 : Option α) (k2 : Int → Bool → Rows → Option α) (x3 : Int) (x8 : Rows) : Option α := R12_0_0 α x7 k1 k2 fuel x3 x8
abbrev TL12_0_0 : Type 1 := (α : Type) → Rows → (Option α) → (Int → Bool → Rows → Option α) → Int → Rows → Option α
def F12_0_0 (v : TL12_0_0) (α : Type) (K : Exit → St → Option α) : Int → Int → Int → Int → Rows → Rows → Option α := fun x3 x4 x5 x6 x7 x8 => v α x7 (u12_0_1 (K .ret) 4 0 0 0) (fun (y1 : Int) (y2 : Bool) (y3 : Rows) => u12_0_2 (K (.exit 0)) y1 y2 x4 x5 x6 x7 y3) x3 x8
theorem r12_0_0g (vf67_0 : Tf67_0) (vf68_0 : Tf68_0) (vf14_0 : Tf14_0)  (α : Type) (K : Exit → St → Option α) (Kn : St → Option α) (x3 : Int) (x4 : Int) (x5 : Int) (x6 : Int) (x7 : Rows) (x8 : Rows) : u12_0_0 (fun σ => runM Tryz.prog (E12_0g vf67_0 vf68_0 vf14_0) sh12 (c12_0_11g ) (thenK (fun σ => tidyK td12_11 σ Kn) K) σ) x3 x4 x5 x6 x7 x8 = S12_0_0g vf68_0 α x7 x3 x8 (fun x3 x8 => u12_0_0 Kn x3 x4 x5 x6 x7 x8) (u12_0_1 (K .ret) 4 0 0 0) (fun (y1 : Int) (y2 : Bool) (y3 : Rows) => u12_0_2 (K (.exit 0)) y1 y2 x4 x5 x6 x7 y3) := by kernel_rfl
theorem r12_0_0 (α : Type) (K : Exit → St → Option α) (Kn : St → Option α) (x3 : Int) (x4 : Int) (x5 : Int) (x6 : Int) (x7 : Rows) (x8 : Rows) : u12_0_0 (fun σ => runM Tryz.prog E12_0 sh12 c12_0_11 (thenK (fun σ => tidyK td12_11 σ Kn) K) σ) x3 x4 x5 x6 x7 x8 = S12_0_0 α x7 x3 x8 (fun x3 x8 => u12_0_0 Kn x3 x4 x5 x6 x7 x8) (u12_0_1 (K .ret) 4 0 0 0) (fun (y1 : Int) (y2 : Bool) (y3 : Rows) => u12_0_2 (K (.exit 0)) y1 y2 x4 x5 x6 x7 y3) := r12_0_0g f67_0 f68_0 f14_0 α K Kn x3 x4 x5 x6 x7 x8
theorem t12_0_0 (α : Type) (K : Exit → St → Option α) : ∀ (n : Nat) (x3 : Int) (x4 : Int) (x5 : Int) (x6 : Int) (x7 : Rows) (x8 : Rows), R12_0_0 α x7 (u12_0_1 (K .ret) 4 0 0 0) (fun (y1 : Int) (y2 : Bool) (y3 : Rows) => u12_0_2 (K (.exit 0)) y1 y2 x4 x5 x6 x7 y3) n x3 x8 = u12_0_0 (loopT (runM Tryz.prog E12_0 sh12 c12_0_11) td12_11 K n) x3 x4 x5 x6 x7 x8 := by
  intro n
  induction n with
  | zero => intros; rfl
  | succ n ih => intro x3 x4 x5 x6 x7 x8; exact (congrArg (fun kn => S12_0_0 α x7 x3 x8 kn (u12_0_1 (K .ret) 4 0 0 0) (fun (y1 : Int) (y2 : Bool) (y3 : Rows) => u12_0_2 (K (.exit 0)) y1 y2 x4 x5 x6 x7 y3)) (funext fun x3 => funext fun x8 => ih x3 x4 x5 x6 x7 x8)).trans (r12_0_0 α K (loopT (runM Tryz.prog E12_0 sh12 c12_0_11) td12_11 K n) x3 x4 x5 x6 x7 x8).symm
theorem m12_0_0 : ∀ (α : Type) (K : Exit → St → Option α), F12_0_0 L12_0_0 α K = p12_0_0.unc fun σ => loopT (runM Tryz.prog E12_0 sh12 c12_0_11) td12_11 K fuel σ := fun α K => funext fun x3 => funext fun x4 => funext fun x5 => funext fun x6 => funext fun x7 => funext fun x8 => t12_0_0 α K fuel x3 x4 x5 x6 x7 x8
abbrev Tf12_0 : Type 1 := (α : Type) → ByteArray → (Int → Int → Int → Int → Option α) → Option α
def f12_0g (vL12_0_0 : TL12_0_0) (vf14_0 : Tf14_0) (vf67_0 : Tf67_0) (α : Type) (x1 : ByteArray) (k1 : Int → Int → Int → Int → Option α) : Option α :=
  vf67_0 α x1 32
    (fun (x2 : Rows) => vL12_0_0 α x2
      (k1 0 0 0 4)
      (fun (x13 : Int) (x14 : Bool) (x15 : Rows) => cK (((List.length x15 : Nat) : Int) != 3)
        (k1 0 0 0 4)
        (ixK x15 0 1
          (ldK x15 0 0 [.int .i64]
            (fun (x17 : Int) => ixK x15 1 1
              (ldK x15 1 0 [.int .i64]
                (fun (x18 : Int) => ixK x15 2 1
                  (ldK x15 2 0 [.int .i64]
                    (fun (x19 : Int) => vf14_0 α x17 x18 x19
                      (fun (x20 : Int) => cK (x20 != 0)
                        (k1 0 0 0 x20)
                        (k1 x17 x18 x19 0)))))))))) 0 ([] : Rows))
noncomputable def f12_0 (α : Type) (x1 : ByteArray) (k1 : Int → Int → Int → Int → Option α) : Option α := f12_0g L12_0_0 f14_0 f67_0 α x1 k1
def pa12_0 : PT (List DV) := pA [pV false [dS]]
def Fn12_0 (v : Tf12_0) (α : Type) (k : List RV → Option α) : ByteArray → Option α := fun x1 => v α x1 (fun (y1 : Int) (y2 : Int) (y3 : Int) (y4 : Int) => ur12_0_0 k y1 y2 y3 y4)
noncomputable def cm12_0g (vL12_0_0 : TL12_0_0) : MCode := (.seq (.region r12_2 [] (some ⟨[0, 2], true, [], []⟩)) (.seq (.region r12_4 [] (some ⟨[2, 4], true, [], []⟩)) (.seq (.region r12_6 [] (some ⟨[2, 4, 5], true, [], []⟩)) (.seq (.seq (.region r12_9 [] (some ⟨[2, 4, 5, 6], true, [], []⟩)) (.block 0 (.loop td12_11 [⟨p12_0_0, F12_0_0 vL12_0_0⟩] c12_0_11))) (.seq (.seq (.region r12_30 [] (some ⟨[2, 5, 36], true, [], []⟩)) (.cond (.tmp 36) (.seq (.region r12_33 [] (some ⟨[2, 3], true, [], []⟩)) .ret) .skip)) (.seq (.region r12_35 [(1, 11), (2, 11), (4, 11), (5, 11), (7, 11), (8, 11)] (some ⟨[2, 9], true, [], []⟩)) (.seq (.seq (.region r12_38 [] (some ⟨[2, 9, 10], true, [], []⟩)) (.seq (.region r12_40 [] (some ⟨[2, 9, 10, 52], true, [], []⟩)) (.cond (.tmp 52) (.seq (.region r12_43 [] (some ⟨[2, 3], true, [], []⟩)) .ret) .skip))) (.seq (.region r12_45 [] (some ⟨[2, 3], true, [], []⟩)) .ret))))))))
noncomputable def cm12_0 : MCode := cm12_0g L12_0_0
theorem gm12_0 : cm12_0.Good Tryz.prog E12_0 sh12 := ⟨trivial, ⟨trivial, ⟨trivial, ⟨⟨trivial, ⟨g12_0_11, m12_0_0, trivial⟩⟩, ⟨⟨trivial, ⟨⟨trivial, trivial⟩, trivial⟩⟩, ⟨trivial, ⟨⟨trivial, ⟨trivial, ⟨⟨trivial, trivial⟩, trivial⟩⟩⟩, ⟨trivial, trivial⟩⟩⟩⟩⟩⟩⟩⟩
theorem fm12_0g (vf67_0 : Tf67_0) (vf68_0 : Tf68_0) (vf14_0 : Tf14_0) (vL12_0_0 : TL12_0_0) (α : Type) (k : List RV → Option α) : Fn12_0 (f12_0g vL12_0_0 vf14_0 vf67_0) α k = pa12_0.unc fun ds => fnM Tryz.prog (E12_0g vf67_0 vf68_0 vf14_0) sh12 (cm12_0g vL12_0_0) rs12 k ds := by kernel_rfl
theorem fm12_0 : ∀ (α : Type) (k : List RV → Option α), Fn12_0 f12_0 α k = pa12_0.unc fun ds => fnM Tryz.prog E12_0 sh12 cm12_0 rs12 k ds := fm12_0g f67_0 f68_0 f14_0 L12_0_0
theorem is12 : FnIs Tryz.prog 12 nt12 tr12 tl12 cm12_0.erase rs12 := ⟨Tryz.f12, Tryz.func12, rfl, by kernel_rfl, by kernel_rfl, by kernel_rfl⟩
theorem io12_0 : InstOk Tryz.prog 12 nt12 ⟨pa12_0, Fn12_0 f12_0⟩ := inst_ok eo12_0 followsTry is12 ⟨⟨sh12, cm12_0, by kernel_rfl, gm12_0, fm12_0⟩⟩
abbrev nt66 : Nat := 19
def sh66 : List (Nat × List Sh) := [(8, [.int .i64, .int .i64]), (15, [.int .i64]), (17, [.int .i64])]
def r66_2 : List AOper := [⟨(some 3), (.box (.tmp 0)), none⟩, ⟨(some 6), (.mv (.const (.int .i64 0))), none⟩]
def r66_6 : List AOper := [⟨(some 8), (.load true 2 (.tmp 3)), none⟩, ⟨(some 9), (.mv (.tmp 1)), none⟩, ⟨(some 10), (.mv (.tmp 2)), none⟩, ⟨(some 11), (.call 163 [(.tmp 8), (.tmp 9), (.tmp 10)]), none⟩, ⟨(some 12), (.pure (oB (.unOp .not 4 (.tmp 11)) 4)), none⟩, ⟨(some 7), (.mv (.tmp 12)), none⟩]
def r66_9 : List AOper := [⟨(some 6), (.mv (.const (.int .i64 2))), none⟩]
def r66_11 : List AOper := [⟨(some 14), (.faddr 0 (.tmp 3)), none⟩, ⟨(some 15), (.load false 1 (.tmp 14)), none⟩, ⟨(some 16), (.faddr 1 (.tmp 3)), none⟩, ⟨(some 17), (.load false 1 (.tmp 16)), none⟩, ⟨(some 18), (.bin .gtr 3 (.tmp 15) (.tmp 17)), none⟩, ⟨(some 13), (.mv (.tmp 18)), none⟩]
def r66_14 : List AOper := [⟨(some 6), (.mv (.const (.int .i64 10))), none⟩]
def r66_16 : List AOper := [⟨(some 6), (.mv (.const (.int .i64 0))), none⟩]
def tr66 : List (Nat × Tidy) := [(0, ⟨[1, 2, 3], true, [], []⟩), (1, ⟨[3, 7], true, [], []⟩), (2, ⟨[6], true, [], []⟩), (3, ⟨[13], true, [], []⟩), (4, ⟨[6], true, [], []⟩), (5, ⟨[6], true, [], []⟩)]
def tl66 : List (Nat × Tidy) := []
def rs66 : List AResV := [.tmp 6]
def pr66_0_0 : PT (List RV) := pRs [pR false [rD (dI .i64)]]
def ur66_0_0 {β : Type} (g : List RV → β) : Int → β := pr66_0_0.unc g
def E66_0g (vf163_0 : Tf163_0) : EnvK := EnvK.of [⟨163, nt163, [⟨pa163_0, Fn163_0 vf163_0⟩]⟩] noSeq
noncomputable def E66_0 : EnvK := E66_0g f163_0
theorem eo66_0 : E66_0.Ok Tryz.prog := EnvK.of_ok noSeq_ok ⟨⟨io163_0, trivial⟩, trivial⟩
abbrev Tf66_0 : Type 1 := (α : Type) → Int → Int → Int → Int → (Int → Option α) → Option α
def f66_0g (vf163_0 : Tf163_0) (α : Type) (x1 : Int) (x2 : Int) (x3 : Int) (x4 : Int) (k1 : Int → Option α) : Option α :=
  vf163_0 α x1 x2 x3 x4
    (fun (x5 : Bool) => cK (!x5)
      (k1 2)
      (cK (decide (x2 < x1))
        (k1 10)
        (k1 0)))
noncomputable def f66_0 (α : Type) (x1 : Int) (x2 : Int) (x3 : Int) (x4 : Int) (k1 : Int → Option α) : Option α := f66_0g f163_0 α x1 x2 x3 x4 k1
def pa66_0 : PT (List DV) := pA [pV true [(dI .i64), (dI .i64)], pV false [(dI .i64)], pV false [(dI .i64)]]
def Fn66_0 (v : Tf66_0) (α : Type) (k : List RV → Option α) : Int → Int → Int → Int → Option α := fun x1 x2 x3 x4 => v α x1 x2 x3 x4 (fun (y1 : Int) => ur66_0_0 k y1)
noncomputable def cm66_0g  : MCode := (.seq (.region r66_2 [] (some ⟨[1, 2, 3], true, [], []⟩)) (.seq (.block 0 (.seq (.region r66_6 [] (some ⟨[3, 7], true, [], []⟩)) (.cond (.tmp 7) (.seq (.region r66_9 [] (some ⟨[6], true, [], []⟩)) .ret) (.seq (.region r66_11 [] (some ⟨[13], true, [], []⟩)) (.cond (.tmp 13) (.seq (.region r66_14 [] (some ⟨[6], true, [], []⟩)) .ret) .skip))))) (.seq (.region r66_16 [] (some ⟨[6], true, [], []⟩)) .ret)))
noncomputable def cm66_0 : MCode := cm66_0g 
theorem gm66_0 : cm66_0.Good Tryz.prog E66_0 sh66 := ⟨trivial, ⟨⟨trivial, ⟨⟨trivial, trivial⟩, ⟨trivial, ⟨⟨trivial, trivial⟩, trivial⟩⟩⟩⟩, ⟨trivial, trivial⟩⟩⟩
theorem fm66_0g (vf163_0 : Tf163_0)  (α : Type) (k : List RV → Option α) : Fn66_0 (f66_0g vf163_0) α k = pa66_0.unc fun ds => fnM Tryz.prog (E66_0g vf163_0) sh66 (cm66_0g ) rs66 k ds := by kernel_rfl
theorem fm66_0 : ∀ (α : Type) (k : List RV → Option α), Fn66_0 f66_0 α k = pa66_0.unc fun ds => fnM Tryz.prog E66_0 sh66 cm66_0 rs66 k ds := fm66_0g f163_0
theorem is66 : FnIs Tryz.prog 66 nt66 tr66 tl66 cm66_0.erase rs66 := ⟨Tryz.f66, Tryz.func66, rfl, by kernel_rfl, by kernel_rfl, by kernel_rfl⟩
theorem io66_0 : InstOk Tryz.prog 66 nt66 ⟨pa66_0, Fn66_0 f66_0⟩ := inst_ok eo66_0 followsTry is66 ⟨⟨sh66, cm66_0, by kernel_rfl, gm66_0, fm66_0⟩⟩
abbrev nt11 : Nat := 70
def sh11 : List (Nat × List Sh) := [(29, [.str]), (30, [.str]), (58, [.int .i64]), (63, [.int .i64, .int .i64]), (69, [.int .i64, .int .i64, .int .i64])]
def r11_2 : List AOper := [⟨(some 2), (.alloc [(.d (.v (.int .i64 0))), (.d (.v (.int .i64 0))), (.d (.v (.int .i64 0)))]), none⟩, ⟨(some 3), (.mv (.const (.int .i64 0))), none⟩]
def r11_4 : List AOper := [⟨(some 4), (.alloc [(.d (.v (.int .i64 0))), (.d (.v (.int .i64 0))), (.d (.v (.int .i64 0)))]), none⟩]
def r11_6 : List AOper := [⟨(some 12), (.faddr 0 (.tmp 4)), none⟩, ⟨(some 13), (.faddr 1 (.tmp 4)), none⟩, ⟨(some 14), (.faddr 0 (.tmp 13)), none⟩, ⟨(some 15), (.faddr 1 (.tmp 4)), none⟩, ⟨(some 16), (.faddr 1 (.tmp 15)), none⟩, ⟨(some 17), (.build [(.d (.v (.pointer none))), (.d (.v (.pointer none))), (.d (.v (.pointer none)))] [(0, 1, (.tmp 12)), (1, 1, (.tmp 14)), (2, 1, (.tmp 16))]), none⟩, ⟨(some 5), (.alloc [(.d (.v (.pointer none))), (.d (.v (.pointer none))), (.d (.v (.pointer none)))]), none⟩, ⟨none, (.store 3 (.tmp 5) (.tmp 17)), none⟩]
def r11_8 : List AOper := [⟨(some 18), (.mv (.tmp 0)), none⟩, ⟨(some 19), (.call 62 [(.tmp 18), (.const (.string ⟨#[32]⟩))]), none⟩, ⟨(some 6), (.mv (.tmp 19)), none⟩]
def r11_11 : List AOper := [⟨(some 20), (.mv (.tmp 6)), none⟩, ⟨(some 21), (.len (.tmp 20)), none⟩, ⟨(some 22), (.bin .neq 3 (.tmp 21) (.const (.int .i64 3))), none⟩]
def r11_14 : List AOper := [⟨(some 23), (.build [(.d (.v (.int .i64 0))), (.d (.v (.int .i64 0))), (.d (.v (.int .i64 0)))] []), none⟩, ⟨none, (.store 3 (.tmp 2) (.tmp 23)), none⟩, ⟨(some 3), (.mv (.const (.int .i64 4))), none⟩]
def r11_17 : List AOper := [⟨(some 24), (.mv (.tmp 6)), none⟩, ⟨(some 25), (.len (.tmp 24)), none⟩, ⟨(some 26), (.mv (.const (.int .i64 0))), none⟩]
def td11_19 : Option Tidy := (some ⟨[2, 4, 5, 24, 25, 26], true, [⟨false, 24, 0, 20024, 1⟩], []⟩)
def r11_21 : List AOper := [⟨(some 27), (.bin .lss 3 (.tmp 26) (.tmp 25)), none⟩]
def r11_27 : List AOper := [⟨(some 28), (.mv (.tmp 26)), none⟩, ⟨(some 29), (.iaddr 1 none (.tmp 24) (.tmp 26)), none⟩, ⟨(some 30), (.load false 1 (.tmp 29)), none⟩, ⟨(some 7), (.mv (.tmp 28)), none⟩, ⟨(some 8), (.mv (.tmp 30)), none⟩]
def r11_29 : List AOper := [⟨(some 32), (.mv (.tmp 8)), none⟩, ⟨(some 33), (.call 63 [(.tmp 32)]), none⟩, ⟨(some 31), (.mv (.tmp 33)), none⟩, ⟨(some 34), (.extract 0 (.tmp 31)), none⟩, ⟨(some 35), (.extract 1 (.tmp 31)), none⟩, ⟨(some 9), (.mv (.tmp 34)), none⟩, ⟨(some 10), (.mv (.tmp 35)), none⟩]
def r11_32 : List AOper := [⟨(some 36), (.mv (.tmp 10)), none⟩, ⟨(some 37), (.bin .neq 153 (.tmp 36) (.const .nilIface)), none⟩, ⟨(some 38), (.mv (.tmp 37)), none⟩, ⟨(some 39), (.mv (.tmp 9)), (some (38, false))⟩, ⟨(some 40), (.call 61 [(.tmp 39)]), (some (38, false))⟩, ⟨(some 41), (.mv (.tmp 8)), (some (38, false))⟩, ⟨(some 42), (.bin .neq 9 (.tmp 40) (.tmp 41)), (some (38, false))⟩, ⟨(some 43), (.pick (.tmp 38) (.const (.bool true)) (.tmp 42)), none⟩, ⟨(some 44), (.mv (.tmp 43)), none⟩, ⟨(some 45), (.mv (.tmp 8)), (some (44, false))⟩, ⟨(some 46), (.call 64 [(.tmp 45), (.const (.string ⟨#[45]⟩))]), (some (44, false))⟩, ⟨(some 47), (.pure (oB (.call { callee := .builtin .len, args := #[(.tmp 46)], argTypes := #[9] }) 3)), (some (44, false))⟩, ⟨(some 48), (.bin .gtr 3 (.tmp 47) (.const (.int .i64 7))), (some (44, false))⟩, ⟨(some 49), (.pick (.tmp 44) (.const (.bool true)) (.tmp 48)), none⟩]
def r11_35 : List AOper := [⟨(some 50), (.build [(.d (.v (.int .i64 0))), (.d (.v (.int .i64 0))), (.d (.v (.int .i64 0)))] []), none⟩, ⟨none, (.store 3 (.tmp 2) (.tmp 50)), none⟩, ⟨(some 3), (.mv (.const (.int .i64 4))), none⟩]
def r11_36 : List AOper := [⟨(some 51), (.mv (.tmp 7)), none⟩, ⟨(some 52), (.iaddr 1 (some 3) (.tmp 5) (.tmp 51)), none⟩, ⟨(some 53), (.load false 1 (.tmp 52)), none⟩, ⟨(some 54), (.mv (.tmp 9)), none⟩, ⟨(some 55), (.nilchk (.tmp 53)), none⟩, ⟨none, (.store 1 (.tmp 55) (.tmp 54)), none⟩]
def r11_37 : List AOper := [⟨(some 56), (.bin .add 3 (.tmp 26) (.const (.int .i64 1))), none⟩, ⟨(some 26), (.mv (.tmp 56)), none⟩]
def r11_40 : List AOper := [⟨(some 57), (.faddr 0 (.tmp 4)), none⟩, ⟨(some 58), (.load false 1 (.tmp 57)), none⟩, ⟨(some 59), (.call 65 [(.tmp 58), (.const (.int .i64 0)), (.const (.int .i64 39))]), none⟩, ⟨(some 60), (.pure (oB (.unOp .not 4 (.tmp 59)) 4)), none⟩]
def r11_43 : List AOper := [⟨(some 61), (.build [(.d (.v (.int .i64 0))), (.d (.v (.int .i64 0))), (.d (.v (.int .i64 0)))] []), none⟩, ⟨none, (.store 3 (.tmp 2) (.tmp 61)), none⟩, ⟨(some 3), (.mv (.const (.int .i64 2))), none⟩]
def r11_46 : List AOper := [⟨(some 62), (.faddr 1 (.tmp 4)), none⟩, ⟨(some 63), (.load true 2 (.tmp 62)), none⟩, ⟨(some 64), (.call 66 [(.tmp 63), (.const (.int .i64 0)), (.const (.int .i64 1000000))]), none⟩, ⟨(some 11), (.mv (.tmp 64)), none⟩]
def r11_48 : List AOper := [⟨(some 65), (.mv (.tmp 11)), none⟩, ⟨(some 66), (.bin .neq 28 (.tmp 65) (.const (.int .i64 0))), none⟩]
def r11_51 : List AOper := [⟨(some 67), (.build [(.d (.v (.int .i64 0))), (.d (.v (.int .i64 0))), (.d (.v (.int .i64 0)))] []), none⟩, ⟨(some 68), (.mv (.tmp 11)), none⟩, ⟨none, (.store 3 (.tmp 2) (.tmp 67)), none⟩, ⟨(some 3), (.mv (.tmp 68)), none⟩]
def r11_53 : List AOper := [⟨(some 69), (.load true 3 (.tmp 4)), none⟩, ⟨none, (.store 3 (.tmp 2) (.tmp 69)), none⟩, ⟨(some 3), (.mv (.const (.int .i64 0))), none⟩]
def tr11 : List (Nat × Tidy) := [(0, ⟨[0, 2], true, [], []⟩), (1, ⟨[0, 2, 4], true, [], []⟩), (2, ⟨[0, 2, 4, 5], true, [], []⟩), (3, ⟨[2, 4, 5, 6], true, [], []⟩), (4, ⟨[2, 4, 5, 6, 22], true, [], []⟩), (5, ⟨[2, 3], true, [], []⟩), (6, ⟨[2, 4, 5, 24, 25, 26], true, [], []⟩), (7, ⟨[2, 4, 5, 24, 25, 26, 27], true, [], []⟩), (8, ⟨[2, 4, 5, 7, 8, 24, 25, 26], true, [], []⟩), (9, ⟨[2, 4, 5, 7, 8, 9, 10, 24, 25, 26], true, [], []⟩), (10, ⟨[2, 4, 5, 7, 9, 24, 25, 26, 49], true, [], []⟩), (11, ⟨[2, 3], true, [], []⟩), (12, ⟨[2, 4, 5, 24, 25, 26], true, [], []⟩), (13, ⟨[2, 4, 5, 24, 25, 26], true, [], []⟩), (14, ⟨[2, 4, 60], true, [], []⟩), (15, ⟨[2, 3], true, [], []⟩), (16, ⟨[2, 4, 11], true, [], []⟩), (17, ⟨[2, 4, 11, 66], true, [], []⟩), (18, ⟨[2, 3], true, [], []⟩), (19, ⟨[2, 3], true, [], []⟩)]
def tl11 : List (Nat × Tidy) := [(7, ⟨[2, 4, 5, 24, 25, 26], true, [⟨false, 24, 0, 20024, 1⟩], []⟩)]
def rs11 : List AResV := [.cell 2 true 3, .tmp 3]
def p11_0_0 : PT St := pS [sl 2 (aV false [(cPtr 2 0)]), sl 4 (aV false [(cPtr 4 0)]), sl 5 (aV false [(cPtr 5 0)]), sl 7 (aV false [(cD (dIc .i64 0))]), sl 8 (aV false [(cD dS)]), sl 24 (aV false [(cRef 20024)]), sl 25 (aV false [(cD (dI .i64))]), sl 26 (aV false [(cD (dIc .i64 0))])] [eBox 2 [(cD (dI .i64)), (cD (dI .i64)), (cD (dI .i64))], eBox 4 [(cD (dI .i64)), (cD (dI .i64)), (cD (dI .i64))], eBox 5 [(cPtr 4 0), (cPtr 4 1), (cPtr 4 2)], eOwn 20024 1]
def u11_0_0 {β : Type} (g : St → β) : ByteArray → Int → Int → Int → Int → Int → Int → Int → Rows → β := p11_0_0.unc g
def p11_0_1 : PT St := pS [sl 2 (aV false [(cPtr 2 0)]), sl 4 (aV false [(cPtr 4 0)]), sl 5 (aV false [(cPtr 5 0)]), sl 7 (aV false [(cD (dIc .i64 0))]), sl 8 (aV false [(cD dS)]), sl 9 (aV false [(cD (dI .i64))]), sl 10 (aV false [(cD dNIf)]), sl 24 (aV false [(cRef 20024)]), sl 25 (aV false [(cD (dI .i64))]), sl 26 (aV false [(cD (dIc .i64 0))])] [eBox 2 [(cD (dI .i64)), (cD (dI .i64)), (cD (dI .i64))], eBox 4 [(cD (dI .i64)), (cD (dI .i64)), (cD (dI .i64))], eBox 5 [(cPtr 4 0), (cPtr 4 1), (cPtr 4 2)], eOwn 20024 1]
def u11_0_1 {β : Type} (g : St → β) : ByteArray → Int → Int → Int → Int → Int → Int → Int → Int → Rows → β := p11_0_1.unc g
def p11_0_2 : PT St := pS [sl 2 (aV false [(cPtr 2 0)]), sl 4 (aV false [(cPtr 4 0)]), sl 5 (aV false [(cPtr 5 0)]), sl 7 (aV false [(cD (dIc .i64 0))]), sl 8 (aV false [(cD dS)]), sl 9 (aV false [(cD (dI .i64))]), sl 10 (aV false [(cD (dIf 362 false [(dP [] 0)]))]), sl 24 (aV false [(cRef 20024)]), sl 25 (aV false [(cD (dI .i64))]), sl 26 (aV false [(cD (dIc .i64 0))])] [eBox 2 [(cD (dI .i64)), (cD (dI .i64)), (cD (dI .i64))], eBox 4 [(cD (dI .i64)), (cD (dI .i64)), (cD (dI .i64))], eBox 5 [(cPtr 4 0), (cPtr 4 1), (cPtr 4 2)], eOwn 20024 1]
def u11_0_2 {β : Type} (g : St → β) : ByteArray → Int → Int → Int → Int → Int → Int → Int → Int → Rows → β := p11_0_2.unc g
def p11_0_3 : PT St := pS [sl 2 (aV false [(cPtr 2 0)]), sl 4 (aV false [(cPtr 4 0)]), sl 5 (aV false [(cPtr 5 0)]), sl 7 (aV false [(cD (dIc .i64 1))]), sl 8 (aV false [(cD dS)]), sl 24 (aV false [(cRef 20024)]), sl 25 (aV false [(cD (dI .i64))]), sl 26 (aV false [(cD (dIc .i64 1))])] [eBox 2 [(cD (dI .i64)), (cD (dI .i64)), (cD (dI .i64))], eBox 4 [(cD (dI .i64)), (cD (dI .i64)), (cD (dI .i64))], eBox 5 [(cPtr 4 0), (cPtr 4 1), (cPtr 4 2)], eOwn 20024 1]
def u11_0_3 {β : Type} (g : St → β) : ByteArray → Int → Int → Int → Int → Int → Int → Int → Rows → β := p11_0_3.unc g
def p11_0_4 : PT St := pS [sl 2 (aV false [(cPtr 2 0)]), sl 4 (aV false [(cPtr 4 0)]), sl 5 (aV false [(cPtr 5 0)]), sl 7 (aV false [(cD (dIc .i64 1))]), sl 8 (aV false [(cD dS)]), sl 9 (aV false [(cD (dI .i64))]), sl 10 (aV false [(cD dNIf)]), sl 24 (aV false [(cRef 20024)]), sl 25 (aV false [(cD (dI .i64))]), sl 26 (aV false [(cD (dIc .i64 1))])] [eBox 2 [(cD (dI .i64)), (cD (dI .i64)), (cD (dI .i64))], eBox 4 [(cD (dI .i64)), (cD (dI .i64)), (cD (dI .i64))], eBox 5 [(cPtr 4 0), (cPtr 4 1), (cPtr 4 2)], eOwn 20024 1]
def u11_0_4 {β : Type} (g : St → β) : ByteArray → Int → Int → Int → Int → Int → Int → Int → Int → Rows → β := p11_0_4.unc g
def p11_0_5 : PT St := pS [sl 2 (aV false [(cPtr 2 0)]), sl 4 (aV false [(cPtr 4 0)]), sl 5 (aV false [(cPtr 5 0)]), sl 7 (aV false [(cD (dIc .i64 1))]), sl 8 (aV false [(cD dS)]), sl 9 (aV false [(cD (dI .i64))]), sl 10 (aV false [(cD (dIf 362 false [(dP [] 0)]))]), sl 24 (aV false [(cRef 20024)]), sl 25 (aV false [(cD (dI .i64))]), sl 26 (aV false [(cD (dIc .i64 1))])] [eBox 2 [(cD (dI .i64)), (cD (dI .i64)), (cD (dI .i64))], eBox 4 [(cD (dI .i64)), (cD (dI .i64)), (cD (dI .i64))], eBox 5 [(cPtr 4 0), (cPtr 4 1), (cPtr 4 2)], eOwn 20024 1]
def u11_0_5 {β : Type} (g : St → β) : ByteArray → Int → Int → Int → Int → Int → Int → Int → Int → Rows → β := p11_0_5.unc g
def p11_0_6 : PT St := pS [sl 2 (aV false [(cPtr 2 0)]), sl 4 (aV false [(cPtr 4 0)]), sl 5 (aV false [(cPtr 5 0)]), sl 7 (aV false [(cD (dIc .i64 2))]), sl 8 (aV false [(cD dS)]), sl 24 (aV false [(cRef 20024)]), sl 25 (aV false [(cD (dI .i64))]), sl 26 (aV false [(cD (dIc .i64 2))])] [eBox 2 [(cD (dI .i64)), (cD (dI .i64)), (cD (dI .i64))], eBox 4 [(cD (dI .i64)), (cD (dI .i64)), (cD (dI .i64))], eBox 5 [(cPtr 4 0), (cPtr 4 1), (cPtr 4 2)], eOwn 20024 1]
def u11_0_6 {β : Type} (g : St → β) : ByteArray → Int → Int → Int → Int → Int → Int → Int → Rows → β := p11_0_6.unc g
def p11_0_7 : PT St := pS [sl 2 (aV false [(cPtr 2 0)]), sl 4 (aV false [(cPtr 4 0)]), sl 5 (aV false [(cPtr 5 0)]), sl 7 (aV false [(cD (dIc .i64 2))]), sl 8 (aV false [(cD dS)]), sl 9 (aV false [(cD (dI .i64))]), sl 10 (aV false [(cD dNIf)]), sl 24 (aV false [(cRef 20024)]), sl 25 (aV false [(cD (dI .i64))]), sl 26 (aV false [(cD (dIc .i64 2))])] [eBox 2 [(cD (dI .i64)), (cD (dI .i64)), (cD (dI .i64))], eBox 4 [(cD (dI .i64)), (cD (dI .i64)), (cD (dI .i64))], eBox 5 [(cPtr 4 0), (cPtr 4 1), (cPtr 4 2)], eOwn 20024 1]
def u11_0_7 {β : Type} (g : St → β) : ByteArray → Int → Int → Int → Int → Int → Int → Int → Int → Rows → β := p11_0_7.unc g
def p11_0_8 : PT St := pS [sl 2 (aV false [(cPtr 2 0)]), sl 4 (aV false [(cPtr 4 0)]), sl 5 (aV false [(cPtr 5 0)]), sl 7 (aV false [(cD (dIc .i64 2))]), sl 8 (aV false [(cD dS)]), sl 9 (aV false [(cD (dI .i64))]), sl 10 (aV false [(cD (dIf 362 false [(dP [] 0)]))]), sl 24 (aV false [(cRef 20024)]), sl 25 (aV false [(cD (dI .i64))]), sl 26 (aV false [(cD (dIc .i64 2))])] [eBox 2 [(cD (dI .i64)), (cD (dI .i64)), (cD (dI .i64))], eBox 4 [(cD (dI .i64)), (cD (dI .i64)), (cD (dI .i64))], eBox 5 [(cPtr 4 0), (cPtr 4 1), (cPtr 4 2)], eOwn 20024 1]
def u11_0_8 {β : Type} (g : St → β) : ByteArray → Int → Int → Int → Int → Int → Int → Int → Int → Rows → β := p11_0_8.unc g
def p11_0_9 : PT St := pS [sl 2 (aV false [(cPtr 2 0)]), sl 4 (aV false [(cPtr 4 0)]), sl 5 (aV false [(cPtr 5 0)]), sl 7 (aV false [(cD (dIc .i64 3))]), sl 8 (aV false [(cD dS)]), sl 24 (aV false [(cRef 20024)]), sl 25 (aV false [(cD (dI .i64))]), sl 26 (aV false [(cD (dIc .i64 3))])] [eBox 2 [(cD (dI .i64)), (cD (dI .i64)), (cD (dI .i64))], eBox 4 [(cD (dI .i64)), (cD (dI .i64)), (cD (dI .i64))], eBox 5 [(cPtr 4 0), (cPtr 4 1), (cPtr 4 2)], eOwn 20024 1]
def u11_0_9 {β : Type} (g : St → β) : ByteArray → Int → Int → Int → Int → Int → Int → Int → Rows → β := p11_0_9.unc g
def p11_0_10 : PT St := pS [sl 2 (aV false [(cPtr 2 0)]), sl 4 (aV false [(cPtr 4 0)]), sl 5 (aV false [(cPtr 5 0)]), sl 7 (aV false [(cD (dIc .i64 3))]), sl 8 (aV false [(cD dS)]), sl 9 (aV false [(cD (dI .i64))]), sl 10 (aV false [(cD dNIf)]), sl 24 (aV false [(cRef 20024)]), sl 25 (aV false [(cD (dI .i64))]), sl 26 (aV false [(cD (dIc .i64 3))])] [eBox 2 [(cD (dI .i64)), (cD (dI .i64)), (cD (dI .i64))], eBox 4 [(cD (dI .i64)), (cD (dI .i64)), (cD (dI .i64))], eBox 5 [(cPtr 4 0), (cPtr 4 1), (cPtr 4 2)], eOwn 20024 1]
def u11_0_10 {β : Type} (g : St → β) : ByteArray → Int → Int → Int → Int → Int → Int → Int → Int → Rows → β := p11_0_10.unc g
def p11_0_11 : PT St := pS [sl 2 (aV false [(cPtr 2 0)]), sl 4 (aV false [(cPtr 4 0)]), sl 5 (aV false [(cPtr 5 0)]), sl 7 (aV false [(cD (dIc .i64 3))]), sl 8 (aV false [(cD dS)]), sl 9 (aV false [(cD (dI .i64))]), sl 10 (aV false [(cD (dIf 362 false [(dP [] 0)]))]), sl 24 (aV false [(cRef 20024)]), sl 25 (aV false [(cD (dI .i64))]), sl 26 (aV false [(cD (dIc .i64 3))])] [eBox 2 [(cD (dI .i64)), (cD (dI .i64)), (cD (dI .i64))], eBox 4 [(cD (dI .i64)), (cD (dI .i64)), (cD (dI .i64))], eBox 5 [(cPtr 4 0), (cPtr 4 1), (cPtr 4 2)], eOwn 20024 1]
def u11_0_11 {β : Type} (g : St → β) : ByteArray → Int → Int → Int → Int → Int → Int → Int → Int → Rows → β := p11_0_11.unc g
def p11_0_12 : PT St := pS [sl 2 (aV false [(cPtr 2 0)]), sl 4 (aV false [(cPtr 4 0)]), sl 5 (aV false [(cPtr 5 0)]), sl 6 (aV false [(cRef 19)]), sl 22 (aV false [(cD dB)])] [eBox 2 [(cD (dI .i64)), (cD (dI .i64)), (cD (dI .i64))], eBox 4 [(cD (dI .i64)), (cD (dI .i64)), (cD (dI .i64))], eBox 5 [(cPtr 4 0), (cPtr 4 1), (cPtr 4 2)], eOwn 19 1]
def u11_0_12 {β : Type} (g : St → β) : Bool → Int → Int → Int → Int → Int → Int → Rows → β := p11_0_12.unc g
def p11_0_13 : PT St := pS [sl 2 (aV false [(cPtr 2 0)]), sl 3 (aV false [(cD (dI .i64))])] [eBox 2 [(cD (dI .i64)), (cD (dI .i64)), (cD (dI .i64))]]
def u11_0_13 {β : Type} (g : St → β) : Int → Int → Int → Int → β := p11_0_13.unc g
def p11_0_14 : PT St := pS [sl 2 (aV false [(cPtr 2 0)]), sl 4 (aV false [(cPtr 4 0)]), sl 5 (aV false [(cPtr 5 0)]), sl 24 (aV false [(cRef 20024)]), sl 25 (aV false [(cD (dI .i64))]), sl 26 (aV false [(cD (dI .i64))]), sl 27 (aV false [(cD dB)])] [eBox 2 [(cD (dI .i64)), (cD (dI .i64)), (cD (dI .i64))], eBox 4 [(cD (dI .i64)), (cD (dI .i64)), (cD (dI .i64))], eBox 5 [(cPtr 4 0), (cPtr 4 1), (cPtr 4 2)], eOwn 20024 1]
def u11_0_14 {β : Type} (g : St → β) : Int → Int → Bool → Int → Int → Int → Int → Int → Int → Rows → β := p11_0_14.unc g
def pr11_0_0 : PT (List RV) := pRs [pR true [rD (dI .i64), rD (dI .i64), rD (dI .i64)], pR false [rD (dI .i64)]]
def ur11_0_0 {β : Type} (g : List RV → β) : Int → Int → Int → Int → β := pr11_0_0.unc g
def E11_0g (vf62_0 : Tf62_0) (vf63_0 : Tf63_0) (vf61_0 : Tf61_0) (vf64_0 : Tf64_0) (vf65_0 : Tf65_0) (vf66_0 : Tf66_0) : EnvK := EnvK.of [⟨62, nt62, [⟨pa62_0, Fn62_0 vf62_0⟩]⟩, ⟨63, nt63, [⟨pa63_0, Fn63_0 vf63_0⟩]⟩, ⟨61, nt61, [⟨pa61_0, Fn61_0 vf61_0⟩]⟩, ⟨64, nt64, [⟨pa64_0, Fn64_0 vf64_0⟩]⟩, ⟨65, nt65, [⟨pa65_0, Fn65_0 vf65_0⟩]⟩, ⟨66, nt66, [⟨pa66_0, Fn66_0 vf66_0⟩]⟩] noSeq
noncomputable def E11_0 : EnvK := E11_0g f62_0 f63_0 f61_0 f64_0 f65_0 f66_0
theorem eo11_0 : E11_0.Ok Tryz.prog := EnvK.of_ok noSeq_ok ⟨⟨io62_0, trivial⟩, ⟨io63_0, trivial⟩, ⟨io61_0, trivial⟩, ⟨io64_0, trivial⟩, ⟨io65_0, trivial⟩, ⟨io66_0, trivial⟩, trivial⟩
noncomputable def c11_0_28g  : MCode := (.region r11_29 [] (some ⟨[2, 4, 5, 7, 8, 9, 10, 24, 25, 26], true, [], []⟩))
noncomputable def c11_0_28 : MCode := c11_0_28g 
theorem g11_0_28 : c11_0_28.Good Tryz.prog E11_0 sh11 := trivial
--CODE 28 0
abbrev TJ11_0_0 : Type 1 := (α : Type) → ByteArray → (Int → Option α) → (Int → Option α) → Option α
def J11_0_0g (vf63_0 : Tf63_0) (α : Type) (x13 : ByteArray) (k1 : Int → Option α) (k2 : Int → Option α) : Option α :=
  vf63_0 α x13
    (fun (x23 : Int) => k1 x23)
    (fun (x24 : Int) => k2 x24)
noncomputable def J11_0_0 (α : Type) (x13 : ByteArray) (k1 : Int → Option α) (k2 : Int → Option α) : Option α := J11_0_0g f63_0 α x13 k1 k2
def F11_0_0 (v : TJ11_0_0) (α : Type) (K : Exit → St → Option α) : ByteArray → Int → Int → Int → Int → Int → Int → Int → Rows → Option α := fun x13 x14 x15 x16 x17 x18 x19 x20 x21 => v α x13 (fun (y1 : Int) => u11_0_1 (K .normal) x13 y1 x14 x15 x16 x17 x18 x19 x20 x21) (fun (y1 : Int) => u11_0_2 (K .normal) x13 y1 x14 x15 x16 x17 x18 x19 x20 x21) 
theorem m11_0_0g (vf62_0 : Tf62_0) (vf63_0 : Tf63_0) (vf61_0 : Tf61_0) (vf64_0 : Tf64_0) (vf65_0 : Tf65_0) (vf66_0 : Tf66_0)  (α : Type) (K : Exit → St → Option α) : F11_0_0 (J11_0_0g vf63_0) α K = p11_0_0.unc fun σ => runM Tryz.prog (E11_0g vf62_0 vf63_0 vf61_0 vf64_0 vf65_0 vf66_0) sh11 (c11_0_28g ) K σ := by kernel_rfl
theorem m11_0_0 : ∀ (α : Type) (K : Exit → St → Option α), F11_0_0 J11_0_0 α K = p11_0_0.unc fun σ => runM Tryz.prog E11_0 sh11 c11_0_28 K σ := m11_0_0g f62_0 f63_0 f61_0 f64_0 f65_0 f66_0
--CODE 28 0
abbrev TJ11_0_1 : Type 1 := (α : Type) → ByteArray → (Int → Option α) → (Int → Option α) → Option α
def J11_0_1g (vf63_0 : Tf63_0) (α : Type) (x31 : ByteArray) (k1 : Int → Option α) (k2 : Int → Option α) : Option α :=
  vf63_0 α x31
    (fun (x41 : Int) => k1 x41)
    (fun (x42 : Int) => k2 x42)
noncomputable def J11_0_1 (α : Type) (x31 : ByteArray) (k1 : Int → Option α) (k2 : Int → Option α) : Option α := J11_0_1g f63_0 α x31 k1 k2
def F11_0_1 (v : TJ11_0_1) (α : Type) (K : Exit → St → Option α) : ByteArray → Int → Int → Int → Int → Int → Int → Int → Rows → Option α := fun x31 x32 x33 x34 x35 x36 x37 x38 x39 => v α x31 (fun (y1 : Int) => u11_0_4 (K .normal) x31 y1 x32 x33 x34 x35 x36 x37 x38 x39) (fun (y1 : Int) => u11_0_5 (K .normal) x31 y1 x32 x33 x34 x35 x36 x37 x38 x39) 
theorem m11_0_1g (vf62_0 : Tf62_0) (vf63_0 : Tf63_0) (vf61_0 : Tf61_0) (vf64_0 : Tf64_0) (vf65_0 : Tf65_0) (vf66_0 : Tf66_0)  (α : Type) (K : Exit → St → Option α) : F11_0_1 (J11_0_1g vf63_0) α K = p11_0_3.unc fun σ => runM Tryz.prog (E11_0g vf62_0 vf63_0 vf61_0 vf64_0 vf65_0 vf66_0) sh11 (c11_0_28g ) K σ := by kernel_rfl
theorem m11_0_1 : ∀ (α : Type) (K : Exit → St → Option α), F11_0_1 J11_0_1 α K = p11_0_3.unc fun σ => runM Tryz.prog E11_0 sh11 c11_0_28 K σ := m11_0_1g f62_0 f63_0 f61_0 f64_0 f65_0 f66_0
--CODE 28 0
abbrev TJ11_0_2 : Type 1 := (α : Type) → ByteArray → (Int → Option α) → (Int → Option α) → Option α
def J11_0_2g (vf63_0 : Tf63_0) (α : Type) (x49 : ByteArray) (k1 : Int → Option α) (k2 : Int → Option α) : Option α :=
  vf63_0 α x49
    (fun (x59 : Int) => k1 x59)
    (fun (x60 : Int) => k2 x60)
noncomputable def J11_0_2 (α : Type) (x49 : ByteArray) (k1 : Int → Option α) (k2 : Int → Option α) : Option α := J11_0_2g f63_0 α x49 k1 k2
def F11_0_2 (v : TJ11_0_2) (α : Type) (K : Exit → St → Option α) : ByteArray → Int → Int → Int → Int → Int → Int → Int → Rows → Option α := fun x49 x50 x51 x52 x53 x54 x55 x56 x57 => v α x49 (fun (y1 : Int) => u11_0_7 (K .normal) x49 y1 x50 x51 x52 x53 x54 x55 x56 x57) (fun (y1 : Int) => u11_0_8 (K .normal) x49 y1 x50 x51 x52 x53 x54 x55 x56 x57) 
theorem m11_0_2g (vf62_0 : Tf62_0) (vf63_0 : Tf63_0) (vf61_0 : Tf61_0) (vf64_0 : Tf64_0) (vf65_0 : Tf65_0) (vf66_0 : Tf66_0)  (α : Type) (K : Exit → St → Option α) : F11_0_2 (J11_0_2g vf63_0) α K = p11_0_6.unc fun σ => runM Tryz.prog (E11_0g vf62_0 vf63_0 vf61_0 vf64_0 vf65_0 vf66_0) sh11 (c11_0_28g ) K σ := by kernel_rfl
theorem m11_0_2 : ∀ (α : Type) (K : Exit → St → Option α), F11_0_2 J11_0_2 α K = p11_0_6.unc fun σ => runM Tryz.prog E11_0 sh11 c11_0_28 K σ := m11_0_2g f62_0 f63_0 f61_0 f64_0 f65_0 f66_0
--CODE 28 0
abbrev TJ11_0_3 : Type 1 := (α : Type) → ByteArray → (Int → Option α) → (Int → Option α) → Option α
def J11_0_3g (vf63_0 : Tf63_0) (α : Type) (x67 : ByteArray) (k1 : Int → Option α) (k2 : Int → Option α) : Option α :=
  vf63_0 α x67
    (fun (x77 : Int) => k1 x77)
    (fun (x78 : Int) => k2 x78)
noncomputable def J11_0_3 (α : Type) (x67 : ByteArray) (k1 : Int → Option α) (k2 : Int → Option α) : Option α := J11_0_3g f63_0 α x67 k1 k2
def F11_0_3 (v : TJ11_0_3) (α : Type) (K : Exit → St → Option α) : ByteArray → Int → Int → Int → Int → Int → Int → Int → Rows → Option α := fun x67 x68 x69 x70 x71 x72 x73 x74 x75 => v α x67 (fun (y1 : Int) => u11_0_10 (K .normal) x67 y1 x68 x69 x70 x71 x72 x73 x74 x75) (fun (y1 : Int) => u11_0_11 (K .normal) x67 y1 x68 x69 x70 x71 x72 x73 x74 x75) 
theorem m11_0_3g (vf62_0 : Tf62_0) (vf63_0 : Tf63_0) (vf61_0 : Tf61_0) (vf64_0 : Tf64_0) (vf65_0 : Tf65_0) (vf66_0 : Tf66_0)  (α : Type) (K : Exit → St → Option α) : F11_0_3 (J11_0_3g vf63_0) α K = p11_0_9.unc fun σ => runM Tryz.prog (E11_0g vf62_0 vf63_0 vf61_0 vf64_0 vf65_0 vf66_0) sh11 (c11_0_28g ) K σ := by kernel_rfl
theorem m11_0_3 : ∀ (α : Type) (K : Exit → St → Option α), F11_0_3 J11_0_3 α K = p11_0_9.unc fun σ => runM Tryz.prog E11_0 sh11 c11_0_28 K σ := m11_0_3g f62_0 f63_0 f61_0 f64_0 f65_0 f66_0
noncomputable def c11_0_15g (vJ11_0_0 : TJ11_0_0) (vJ11_0_1 : TJ11_0_1) (vJ11_0_2 : TJ11_0_2) (vJ11_0_3 : TJ11_0_3) : MCode := (.seq (.region r11_17 [] (some ⟨[2, 4, 5, 24, 25, 26], true, [], []⟩)) (.block 0 (.loopU 4 td11_19 (.seq (.region r11_21 [] (some ⟨[2, 4, 5, 24, 25, 26, 27], true, [], []⟩)) (.seq (.cond (.tmp 27) .skip (.exit 0)) (.seq (.block 1 (.seq (.region r11_27 [] (some ⟨[2, 4, 5, 7, 8, 24, 25, 26], true, [], []⟩)) (.seq (.mark [⟨p11_0_0, F11_0_0 vJ11_0_0⟩, ⟨p11_0_3, F11_0_1 vJ11_0_1⟩, ⟨p11_0_6, F11_0_2 vJ11_0_2⟩, ⟨p11_0_9, F11_0_3 vJ11_0_3⟩] c11_0_28) (.seq (.seq (.region r11_32 [] (some ⟨[2, 4, 5, 7, 9, 24, 25, 26, 49], true, [], []⟩)) (.cond (.tmp 49) (.seq (.region r11_35 [] (some ⟨[2, 3], true, [], []⟩)) .ret) .skip)) (.region r11_36 [] (some ⟨[2, 4, 5, 24, 25, 26], true, [], []⟩)))))) (.region r11_37 [] (some ⟨[2, 4, 5, 24, 25, 26], true, [], []⟩))))))))
noncomputable def c11_0_15 : MCode := c11_0_15g J11_0_0 J11_0_1 J11_0_2 J11_0_3
theorem g11_0_15 : c11_0_15.Good Tryz.prog E11_0 sh11 := ⟨trivial, ⟨⟨trivial, ⟨⟨trivial, trivial⟩, ⟨⟨trivial, ⟨⟨g11_0_28, m11_0_0, m11_0_1, m11_0_2, m11_0_3, trivial⟩, ⟨⟨trivial, ⟨⟨trivial, trivial⟩, trivial⟩⟩, trivial⟩⟩⟩, trivial⟩⟩⟩, by decide⟩⟩
--CODE 15 0
abbrev TJ11_0_4 : Type 1 := (α : Type) → Int → Int → Int → Rows → (Option α) → (Int → Int → Bool → Int → Int → Int → Option α) → Option α
def J11_0_4g (vJ11_0_0 : TJ11_0_0) (vJ11_0_1 : TJ11_0_1) (vJ11_0_2 : TJ11_0_2) (vJ11_0_3 : TJ11_0_3) (vf61_0 : Tf61_0) (vf64_0 : Tf64_0) (α : Type) (x7 : Int) (x8 : Int) (x9 : Int) (x10 : Rows) (k1 : Option α) (k2 : Int → Int → Bool → Int → Int → Int → Option α) : Option α :=
  cK (decide (0 < ((List.length x10 : Nat) : Int)))
    (ixK x10 0 1
      (ldK x10 0 0 [.str]
        (fun (x12 : ByteArray) => vJ11_0_0 α x12
          (fun (x25 : Int) => vf61_0 α x25
            (fun (x28 : ByteArray) => cK (!(x28.toList == x12.toList))
              (k1)
              (vf64_0 α x12 (⟨#[45]⟩ : ByteArray)
                (fun (x29 : ByteArray) => cK (decide (7 < ((ByteArray.size x29 : Nat) : Int)))
                  (k1)
                  (cK (decide (1 < ((List.length x10 : Nat) : Int)))
                    (ixK x10 1 1
                      (ldK x10 1 0 [.str]
                        (fun (x30 : ByteArray) => vJ11_0_1 α x30
                          (fun (x43 : Int) => vf61_0 α x43
                            (fun (x46 : ByteArray) => cK (!(x46.toList == x30.toList))
                              (k1)
                              (vf64_0 α x30 (⟨#[45]⟩ : ByteArray)
                                (fun (x47 : ByteArray) => cK (decide (7 < ((ByteArray.size x47 : Nat) : Int)))
                                  (k1)
                                  (cK (decide (2 < ((List.length x10 : Nat) : Int)))
                                    (ixK x10 2 1
                                      (ldK x10 2 0 [.str]
                                        (fun (x48 : ByteArray) => vJ11_0_2 α x48
                                          (fun (x61 : Int) => vf61_0 α x61
                                            (fun (x64 : ByteArray) => cK (!(x64.toList == x48.toList))
                                              (k1)
                                              (vf64_0 α x48 (⟨#[45]⟩ : ByteArray)
                                                (fun (x65 : ByteArray) => cK (decide (7 < ((ByteArray.size x65 : Nat) : Int)))
                                                  (k1)
                                                  (cK (decide (3 < ((List.length x10 : Nat) : Int)))
                                                    (ixK x10 3 1
                                                      (ldK x10 3 0 [.str]
                                                        (fun (x66 : ByteArray) => vJ11_0_3 α x66
                                                          (fun (x79 : Int) => vf61_0 α x79
                                                            (fun (x82 : ByteArray) => cK (!(x82.toList == x66.toList))
                                                              (k1)
                                                              (vf64_0 α x66 (⟨#[45]⟩ : ByteArray)
                                                                (fun (x83 : ByteArray) => cK (decide (7 < ((ByteArray.size x83 : Nat) : Int)))
                                                                  (k1)
                                                                  (none)))))
                                                          (fun (x80 : Int) => k1))))
                                                    (k2 ((List.length x10 : Nat) : Int) 3 (decide (3 < ((List.length x10 : Nat) : Int))) x25 x43 x61))))))
                                          (fun (x62 : Int) => k1))))
                                    (k2 ((List.length x10 : Nat) : Int) 2 (decide (2 < ((List.length x10 : Nat) : Int))) x25 x43 x9))))))
                          (fun (x44 : Int) => k1))))
                    (k2 ((List.length x10 : Nat) : Int) 1 (decide (1 < ((List.length x10 : Nat) : Int))) x25 x8 x9))))))
          (fun (x26 : Int) => k1))))
    (k2 ((List.length x10 : Nat) : Int) 0 (decide (0 < ((List.length x10 : Nat) : Int))) x7 x8 x9)
noncomputable def J11_0_4 (α : Type) (x7 : Int) (x8 : Int) (x9 : Int) (x10 : Rows) (k1 : Option α) (k2 : Int → Int → Bool → Int → Int → Int → Option α) : Option α := J11_0_4g J11_0_0 J11_0_1 J11_0_2 J11_0_3 f61_0 f64_0 α x7 x8 x9 x10 k1 k2
def F11_0_4 (v : TJ11_0_4) (α : Type) (K : Exit → St → Option α) : Bool → Int → Int → Int → Int → Int → Int → Rows → Option α := fun x3 x4 x5 x6 x7 x8 x9 x10 => v α x7 x8 x9 x10 (u11_0_13 (K .ret) 4 0 0 0) (fun (y1 : Int) (y2 : Int) (y3 : Bool) (y4 : Int) (y5 : Int) (y6 : Int) => u11_0_14 (K .normal) y1 y2 y3 x4 x5 x6 y4 y5 y6 x10) 
theorem m11_0_4g (vf62_0 : Tf62_0) (vf63_0 : Tf63_0) (vf61_0 : Tf61_0) (vf64_0 : Tf64_0) (vf65_0 : Tf65_0) (vf66_0 : Tf66_0) (vJ11_0_0 : TJ11_0_0) (vJ11_0_1 : TJ11_0_1) (vJ11_0_2 : TJ11_0_2) (vJ11_0_3 : TJ11_0_3) (α : Type) (K : Exit → St → Option α) : F11_0_4 (J11_0_4g vJ11_0_0 vJ11_0_1 vJ11_0_2 vJ11_0_3 vf61_0 vf64_0) α K = p11_0_12.unc fun σ => runM Tryz.prog (E11_0g vf62_0 vf63_0 vf61_0 vf64_0 vf65_0 vf66_0) sh11 (c11_0_15g vJ11_0_0 vJ11_0_1 vJ11_0_2 vJ11_0_3) K σ := by kernel_rfl
theorem m11_0_4 : ∀ (α : Type) (K : Exit → St → Option α), F11_0_4 J11_0_4 α K = p11_0_12.unc fun σ => runM Tryz.prog E11_0 sh11 c11_0_15 K σ := m11_0_4g f62_0 f63_0 f61_0 f64_0 f65_0 f66_0 J11_0_0 J11_0_1 J11_0_2 J11_0_3
abbrev Tf11_0 : Type 1 := (α : Type) → ByteArray → (Int → Int → Int → Int → Option α) → Option α
def f11_0g (vJ11_0_4 : TJ11_0_4) (vf62_0 : Tf62_0) (vf65_0 : Tf65_0) (vf66_0 : Tf66_0) (α : Type) (x1 : ByteArray) (k1 : Int → Int → Int → Int → Option α) : Option α :=
  vf62_0 α x1 (⟨#[32]⟩ : ByteArray)
    (fun (x2 : Rows) => cK (((List.length x2 : Nat) : Int) != 3)
      (k1 0 0 0 4)
      (vJ11_0_4 α 0 0 0 x2
        (k1 0 0 0 4)
        (fun (x84 : Int) (x85 : Int) (x86 : Bool) (x87 : Int) (x88 : Int) (x89 : Int) => vf65_0 α x87 0 39
          (fun (x91 : Bool) => cK (!x91)
            (k1 0 0 0 2)
            (vf66_0 α x88 x89 0 1000000
              (fun (x92 : Int) => cK (x92 != 0)
                (k1 0 0 0 x92)
                (k1 x87 x88 x89 0)))))))
noncomputable def f11_0 (α : Type) (x1 : ByteArray) (k1 : Int → Int → Int → Int → Option α) : Option α := f11_0g J11_0_4 f62_0 f65_0 f66_0 α x1 k1
def pa11_0 : PT (List DV) := pA [pV false [dS]]
def Fn11_0 (v : Tf11_0) (α : Type) (k : List RV → Option α) : ByteArray → Option α := fun x1 => v α x1 (fun (y1 : Int) (y2 : Int) (y3 : Int) (y4 : Int) => ur11_0_0 k y1 y2 y3 y4)
noncomputable def cm11_0g (vJ11_0_4 : TJ11_0_4) : MCode := (.seq (.region r11_2 [] (some ⟨[0, 2], true, [], []⟩)) (.seq (.region r11_4 [] (some ⟨[0, 2, 4], true, [], []⟩)) (.seq (.region r11_6 [] (some ⟨[0, 2, 4, 5], true, [], []⟩)) (.seq (.region r11_8 [] (some ⟨[2, 4, 5, 6], true, [], []⟩)) (.seq (.seq (.region r11_11 [] (some ⟨[2, 4, 5, 6, 22], true, [], []⟩)) (.cond (.tmp 22) (.seq (.region r11_14 [] (some ⟨[2, 3], true, [], []⟩)) .ret) .skip)) (.seq (.mark [⟨p11_0_12, F11_0_4 vJ11_0_4⟩] c11_0_15) (.seq (.seq (.region r11_40 [] (some ⟨[2, 4, 60], true, [], []⟩)) (.cond (.tmp 60) (.seq (.region r11_43 [] (some ⟨[2, 3], true, [], []⟩)) .ret) .skip)) (.seq (.seq (.region r11_46 [] (some ⟨[2, 4, 11], true, [], []⟩)) (.seq (.region r11_48 [] (some ⟨[2, 4, 11, 66], true, [], []⟩)) (.cond (.tmp 66) (.seq (.region r11_51 [] (some ⟨[2, 3], true, [], []⟩)) .ret) .skip))) (.seq (.region r11_53 [] (some ⟨[2, 3], true, [], []⟩)) .ret)))))))))
noncomputable def cm11_0 : MCode := cm11_0g J11_0_4
theorem gm11_0 : cm11_0.Good Tryz.prog E11_0 sh11 := ⟨trivial, ⟨trivial, ⟨trivial, ⟨trivial, ⟨⟨trivial, ⟨⟨trivial, trivial⟩, trivial⟩⟩, ⟨⟨g11_0_15, m11_0_4, trivial⟩, ⟨⟨trivial, ⟨⟨trivial, trivial⟩, trivial⟩⟩, ⟨⟨trivial, ⟨trivial, ⟨⟨trivial, trivial⟩, trivial⟩⟩⟩, ⟨trivial, trivial⟩⟩⟩⟩⟩⟩⟩⟩⟩
theorem fm11_0g (vf62_0 : Tf62_0) (vf63_0 : Tf63_0) (vf61_0 : Tf61_0) (vf64_0 : Tf64_0) (vf65_0 : Tf65_0) (vf66_0 : Tf66_0) (vJ11_0_4 : TJ11_0_4) (α : Type) (k : List RV → Option α) : Fn11_0 (f11_0g vJ11_0_4 vf62_0 vf65_0 vf66_0) α k = pa11_0.unc fun ds => fnM Tryz.prog (E11_0g vf62_0 vf63_0 vf61_0 vf64_0 vf65_0 vf66_0) sh11 (cm11_0g vJ11_0_4) rs11 k ds := by kernel_rfl
theorem fm11_0 : ∀ (α : Type) (k : List RV → Option α), Fn11_0 f11_0 α k = pa11_0.unc fun ds => fnM Tryz.prog E11_0 sh11 cm11_0 rs11 k ds := fm11_0g f62_0 f63_0 f61_0 f64_0 f65_0 f66_0 J11_0_4
theorem is11 : FnIs Tryz.prog 11 nt11 tr11 tl11 cm11_0.erase rs11 := ⟨Tryz.f11, Tryz.func11, rfl, by kernel_rfl, by kernel_rfl, by kernel_rfl⟩
theorem io11_0 : InstOk Tryz.prog 11 nt11 ⟨pa11_0, Fn11_0 f11_0⟩ := inst_ok eo11_0 followsTry is11 ⟨⟨sh11, cm11_0, by kernel_rfl, gm11_0, fm11_0⟩⟩
end Go.AM.K
