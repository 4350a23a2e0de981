/- Printed by KGen. -/
import Derived.Test.YtnhkllkecbmchaaGreatDoorTK0
import Derived.Test.YtnhkllkecbmchaaGreatDoorTAcC
namespace Go.AM.K
open Go.Proofs
set_option maxRecDepth 100000
set_option linter.unusedVariables false
abbrev nt3 : Nat := 60
def sh3 : List (Nat × List Sh) := [(17, [.int .i64, .int .i64, .int .i64]), (30, [.int .i64, .int .i64, .int .i64]), (39, [.int .i64, .int .i64, .int .i64]), (40, [.int .i64, .int .i64, .int .i64]), (48, [.int .i64, .int .i64, .int .i64]), (55, [.int .i64, .int .i64, .int .i64]), (56, [.int .i64, .int .i64, .int .i64])]
def r3_2 : List AOper := [⟨(some 2), (.box (.tmp 0)), none⟩, ⟨(some 4), (.mv (.const (.bool false))), none⟩]
def r3_5 : List AOper := [⟨(some 12), (.call 9 []), none⟩, ⟨(some 13), (.pure (oB (.unOp .not 4 (.tmp 12)) 4)), none⟩]
def r3_8 : List AOper := [⟨(some 4), (.mv (.const (.bool false))), none⟩]
def r3_11 : List AOper := [⟨(some 14), (.mv (.tmp 1)), none⟩, ⟨(some 15), (.pure (oB (.call { callee := .builtin .len, args := #[(.tmp 14)], argTypes := #[9] }) 3)), none⟩, ⟨(some 16), (.bin .gtr 3 (.tmp 15) (.const (.int .i64 60))), none⟩]
def r3_14 : List AOper := [⟨(some 4), (.mv (.const (.bool true))), none⟩]
def r3_16 : List AOper := [⟨(some 17), (.load true 3 (.tmp 2)), none⟩, ⟨(some 18), (.call 10 [(.tmp 17)]), none⟩, ⟨(some 5), (.mv (.tmp 18)), none⟩]
def r3_18 : List AOper := [⟨(some 20), (.mv (.tmp 1)), none⟩, ⟨(some 21), (.call 11 [(.tmp 20)]), none⟩, ⟨(some 19), (.mv (.tmp 21)), none⟩, ⟨(some 22), (.extract 0 (.tmp 19)), none⟩, ⟨(some 23), (.extract 1 (.tmp 19)), none⟩, ⟨(some 6), (.alloc [(.d (.v (.int .i64 0))), (.d (.v (.int .i64 0))), (.d (.v (.int .i64 0)))]), none⟩, ⟨none, (.store 3 (.tmp 6) (.tmp 22)), none⟩, ⟨(some 7), (.mv (.tmp 23)), none⟩]
def r3_20 : List AOper := [⟨(some 25), (.mv (.tmp 1)), none⟩, ⟨(some 26), (.call 12 [(.tmp 25)]), none⟩, ⟨(some 24), (.mv (.tmp 26)), none⟩, ⟨(some 27), (.extract 0 (.tmp 24)), none⟩, ⟨(some 28), (.extract 1 (.tmp 24)), none⟩, ⟨(some 8), (.alloc [(.d (.v (.int .i64 0))), (.d (.v (.int .i64 0))), (.d (.v (.int .i64 0)))]), none⟩, ⟨none, (.store 3 (.tmp 8) (.tmp 27)), none⟩, ⟨(some 9), (.mv (.tmp 28)), none⟩]
def r3_23 : List AOper := [⟨(some 29), (.mv (.tmp 5)), none⟩, ⟨(some 30), (.load true 3 (.tmp 2)), none⟩, ⟨(some 31), (.call 13 [(.tmp 30)]), none⟩, ⟨(some 32), (.bin .neq 9 (.tmp 29) (.tmp 31)), none⟩, ⟨(some 33), (.mv (.tmp 32)), none⟩, ⟨(some 34), (.mv (.tmp 7)), (some (33, false))⟩, ⟨(some 35), (.mv (.tmp 9)), (some (33, false))⟩, ⟨(some 36), (.bin .neq 3 (.tmp 34) (.tmp 35)), (some (33, false))⟩, ⟨(some 37), (.pick (.tmp 33) (.const (.bool true)) (.tmp 36)), none⟩, ⟨(some 38), (.mv (.tmp 37)), none⟩, ⟨(some 39), (.load true 3 (.tmp 6)), (some (38, false))⟩, ⟨(some 40), (.load true 3 (.tmp 8)), (some (38, false))⟩, ⟨(some 41), (.bin .neq 25 (.tmp 39) (.tmp 40)), (some (38, false))⟩, ⟨(some 42), (.pick (.tmp 38) (.const (.bool true)) (.tmp 41)), none⟩]
def r3_26 : List AOper := [⟨(some 4), (.mv (.const (.bool false))), none⟩]
def r3_28 : List AOper := [⟨(some 44), (.mv (.tmp 5)), none⟩, ⟨(some 45), (.call 11 [(.tmp 44)]), none⟩, ⟨(some 43), (.mv (.tmp 45)), none⟩, ⟨(some 46), (.extract 0 (.tmp 43)), none⟩, ⟨(some 47), (.extract 1 (.tmp 43)), none⟩, ⟨(some 10), (.alloc [(.d (.v (.int .i64 0))), (.d (.v (.int .i64 0))), (.d (.v (.int .i64 0)))]), none⟩, ⟨none, (.store 3 (.tmp 10) (.tmp 46)), none⟩, ⟨(some 11), (.mv (.tmp 47)), none⟩]
def r3_30 : List AOper := [⟨(some 48), (.load true 3 (.tmp 2)), none⟩, ⟨(some 49), (.call 14 [(.tmp 48)]), none⟩, ⟨(some 50), (.bin .neq 3 (.tmp 49) (.const (.int .i64 0))), none⟩, ⟨(some 51), (.mv (.tmp 50)), none⟩, ⟨(some 52), (.mv (.tmp 11)), (some (51, false))⟩, ⟨(some 53), (.bin .eql 28 (.tmp 52) (.const (.int .i64 0))), (some (51, false))⟩, ⟨(some 54), (.mv (.tmp 53)), (some (51, false))⟩, ⟨(some 55), (.load true 3 (.tmp 10)), (some (54, true))⟩, ⟨(some 56), (.load true 3 (.tmp 2)), (some (54, true))⟩, ⟨(some 57), (.bin .eql 25 (.tmp 55) (.tmp 56)), (some (54, true))⟩, ⟨(some 58), (.pick (.tmp 54) (.tmp 57) (.const (.bool false))), (some (51, false))⟩, ⟨(some 59), (.pick (.tmp 51) (.const (.bool true)) (.tmp 58)), none⟩, ⟨(some 4), (.mv (.tmp 59)), none⟩]
def tr3 : List (Nat × Tidy) := [(0, ⟨[1, 2], true, [], []⟩), (1, ⟨[1, 2, 13], true, [], []⟩), (2, ⟨[4], true, [], []⟩), (3, ⟨[1, 2, 16], true, [], []⟩), (4, ⟨[4], true, [], []⟩), (5, ⟨[1, 2, 5], true, [], []⟩), (6, ⟨[1, 2, 5, 6, 7], true, [], []⟩), (7, ⟨[2, 5, 6, 7, 8, 9], true, [], []⟩), (8, ⟨[2, 5, 42], true, [], []⟩), (9, ⟨[4], true, [], []⟩), (10, ⟨[2, 10, 11], true, [], []⟩), (11, ⟨[4], true, [], []⟩)]
def tl3 : List (Nat × Tidy) := []
def rs3 : List AResV := [.tmp 4]
def pr3_0_0 : PT (List RV) := pRs [pR false [rD dB]]
def ur3_0_0 {β : Type} (g : List RV → β) : Bool → β := pr3_0_0.unc g
def E3_0g (vf9_0 : Tf9_0) (vf10_0 : Tf10_0) (vf11_0 : Tf11_0) (vf12_0 : Tf12_0) (vf13_0 : Tf13_0) (vf14_0 : Tf14_0) : EnvK := EnvK.of [⟨9, nt9, [⟨pa9_0, Fn9_0 vf9_0⟩]⟩, ⟨10, nt10, [⟨pa10_0, Fn10_0 vf10_0⟩]⟩, ⟨11, nt11, [⟨pa11_0, Fn11_0 vf11_0⟩]⟩, ⟨12, nt12, [⟨pa12_0, Fn12_0 vf12_0⟩]⟩, ⟨13, nt13, [⟨pa13_0, Fn13_0 vf13_0⟩]⟩, ⟨14, nt14, [⟨pa14_0, Fn14_0 vf14_0⟩]⟩] noSeq
noncomputable def E3_0 : EnvK := E3_0g f9_0 f10_0 f11_0 f12_0 f13_0 f14_0
theorem eo3_0 : E3_0.Ok Tryz.prog := EnvK.of_ok noSeq_ok ⟨⟨io9_0, trivial⟩, ⟨io10_0, trivial⟩, ⟨io11_0, trivial⟩, ⟨io12_0, trivial⟩, ⟨io13_0, trivial⟩, ⟨io14_0, trivial⟩, trivial⟩
abbrev Tf3_0 : Type 1 := (α : Type) → Int → Int → Int → ByteArray → (Bool → Option α) → Option α
def f3_0g (vf10_0 : Tf10_0) (vf11_0 : Tf11_0) (vf12_0 : Tf12_0) (vf13_0 : Tf13_0) (vf14_0 : Tf14_0) (vf9_0 : Tf9_0) (α : Type) (x1 : Int) (x2 : Int) (x3 : Int) (x4 : ByteArray) (k1 : Bool → Option α) : Option α :=
  vf9_0 α 
    (cK (decide (60 < ((ByteArray.size x4 : Nat) : Int)))
      (k1 true)
      (vf10_0 α x1 x2 x3
        (fun (x5 : ByteArray) => vf11_0 α x4
          (fun (x6 : Int) (x7 : Int) (x8 : Int) (x9 : Int) => vf12_0 α x4
            (fun (x10 : Int) (x11 : Int) (x12 : Int) (x13 : Int) => vf13_0 α x1 x2 x3
              (fun (x14 : ByteArray) => cK (!(x5.toList == x14.toList))
                (k1 false)
                (cK (x9 != x13)
                  (k1 false)
                  (cK (!((x6 == x10) && (((x7 == x11) && ((x8 == x12) && true)) && true)))
                    (k1 false)
                    (vf11_0 α x5
                      (fun (x15 : Int) (x16 : Int) (x17 : Int) (x18 : Int) => vf14_0 α x1 x2 x3
                        (fun (x19 : Int) => cK (x19 != 0)
                          (k1 true)
                          (cK (x18 == 0)
                            (k1 ((x15 == x1) && (((x16 == x2) && ((x17 == x3) && true)) && true)))
                            (k1 false)))))))))))))
noncomputable def f3_0 (α : Type) (x1 : Int) (x2 : Int) (x3 : Int) (x4 : ByteArray) (k1 : Bool → Option α) : Option α := f3_0g f10_0 f11_0 f12_0 f13_0 f14_0 f9_0 α x1 x2 x3 x4 k1
def pa3_0 : PT (List DV) := pA [pV true [(dI .i64), (dI .i64), (dI .i64)], pV false [dS]]
def Fn3_0 (v : Tf3_0) (α : Type) (k : List RV → Option α) : Int → Int → Int → ByteArray → Option α := fun x1 x2 x3 x4 => v α x1 x2 x3 x4 (fun (y1 : Bool) => ur3_0_0 k y1)
noncomputable def cm3_0g  : MCode := (.seq (.region r3_2 [] (some ⟨[1, 2], true, [], []⟩)) (.seq (.seq (.region r3_5 [] (some ⟨[1, 2, 13], true, [], []⟩)) (.cond (.tmp 13) (.seq (.region r3_8 [] (some ⟨[4], true, [], []⟩)) .ret) .skip)) (.seq (.seq (.region r3_11 [] (some ⟨[1, 2, 16], true, [], []⟩)) (.cond (.tmp 16) (.seq (.region r3_14 [] (some ⟨[4], true, [], []⟩)) .ret) .skip)) (.seq (.region r3_16 [] (some ⟨[1, 2, 5], true, [], []⟩)) (.seq (.region r3_18 [] (some ⟨[1, 2, 5, 6, 7], true, [], []⟩)) (.seq (.region r3_20 [] (some ⟨[2, 5, 6, 7, 8, 9], true, [], []⟩)) (.seq (.seq (.region r3_23 [] (some ⟨[2, 5, 42], true, [], []⟩)) (.cond (.tmp 42) (.seq (.region r3_26 [] (some ⟨[4], true, [], []⟩)) .ret) .skip)) (.seq (.region r3_28 [] (some ⟨[2, 10, 11], true, [], []⟩)) (.seq (.region r3_30 [] (some ⟨[4], true, [], []⟩)) .ret)))))))))
noncomputable def cm3_0 : MCode := cm3_0g 
theorem gm3_0 : cm3_0.Good Tryz.prog E3_0 sh3 := ⟨trivial, ⟨⟨trivial, ⟨⟨trivial, trivial⟩, trivial⟩⟩, ⟨⟨trivial, ⟨⟨trivial, trivial⟩, trivial⟩⟩, ⟨trivial, ⟨trivial, ⟨trivial, ⟨⟨trivial, ⟨⟨trivial, trivial⟩, trivial⟩⟩, ⟨trivial, ⟨trivial, trivial⟩⟩⟩⟩⟩⟩⟩⟩⟩
theorem fm3_0g (vf9_0 : Tf9_0) (vf10_0 : Tf10_0) (vf11_0 : Tf11_0) (vf12_0 : Tf12_0) (vf13_0 : Tf13_0) (vf14_0 : Tf14_0)  (α : Type) (k : List RV → Option α) : Fn3_0 (f3_0g vf10_0 vf11_0 vf12_0 vf13_0 vf14_0 vf9_0) α k = pa3_0.unc fun ds => fnM Tryz.prog (E3_0g vf9_0 vf10_0 vf11_0 vf12_0 vf13_0 vf14_0) sh3 (cm3_0g ) rs3 k ds := by kernel_rfl
theorem fm3_0 : ∀ (α : Type) (k : List RV → Option α), Fn3_0 f3_0 α k = pa3_0.unc fun ds => fnM Tryz.prog E3_0 sh3 cm3_0 rs3 k ds := fm3_0g f9_0 f10_0 f11_0 f12_0 f13_0 f14_0
theorem is3 : FnIs Tryz.prog 3 nt3 tr3 tl3 cm3_0.erase rs3 := ⟨Tryz.f3, Tryz.func3, rfl, by kernel_rfl, by kernel_rfl, by kernel_rfl⟩
theorem io3_0 : InstOk Tryz.prog 3 nt3 ⟨pa3_0, Fn3_0 f3_0⟩ := inst_ok eo3_0 followsTry is3 ⟨⟨sh3, cm3_0, by kernel_rfl, gm3_0, fm3_0⟩⟩
end Go.AM.K
