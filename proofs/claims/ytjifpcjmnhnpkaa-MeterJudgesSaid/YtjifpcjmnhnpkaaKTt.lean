/- Printed by KGen. -/
import Derived.Test.YtjifpcjmnhnpkaaKTr
import Derived.Test.YtjifpcjmnhnpkaaAcX
namespace Go.AM.K
open Go.Proofs
set_option maxRecDepth 100000
set_option linter.unusedVariables false

/-! ### F10 etalon/etalonlaw06.MeterJudges -/
abbrev nt10 : Nat := 106
def sh10 : List (Nat × List Sh) := [(13, [.str]), (17, [.str, .int .i64, .int .i64, .int .i64, .int .i64, .int .i64, .int .i64, .int .i64, .int .i64, .int .i64]), (22, [.str, .int .i64, .int .i64, .int .i64, .int .i64, .int .i64, .int .i64, .int .i64, .int .i64, .int .i64]), (27, [.str, .int .i64, .int .i64, .int .i64, .int .i64, .int .i64, .int .i64, .int .i64, .int .i64, .int .i64]), (31, [.str, .int .i64, .int .i64, .int .i64, .int .i64, .int .i64, .int .i64, .int .i64, .int .i64, .int .i64]), (33, [.str, .int .i64, .int .i64, .int .i64, .int .i64, .int .i64, .int .i64, .int .i64, .int .i64, .int .i64]), (53, [.int .i64, .int .i64]), (62, [.int .i64, .int .i64]), (69, [.int .i64, .int .i64]), (70, [.str, .int .i64, .int .i64, .int .i64, .int .i64, .int .i64, .int .i64, .int .i64, .int .i64, .int .i64]), (80, [.str, .int .i64, .int .i64, .int .i64, .int .i64, .int .i64, .int .i64, .int .i64, .int .i64, .int .i64]), (89, [.int .i64, .int .i64]), (90, [.str, .int .i64, .int .i64, .int .i64, .int .i64, .int .i64, .int .i64, .int .i64, .int .i64, .int .i64]), (96, [.int .i64]), (98, [.int .i64]), (103, [.int .i64])]
def r10_2 : List AOper := [oO 1 (.box (.tmp 0)), oO 2 (.mv (.const (.bool false)))]
def r10_5 : List AOper := [oO 10 (.call 15 []), oO 11 (.pure (oB (.unOp .not 4 (.tmp 10)) 4))]
def r10_8 : List AOper := [oO 2 (.mv (.const (.bool false)))]
def r10_11 : List AOper := [oO 12 (.faddr 0 (.tmp 1)), oO 13 (.load false 1 (.tmp 12)), oO 14 (.pure (oB (.call { callee := .builtin .len, args := #[(.tmp 13)], argTypes := #[9] }) 3)), oO 15 (.bin .gtr 3 (.tmp 14) (.const (.int .i64 30)))]
def r10_14 : List AOper := [oO 2 (.mv (.const (.bool true)))]
def r10_16 : List AOper := [oO 17 (.load true 10 (.tmp 1)), oO 18 (.call 46 [(.tmp 17)]), oM 16 18, oO 19 (.extract 0 (.tmp 16)), oO 20 (.extract 1 (.tmp 16)), oO 3 (.alloc [(.d (.v (.int .i64 0))), (.d (.v (.int .i64 0)))]), ⟨none, (.store 2 (.tmp 3) (.tmp 19)), none⟩, oM 4 20]
def r10_18 : List AOper := [oO 22 (.load true 10 (.tmp 1)), oO 23 (.call 47 [(.tmp 22)]), oM 21 23, oO 24 (.extract 0 (.tmp 21)), oO 25 (.extract 1 (.tmp 21)), oM 5 24, oM 6 25]
def r10_20 : List AOper := [oO 27 (.load true 10 (.tmp 1)), oO 28 (.call 48 [(.tmp 27)]), oM 26 28, oO 29 (.extract 0 (.tmp 26)), oO 30 (.extract 1 (.tmp 26)), oO 7 (.alloc [(.d (.v (.int .i64 0))), (.d (.v (.int .i64 0)))]), ⟨none, (.store 2 (.tmp 7) (.tmp 29)), none⟩, oM 8 30]
def r10_22 : List AOper := [oO 31 (.load true 10 (.tmp 1)), oO 32 (.call 49 [(.tmp 31)]), oM 9 32]
def r10_25 : List AOper := [oO 33 (.load true 10 (.tmp 1)), oO 34 (.call 28 [(.tmp 33)]), oM 35 9, oO 36 (.bin .neq 3 (.tmp 34) (.tmp 35))]
def r10_28 : List AOper := [oO 2 (.mv (.const (.bool false)))]
def r10_31 : List AOper := [oM 37 9, oO 38 (.bin .neq 3 (.tmp 37) (.const (.int .i64 0)))]
def r10_34 : List AOper := [oM 39 4, oM 40 9, oO 41 (.bin .eql 3 (.tmp 39) (.tmp 40)), oM 42 41, ⟨(some 43), (.mv (.tmp 6)), (some (42, true))⟩, ⟨(some 44), (.mv (.tmp 9)), (some (42, true))⟩, ⟨(some 45), (.bin .eql 3 (.tmp 43) (.tmp 44)), (some (42, true))⟩, oO 46 (.pick (.tmp 42) (.tmp 45) (.const (.bool false))), oM 47 46, ⟨(some 48), (.mv (.tmp 8)), (some (47, true))⟩, ⟨(some 49), (.mv (.tmp 9)), (some (47, true))⟩, ⟨(some 50), (.bin .eql 3 (.tmp 48) (.tmp 49)), (some (47, true))⟩, oO 51 (.pick (.tmp 47) (.tmp 50) (.const (.bool false))), oM 52 51, ⟨(some 53), (.load true 2 (.tmp 3)), (some (52, true))⟩, ⟨(some 54), (.build [(.d (.v (.int .i64 0))), (.d (.v (.int .i64 0)))] []), (some (52, true))⟩, ⟨(some 55), (.bin .eql 38 (.tmp 53) (.tmp 54)), (some (52, true))⟩, oO 56 (.pick (.tmp 52) (.tmp 55) (.const (.bool false))), oM 57 56, ⟨(some 58), (.mv (.tmp 5)), (some (57, true))⟩, ⟨(some 59), (.bin .eql 3 (.tmp 58) (.const (.int .i64 0))), (some (57, true))⟩, oO 60 (.pick (.tmp 57) (.tmp 59) (.const (.bool false))), oM 61 60, ⟨(some 62), (.load true 2 (.tmp 7)), (some (61, true))⟩, ⟨(some 63), (.build [(.d (.v (.int .i64 0))), (.d (.v (.int .i64 0)))] []), (some (61, true))⟩, ⟨(some 64), (.bin .eql 38 (.tmp 62) (.tmp 63)), (some (61, true))⟩, oO 65 (.pick (.tmp 61) (.tmp 64) (.const (.bool false))), oM 2 65]
def r10_36 : List AOper := [oM 66 4, oO 67 (.bin .eql 28 (.tmp 66) (.const (.int .i64 0))), oM 68 67, ⟨(some 69), (.load true 2 (.tmp 3)), (some (68, true))⟩, ⟨(some 70), (.load true 10 (.tmp 1)), (some (68, true))⟩, ⟨(some 71), (.call 50 [(.tmp 70)]), (some (68, true))⟩, ⟨(some 72), (.bin .eql 38 (.tmp 69) (.tmp 71)), (some (68, true))⟩, oO 73 (.pick (.tmp 68) (.tmp 72) (.const (.bool false))), oM 74 73, ⟨(some 75), (.mv (.tmp 6)), (some (74, true))⟩, ⟨(some 76), (.bin .eql 28 (.tmp 75) (.const (.int .i64 0))), (some (74, true))⟩, oO 77 (.pick (.tmp 74) (.tmp 76) (.const (.bool false))), oM 78 77, ⟨(some 79), (.mv (.tmp 5)), (some (78, true))⟩, ⟨(some 80), (.load true 10 (.tmp 1)), (some (78, true))⟩, ⟨(some 81), (.call 51 [(.tmp 80)]), (some (78, true))⟩, ⟨(some 82), (.bin .eql 3 (.tmp 79) (.tmp 81)), (some (78, true))⟩, oO 83 (.pick (.tmp 78) (.tmp 82) (.const (.bool false))), oM 84 83, ⟨(some 85), (.mv (.tmp 8)), (some (84, true))⟩, ⟨(some 86), (.bin .eql 28 (.tmp 85) (.const (.int .i64 0))), (some (84, true))⟩, oO 87 (.pick (.tmp 84) (.tmp 86) (.const (.bool false))), oM 88 87, ⟨(some 89), (.load true 2 (.tmp 7)), (some (88, true))⟩, ⟨(some 90), (.load true 10 (.tmp 1)), (some (88, true))⟩, ⟨(some 91), (.call 52 [(.tmp 90)]), (some (88, true))⟩, ⟨(some 92), (.bin .eql 38 (.tmp 89) (.tmp 91)), (some (88, true))⟩, oO 93 (.pick (.tmp 88) (.tmp 92) (.const (.bool false))), oM 94 93, ⟨(some 95), (.faddr 0 (.tmp 7)), (some (94, true))⟩, ⟨(some 96), (.load false 1 (.tmp 95)), (some (94, true))⟩, ⟨(some 97), (.faddr 1 (.tmp 7)), (some (94, true))⟩, ⟨(some 98), (.load false 1 (.tmp 97)), (some (94, true))⟩, ⟨(some 99), (.call 29 [(.tmp 96), (.const (.int .i64 0)), (.tmp 98)]), (some (94, true))⟩, oO 100 (.pick (.tmp 94) (.tmp 99) (.const (.bool false))), oM 101 100, ⟨(some 102), (.faddr 1 (.tmp 7)), (some (101, true))⟩, ⟨(some 103), (.load false 1 (.tmp 102)), (some (101, true))⟩, ⟨(some 104), (.bin .leq 3 (.tmp 103) (.const (.int .i64 1024))), (some (101, true))⟩, oO 105 (.pick (.tmp 101) (.tmp 104) (.const (.bool false))), oM 2 105]
def tr10 : List (Nat × Tidy) := [(0, ⟨[1], true, [], []⟩), (1, ⟨[1, 11], true, [], []⟩), (2, ⟨[2], true, [], []⟩), (3, ⟨[1, 15], true, [], []⟩), (4, ⟨[2], true, [], []⟩), (5, ⟨[1, 3, 4], true, [], []⟩), (6, ⟨[1, 3, 4, 5, 6], true, [], []⟩), (7, ⟨[1, 3, 4, 5, 6, 7, 8], true, [], []⟩), (8, ⟨[1, 3, 4, 5, 6, 7, 8, 9], true, [], []⟩), (9, ⟨[1, 3, 4, 5, 6, 7, 8, 9, 36], true, [], []⟩), (10, ⟨[2], true, [], []⟩), (11, ⟨[1, 3, 4, 5, 6, 7, 8, 9, 38], true, [], []⟩), (12, ⟨[2], true, [], []⟩), (13, ⟨[2], true, [], []⟩)]
def tl10 : List (Nat × Tidy) := []
def rs10 : List AResV := [.tmp 2]
def pr10_0_0 : PT (List RV) := pRs [pR false [rD dB]]
def ur10_0_0 {β : Type} (g : List RV → β) : Bool → β := pr10_0_0.unc g

def E10_0g (vf15_0 : Tf15_0) (vf46_0 : Tf46_0) (vf47_0 : Tf47_0) (vf48_0 : Tf48_0) (vf49_0 : Tf49_0) (vf28_0 : Tf28_0) (vf50_0 : Tf50_0) (vf51_0 : Tf51_0) (vf52_0 : Tf52_0) (vf29_0 : Tf29_0) : EnvK := EnvK.of [⟨15, nt15, [⟨pa15_0, Fn15_0 vf15_0⟩]⟩, ⟨46, nt46, [⟨pa46_0, Fn46_0 vf46_0⟩]⟩, ⟨47, nt47, [⟨pa47_0, Fn47_0 vf47_0⟩]⟩, ⟨48, nt48, [⟨pa48_0, Fn48_0 vf48_0⟩]⟩, ⟨49, nt49, [⟨pa49_0, Fn49_0 vf49_0⟩]⟩, ⟨28, nt28, [⟨pa28_0, Fn28_0 vf28_0⟩]⟩, ⟨50, nt50, [⟨pa50_0, Fn50_0 vf50_0⟩]⟩, ⟨51, nt51, [⟨pa51_0, Fn51_0 vf51_0⟩]⟩, ⟨52, nt52, [⟨pa52_0, Fn52_0 vf52_0⟩]⟩, ⟨29, nt29, [⟨pa29_0, Fn29_0 vf29_0⟩]⟩] noSeq
noncomputable def E10_0 : EnvK := E10_0g f15_0 f46_0 f47_0 f48_0 f49_0 f28_0 f50_0 f51_0 f52_0 f29_0
theorem eo10_0 : E10_0.Ok Try.prog := EnvK.of_ok noSeq_ok ⟨⟨io15_0, trivial⟩, ⟨io46_0, trivial⟩, ⟨io47_0, trivial⟩, ⟨io48_0, trivial⟩, ⟨io49_0, trivial⟩, ⟨io28_0, trivial⟩, ⟨io50_0, trivial⟩, ⟨io51_0, trivial⟩, ⟨io52_0, trivial⟩, ⟨io29_0, trivial⟩, trivial⟩

/-- etalon/etalonlaw06.MeterJudges -/
abbrev Tf10_0 : Type 1 := (α : Type) → ByteArray → Int → Int → Int → Int → Int → Int → Int → Int → Int → (Bool → Option α) → Option α
def f10_0g (vf15_0 : Tf15_0) (vf28_0 : Tf28_0) (vf29_0 : Tf29_0) (vf46_0 : Tf46_0) (vf47_0 : Tf47_0) (vf48_0 : Tf48_0) (vf49_0 : Tf49_0) (vf50_0 : Tf50_0) (vf51_0 : Tf51_0) (vf52_0 : Tf52_0) (α : Type) (x1 : ByteArray) (x2 : Int) (x3 : Int) (x4 : Int) (x5 : Int) (x6 : Int) (x7 : Int) (x8 : Int) (x9 : Int) (x10 : Int) (k1 : Bool → Option α) : Option α :=
 vf15_0 α 
 (cK (decide (30 < ((ByteArray.size x1 : Nat) : Int)))
 (k1 true)
 (vf46_0 α x1 x2 x3 x4 x5 x6 x7 x8 x9 x10
 (fun (x11 : Int) (x12 : Int) (x13 : Int) => vf47_0 α x1 x2 x3 x4 x5 x6 x7 x8 x9 x10
 (fun (x14 : Int) (x15 : Int) => vf48_0 α x1 x2 x3 x4 x5 x6 x7 x8 x9 x10
 (fun (x16 : Int) (x17 : Int) (x18 : Int) => vf49_0 α x1 x2 x3 x4 x5 x6 x7 x8 x9 x10
 (fun (x19 : Int) => vf28_0 α x1 x2 x3 x4 x5 x6 x7 x8 x9 x10
 (fun (x20 : Int) => cK (x20 != x19)
 (k1 false)
 (cK (x19 != 0)
 (cK (x13 == x19)
 (cK (x15 == x19)
 (cK (x18 == x19)
 (cK ((x11 == 0) && ((x12 == 0) && true))
 (cK (x14 == 0)
 (k1 ((x16 == 0) && ((x17 == 0) && true)))
 (k1 false))
 (k1 false))
 (k1 false))
 (k1 false))
 (k1 false))
 (cK (x13 == 0)
 (vf50_0 α x1 x2 x3 x4 x5 x6 x7 x8 x9 x10
 (fun (x21 : Int) (x22 : Int) => cK ((x11 == x21) && ((x12 == x22) && true))
 (cK (x15 == 0)
 (vf51_0 α x1 x2 x3 x4 x5 x6 x7 x8 x9 x10
 (fun (x23 : Int) => cK (x14 == x23)
 (cK (x18 == 0)
 (vf52_0 α x1 x2 x3 x4 x5 x6 x7 x8 x9 x10
 (fun (x24 : Int) (x25 : Int) => cK ((x16 == x24) && ((x17 == x25) && true))
 (vf29_0 α x16 0 x17
 (fun (x26 : Bool) => cK x26
 (k1 (decide (x17 ≤ 1024)))
 (k1 false)))
 (k1 false)))
 (k1 false))
 (k1 false)))
 (k1 false))
 (k1 false)))
 (k1 false))))))))))
noncomputable def f10_0 (α : Type) (x1 : ByteArray) (x2 : Int) (x3 : Int) (x4 : Int) (x5 : Int) (x6 : Int) (x7 : Int) (x8 : Int) (x9 : Int) (x10 : Int) (k1 : Bool → Option α) : Option α := f10_0g f15_0 f28_0 f29_0 f46_0 f47_0 f48_0 f49_0 f50_0 f51_0 f52_0 α x1 x2 x3 x4 x5 x6 x7 x8 x9 x10 k1
def pa10_0 : PT (List DV) := pA [pV true [dS, (dI .i64), (dI .i64), (dI .i64), (dI .i64), (dI .i64), (dI .i64), (dI .i64), (dI .i64), (dI .i64)]]
def Fn10_0 (v : Tf10_0) (α : Type) (k : List RV → Option α) : ByteArray → Int → Int → Int → Int → Int → Int → Int → Int → Int → Option α := fun x1 x2 x3 x4 x5 x6 x7 x8 x9 x10 => v α x1 x2 x3 x4 x5 x6 x7 x8 x9 x10 (fun (y1 : Bool) => ur10_0_0 k y1)
noncomputable def cm10_0g  : MCode := (.seq (.region r10_2 [] (some ⟨[1], true, [], []⟩)) (.seq (.seq (.region r10_5 [] (some ⟨[1, 11], true, [], []⟩)) (.cond (.tmp 11) (.seq (.region r10_8 [] (some ⟨[2], true, [], []⟩)) .ret) .skip)) (.seq (.seq (.region r10_11 [] (some ⟨[1, 15], true, [], []⟩)) (.cond (.tmp 15) (.seq (.region r10_14 [] (some ⟨[2], true, [], []⟩)) .ret) .skip)) (.seq (.region r10_16 [] (some ⟨[1, 3, 4], true, [], []⟩)) (.seq (.region r10_18 [] (some ⟨[1, 3, 4, 5, 6], true, [], []⟩)) (.seq (.region r10_20 [] (some ⟨[1, 3, 4, 5, 6, 7, 8], true, [], []⟩)) (.seq (.region r10_22 [] (some ⟨[1, 3, 4, 5, 6, 7, 8, 9], true, [], []⟩)) (.seq (.seq (.region r10_25 [] (some ⟨[1, 3, 4, 5, 6, 7, 8, 9, 36], true, [], []⟩)) (.cond (.tmp 36) (.seq (.region r10_28 [] (some ⟨[2], true, [], []⟩)) .ret) .skip)) (.seq (.seq (.region r10_31 [] (some ⟨[1, 3, 4, 5, 6, 7, 8, 9, 38], true, [], []⟩)) (.cond (.tmp 38) (.seq (.region r10_34 [] (some ⟨[2], true, [], []⟩)) .ret) .skip)) (.seq (.region r10_36 [(3, 5), (23, 25)] (some ⟨[2], true, [], []⟩)) .ret))))))))))
noncomputable def cm10_0 : MCode := cm10_0g 
theorem gm10_0 : cm10_0.Good Try.prog E10_0 sh10 := ⟨trivial, ⟨⟨trivial, ⟨⟨trivial, trivial⟩, trivial⟩⟩, ⟨⟨trivial, ⟨⟨trivial, trivial⟩, trivial⟩⟩, ⟨trivial, ⟨trivial, ⟨trivial, ⟨trivial, ⟨⟨trivial, ⟨⟨trivial, trivial⟩, trivial⟩⟩, ⟨⟨trivial, ⟨⟨trivial, trivial⟩, trivial⟩⟩, ⟨trivial, trivial⟩⟩⟩⟩⟩⟩⟩⟩⟩⟩
theorem fm10_0g (vf15_0 : Tf15_0) (vf46_0 : Tf46_0) (vf47_0 : Tf47_0) (vf48_0 : Tf48_0) (vf49_0 : Tf49_0) (vf28_0 : Tf28_0) (vf50_0 : Tf50_0) (vf51_0 : Tf51_0) (vf52_0 : Tf52_0) (vf29_0 : Tf29_0)  (α : Type) (k : List RV → Option α) : Fn10_0 (f10_0g vf15_0 vf28_0 vf29_0 vf46_0 vf47_0 vf48_0 vf49_0 vf50_0 vf51_0 vf52_0) α k = pa10_0.unc fun ds => fnM Try.prog (E10_0g vf15_0 vf46_0 vf47_0 vf48_0 vf49_0 vf28_0 vf50_0 vf51_0 vf52_0 vf29_0) sh10 (cm10_0g ) rs10 k ds := by kernel_rfl
theorem fm10_0 : ∀ (α : Type) (k : List RV → Option α), Fn10_0 f10_0 α k = pa10_0.unc fun ds => fnM Try.prog E10_0 sh10 cm10_0 rs10 k ds := fm10_0g f15_0 f46_0 f47_0 f48_0 f49_0 f28_0 f50_0 f51_0 f52_0 f29_0

theorem is10 : FnIs Try.prog 10 nt10 tr10 tl10 cm10_0.erase rs10 := ⟨Try.f10, Try.func10, rfl, by kernel_rfl, by kernel_rfl, by kernel_rfl⟩
theorem io10_0 : InstOk Try.prog 10 nt10 ⟨pa10_0, Fn10_0 f10_0⟩ := inst_ok eo10_0 followsTry is10 ⟨⟨sh10, cm10_0, by kernel_rfl, gm10_0, fm10_0⟩⟩


end Go.AM.K
