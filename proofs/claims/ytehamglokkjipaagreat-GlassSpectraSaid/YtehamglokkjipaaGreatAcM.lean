/- The code of the functions that the first examples of chapter 2 run. -/
import Derived.Test.YtehamglokkjipaaGreatAMc
import Derived.Test.YtehamglokkjipaaGreatProg
namespace Go.AM
open Go.Proofs
set_option maxRecDepth 100000
set_option linter.unusedVariables false
def ac9_0 : List AOper := [
 oO 0 (.mv (.const (.bool false)))]
def ac9_1 : List AOper := [
 oO 10 (.call 47 []),
 oO 11 (.call 17 [(.tmp 10), (kI 5003)]),
 oM 9 11,
 oO 12 (.extract 0 (.tmp 9)),
 oO 13 (.extract 1 (.tmp 9)),
 oO 1 (.alloc [(cI 0), (cI 0)]),
 oD (.store 2 (.tmp 1) (.tmp 12)),
 oM 2 13]
def ac9_2 : List AOper := [
 oO 15 (.call 47 []),
 oO 16 (.call 20 [(.tmp 15), (kI 5250)]),
 oM 14 16,
 oO 17 (.extract 0 (.tmp 14)),
 oO 18 (.extract 1 (.tmp 14)),
 oO 3 (.alloc [(cI 0), (cI 0)]),
 oD (.store 2 (.tmp 3) (.tmp 17)),
 oM 4 18]
def ac9_3 : List AOper := [
 oO 20 (.call 48 [(kI 20000), (kI 10000), (kI 5000)]),
 oM 19 20,
 oO 21 (.extract 0 (.tmp 19)),
 oO 22 (.extract 1 (.tmp 19)),
 oO 5 (.alloc [(cI 0), (cI 0)]),
 oD (.store 2 (.tmp 5) (.tmp 21)),
 oM 6 22]
def ac9_4 : List AOper := [
 oO 24 (.bslice 1 4 [(.v (.int .i64 0))] [(0, (kI 1)), (1, (kI 2)), (2, (kI 0)), (3, (kI 0))]),
 oO 25 (.call 11 [(.tmp 24)]),
 oM 23 25,
 oO 26 (.extract 0 (.tmp 23)),
 oO 27 (.extract 1 (.tmp 23)),
 oM 7 26,
 oM 8 27]
def ac9_5 : List AOper := [
 oM 28 2,
 oO 29 (.bin .eql 26 (.tmp 28) (kI 0)),
 oM 30 29,
 oG 31 (.load true 2 (.tmp 1)) 30 true,
 oG 32 (.build [(cI 0), (cI 0)] [(0, 1, (kI 14997)), (1, 1, (kI 101))]) 30 true,
 oG 33 (.bin .eql 36 (.tmp 31) (.tmp 32)) 30 true,
 oO 34 (.pick (.tmp 30) (.tmp 33) (.const (.bool false))),
 oM 35 34,
 oG 36 (.mv (.tmp 4)) 35 true,
 oG 37 (.bin .eql 26 (.tmp 36) (kI 0)) 35 true,
 oO 38 (.pick (.tmp 35) (.tmp 37) (.const (.bool false))),
 oM 39 38,
 oG 40 (.load true 2 (.tmp 3)) 39 true,
 oG 41 (.build [(cI 0), (cI 0)] [(0, 1, (kI 20000)), (1, 1, (kI 20000))]) 39 true,
 oG 42 (.bin .eql 49 (.tmp 40) (.tmp 41)) 39 true,
 oO 43 (.pick (.tmp 39) (.tmp 42) (.const (.bool false))),
 oM 44 43,
 oG 45 (.mv (.tmp 6)) 44 true,
 oG 46 (.bin .eql 26 (.tmp 45) (kI 0)) 44 true,
 oO 47 (.pick (.tmp 44) (.tmp 46) (.const (.bool false))),
 oM 48 47,
 oG 49 (.load true 2 (.tmp 5)) 48 true,
 oG 50 (.build [(cI 0), (cI 0)] [(0, 1, (kI 12649)), (1, 1, (kI 15812))]) 48 true,
 oG 51 (.bin .eql 49 (.tmp 49) (.tmp 50)) 48 true,
 oO 52 (.pick (.tmp 48) (.tmp 51) (.const (.bool false))),
 oM 53 52,
 oG 54 (.mv (.tmp 8)) 53 true,
 oG 55 (.bin .eql 26 (.tmp 54) (kI 0)) 53 true,
 oO 56 (.pick (.tmp 53) (.tmp 55) (.const (.bool false))),
 oM 57 56,
 oG 58 (.mv (.tmp 7)) 57 true,
 oG 59 (.call 49 [(kI 3145728), (kI 0), (kI 0)]) 57 true,
 oG 60 (.call 49 [(kI 1048576), (kI 2097152), (kI 0)]) 57 true,
 oG 61 (.call 49 [(kI (-1048576)), (kI 0), (kI 0)]) 57 true,
 oG 62 (.call 49 [(kI 1048576), (kI (-2097152)), (kI 0)]) 57 true,
 oG 63 (.bslice 2 4 [(.v (.complex Go.FloatKind.f64 0 0)), (.v (.int .i64 0))] [(0, (.tmp 59)), (1, (.tmp 60)), (2, (.tmp 61)), (3, (.tmp 62))]) 57 true,
 oG 64 (.call 15 [(.tmp 58), (.tmp 63)]) 57 true,
 oO 65 (.pick (.tmp 57) (.tmp 64) (.const (.bool false))),
 oM 0 65]
def tr9 : List (Nat × Tidy) := [tF 0 [], tF 1 [1, 2], tF 2 [1, 2, 3, 4], tF 3 [1, 2, 3, 4, 5, 6], tF 4 [1, 2, 3, 4, 5, 6, 7, 8], tF 5 [0]]
def tl9 : List (Nat × Tidy) := []
def ac9 : ACode := (.seq (.region ac9_0 [] (some ⟨[], false, [], []⟩)) (.seq (.region ac9_1 [] (some ⟨[1, 2], false, [], []⟩)) (.seq (.region ac9_2 [] (some ⟨[1, 2, 3, 4], false, [], []⟩)) (.seq (.region ac9_3 [] (some ⟨[1, 2, 3, 4, 5, 6], false, [], []⟩)) (.seq (.region ac9_4 [] (some ⟨[1, 2, 3, 4, 5, 6, 7, 8], false, [], []⟩)) (.seq (.region ac9_5 [] (some ⟨[0], false, [], []⟩)) .ret))))))
def rs9 : List AResV := [.tmp 0]
def ft9 : FnT := ⟨66, tr9, tl9, ac9, rs9⟩
theorem is9 : FnIs Tryz.prog 9 66 tr9 tl9 ac9 rs9 := ⟨Tryz.f9, Tryz.func9, rfl, by kernel_rfl, by kernel_rfl, by kernel_rfl⟩
def ac11_0 : List AOper := [
 oO 1 (.box (.tmp 0)),
 oO 2 (.mv (.const (.slice none 0 0))),
 oO 3 (.mv (kI 0))]
def ac11_1 : List AOper := [
 oO 9 (.load false 1 (.tmp 1)),
 oO 10 (.len (.tmp 9)),
 oO 11 (.call 50 [(.tmp 10)]),
 oM 4 11]
def ac11_2 : List AOper := [
 oM 12 4,
 oO 13 (.bin .neq 26 (.tmp 12) (kI 0))]
def ac11_3 : List AOper := [
 oM 14 4,
 oO 2 (.mv (.const (.slice none 0 0))),
 oM 3 14]
def ac11_4 : List AOper := [
 oO 15 (.load false 1 (.tmp 1)),
 oO 16 (.len (.tmp 15)),
 oO 17 (.mv (kI 0))]
def ac11_5 : List AOper := [
 oO 18 (.bin .lss 3 (.tmp 17) (.tmp 16))]
def ac11_6 : List AOper := [
 oO 19 (.iaddr 1 none (.tmp 15) (.tmp 17)),
 oO 20 (.load false 1 (.tmp 19)),
 oM 6 20]
def ac11_7 : List AOper := [
 oM 21 6,
 oO 22 (.call 51 [(.tmp 21), (kI (-1000)), (kI 1000)]),
 oO 23 (.pure (oB (.unOp .not 4 (.tmp 22)) 4))]
def ac11_8 : List AOper := [
 oO 2 (.mv (.const (.slice none 0 0))),
 oO 3 (.mv (kI 2))]
def ac11_9 : List AOper := [
 oO 24 (.bin .add 3 (.tmp 17) (kI 1)),
 oM 17 24]
def ac11_10 : List AOper := [
 oO 26 (.load false 1 (.tmp 1)),
 oO 27 (.len (.tmp 26)),
 oO 28 (.mkfn 53 [(.tmp 1)]),
 oO 29 (.call 52 [(.tmp 27), (.tmp 28)]),
 oM 25 29,
 oO 30 (.extract 0 (.tmp 25)),
 oO 31 (.extract 1 (.tmp 25)),
 oM 7 30,
 oM 8 31]
def ac11_11 : List AOper := [
 oM 32 8,
 oO 33 (.pure (oB (.unOp .not 4 (.tmp 32)) 4))]
def ac11_12 : List AOper := [
 oO 2 (.mv (.const (.slice none 0 0))),
 oO 3 (.mv (kI 8))]
def ac11_13 : List AOper := [
 oM 34 7,
 oM 2 34,
 oO 3 (.mv (kI 0))]
def tr11 : List (Nat × Tidy) := [tF 0 [1], tF 1 [1, 4], tF 2 [1, 4, 13], tF 3 [2, 3], tF 4 [1, 15, 16, 17], tF 5 [1, 15, 16, 17, 18], tF 6 [1, 6, 15, 16, 17], tF 7 [1, 15, 16, 17, 23], tF 8 [2, 3], tF 9 [1, 15, 16, 17], tF 10 [7, 8], tF 11 [7, 33], tF 12 [2, 3], tF 13 [2, 3]]
def tl11 : List (Nat × Tidy) := [(5, ⟨[1, 15, 16, 17], true, [⟨false, 15, 0, 20015, 0⟩, ⟨false, 17, 0, 20017, 0⟩], []⟩)]
def ac11 : ACode := (.seq (.region ac11_0 [] (some ⟨[1], false, [], []⟩)) (.seq (.seq (.region ac11_1 [] (some ⟨[1, 4], false, [], []⟩)) (.seq (.region ac11_2 [] (some ⟨[1, 4, 13], false, [], []⟩)) (.cond (.tmp 13) (.seq (.region ac11_3 [] (some ⟨[2, 3], false, [], []⟩)) .ret) .skip))) (.seq (.seq (.region ac11_4 [] (some ⟨[1, 15, 16, 17], false, [], []⟩)) (.block 0 (.loop (some ⟨[1, 15, 16, 17], true, [⟨false, 15, 0, 20015, 0⟩, ⟨false, 17, 0, 20017, 0⟩], []⟩) (.seq (.region ac11_5 [] (some ⟨[1, 15, 16, 17, 18], false, [], []⟩)) (.seq (.cond (.tmp 18) .skip (.exit 0)) (.seq (.block 1 (.seq (.region ac11_6 [] (some ⟨[1, 6, 15, 16, 17], false, [], []⟩)) (.seq (.region ac11_7 [] (some ⟨[1, 15, 16, 17, 23], false, [], []⟩)) (.cond (.tmp 23) (.seq (.region ac11_8 [] (some ⟨[2, 3], false, [], []⟩)) .ret) .skip)))) (.region ac11_9 [] (some ⟨[1, 15, 16, 17], false, [], []⟩)))))))) (.seq (.region ac11_10 [] (some ⟨[7, 8], false, [], []⟩)) (.seq (.seq (.region ac11_11 [] (some ⟨[7, 33], false, [], []⟩)) (.cond (.tmp 33) (.seq (.region ac11_12 [] (some ⟨[2, 3], false, [], []⟩)) .ret) .skip)) (.seq (.region ac11_13 [] (some ⟨[2, 3], false, [], []⟩)) .ret))))))
def rs11 : List AResV := [.tmp 2, .tmp 3]
def ft11 : FnT := ⟨35, tr11, tl11, ac11, rs11⟩
theorem is11 : FnIs Tryz.prog 11 35 tr11 tl11 ac11 rs11 := ⟨Tryz.f11, Tryz.func11, rfl, by kernel_rfl, by kernel_rfl, by kernel_rfl⟩
def ac15_0 : List AOper := [
 oO 4 (.mv (.const (.bool false)))]
def ac15_1 : List AOper := [
 oM 6 0,
 oO 7 (.len (.tmp 6)),
 oM 8 1,
 oO 9 (.len (.tmp 8)),
 oO 10 (.bin .neq 3 (.tmp 7) (.tmp 9))]
def ac15_2 : List AOper := [
 oO 4 (.mv (.const (.bool false)))]
def ac15_3 : List AOper := [
 oO 5 (.mv (kI 0))]
def ac15_4 : List AOper := [
 oM 11 5,
 oM 12 0,
 oO 13 (.len (.tmp 12)),
 oO 14 (.bin .lss 3 (.tmp 11) (.tmp 13))]
def ac15_5 : List AOper := [
 oM 17 0,
 oM 18 5,
 oO 19 (.iaddr 2 none (.tmp 17) (.tmp 18)),
 oO 20 (.load true 2 (.tmp 19)),
 oM 21 1,
 oM 22 5,
 oO 23 (.iaddr 2 none (.tmp 21) (.tmp 22)),
 oO 24 (.load true 2 (.tmp 23)),
 oO 25 (.call 23 [(.tmp 20), (.tmp 24)]),
 oO 26 (.pure (oB (.unOp .not 4 (.tmp 25)) 4))]
def ac15_6 : List AOper := [
 oO 4 (.mv (.const (.bool false)))]
def ac15_7 : List AOper := [
 oM 15 5,
 oO 16 (.bin .add 3 (.tmp 15) (kI 1)),
 oM 5 16]
def ac15_8 : List AOper := [
 oO 4 (.mv (.const (.bool true)))]
def tr15 : List (Nat × Tidy) := [tF 0 [0, 1], tF 1 [0, 1, 10], tF 2 [4], tF 3 [0, 1, 5], tF 4 [0, 1, 5, 14], tF 6 [0, 1, 5, 26], tF 7 [4], tF 5 [0, 1, 5], tF 8 [4]]
def tl15 : List (Nat × Tidy) := [(4, ⟨[0, 1, 5], true, [⟨false, 5, 0, 20005, 0⟩], []⟩)]
def ac15 : ACode := (.seq (.region ac15_0 [] (some ⟨[0, 1], false, [], []⟩)) (.seq (.seq (.region ac15_1 [] (some ⟨[0, 1, 10], false, [], []⟩)) (.cond (.tmp 10) (.seq (.region ac15_2 [] (some ⟨[4], false, [], []⟩)) .ret) .skip)) (.seq (.seq (.region ac15_3 [] (some ⟨[0, 1, 5], false, [], []⟩)) (.block 0 (.loop (some ⟨[0, 1, 5], true, [⟨false, 5, 0, 20005, 0⟩], []⟩) (.seq (.seq (.region ac15_4 [] (some ⟨[0, 1, 5, 14], false, [], []⟩)) (.cond (.tmp 14) .skip (.exit 0))) (.seq (.block 1 (.seq (.region ac15_5 [] (some ⟨[0, 1, 5, 26], false, [], []⟩)) (.cond (.tmp 26) (.seq (.region ac15_6 [] (some ⟨[4], false, [], []⟩)) .ret) .skip))) (.region ac15_7 [] (some ⟨[0, 1, 5], false, [], []⟩))))))) (.seq (.region ac15_8 [] (some ⟨[4], false, [], []⟩)) .ret))))
def rs15 : List AResV := [.tmp 4]
def ft15 : FnT := ⟨27, tr15, tl15, ac15, rs15⟩
theorem is15 : FnIs Tryz.prog 15 27 tr15 tl15 ac15 rs15 := ⟨Tryz.f15, Tryz.func15, rfl, by kernel_rfl, by kernel_rfl, by kernel_rfl⟩
def ac17_0 : List AOper := [
 oO 2 (.box (.tmp 0)),
 oO 4 (.alloc [(cI 0), (cI 0)]),
 oO 5 (.mv (kI 0))]
def ac17_1 : List AOper := [
 oO 10 (.load true 7 (.tmp 2)),
 oM 11 1,
 oO 12 (.call 62 [(.tmp 10), (.tmp 11)]),
 oM 9 12,
 oO 13 (.extract 0 (.tmp 9)),
 oO 14 (.extract 1 (.tmp 9)),
 oM 6 13,
 oM 7 14]
def ac17_2 : List AOper := [
 oM 15 7,
 oO 16 (.bin .neq 26 (.tmp 15) (kI 0))]
def ac17_3 : List AOper := [
 oO 17 (.build [(cI 0), (cI 0)] []),
 oM 18 7,
 oD (.store 2 (.tmp 4) (.tmp 17)),
 oM 5 18]
def ac17_4 : List AOper := [
 oM 19 6,
 oM 20 1,
 oO 21 (.inv "etalon/glass.at" (.tmp 19) [(.tmp 20)]),
 oO 8 (.alloc [(cI 0), (cI 0), (cI 0), (cI 0)]),
 oD (.store 4 (.tmp 8) (.tmp 21))]
def ac17_5 : List AOper := [
 oO 22 (.iaddr 2 (some 2) (.tmp 8) (kI 0)),
 oO 23 (.load true 2 (.tmp 22)),
 oO 24 (.call 63 [(.tmp 23)]),
 oO 25 (.iaddr 2 (some 2) (.tmp 8) (kI 1)),
 oO 26 (.load true 2 (.tmp 25)),
 oO 27 (.call 63 [(.tmp 26)]),
 oO 28 (.build [(cI 0), (cI 0)] [(0, 1, (.tmp 24)), (1, 1, (.tmp 27))]),
 oD (.store 2 (.tmp 4) (.tmp 28)),
 oO 5 (.mv (kI 0))]
def tr17 : List (Nat × Tidy) := [tF 0 [1, 2, 4], tF 1 [1, 4, 6, 7], tF 2 [1, 4, 6, 7, 16], tF 3 [4, 5], tF 4 [4, 8], tF 5 [4, 5]]
def tl17 : List (Nat × Tidy) := []
def ac17 : ACode := (.seq (.region ac17_0 [] (some ⟨[1, 2, 4], false, [], []⟩)) (.seq (.region ac17_1 [] (some ⟨[1, 4, 6, 7], false, [], []⟩)) (.seq (.seq (.region ac17_2 [] (some ⟨[1, 4, 6, 7, 16], false, [], []⟩)) (.cond (.tmp 16) (.seq (.region ac17_3 [] (some ⟨[4, 5], false, [], []⟩)) .ret) .skip)) (.seq (.region ac17_4 [] (some ⟨[4, 8], false, [], []⟩)) (.seq (.region ac17_5 [(2, 4)] (some ⟨[4, 5], false, [], []⟩)) .ret)))))
def rs17 : List AResV := [.cell 4 true 2, .tmp 5]
def ft17 : FnT := ⟨29, tr17, tl17, ac17, rs17⟩
theorem is17 : FnIs Tryz.prog 17 29 tr17 tl17 ac17 rs17 := ⟨Tryz.f17, Tryz.func17, rfl, by kernel_rfl, by kernel_rfl, by kernel_rfl⟩
def ac20_0 : List AOper := [
 oO 2 (.box (.tmp 0)),
 oO 4 (.alloc [(cI 0), (cI 0)]),
 oO 5 (.mv (kI 0))]
def ac20_1 : List AOper := [
 oO 11 (.load true 7 (.tmp 2)),
 oM 12 1,
 oO 13 (.call 62 [(.tmp 11), (.tmp 12)]),
 oM 10 13,
 oO 14 (.extract 0 (.tmp 10)),
 oO 15 (.extract 1 (.tmp 10)),
 oM 6 14,
 oM 7 15]
def ac20_2 : List AOper := [
 oM 16 7,
 oO 17 (.bin .neq 26 (.tmp 16) (kI 0))]
def ac20_3 : List AOper := [
 oO 18 (.build [(cI 0), (cI 0)] []),
 oM 19 7,
 oD (.store 2 (.tmp 4) (.tmp 18)),
 oM 5 19]
def ac20_4 : List AOper := [
 oM 21 6,
 oM 22 1,
 oO 23 (.inv "etalon/glass.group" (.tmp 21) [(.tmp 22)]),
 oM 20 23,
 oO 24 (.extract 0 (.tmp 20)),
 oO 25 (.extract 1 (.tmp 20)),
 oO 8 (.alloc [(cI 0), (cI 0)]),
 oD (.store 2 (.tmp 8) (.tmp 24)),
 oM 9 25]
def ac20_5 : List AOper := [
 oM 26 9,
 oO 27 (.pure (oB (.unOp .not 4 (.tmp 26)) 4))]
def ac20_6 : List AOper := [
 oO 28 (.build [(cI 0), (cI 0)] []),
 oD (.store 2 (.tmp 4) (.tmp 28)),
 oO 5 (.mv (kI 12))]
def ac20_7 : List AOper := [
 oO 29 (.load true 2 (.tmp 8)),
 oO 30 (.call 65 [(.tmp 29)]),
 oD (.store 2 (.tmp 4) (.tmp 30)),
 oO 5 (.mv (kI 0))]
def tr20 : List (Nat × Tidy) := [tF 0 [1, 2, 4], tF 1 [1, 4, 6, 7], tF 2 [1, 4, 6, 7, 17], tF 3 [4, 5], tF 4 [4, 8, 9], tF 5 [4, 8, 27], tF 6 [4, 5], tF 7 [4, 5]]
def tl20 : List (Nat × Tidy) := []
def ac20 : ACode := (.seq (.region ac20_0 [] (some ⟨[1, 2, 4], false, [], []⟩)) (.seq (.region ac20_1 [] (some ⟨[1, 4, 6, 7], false, [], []⟩)) (.seq (.seq (.region ac20_2 [] (some ⟨[1, 4, 6, 7, 17], false, [], []⟩)) (.cond (.tmp 17) (.seq (.region ac20_3 [] (some ⟨[4, 5], false, [], []⟩)) .ret) .skip)) (.seq (.region ac20_4 [] (some ⟨[4, 8, 9], false, [], []⟩)) (.seq (.seq (.region ac20_5 [] (some ⟨[4, 8, 27], false, [], []⟩)) (.cond (.tmp 27) (.seq (.region ac20_6 [] (some ⟨[4, 5], false, [], []⟩)) .ret) .skip)) (.seq (.region ac20_7 [] (some ⟨[4, 5], false, [], []⟩)) .ret))))))
def rs20 : List AResV := [.cell 4 true 2, .tmp 5]
def ft20 : FnT := ⟨31, tr20, tl20, ac20, rs20⟩
theorem is20 : FnIs Tryz.prog 20 31 tr20 tl20 ac20 rs20 := ⟨Tryz.f20, Tryz.func20, rfl, by kernel_rfl, by kernel_rfl, by kernel_rfl⟩
def ac23_0 : List AOper := [
 oO 2 (.box (.tmp 0)),
 oO 3 (.box (.tmp 1)),
 oO 4 (.mv (.const (.bool false)))]
def ac23_1 : List AOper := [
 oO 5 (.faddr 0 (.tmp 2)),
 oO 6 (.load false 1 (.tmp 5)),
 oO 7 (.faddr 0 (.tmp 3)),
 oO 8 (.load false 1 (.tmp 7)),
 oO 9 (.call 71 [(.tmp 6), (.tmp 8)]),
 oM 10 9,
 oG 11 (.faddr 1 (.tmp 2)) 10 true,
 oG 12 (.load false 1 (.tmp 11)) 10 true,
 oG 13 (.faddr 1 (.tmp 3)) 10 true,
 oG 14 (.load false 1 (.tmp 13)) 10 true,
 oG 15 (.bin .eql 3 (.tmp 12) (.tmp 14)) 10 true,
 oO 16 (.pick (.tmp 10) (.tmp 15) (.const (.bool false))),
 oM 4 16]
def tr23 : List (Nat × Tidy) := [tF 0 [2, 3], tF 1 [4]]
def tl23 : List (Nat × Tidy) := []
def ac23 : ACode := (.seq (.region ac23_0 [] (some ⟨[2, 3], false, [], []⟩)) (.seq (.region ac23_1 [] (some ⟨[4], false, [], []⟩)) .ret))
def rs23 : List AResV := [.tmp 4]
def ft23 : FnT := ⟨17, tr23, tl23, ac23, rs23⟩
theorem is23 : FnIs Tryz.prog 23 17 tr23 tl23 ac23 rs23 := ⟨Tryz.f23, Tryz.func23, rfl, by kernel_rfl, by kernel_rfl, by kernel_rfl⟩
def ac45_0 : List AOper := [
 oO 4 (.mv (.const (.complex Go.FloatKind.f64 0 0)))]
def ac45_1 : List AOper := [
 oM 5 0,
 oO 6 (.pure (oB (.convert 3 117 (.tmp 5)) 117)),
 oM 7 1,
 oO 8 (.pure (oB (.convert 3 117 (.tmp 7)) 117)),
 oO 9 (.pure (oB (.call { callee := .builtin .complex, args := #[(.tmp 6), (.tmp 8)], argTypes := #[117, 117] }) 43)),
 oM 4 9]
def tr45 : List (Nat × Tidy) := [tF 0 [0, 1], tF 1 [4]]
def tl45 : List (Nat × Tidy) := []
def ac45 : ACode := (.seq (.region ac45_0 [] (some ⟨[0, 1], false, [], []⟩)) (.seq (.region ac45_1 [] (some ⟨[4], false, [], []⟩)) .ret))
def rs45 : List AResV := [.tmp 4]
def ft45 : FnT := ⟨10, tr45, tl45, ac45, rs45⟩
theorem is45 : FnIs Tryz.prog 45 10 tr45 tl45 ac45 rs45 := ⟨Tryz.f45, Tryz.func45, rfl, by kernel_rfl, by kernel_rfl, by kernel_rfl⟩
def ac47_0 : List AOper := [
 ⟨(some 0), (.alloc [(.d (.v (.string ⟨#[]⟩))), (.d (.v (.int .i64 0))), .nils, .nils, .nils, (.d (.v (.int .i64 0))), (.d (.v (.int .i64 0)))]), none⟩]
def ac47_1 : List AOper := [
 oO 1 (.bslice 1 2 [(.v (.int .i64 0))] [(0, (kI 5000)), (1, (kI 6000))]),
 oO 2 (.bslice 1 2 [(.v (.float Go.FloatKind.f32 0))] [(0, (.const (.float Go.FloatKind.f32 1181376512))), (1, (.const (.float Go.FloatKind.f32 1180352512)))]),
 oO 3 (.bslice 1 2 [(.v (.float Go.FloatKind.f32 0))] [(0, (.const (.float Go.FloatKind.f32 1120403456))), (1, (.const (.float Go.FloatKind.f32 1133903872)))]),
 ⟨(some 4), (.build [(.d (.v (.string ⟨#[]⟩))), (.d (.v (.int .i64 0))), .nils, .nils, .nils, (.d (.v (.int .i64 0))), (.d (.v (.int .i64 0)))] [(0, 1, (.const (.string ⟨#[116, 119, 111]⟩))), (1, 1, (kI 1)), (2, 1, (.tmp 1)), (3, 1, (.tmp 2)), (4, 1, (.tmp 3))]), none⟩,
 oD (.store 7 (.tmp 0) (.tmp 4))]
def tr47 : List (Nat × Tidy) := [tF 0 [0], tF 1 [0]]
def tl47 : List (Nat × Tidy) := []
def ac47 : ACode := (.seq (.region ac47_0 [] (some ⟨[0], false, [], []⟩)) (.seq (.region ac47_1 [] (some ⟨[0], false, [], []⟩)) .ret))
def rs47 : List AResV := [.cell 0 true 7]
def ft47 : FnT := ⟨5, tr47, tl47, ac47, rs47⟩
theorem is47 : FnIs Tryz.prog 47 5 tr47 tl47 ac47 rs47 := ⟨Tryz.f47, Tryz.func47, rfl, by kernel_rfl, by kernel_rfl, by kernel_rfl⟩
def ac48_0 : List AOper := [
 oO 3 (.box (.tmp 0)),
 oO 4 (.box (.tmp 1)),
 oO 6 (.alloc [(cI 0), (cI 0)]),
 oO 7 (.mv (kI 0))]
def ac48_1 : List AOper := [
 oO 12 (.load false 1 (.tmp 3)),
 oO 13 (.load false 1 (.tmp 4)),
 oO 14 (.bslice 1 2 [(.v (.int .i64 0))] [(0, (.tmp 12)), (1, (.tmp 13))]),
 oO 15 (.call 99 [(.tmp 14)]),
 oM 8 15]
def ac48_2 : List AOper := [
 oM 16 8,
 oO 17 (.bin .neq 26 (.tmp 16) (kI 0))]
def ac48_3 : List AOper := [
 oO 18 (.build [(cI 0), (cI 0)] []),
 oM 19 8,
 oD (.store 2 (.tmp 6) (.tmp 18)),
 oM 7 19]
def ac48_4 : List AOper := [
 oM 20 2,
 oO 21 (.call 51 [(.tmp 20), (kI 0), (kI 10000)]),
 oO 22 (.pure (oB (.unOp .not 4 (.tmp 21)) 4))]
def ac48_5 : List AOper := [
 oO 23 (.build [(cI 0), (cI 0)] []),
 oD (.store 2 (.tmp 6) (.tmp 23)),
 oO 7 (.mv (kI 2))]
def ac48_6 : List AOper := [
 oM 24 2,
 oO 25 (.bin .sub 3 (kI 10000) (.tmp 24)),
 oM 9 25]
def ac48_7 : List AOper := [
 oM 26 2,
 oO 27 (.load false 1 (.tmp 4)),
 oO 28 (.bin .mul 3 (.tmp 26) (.tmp 27)),
 oO 29 (.load false 1 (.tmp 4)),
 oO 30 (.bin .mul 3 (.tmp 28) (.tmp 29)),
 oM 31 9,
 oO 32 (.load false 1 (.tmp 3)),
 oO 33 (.bin .mul 3 (.tmp 31) (.tmp 32)),
 oO 34 (.load false 1 (.tmp 3)),
 oO 35 (.bin .mul 3 (.tmp 33) (.tmp 34)),
 oO 36 (.bin .add 3 (.tmp 30) (.tmp 35)),
 oM 37 2,
 oO 38 (.load false 1 (.tmp 3)),
 oO 39 (.bin .mul 3 (.tmp 37) (.tmp 38)),
 oO 40 (.load false 1 (.tmp 3)),
 oO 41 (.bin .mul 3 (.tmp 39) (.tmp 40)),
 oM 42 9,
 oO 43 (.load false 1 (.tmp 4)),
 oO 44 (.bin .mul 3 (.tmp 42) (.tmp 43)),
 oO 45 (.load false 1 (.tmp 4)),
 oO 46 (.bin .mul 3 (.tmp 44) (.tmp 45)),
 oO 47 (.bin .add 3 (.tmp 41) (.tmp 46)),
 oO 10 (.alloc [(cI 0)]),
 oO 11 (.alloc [(cI 0)]),
 oD (.store 1 (.tmp 10) (.tmp 36)),
 oD (.store 1 (.tmp 11) (.tmp 47))]
def ac48_8 : List AOper := [
 oO 48 (.mkfn 101 [(.tmp 10), (.tmp 3), (.tmp 4)]),
 oO 49 (.call 100 [(kI 80000), (.tmp 48)]),
 oO 50 (.mkfn 103 [(.tmp 11)]),
 oO 51 (.call 100 [(kI 80000), (.tmp 50)]),
 oO 52 (.bin .add 3 (kI 1) (.tmp 51)),
 oO 53 (.build [(cI 0), (cI 0)] [(0, 1, (.tmp 49)), (1, 1, (.tmp 52))]),
 oD (.store 2 (.tmp 6) (.tmp 53)),
 oO 7 (.mv (kI 0))]
def tr48 : List (Nat × Tidy) := [tF 0 [2, 3, 4, 6], tF 1 [2, 3, 4, 6, 8], tF 2 [2, 3, 4, 6, 8, 17], tF 3 [6, 7], tF 4 [2, 3, 4, 6, 22], tF 5 [6, 7], tF 6 [2, 3, 4, 6, 9], tF 7 [3, 4, 6, 10, 11], tF 8 [6, 7]]
def tl48 : List (Nat × Tidy) := []
def ac48 : ACode := (.seq (.region ac48_0 [] (some ⟨[2, 3, 4, 6], false, [], []⟩)) (.seq (.seq (.region ac48_1 [] (some ⟨[2, 3, 4, 6, 8], false, [], []⟩)) (.seq (.region ac48_2 [] (some ⟨[2, 3, 4, 6, 8, 17], false, [], []⟩)) (.cond (.tmp 17) (.seq (.region ac48_3 [] (some ⟨[6, 7], false, [], []⟩)) .ret) .skip))) (.seq (.seq (.region ac48_4 [] (some ⟨[2, 3, 4, 6, 22], false, [], []⟩)) (.cond (.tmp 22) (.seq (.region ac48_5 [] (some ⟨[6, 7], false, [], []⟩)) .ret) .skip)) (.seq (.region ac48_6 [] (some ⟨[2, 3, 4, 6, 9], false, [], []⟩)) (.seq (.region ac48_7 [(1, 22), (3, 22), (6, 22), (8, 22), (12, 22), (14, 22), (17, 22), (19, 22), (1, 23), (3, 23), (6, 23), (8, 23), (12, 23), (14, 23), (17, 23), (19, 23), (22, 23), (12, 24), (14, 24), (17, 24), (19, 24)] (some ⟨[3, 4, 6, 10, 11], false, [], []⟩)) (.seq (.region ac48_8 [] (some ⟨[6, 7], false, [], []⟩)) .ret))))))
def rs48 : List AResV := [.cell 6 true 2, .tmp 7]
def ft48 : FnT := ⟨54, tr48, tl48, ac48, rs48⟩
theorem is48 : FnIs Tryz.prog 48 54 tr48 tl48 ac48 rs48 := ⟨Tryz.f48, Tryz.func48, rfl, by kernel_rfl, by kernel_rfl, by kernel_rfl⟩
def ac49_0 : List AOper := [
 oO 6 (.alloc [(.d (.v (.complex Go.FloatKind.f64 0 0))), (cI 0)])]
def ac49_1 : List AOper := [
 oM 7 0,
 oM 8 1,
 oO 9 (.call 45 [(.tmp 7), (.tmp 8)]),
 oM 10 2,
 oO 11 (.build [(.d (.v (.complex Go.FloatKind.f64 0 0))), (cI 0)] [(0, 1, (.tmp 9)), (1, 1, (.tmp 10))]),
 oD (.store 2 (.tmp 6) (.tmp 11))]
def tr49 : List (Nat × Tidy) := [tF 0 [0, 1, 2, 6], tF 1 [6]]
def tl49 : List (Nat × Tidy) := []
def ac49 : ACode := (.seq (.region ac49_0 [] (some ⟨[0, 1, 2, 6], false, [], []⟩)) (.seq (.region ac49_1 [] (some ⟨[6], false, [], []⟩)) .ret))
def rs49 : List AResV := [.cell 6 true 2]
def ft49 : FnT := ⟨12, tr49, tl49, ac49, rs49⟩
theorem is49 : FnIs Tryz.prog 49 12 tr49 tl49 ac49 rs49 := ⟨Tryz.f49, Tryz.func49, rfl, by kernel_rfl, by kernel_rfl, by kernel_rfl⟩
def ac50_0 : List AOper := [
 oO 2 (.mv (kI 0))]
def ac50_1 : List AOper := [
 oM 3 0,
 oO 4 (.call 51 [(.tmp 3), (kI 2), (kI 32)]),
 oO 5 (.pure (oB (.unOp .not 4 (.tmp 4)) 4)),
 oM 6 5,
 oG 7 (.mv (.tmp 0)) 6 false,
 oG 8 (.mv (.tmp 0)) 6 false,
 oG 9 (.bin .sub 3 (.tmp 8) (kI 1)) 6 false,
 oG 10 (.bin .and 3 (.tmp 7) (.tmp 9)) 6 false,
 oG 11 (.bin .neq 3 (.tmp 10) (kI 0)) 6 false,
 oO 12 (.pick (.tmp 6) (.const (.bool true)) (.tmp 11))]
def ac50_2 : List AOper := [
 oO 2 (.mv (kI 12))]
def ac50_3 : List AOper := [
 oO 2 (.mv (kI 0))]
def tr50 : List (Nat × Tidy) := [tF 0 [0], tF 1 [12], tF 2 [2], tF 3 [2]]
def tl50 : List (Nat × Tidy) := []
def ac50 : ACode := (.seq (.region ac50_0 [] (some ⟨[0], false, [], []⟩)) (.seq (.seq (.region ac50_1 [] (some ⟨[12], false, [], []⟩)) (.cond (.tmp 12) (.seq (.region ac50_2 [] (some ⟨[2], false, [], []⟩)) .ret) .skip)) (.seq (.region ac50_3 [] (some ⟨[2], false, [], []⟩)) .ret)))
def rs50 : List AResV := [.tmp 2]
def ft50 : FnT := ⟨13, tr50, tl50, ac50, rs50⟩
theorem is50 : FnIs Tryz.prog 50 13 tr50 tl50 ac50 rs50 := ⟨Tryz.f50, Tryz.func50, rfl, by kernel_rfl, by kernel_rfl, by kernel_rfl⟩
def ac51_0 : List AOper := [
 oO 6 (.mv (.const (.bool false)))]
def ac51_1 : List AOper := [
 oM 7 0,
 oM 8 1,
 oO 9 (.bin .geq 3 (.tmp 7) (.tmp 8)),
 oM 10 9,
 oG 11 (.mv (.tmp 0)) 10 true,
 oG 12 (.mv (.tmp 2)) 10 true,
 oG 13 (.bin .leq 3 (.tmp 11) (.tmp 12)) 10 true,
 oO 14 (.pick (.tmp 10) (.tmp 13) (.const (.bool false))),
 oM 6 14]
def tr51 : List (Nat × Tidy) := [tF 0 [0, 1, 2], tF 1 [6]]
def tl51 : List (Nat × Tidy) := []
def ac51 : ACode := (.seq (.region ac51_0 [] (some ⟨[0, 1, 2], false, [], []⟩)) (.seq (.region ac51_1 [] (some ⟨[6], false, [], []⟩)) .ret))
def rs51 : List AResV := [.tmp 6]
def ft51 : FnT := ⟨15, tr51, tl51, ac51, rs51⟩
theorem is51 : FnIs Tryz.prog 51 15 tr51 tl51 ac51 rs51 := ⟨Tryz.f51, Tryz.func51, rfl, by kernel_rfl, by kernel_rfl, by kernel_rfl⟩
def ac52_0 : List AOper := [
 oO 4 (.mv (.const (.slice none 0 0))),
 oO 5 (.mv (.const (.bool false)))]
def ac52_1 : List AOper := [
 oO 6 (.mv (.const (.slice none 0 0)))]
def ac52_2 : List AOper := [
 oM 10 0,
 oO 11 (.mv (kI 0))]
def ac52_3 : List AOper := [
 oO 12 (.bin .lss 3 (.tmp 11) (.tmp 10))]
def ac52_4 : List AOper := [
 oM 13 11,
 oM 7 13]
def ac52_5 : List AOper := [
 oO 8 (.alloc [(.d (.v (.complex Go.FloatKind.f64 0 0))), (cI 0), (.d (.v (.bool false)))])]
def ac52_6 : List AOper := [
 oM 14 0,
 oO 15 (.mv (kI 0))]
def ac52_7 : List AOper := [
 oO 16 (.bin .lss 3 (.tmp 15) (.tmp 14))]
def ac52_8 : List AOper := [
 oM 17 15,
 oM 9 17]
def ac52_9 : List AOper := [
 oM 18 1,
 oM 19 7,
 oM 20 9,
 oO 21 (.calld (.tmp 18) [(.tmp 19), (.tmp 20)]),
 oO 22 (.extract 0 (.tmp 21)),
 oO 23 (.extract 1 (.tmp 21)),
 oO 24 (.call 104 [(.tmp 8), (.tmp 22), (.tmp 23)])]
def ac52_10 : List AOper := [
 oO 25 (.bin .add 3 (.tmp 15) (kI 1)),
 oM 15 25]
def ac52_11 : List AOper := [
 oO 26 (.faddr 2 (.tmp 8)),
 oO 27 (.load false 1 (.tmp 26))]
def ac52_12 : List AOper := [
 oO 4 (.mv (.const (.slice none 0 0))),
 oO 5 (.mv (.const (.bool false)))]
def ac52_13 : List AOper := [
 oM 28 6,
 oO 29 (.faddr 0 (.tmp 8)),
 oO 30 (.load true 2 (.tmp 29)),
 oO 31 (.bslice 2 1 [(.v (.complex Go.FloatKind.f64 0 0)), (.v (.int .i64 0))] [(0, (.tmp 30))]),
 oO 32 (.append 2 24 (.tmp 28) (.tmp 31)),
 oM 6 32]
def ac52_14 : List AOper := [
 oO 33 (.bin .add 3 (.tmp 11) (kI 1)),
 oM 11 33]
def ac52_15 : List AOper := [
 oM 34 6,
 oM 4 34,
 oO 5 (.mv (.const (.bool true)))]
def tr52 : List (Nat × Tidy) := [tF 0 [0, 1], tF 1 [0, 1, 6], tF 2 [0, 1, 6, 10, 11], tF 3 [0, 1, 6, 10, 11, 12], tF 4 [0, 1, 6, 7, 10, 11], tF 5 [0, 1, 6, 7, 8, 10, 11], tF 6 [0, 1, 6, 7, 8, 10, 11, 14, 15], tF 7 [0, 1, 6, 7, 8, 10, 11, 14, 15, 16], tF 8 [0, 1, 6, 7, 8, 9, 10, 11, 14, 15], tF 9 [0, 1, 6, 7, 8, 10, 11, 14, 15], tF 10 [0, 1, 6, 7, 8, 10, 11, 14, 15], tF 11 [0, 1, 6, 8, 10, 11, 27], tF 12 [4, 5], tF 13 [0, 1, 6, 10, 11], tF 14 [0, 1, 6, 10, 11], tF 15 [4, 5]]
def tl52 : List (Nat × Tidy) := [(3, ⟨[0, 1, 6, 10, 11], true, [⟨false, 6, 0, 20006, 0⟩, ⟨false, 10, 0, 20010, 0⟩, ⟨false, 11, 0, 20011, 0⟩], []⟩), (7, ⟨[0, 1, 6, 7, 8, 10, 11, 14, 15], true, [⟨false, 6, 0, 20006, 0⟩, ⟨false, 7, 0, 20007, 0⟩, ⟨false, 10, 0, 20010, 0⟩, ⟨false, 11, 0, 20011, 0⟩, ⟨false, 14, 0, 20014, 0⟩, ⟨false, 15, 0, 20015, 0⟩], []⟩)]
def ac52 : ACode := (.seq (.region ac52_0 [] (some ⟨[0, 1], false, [], []⟩)) (.seq (.region ac52_1 [] (some ⟨[0, 1, 6], false, [], []⟩)) (.seq (.seq (.region ac52_2 [] (some ⟨[0, 1, 6, 10, 11], false, [], []⟩)) (.block 0 (.loop (some ⟨[0, 1, 6, 10, 11], true, [⟨false, 6, 0, 20006, 0⟩, ⟨false, 10, 0, 20010, 0⟩, ⟨false, 11, 0, 20011, 0⟩], []⟩) (.seq (.region ac52_3 [] (some ⟨[0, 1, 6, 10, 11, 12], false, [], []⟩)) (.seq (.cond (.tmp 12) .skip (.exit 0)) (.seq (.block 1 (.seq (.region ac52_4 [] (some ⟨[0, 1, 6, 7, 10, 11], false, [], []⟩)) (.seq (.region ac52_5 [] (some ⟨[0, 1, 6, 7, 8, 10, 11], false, [], []⟩)) (.seq (.seq (.region ac52_6 [] (some ⟨[0, 1, 6, 7, 8, 10, 11, 14, 15], false, [], []⟩)) (.block 2 (.loop (some ⟨[0, 1, 6, 7, 8, 10, 11, 14, 15], true, [⟨false, 6, 0, 20006, 0⟩, ⟨false, 7, 0, 20007, 0⟩, ⟨false, 10, 0, 20010, 0⟩, ⟨false, 11, 0, 20011, 0⟩, ⟨false, 14, 0, 20014, 0⟩, ⟨false, 15, 0, 20015, 0⟩], []⟩) (.seq (.region ac52_7 [] (some ⟨[0, 1, 6, 7, 8, 10, 11, 14, 15, 16], false, [], []⟩)) (.seq (.cond (.tmp 16) .skip (.exit 2)) (.seq (.block 3 (.seq (.region ac52_8 [] (some ⟨[0, 1, 6, 7, 8, 9, 10, 11, 14, 15], false, [], []⟩)) (.region ac52_9 [] (some ⟨[0, 1, 6, 7, 8, 10, 11, 14, 15], false, [], []⟩)))) (.region ac52_10 [] (some ⟨[0, 1, 6, 7, 8, 10, 11, 14, 15], false, [], []⟩)))))))) (.seq (.seq (.region ac52_11 [] (some ⟨[0, 1, 6, 8, 10, 11, 27], false, [], []⟩)) (.cond (.tmp 27) (.seq (.region ac52_12 [] (some ⟨[4, 5], false, [], []⟩)) .ret) .skip)) (.region ac52_13 [] (some ⟨[0, 1, 6, 10, 11], false, [], []⟩))))))) (.region ac52_14 [] (some ⟨[0, 1, 6, 10, 11], false, [], []⟩)))))))) (.seq (.region ac52_15 [] (some ⟨[4, 5], false, [], []⟩)) .ret))))
def rs52 : List AResV := [.tmp 4, .tmp 5]
def ft52 : FnT := ⟨35, tr52, tl52, ac52, rs52⟩
theorem is52 : FnIs Tryz.prog 52 35 tr52 tl52 ac52 rs52 := ⟨Tryz.f52, Tryz.func52, rfl, by kernel_rfl, by kernel_rfl, by kernel_rfl⟩
def ac53_0 : List AOper := [
 oO 5 (.alloc [(.d (.v (.complex Go.FloatKind.f64 0 0))), (cI 0)]),
 oO 6 (.mv (kI 0))]
def ac53_1 : List AOper := [
 oM 7 0,
 oM 8 1,
 oO 9 (.bin .mul 3 (.tmp 7) (.tmp 8)),
 oO 10 (.load false 1 (.tmp 2)),
 oO 11 (.len (.tmp 10)),
 oO 12 (.call 55 [(.tmp 9), (.tmp 11)]),
 oO 13 (.load false 1 (.tmp 2)),
 oM 14 1,
 oO 15 (.iaddr 1 none (.tmp 13) (.tmp 14)),
 oO 16 (.load false 1 (.tmp 15)),
 oO 17 (.call 54 [(.tmp 12), (.tmp 16)]),
 oD (.store 2 (.tmp 5) (.tmp 17)),
 oO 6 (.mv (kI 0))]
def tr53 : List (Nat × Tidy) := [tF 0 [0, 1, 2, 5], tF 1 [5, 6]]
def tl53 : List (Nat × Tidy) := []
def ac53 : ACode := (.seq (.region ac53_0 [] (some ⟨[0, 1, 2, 5], false, [], []⟩)) (.seq (.region ac53_1 [(5, 6), (5, 8), (5, 9)] (some ⟨[5, 6], false, [], []⟩)) .ret))
def rs53 : List AResV := [.cell 5 true 2, .tmp 6]
def ft53 : FnT := ⟨18, tr53, tl53, ac53, rs53⟩
theorem is53 : FnIs Tryz.prog 53 18 tr53 tl53 ac53 rs53 := ⟨Tryz.f53, Tryz.func53, rfl, by kernel_rfl, by kernel_rfl, by kernel_rfl⟩
def ac54_0 : List AOper := [
 oO 2 (.box (.tmp 0)),
 oO 4 (.alloc [(.d (.v (.complex Go.FloatKind.f64 0 0))), (cI 0)])]
def ac54_1 : List AOper := [
 oO 6 (.faddr 0 (.tmp 2)),
 oO 7 (.load false 1 (.tmp 6)),
 oM 8 1,
 oO 9 (.pure (oB (.convert 3 117 (.tmp 8)) 117)),
 oO 10 (.pure (oB (.call { callee := .builtin .complex, args := #[(.tmp 9), (.const (.float Go.FloatKind.f64 0))], argTypes := #[117, 117] }) 43)),
 oO 11 (.bin .mul 43 (.tmp 7) (.tmp 10)),
 oM 5 11]
def ac54_2 : List AOper := [
 oM 12 5,
 oO 13 (.pure (oB (.call { callee := .builtin .real, args := #[(.tmp 12)], argTypes := #[43] }) 117)),
 oO 14 (.bin .add 117 (.tmp 13) (.const (.float Go.FloatKind.f64 0))),
 oM 15 5,
 oO 16 (.pure (oB (.call { callee := .builtin .imag, args := #[(.tmp 15)], argTypes := #[43] }) 117)),
 oO 17 (.bin .add 117 (.tmp 16) (.const (.float Go.FloatKind.f64 0))),
 oO 18 (.pure (oB (.call { callee := .builtin .complex, args := #[(.tmp 14), (.tmp 17)], argTypes := #[117, 117] }) 43)),
 oO 19 (.faddr 1 (.tmp 2)),
 oO 20 (.load false 1 (.tmp 19)),
 oM 21 1,
 oM 22 1,
 oO 23 (.pure (oB (.unOp .neg 3 (.tmp 22)) 3)),
 oO 24 (.pure (oB (.call { callee := .builtin .max, args := #[(.tmp 21), (.tmp 23)], argTypes := #[3, 3] }) 3)),
 oO 25 (.bin .mul 3 (.tmp 20) (.tmp 24)),
 oO 26 (.build [(.d (.v (.complex Go.FloatKind.f64 0 0))), (cI 0)] [(0, 1, (.tmp 18)), (1, 1, (.tmp 25))]),
 oD (.store 2 (.tmp 4) (.tmp 26))]
def tr54 : List (Nat × Tidy) := [tF 0 [1, 2, 4], tF 1 [1, 2, 4, 5], tF 2 [4]]
def tl54 : List (Nat × Tidy) := []
def ac54 : ACode := (.seq (.region ac54_0 [] (some ⟨[1, 2, 4], false, [], []⟩)) (.seq (.region ac54_1 [] (some ⟨[1, 2, 4, 5], false, [], []⟩)) (.seq (.region ac54_2 [] (some ⟨[4], false, [], []⟩)) .ret)))
def rs54 : List AResV := [.cell 4 true 2]
def ft54 : FnT := ⟨27, tr54, tl54, ac54, rs54⟩
theorem is54 : FnIs Tryz.prog 54 27 tr54 tl54 ac54 rs54 := ⟨Tryz.f54, Tryz.func54, rfl, by kernel_rfl, by kernel_rfl, by kernel_rfl⟩
def ac55_0 : List AOper := [
 oO 4 (.alloc [(.d (.v (.complex Go.FloatKind.f64 0 0))), (cI 0)])]
def ac55_1 : List AOper := [
 oM 8 0,
 oM 9 1,
 oO 10 (.call 105 [(.tmp 8), (.tmp 9)]),
 oM 7 10,
 oO 11 (.extract 0 (.tmp 7)),
 oO 12 (.extract 1 (.tmp 7)),
 oO 5 (.alloc [(.d (.v (.complex Go.FloatKind.f64 0 0))), (cI 0)]),
 oD (.store 2 (.tmp 5) (.tmp 11)),
 oM 6 12]
def ac55_2 : List AOper := [
 oO 13 (.load true 2 (.tmp 5)),
 oD (.store 2 (.tmp 4) (.tmp 13))]
def tr55 : List (Nat × Tidy) := [tF 0 [0, 1, 4], tF 1 [4, 5], tF 2 [4]]
def tl55 : List (Nat × Tidy) := []
def ac55 : ACode := (.seq (.region ac55_0 [] (some ⟨[0, 1, 4], false, [], []⟩)) (.seq (.region ac55_1 [] (some ⟨[4, 5], false, [], []⟩)) (.seq (.region ac55_2 [] (some ⟨[4], false, [], []⟩)) .ret)))
def rs55 : List AResV := [.cell 4 true 2]
def ft55 : FnT := ⟨14, tr55, tl55, ac55, rs55⟩
theorem is55 : FnIs Tryz.prog 55 14 tr55 tl55 ac55 rs55 := ⟨Tryz.f55, Tryz.func55, rfl, by kernel_rfl, by kernel_rfl, by kernel_rfl⟩
def ac62_0 : List AOper := [
 oO 2 (.box (.tmp 0)),
 oO 4 (.mv (.const .nilIface)),
 oO 5 (.mv (kI 0))]
def ac62_1 : List AOper := [
 oO 9 (.load true 7 (.tmp 2)),
 oO 10 (.call 79 [(.tmp 9)]),
 oM 8 10,
 oO 11 (.extract 0 (.tmp 8)),
 oO 12 (.extract 1 (.tmp 8)),
 oM 6 11,
 oM 7 12]
def ac62_2 : List AOper := [
 oM 14 7,
 oO 15 (.bin .neq 26 (.tmp 14) (kI 0)),
 oM 13 15]
def ac62_3 : List AOper := [
 oM 16 7,
 oO 4 (.mv (.const .nilIface)),
 oM 5 16]
def ac62_4 : List AOper := [
 oM 18 1,
 oO 19 (.call 80 [(.tmp 18)]),
 oO 20 (.pure (oB (.unOp .not 4 (.tmp 19)) 4)),
 oM 17 20]
def ac62_5 : List AOper := [
 oO 4 (.mv (.const .nilIface)),
 oO 5 (.mv (kI 2))]
def ac62_6 : List AOper := [
 oM 22 6,
 oM 23 1,
 oO 24 (.inv "etalon/glass.covers" (.tmp 22) [(.tmp 23)]),
 oO 25 (.pure (oB (.unOp .not 4 (.tmp 24)) 4)),
 oM 21 25]
def ac62_7 : List AOper := [
 oO 4 (.mv (.const .nilIface)),
 oO 5 (.mv (kI 17))]
def ac62_8 : List AOper := [
 oM 26 6,
 oM 4 26,
 oO 5 (.mv (kI 0))]
def tr62 : List (Nat × Tidy) := [tF 0 [1, 2], tF 1 [1, 6, 7], tF 2 [1, 6, 7, 13], tF 3 [4, 5], tF 4 [1, 6, 17], tF 5 [4, 5], tF 6 [6, 21], tF 7 [4, 5], tF 8 [4, 5]]
def tl62 : List (Nat × Tidy) := []
def ac62 : ACode := (.seq (.region ac62_0 [] (some ⟨[1, 2], false, [], []⟩)) (.seq (.region ac62_1 [] (some ⟨[1, 6, 7], false, [], []⟩)) (.seq (.block 0 (.seq (.region ac62_2 [] (some ⟨[1, 6, 7, 13], false, [], []⟩)) (.cond (.tmp 13) (.seq (.region ac62_3 [] (some ⟨[4, 5], false, [], []⟩)) .ret) (.seq (.region ac62_4 [] (some ⟨[1, 6, 17], false, [], []⟩)) (.cond (.tmp 17) (.seq (.region ac62_5 [] (some ⟨[4, 5], false, [], []⟩)) .ret) (.seq (.region ac62_6 [] (some ⟨[6, 21], false, [], []⟩)) (.cond (.tmp 21) (.seq (.region ac62_7 [] (some ⟨[4, 5], false, [], []⟩)) .ret) .skip))))))) (.seq (.region ac62_8 [] (some ⟨[4, 5], false, [], []⟩)) .ret))))
def rs62 : List AResV := [.tmp 4, .tmp 5]
def ft62 : FnT := ⟨27, tr62, tl62, ac62, rs62⟩
theorem is62 : FnIs Tryz.prog 62 27 tr62 tl62 ac62 rs62 := ⟨Tryz.f62, Tryz.func62, rfl, by kernel_rfl, by kernel_rfl, by kernel_rfl⟩
def ac63_0 : List AOper := [
 oO 1 (.box (.tmp 0)),
 oO 2 (.mv (kI 0))]
def ac63_1 : List AOper := [
 oO 3 (.faddr 0 (.tmp 1)),
 oO 4 (.load false 1 (.tmp 3)),
 oO 5 (.bin .mul 3 (kI 2) (.tmp 4)),
 oO 6 (.faddr 1 (.tmp 1)),
 oO 7 (.load false 1 (.tmp 6)),
 oO 8 (.bin .add 3 (.tmp 5) (.tmp 7)),
 oO 9 (.faddr 1 (.tmp 1)),
 oO 10 (.load false 1 (.tmp 9)),
 oO 11 (.bin .mul 3 (kI 2) (.tmp 10)),
 oO 12 (.build [(cI 0), (cI 0)] [(0, 1, (.tmp 8)), (1, 1, (.tmp 11))]),
 oO 13 (.call 108 [(.tmp 12)]),
 oM 2 13]
def tr63 : List (Nat × Tidy) := [tF 0 [1], tF 1 [2]]
def tl63 : List (Nat × Tidy) := []
def ac63 : ACode := (.seq (.region ac63_0 [] (some ⟨[1], false, [], []⟩)) (.seq (.region ac63_1 [] (some ⟨[2], false, [], []⟩)) .ret))
def rs63 : List AResV := [.tmp 2]
def ft63 : FnT := ⟨14, tr63, tl63, ac63, rs63⟩
theorem is63 : FnIs Tryz.prog 63 14 tr63 tl63 ac63 rs63 := ⟨Tryz.f63, Tryz.func63, rfl, by kernel_rfl, by kernel_rfl, by kernel_rfl⟩
def ac65_0 : List AOper := [
 oO 1 (.box (.tmp 0)),
 oO 2 (.alloc [(cI 0), (cI 0)])]
def ac65_1 : List AOper := [
 oO 3 (.load true 2 (.tmp 1)),
 oO 4 (.call 108 [(.tmp 3)]),
 oO 5 (.load true 2 (.tmp 1)),
 oO 6 (.call 109 [(.tmp 5)]),
 oO 7 (.build [(cI 0), (cI 0)] [(0, 1, (.tmp 4)), (1, 1, (.tmp 6))]),
 oD (.store 2 (.tmp 2) (.tmp 7))]
def tr65 : List (Nat × Tidy) := [tF 0 [1, 2], tF 1 [2]]
def tl65 : List (Nat × Tidy) := []
def ac65 : ACode := (.seq (.region ac65_0 [] (some ⟨[1, 2], false, [], []⟩)) (.seq (.region ac65_1 [(1, 2)] (some ⟨[2], false, [], []⟩)) .ret))
def rs65 : List AResV := [.cell 2 true 2]
def ft65 : FnT := ⟨8, tr65, tl65, ac65, rs65⟩
theorem is65 : FnIs Tryz.prog 65 8 tr65 tl65 ac65 rs65 := ⟨Tryz.f65, Tryz.func65, rfl, by kernel_rfl, by kernel_rfl, by kernel_rfl⟩
def ac71_0 : List AOper := [
 oO 4 (.mv (.const (.bool false)))]
def ac71_1 : List AOper := [
 oM 5 0,
 oO 6 (.pure (oB (.call { callee := .builtin .real, args := #[(.tmp 5)], argTypes := #[43] }) 117)),
 oO 7 (.pure (oB (.call { callee := .value (.func 110), args := #[(.tmp 6)], argTypes := #[117] }) 164)),
 oM 8 1,
 oO 9 (.pure (oB (.call { callee := .builtin .real, args := #[(.tmp 8)], argTypes := #[43] }) 117)),
 oO 10 (.pure (oB (.call { callee := .value (.func 110), args := #[(.tmp 9)], argTypes := #[117] }) 164)),
 oO 11 (.bin .eql 164 (.tmp 7) (.tmp 10)),
 oM 12 11,
 oG 13 (.mv (.tmp 0)) 12 true,
 oG 14 (.pure (oB (.call { callee := .builtin .imag, args := #[(.tmp 13)], argTypes := #[43] }) 117)) 12 true,
 oG 15 (.pure (oB (.call { callee := .value (.func 110), args := #[(.tmp 14)], argTypes := #[117] }) 164)) 12 true,
 oG 16 (.mv (.tmp 1)) 12 true,
 oG 17 (.pure (oB (.call { callee := .builtin .imag, args := #[(.tmp 16)], argTypes := #[43] }) 117)) 12 true,
 oG 18 (.pure (oB (.call { callee := .value (.func 110), args := #[(.tmp 17)], argTypes := #[117] }) 164)) 12 true,
 oG 19 (.bin .eql 164 (.tmp 15) (.tmp 18)) 12 true,
 oO 20 (.pick (.tmp 12) (.tmp 19) (.const (.bool false))),
 oM 4 20]
def tr71 : List (Nat × Tidy) := [tF 0 [0, 1], tF 1 [4]]
def tl71 : List (Nat × Tidy) := []
def ac71 : ACode := (.seq (.region ac71_0 [] (some ⟨[0, 1], false, [], []⟩)) (.seq (.region ac71_1 [] (some ⟨[4], false, [], []⟩)) .ret))
def rs71 : List AResV := [.tmp 4]
def ft71 : FnT := ⟨21, tr71, tl71, ac71, rs71⟩
theorem is71 : FnIs Tryz.prog 71 21 tr71 tl71 ac71 rs71 := ⟨Tryz.f71, Tryz.func71, rfl, by kernel_rfl, by kernel_rfl, by kernel_rfl⟩
def ac79_0 : List AOper := [
 oO 1 (.box (.tmp 0)),
 oO 2 (.mv (.const .nilIface)),
 oO 3 (.mv (kI 0))]
def ac79_1 : List AOper := [
 oO 7 (.load true 7 (.tmp 1)),
 oO 8 (.call 113 [(.tmp 7)]),
 oM 6 8,
 oO 9 (.extract 0 (.tmp 6)),
 oO 10 (.extract 1 (.tmp 6)),
 oM 4 9,
 oM 5 10]
def ac79_2 : List AOper := [
 oM 11 5,
 oO 12 (.bin .neq 26 (.tmp 11) (kI 0))]
def ac79_3 : List AOper := [
 oM 13 5,
 oO 2 (.mv (.const .nilIface)),
 oM 3 13]
def ac79_4 : List AOper := [
 oO 14 (.faddr 1 (.tmp 1)),
 oO 15 (.load false 1 (.tmp 14)),
 oO 16 (.bin .eql 3 (.tmp 15) (kI 1))]
def ac79_5 : List AOper := [
 oO 17 (.load true 7 (.tmp 1)),
 ⟨(some 18), (.build [(.d (.v (.string ⟨#[]⟩))), (.d (.v (.int .i64 0))), .nils, .nils, .nils, (.d (.v (.int .i64 0))), (.d (.v (.int .i64 0)))] [(0, 7, (.tmp 17))]), none⟩,
 oO 19 (.ifc 169 (.tmp 18)),
 oM 2 19,
 oO 3 (.mv (kI 0))]
def ac79_6 : List AOper := [
 oO 20 (.faddr 5 (.tmp 1)),
 oO 21 (.iaddr 1 (some 2) (.tmp 20) (kI 0)),
 oO 22 (.load false 1 (.tmp 21)),
 oO 23 (.faddr 5 (.tmp 1)),
 oO 24 (.iaddr 1 (some 2) (.tmp 23) (kI 1)),
 oO 25 (.load false 1 (.tmp 24)),
 oO 26 (.build [(cI 0), (cI 0)] [(0, 1, (.tmp 22)), (1, 1, (.tmp 25))]),
 oO 27 (.ifc 171 (.tmp 26)),
 oM 2 27,
 oO 3 (.mv (kI 0))]
def tr79 : List (Nat × Tidy) := [tF 0 [1], tF 1 [1, 5], tF 2 [1, 5, 12], tF 3 [2, 3], tF 4 [1, 16], tF 5 [2, 3], tF 6 [2, 3]]
def tl79 : List (Nat × Tidy) := []
def ac79 : ACode := (.seq (.region ac79_0 [] (some ⟨[1], false, [], []⟩)) (.seq (.seq (.region ac79_1 [] (some ⟨[1, 5], false, [], []⟩)) (.seq (.region ac79_2 [] (some ⟨[1, 5, 12], false, [], []⟩)) (.cond (.tmp 12) (.seq (.region ac79_3 [] (some ⟨[2, 3], false, [], []⟩)) .ret) .skip))) (.seq (.seq (.region ac79_4 [] (some ⟨[1, 16], false, [], []⟩)) (.cond (.tmp 16) (.seq (.region ac79_5 [] (some ⟨[2, 3], false, [], []⟩)) .ret) .skip)) (.seq (.region ac79_6 [] (some ⟨[2, 3], false, [], []⟩)) .ret))))
def rs79 : List AResV := [.tmp 2, .tmp 3]
def ft79 : FnT := ⟨28, tr79, tl79, ac79, rs79⟩
theorem is79 : FnIs Tryz.prog 79 28 tr79 tl79 ac79 rs79 := ⟨Tryz.f79, Tryz.func79, rfl, by kernel_rfl, by kernel_rfl, by kernel_rfl⟩
def ac80_0 : List AOper := [
 oO 2 (.mv (.const (.bool false)))]
def ac80_1 : List AOper := [
 oM 3 0,
 oO 4 (.call 51 [(.tmp 3), (kI 1000), (kI 200000)]),
 oM 2 4]
def tr80 : List (Nat × Tidy) := [tF 0 [0], tF 1 [2]]
def tl80 : List (Nat × Tidy) := []
def ac80 : ACode := (.seq (.region ac80_0 [] (some ⟨[0], false, [], []⟩)) (.seq (.region ac80_1 [] (some ⟨[2], false, [], []⟩)) .ret))
def rs80 : List AResV := [.tmp 2]
def ft80 : FnT := ⟨5, tr80, tl80, ac80, rs80⟩
theorem is80 : FnIs Tryz.prog 80 5 tr80 tl80 ac80 rs80 := ⟨Tryz.f80, Tryz.func80, rfl, by kernel_rfl, by kernel_rfl, by kernel_rfl⟩
def ac94_0 : List AOper := [
 oO 1 (.box (.tmp 0)),
 oO 2 (.alloc [(cI 0), (cI 0), (cI 0)]),
 oO 3 (.mv (kI 0))]
def ac94_1 : List AOper := [
 oO 7 (.faddr 0 (.tmp 1)),
 oO 8 (.load false 1 (.tmp 7)),
 oO 9 (.call 95 [(.tmp 8), (.const (.float Go.FloatKind.f64 4724276009111650304))]),
 oM 6 9,
 oO 10 (.extract 0 (.tmp 6)),
 oO 11 (.extract 1 (.tmp 6)),
 oO 4 (.alloc [(cI 0), (cI 0)]),
 oD (.store 2 (.tmp 4) (.tmp 10)),
 oM 5 11]
def ac94_2 : List AOper := [
 oM 12 5,
 oO 13 (.bin .eql 26 (.tmp 12) (kI 0)),
 oM 14 13,
 oG 15 (.faddr 1 (.tmp 1)) 14 true,
 oG 16 (.load false 1 (.tmp 15)) 14 true,
 oG 17 (.call 127 [(.tmp 16), (kI 0), (kI 67108864)]) 14 true,
 oG 18 (.pure (oB (.unOp .not 4 (.tmp 17)) 4)) 14 true,
 oO 19 (.pick (.tmp 14) (.tmp 18) (.const (.bool false)))]
def ac94_3 : List AOper := [
 oO 5 (.mv (kI 2))]
def ac94_4 : List AOper := [
 oO 20 (.load true 2 (.tmp 4)),
 oO 21 (.faddr 1 (.tmp 1)),
 oO 22 (.load false 1 (.tmp 21)),
 oO 23 (.build [(cI 0), (cI 0), (cI 0)] [(0, 2, (.tmp 20)), (2, 1, (.tmp 22))]),
 oM 24 5,
 oD (.store 3 (.tmp 2) (.tmp 23)),
 oM 3 24]
def tr94 : List (Nat × Tidy) := [tF 0 [1, 2], tF 1 [1, 2, 4, 5], tF 2 [1, 2, 4, 5, 19], tF 3 [1, 2, 4, 5], tF 4 [2, 3]]
def tl94 : List (Nat × Tidy) := []
def ac94 : ACode := (.seq (.region ac94_0 [] (some ⟨[1, 2], false, [], []⟩)) (.seq (.region ac94_1 [] (some ⟨[1, 2, 4, 5], false, [], []⟩)) (.seq (.seq (.region ac94_2 [] (some ⟨[1, 2, 4, 5, 19], false, [], []⟩)) (.cond (.tmp 19) (.region ac94_3 [] (some ⟨[1, 2, 4, 5], false, [], []⟩)) .skip)) (.seq (.region ac94_4 [] (some ⟨[2, 3], false, [], []⟩)) .ret))))
def rs94 : List AResV := [.cell 2 true 3, .tmp 3]
def ft94 : FnT := ⟨25, tr94, tl94, ac94, rs94⟩
theorem is94 : FnIs Tryz.prog 94 25 tr94 tl94 ac94 rs94 := ⟨Tryz.f94, Tryz.func94, rfl, by kernel_rfl, by kernel_rfl, by kernel_rfl⟩
def ac95_0 : List AOper := [
 oO 4 (.alloc [(cI 0), (cI 0)]),
 oO 5 (.mv (kI 0))]
def ac95_1 : List AOper := [
 oM 11 0,
 oO 12 (.pure (oB (.call { callee := .builtin .real, args := #[(.tmp 11)], argTypes := #[43] }) 117)),
 oM 13 0,
 oO 14 (.pure (oB (.call { callee := .builtin .imag, args := #[(.tmp 13)], argTypes := #[43] }) 117)),
 oO 15 (.build [(.d (.v (.float Go.FloatKind.f64 0))), (.d (.v (.float Go.FloatKind.f64 0)))] [(0, 1, (.tmp 12)), (1, 1, (.tmp 14))]),
 oO 6 (.alloc [(.d (.v (.float Go.FloatKind.f64 0))), (.d (.v (.float Go.FloatKind.f64 0)))]),
 oD (.store 2 (.tmp 6) (.tmp 15))]
def ac95_2 : List AOper := [
 oO 16 (.load true 2 (.tmp 6)),
 oO 17 (.mv (kI 0))]
def ac95_3 : List AOper := [
 oO 18 (.bin .lss 3 (.tmp 17) (kI 2))]
def ac95_4 : List AOper := [
 oO 19 (.index false 2 1 (.tmp 16) (.tmp 17)),
 oM 8 19]
def ac95_5 : List AOper := [
 oM 20 8,
 oO 21 (.call 128 [(.tmp 20)]),
 oO 22 (.pure (oB (.unOp .not 4 (.tmp 21)) 4))]
def ac95_6 : List AOper := [
 oO 23 (.build [(cI 0), (cI 0)] []),
 oD (.store 2 (.tmp 4) (.tmp 23)),
 oO 5 (.mv (kI 27))]
def ac95_7 : List AOper := [
 oO 24 (.bin .add 3 (.tmp 17) (kI 1)),
 oM 17 24]
def ac95_8 : List AOper := [
 oO 25 (.load true 2 (.tmp 6)),
 oO 26 (.mv (kI 0))]
def ac95_9 : List AOper := [
 oO 27 (.bin .lss 3 (.tmp 26) (kI 2))]
def ac95_10 : List AOper := [
 oO 28 (.index false 2 1 (.tmp 25) (.tmp 26)),
 oM 10 28]
def ac95_11 : List AOper := [
 oM 29 10,
 oO 30 (.call 129 [(.tmp 29)]),
 oM 31 1,
 oO 32 (.bin .gtr 117 (.tmp 30) (.tmp 31))]
def ac95_12 : List AOper := [
 oO 33 (.build [(cI 0), (cI 0)] []),
 oD (.store 2 (.tmp 4) (.tmp 33)),
 oO 5 (.mv (kI 2))]
def ac95_13 : List AOper := [
 oO 34 (.bin .add 3 (.tmp 26) (kI 1)),
 oM 26 34]
def ac95_14 : List AOper := [
 oM 35 0,
 oO 36 (.call 130 [(.tmp 35)]),
 oD (.store 2 (.tmp 4) (.tmp 36)),
 oO 5 (.mv (kI 0))]
def tr95 : List (Nat × Tidy) := [tF 0 [0, 1, 4], tF 1 [0, 1, 4, 6], tF 2 [0, 1, 4, 6, 16, 17], tF 3 [0, 1, 4, 6, 16, 17, 18], tF 4 [0, 1, 4, 6, 8, 16, 17], tF 5 [0, 1, 4, 6, 16, 17, 22], tF 6 [4, 5], tF 7 [0, 1, 4, 6, 16, 17], tF 8 [0, 1, 4, 25, 26], tF 9 [0, 1, 4, 25, 26, 27], tF 10 [0, 1, 4, 10, 25, 26], tF 11 [0, 1, 4, 25, 26, 32], tF 12 [4, 5], tF 13 [0, 1, 4, 25, 26], tF 14 [4, 5]]
def tl95 : List (Nat × Tidy) := [(3, ⟨[0, 1, 4, 6, 16, 17], true, [⟨false, 17, 0, 20017, 0⟩], []⟩), (9, ⟨[0, 1, 4, 25, 26], true, [⟨false, 26, 0, 20026, 0⟩], []⟩)]
def ac95 : ACode := (.seq (.region ac95_0 [] (some ⟨[0, 1, 4], false, [], []⟩)) (.seq (.region ac95_1 [] (some ⟨[0, 1, 4, 6], false, [], []⟩)) (.seq (.seq (.region ac95_2 [] (some ⟨[0, 1, 4, 6, 16, 17], false, [], []⟩)) (.block 0 (.loop (some ⟨[0, 1, 4, 6, 16, 17], true, [⟨false, 17, 0, 20017, 0⟩], []⟩) (.seq (.region ac95_3 [] (some ⟨[0, 1, 4, 6, 16, 17, 18], false, [], []⟩)) (.seq (.cond (.tmp 18) .skip (.exit 0)) (.seq (.block 1 (.seq (.region ac95_4 [] (some ⟨[0, 1, 4, 6, 8, 16, 17], false, [], []⟩)) (.seq (.region ac95_5 [] (some ⟨[0, 1, 4, 6, 16, 17, 22], false, [], []⟩)) (.cond (.tmp 22) (.seq (.region ac95_6 [] (some ⟨[4, 5], false, [], []⟩)) .ret) .skip)))) (.region ac95_7 [] (some ⟨[0, 1, 4, 6, 16, 17], false, [], []⟩)))))))) (.seq (.seq (.region ac95_8 [] (some ⟨[0, 1, 4, 25, 26], false, [], []⟩)) (.block 2 (.loop (some ⟨[0, 1, 4, 25, 26], true, [⟨false, 26, 0, 20026, 0⟩], []⟩) (.seq (.region ac95_9 [] (some ⟨[0, 1, 4, 25, 26, 27], false, [], []⟩)) (.seq (.cond (.tmp 27) .skip (.exit 2)) (.seq (.block 3 (.seq (.region ac95_10 [] (some ⟨[0, 1, 4, 10, 25, 26], false, [], []⟩)) (.seq (.region ac95_11 [] (some ⟨[0, 1, 4, 25, 26, 32], false, [], []⟩)) (.cond (.tmp 32) (.seq (.region ac95_12 [] (some ⟨[4, 5], false, [], []⟩)) .ret) .skip)))) (.region ac95_13 [] (some ⟨[0, 1, 4, 25, 26], false, [], []⟩)))))))) (.seq (.region ac95_14 [] (some ⟨[4, 5], false, [], []⟩)) .ret)))))
def rs95 : List AResV := [.cell 4 true 2, .tmp 5]
def ft95 : FnT := ⟨37, tr95, tl95, ac95, rs95⟩
theorem is95 : FnIs Tryz.prog 95 37 tr95 tl95 ac95 rs95 := ⟨Tryz.f95, Tryz.func95, rfl, by kernel_rfl, by kernel_rfl, by kernel_rfl⟩
def ac99_0 : List AOper := [
 oO 2 (.mv (kI 0))]
def ac99_1 : List AOper := [
 oM 5 0,
 oO 6 (.len (.tmp 5)),
 oO 7 (.mv (kI 0))]
def ac99_2 : List AOper := [
 oO 8 (.bin .lss 3 (.tmp 7) (.tmp 6))]
def ac99_3 : List AOper := [
 oO 9 (.iaddr 1 none (.tmp 5) (.tmp 7)),
 oO 10 (.load false 1 (.tmp 9)),
 oM 4 10]
def ac99_4 : List AOper := [
 oM 11 4,
 oO 12 (.call 132 [(.tmp 11)]),
 oO 13 (.pure (oB (.unOp .not 4 (.tmp 12)) 4))]
def ac99_5 : List AOper := [
 oO 2 (.mv (kI 2))]
def ac99_6 : List AOper := [
 oO 14 (.bin .add 3 (.tmp 7) (kI 1)),
 oM 7 14]
def ac99_7 : List AOper := [
 oO 2 (.mv (kI 0))]
def tr99 : List (Nat × Tidy) := [tF 0 [0], tF 1 [5, 6, 7], tF 2 [5, 6, 7, 8], tF 3 [4, 5, 6, 7], tF 4 [5, 6, 7, 13], tF 5 [2], tF 6 [5, 6, 7], tF 7 [2]]
def tl99 : List (Nat × Tidy) := [(2, ⟨[5, 6, 7], true, [⟨false, 5, 0, 20005, 0⟩, ⟨false, 7, 0, 20007, 0⟩], []⟩)]
def ac99 : ACode := (.seq (.region ac99_0 [] (some ⟨[0], false, [], []⟩)) (.seq (.seq (.region ac99_1 [] (some ⟨[5, 6, 7], false, [], []⟩)) (.block 0 (.loop (some ⟨[5, 6, 7], true, [⟨false, 5, 0, 20005, 0⟩, ⟨false, 7, 0, 20007, 0⟩], []⟩) (.seq (.region ac99_2 [] (some ⟨[5, 6, 7, 8], false, [], []⟩)) (.seq (.cond (.tmp 8) .skip (.exit 0)) (.seq (.block 1 (.seq (.region ac99_3 [] (some ⟨[4, 5, 6, 7], false, [], []⟩)) (.seq (.region ac99_4 [] (some ⟨[5, 6, 7, 13], false, [], []⟩)) (.cond (.tmp 13) (.seq (.region ac99_5 [] (some ⟨[2], false, [], []⟩)) .ret) .skip)))) (.region ac99_6 [] (some ⟨[5, 6, 7], false, [], []⟩)))))))) (.seq (.region ac99_7 [] (some ⟨[2], false, [], []⟩)) .ret)))
def rs99 : List AResV := [.tmp 2]
def ft99 : FnT := ⟨15, tr99, tl99, ac99, rs99⟩
theorem is99 : FnIs Tryz.prog 99 15 tr99 tl99 ac99 rs99 := ⟨Tryz.f99, Tryz.func99, rfl, by kernel_rfl, by kernel_rfl, by kernel_rfl⟩
def ac100_0 : List AOper := [
 oO 4 (.mv (kI 0))]
def ac100_1 : List AOper := [
 oM 8 0,
 oO 5 (.mv (kI 0)),
 oM 6 8]
def ac100_2 : List AOper := [
 oM 9 5,
 oM 10 6,
 oO 11 (.bin .lss 3 (.tmp 9) (.tmp 10))]
def ac100_3 : List AOper := [
 oM 12 5,
 oM 13 6,
 oO 14 (.bin .add 3 (.tmp 12) (.tmp 13)),
 oO 15 (.bin .add 3 (.tmp 14) (kI 1)),
 oO 16 (.bin .quo 3 (.tmp 15) (kI 2)),
 oM 7 16]
def ac100_4 : List AOper := [
 oM 17 1,
 oM 18 7,
 oO 19 (.calld (.tmp 17) [(.tmp 18)])]
def ac100_5 : List AOper := [
 oM 20 7,
 oM 5 20]
def ac100_6 : List AOper := [
 oM 21 7,
 oO 22 (.bin .sub 3 (.tmp 21) (kI 1)),
 oM 6 22]
def ac100_7 : List AOper := [
 oM 23 5,
 oM 4 23]
def tr100 : List (Nat × Tidy) := [tF 0 [0, 1], tF 1 [1, 5, 6], tF 2 [1, 5, 6, 11], tF 3 [1, 5, 6, 7], tF 4 [1, 5, 6, 7, 19], tF 5 [1, 5, 6], tF 6 [1, 5, 6], tF 7 [4]]
def tl100 : List (Nat × Tidy) := [(2, ⟨[1, 5, 6], true, [⟨false, 5, 0, 20005, 0⟩, ⟨false, 6, 0, 20006, 0⟩], []⟩)]
def ac100 : ACode := (.seq (.region ac100_0 [] (some ⟨[0, 1], false, [], []⟩)) (.seq (.region ac100_1 [] (some ⟨[1, 5, 6], false, [], []⟩)) (.seq (.block 0 (.loop (some ⟨[1, 5, 6], true, [⟨false, 5, 0, 20005, 0⟩, ⟨false, 6, 0, 20006, 0⟩], []⟩) (.seq (.seq (.region ac100_2 [] (some ⟨[1, 5, 6, 11], false, [], []⟩)) (.cond (.tmp 11) .skip (.exit 0))) (.block 1 (.seq (.region ac100_3 [] (some ⟨[1, 5, 6, 7], false, [], []⟩)) (.seq (.region ac100_4 [] (some ⟨[1, 5, 6, 7, 19], false, [], []⟩)) (.cond (.tmp 19) (.region ac100_5 [] (some ⟨[1, 5, 6], false, [], []⟩)) (.region ac100_6 [] (some ⟨[1, 5, 6], false, [], []⟩))))))))) (.seq (.region ac100_7 [] (some ⟨[4], false, [], []⟩)) .ret))))
def rs100 : List AResV := [.tmp 4]
def ft100 : FnT := ⟨24, tr100, tl100, ac100, rs100⟩
theorem is100 : FnIs Tryz.prog 100 24 tr100 tl100 ac100 rs100 := ⟨Tryz.f100, Tryz.func100, rfl, by kernel_rfl, by kernel_rfl, by kernel_rfl⟩
def ac101_0 : List AOper := [
 oO 5 (.mv (.const (.bool false)))]
def ac101_1 : List AOper := [
 oM 6 0,
 oM 7 0,
 oO 8 (.bin .mul 3 (.tmp 6) (.tmp 7)),
 oO 9 (.load false 1 (.tmp 1)),
 oO 10 (.load false 1 (.tmp 2)),
 oO 11 (.load false 1 (.tmp 2)),
 oO 12 (.bin .mul 3 (.tmp 10) (.tmp 11)),
 oO 13 (.load false 1 (.tmp 3)),
 oO 14 (.bin .mul 3 (kI 10000) (.tmp 13)),
 oO 15 (.load false 1 (.tmp 3)),
 oO 16 (.bin .mul 3 (.tmp 14) (.tmp 15)),
 oO 17 (.call 102 [(.tmp 8), (.tmp 9), (.tmp 12), (.tmp 16)]),
 oO 18 (.bin .leq 3 (.tmp 17) (kI 0)),
 oM 5 18]
def tr101 : List (Nat × Tidy) := [tF 0 [0, 1, 2, 3], tF 1 [5]]
def tl101 : List (Nat × Tidy) := []
def ac101 : ACode := (.seq (.region ac101_0 [] (some ⟨[0, 1, 2, 3], false, [], []⟩)) (.seq (.region ac101_1 [] (some ⟨[5], false, [], []⟩)) .ret))
def rs101 : List AResV := [.tmp 5]
def ft101 : FnT := ⟨19, tr101, tl101, ac101, rs101⟩
theorem is101 : FnIs Tryz.prog 101 19 tr101 tl101 ac101 rs101 := ⟨Tryz.f101, Tryz.func101, rfl, by kernel_rfl, by kernel_rfl, by kernel_rfl⟩
def ac102_0 : List AOper := [
 oO 8 (.mv (kI 0))]
def ac102_1 : List AOper := [
 oM 14 0,
 oO 15 (.pure (oB (.convert 3 164 (.tmp 14)) 164)),
 oM 16 1,
 oO 17 (.pure (oB (.convert 3 164 (.tmp 16)) 164)),
 oO 18 (.call 133 [(.tmp 15), (.tmp 17)]),
 oM 13 18,
 oO 19 (.extract 0 (.tmp 13)),
 oO 20 (.extract 1 (.tmp 13)),
 oM 9 19,
 oM 10 20]
def ac102_2 : List AOper := [
 oM 22 2,
 oO 23 (.pure (oB (.convert 3 164 (.tmp 22)) 164)),
 oM 24 3,
 oO 25 (.pure (oB (.convert 3 164 (.tmp 24)) 164)),
 oO 26 (.call 133 [(.tmp 23), (.tmp 25)]),
 oM 21 26,
 oO 27 (.extract 0 (.tmp 21)),
 oO 28 (.extract 1 (.tmp 21)),
 oM 11 27,
 oM 12 28]
def ac102_3 : List AOper := [
 oM 29 9,
 oM 30 11,
 oO 31 (.call 135 [(.tmp 29), (.tmp 30)]),
 oM 32 10,
 oM 33 12,
 oO 34 (.call 135 [(.tmp 32), (.tmp 33)]),
 oO 35 (.bslice 1 2 [(.v (.int .i64 0))] [(0, (.tmp 31)), (1, (.tmp 34))]),
 oO 36 (.call 134 [(.tmp 35)]),
 oM 8 36]
def tr102 : List (Nat × Tidy) := [tF 0 [0, 1, 2, 3], tF 1 [2, 3, 9, 10], tF 2 [9, 10, 11, 12], tF 3 [8]]
def tl102 : List (Nat × Tidy) := []
def ac102 : ACode := (.seq (.region ac102_0 [] (some ⟨[0, 1, 2, 3], false, [], []⟩)) (.seq (.region ac102_1 [] (some ⟨[2, 3, 9, 10], false, [], []⟩)) (.seq (.region ac102_2 [] (some ⟨[9, 10, 11, 12], false, [], []⟩)) (.seq (.region ac102_3 [] (some ⟨[8], false, [], []⟩)) .ret))))
def rs102 : List AResV := [.tmp 8]
def ft102 : FnT := ⟨37, tr102, tl102, ac102, rs102⟩
theorem is102 : FnIs Tryz.prog 102 37 tr102 tl102 ac102 rs102 := ⟨Tryz.f102, Tryz.func102, rfl, by kernel_rfl, by kernel_rfl, by kernel_rfl⟩
def ac103_0 : List AOper := [
 oO 3 (.mv (.const (.bool false)))]
def ac103_1 : List AOper := [
 oM 4 0,
 oO 5 (.bin .mul 3 (kI 10000) (.tmp 4)),
 oM 6 0,
 oO 7 (.bin .mul 3 (.tmp 5) (.tmp 6)),
 oO 8 (.load false 1 (.tmp 1)),
 oO 9 (.bin .lss 3 (.tmp 7) (.tmp 8)),
 oM 3 9]
def tr103 : List (Nat × Tidy) := [tF 0 [0, 1], tF 1 [3]]
def tl103 : List (Nat × Tidy) := []
def ac103 : ACode := (.seq (.region ac103_0 [] (some ⟨[0, 1], false, [], []⟩)) (.seq (.region ac103_1 [] (some ⟨[3], false, [], []⟩)) .ret))
def rs103 : List AResV := [.tmp 3]
def ft103 : FnT := ⟨10, tr103, tl103, ac103, rs103⟩
theorem is103 : FnIs Tryz.prog 103 10 tr103 tl103 ac103 rs103 := ⟨Tryz.f103, Tryz.func103, rfl, by kernel_rfl, by kernel_rfl, by kernel_rfl⟩
def ac104_0 : List AOper := [
 oO 4 (.box (.tmp 1))]
def ac104_1 : List AOper := [
 oM 7 2,
 oO 8 (.bin .neq 26 (.tmp 7) (kI 0))]
def ac104_2 : List AOper := [
 oM 9 0,
 oO 10 (.nilchk (.tmp 9)),
 oO 11 (.faddr 2 (.tmp 10)),
 oD (.store 1 (.tmp 11) (.const (.bool true)))]
def ac104_3 : List AOper := [
 oM 12 0,
 oO 13 (.nilchk (.tmp 12)),
 oO 14 (.faddr 2 (.tmp 13)),
 oO 15 (.load false 1 (.tmp 14))]
def ac104_4 : List AOper := [
 oM 17 0,
 oO 18 (.nilchk (.tmp 17)),
 oO 19 (.faddr 0 (.tmp 18)),
 oO 20 (.load true 2 (.tmp 19)),
 oO 21 (.load true 2 (.tmp 4)),
 oO 22 (.call 136 [(.tmp 20), (.tmp 21)]),
 oM 16 22,
 oO 23 (.extract 0 (.tmp 16)),
 oO 24 (.extract 1 (.tmp 16)),
 oO 6 (.alloc [(.d (.v (.complex Go.FloatKind.f64 0 0))), (cI 0)]),
 oD (.store 2 (.tmp 6) (.tmp 23)),
 oM 2 24]
def ac104_5 : List AOper := [
 oM 25 0,
 oM 26 0,
 oO 27 (.load true 2 (.tmp 6)),
 oM 28 2,
 oO 29 (.bin .neq 26 (.tmp 28) (kI 0)),
 oO 30 (.nilchk (.tmp 25)),
 oO 31 (.faddr 0 (.tmp 30)),
 oD (.store 2 (.tmp 31) (.tmp 27)),
 oO 32 (.nilchk (.tmp 26)),
 oO 33 (.faddr 2 (.tmp 32)),
 oD (.store 1 (.tmp 33) (.tmp 29))]
def tr104 : List (Nat × Tidy) := [tF 0 [0, 2, 4], tF 1 [0, 4, 8], tF 2 [0, 4], tF 3 [0, 4, 15], tF 4 [0, 2, 6], tF 5 [0]]
def tl104 : List (Nat × Tidy) := []
def ac104 : ACode := (.seq (.region ac104_0 [] (some ⟨[0, 2, 4], false, [], []⟩)) (.seq (.seq (.region ac104_1 [] (some ⟨[0, 4, 8], false, [], []⟩)) (.cond (.tmp 8) (.region ac104_2 [] (some ⟨[0, 4], false, [], []⟩)) .skip)) (.seq (.seq (.region ac104_3 [] (some ⟨[0, 4, 15], false, [], []⟩)) (.cond (.tmp 15) .ret .skip)) (.seq (.region ac104_4 [(3, 9), (4, 9), (5, 9)] (some ⟨[0, 2, 6], false, [], []⟩)) (.region ac104_5 [] (some ⟨[0], false, [], []⟩))))))
def rs104 : List AResV := []
def ft104 : FnT := ⟨34, tr104, tl104, ac104, rs104⟩
theorem is104 : FnIs Tryz.prog 104 34 tr104 tl104 ac104 rs104 := ⟨Tryz.f104, Tryz.func104, rfl, by kernel_rfl, by kernel_rfl, by kernel_rfl⟩
def ac105_0 : List AOper := [
 oO 4 (.alloc [(.d (.v (.complex Go.FloatKind.f64 0 0))), (cI 0)]),
 oO 5 (.mv (kI 0))]
def ac105_1 : List AOper := [
 oM 6 0,
 oO 7 (.call 137 [(.tmp 6), (kI 1000000000)]),
 oO 8 (.pure (oB (.unOp .not 4 (.tmp 7)) 4)),
 oM 9 8,
 oG 10 (.mv (.tmp 1)) 9 false,
 oG 11 (.call 127 [(.tmp 10), (kI 1), (kI 1000000000)]) 9 false,
 oG 12 (.pure (oB (.unOp .not 4 (.tmp 11)) 4)) 9 false,
 oO 13 (.pick (.tmp 9) (.const (.bool true)) (.tmp 12))]
def ac105_2 : List AOper := [
 oO 14 (.build [(.d (.v (.complex Go.FloatKind.f64 0 0))), (cI 0)] []),
 oD (.store 2 (.tmp 4) (.tmp 14)),
 oO 5 (.mv (kI 2))]
def ac105_3 : List AOper := [
 oM 15 0,
 oO 16 (.bin .mul 3 (.tmp 15) (kI 4194304)),
 oM 17 1,
 oO 18 (.call 139 [(.tmp 16), (.tmp 17)]),
 oM 19 0,
 oO 20 (.bin .mul 3 (.tmp 19) (kI 4194304)),
 oM 21 1,
 oO 22 (.call 118 [(.tmp 20), (.tmp 21)]),
 oO 23 (.call 138 [(.tmp 18), (.tmp 22)]),
 oO 24 (.extract 0 (.tmp 23)),
 oO 25 (.extract 1 (.tmp 23)),
 oD (.store 2 (.tmp 4) (.tmp 24)),
 oM 5 25]
def tr105 : List (Nat × Tidy) := [tF 0 [0, 1, 4], tF 1 [0, 1, 4, 13], tF 2 [4, 5], tF 3 [4, 5]]
def tl105 : List (Nat × Tidy) := []
def ac105 : ACode := (.seq (.region ac105_0 [] (some ⟨[0, 1, 4], false, [], []⟩)) (.seq (.seq (.region ac105_1 [] (some ⟨[0, 1, 4, 13], false, [], []⟩)) (.cond (.tmp 13) (.seq (.region ac105_2 [] (some ⟨[4, 5], false, [], []⟩)) .ret) .skip)) (.seq (.region ac105_3 [] (some ⟨[4, 5], false, [], []⟩)) .ret)))
def rs105 : List AResV := [.cell 4 true 2, .tmp 5]
def ft105 : FnT := ⟨26, tr105, tl105, ac105, rs105⟩
theorem is105 : FnIs Tryz.prog 105 26 tr105 tl105 ac105 rs105 := ⟨Tryz.f105, Tryz.func105, rfl, by kernel_rfl, by kernel_rfl, by kernel_rfl⟩
def ac108_0 : List AOper := [
 oO 1 (.box (.tmp 0)),
 oO 2 (.mv (kI 0))]
def ac108_1 : List AOper := [
 oO 4 (.faddr 0 (.tmp 1)),
 oO 5 (.load false 1 (.tmp 4)),
 oO 6 (.faddr 1 (.tmp 1)),
 oO 7 (.load false 1 (.tmp 6)),
 oO 8 (.bin .quo 3 (.tmp 5) (.tmp 7)),
 oM 3 8]
def ac108_2 : List AOper := [
 oO 9 (.faddr 0 (.tmp 1)),
 oO 10 (.load false 1 (.tmp 9)),
 oO 11 (.faddr 1 (.tmp 1)),
 oO 12 (.load false 1 (.tmp 11)),
 oO 13 (.bin .rem 3 (.tmp 10) (.tmp 12)),
 oO 14 (.bin .lss 3 (.tmp 13) (kI 0))]
def ac108_3 : List AOper := [
 oM 15 3,
 oO 16 (.bin .sub 3 (.tmp 15) (kI 1)),
 oM 3 16]
def ac108_4 : List AOper := [
 oM 17 3,
 oM 2 17]
def tr108 : List (Nat × Tidy) := [tF 0 [1], tF 1 [1, 3], tF 2 [3, 14], tF 3 [3], tF 4 [2]]
def tl108 : List (Nat × Tidy) := []
def ac108 : ACode := (.seq (.region ac108_0 [] (some ⟨[1], false, [], []⟩)) (.seq (.region ac108_1 [] (some ⟨[1, 3], false, [], []⟩)) (.seq (.seq (.region ac108_2 [] (some ⟨[3, 14], false, [], []⟩)) (.cond (.tmp 14) (.region ac108_3 [] (some ⟨[3], false, [], []⟩)) .skip)) (.seq (.region ac108_4 [] (some ⟨[2], false, [], []⟩)) .ret))))
def rs108 : List AResV := [.tmp 2]
def ft108 : FnT := ⟨18, tr108, tl108, ac108, rs108⟩
theorem is108 : FnIs Tryz.prog 108 18 tr108 tl108 ac108 rs108 := ⟨Tryz.f108, Tryz.func108, rfl, by kernel_rfl, by kernel_rfl, by kernel_rfl⟩
def ac109_0 : List AOper := [
 oO 1 (.box (.tmp 0)),
 oO 2 (.mv (kI 0))]
def ac109_1 : List AOper := [
 oO 3 (.faddr 0 (.tmp 1)),
 oO 4 (.load false 1 (.tmp 3)),
 oO 5 (.pure (oB (.unOp .neg 3 (.tmp 4)) 3)),
 oO 6 (.faddr 1 (.tmp 1)),
 oO 7 (.load false 1 (.tmp 6)),
 oO 8 (.build [(cI 0), (cI 0)] [(0, 1, (.tmp 5)), (1, 1, (.tmp 7))]),
 oO 9 (.call 108 [(.tmp 8)]),
 oO 10 (.pure (oB (.unOp .neg 3 (.tmp 9)) 3)),
 oM 2 10]
def tr109 : List (Nat × Tidy) := [tF 0 [1], tF 1 [2]]
def tl109 : List (Nat × Tidy) := []
def ac109 : ACode := (.seq (.region ac109_0 [] (some ⟨[1], false, [], []⟩)) (.seq (.region ac109_1 [] (some ⟨[2], false, [], []⟩)) .ret))
def rs109 : List AResV := [.tmp 2]
def ft109 : FnT := ⟨11, tr109, tl109, ac109, rs109⟩
theorem is109 : FnIs Tryz.prog 109 11 tr109 tl109 ac109 rs109 := ⟨Tryz.f109, Tryz.func109, rfl, by kernel_rfl, by kernel_rfl, by kernel_rfl⟩
def ac113_0 : List AOper := [
 oO 1 (.box (.tmp 0)),
 oO 2 (.mv (kI 0)),
 oO 3 (.mv (kI 0))]
def ac113_1 : List AOper := [
 oO 5 (.faddr 0 (.tmp 1)),
 oO 6 (.load false 1 (.tmp 5)),
 oO 7 (.call 141 [(.tmp 6)]),
 oO 8 (.pure (oB (.unOp .not 4 (.tmp 7)) 4)),
 oM 4 8]
def ac113_2 : List AOper := [
 oO 2 (.mv (kI 0)),
 oO 3 (.mv (kI 3))]
def ac113_3 : List AOper := [
 oO 10 (.faddr 1 (.tmp 1)),
 oO 11 (.load false 1 (.tmp 10)),
 oO 12 (.bin .eql 3 (.tmp 11) (kI 1)),
 oM 9 12]
def ac113_4 : List AOper := [
 oO 13 (.load true 7 (.tmp 1)),
 oO 14 (.call 142 [(.tmp 13)]),
 oO 15 (.extract 0 (.tmp 14)),
 oO 16 (.extract 1 (.tmp 14)),
 oM 2 15,
 oM 3 16]
def ac113_5 : List AOper := [
 oO 18 (.faddr 1 (.tmp 1)),
 oO 19 (.load false 1 (.tmp 18)),
 oO 20 (.bin .neq 3 (.tmp 19) (kI 2)),
 oM 17 20]
def ac113_6 : List AOper := [
 oO 2 (.mv (kI 0)),
 oO 3 (.mv (kI 11))]
def ac113_7 : List AOper := [
 oO 22 (.faddr 2 (.tmp 1)),
 oO 23 (.load false 1 (.tmp 22)),
 oO 24 (.len (.tmp 23)),
 oO 25 (.faddr 3 (.tmp 1)),
 oO 26 (.load false 1 (.tmp 25)),
 oO 27 (.len (.tmp 26)),
 oO 28 (.bin .add 3 (.tmp 24) (.tmp 27)),
 oO 29 (.faddr 4 (.tmp 1)),
 oO 30 (.load false 1 (.tmp 29)),
 oO 31 (.len (.tmp 30)),
 oO 32 (.bin .add 3 (.tmp 28) (.tmp 31)),
 oO 33 (.bin .gtr 3 (.tmp 32) (kI 0)),
 oM 21 33]
def ac113_8 : List AOper := [
 oO 2 (.mv (kI 0)),
 oO 3 (.mv (kI 13))]
def ac113_9 : List AOper := [
 oO 35 (.faddr 5 (.tmp 1)),
 oO 36 (.load true 2 (.tmp 35)),
 oO 37 (.call 143 [(.tmp 36)]),
 oO 38 (.pure (oB (.unOp .not 4 (.tmp 37)) 4)),
 oM 34 38]
def ac113_10 : List AOper := [
 oO 2 (.mv (kI 0)),
 oO 3 (.mv (kI 2))]
def ac113_11 : List AOper := [
 oO 2 (.mv (kI 0)),
 oO 3 (.mv (kI 0))]
def tr113 : List (Nat × Tidy) := [tF 0 [1], tF 1 [1, 4], tF 2 [2, 3], tF 3 [1, 9], tF 4 [2, 3], tF 5 [1, 17], tF 6 [2, 3], tF 7 [1, 21], tF 8 [2, 3], tF 9 [34], tF 10 [2, 3], tF 11 [2, 3]]
def tl113 : List (Nat × Tidy) := []
def ac113 : ACode := (.seq (.region ac113_0 [] (some ⟨[1], false, [], []⟩)) (.seq (.block 0 (.seq (.region ac113_1 [] (some ⟨[1, 4], false, [], []⟩)) (.cond (.tmp 4) (.seq (.region ac113_2 [] (some ⟨[2, 3], false, [], []⟩)) .ret) (.seq (.region ac113_3 [] (some ⟨[1, 9], false, [], []⟩)) (.cond (.tmp 9) (.seq (.region ac113_4 [] (some ⟨[2, 3], false, [], []⟩)) .ret) (.seq (.region ac113_5 [] (some ⟨[1, 17], false, [], []⟩)) (.cond (.tmp 17) (.seq (.region ac113_6 [] (some ⟨[2, 3], false, [], []⟩)) .ret) (.seq (.region ac113_7 [] (some ⟨[1, 21], false, [], []⟩)) (.cond (.tmp 21) (.seq (.region ac113_8 [] (some ⟨[2, 3], false, [], []⟩)) .ret) (.seq (.region ac113_9 [] (some ⟨[34], false, [], []⟩)) (.cond (.tmp 34) (.seq (.region ac113_10 [] (some ⟨[2, 3], false, [], []⟩)) .ret) .skip))))))))))) (.seq (.region ac113_11 [] (some ⟨[2, 3], false, [], []⟩)) .ret)))
def rs113 : List AResV := [.tmp 2, .tmp 3]
def ft113 : FnT := ⟨39, tr113, tl113, ac113, rs113⟩
theorem is113 : FnIs Tryz.prog 113 39 tr113 tl113 ac113 rs113 := ⟨Tryz.f113, Tryz.func113, rfl, by kernel_rfl, by kernel_rfl, by kernel_rfl⟩
def ac114_0 : List AOper := [
 oO 3 (.box (.tmp 0)),
 oO 4 (.box (.tmp 1)),
 oO 5 (.box (.tmp 2)),
 oO 6 (.alloc [(.d (.v (.complex Go.FloatKind.f64 0 0))), (cI 0)]),
 oO 7 (.mv (kI 0))]
def ac114_1 : List AOper := [
 oO 11 (.load true 2 (.tmp 3)),
 oO 12 (.call 94 [(.tmp 11)]),
 oM 10 12,
 oO 13 (.extract 0 (.tmp 10)),
 oO 14 (.extract 1 (.tmp 10)),
 oO 8 (.alloc [(cI 0), (cI 0), (cI 0)]),
 oD (.store 3 (.tmp 8) (.tmp 13)),
 oM 9 14]
def ac114_2 : List AOper := [
 oM 15 9,
 oO 16 (.bin .neq 26 (.tmp 15) (kI 0))]
def ac114_3 : List AOper := [
 oO 17 (.build [(.d (.v (.complex Go.FloatKind.f64 0 0))), (cI 0)] []),
 oM 18 9,
 oD (.store 2 (.tmp 6) (.tmp 17)),
 oM 7 18]
def ac114_4 : List AOper := [
 oO 19 (.load true 2 (.tmp 4)),
 oO 20 (.mkfn 145 [(.tmp 5), (.tmp 8)]),
 oO 21 (.call 144 [(.tmp 19), (.tmp 20)]),
 oO 22 (.extract 0 (.tmp 21)),
 oO 23 (.extract 1 (.tmp 21)),
 oD (.store 2 (.tmp 6) (.tmp 22)),
 oM 7 23]
def tr114 : List (Nat × Tidy) := [tF 0 [3, 4, 5, 6], tF 1 [4, 5, 6, 8, 9], tF 2 [4, 5, 6, 8, 9, 16], tF 3 [6, 7], tF 4 [6, 7]]
def tl114 : List (Nat × Tidy) := []
def ac114 : ACode := (.seq (.region ac114_0 [] (some ⟨[3, 4, 5, 6], false, [], []⟩)) (.seq (.region ac114_1 [] (some ⟨[4, 5, 6, 8, 9], false, [], []⟩)) (.seq (.seq (.region ac114_2 [] (some ⟨[4, 5, 6, 8, 9, 16], false, [], []⟩)) (.cond (.tmp 16) (.seq (.region ac114_3 [] (some ⟨[6, 7], false, [], []⟩)) .ret) .skip)) (.seq (.region ac114_4 [] (some ⟨[6, 7], false, [], []⟩)) .ret))))
def rs114 : List AResV := [.cell 6 true 2, .tmp 7]
def ft114 : FnT := ⟨24, tr114, tl114, ac114, rs114⟩
theorem is114 : FnIs Tryz.prog 114 24 tr114 tl114 ac114 rs114 := ⟨Tryz.f114, Tryz.func114, rfl, by kernel_rfl, by kernel_rfl, by kernel_rfl⟩
def ac117_0 : List AOper := [
 oO 4 (.mv (kI 0)),
 oO 5 (.mv (.const (.bool false)))]
def ac117_1 : List AOper := [
 oM 6 0,
 oO 7 (.bin .mul 3 (kI 2) (.tmp 6)),
 oM 8 1,
 oO 9 (.bin .add 3 (.tmp 7) (.tmp 8)),
 oM 10 1,
 oO 11 (.bin .mul 3 (kI 2) (.tmp 10)),
 oO 12 (.call 139 [(.tmp 9), (.tmp 11)]),
 oM 13 0,
 oM 14 1,
 oO 15 (.bin .rem 3 (.tmp 13) (.tmp 14)),
 oO 16 (.bin .neq 3 (.tmp 15) (kI 0)),
 oM 4 12,
 oM 5 16]
def tr117 : List (Nat × Tidy) := [tF 0 [0, 1], tF 1 [4, 5]]
def tl117 : List (Nat × Tidy) := []
def ac117 : ACode := (.seq (.region ac117_0 [] (some ⟨[0, 1], false, [], []⟩)) (.seq (.region ac117_1 [] (some ⟨[4, 5], false, [], []⟩)) .ret))
def rs117 : List AResV := [.tmp 4, .tmp 5]
def ft117 : FnT := ⟨17, tr117, tl117, ac117, rs117⟩
theorem is117 : FnIs Tryz.prog 117 17 tr117 tl117 ac117 rs117 := ⟨Tryz.f117, Tryz.func117, rfl, by kernel_rfl, by kernel_rfl, by kernel_rfl⟩
def ac118_0 : List AOper := [
 oO 4 (.mv (kI 0))]
def ac118_1 : List AOper := [
 oM 5 0,
 oO 6 (.pure (oB (.unOp .neg 3 (.tmp 5)) 3)),
 oM 7 1,
 oO 8 (.call 139 [(.tmp 6), (.tmp 7)]),
 oO 9 (.pure (oB (.unOp .neg 3 (.tmp 8)) 3)),
 oM 4 9]
def tr118 : List (Nat × Tidy) := [tF 0 [0, 1], tF 1 [4]]
def tl118 : List (Nat × Tidy) := []
def ac118 : ACode := (.seq (.region ac118_0 [] (some ⟨[0, 1], false, [], []⟩)) (.seq (.region ac118_1 [] (some ⟨[4], false, [], []⟩)) .ret))
def rs118 : List AResV := [.tmp 4]
def ft118 : FnT := ⟨10, tr118, tl118, ac118, rs118⟩
theorem is118 : FnIs Tryz.prog 118 10 tr118 tl118 ac118 rs118 := ⟨Tryz.f118, Tryz.func118, rfl, by kernel_rfl, by kernel_rfl, by kernel_rfl⟩
def ac127_0 : List AOper := [
 oO 6 (.mv (.const (.bool false)))]
def ac127_1 : List AOper := [
 oM 7 1,
 oM 8 0,
 oO 9 (.bin .leq 3 (.tmp 7) (.tmp 8)),
 oM 10 9,
 oG 11 (.mv (.tmp 0)) 10 true,
 oG 12 (.mv (.tmp 2)) 10 true,
 oG 13 (.bin .leq 3 (.tmp 11) (.tmp 12)) 10 true,
 oO 14 (.pick (.tmp 10) (.tmp 13) (.const (.bool false))),
 oM 6 14]
def tr127 : List (Nat × Tidy) := [tF 0 [0, 1, 2], tF 1 [6]]
def tl127 : List (Nat × Tidy) := []
def ac127 : ACode := (.seq (.region ac127_0 [] (some ⟨[0, 1, 2], false, [], []⟩)) (.seq (.region ac127_1 [] (some ⟨[6], false, [], []⟩)) .ret))
def rs127 : List AResV := [.tmp 6]
def ft127 : FnT := ⟨15, tr127, tl127, ac127, rs127⟩
theorem is127 : FnIs Tryz.prog 127 15 tr127 tl127 ac127 rs127 := ⟨Tryz.f127, Tryz.func127, rfl, by kernel_rfl, by kernel_rfl, by kernel_rfl⟩
def ac128_0 : List AOper := [
 oO 2 (.mv (.const (.bool false)))]
def ac128_1 : List AOper := [
 oM 3 0,
 oO 4 (.call 150 [(.tmp 3)]),
 oM 5 0,
 oO 6 (.bin .eql 117 (.tmp 4) (.tmp 5)),
 oM 7 6,
 oG 8 (.mv (.tmp 0)) 7 true,
 oG 9 (.call 151 [(.tmp 8), (kI 0)]) 7 true,
 oG 10 (.pure (oB (.unOp .not 4 (.tmp 9)) 4)) 7 true,
 oO 11 (.pick (.tmp 7) (.tmp 10) (.const (.bool false))),
 oM 2 11]
def tr128 : List (Nat × Tidy) := [tF 0 [0], tF 1 [2]]
def tl128 : List (Nat × Tidy) := []
def ac128 : ACode := (.seq (.region ac128_0 [] (some ⟨[0], false, [], []⟩)) (.seq (.region ac128_1 [] (some ⟨[2], false, [], []⟩)) .ret))
def rs128 : List AResV := [.tmp 2]
def ft128 : FnT := ⟨12, tr128, tl128, ac128, rs128⟩
theorem is128 : FnIs Tryz.prog 128 12 tr128 tl128 ac128 rs128 := ⟨Tryz.f128, Tryz.func128, rfl, by kernel_rfl, by kernel_rfl, by kernel_rfl⟩
def ac129_0 : List AOper := [
 oO 2 (.mv (.const (.float Go.FloatKind.f64 0)))]
def ac129_1 : List AOper := [
 oM 3 0,
 oO 4 (.pure (oB (.call { callee := .value (.func 110), args := #[(.tmp 3)], argTypes := #[117] }) 164)),
 oO 5 (.bin .andNot 164 (.tmp 4) (.const (.int .u64 9223372036854775808))),
 oO 6 (.pure (oB (.call { callee := .value (.func 152), args := #[(.tmp 5)], argTypes := #[164] }) 117)),
 oM 2 6]
def tr129 : List (Nat × Tidy) := [tF 0 [0], tF 1 [2]]
def tl129 : List (Nat × Tidy) := []
def ac129 : ACode := (.seq (.region ac129_0 [] (some ⟨[0], false, [], []⟩)) (.seq (.region ac129_1 [] (some ⟨[2], false, [], []⟩)) .ret))
def rs129 : List AResV := [.tmp 2]
def ft129 : FnT := ⟨7, tr129, tl129, ac129, rs129⟩
theorem is129 : FnIs Tryz.prog 129 7 tr129 tl129 ac129 rs129 := ⟨Tryz.f129, Tryz.func129, rfl, by kernel_rfl, by kernel_rfl, by kernel_rfl⟩
def ac130_0 : List AOper := [
 oO 2 (.alloc [(cI 0), (cI 0)])]
def ac130_1 : List AOper := [
 oM 3 0,
 oO 4 (.pure (oB (.call { callee := .builtin .real, args := #[(.tmp 3)], argTypes := #[43] }) 117)),
 oO 5 (.pure (oB (.convert 117 3 (.tmp 4)) 3)),
 oM 6 0,
 oO 7 (.pure (oB (.call { callee := .builtin .imag, args := #[(.tmp 6)], argTypes := #[43] }) 117)),
 oO 8 (.pure (oB (.convert 117 3 (.tmp 7)) 3)),
 oO 9 (.build [(cI 0), (cI 0)] [(0, 1, (.tmp 5)), (1, 1, (.tmp 8))]),
 oD (.store 2 (.tmp 2) (.tmp 9))]
def tr130 : List (Nat × Tidy) := [tF 0 [0, 2], tF 1 [2]]
def tl130 : List (Nat × Tidy) := []
def ac130 : ACode := (.seq (.region ac130_0 [] (some ⟨[0, 2], false, [], []⟩)) (.seq (.region ac130_1 [] (some ⟨[2], false, [], []⟩)) .ret))
def rs130 : List AResV := [.cell 2 true 2]
def ft130 : FnT := ⟨10, tr130, tl130, ac130, rs130⟩
theorem is130 : FnIs Tryz.prog 130 10 tr130 tl130 ac130 rs130 := ⟨Tryz.f130, Tryz.func130, rfl, by kernel_rfl, by kernel_rfl, by kernel_rfl⟩
def ac131_0 : List AOper := [
  ⟨(some 1), (.box (.tmp 0)), none⟩,
  ⟨(some 2), (.mv (.const (.int .i64 0))), none⟩]
def ac131_1 : List AOper := [
  ⟨(some 3), (.faddr 0 (.tmp 1)), none⟩,
  ⟨(some 4), (.load false 1 (.tmp 3)), none⟩,
  ⟨(some 5), (.faddr 0 (.tmp 1)), none⟩,
  ⟨(some 6), (.load false 1 (.tmp 5)), none⟩,
  ⟨(some 7), (.bin .mul 3 (.tmp 4) (.tmp 6)), none⟩,
  ⟨(some 8), (.faddr 1 (.tmp 1)), none⟩,
  ⟨(some 9), (.load false 1 (.tmp 8)), none⟩,
  ⟨(some 10), (.faddr 1 (.tmp 1)), none⟩,
  ⟨(some 11), (.load false 1 (.tmp 10)), none⟩,
  ⟨(some 12), (.bin .mul 3 (.tmp 9) (.tmp 11)), none⟩,
  ⟨(some 13), (.bin .add 3 (.tmp 7) (.tmp 12)), none⟩,
  ⟨(some 2), (.mv (.tmp 13)), none⟩]
def tr131 : List (Nat × Tidy) := [tF 0 [1], tF 1 [2]]
def tl131 : List (Nat × Tidy) := []
def ac131 : ACode := (.seq (.region ac131_0 [] (some ⟨[1], false, [], []⟩)) (.seq (.region ac131_1 [] (some ⟨[2], false, [], []⟩)) .ret))
def rs131 : List AResV := [.tmp 2]
def ft131 : FnT := ⟨14, tr131, tl131, ac131, rs131⟩
theorem is131 : FnIs Tryz.prog 131 14 tr131 tl131 ac131 rs131 := ⟨Tryz.f131, Tryz.func131, rfl, by kernel_rfl, by kernel_rfl, by kernel_rfl⟩
def ac132_0 : List AOper := [
 oO 2 (.mv (.const (.bool false)))]
def ac132_1 : List AOper := [
 oM 3 0,
 oO 4 (.call 51 [(.tmp 3), (kI 5000), (kI 80000)]),
 oM 2 4]
def tr132 : List (Nat × Tidy) := [tF 0 [0], tF 1 [2]]
def tl132 : List (Nat × Tidy) := []
def ac132 : ACode := (.seq (.region ac132_0 [] (some ⟨[0], false, [], []⟩)) (.seq (.region ac132_1 [] (some ⟨[2], false, [], []⟩)) .ret))
def rs132 : List AResV := [.tmp 2]
def ft132 : FnT := ⟨5, tr132, tl132, ac132, rs132⟩
theorem is132 : FnIs Tryz.prog 132 5 tr132 tl132 ac132 rs132 := ⟨Tryz.f132, Tryz.func132, rfl, by kernel_rfl, by kernel_rfl, by kernel_rfl⟩
def ac133_0 : List AOper := [
 oO 4 (.mv (.const (.int .u64 0))),
 oO 5 (.mv (.const (.int .u64 0)))]
def ac133_1 : List AOper := [
 oM 14 0,
 oO 15 (.bin .and 164 (.tmp 14) (.const (.int .u64 4294967295))),
 oM 6 15]
def ac133_2 : List AOper := [
 oM 16 0,
 oO 17 (.bin .shr 164 (.tmp 16) (.const (.int .u64 32))),
 oM 7 17]
def ac133_3 : List AOper := [
 oM 18 1,
 oO 19 (.bin .and 164 (.tmp 18) (.const (.int .u64 4294967295))),
 oM 8 19]
def ac133_4 : List AOper := [
 oM 20 1,
 oO 21 (.bin .shr 164 (.tmp 20) (.const (.int .u64 32))),
 oM 9 21]
def ac133_5 : List AOper := [
 oM 22 6,
 oM 23 8,
 oO 24 (.bin .mul 164 (.tmp 22) (.tmp 23)),
 oM 10 24]
def ac133_6 : List AOper := [
 oM 25 7,
 oM 26 8,
 oO 27 (.bin .mul 164 (.tmp 25) (.tmp 26)),
 oM 28 10,
 oO 29 (.bin .shr 164 (.tmp 28) (.const (.int .u64 32))),
 oO 30 (.bin .add 164 (.tmp 27) (.tmp 29)),
 oM 11 30]
def ac133_7 : List AOper := [
 oM 31 11,
 oO 32 (.bin .and 164 (.tmp 31) (.const (.int .u64 4294967295))),
 oM 12 32]
def ac133_8 : List AOper := [
 oM 33 11,
 oO 34 (.bin .shr 164 (.tmp 33) (.const (.int .u64 32))),
 oM 13 34]
def ac133_9 : List AOper := [
 oM 35 12,
 oM 36 6,
 oM 37 9,
 oO 38 (.bin .mul 164 (.tmp 36) (.tmp 37)),
 oO 39 (.bin .add 164 (.tmp 35) (.tmp 38)),
 oM 12 39]
def ac133_10 : List AOper := [
 oM 40 7,
 oM 41 9,
 oO 42 (.bin .mul 164 (.tmp 40) (.tmp 41)),
 oM 43 13,
 oO 44 (.bin .add 164 (.tmp 42) (.tmp 43)),
 oM 45 12,
 oO 46 (.bin .shr 164 (.tmp 45) (.const (.int .u64 32))),
 oO 47 (.bin .add 164 (.tmp 44) (.tmp 46)),
 oM 4 47]
def ac133_11 : List AOper := [
 oM 48 0,
 oM 49 1,
 oO 50 (.bin .mul 164 (.tmp 48) (.tmp 49)),
 oM 5 50]
def tr133 : List (Nat × Tidy) := [tF 0 [0, 1], tF 1 [0, 1, 6], tF 2 [0, 1, 6, 7], tF 3 [0, 1, 6, 7, 8], tF 4 [0, 1, 6, 7, 8, 9], tF 5 [0, 1, 6, 7, 8, 9, 10], tF 6 [0, 1, 6, 7, 9, 11], tF 7 [0, 1, 6, 7, 9, 11, 12], tF 8 [0, 1, 6, 7, 9, 12, 13], tF 9 [0, 1, 7, 9, 12, 13], tF 10 [0, 1, 4], tF 11 [4, 5]]
def tl133 : List (Nat × Tidy) := []
def ac133 : ACode := (.seq (.region ac133_0 [] (some ⟨[0, 1], false, [], []⟩)) (.seq (.region ac133_1 [] (some ⟨[0, 1, 6], false, [], []⟩)) (.seq (.region ac133_2 [] (some ⟨[0, 1, 6, 7], false, [], []⟩)) (.seq (.region ac133_3 [] (some ⟨[0, 1, 6, 7, 8], false, [], []⟩)) (.seq (.region ac133_4 [] (some ⟨[0, 1, 6, 7, 8, 9], false, [], []⟩)) (.seq (.region ac133_5 [] (some ⟨[0, 1, 6, 7, 8, 9, 10], false, [], []⟩)) (.seq (.region ac133_6 [] (some ⟨[0, 1, 6, 7, 9, 11], false, [], []⟩)) (.seq (.region ac133_7 [] (some ⟨[0, 1, 6, 7, 9, 11, 12], false, [], []⟩)) (.seq (.region ac133_8 [] (some ⟨[0, 1, 6, 7, 9, 12, 13], false, [], []⟩)) (.seq (.region ac133_9 [] (some ⟨[0, 1, 7, 9, 12, 13], false, [], []⟩)) (.seq (.region ac133_10 [] (some ⟨[0, 1, 4], false, [], []⟩)) (.seq (.region ac133_11 [] (some ⟨[4, 5], false, [], []⟩)) .ret))))))))))))
def rs133 : List AResV := [.tmp 4, .tmp 5]
def ft133 : FnT := ⟨51, tr133, tl133, ac133, rs133⟩
theorem is133 : FnIs Tryz.prog 133 51 tr133 tl133 ac133 rs133 := ⟨Tryz.f133, Tryz.func133, rfl, by kernel_rfl, by kernel_rfl, by kernel_rfl⟩
def ac134_0 : List AOper := [
 oO 2 (.mv (kI 0))]
def ac134_1 : List AOper := [
 oO 3 (.mv (kI 0))]
def ac134_2 : List AOper := [
 oM 6 0,
 oO 7 (.len (.tmp 6)),
 oO 8 (.mv (kI 0))]
def ac134_3 : List AOper := [
 oO 9 (.bin .lss 3 (.tmp 8) (.tmp 7))]
def ac134_4 : List AOper := [
 oO 10 (.iaddr 1 none (.tmp 6) (.tmp 8)),
 oO 11 (.load false 1 (.tmp 10)),
 oM 5 11]
def ac134_5 : List AOper := [
 oM 12 5,
 oM 13 3,
 oO 14 (.bin .neq 3 (.tmp 12) (.tmp 13))]
def ac134_6 : List AOper := [
 oM 15 5,
 oM 2 15]
def ac134_7 : List AOper := [
 oO 16 (.bin .add 3 (.tmp 8) (kI 1)),
 oM 8 16]
def ac134_8 : List AOper := [
 oM 17 3,
 oM 2 17]
def tr134 : List (Nat × Tidy) := [tF 0 [0], tF 1 [0, 3], tF 2 [3, 6, 7, 8], tF 3 [3, 6, 7, 8, 9], tF 4 [3, 5, 6, 7, 8], tF 5 [3, 5, 6, 7, 8, 14], tF 6 [2], tF 7 [3, 6, 7, 8], tF 8 [2]]
def tl134 : List (Nat × Tidy) := [(3, ⟨[3, 6, 7, 8], true, [⟨false, 3, 0, 20003, 0⟩, ⟨false, 6, 0, 20006, 0⟩, ⟨false, 8, 0, 20008, 0⟩], []⟩)]
def ac134 : ACode := (.seq (.region ac134_0 [] (some ⟨[0], false, [], []⟩)) (.seq (.region ac134_1 [] (some ⟨[0, 3], false, [], []⟩)) (.seq (.seq (.region ac134_2 [] (some ⟨[3, 6, 7, 8], false, [], []⟩)) (.block 0 (.loop (some ⟨[3, 6, 7, 8], true, [⟨false, 3, 0, 20003, 0⟩, ⟨false, 6, 0, 20006, 0⟩, ⟨false, 8, 0, 20008, 0⟩], []⟩) (.seq (.region ac134_3 [] (some ⟨[3, 6, 7, 8, 9], false, [], []⟩)) (.seq (.cond (.tmp 9) .skip (.exit 0)) (.seq (.block 1 (.seq (.region ac134_4 [] (some ⟨[3, 5, 6, 7, 8], false, [], []⟩)) (.seq (.region ac134_5 [] (some ⟨[3, 5, 6, 7, 8, 14], false, [], []⟩)) (.cond (.tmp 14) (.seq (.region ac134_6 [] (some ⟨[2], false, [], []⟩)) .ret) .skip)))) (.region ac134_7 [] (some ⟨[3, 6, 7, 8], false, [], []⟩)))))))) (.seq (.region ac134_8 [] (some ⟨[2], false, [], []⟩)) .ret))))
def rs134 : List AResV := [.tmp 2]
def ft134 : FnT := ⟨18, tr134, tl134, ac134, rs134⟩
theorem is134 : FnIs Tryz.prog 134 18 tr134 tl134 ac134 rs134 := ⟨Tryz.f134, Tryz.func134, rfl, by kernel_rfl, by kernel_rfl, by kernel_rfl⟩
def ac135_0 : List AOper := [
 oO 4 (.mv (kI 0))]
def ac135_1 : List AOper := [
 oM 7 0,
 oO 8 (.call 153 [(.tmp 7)]),
 oM 5 8]
def ac135_2 : List AOper := [
 oM 9 1,
 oO 10 (.call 153 [(.tmp 9)]),
 oM 6 10]
def ac135_3 : List AOper := [
 oM 11 5]
def ac135_4 : List AOper := [
 oM 12 6]
def ac135_5 : List AOper := [
 oO 4 (.mv (kI 0))]
def ac135_6 : List AOper := [
 oO 4 (.mv (kI (-1)))]
def ac135_7 : List AOper := [
 oM 13 6]
def ac135_8 : List AOper := [
 oO 4 (.mv (kI 1))]
def ac135_9 : List AOper := [
 oM 14 0,
 oM 15 1,
 oO 16 (.bin .lss 164 (.tmp 14) (.tmp 15))]
def ac135_10 : List AOper := [
 oO 4 (.mv (kI (-1)))]
def ac135_11 : List AOper := [
 oM 17 0,
 oM 18 1,
 oO 19 (.bin .gtr 164 (.tmp 17) (.tmp 18))]
def ac135_12 : List AOper := [
 oO 4 (.mv (kI 1))]
def ac135_13 : List AOper := [
 oO 4 (.mv (kI 0))]
def tr135 : List (Nat × Tidy) := [tF 0 [0, 1], tF 1 [0, 1, 5], tF 2 [0, 1, 5, 6], tF 3 [0, 1, 6, 11], tF 4 [12], tF 5 [4], tF 6 [4], tF 7 [0, 1, 13], tF 8 [4], tF 9 [0, 1, 16], tF 10 [4], tF 11 [19], tF 12 [4], tF 13 [4]]
def tl135 : List (Nat × Tidy) := []
def ac135 : ACode := (.seq (.region ac135_0 [] (some ⟨[0, 1], false, [], []⟩)) (.seq (.region ac135_1 [] (some ⟨[0, 1, 5], false, [], []⟩)) (.seq (.region ac135_2 [] (some ⟨[0, 1, 5, 6], false, [], []⟩)) (.seq (.seq (.region ac135_3 [] (some ⟨[0, 1, 6, 11], false, [], []⟩)) (.cond (.tmp 11) (.seq (.seq (.region ac135_4 [] (some ⟨[12], false, [], []⟩)) (.cond (.tmp 12) (.seq (.region ac135_5 [] (some ⟨[4], false, [], []⟩)) .ret) .skip)) (.seq (.region ac135_6 [] (some ⟨[4], false, [], []⟩)) .ret)) .skip)) (.seq (.seq (.region ac135_7 [] (some ⟨[0, 1, 13], false, [], []⟩)) (.cond (.tmp 13) (.seq (.region ac135_8 [] (some ⟨[4], false, [], []⟩)) .ret) .skip)) (.seq (.seq (.region ac135_9 [] (some ⟨[0, 1, 16], false, [], []⟩)) (.cond (.tmp 16) (.seq (.region ac135_10 [] (some ⟨[4], false, [], []⟩)) .ret) .skip)) (.seq (.seq (.region ac135_11 [] (some ⟨[19], false, [], []⟩)) (.cond (.tmp 19) (.seq (.region ac135_12 [] (some ⟨[4], false, [], []⟩)) .ret) .skip)) (.seq (.region ac135_13 [] (some ⟨[4], false, [], []⟩)) .ret))))))))
def rs135 : List AResV := [.tmp 4]
def ft135 : FnT := ⟨20, tr135, tl135, ac135, rs135⟩
theorem is135 : FnIs Tryz.prog 135 20 tr135 tl135 ac135 rs135 := ⟨Tryz.f135, Tryz.func135, rfl, by kernel_rfl, by kernel_rfl, by kernel_rfl⟩
def ac136_0 : List AOper := [
 oO 2 (.box (.tmp 0)),
 oO 3 (.box (.tmp 1)),
 oO 4 (.alloc [(.d (.v (.complex Go.FloatKind.f64 0 0))), (cI 0)]),
 oO 5 (.mv (kI 0))]
def ac136_1 : List AOper := [
 oO 6 (.load true 2 (.tmp 2)),
 oO 7 (.load true 2 (.tmp 3)),
 oO 8 (.call 114 [(.tmp 6), (.tmp 7), (.func 154)]),
 oO 9 (.extract 0 (.tmp 8)),
 oO 10 (.extract 1 (.tmp 8)),
 oD (.store 2 (.tmp 4) (.tmp 9)),
 oM 5 10]
def tr136 : List (Nat × Tidy) := [tF 0 [2, 3, 4], tF 1 [4, 5]]
def tl136 : List (Nat × Tidy) := []
def ac136 : ACode := (.seq (.region ac136_0 [] (some ⟨[2, 3, 4], false, [], []⟩)) (.seq (.region ac136_1 [] (some ⟨[4, 5], false, [], []⟩)) .ret))
def rs136 : List AResV := [.cell 4 true 2, .tmp 5]
def ft136 : FnT := ⟨11, tr136, tl136, ac136, rs136⟩
theorem is136 : FnIs Tryz.prog 136 11 tr136 tl136 ac136 rs136 := ⟨Tryz.f136, Tryz.func136, rfl, by kernel_rfl, by kernel_rfl, by kernel_rfl⟩
def ac137_0 : List AOper := [
 oO 4 (.mv (.const (.bool false)))]
def ac137_1 : List AOper := [
 oM 5 0,
 oM 6 1,
 oO 7 (.pure (oB (.unOp .neg 3 (.tmp 6)) 3)),
 oM 8 1,
 oO 9 (.call 127 [(.tmp 5), (.tmp 7), (.tmp 8)]),
 oM 4 9]
def tr137 : List (Nat × Tidy) := [tF 0 [0, 1], tF 1 [4]]
def tl137 : List (Nat × Tidy) := []
def ac137 : ACode := (.seq (.region ac137_0 [] (some ⟨[0, 1], false, [], []⟩)) (.seq (.region ac137_1 [] (some ⟨[4], false, [], []⟩)) .ret))
def rs137 : List AResV := [.tmp 4]
def ft137 : FnT := ⟨10, tr137, tl137, ac137, rs137⟩
theorem is137 : FnIs Tryz.prog 137 10 tr137 tl137 ac137 rs137 := ⟨Tryz.f137, Tryz.func137, rfl, by kernel_rfl, by kernel_rfl, by kernel_rfl⟩
def ac138_0 : List AOper := [
 oO 4 (.alloc [(.d (.v (.complex Go.FloatKind.f64 0 0))), (cI 0)]),
 oO 5 (.mv (kI 0))]
def ac138_1 : List AOper := [
 oM 13 0,
 oM 14 1,
 oO 15 (.bin .add 3 (.tmp 13) (.tmp 14)),
 oO 16 (.call 139 [(.tmp 15), (kI 2)]),
 oM 6 16]
def ac138_2 : List AOper := [
 oM 17 6,
 oO 18 (.call 156 [(.tmp 17)]),
 oO 7 (.alloc [(cI 0), (cI 0)]),
 oD (.store 2 (.tmp 7) (.tmp 18))]
def ac138_3 : List AOper := [
 oO 20 (.faddr 0 (.tmp 7)),
 oO 21 (.load false 1 (.tmp 20)),
 oO 22 (.call 117 [(.tmp 21), (kI 64)]),
 oM 19 22,
 oO 23 (.extract 0 (.tmp 19)),
 oO 24 (.extract 1 (.tmp 19)),
 oM 8 23,
 oM 9 24]
def ac138_4 : List AOper := [
 oO 26 (.faddr 1 (.tmp 7)),
 oO 27 (.load false 1 (.tmp 26)),
 oO 28 (.call 117 [(.tmp 27), (kI 64)]),
 oM 25 28,
 oO 29 (.extract 0 (.tmp 25)),
 oO 30 (.extract 1 (.tmp 25)),
 oM 10 29,
 oM 11 30]
def ac138_5 : List AOper := [
 oM 31 8,
 oM 32 10,
 oO 33 (.build [(cI 0), (cI 0)] [(0, 1, (.tmp 31)), (1, 1, (.tmp 32))]),
 oM 34 1,
 oM 35 6,
 oO 36 (.bin .sub 3 (.tmp 34) (.tmp 35)),
 oO 37 (.bin .mul 3 (kI 11) (.tmp 36)),
 oO 38 (.call 118 [(.tmp 37), (kI 7)]),
 oO 39 (.bin .add 3 (kI 2) (.tmp 38)),
 oO 40 (.build [(cI 0), (cI 0), (cI 0)] [(0, 2, (.tmp 33)), (2, 1, (.tmp 39))]),
 oO 12 (.alloc [(cI 0), (cI 0), (cI 0)]),
 oD (.store 3 (.tmp 12) (.tmp 40))]
def ac138_6 : List AOper := [
 oM 41 0,
 oM 42 1,
 oO 43 (.bin .eql 3 (.tmp 41) (.tmp 42)),
 oM 44 43,
 oG 45 (.mv (.tmp 0)) 44 true,
 oG 46 (.bin .rem 3 (.tmp 45) (kI 1048576)) 44 true,
 oG 47 (.bin .eql 3 (.tmp 46) (kI 0)) 44 true,
 oO 48 (.pick (.tmp 44) (.tmp 47) (.const (.bool false)))]
def ac138_7 : List AOper := [
 oO 49 (.faddr 2 (.tmp 12)),
 oD (.store 1 (.tmp 49) (kI 0))]
def ac138_8 : List AOper := [
 oO 50 (.load true 3 (.tmp 12)),
 oO 51 (.call 157 [(.tmp 50)]),
 oO 52 (.extract 0 (.tmp 51)),
 oO 53 (.extract 1 (.tmp 51)),
 oD (.store 2 (.tmp 4) (.tmp 52)),
 oM 5 53]
def tr138 : List (Nat × Tidy) := [tF 0 [0, 1, 4], tF 1 [0, 1, 4, 6], tF 2 [0, 1, 4, 6, 7], tF 3 [0, 1, 4, 6, 7, 8], tF 4 [0, 1, 4, 6, 8, 10], tF 5 [0, 1, 4, 12], tF 6 [4, 12, 48], tF 7 [4, 12], tF 8 [4, 5]]
def tl138 : List (Nat × Tidy) := []
def ac138 : ACode := (.seq (.region ac138_0 [] (some ⟨[0, 1, 4], false, [], []⟩)) (.seq (.region ac138_1 [] (some ⟨[0, 1, 4, 6], false, [], []⟩)) (.seq (.region ac138_2 [] (some ⟨[0, 1, 4, 6, 7], false, [], []⟩)) (.seq (.region ac138_3 [] (some ⟨[0, 1, 4, 6, 7, 8], false, [], []⟩)) (.seq (.region ac138_4 [] (some ⟨[0, 1, 4, 6, 8, 10], false, [], []⟩)) (.seq (.region ac138_5 [] (some ⟨[0, 1, 4, 12], false, [], []⟩)) (.seq (.seq (.region ac138_6 [] (some ⟨[4, 12, 48], false, [], []⟩)) (.cond (.tmp 48) (.region ac138_7 [] (some ⟨[4, 12], false, [], []⟩)) .skip)) (.seq (.region ac138_8 [] (some ⟨[4, 5], false, [], []⟩)) .ret))))))))
def rs138 : List AResV := [.cell 4 true 2, .tmp 5]
def ft138 : FnT := ⟨54, tr138, tl138, ac138, rs138⟩
theorem is138 : FnIs Tryz.prog 138 54 tr138 tl138 ac138 rs138 := ⟨Tryz.f138, Tryz.func138, rfl, by kernel_rfl, by kernel_rfl, by kernel_rfl⟩
def ac139_0 : List AOper := [
 oO 4 (.mv (kI 0))]
def ac139_1 : List AOper := [
 oM 6 0,
 oM 7 1,
 oO 8 (.bin .quo 3 (.tmp 6) (.tmp 7)),
 oM 5 8]
def ac139_2 : List AOper := [
 oM 9 0,
 oM 10 1,
 oO 11 (.bin .rem 3 (.tmp 9) (.tmp 10)),
 oO 12 (.bin .lss 3 (.tmp 11) (kI 0))]
def ac139_3 : List AOper := [
 oM 13 5,
 oO 14 (.bin .sub 3 (.tmp 13) (kI 1)),
 oM 5 14]
def ac139_4 : List AOper := [
 oM 15 5,
 oM 4 15]
def tr139 : List (Nat × Tidy) := [tF 0 [0, 1], tF 1 [0, 1, 5], tF 2 [5, 12], tF 3 [5], tF 4 [4]]
def tl139 : List (Nat × Tidy) := []
def ac139 : ACode := (.seq (.region ac139_0 [] (some ⟨[0, 1], false, [], []⟩)) (.seq (.region ac139_1 [] (some ⟨[0, 1, 5], false, [], []⟩)) (.seq (.seq (.region ac139_2 [] (some ⟨[5, 12], false, [], []⟩)) (.cond (.tmp 12) (.region ac139_3 [] (some ⟨[5], false, [], []⟩)) .skip)) (.seq (.region ac139_4 [] (some ⟨[4], false, [], []⟩)) .ret))))
def rs139 : List AResV := [.tmp 4]
def ft139 : FnT := ⟨16, tr139, tl139, ac139, rs139⟩
theorem is139 : FnIs Tryz.prog 139 16 tr139 tl139 ac139 rs139 := ⟨Tryz.f139, Tryz.func139, rfl, by kernel_rfl, by kernel_rfl, by kernel_rfl⟩
def ac141_0 : List AOper := [
 oO 2 (.mv (.const (.bool false)))]
def ac141_1 : List AOper := [
 oM 6 0,
 oO 7 (.bytes (.tmp 6)),
 oO 8 (.len (.tmp 7)),
 oO 9 (.mv (kI 0))]
def ac141_2 : List AOper := [
 oO 10 (.bin .lss 3 (.tmp 9) (.tmp 8))]
def ac141_3 : List AOper := [
 oM 11 9,
 oO 12 (.iaddr 1 none (.tmp 7) (.tmp 9)),
 oO 13 (.load false 1 (.tmp 12)),
 oM 3 11,
 oM 4 13]
def ac141_4 : List AOper := [
 oM 14 4,
 oO 15 (.bin .geq 5 (.tmp 14) (.const (.int .u8 97))),
 oM 16 15,
 oG 17 (.mv (.tmp 4)) 16 true,
 oG 18 (.bin .leq 5 (.tmp 17) (.const (.int .u8 122))) 16 true,
 oO 19 (.pick (.tmp 16) (.tmp 18) (.const (.bool false))),
 oM 20 19,
 oG 21 (.mv (.tmp 4)) 20 false,
 oG 22 (.bin .geq 5 (.tmp 21) (.const (.int .u8 65))) 20 false,
 oG 23 (.mv (.tmp 22)) 20 false,
 oG 24 (.mv (.tmp 4)) 23 true,
 oG 25 (.bin .leq 5 (.tmp 24) (.const (.int .u8 90))) 23 true,
 oG 26 (.pick (.tmp 23) (.tmp 25) (.const (.bool false))) 20 false,
 oO 27 (.pick (.tmp 20) (.const (.bool true)) (.tmp 26)),
 oM 5 27]
def ac141_5 : List AOper := [
 oM 28 5,
 oO 29 (.pure (oB (.unOp .not 4 (.tmp 28)) 4)),
 oM 30 29,
 oG 31 (.mv (.tmp 3)) 30 true,
 oG 32 (.bin .eql 3 (.tmp 31) (kI 0)) 30 true,
 oG 33 (.mv (.tmp 32)) 30 true,
 oG 34 (.mv (.tmp 4)) 33 false,
 oG 35 (.bin .neq 5 (.tmp 34) (.const (.int .u8 45))) 33 false,
 oG 36 (.mv (.tmp 35)) 33 false,
 oG 37 (.mv (.tmp 4)) 36 true,
 oG 38 (.bin .lss 5 (.tmp 37) (.const (.int .u8 48))) 36 true,
 oG 39 (.mv (.tmp 38)) 36 true,
 oG 40 (.mv (.tmp 4)) 39 false,
 oG 41 (.bin .gtr 5 (.tmp 40) (.const (.int .u8 57))) 39 false,
 oG 42 (.pick (.tmp 39) (.const (.bool true)) (.tmp 41)) 36 true,
 oG 43 (.pick (.tmp 36) (.tmp 42) (.const (.bool false))) 33 false,
 oG 44 (.pick (.tmp 33) (.const (.bool true)) (.tmp 43)) 30 true,
 oO 45 (.pick (.tmp 30) (.tmp 44) (.const (.bool false)))]
def ac141_6 : List AOper := [
 oO 2 (.mv (.const (.bool false)))]
def ac141_7 : List AOper := [
 oO 46 (.bin .add 3 (.tmp 9) (kI 1)),
 oM 9 46]
def ac141_8 : List AOper := [
 oM 47 0,
 ⟨(some 48), (.bin .neq 9 (.tmp 47) (.const (.string ⟨#[]⟩))), none⟩,
 oM 49 48,
 oG 50 (.mv (.tmp 0)) 49 true,
 oG 51 (.pure (oB (.call { callee := .builtin .len, args := #[(.tmp 50)], argTypes := #[9] }) 3)) 49 true,
 oG 52 (.bin .leq 3 (.tmp 51) (kI 12)) 49 true,
 oO 53 (.pick (.tmp 49) (.tmp 52) (.const (.bool false))),
 oM 2 53]
def tr141 : List (Nat × Tidy) := [tF 0 [0], tF 1 [0, 7, 8, 9], tF 2 [0, 7, 8, 9, 10], tF 3 [0, 3, 4, 7, 8, 9], tF 4 [0, 3, 4, 5, 7, 8, 9], tF 5 [0, 7, 8, 9, 45], tF 6 [2], tF 7 [0, 7, 8, 9], tF 8 [2]]
def tl141 : List (Nat × Tidy) := [(2, ⟨[0, 7, 8, 9], true, [⟨false, 7, 0, 20007, 0⟩, ⟨false, 9, 0, 20009, 0⟩], []⟩)]
def ac141 : ACode := (.seq (.region ac141_0 [] (some ⟨[0], false, [], []⟩)) (.seq (.seq (.region ac141_1 [] (some ⟨[0, 7, 8, 9], false, [], []⟩)) (.block 0 (.loop (some ⟨[0, 7, 8, 9], true, [⟨false, 7, 0, 20007, 0⟩, ⟨false, 9, 0, 20009, 0⟩], []⟩) (.seq (.region ac141_2 [] (some ⟨[0, 7, 8, 9, 10], false, [], []⟩)) (.seq (.cond (.tmp 10) .skip (.exit 0)) (.seq (.block 1 (.seq (.region ac141_3 [] (some ⟨[0, 3, 4, 7, 8, 9], false, [], []⟩)) (.seq (.region ac141_4 [] (some ⟨[0, 3, 4, 5, 7, 8, 9], false, [], []⟩)) (.seq (.region ac141_5 [] (some ⟨[0, 7, 8, 9, 45], false, [], []⟩)) (.cond (.tmp 45) (.seq (.region ac141_6 [] (some ⟨[2], false, [], []⟩)) .ret) .skip))))) (.region ac141_7 [] (some ⟨[0, 7, 8, 9], false, [], []⟩)))))))) (.seq (.region ac141_8 [] (some ⟨[2], false, [], []⟩)) .ret)))
def rs141 : List AResV := [.tmp 2]
def ft141 : FnT := ⟨54, tr141, tl141, ac141, rs141⟩
theorem is141 : FnIs Tryz.prog 141 54 tr141 tl141 ac141 rs141 := ⟨Tryz.f141, Tryz.func141, rfl, by kernel_rfl, by kernel_rfl, by kernel_rfl⟩
def ac142_0 : List AOper := [
 oO 1 (.box (.tmp 0)),
 oO 2 (.mv (kI 0)),
 oO 3 (.mv (kI 0))]
def ac142_1 : List AOper := [
 oO 8 (.faddr 5 (.tmp 1)),
 oO 9 (.load true 2 (.tmp 8)),
 oO 10 (.build [(cI 0), (cI 0)] []),
 oO 11 (.bin .neq 36 (.tmp 9) (.tmp 10)),
 oM 7 11]
def ac142_2 : List AOper := [
 oO 2 (.mv (kI 0)),
 oO 3 (.mv (kI 13))]
def ac142_3 : List AOper := [
 oO 13 (.faddr 2 (.tmp 1)),
 oO 14 (.load false 1 (.tmp 13)),
 oO 15 (.len (.tmp 14)),
 oO 16 (.bin .eql 3 (.tmp 15) (kI 0)),
 oM 17 16,
 oG 18 (.faddr 3 (.tmp 1)) 17 false,
 oG 19 (.load false 1 (.tmp 18)) 17 false,
 oG 20 (.len (.tmp 19)) 17 false,
 oG 21 (.faddr 2 (.tmp 1)) 17 false,
 oG 22 (.load false 1 (.tmp 21)) 17 false,
 oG 23 (.len (.tmp 22)) 17 false,
 oG 24 (.bin .neq 3 (.tmp 20) (.tmp 23)) 17 false,
 oO 25 (.pick (.tmp 17) (.const (.bool true)) (.tmp 24)),
 oM 26 25,
 oG 27 (.faddr 4 (.tmp 1)) 26 false,
 oG 28 (.load false 1 (.tmp 27)) 26 false,
 oG 29 (.len (.tmp 28)) 26 false,
 oG 30 (.faddr 2 (.tmp 1)) 26 false,
 oG 31 (.load false 1 (.tmp 30)) 26 false,
 oG 32 (.len (.tmp 31)) 26 false,
 oG 33 (.bin .neq 3 (.tmp 29) (.tmp 32)) 26 false,
 oO 34 (.pick (.tmp 26) (.const (.bool true)) (.tmp 33)),
 oM 12 34]
def ac142_4 : List AOper := [
 oO 2 (.mv (kI 0)),
 oO 3 (.mv (kI 12))]
def ac142_5 : List AOper := [
 oO 36 (.faddr 2 (.tmp 1)),
 oO 37 (.load false 1 (.tmp 36)),
 oO 38 (.len (.tmp 37)),
 oO 39 (.bin .gtr 3 (.tmp 38) (kI 64)),
 oM 35 39]
def ac142_6 : List AOper := [
 oO 2 (.mv (kI 0)),
 oO 3 (.mv (kI 8))]
def ac142_7 : List AOper := [
 oO 40 (.faddr 2 (.tmp 1)),
 oO 41 (.load false 1 (.tmp 40)),
 oO 42 (.len (.tmp 41)),
 oO 43 (.mv (kI 0))]
def ac142_8 : List AOper := [
 oO 44 (.bin .lss 3 (.tmp 43) (.tmp 42))]
def ac142_9 : List AOper := [
 oM 45 43,
 oO 46 (.iaddr 1 none (.tmp 41) (.tmp 43)),
 oO 47 (.load false 1 (.tmp 46)),
 oM 4 45,
 oM 5 47]
def ac142_10 : List AOper := [
 oM 48 5,
 oO 49 (.faddr 3 (.tmp 1)),
 oO 50 (.load false 1 (.tmp 49)),
 oM 51 4,
 oO 52 (.iaddr 1 none (.tmp 50) (.tmp 51)),
 oO 53 (.load false 1 (.tmp 52)),
 oO 54 (.faddr 4 (.tmp 1)),
 oO 55 (.load false 1 (.tmp 54)),
 oM 56 4,
 oO 57 (.iaddr 1 none (.tmp 55) (.tmp 56)),
 oO 58 (.load false 1 (.tmp 57)),
 oO 59 (.call 159 [(.tmp 48), (.tmp 53), (.tmp 58)]),
 oM 6 59]
def ac142_11 : List AOper := [
 oM 60 6,
 oO 61 (.bin .neq 26 (.tmp 60) (kI 0))]
def ac142_12 : List AOper := [
 oM 62 4,
 oM 63 6,
 oM 2 62,
 oM 3 63]
def ac142_13 : List AOper := [
 oM 64 4,
 oO 65 (.bin .gtr 3 (.tmp 64) (kI 0)),
 oM 66 65,
 oG 67 (.mv (.tmp 5)) 66 true,
 oG 68 (.faddr 2 (.tmp 1)) 66 true,
 oG 69 (.load false 1 (.tmp 68)) 66 true,
 oG 70 (.mv (.tmp 4)) 66 true,
 oG 71 (.bin .sub 3 (.tmp 70) (kI 1)) 66 true,
 oG 72 (.iaddr 1 none (.tmp 69) (.tmp 71)) 66 true,
 oG 73 (.load false 1 (.tmp 72)) 66 true,
 oG 74 (.bin .leq 3 (.tmp 67) (.tmp 73)) 66 true,
 oO 75 (.pick (.tmp 66) (.tmp 74) (.const (.bool false)))]
def ac142_14 : List AOper := [
 oM 76 4,
 oM 2 76,
 oO 3 (.mv (kI 10))]
def ac142_15 : List AOper := [
 oO 77 (.bin .add 3 (.tmp 43) (kI 1)),
 oM 43 77]
def ac142_16 : List AOper := [
 oO 2 (.mv (kI 0)),
 oO 3 (.mv (kI 0))]
def tr142 : List (Nat × Tidy) := [tF 0 [1], tF 1 [1, 7], tF 2 [2, 3], tF 3 [1, 12], tF 4 [2, 3], tF 5 [1, 35], tF 6 [2, 3], tF 7 [1, 41, 42, 43], tF 8 [1, 41, 42, 43, 44], tF 9 [1, 4, 5, 41, 42, 43], tF 10 [1, 4, 5, 6, 41, 42, 43], tF 11 [1, 4, 5, 6, 41, 42, 43, 61], tF 12 [2, 3], tF 13 [1, 4, 41, 42, 43, 75], tF 14 [2, 3], tF 15 [1, 41, 42, 43], tF 16 [2, 3]]
def tl142 : List (Nat × Tidy) := [(8, ⟨[1, 41, 42, 43], true, [⟨false, 41, 0, 20041, 0⟩, ⟨false, 43, 0, 20043, 0⟩], []⟩)]
def ac142 : ACode := (.seq (.region ac142_0 [] (some ⟨[1], false, [], []⟩)) (.seq (.block 0 (.seq (.region ac142_1 [] (some ⟨[1, 7], false, [], []⟩)) (.cond (.tmp 7) (.seq (.region ac142_2 [] (some ⟨[2, 3], false, [], []⟩)) .ret) (.seq (.region ac142_3 [] (some ⟨[1, 12], false, [], []⟩)) (.cond (.tmp 12) (.seq (.region ac142_4 [] (some ⟨[2, 3], false, [], []⟩)) .ret) (.seq (.region ac142_5 [] (some ⟨[1, 35], false, [], []⟩)) (.cond (.tmp 35) (.seq (.region ac142_6 [] (some ⟨[2, 3], false, [], []⟩)) .ret) .skip))))))) (.seq (.seq (.region ac142_7 [] (some ⟨[1, 41, 42, 43], false, [], []⟩)) (.block 1 (.loop (some ⟨[1, 41, 42, 43], true, [⟨false, 41, 0, 20041, 0⟩, ⟨false, 43, 0, 20043, 0⟩], []⟩) (.seq (.region ac142_8 [] (some ⟨[1, 41, 42, 43, 44], false, [], []⟩)) (.seq (.cond (.tmp 44) .skip (.exit 1)) (.seq (.block 2 (.seq (.region ac142_9 [] (some ⟨[1, 4, 5, 41, 42, 43], false, [], []⟩)) (.seq (.seq (.region ac142_10 [] (some ⟨[1, 4, 5, 6, 41, 42, 43], false, [], []⟩)) (.seq (.region ac142_11 [] (some ⟨[1, 4, 5, 6, 41, 42, 43, 61], false, [], []⟩)) (.cond (.tmp 61) (.seq (.region ac142_12 [] (some ⟨[2, 3], false, [], []⟩)) .ret) .skip))) (.seq (.region ac142_13 [] (some ⟨[1, 4, 41, 42, 43, 75], false, [], []⟩)) (.cond (.tmp 75) (.seq (.region ac142_14 [] (some ⟨[2, 3], false, [], []⟩)) .ret) .skip))))) (.region ac142_15 [] (some ⟨[1, 41, 42, 43], false, [], []⟩)))))))) (.seq (.region ac142_16 [] (some ⟨[2, 3], false, [], []⟩)) .ret))))
def rs142 : List AResV := [.tmp 2, .tmp 3]
def ft142 : FnT := ⟨78, tr142, tl142, ac142, rs142⟩
theorem is142 : FnIs Tryz.prog 142 78 tr142 tl142 ac142 rs142 := ⟨Tryz.f142, Tryz.func142, rfl, by kernel_rfl, by kernel_rfl, by kernel_rfl⟩
def ac143_0 : List AOper := [
 oO 1 (.box (.tmp 0)),
 oO 2 (.mv (.const (.bool false)))]
def ac143_1 : List AOper := [
 oO 3 (.iaddr 1 (some 2) (.tmp 1) (kI 0)),
 oO 4 (.load false 1 (.tmp 3)),
 oO 5 (.call 51 [(.tmp 4), (kI 5000), (kI 60000)]),
 oM 6 5,
 oG 7 (.iaddr 1 (some 2) (.tmp 1) (kI 1)) 6 true,
 oG 8 (.load false 1 (.tmp 7)) 6 true,
 oG 9 (.call 51 [(.tmp 8), (kI 0), (kI 20000)]) 6 true,
 oO 10 (.pick (.tmp 6) (.tmp 9) (.const (.bool false))),
 oM 2 10]
def tr143 : List (Nat × Tidy) := [tF 0 [1], tF 1 [2]]
def tl143 : List (Nat × Tidy) := []
def ac143 : ACode := (.seq (.region ac143_0 [] (some ⟨[1], false, [], []⟩)) (.seq (.region ac143_1 [] (some ⟨[2], false, [], []⟩)) .ret))
def rs143 : List AResV := [.tmp 2]
def ft143 : FnT := ⟨11, tr143, tl143, ac143, rs143⟩
theorem is143 : FnIs Tryz.prog 143 11 tr143 tl143 ac143 rs143 := ⟨Tryz.f143, Tryz.func143, rfl, by kernel_rfl, by kernel_rfl, by kernel_rfl⟩
def ac144_0 : List AOper := [
 oO 2 (.box (.tmp 0)),
 oO 4 (.alloc [(.d (.v (.complex Go.FloatKind.f64 0 0))), (cI 0)]),
 oO 5 (.mv (kI 0))]
def ac144_1 : List AOper := [
 oO 9 (.load true 2 (.tmp 2)),
 oO 10 (.call 94 [(.tmp 9)]),
 oM 8 10,
 oO 11 (.extract 0 (.tmp 8)),
 oO 12 (.extract 1 (.tmp 8)),
 oO 6 (.alloc [(cI 0), (cI 0), (cI 0)]),
 oD (.store 3 (.tmp 6) (.tmp 11)),
 oM 7 12]
def ac144_2 : List AOper := [
 oM 13 7,
 oO 14 (.bin .neq 26 (.tmp 13) (kI 0))]
def ac144_3 : List AOper := [
 oO 15 (.build [(.d (.v (.complex Go.FloatKind.f64 0 0))), (cI 0)] []),
 oM 16 7,
 oD (.store 2 (.tmp 4) (.tmp 15)),
 oM 5 16]
def ac144_4 : List AOper := [
 oM 18 1,
 oO 19 (.load true 3 (.tmp 6)),
 oO 20 (.calld (.tmp 18) [(.tmp 19)]),
 oM 17 20,
 oO 21 (.extract 0 (.tmp 17)),
 oO 22 (.extract 1 (.tmp 17)),
 oD (.store 3 (.tmp 6) (.tmp 21)),
 oM 7 22]
def ac144_5 : List AOper := [
 oM 23 7,
 oO 24 (.bin .neq 26 (.tmp 23) (kI 0))]
def ac144_6 : List AOper := [
 oO 25 (.build [(.d (.v (.complex Go.FloatKind.f64 0 0))), (cI 0)] []),
 oM 26 7,
 oD (.store 2 (.tmp 4) (.tmp 25)),
 oM 5 26]
def ac144_7 : List AOper := [
 oO 27 (.load true 3 (.tmp 6)),
 oO 28 (.call 157 [(.tmp 27)]),
 oO 29 (.extract 0 (.tmp 28)),
 oO 30 (.extract 1 (.tmp 28)),
 oD (.store 2 (.tmp 4) (.tmp 29)),
 oM 5 30]
def tr144 : List (Nat × Tidy) := [tF 0 [1, 2, 4], tF 1 [1, 4, 6, 7], tF 2 [1, 4, 6, 7, 14], tF 3 [4, 5], tF 4 [4, 6, 7], tF 5 [4, 6, 7, 24], tF 6 [4, 5], tF 7 [4, 5]]
def tl144 : List (Nat × Tidy) := []
def ac144 : ACode := (.seq (.region ac144_0 [] (some ⟨[1, 2, 4], false, [], []⟩)) (.seq (.region ac144_1 [] (some ⟨[1, 4, 6, 7], false, [], []⟩)) (.seq (.seq (.region ac144_2 [] (some ⟨[1, 4, 6, 7, 14], false, [], []⟩)) (.cond (.tmp 14) (.seq (.region ac144_3 [] (some ⟨[4, 5], false, [], []⟩)) .ret) .skip)) (.seq (.seq (.region ac144_4 [] (some ⟨[4, 6, 7], false, [], []⟩)) (.seq (.region ac144_5 [] (some ⟨[4, 6, 7, 24], false, [], []⟩)) (.cond (.tmp 24) (.seq (.region ac144_6 [] (some ⟨[4, 5], false, [], []⟩)) .ret) .skip))) (.seq (.region ac144_7 [] (some ⟨[4, 5], false, [], []⟩)) .ret)))))
def rs144 : List AResV := [.cell 4 true 2, .tmp 5]
def ft144 : FnT := ⟨31, tr144, tl144, ac144, rs144⟩
theorem is144 : FnIs Tryz.prog 144 31 tr144 tl144 ac144 rs144 := ⟨Tryz.f144, Tryz.func144, rfl, by kernel_rfl, by kernel_rfl, by kernel_rfl⟩
def ac145_0 : List AOper := [
 oO 3 (.box (.tmp 0)),
 oO 4 (.alloc [(cI 0), (cI 0), (cI 0)]),
 oO 5 (.mv (kI 0))]
def ac145_1 : List AOper := [
 oO 6 (.load false 1 (.tmp 1)),
 oO 7 (.load true 3 (.tmp 2)),
 oO 8 (.load true 3 (.tmp 3)),
 oO 9 (.calld (.tmp 6) [(.tmp 7), (.tmp 8)]),
 oO 10 (.extract 0 (.tmp 9)),
 oO 11 (.extract 1 (.tmp 9)),
 oD (.store 3 (.tmp 4) (.tmp 10)),
 oM 5 11]
def tr145 : List (Nat × Tidy) := [tF 0 [1, 2, 3, 4], tF 1 [4, 5]]
def tl145 : List (Nat × Tidy) := []
def ac145 : ACode := (.seq (.region ac145_0 [] (some ⟨[1, 2, 3, 4], false, [], []⟩)) (.seq (.region ac145_1 [] (some ⟨[4, 5], false, [], []⟩)) .ret))
def rs145 : List AResV := [.cell 4 true 3, .tmp 5]
def ft145 : FnT := ⟨12, tr145, tl145, ac145, rs145⟩
theorem is145 : FnIs Tryz.prog 145 12 tr145 tl145 ac145 rs145 := ⟨Tryz.f145, Tryz.func145, rfl, by kernel_rfl, by kernel_rfl, by kernel_rfl⟩
def ac150_0 : List AOper := [
 oO 2 (.mv (.const (.float Go.FloatKind.f64 0)))]
def ac150_1 : List AOper := [
 oM 3 0,
 oO 4 (.pure (oB (.call { callee := .value (.func 162), args := #[(.tmp 3)], argTypes := #[117] }) 117)),
 oM 2 4]
def ac150_2 : List AOper := [
 oM 5 0,
 oO 6 (.call 163 [(.tmp 5)]),
 oM 2 6]
def tr150 : List (Nat × Tidy) := [tF 0 [0], tF 1 [2], tF 2 [2]]
def tl150 : List (Nat × Tidy) := []
def ac150 : ACode := (.seq (.region ac150_0 [] (some ⟨[0], false, [], []⟩)) (.seq (.cond (.const (.bool true)) (.seq (.region ac150_1 [] (some ⟨[2], false, [], []⟩)) .ret) .skip) (.seq (.region ac150_2 [] (some ⟨[2], false, [], []⟩)) .ret)))
def rs150 : List AResV := [.tmp 2]
def ft150 : FnT := ⟨7, tr150, tl150, ac150, rs150⟩
theorem is150 : FnIs Tryz.prog 150 7 tr150 tl150 ac150 rs150 := ⟨Tryz.f150, Tryz.func150, rfl, by kernel_rfl, by kernel_rfl, by kernel_rfl⟩
def ac151_0 : List AOper := [
 oO 4 (.mv (.const (.bool false)))]
def ac151_1 : List AOper := [
 oM 5 1,
 oO 6 (.bin .eql 3 (.tmp 5) (kI 0))]
def ac151_2 : List AOper := [
 oM 7 0,
 oO 8 (.call 129 [(.tmp 7)]),
 oM 0 8]
def ac151_3 : List AOper := [
 oM 9 1,
 oO 10 (.bin .lss 3 (.tmp 9) (kI 0))]
def ac151_4 : List AOper := [
 oM 11 0,
 oO 12 (.pure (oB (.unOp .neg 117 (.tmp 11)) 117)),
 oM 0 12]
def ac151_5 : List AOper := [
 oM 13 0,
 oO 14 (.bin .gtr 117 (.tmp 13) (.const (.float Go.FloatKind.f64 9218868437227405311))),
 oM 4 14]
def tr151 : List (Nat × Tidy) := [tF 0 [0, 1], tF 1 [0, 1, 6], tF 2 [0], tF 3 [0, 10], tF 4 [0], tF 5 [4]]
def tl151 : List (Nat × Tidy) := []
def ac151 : ACode := (.seq (.region ac151_0 [] (some ⟨[0, 1], false, [], []⟩)) (.seq (.seq (.region ac151_1 [] (some ⟨[0, 1, 6], false, [], []⟩)) (.cond (.tmp 6) (.region ac151_2 [] (some ⟨[0], false, [], []⟩)) (.seq (.region ac151_3 [] (some ⟨[0, 10], false, [], []⟩)) (.cond (.tmp 10) (.region ac151_4 [] (some ⟨[0], false, [], []⟩)) .skip)))) (.seq (.region ac151_5 [] (some ⟨[4], false, [], []⟩)) .ret)))
def rs151 : List AResV := [.tmp 4]
def ft151 : FnT := ⟨15, tr151, tl151, ac151, rs151⟩
theorem is151 : FnIs Tryz.prog 151 15 tr151 tl151 ac151 rs151 := ⟨Tryz.f151, Tryz.func151, rfl, by kernel_rfl, by kernel_rfl, by kernel_rfl⟩
def ac153_0 : List AOper := [
 oO 2 (.mv (.const (.bool false)))]
def ac153_1 : List AOper := [
 oM 3 0,
 oM 4 0,
 oO 5 (.bin .neq 164 (.tmp 3) (.tmp 4)),
 oM 2 5]
def tr153 : List (Nat × Tidy) := [tF 0 [0], tF 1 [2]]
def tl153 : List (Nat × Tidy) := []
def ac153 : ACode := (.seq (.region ac153_0 [] (some ⟨[0], false, [], []⟩)) (.seq (.region ac153_1 [] (some ⟨[2], false, [], []⟩)) .ret))
def rs153 : List AResV := [.tmp 2]
def ft153 : FnT := ⟨6, tr153, tl153, ac153, rs153⟩
theorem is153 : FnIs Tryz.prog 153 6 tr153 tl153 ac153 rs153 := ⟨Tryz.f153, Tryz.func153, rfl, by kernel_rfl, by kernel_rfl, by kernel_rfl⟩
def ac154_0 : List AOper := [
 oO 2 (.box (.tmp 0)),
 oO 3 (.box (.tmp 1)),
 oO 4 (.alloc [(cI 0), (cI 0), (cI 0)]),
 oO 5 (.mv (kI 0))]
def ac154_1 : List AOper := [
 oO 6 (.faddr 0 (.tmp 2)),
 oO 7 (.load true 2 (.tmp 6)),
 oO 8 (.faddr 0 (.tmp 3)),
 oO 9 (.load true 2 (.tmp 8)),
 oO 10 (.call 155 [(.tmp 7), (.tmp 9)]),
 oO 11 (.faddr 2 (.tmp 2)),
 oO 12 (.load false 1 (.tmp 11)),
 oO 13 (.faddr 2 (.tmp 3)),
 oO 14 (.load false 1 (.tmp 13)),
 oO 15 (.bin .add 3 (.tmp 12) (.tmp 14)),
 oO 16 (.build [(cI 0), (cI 0), (cI 0)] [(0, 2, (.tmp 10)), (2, 1, (.tmp 15))]),
 oD (.store 3 (.tmp 4) (.tmp 16)),
 oO 5 (.mv (kI 0))]
def tr154 : List (Nat × Tidy) := [tF 0 [2, 3, 4], tF 1 [4, 5]]
def tl154 : List (Nat × Tidy) := []
def ac154 : ACode := (.seq (.region ac154_0 [] (some ⟨[2, 3, 4], false, [], []⟩)) (.seq (.region ac154_1 [(4, 6), (4, 8)] (some ⟨[4, 5], false, [], []⟩)) .ret))
def rs154 : List AResV := [.cell 4 true 3, .tmp 5]
def ft154 : FnT := ⟨17, tr154, tl154, ac154, rs154⟩
theorem is154 : FnIs Tryz.prog 154 17 tr154 tl154 ac154 rs154 := ⟨Tryz.f154, Tryz.func154, rfl, by kernel_rfl, by kernel_rfl, by kernel_rfl⟩
def ac155_0 : List AOper := [
 oO 2 (.box (.tmp 0)),
 oO 3 (.box (.tmp 1)),
 oO 4 (.alloc [(cI 0), (cI 0)])]
def ac155_1 : List AOper := [
 oO 5 (.faddr 0 (.tmp 2)),
 oO 6 (.load false 1 (.tmp 5)),
 oO 7 (.faddr 0 (.tmp 3)),
 oO 8 (.load false 1 (.tmp 7)),
 oO 9 (.bin .add 3 (.tmp 6) (.tmp 8)),
 oO 10 (.faddr 1 (.tmp 2)),
 oO 11 (.load false 1 (.tmp 10)),
 oO 12 (.faddr 1 (.tmp 3)),
 oO 13 (.load false 1 (.tmp 12)),
 oO 14 (.bin .add 3 (.tmp 11) (.tmp 13)),
 oO 15 (.build [(cI 0), (cI 0)] [(0, 1, (.tmp 9)), (1, 1, (.tmp 14))]),
 oD (.store 2 (.tmp 4) (.tmp 15))]
def tr155 : List (Nat × Tidy) := [tF 0 [2, 3, 4], tF 1 [4]]
def tl155 : List (Nat × Tidy) := []
def ac155 : ACode := (.seq (.region ac155_0 [] (some ⟨[2, 3, 4], false, [], []⟩)) (.seq (.region ac155_1 [] (some ⟨[4], false, [], []⟩)) .ret))
def rs155 : List AResV := [.cell 4 true 2]
def ft155 : FnT := ⟨16, tr155, tl155, ac155, rs155⟩
theorem is155 : FnIs Tryz.prog 155 16 tr155 tl155 ac155 rs155 := ⟨Tryz.f155, Tryz.func155, rfl, by kernel_rfl, by kernel_rfl, by kernel_rfl⟩
def ac156_0 : List AOper := [
 oO 2 (.alloc [(cI 0), (cI 0)])]
def ac156_1 : List AOper := [
 oM 4 0,
 oM 5 0,
 oO 6 (.call 139 [(.tmp 5), (kI 4194304)]),
 oO 7 (.bin .mul 3 (kI 4194304) (.tmp 6)),
 oO 8 (.bin .sub 3 (.tmp 4) (.tmp 7)),
 oM 0 8]
def ac156_2 : List AOper := [
 oM 10 0,
 oO 11 (.bin .geq 3 (.tmp 10) (kI 2097152)),
 oM 9 11]
def ac156_3 : List AOper := [
 oM 12 0,
 oO 13 (.bin .sub 3 (.tmp 12) (kI 2097152)),
 oO 14 (.call 156 [(.tmp 13)]),
 oO 15 (.call 164 [(.tmp 14), (kI 2)]),
 oD (.store 2 (.tmp 2) (.tmp 15))]
def ac156_4 : List AOper := [
 oM 17 0,
 oO 18 (.bin .geq 3 (.tmp 17) (kI 1048576)),
 oM 16 18]
def ac156_5 : List AOper := [
 oM 19 0,
 oO 20 (.bin .sub 3 (.tmp 19) (kI 1048576)),
 oO 21 (.call 156 [(.tmp 20)]),
 oO 22 (.call 164 [(.tmp 21), (kI 1)]),
 oD (.store 2 (.tmp 2) (.tmp 22))]
def ac156_6 : List AOper := [
 oM 24 0,
 oO 25 (.bin .gtr 3 (.tmp 24) (kI 524288)),
 oM 23 25]
def ac156_7 : List AOper := [
 oM 26 0,
 oO 27 (.bin .sub 3 (kI 1048576) (.tmp 26)),
 oO 28 (.call 165 [(.tmp 27)]),
 oO 3 (.alloc [(cI 0), (cI 0)]),
 oD (.store 2 (.tmp 3) (.tmp 28))]
def ac156_8 : List AOper := [
 oO 29 (.faddr 1 (.tmp 3)),
 oO 30 (.load false 1 (.tmp 29)),
 oO 31 (.faddr 0 (.tmp 3)),
 oO 32 (.load false 1 (.tmp 31)),
 oO 33 (.build [(cI 0), (cI 0)] [(0, 1, (.tmp 30)), (1, 1, (.tmp 32))]),
 oD (.store 2 (.tmp 2) (.tmp 33))]
def ac156_9 : List AOper := [
 oM 34 0,
 oO 35 (.call 165 [(.tmp 34)]),
 oD (.store 2 (.tmp 2) (.tmp 35))]
def tr156 : List (Nat × Tidy) := [tF 0 [0, 2], tF 1 [0, 2], tF 2 [0, 2, 9], tF 3 [2], tF 4 [0, 2, 16], tF 5 [2], tF 6 [0, 2, 23], tF 7 [2, 3], tF 8 [2], tF 9 [2]]
def tl156 : List (Nat × Tidy) := []
def ac156 : ACode := (.seq (.region ac156_0 [] (some ⟨[0, 2], false, [], []⟩)) (.seq (.region ac156_1 [] (some ⟨[0, 2], false, [], []⟩)) (.seq (.block 0 (.seq (.region ac156_2 [] (some ⟨[0, 2, 9], false, [], []⟩)) (.cond (.tmp 9) (.seq (.region ac156_3 [] (some ⟨[2], false, [], []⟩)) .ret) (.seq (.region ac156_4 [] (some ⟨[0, 2, 16], false, [], []⟩)) (.cond (.tmp 16) (.seq (.region ac156_5 [] (some ⟨[2], false, [], []⟩)) .ret) (.seq (.region ac156_6 [] (some ⟨[0, 2, 23], false, [], []⟩)) (.cond (.tmp 23) (.seq (.region ac156_7 [] (some ⟨[2, 3], false, [], []⟩)) (.seq (.region ac156_8 [] (some ⟨[2], false, [], []⟩)) .ret)) .skip))))))) (.seq (.region ac156_9 [] (some ⟨[2], false, [], []⟩)) .ret))))
def rs156 : List AResV := [.cell 2 true 2]
def ft156 : FnT := ⟨36, tr156, tl156, ac156, rs156⟩
theorem is156 : FnIs Tryz.prog 156 36 tr156 tl156 ac156 rs156 := ⟨Tryz.f156, Tryz.func156, rfl, by kernel_rfl, by kernel_rfl, by kernel_rfl⟩
def ac157_0 : List AOper := [
 oO 1 (.box (.tmp 0)),
 oO 2 (.alloc [(.d (.v (.complex Go.FloatKind.f64 0 0))), (cI 0)]),
 oO 3 (.mv (kI 0))]
def ac157_1 : List AOper := [
 oO 4 (.faddr 0 (.tmp 1)),
 oO 5 (.faddr 0 (.tmp 4)),
 oO 6 (.load false 1 (.tmp 5)),
 oO 7 (.call 137 [(.tmp 6), (kI 67108864)]),
 oO 8 (.pure (oB (.unOp .not 4 (.tmp 7)) 4)),
 oM 9 8,
 oG 10 (.faddr 0 (.tmp 1)) 9 false,
 oG 11 (.faddr 1 (.tmp 10)) 9 false,
 oG 12 (.load false 1 (.tmp 11)) 9 false,
 oG 13 (.call 137 [(.tmp 12), (kI 67108864)]) 9 false,
 oG 14 (.pure (oB (.unOp .not 4 (.tmp 13)) 4)) 9 false,
 oO 15 (.pick (.tmp 9) (.const (.bool true)) (.tmp 14)),
 oM 16 15,
 oG 17 (.faddr 2 (.tmp 1)) 16 false,
 oG 18 (.load false 1 (.tmp 17)) 16 false,
 oG 19 (.call 127 [(.tmp 18), (kI 0), (kI 67108864)]) 16 false,
 oG 20 (.pure (oB (.unOp .not 4 (.tmp 19)) 4)) 16 false,
 oO 21 (.pick (.tmp 16) (.const (.bool true)) (.tmp 20))]
def ac157_2 : List AOper := [
 oO 22 (.build [(.d (.v (.complex Go.FloatKind.f64 0 0))), (cI 0)] []),
 oD (.store 2 (.tmp 2) (.tmp 22)),
 oO 3 (.mv (kI 8))]
def ac157_3 : List AOper := [
 oO 23 (.faddr 0 (.tmp 1)),
 oO 24 (.load true 2 (.tmp 23)),
 oO 25 (.call 166 [(.tmp 24)]),
 oO 26 (.faddr 2 (.tmp 1)),
 oO 27 (.load false 1 (.tmp 26)),
 oO 28 (.build [(.d (.v (.complex Go.FloatKind.f64 0 0))), (cI 0)] [(0, 1, (.tmp 25)), (1, 1, (.tmp 27))]),
 oD (.store 2 (.tmp 2) (.tmp 28)),
 oO 3 (.mv (kI 0))]
def tr157 : List (Nat × Tidy) := [tF 0 [1, 2], tF 1 [1, 2, 21], tF 2 [2, 3], tF 3 [2, 3]]
def tl157 : List (Nat × Tidy) := []
def ac157 : ACode := (.seq (.region ac157_0 [] (some ⟨[1, 2], false, [], []⟩)) (.seq (.seq (.region ac157_1 [] (some ⟨[1, 2, 21], false, [], []⟩)) (.cond (.tmp 21) (.seq (.region ac157_2 [] (some ⟨[2, 3], false, [], []⟩)) .ret) .skip)) (.seq (.region ac157_3 [(2, 4)] (some ⟨[2, 3], false, [], []⟩)) .ret)))
def rs157 : List AResV := [.cell 2 true 2, .tmp 3]
def ft157 : FnT := ⟨29, tr157, tl157, ac157, rs157⟩
theorem is157 : FnIs Tryz.prog 157 29 tr157 tl157 ac157 rs157 := ⟨Tryz.f157, Tryz.func157, rfl, by kernel_rfl, by kernel_rfl, by kernel_rfl⟩
def ac159_0 : List AOper := [
 oO 6 (.mv (kI 0))]
def ac159_1 : List AOper := [
 oM 11 0,
 oO 12 (.call 80 [(.tmp 11)]),
 oO 13 (.pure (oB (.unOp .not 4 (.tmp 12)) 4))]
def ac159_2 : List AOper := [
 oO 6 (.mv (kI 2))]
def ac159_3 : List AOper := [
 oM 15 1,
 oO 16 (.call 168 [(.tmp 15)]),
 oM 14 16,
 oO 17 (.extract 0 (.tmp 14)),
 oO 18 (.extract 1 (.tmp 14)),
 oM 7 17,
 oM 8 18]
def ac159_4 : List AOper := [
 oM 20 2,
 oO 21 (.call 168 [(.tmp 20)]),
 oM 19 21,
 oO 22 (.extract 0 (.tmp 19)),
 oO 23 (.extract 1 (.tmp 19)),
 oM 9 22,
 oM 10 23]
def ac159_5 : List AOper := [
 oM 25 8,
 oO 26 (.pure (oB (.unOp .not 4 (.tmp 25)) 4)),
 oM 27 26,
 oG 28 (.mv (.tmp 10)) 27 false,
 oG 29 (.pure (oB (.unOp .not 4 (.tmp 28)) 4)) 27 false,
 oO 30 (.pick (.tmp 27) (.const (.bool true)) (.tmp 29)),
 oM 24 30]
def ac159_6 : List AOper := [
 oO 6 (.mv (kI 27))]
def ac159_7 : List AOper := [
 oM 32 7,
 oO 33 (.call 132 [(.tmp 32)]),
 oO 34 (.pure (oB (.unOp .not 4 (.tmp 33)) 4)),
 oM 35 34,
 oG 36 (.mv (.tmp 9)) 35 false,
 oG 37 (.call 169 [(.tmp 36)]) 35 false,
 oG 38 (.pure (oB (.unOp .not 4 (.tmp 37)) 4)) 35 false,
 oO 39 (.pick (.tmp 35) (.const (.bool true)) (.tmp 38)),
 oM 31 39]
def ac159_8 : List AOper := [
 oO 6 (.mv (kI 2))]
def ac159_9 : List AOper := [
 oO 6 (.mv (kI 0))]
def tr159 : List (Nat × Tidy) := [tF 0 [0, 1, 2], tF 1 [1, 2, 13], tF 2 [6], tF 3 [2, 7, 8], tF 4 [7, 8, 9, 10], tF 5 [7, 9, 24], tF 6 [6], tF 7 [31], tF 8 [6], tF 9 [6]]
def tl159 : List (Nat × Tidy) := []
def ac159 : ACode := (.seq (.region ac159_0 [] (some ⟨[0, 1, 2], false, [], []⟩)) (.seq (.seq (.region ac159_1 [] (some ⟨[1, 2, 13], false, [], []⟩)) (.cond (.tmp 13) (.seq (.region ac159_2 [] (some ⟨[6], false, [], []⟩)) .ret) .skip)) (.seq (.region ac159_3 [] (some ⟨[2, 7, 8], false, [], []⟩)) (.seq (.region ac159_4 [] (some ⟨[7, 8, 9, 10], false, [], []⟩)) (.seq (.block 0 (.seq (.region ac159_5 [] (some ⟨[7, 9, 24], false, [], []⟩)) (.cond (.tmp 24) (.seq (.region ac159_6 [] (some ⟨[6], false, [], []⟩)) .ret) (.seq (.region ac159_7 [] (some ⟨[31], false, [], []⟩)) (.cond (.tmp 31) (.seq (.region ac159_8 [] (some ⟨[6], false, [], []⟩)) .ret) .skip))))) (.seq (.region ac159_9 [] (some ⟨[6], false, [], []⟩)) .ret))))))
def rs159 : List AResV := [.tmp 6]
def ft159 : FnT := ⟨40, tr159, tl159, ac159, rs159⟩
theorem is159 : FnIs Tryz.prog 159 40 tr159 tl159 ac159 rs159 := ⟨Tryz.f159, Tryz.func159, rfl, by kernel_rfl, by kernel_rfl, by kernel_rfl⟩
def ac160_0 : List AOper := [
 oO 2 (.mv (kI 0))]
def ac160_1 : List AOper := [
 oM 4 0,
 oO 5 (.pure (oB (.convert 3 117 (.tmp 4)) 117)),
 oO 6 (.call 170 [(.tmp 5)]),
 oO 7 (.pure (oB (.convert 117 3 (.tmp 6)) 3)),
 oM 3 7]
def ac160_2 : List AOper := [
 oM 8 3,
 oM 9 3,
 oO 10 (.bin .mul 3 (.tmp 8) (.tmp 9)),
 oM 11 0,
 oO 12 (.bin .gtr 3 (.tmp 10) (.tmp 11))]
def ac160_3 : List AOper := [
 oM 13 3,
 oO 14 (.bin .sub 3 (.tmp 13) (kI 1)),
 oM 3 14]
def ac160_4 : List AOper := [
 oM 15 3,
 oO 16 (.bin .add 3 (.tmp 15) (kI 1)),
 oM 17 3,
 oO 18 (.bin .add 3 (.tmp 17) (kI 1)),
 oO 19 (.bin .mul 3 (.tmp 16) (.tmp 18)),
 oM 20 0,
 oO 21 (.bin .leq 3 (.tmp 19) (.tmp 20))]
def ac160_5 : List AOper := [
 oM 22 3,
 oO 23 (.bin .add 3 (.tmp 22) (kI 1)),
 oM 3 23]
def ac160_6 : List AOper := [
 oM 24 3,
 oM 2 24]
def tr160 : List (Nat × Tidy) := [tF 0 [0], tF 1 [0, 3], tF 2 [0, 3, 12], tF 3 [0, 3], tF 4 [0, 3, 21], tF 5 [0, 3], tF 6 [2]]
def tl160 : List (Nat × Tidy) := [(2, ⟨[0, 3], true, [⟨false, 3, 0, 20003, 0⟩], []⟩), (4, ⟨[0, 3], true, [⟨false, 3, 0, 20003, 0⟩], []⟩)]
def ac160 : ACode := (.seq (.region ac160_0 [] (some ⟨[0], false, [], []⟩)) (.seq (.region ac160_1 [] (some ⟨[0, 3], false, [], []⟩)) (.seq (.block 0 (.loop (some ⟨[0, 3], true, [⟨false, 3, 0, 20003, 0⟩], []⟩) (.seq (.seq (.region ac160_2 [] (some ⟨[0, 3, 12], false, [], []⟩)) (.cond (.tmp 12) .skip (.exit 0))) (.block 1 (.region ac160_3 [] (some ⟨[0, 3], false, [], []⟩)))))) (.seq (.block 2 (.loop (some ⟨[0, 3], true, [⟨false, 3, 0, 20003, 0⟩], []⟩) (.seq (.seq (.region ac160_4 [] (some ⟨[0, 3, 21], false, [], []⟩)) (.cond (.tmp 21) .skip (.exit 2))) (.block 3 (.region ac160_5 [] (some ⟨[0, 3], false, [], []⟩)))))) (.seq (.region ac160_6 [] (some ⟨[2], false, [], []⟩)) .ret)))))
def rs160 : List AResV := [.tmp 2]
def ft160 : FnT := ⟨25, tr160, tl160, ac160, rs160⟩
theorem is160 : FnIs Tryz.prog 160 25 tr160 tl160 ac160 rs160 := ⟨Tryz.f160, Tryz.func160, rfl, by kernel_rfl, by kernel_rfl, by kernel_rfl⟩
def ac163_0 : List AOper := [
 oO 2 (.mv (.const (.float Go.FloatKind.f64 0)))]
def ac163_1 : List AOper := [
 oM 5 0,
 oO 6 (.call 129 [(.tmp 5)]),
 oO 7 (.bin .lss 117 (.tmp 6) (.const (.float Go.FloatKind.f64 4607182418800017408)))]
def ac163_2 : List AOper := [
 oM 8 0,
 oO 9 (.call 172 [(.const (.float Go.FloatKind.f64 0)), (.tmp 8)]),
 oM 2 9]
def ac163_3 : List AOper := [
 oM 10 0,
 oO 11 (.pure (oB (.call { callee := .value (.func 110), args := #[(.tmp 10)], argTypes := #[117] }) 164)),
 oM 3 11]
def ac163_4 : List AOper := [
 oM 12 3,
 oO 13 (.bin .shr 164 (.tmp 12) (.const (.int .u64 52))),
 oO 14 (.bin .and 193 (.tmp 13) (.const (.int .u64 2047))),
 oO 15 (.bin .sub 193 (.tmp 14) (.const (.int .u64 1023))),
 oM 4 15]
def ac163_5 : List AOper := [
 oM 16 4,
 oO 17 (.bin .lss 193 (.tmp 16) (.const (.int .u64 52)))]
def ac163_6 : List AOper := [
 oM 18 3,
 oM 19 4,
 oO 20 (.bin .sub 193 (.const (.int .u64 52)) (.tmp 19)),
 oO 21 (.bin .shl 164 (.const (.int .u64 1)) (.tmp 20)),
 oO 22 (.bin .sub 164 (.tmp 21) (.const (.int .u64 1))),
 oO 23 (.bin .andNot 164 (.tmp 18) (.tmp 22)),
 oM 3 23]
def ac163_7 : List AOper := [
 oM 24 3,
 oO 25 (.pure (oB (.call { callee := .value (.func 152), args := #[(.tmp 24)], argTypes := #[164] }) 117)),
 oM 2 25]
def tr163 : List (Nat × Tidy) := [tF 0 [0], tF 1 [0, 7], tF 2 [2], tF 3 [3], tF 4 [3, 4], tF 5 [3, 4, 17], tF 6 [3], tF 7 [2]]
def tl163 : List (Nat × Tidy) := []
def ac163 : ACode := (.seq (.region ac163_0 [] (some ⟨[0], false, [], []⟩)) (.seq (.seq (.region ac163_1 [] (some ⟨[0, 7], false, [], []⟩)) (.cond (.tmp 7) (.seq (.region ac163_2 [] (some ⟨[2], false, [], []⟩)) .ret) .skip)) (.seq (.region ac163_3 [] (some ⟨[3], false, [], []⟩)) (.seq (.region ac163_4 [] (some ⟨[3, 4], false, [], []⟩)) (.seq (.seq (.region ac163_5 [] (some ⟨[3, 4, 17], false, [], []⟩)) (.cond (.tmp 17) (.region ac163_6 [] (some ⟨[3], false, [], []⟩)) .skip)) (.seq (.region ac163_7 [] (some ⟨[2], false, [], []⟩)) .ret))))))
def rs163 : List AResV := [.tmp 2]
def ft163 : FnT := ⟨26, tr163, tl163, ac163, rs163⟩
theorem is163 : FnIs Tryz.prog 163 26 tr163 tl163 ac163 rs163 := ⟨Tryz.f163, Tryz.func163, rfl, by kernel_rfl, by kernel_rfl, by kernel_rfl⟩
def ac164_0 : List AOper := [
 oO 2 (.box (.tmp 0)),
 oO 4 (.alloc [(cI 0), (cI 0)])]
def ac164_1 : List AOper := [
 oM 5 1,
 oO 6 (.mv (kI 0))]
def ac164_2 : List AOper := [
 oO 7 (.bin .lss 3 (.tmp 6) (.tmp 5))]
def ac164_3 : List AOper := [
 oO 8 (.faddr 1 (.tmp 2)),
 oO 9 (.load false 1 (.tmp 8)),
 oO 10 (.pure (oB (.unOp .neg 3 (.tmp 9)) 3)),
 oO 11 (.faddr 0 (.tmp 2)),
 oO 12 (.load false 1 (.tmp 11)),
 oO 13 (.build [(cI 0), (cI 0)] [(0, 1, (.tmp 10)), (1, 1, (.tmp 12))]),
 oD (.store 2 (.tmp 2) (.tmp 13))]
def ac164_4 : List AOper := [
 oO 14 (.bin .add 3 (.tmp 6) (kI 1)),
 oM 6 14]
def ac164_5 : List AOper := [
 oO 15 (.load true 2 (.tmp 2)),
 oD (.store 2 (.tmp 4) (.tmp 15))]
def tr164 : List (Nat × Tidy) := [tF 0 [1, 2, 4], tF 1 [2, 4, 5, 6], tF 2 [2, 4, 5, 6, 7], tF 3 [2, 4, 5, 6], tF 4 [2, 4, 5, 6], tF 5 [4]]
def tl164 : List (Nat × Tidy) := [(2, ⟨[2, 4, 5, 6], true, [⟨false, 5, 0, 20005, 0⟩, ⟨false, 6, 0, 20006, 0⟩], []⟩)]
def ac164 : ACode := (.seq (.region ac164_0 [] (some ⟨[1, 2, 4], false, [], []⟩)) (.seq (.seq (.region ac164_1 [] (some ⟨[2, 4, 5, 6], false, [], []⟩)) (.block 0 (.loop (some ⟨[2, 4, 5, 6], true, [⟨false, 5, 0, 20005, 0⟩, ⟨false, 6, 0, 20006, 0⟩], []⟩) (.seq (.region ac164_2 [] (some ⟨[2, 4, 5, 6, 7], false, [], []⟩)) (.seq (.cond (.tmp 7) .skip (.exit 0)) (.seq (.block 1 (.region ac164_3 [] (some ⟨[2, 4, 5, 6], false, [], []⟩))) (.region ac164_4 [] (some ⟨[2, 4, 5, 6], false, [], []⟩)))))))) (.seq (.region ac164_5 [] (some ⟨[4], false, [], []⟩)) .ret)))
def rs164 : List AResV := [.cell 4 true 2]
def ft164 : FnT := ⟨16, tr164, tl164, ac164, rs164⟩
theorem is164 : FnIs Tryz.prog 164 16 tr164 tl164 ac164 rs164 := ⟨Tryz.f164, Tryz.func164, rfl, by kernel_rfl, by kernel_rfl, by kernel_rfl⟩
def ac165_0 : List AOper := [
 oO 2 (.alloc [(cI 0), (cI 0)])]
def ac165_1 : List AOper := [
 oO 10 (.call 160 [(kI 2251799813685248)]),
 oM 3 10]
def ac165_2 : List AOper := [
 oO 11 (.build [(cI 0), (cI 0)] [(0, 1, (kI 67108864))]),
 oM 12 3,
 oM 13 3,
 oO 14 (.build [(cI 0), (cI 0)] [(0, 1, (.tmp 12)), (1, 1, (.tmp 13))]),
 oO 4 (.alloc [(cI 0), (cI 0)]),
 oO 5 (.alloc [(cI 0), (cI 0)]),
 oD (.store 2 (.tmp 4) (.tmp 11)),
 oD (.store 2 (.tmp 5) (.tmp 14))]
def ac165_3 : List AOper := [
 oO 6 (.mv (kI 0)),
 oO 7 (.mv (kI 524288))]
def ac165_4 : List AOper := [
 oM 15 0,
 oM 16 6,
 oO 17 (.bin .neq 3 (.tmp 15) (.tmp 16)),
 oM 18 17,
 oG 19 (.mv (.tmp 0)) 18 true,
 oG 20 (.mv (.tmp 7)) 18 true,
 oG 21 (.bin .neq 3 (.tmp 19) (.tmp 20)) 18 true,
 oO 22 (.pick (.tmp 18) (.tmp 21) (.const (.bool false)))]
def ac165_5 : List AOper := [
 oM 23 6,
 oM 24 7,
 oO 25 (.bin .add 3 (.tmp 23) (.tmp 24)),
 oO 26 (.bin .quo 3 (.tmp 25) (kI 2)),
 oM 8 26]
def ac165_6 : List AOper := [
 oO 27 (.load true 2 (.tmp 4)),
 oO 28 (.load true 2 (.tmp 5)),
 oO 29 (.call 173 [(.tmp 27), (.tmp 28)]),
 oO 9 (.alloc [(cI 0), (cI 0)]),
 oD (.store 2 (.tmp 9) (.tmp 29))]
def ac165_7 : List AOper := [
 oM 30 0,
 oM 31 8,
 oO 32 (.bin .geq 3 (.tmp 30) (.tmp 31))]
def ac165_8 : List AOper := [
 oM 33 8,
 oO 34 (.load true 2 (.tmp 9)),
 oM 6 33,
 oD (.store 2 (.tmp 4) (.tmp 34))]
def ac165_9 : List AOper := [
 oM 35 8,
 oO 36 (.load true 2 (.tmp 9)),
 oM 7 35,
 oD (.store 2 (.tmp 5) (.tmp 36))]
def ac165_10 : List AOper := [
 oM 37 0,
 oM 38 6,
 oO 39 (.bin .eql 3 (.tmp 37) (.tmp 38))]
def ac165_11 : List AOper := [
 oO 40 (.load true 2 (.tmp 4)),
 oD (.store 2 (.tmp 2) (.tmp 40))]
def ac165_12 : List AOper := [
 oO 41 (.load true 2 (.tmp 5)),
 oD (.store 2 (.tmp 2) (.tmp 41))]
def tr165 : List (Nat × Tidy) := [tF 0 [0, 2], tF 1 [0, 2, 3], tF 2 [0, 2, 4, 5], tF 3 [0, 2, 4, 5, 6, 7], tF 4 [0, 2, 4, 5, 6, 7, 22], tF 5 [0, 2, 4, 5, 6, 7, 8], tF 6 [0, 2, 4, 5, 6, 7, 8, 9], tF 7 [0, 2, 4, 5, 6, 7, 8, 9, 32], tF 8 [0, 2, 4, 5, 6, 7], tF 9 [0, 2, 4, 5, 6, 7], tF 10 [2, 4, 5, 39], tF 11 [2], tF 12 [2]]
def tl165 : List (Nat × Tidy) := [(4, ⟨[0, 2, 4, 5, 6, 7], true, [⟨false, 6, 0, 20006, 0⟩, ⟨false, 7, 0, 20007, 0⟩], []⟩)]
def ac165 : ACode := (.seq (.region ac165_0 [] (some ⟨[0, 2], false, [], []⟩)) (.seq (.region ac165_1 [] (some ⟨[0, 2, 3], false, [], []⟩)) (.seq (.region ac165_2 [] (some ⟨[0, 2, 4, 5], false, [], []⟩)) (.seq (.region ac165_3 [] (some ⟨[0, 2, 4, 5, 6, 7], false, [], []⟩)) (.seq (.block 0 (.loop (some ⟨[0, 2, 4, 5, 6, 7], true, [⟨false, 6, 0, 20006, 0⟩, ⟨false, 7, 0, 20007, 0⟩], []⟩) (.seq (.seq (.region ac165_4 [] (some ⟨[0, 2, 4, 5, 6, 7, 22], false, [], []⟩)) (.cond (.tmp 22) .skip (.exit 0))) (.block 1 (.seq (.region ac165_5 [] (some ⟨[0, 2, 4, 5, 6, 7, 8], false, [], []⟩)) (.seq (.region ac165_6 [] (some ⟨[0, 2, 4, 5, 6, 7, 8, 9], false, [], []⟩)) (.seq (.region ac165_7 [] (some ⟨[0, 2, 4, 5, 6, 7, 8, 9, 32], false, [], []⟩)) (.cond (.tmp 32) (.region ac165_8 [] (some ⟨[0, 2, 4, 5, 6, 7], false, [], []⟩)) (.region ac165_9 [] (some ⟨[0, 2, 4, 5, 6, 7], false, [], []⟩)))))))))) (.seq (.seq (.region ac165_10 [] (some ⟨[2, 4, 5, 39], false, [], []⟩)) (.cond (.tmp 39) (.seq (.region ac165_11 [] (some ⟨[2], false, [], []⟩)) .ret) .skip)) (.seq (.region ac165_12 [] (some ⟨[2], false, [], []⟩)) .ret)))))))
def rs165 : List AResV := [.cell 2 true 2]
def ft165 : FnT := ⟨42, tr165, tl165, ac165, rs165⟩
theorem is165 : FnIs Tryz.prog 165 42 tr165 tl165 ac165 rs165 := ⟨Tryz.f165, Tryz.func165, rfl, by kernel_rfl, by kernel_rfl, by kernel_rfl⟩
def ac166_0 : List AOper := [
 oO 1 (.box (.tmp 0)),
 oO 2 (.mv (.const (.complex Go.FloatKind.f64 0 0)))]
def ac166_1 : List AOper := [
 oO 3 (.faddr 0 (.tmp 1)),
 oO 4 (.load false 1 (.tmp 3)),
 oO 5 (.pure (oB (.convert 3 117 (.tmp 4)) 117)),
 oO 6 (.faddr 1 (.tmp 1)),
 oO 7 (.load false 1 (.tmp 6)),
 oO 8 (.pure (oB (.convert 3 117 (.tmp 7)) 117)),
 oO 9 (.pure (oB (.call { callee := .builtin .complex, args := #[(.tmp 5), (.tmp 8)], argTypes := #[117, 117] }) 43)),
 oM 2 9]
def tr166 : List (Nat × Tidy) := [tF 0 [1], tF 1 [2]]
def tl166 : List (Nat × Tidy) := []
def ac166 : ACode := (.seq (.region ac166_0 [] (some ⟨[1], false, [], []⟩)) (.seq (.region ac166_1 [] (some ⟨[2], false, [], []⟩)) .ret))
def rs166 : List AResV := [.tmp 2]
def ft166 : FnT := ⟨10, tr166, tl166, ac166, rs166⟩
theorem is166 : FnIs Tryz.prog 166 10 tr166 tl166 ac166 rs166 := ⟨Tryz.f166, Tryz.func166, rfl, by kernel_rfl, by kernel_rfl, by kernel_rfl⟩
def ac168_0 : List AOper := [
 oO 2 (.mv (kI 0)),
 oO 3 (.mv (.const (.bool false)))]
def ac168_1 : List AOper := [
 oM 5 0,
 oO 6 (.pure (oB (.convert 125 117 (.tmp 5)) 117)),
 oM 4 6]
def ac168_2 : List AOper := [
 oM 7 4,
 oO 8 (.call 174 [(.tmp 7)]),
 oM 9 8,
 oG 10 (.mv (.tmp 4)) 9 false,
 oG 11 (.call 151 [(.tmp 10), (kI 0)]) 9 false,
 oO 12 (.pick (.tmp 9) (.const (.bool true)) (.tmp 11)),
 oM 13 12,
 oG 14 (.mv (.tmp 4)) 13 false,
 oG 15 (.call 150 [(.tmp 14)]) 13 false,
 oG 16 (.mv (.tmp 4)) 13 false,
 oG 17 (.bin .neq 117 (.tmp 15) (.tmp 16)) 13 false,
 oO 18 (.pick (.tmp 13) (.const (.bool true)) (.tmp 17))]
def ac168_3 : List AOper := [
 oO 2 (.mv (kI 0)),
 oO 3 (.mv (.const (.bool false)))]
def ac168_4 : List AOper := [
 oM 19 4,
 oO 20 (.pure (oB (.call { callee := .builtin .min, args := #[(.const (.float Go.FloatKind.f64 4741671816366391296)), (.tmp 19)], argTypes := #[117, 117] }) 117)),
 oO 21 (.pure (oB (.call { callee := .builtin .max, args := #[(.const (.float Go.FloatKind.f64 13965043853221167104)), (.tmp 20)], argTypes := #[117, 117] }) 117)),
 oO 22 (.pure (oB (.convert 117 3 (.tmp 21)) 3)),
 oM 2 22,
 oO 3 (.mv (.const (.bool true)))]
def tr168 : List (Nat × Tidy) := [tF 0 [0], tF 1 [4], tF 2 [4, 18], tF 3 [2, 3], tF 4 [2, 3]]
def tl168 : List (Nat × Tidy) := []
def ac168 : ACode := (.seq (.region ac168_0 [] (some ⟨[0], false, [], []⟩)) (.seq (.region ac168_1 [] (some ⟨[4], false, [], []⟩)) (.seq (.seq (.region ac168_2 [] (some ⟨[4, 18], false, [], []⟩)) (.cond (.tmp 18) (.seq (.region ac168_3 [] (some ⟨[2, 3], false, [], []⟩)) .ret) .skip)) (.seq (.region ac168_4 [] (some ⟨[2, 3], false, [], []⟩)) .ret))))
def rs168 : List AResV := [.tmp 2, .tmp 3]
def ft168 : FnT := ⟨23, tr168, tl168, ac168, rs168⟩
theorem is168 : FnIs Tryz.prog 168 23 tr168 tl168 ac168 rs168 := ⟨Tryz.f168, Tryz.func168, rfl, by kernel_rfl, by kernel_rfl, by kernel_rfl⟩
def ac169_0 : List AOper := [
 oO 2 (.mv (.const (.bool false)))]
def ac169_1 : List AOper := [
 oM 3 0,
 oO 4 (.call 51 [(.tmp 3), (kI 0), (kI 80000)]),
 oM 2 4]
def tr169 : List (Nat × Tidy) := [tF 0 [0], tF 1 [2]]
def tl169 : List (Nat × Tidy) := []
def ac169 : ACode := (.seq (.region ac169_0 [] (some ⟨[0], false, [], []⟩)) (.seq (.region ac169_1 [] (some ⟨[2], false, [], []⟩)) .ret))
def rs169 : List AResV := [.tmp 2]
def ft169 : FnT := ⟨5, tr169, tl169, ac169, rs169⟩
theorem is169 : FnIs Tryz.prog 169 5 tr169 tl169 ac169 rs169 := ⟨Tryz.f169, Tryz.func169, rfl, by kernel_rfl, by kernel_rfl, by kernel_rfl⟩
def ac170_0 : List AOper := [
 oO 2 (.mv (.const (.float Go.FloatKind.f64 0)))]
def ac170_1 : List AOper := [
 oM 3 0,
 oO 4 (.pure (oB (.call { callee := .value (.func 175), args := #[(.tmp 3)], argTypes := #[117] }) 117)),
 oM 2 4]
def tr170 : List (Nat × Tidy) := [tF 0 [0], tF 1 [2]]
def tl170 : List (Nat × Tidy) := []
def ac170 : ACode := (.seq (.region ac170_0 [] (some ⟨[0], false, [], []⟩)) (.seq (.region ac170_1 [] (some ⟨[2], false, [], []⟩)) .ret))
def rs170 : List AResV := [.tmp 2]
def ft170 : FnT := ⟨5, tr170, tl170, ac170, rs170⟩
theorem is170 : FnIs Tryz.prog 170 5 tr170 tl170 ac170 rs170 := ⟨Tryz.f170, Tryz.func170, rfl, by kernel_rfl, by kernel_rfl, by kernel_rfl⟩
def ac172_0 : List AOper := [
 oO 4 (.mv (.const (.float Go.FloatKind.f64 0)))]
def ac172_1 : List AOper := [
 oM 5 0,
 oO 6 (.pure (oB (.call { callee := .value (.func 110), args := #[(.tmp 5)], argTypes := #[117] }) 164)),
 oO 7 (.bin .andNot 164 (.tmp 6) (.const (.int .u64 9223372036854775808))),
 oM 8 1,
 oO 9 (.pure (oB (.call { callee := .value (.func 110), args := #[(.tmp 8)], argTypes := #[117] }) 164)),
 oO 10 (.bin .and 164 (.tmp 9) (.const (.int .u64 9223372036854775808))),
 oO 11 (.bin .or 164 (.tmp 7) (.tmp 10)),
 oO 12 (.pure (oB (.call { callee := .value (.func 152), args := #[(.tmp 11)], argTypes := #[164] }) 117)),
 oM 4 12]
def tr172 : List (Nat × Tidy) := [tF 0 [0, 1], tF 1 [4]]
def tl172 : List (Nat × Tidy) := []
def ac172 : ACode := (.seq (.region ac172_0 [] (some ⟨[0, 1], false, [], []⟩)) (.seq (.region ac172_1 [] (some ⟨[4], false, [], []⟩)) .ret))
def rs172 : List AResV := [.tmp 4]
def ft172 : FnT := ⟨13, tr172, tl172, ac172, rs172⟩
theorem is172 : FnIs Tryz.prog 172 13 tr172 tl172 ac172 rs172 := ⟨Tryz.f172, Tryz.func172, rfl, by kernel_rfl, by kernel_rfl, by kernel_rfl⟩
def ac173_0 : List AOper := [
 oO 2 (.box (.tmp 0)),
 oO 3 (.box (.tmp 1)),
 oO 4 (.alloc [(cI 0), (cI 0)])]
def ac173_1 : List AOper := [
 oO 7 (.load true 2 (.tmp 2)),
 oO 8 (.load true 2 (.tmp 3)),
 oO 9 (.call 155 [(.tmp 7), (.tmp 8)]),
 oO 5 (.alloc [(cI 0), (cI 0)]),
 oD (.store 2 (.tmp 5) (.tmp 9))]
def ac173_2 : List AOper := [
 oO 10 (.load true 2 (.tmp 5)),
 oO 11 (.call 131 [(.tmp 10)]),
 oO 12 (.call 160 [(.tmp 11)]),
 oM 6 12]
def ac173_3 : List AOper := [
 oO 13 (.faddr 0 (.tmp 5)),
 oO 14 (.load false 1 (.tmp 13)),
 oO 15 (.bin .mul 3 (.tmp 14) (kI 67108864)),
 oM 16 6,
 oO 17 (.bin .quo 3 (.tmp 15) (.tmp 16)),
 oO 18 (.faddr 1 (.tmp 5)),
 oO 19 (.load false 1 (.tmp 18)),
 oO 20 (.bin .mul 3 (.tmp 19) (kI 67108864)),
 oM 21 6,
 oO 22 (.bin .quo 3 (.tmp 20) (.tmp 21)),
 oO 23 (.build [(cI 0), (cI 0)] [(0, 1, (.tmp 17)), (1, 1, (.tmp 22))]),
 oD (.store 2 (.tmp 4) (.tmp 23))]
def tr173 : List (Nat × Tidy) := [tF 0 [2, 3, 4], tF 1 [4, 5], tF 2 [4, 5, 6], tF 3 [4]]
def tl173 : List (Nat × Tidy) := []
def ac173 : ACode := (.seq (.region ac173_0 [] (some ⟨[2, 3, 4], false, [], []⟩)) (.seq (.region ac173_1 [] (some ⟨[4, 5], false, [], []⟩)) (.seq (.region ac173_2 [] (some ⟨[4, 5, 6], false, [], []⟩)) (.seq (.region ac173_3 [] (some ⟨[4], false, [], []⟩)) .ret))))
def rs173 : List AResV := [.cell 4 true 2]
def ft173 : FnT := ⟨24, tr173, tl173, ac173, rs173⟩
theorem is173 : FnIs Tryz.prog 173 24 tr173 tl173 ac173 rs173 := ⟨Tryz.f173, Tryz.func173, rfl, by kernel_rfl, by kernel_rfl, by kernel_rfl⟩
def ac174_0 : List AOper := [
 oO 2 (.mv (.const (.bool false)))]
def ac174_1 : List AOper := [
 oM 3 0,
 oM 4 0,
 oO 5 (.bin .neq 117 (.tmp 3) (.tmp 4)),
 oM 2 5]
def tr174 : List (Nat × Tidy) := [tF 0 [0], tF 1 [2]]
def tl174 : List (Nat × Tidy) := []
def ac174 : ACode := (.seq (.region ac174_0 [] (some ⟨[0], false, [], []⟩)) (.seq (.region ac174_1 [] (some ⟨[2], false, [], []⟩)) .ret))
def rs174 : List AResV := [.tmp 2]
def ft174 : FnT := ⟨6, tr174, tl174, ac174, rs174⟩
theorem is174 : FnIs Tryz.prog 174 6 tr174 tl174 ac174 rs174 := ⟨Tryz.f174, Tryz.func174, rfl, by kernel_rfl, by kernel_rfl, by kernel_rfl⟩
def ac193_0 : List AOper := [
 oO 2 (.box (.tmp 0)),
 oO 4 (.alloc [(cI 0), (cI 0), (cI 0), (cI 0)])]
def ac193_1 : List AOper := [
 oO 11 (.load true 7 (.tmp 2)),
 oM 12 1,
 oO 13 (.call 197 [(.tmp 11), (.tmp 12)]),
 oM 5 13]
def ac193_2 : List AOper := [
 oO 14 (.load true 7 (.tmp 2)),
 oM 15 5,
 oO 16 (.call 198 [(.tmp 14), (.tmp 15)]),
 oO 6 (.alloc [(cI 0), (cI 0)]),
 oD (.store 2 (.tmp 6) (.tmp 16))]
def ac193_3 : List AOper := [
 oO 17 (.faddr 0 (.tmp 2)),
 oO 18 (.faddr 2 (.tmp 17)),
 oO 19 (.load false 1 (.tmp 18)),
 oO 20 (.len (.tmp 19)),
 oO 21 (.bin .eql 3 (.tmp 20) (kI 1))]
def ac193_4 : List AOper := [
 oO 22 (.iaddr 1 (some 2) (.tmp 6) (kI 0)),
 oO 23 (.load false 1 (.tmp 22)),
 oO 24 (.build [(cI 0), (cI 0)] [(0, 1, (.tmp 23)), (1, 1, (kI 1))]),
 oO 25 (.iaddr 1 (some 2) (.tmp 6) (kI 1)),
 oO 26 (.load false 1 (.tmp 25)),
 oO 27 (.build [(cI 0), (cI 0)] [(0, 1, (.tmp 26)), (1, 1, (kI 1))]),
 oO 28 (.build [(cI 0), (cI 0), (cI 0), (cI 0)] [(0, 2, (.tmp 24)), (2, 2, (.tmp 27))]),
 oD (.store 4 (.tmp 4) (.tmp 28))]
def ac193_5 : List AOper := [
 oO 29 (.load true 7 (.tmp 2)),
 oM 30 5,
 oO 31 (.bin .add 3 (.tmp 30) (kI 1)),
 oO 32 (.call 198 [(.tmp 29), (.tmp 31)]),
 oO 33 (.faddr 0 (.tmp 2)),
 oO 34 (.faddr 2 (.tmp 33)),
 oO 35 (.load false 1 (.tmp 34)),
 oM 36 5,
 oO 37 (.bin .add 3 (.tmp 36) (kI 1)),
 oO 38 (.iaddr 1 none (.tmp 35) (.tmp 37)),
 oO 39 (.load false 1 (.tmp 38)),
 oO 40 (.faddr 0 (.tmp 2)),
 oO 41 (.faddr 2 (.tmp 40)),
 oO 42 (.load false 1 (.tmp 41)),
 oM 43 5,
 oO 44 (.iaddr 1 none (.tmp 42) (.tmp 43)),
 oO 45 (.load false 1 (.tmp 44)),
 oO 46 (.bin .sub 3 (.tmp 39) (.tmp 45)),
 oO 7 (.alloc [(cI 0), (cI 0)]),
 oD (.store 2 (.tmp 7) (.tmp 32)),
 oM 8 46]
def ac193_6 : List AOper := [
 oO 9 (.alloc [(cI 0), (cI 0), (cI 0), (cI 0)])]
def ac193_7 : List AOper := [
 oO 47 (.mv (kI 0))]
def ac193_8 : List AOper := [
 oO 48 (.bin .lss 3 (.tmp 47) (kI 2))]
def ac193_9 : List AOper := [
 oM 49 47,
 oM 10 49]
def ac193_10 : List AOper := [
 oM 50 10,
 oM 51 10,
 oO 52 (.iaddr 1 (some 2) (.tmp 6) (.tmp 51)),
 oO 53 (.load false 1 (.tmp 52)),
 oM 54 8,
 oO 55 (.bin .mul 3 (.tmp 53) (.tmp 54)),
 oM 56 10,
 oO 57 (.iaddr 1 (some 2) (.tmp 7) (.tmp 56)),
 oO 58 (.load false 1 (.tmp 57)),
 oM 59 10,
 oO 60 (.iaddr 1 (some 2) (.tmp 6) (.tmp 59)),
 oO 61 (.load false 1 (.tmp 60)),
 oO 62 (.bin .sub 3 (.tmp 58) (.tmp 61)),
 oM 63 1,
 oO 64 (.faddr 0 (.tmp 2)),
 oO 65 (.faddr 2 (.tmp 64)),
 oO 66 (.load false 1 (.tmp 65)),
 oM 67 5,
 oO 68 (.iaddr 1 none (.tmp 66) (.tmp 67)),
 oO 69 (.load false 1 (.tmp 68)),
 oO 70 (.bin .sub 3 (.tmp 63) (.tmp 69)),
 oO 71 (.bin .mul 3 (.tmp 62) (.tmp 70)),
 oO 72 (.bin .add 3 (.tmp 55) (.tmp 71)),
 oM 73 8,
 oO 74 (.build [(cI 0), (cI 0)] [(0, 1, (.tmp 72)), (1, 1, (.tmp 73))]),
 oO 75 (.iaddr 2 (some 2) (.tmp 9) (.tmp 50)),
 oD (.store 2 (.tmp 75) (.tmp 74))]
def ac193_11 : List AOper := [
 oO 76 (.bin .add 3 (.tmp 47) (kI 1)),
 oM 47 76]
def ac193_12 : List AOper := [
 oO 77 (.load true 4 (.tmp 9)),
 oD (.store 4 (.tmp 4) (.tmp 77))]
def tr193 : List (Nat × Tidy) := [tF 0 [1, 2, 4], tF 1 [1, 2, 4, 5], tF 2 [1, 2, 4, 5, 6], tF 3 [1, 2, 4, 5, 6, 21], tF 4 [4], tF 5 [1, 2, 4, 5, 6, 7, 8], tF 6 [1, 2, 4, 5, 6, 7, 8, 9], tF 7 [1, 2, 4, 5, 6, 7, 8, 9, 47], tF 8 [1, 2, 4, 5, 6, 7, 8, 9, 47, 48], tF 9 [1, 2, 4, 5, 6, 7, 8, 9, 10, 47], tF 10 [1, 2, 4, 5, 6, 7, 8, 9, 47], tF 11 [1, 2, 4, 5, 6, 7, 8, 9, 47], tF 12 [4]]
def tl193 : List (Nat × Tidy) := [(8, ⟨[1, 2, 4, 5, 6, 7, 8, 9, 47], true, [⟨false, 5, 0, 20005, 0⟩, ⟨false, 8, 0, 20008, 0⟩, ⟨false, 47, 0, 20047, 0⟩], []⟩)]
def ac193 : ACode := (.seq (.region ac193_0 [] (some ⟨[1, 2, 4], false, [], []⟩)) (.seq (.region ac193_1 [] (some ⟨[1, 2, 4, 5], false, [], []⟩)) (.seq (.region ac193_2 [] (some ⟨[1, 2, 4, 5, 6], false, [], []⟩)) (.seq (.seq (.region ac193_3 [] (some ⟨[1, 2, 4, 5, 6, 21], false, [], []⟩)) (.cond (.tmp 21) (.seq (.region ac193_4 [] (some ⟨[4], false, [], []⟩)) .ret) .skip)) (.seq (.region ac193_5 [(3, 6), (3, 9), (3, 10), (3, 13), (3, 15), (3, 16), (0, 18), (3, 18), (6, 18), (9, 18), (10, 18), (13, 18), (15, 18), (16, 18), (6, 19), (9, 19), (10, 19), (13, 19), (15, 19), (16, 19)] (some ⟨[1, 2, 4, 5, 6, 7, 8], false, [], []⟩)) (.seq (.region ac193_6 [] (some ⟨[1, 2, 4, 5, 6, 7, 8, 9], false, [], []⟩)) (.seq (.seq (.region ac193_7 [] (some ⟨[1, 2, 4, 5, 6, 7, 8, 9, 47], false, [], []⟩)) (.block 0 (.loop (some ⟨[1, 2, 4, 5, 6, 7, 8, 9, 47], true, [⟨false, 5, 0, 20005, 0⟩, ⟨false, 8, 0, 20008, 0⟩, ⟨false, 47, 0, 20047, 0⟩], []⟩) (.seq (.region ac193_8 [] (some ⟨[1, 2, 4, 5, 6, 7, 8, 9, 47, 48], false, [], []⟩)) (.seq (.cond (.tmp 48) .skip (.exit 0)) (.seq (.block 1 (.seq (.region ac193_9 [] (some ⟨[1, 2, 4, 5, 6, 7, 8, 9, 10, 47], false, [], []⟩)) (.region ac193_10 [] (some ⟨[1, 2, 4, 5, 6, 7, 8, 9, 47], false, [], []⟩)))) (.region ac193_11 [] (some ⟨[1, 2, 4, 5, 6, 7, 8, 9, 47], false, [], []⟩)))))))) (.seq (.region ac193_12 [] (some ⟨[4], false, [], []⟩)) .ret))))))))
def rs193 : List AResV := [.cell 4 true 4]
def ft193 : FnT := ⟨78, tr193, tl193, ac193, rs193⟩
theorem is193 : FnIs Tryz.prog 193 78 tr193 tl193 ac193 rs193 := ⟨Tryz.f193, Tryz.func193, rfl, by kernel_rfl, by kernel_rfl, by kernel_rfl⟩
def ac195_0 : List AOper := [
 oO 2 (.box (.tmp 0)),
 oO 4 (.mv (.const (.bool false)))]
def ac195_1 : List AOper := [
 oM 5 1,
 oO 6 (.faddr 0 (.tmp 2)),
 oO 7 (.faddr 2 (.tmp 6)),
 oO 8 (.load false 1 (.tmp 7)),
 oO 9 (.iaddr 1 none (.tmp 8) (kI 0)),
 oO 10 (.load false 1 (.tmp 9)),
 oO 11 (.faddr 0 (.tmp 2)),
 oO 12 (.faddr 2 (.tmp 11)),
 oO 13 (.load false 1 (.tmp 12)),
 oO 14 (.faddr 0 (.tmp 2)),
 oO 15 (.faddr 2 (.tmp 14)),
 oO 16 (.load false 1 (.tmp 15)),
 oO 17 (.len (.tmp 16)),
 oO 18 (.bin .sub 3 (.tmp 17) (kI 1)),
 oO 19 (.iaddr 1 none (.tmp 13) (.tmp 18)),
 oO 20 (.load false 1 (.tmp 19)),
 oO 21 (.call 51 [(.tmp 5), (.tmp 10), (.tmp 20)]),
 oM 4 21]
def tr195 : List (Nat × Tidy) := [tF 0 [1, 2], tF 1 [4]]
def tl195 : List (Nat × Tidy) := []
def ac195 : ACode := (.seq (.region ac195_0 [] (some ⟨[1, 2], false, [], []⟩)) (.seq (.region ac195_1 [] (some ⟨[4], false, [], []⟩)) .ret))
def rs195 : List AResV := [.tmp 4]
def ft195 : FnT := ⟨22, tr195, tl195, ac195, rs195⟩
theorem is195 : FnIs Tryz.prog 195 22 tr195 tl195 ac195 rs195 := ⟨Tryz.f195, Tryz.func195, rfl, by kernel_rfl, by kernel_rfl, by kernel_rfl⟩
def ac196_0 : List AOper := [
 oO 2 (.box (.tmp 0)),
 oO 4 (.alloc [(cI 0), (cI 0)]),
 oO 5 (.mv (.const (.bool false)))]
def ac196_1 : List AOper := [
 oO 10 (.faddr 0 (.tmp 2)),
 oO 11 (.faddr 2 (.tmp 10)),
 oO 12 (.load false 1 (.tmp 11)),
 oO 13 (.len (.tmp 12)),
 oO 14 (.bin .eql 3 (.tmp 13) (kI 1))]
def ac196_2 : List AOper := [
 oO 15 (.build [(cI 0), (cI 0)] []),
 oD (.store 2 (.tmp 4) (.tmp 15)),
 oO 5 (.mv (.const (.bool false)))]
def ac196_3 : List AOper := [
 oO 16 (.load true 7 (.tmp 2)),
 oM 17 1,
 oO 18 (.call 197 [(.tmp 16), (.tmp 17)]),
 oM 6 18]
def ac196_4 : List AOper := [
 oO 19 (.load true 7 (.tmp 2)),
 oM 20 6,
 oO 21 (.call 198 [(.tmp 19), (.tmp 20)]),
 oO 22 (.index false 2 1 (.tmp 21) (kI 0)),
 oO 23 (.load true 7 (.tmp 2)),
 oM 24 6,
 oO 25 (.bin .add 3 (.tmp 24) (kI 1)),
 oO 26 (.call 198 [(.tmp 23), (.tmp 25)]),
 oO 27 (.index false 2 1 (.tmp 26) (kI 0)),
 oO 28 (.faddr 0 (.tmp 2)),
 oO 29 (.faddr 2 (.tmp 28)),
 oO 30 (.load false 1 (.tmp 29)),
 oM 31 6,
 oO 32 (.bin .add 3 (.tmp 31) (kI 1)),
 oO 33 (.iaddr 1 none (.tmp 30) (.tmp 32)),
 oO 34 (.load false 1 (.tmp 33)),
 oO 35 (.faddr 0 (.tmp 2)),
 oO 36 (.faddr 2 (.tmp 35)),
 oO 37 (.load false 1 (.tmp 36)),
 oM 38 6,
 oO 39 (.iaddr 1 none (.tmp 37) (.tmp 38)),
 oO 40 (.load false 1 (.tmp 39)),
 oO 41 (.bin .sub 3 (.tmp 34) (.tmp 40)),
 oM 7 22,
 oM 8 27,
 oM 9 41]
def ac196_5 : List AOper := [
 oM 42 7,
 oM 43 9,
 oO 44 (.bin .mul 3 (.tmp 42) (.tmp 43)),
 oM 45 8,
 oM 46 7,
 oO 47 (.bin .sub 3 (.tmp 45) (.tmp 46)),
 oO 48 (.faddr 0 (.tmp 2)),
 oO 49 (.faddr 2 (.tmp 48)),
 oO 50 (.load false 1 (.tmp 49)),
 oM 51 6,
 oO 52 (.iaddr 1 none (.tmp 50) (.tmp 51)),
 oO 53 (.load false 1 (.tmp 52)),
 oO 54 (.bin .mul 3 (.tmp 47) (.tmp 53)),
 oO 55 (.bin .sub 3 (.tmp 44) (.tmp 54)),
 oM 56 9,
 oO 57 (.build [(cI 0), (cI 0)] [(0, 1, (.tmp 55)), (1, 1, (.tmp 56))]),
 oD (.store 2 (.tmp 4) (.tmp 57)),
 oO 5 (.mv (.const (.bool true)))]
def tr196 : List (Nat × Tidy) := [tF 0 [1, 2, 4], tF 1 [1, 2, 4, 14], tF 2 [4, 5], tF 3 [2, 4, 6], tF 4 [2, 4, 6, 7, 8, 9], tF 5 [4, 5]]
def tl196 : List (Nat × Tidy) := []
def ac196 : ACode := (.seq (.region ac196_0 [] (some ⟨[1, 2, 4], false, [], []⟩)) (.seq (.seq (.region ac196_1 [] (some ⟨[1, 2, 4, 14], false, [], []⟩)) (.cond (.tmp 14) (.seq (.region ac196_2 [] (some ⟨[4, 5], false, [], []⟩)) .ret) .skip)) (.seq (.region ac196_3 [] (some ⟨[2, 4, 6], false, [], []⟩)) (.seq (.region ac196_4 [(2, 4), (2, 11), (7, 11), (2, 14), (7, 14), (2, 15), (7, 15), (2, 18), (7, 18), (2, 20), (7, 20), (2, 21), (7, 21)] (some ⟨[2, 4, 6, 7, 8, 9], false, [], []⟩)) (.seq (.region ac196_5 [] (some ⟨[4, 5], false, [], []⟩)) .ret)))))
def rs196 : List AResV := [.cell 4 true 2, .tmp 5]
def ft196 : FnT := ⟨58, tr196, tl196, ac196, rs196⟩
theorem is196 : FnIs Tryz.prog 196 58 tr196 tl196 ac196 rs196 := ⟨Tryz.f196, Tryz.func196, rfl, by kernel_rfl, by kernel_rfl, by kernel_rfl⟩
def ac197_0 : List AOper := [
 oO 2 (.box (.tmp 0)),
 oO 4 (.mv (kI 0))]
def ac197_1 : List AOper := [
 oO 5 (.mv (kI 0))]
def ac197_2 : List AOper := [
 oM 6 5,
 oO 7 (.bin .add 3 (.tmp 6) (kI 2)),
 oO 8 (.faddr 0 (.tmp 2)),
 oO 9 (.faddr 2 (.tmp 8)),
 oO 10 (.load false 1 (.tmp 9)),
 oO 11 (.len (.tmp 10)),
 oO 12 (.bin .lss 3 (.tmp 7) (.tmp 11)),
 oM 13 12,
 oG 14 (.faddr 0 (.tmp 2)) 13 true,
 oG 15 (.faddr 2 (.tmp 14)) 13 true,
 oG 16 (.load false 1 (.tmp 15)) 13 true,
 oG 17 (.mv (.tmp 5)) 13 true,
 oG 18 (.bin .add 3 (.tmp 17) (kI 1)) 13 true,
 oG 19 (.iaddr 1 none (.tmp 16) (.tmp 18)) 13 true,
 oG 20 (.load false 1 (.tmp 19)) 13 true,
 oG 21 (.mv (.tmp 1)) 13 true,
 oG 22 (.bin .leq 3 (.tmp 20) (.tmp 21)) 13 true,
 oO 23 (.pick (.tmp 13) (.tmp 22) (.const (.bool false)))]
def ac197_3 : List AOper := [
 oM 24 5,
 oO 25 (.bin .add 3 (.tmp 24) (kI 1)),
 oM 5 25]
def ac197_4 : List AOper := [
 oM 26 5,
 oM 4 26]
def tr197 : List (Nat × Tidy) := [tF 0 [1, 2], tF 1 [1, 2, 5], tF 2 [1, 2, 5, 23], tF 3 [1, 2, 5], tF 4 [4]]
def tl197 : List (Nat × Tidy) := [(2, ⟨[1, 2, 5], true, [⟨false, 5, 0, 20005, 0⟩], []⟩)]
def ac197 : ACode := (.seq (.region ac197_0 [] (some ⟨[1, 2], false, [], []⟩)) (.seq (.region ac197_1 [] (some ⟨[1, 2, 5], false, [], []⟩)) (.seq (.block 0 (.loop (some ⟨[1, 2, 5], true, [⟨false, 5, 0, 20005, 0⟩], []⟩) (.seq (.seq (.region ac197_2 [] (some ⟨[1, 2, 5, 23], false, [], []⟩)) (.cond (.tmp 23) .skip (.exit 0))) (.block 1 (.region ac197_3 [] (some ⟨[1, 2, 5], false, [], []⟩)))))) (.seq (.region ac197_4 [] (some ⟨[4], false, [], []⟩)) .ret))))
def rs197 : List AResV := [.tmp 4]
def ft197 : FnT := ⟨27, tr197, tl197, ac197, rs197⟩
theorem is197 : FnIs Tryz.prog 197 27 tr197 tl197 ac197 rs197 := ⟨Tryz.f197, Tryz.func197, rfl, by kernel_rfl, by kernel_rfl, by kernel_rfl⟩
def ac198_0 : List AOper := [
 oO 2 (.box (.tmp 0)),
 oO 4 (.alloc [(cI 0), (cI 0)])]
def ac198_1 : List AOper := [
 oO 5 (.faddr 0 (.tmp 2)),
 oO 6 (.faddr 3 (.tmp 5)),
 oO 7 (.load false 1 (.tmp 6)),
 oM 8 1,
 oO 9 (.iaddr 1 none (.tmp 7) (.tmp 8)),
 oO 10 (.load false 1 (.tmp 9)),
 oO 11 (.pure (oB (.convert 125 3 (.tmp 10)) 3)),
 oO 12 (.faddr 0 (.tmp 2)),
 oO 13 (.faddr 4 (.tmp 12)),
 oO 14 (.load false 1 (.tmp 13)),
 oM 15 1,
 oO 16 (.iaddr 1 none (.tmp 14) (.tmp 15)),
 oO 17 (.load false 1 (.tmp 16)),
 oO 18 (.pure (oB (.convert 125 3 (.tmp 17)) 3)),
 oO 19 (.build [(cI 0), (cI 0)] [(0, 1, (.tmp 11)), (1, 1, (.tmp 18))]),
 oD (.store 2 (.tmp 4) (.tmp 19))]
def tr198 : List (Nat × Tidy) := [tF 0 [1, 2, 4], tF 1 [4]]
def tl198 : List (Nat × Tidy) := []
def ac198 : ACode := (.seq (.region ac198_0 [] (some ⟨[1, 2, 4], false, [], []⟩)) (.seq (.region ac198_1 [] (some ⟨[4], false, [], []⟩)) .ret))
def rs198 : List AResV := [.cell 4 true 2]
def ft198 : FnT := ⟨20, tr198, tl198, ac198, rs198⟩
theorem is198 : FnIs Tryz.prog 198 20 tr198 tl198 ac198 rs198 := ⟨Tryz.f198, Tryz.func198, rfl, by kernel_rfl, by kernel_rfl, by kernel_rfl⟩
def tblM : List (Nat × FnT) := [(9, ft9), (11, ft11), (15, ft15), (17, ft17), (20, ft20), (23, ft23), (45, ft45), (47, ft47), (48, ft48), (49, ft49), (50, ft50), (51, ft51), (52, ft52), (53, ft53), (54, ft54), (55, ft55), (62, ft62), (63, ft63), (65, ft65), (71, ft71), (79, ft79), (80, ft80), (94, ft94), (95, ft95), (99, ft99), (100, ft100), (101, ft101), (102, ft102), (103, ft103), (104, ft104), (105, ft105), (108, ft108), (109, ft109), (113, ft113), (114, ft114), (117, ft117), (118, ft118), (127, ft127), (128, ft128), (129, ft129), (130, ft130), (131, ft131), (132, ft132), (133, ft133), (134, ft134), (135, ft135), (136, ft136), (137, ft137), (138, ft138), (139, ft139), (141, ft141), (142, ft142), (143, ft143), (144, ft144), (145, ft145), (150, ft150), (151, ft151), (153, ft153), (154, ft154), (155, ft155), (156, ft156), (157, ft157), (159, ft159), (160, ft160), (163, ft163), (164, ft164), (165, ft165), (166, ft166), (168, ft168), (169, ft169), (170, ft170), (172, ft172), (173, ft173), (174, ft174), (193, ft193), (195, ft195), (196, ft196), (197, ft197), (198, ft198)]
theorem tblMOk : TblOk Tryz.prog tblM := ⟨is9, is11, is15, is17, is20, is23, is45, is47, is48, is49, is50, is51, is52, is53, is54, is55, is62, is63, is65, is71, is79, is80, is94, is95, is99, is100, is101, is102, is103, is104, is105, is108, is109, is113, is114, is117, is118, is127, is128, is129, is130, is131, is132, is133, is134, is135, is136, is137, is138, is139, is141, is142, is143, is144, is145, is150, is151, is153, is154, is155, is156, is157, is159, is160, is163, is164, is165, is166, is168, is169, is170, is172, is173, is174, is193, is195, is196, is197, is198, trivial⟩
end Go.AM
