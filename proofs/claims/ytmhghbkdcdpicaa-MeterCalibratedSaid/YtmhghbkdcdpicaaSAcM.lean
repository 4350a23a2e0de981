/- The code of the functions that the first examples of chapter 6 run. -/
import Derived.Test.YtmhghbkdcdpicaaAMb
import Derived.Test.YtmhghbkdcdpicaaProg
namespace Go.AM
open Go.Proofs
set_option maxRecDepth 100000
set_option linter.unusedVariables false
def ac5_0 : List AOper := [
 oO 0 (.mv (.const (.bool false)))]
def ac5_1 : List AOper := [
 oO 10 (.call 16 []),
 oO 11 (.call 15 [(.tmp 10)]),
 oO 12 (.call 14 [(.tmp 11)]),
 oM 9 12,
 oO 13 (.extract 0 (.tmp 9)),
 oO 14 (.extract 1 (.tmp 9)),
 oO 1 (.alloc [(.d (.v (.int .i64 0))), (.d (.v (.int .i64 0))), (.d (.v (.int .i64 0))), (.d (.v (.int .i64 0))), (.d (.v (.int .i64 0))), (.d (.v (.int .i64 0)))]),
 oD (.store 6 (.tmp 1) (.tmp 13)),
 oM 2 14]
def ac5_2 : List AOper := [
 oO 16 (.call 16 []),
 oO 17 (.call 15 [(.tmp 16)]),
 oO 18 (.call 17 [(.tmp 17)]),
 oM 15 18,
 oO 19 (.extract 0 (.tmp 15)),
 oO 20 (.extract 1 (.tmp 15)),
 oO 3 (.alloc [(.d (.v (.complex Go.FloatKind.f64 0 0))), (.d (.v (.complex Go.FloatKind.f64 0 0))), (.d (.v (.complex Go.FloatKind.f64 0 0))), (.d (.v (.complex Go.FloatKind.f64 0 0)))]),
 oD (.store 4 (.tmp 3) (.tmp 19)),
 oM 4 20]
def ac5_3 : List AOper := [
 oO 22 (.build [(.d (.v (.int .i64 0))), (.d (.v (.int .i64 0)))] [(0, 1, (kI 10000)), (1, 1, (kI 7071))]),
 oO 23 (.call 19 []),
 oO 24 (.call 19 []),
 oO 25 (.build [(.d (.v (.int .i64 0))), (.d (.v (.int .i64 0))), (.d (.v (.int .i64 0)))] [(1, 1, (kI 1)), (2, 1, (kI 1))]),
 ⟨(some 26), (.build [(.d (.v (.string ⟨#[]⟩))), (.d (.v (.int .i64 0))), (.d (.v (.int .i64 0))), (.d (.v (.int .i64 0))), (.d (.v (.int .i64 0))), (.d (.v (.int .i64 0))), (.d (.v (.int .i64 0))), (.d (.v (.int .i64 0))), (.d (.v (.int .i64 0))), (.d (.v (.int .i64 0))), (.d (.v (.int .i64 0))), (.d (.v (.int .i64 0))), (.d (.v (.int .i64 0))), (.d (.v (.int .i64 0))), (.d (.v (.int .i64 0))), (.d (.v (.int .i64 0))), (.d (.v (.int .i64 0))), (.d (.v (.int .i64 0))), (.d (.v (.int .i64 0)))] [(0, 1, (.const (.string ⟨#[112]⟩))), (1, 1, (kI 6328)), (2, 2, (.tmp 22)), (4, 6, (.tmp 23)), (10, 6, (.tmp 24)), (16, 3, (.tmp 25))]), none⟩,
 oO 27 (.call 18 [(.tmp 26)]),
 oM 21 27,
 oO 28 (.extract 0 (.tmp 21)),
 oO 29 (.extract 1 (.tmp 21)),
 ⟨(some 5), (.alloc [(.d (.v (.string ⟨#[]⟩))), (.d (.v (.int .i64 0))), (.d (.v (.int .i64 0))), (.d (.v (.int .i64 0))), (.d (.v (.int .i64 0))), (.d (.v (.int .i64 0))), (.d (.v (.int .i64 0))), (.d (.v (.int .i64 0))), (.d (.v (.int .i64 0))), (.d (.v (.int .i64 0)))]), none⟩,
 oD (.store 10 (.tmp 5) (.tmp 28)),
 oM 6 29]
def ac5_4 : List AOper := [
 oO 31 (.build [(.d (.v (.int .i64 0))), (.d (.v (.int .i64 0)))] [(0, 1, (kI 10000)), (1, 1, (kI 7071))]),
 oO 32 (.build [(.d (.v (.int .i64 0))), (.d (.v (.int .i64 0)))] [(0, 1, (kI (-524288))), (1, 1, (kI (-524288)))]),
 ⟨(some 33), (.build [(.d (.v (.string ⟨#[]⟩))), (.d (.v (.int .i64 0))), (.d (.v (.int .i64 0))), (.d (.v (.int .i64 0))), (.d (.v (.int .i64 0))), (.d (.v (.int .i64 0))), (.d (.v (.int .i64 0))), (.d (.v (.int .i64 0))), (.d (.v (.int .i64 0))), (.d (.v (.int .i64 0)))] [(0, 1, (.const (.string ⟨#[112]⟩))), (1, 1, (kI 6328)), (2, 2, (.tmp 31)), (4, 2, (.tmp 32))]), none⟩,
 oO 34 (.call 20 [(.tmp 33)]),
 oM 30 34,
 oO 35 (.extract 0 (.tmp 30)),
 oO 36 (.extract 1 (.tmp 30)),
 oO 7 (.alloc [(.d (.v (.int .i64 0))), (.d (.v (.int .i64 0)))]),
 oD (.store 2 (.tmp 7) (.tmp 35)),
 oM 8 36]
def ac5_5 : List AOper := [
 oM 37 2,
 oO 38 (.bin .eql 30 (.tmp 37) (kI 0)),
 oM 39 38,
 oG 40 (.load true 6 (.tmp 1)) 39 true,
 oG 41 (.build [(.d (.v (.int .i64 0))), (.d (.v (.int .i64 0)))] [(0, 1, (kI 76)), (1, 1, (kI 84))]) 39 true,
 oG 42 (.build [(.d (.v (.int .i64 0))), (.d (.v (.int .i64 0)))] [(0, 1, (kI 18)), (1, 1, (kI 22))]) 39 true,
 oG 43 (.build [(.d (.v (.int .i64 0))), (.d (.v (.int .i64 0)))] [(0, 1, (kI (-2))), (1, 1, (kI 2))]) 39 true,
 oG 44 (.build [(.d (.v (.int .i64 0))), (.d (.v (.int .i64 0))), (.d (.v (.int .i64 0))), (.d (.v (.int .i64 0))), (.d (.v (.int .i64 0))), (.d (.v (.int .i64 0)))] [(0, 2, (.tmp 41)), (2, 2, (.tmp 42)), (4, 2, (.tmp 43))]) 39 true,
 oG 45 (.bin .eql 28 (.tmp 40) (.tmp 44)) 39 true,
 oO 46 (.pick (.tmp 39) (.tmp 45) (.const (.bool false))),
 oM 47 46,
 oG 48 (.mv (.tmp 4)) 47 true,
 oG 49 (.bin .eql 30 (.tmp 48) (kI 0)) 47 true,
 oO 50 (.pick (.tmp 47) (.tmp 49) (.const (.bool false))),
 oM 51 50,
 oG 52 (.aslice 1 4 (.tmp 3)) 51 true,
 oG 53 (.bslice 1 4 [(.v (.complex Go.FloatKind.f64 0 0))] [(0, (.const (.complex Go.FloatKind.f64 4635329916471083008 0))), (1, (.const (.complex Go.FloatKind.f64 4626322717216342016 0))), (2, (.const (.complex Go.FloatKind.f64 0 0))), (3, (.const (.complex Go.FloatKind.f64 4626322717216342016 0)))]) 51 true,
 oG 54 (.call 21 [(.tmp 52), (.tmp 53)]) 51 true,
 oO 55 (.pick (.tmp 51) (.tmp 54) (.const (.bool false))),
 oM 56 55,
 oG 57 (.mv (.tmp 6)) 56 true,
 oG 58 (.bin .eql 30 (.tmp 57) (kI 0)) 56 true,
 oO 59 (.pick (.tmp 56) (.tmp 58) (.const (.bool false))),
 oM 60 59,
 oG 61 (.faddr 4 (.tmp 5)) 60 true,
 oG 62 (.load true 2 (.tmp 61)) 60 true,
 oG 63 (.build [(.d (.v (.int .i64 0))), (.d (.v (.int .i64 0)))] [(0, 1, (kI (-524288))), (1, 1, (kI (-524288)))]) 60 true,
 oG 64 (.bin .eql 26 (.tmp 62) (.tmp 63)) 60 true,
 oO 65 (.pick (.tmp 60) (.tmp 64) (.const (.bool false))),
 oM 66 65,
 oG 67 (.mv (.tmp 8)) 66 true,
 oG 68 (.bin .eql 30 (.tmp 67) (kI 0)) 66 true,
 oO 69 (.pick (.tmp 66) (.tmp 68) (.const (.bool false))),
 oM 70 69,
 oG 71 (.load true 2 (.tmp 7)) 70 true,
 oG 72 (.build [(.d (.v (.int .i64 0))), (.d (.v (.int .i64 0)))] [(0, 1, (kI 682)), (1, 1, (kI 683))]) 70 true,
 oG 73 (.bin .eql 26 (.tmp 71) (.tmp 72)) 70 true,
 oO 74 (.pick (.tmp 70) (.tmp 73) (.const (.bool false))),
 oM 0 74]
def tr5 : List (Nat × Tidy) := [tF 0 [], tF 1 [1, 2], tF 2 [1, 2, 3, 4], tF 3 [1, 2, 3, 4, 5, 6], (4, ⟨[1, 2, 3, 4, 5, 6, 7, 8], false, [], [3]⟩), tF 5 [0]]
def tl5 : List (Nat × Tidy) := []
def ac5 : ACode := (.seq (.region ac5_0 [] (some ⟨[], false, [], []⟩)) (.seq (.region ac5_1 [] (some ⟨[1, 2], false, [], []⟩)) (.seq (.region ac5_2 [] (some ⟨[1, 2, 3, 4], false, [], []⟩)) (.seq (.region ac5_3 [] (some ⟨[1, 2, 3, 4, 5, 6], false, [], []⟩)) (.seq (.region ac5_4 [] (some ⟨[1, 2, 3, 4, 5, 6, 7, 8], false, [], [3]⟩)) (.seq (.region ac5_5 [] (some ⟨[0], false, [], []⟩)) .ret))))))
def rs5 : List AResV := [.tmp 0]
def ft5 : FnT := ⟨75, tr5, tl5, ac5, rs5⟩
theorem is5 : FnIs Try.prog 5 75 tr5 tl5 ac5 rs5 := ⟨Try.f5, Try.func5, rfl, by kernel_rfl, by kernel_rfl, by kernel_rfl⟩
def ac17_0 : List AOper := [
 oO 1 (.box (.tmp 0)),
 oO 2 (.alloc [(.d (.v (.complex Go.FloatKind.f64 0 0))), (.d (.v (.complex Go.FloatKind.f64 0 0))), (.d (.v (.complex Go.FloatKind.f64 0 0))), (.d (.v (.complex Go.FloatKind.f64 0 0)))]),
 oO 3 (.mv (kI 0))]
def ac17_1 : List AOper := [
 oO 13 (.load true 3 (.tmp 1)),
 oO 14 (.call 36 [(.tmp 13)]),
 oM 12 14,
 oO 15 (.extract 0 (.tmp 12)),
 oO 16 (.extract 1 (.tmp 12)),
 oO 17 (.extract 2 (.tmp 12)),
 oO 4 (.alloc [.nils, (.d (.v (.int .i64 0))), (.d (.v (.int .i64 0)))]),
 oD (.store 3 (.tmp 4) (.tmp 15)),
 oM 5 16,
 oM 6 17]
def ac17_2 : List AOper := [
 oM 18 6,
 oO 19 (.bin .neq 30 (.tmp 18) (kI 0))]
def ac17_3 : List AOper := [
 oO 20 (.build [(.d (.v (.complex Go.FloatKind.f64 0 0))), (.d (.v (.complex Go.FloatKind.f64 0 0))), (.d (.v (.complex Go.FloatKind.f64 0 0))), (.d (.v (.complex Go.FloatKind.f64 0 0)))] []),
 oM 21 6,
 oD (.store 4 (.tmp 2) (.tmp 20)),
 oM 3 21]
def ac17_4 : List AOper := [
 oO 7 (.mv (.const (.slice none 0 0)))]
def ac17_5 : List AOper := [
 oO 22 (.faddr 0 (.tmp 4)),
 oO 23 (.load false 1 (.tmp 22)),
 oO 24 (.len (.tmp 23)),
 oO 25 (.mv (kI 0))]
def ac17_6 : List AOper := [
 oO 26 (.bin .lss 3 (.tmp 25) (.tmp 24))]
def ac17_7 : List AOper := [
 oO 27 (.iaddr 1 none (.tmp 23) (.tmp 25)),
 oO 28 (.load false 1 (.tmp 27)),
 oM 9 28]
def ac17_8 : List AOper := [
 oM 29 7,
 oM 30 9,
 oO 31 (.build [(.d (.v (.int .i64 0))), (.d (.v (.int .i64 0)))] [(0, 1, (.tmp 30)), (1, 1, (kI 0))]),
 oO 32 (.bslice 2 1 [(.v (.int .i64 0)), (.v (.int .i64 0))] [(0, (.tmp 31))]),
 oO 33 (.append 2 16 (.tmp 29) (.tmp 32)),
 oM 7 33]
def ac17_9 : List AOper := [
 oO 34 (.bin .add 3 (.tmp 25) (kI 1)),
 oM 25 34]
def ac17_10 : List AOper := [
 oO 10 (.alloc [(.d (.v (.complex Go.FloatKind.f64 0 0))), (.d (.v (.complex Go.FloatKind.f64 0 0))), (.d (.v (.complex Go.FloatKind.f64 0 0))), (.d (.v (.complex Go.FloatKind.f64 0 0)))])]
def ac17_11 : List AOper := [
 oO 35 (.mv (kI 0))]
def ac17_12 : List AOper := [
 oO 36 (.bin .lss 3 (.tmp 35) (kI 4))]
def ac17_13 : List AOper := [
 oM 37 35,
 oM 11 37]
def ac17_14 : List AOper := [
 oM 38 11,
 oM 39 7,
 oM 40 11,
 oO 41 (.pure (oB (.unOp .neg 3 (.tmp 40)) 3)),
 oO 42 (.call 39 [(.tmp 39), (.tmp 41)]),
 oO 43 (.call 40 [(.tmp 42)]),
 oO 44 (.iaddr 1 (some 4) (.tmp 10) (.tmp 38)),
 oD (.store 1 (.tmp 44) (.tmp 43))]
def ac17_15 : List AOper := [
 oO 45 (.bin .add 3 (.tmp 35) (kI 1)),
 oM 35 45]
def ac17_16 : List AOper := [
 oO 46 (.load true 4 (.tmp 10)),
 oD (.store 4 (.tmp 2) (.tmp 46)),
 oO 3 (.mv (kI 0))]
def tr17 : List (Nat × Tidy) := [tF 0 [1, 2], tF 1 [2, 4, 6], tF 2 [2, 4, 6, 19], tF 3 [2, 3], tF 4 [2, 4, 7], tF 5 [2, 7, 23, 24, 25], tF 6 [2, 7, 23, 24, 25, 26], tF 7 [2, 7, 9, 23, 24, 25], tF 8 [2, 7, 23, 24, 25], tF 9 [2, 7, 23, 24, 25], tF 10 [2, 7, 10], tF 11 [2, 7, 10, 35], tF 12 [2, 7, 10, 35, 36], tF 13 [2, 7, 10, 11, 35], tF 14 [2, 7, 10, 35], tF 15 [2, 7, 10, 35], tF 16 [2, 3]]
def tl17 : List (Nat × Tidy) := [(6, ⟨[2, 7, 23, 24, 25], true, [⟨false, 7, 0, 20007, 0⟩, ⟨false, 23, 0, 20023, 0⟩, ⟨false, 25, 0, 20025, 0⟩, ⟨true, 4, 0, 30400, 0⟩], []⟩), (12, ⟨[2, 7, 10, 35], true, [⟨false, 7, 0, 20007, 0⟩, ⟨false, 35, 0, 20035, 0⟩, ⟨true, 4, 0, 30400, 0⟩], []⟩)]
def ac17 : ACode := (.seq (.region ac17_0 [] (some ⟨[1, 2], false, [], []⟩)) (.seq (.region ac17_1 [] (some ⟨[2, 4, 6], false, [], []⟩)) (.seq (.seq (.region ac17_2 [] (some ⟨[2, 4, 6, 19], false, [], []⟩)) (.cond (.tmp 19) (.seq (.region ac17_3 [] (some ⟨[2, 3], false, [], []⟩)) .ret) .skip)) (.seq (.region ac17_4 [] (some ⟨[2, 4, 7], false, [], []⟩)) (.seq (.seq (.region ac17_5 [] (some ⟨[2, 7, 23, 24, 25], false, [], []⟩)) (.block 0 (.loop (some ⟨[2, 7, 23, 24, 25], true, [⟨false, 7, 0, 20007, 0⟩, ⟨false, 23, 0, 20023, 0⟩, ⟨false, 25, 0, 20025, 0⟩, ⟨true, 4, 0, 30400, 0⟩], []⟩) (.seq (.region ac17_6 [] (some ⟨[2, 7, 23, 24, 25, 26], false, [], []⟩)) (.seq (.cond (.tmp 26) .skip (.exit 0)) (.seq (.block 1 (.seq (.region ac17_7 [] (some ⟨[2, 7, 9, 23, 24, 25], false, [], []⟩)) (.region ac17_8 [] (some ⟨[2, 7, 23, 24, 25], false, [], []⟩)))) (.region ac17_9 [] (some ⟨[2, 7, 23, 24, 25], false, [], []⟩)))))))) (.seq (.region ac17_10 [] (some ⟨[2, 7, 10], false, [], []⟩)) (.seq (.seq (.region ac17_11 [] (some ⟨[2, 7, 10, 35], false, [], []⟩)) (.block 2 (.loop (some ⟨[2, 7, 10, 35], true, [⟨false, 7, 0, 20007, 0⟩, ⟨false, 35, 0, 20035, 0⟩, ⟨true, 4, 0, 30400, 0⟩], []⟩) (.seq (.region ac17_12 [] (some ⟨[2, 7, 10, 35, 36], false, [], []⟩)) (.seq (.cond (.tmp 36) .skip (.exit 2)) (.seq (.block 3 (.seq (.region ac17_13 [] (some ⟨[2, 7, 10, 11, 35], false, [], []⟩)) (.region ac17_14 [] (some ⟨[2, 7, 10, 35], false, [], []⟩)))) (.region ac17_15 [] (some ⟨[2, 7, 10, 35], false, [], []⟩)))))))) (.seq (.region ac17_16 [] (some ⟨[2, 3], false, [], []⟩)) .ret))))))))
def rs17 : List AResV := [.cell 2 true 4, .tmp 3]
def ft17 : FnT := ⟨47, tr17, tl17, ac17, rs17⟩
theorem is17 : FnIs Try.prog 17 47 tr17 tl17 ac17 rs17 := ⟨Try.f17, Try.func17, rfl, by kernel_rfl, by kernel_rfl, by kernel_rfl⟩
def ac15_0 : List AOper := [
 oO 1 (.box (.tmp 0)),
 oO 2 (.alloc [.nils, (.d (.v (.int .i64 0))), (.d (.v (.int .i64 0)))])]
def ac15_1 : List AOper := [
 oO 3 (.bslice 1 0 [(.v (.float Go.FloatKind.f32 0))] []),
 oO 4 (.faddr 0 (.tmp 1)),
 oO 5 (.load false 1 (.tmp 4)),
 oO 6 (.append 1 4 (.tmp 3) (.tmp 5)),
 oO 7 (.faddr 0 (.tmp 1)),
 oD (.store 1 (.tmp 7) (.tmp 6))]
def ac15_2 : List AOper := [
 oO 8 (.load true 3 (.tmp 1)),
 oD (.store 3 (.tmp 2) (.tmp 8))]
def tr15 : List (Nat × Tidy) := [tF 0 [1, 2], tF 1 [1, 2], tF 2 [2]]
def tl15 : List (Nat × Tidy) := []
def ac15 : ACode := (.seq (.region ac15_0 [] (some ⟨[1, 2], false, [], []⟩)) (.seq (.region ac15_1 [] (some ⟨[1, 2], false, [], []⟩)) (.seq (.region ac15_2 [] (some ⟨[2], false, [], []⟩)) .ret)))
def rs15 : List AResV := [.cell 2 true 3]
def ft15 : FnT := ⟨9, tr15, tl15, ac15, rs15⟩
theorem is15 : FnIs Try.prog 15 9 tr15 tl15 ac15 rs15 := ⟨Try.f15, Try.func15, rfl, by kernel_rfl, by kernel_rfl, by kernel_rfl⟩
def ac21_0 : List AOper := [
 oO 4 (.mv (.const (.bool false)))]
def ac21_1 : List AOper := [
 oM 6 0,
 oO 7 (.len (.tmp 6)),
 oM 8 1,
 oO 9 (.len (.tmp 8)),
 oO 10 (.bin .neq 3 (.tmp 7) (.tmp 9))]
def ac21_2 : List AOper := [
 oO 4 (.mv (.const (.bool false)))]
def ac21_3 : List AOper := [
 oO 5 (.mv (kI 0))]
def ac21_4 : List AOper := [
 oM 11 5,
 oM 12 0,
 oO 13 (.len (.tmp 12)),
 oO 14 (.bin .lss 3 (.tmp 11) (.tmp 13))]
def ac21_5 : List AOper := [
 oM 17 0,
 oM 18 5,
 oO 19 (.iaddr 1 none (.tmp 17) (.tmp 18)),
 oO 20 (.load false 1 (.tmp 19)),
 oM 21 1,
 oM 22 5,
 oO 23 (.iaddr 1 none (.tmp 21) (.tmp 22)),
 oO 24 (.load false 1 (.tmp 23)),
 oO 25 (.call 56 [(.tmp 20), (.tmp 24)]),
 oO 26 (.pure (oB (.unOp .not 4 (.tmp 25)) 4))]
def ac21_6 : List AOper := [
 oO 4 (.mv (.const (.bool false)))]
def ac21_7 : List AOper := [
 oM 15 5,
 oO 16 (.bin .add 3 (.tmp 15) (kI 1)),
 oM 5 16]
def ac21_8 : List AOper := [
 oO 4 (.mv (.const (.bool true)))]
def tr21 : List (Nat × Tidy) := [tF 0 [0, 1], tF 1 [0, 1, 10], tF 2 [4], tF 3 [0, 1, 5], tF 4 [0, 1, 5, 14], tF 6 [0, 1, 5, 26], tF 7 [4], tF 5 [0, 1, 5], tF 8 [4]]
def tl21 : List (Nat × Tidy) := [(4, ⟨[0, 1, 5], true, [⟨false, 5, 0, 20005, 0⟩], []⟩)]
def ac21 : ACode := (.seq (.region ac21_0 [] (some ⟨[0, 1], false, [], []⟩)) (.seq (.seq (.region ac21_1 [] (some ⟨[0, 1, 10], false, [], []⟩)) (.cond (.tmp 10) (.seq (.region ac21_2 [] (some ⟨[4], false, [], []⟩)) .ret) .skip)) (.seq (.seq (.region ac21_3 [] (some ⟨[0, 1, 5], false, [], []⟩)) (.block 0 (.loop (some ⟨[0, 1, 5], true, [⟨false, 5, 0, 20005, 0⟩], []⟩) (.seq (.seq (.region ac21_4 [] (some ⟨[0, 1, 5, 14], false, [], []⟩)) (.cond (.tmp 14) .skip (.exit 0))) (.seq (.block 1 (.seq (.region ac21_5 [] (some ⟨[0, 1, 5, 26], false, [], []⟩)) (.cond (.tmp 26) (.seq (.region ac21_6 [] (some ⟨[4], false, [], []⟩)) .ret) .skip))) (.region ac21_7 [] (some ⟨[0, 1, 5], false, [], []⟩))))))) (.seq (.region ac21_8 [] (some ⟨[4], false, [], []⟩)) .ret))))
def rs21 : List AResV := [.tmp 4]
def ft21 : FnT := ⟨27, tr21, tl21, ac21, rs21⟩
theorem is21 : FnIs Try.prog 21 27 tr21 tl21 ac21 rs21 := ⟨Try.f21, Try.func21, rfl, by kernel_rfl, by kernel_rfl, by kernel_rfl⟩
def ac14_0 : List AOper := [
 oO 1 (.box (.tmp 0)),
 oO 2 (.alloc [(.d (.v (.int .i64 0))), (.d (.v (.int .i64 0))), (.d (.v (.int .i64 0))), (.d (.v (.int .i64 0))), (.d (.v (.int .i64 0))), (.d (.v (.int .i64 0)))]),
 oO 3 (.mv (kI 0))]
def ac14_1 : List AOper := [
 oO 12 (.load true 3 (.tmp 1)),
 oO 13 (.call 36 [(.tmp 12)]),
 oM 11 13,
 oO 14 (.extract 0 (.tmp 11)),
 oO 15 (.extract 1 (.tmp 11)),
 oO 16 (.extract 2 (.tmp 11)),
 oO 4 (.alloc [.nils, (.d (.v (.int .i64 0))), (.d (.v (.int .i64 0)))]),
 oD (.store 3 (.tmp 4) (.tmp 14)),
 oM 5 15,
 oM 6 16]
def ac14_2 : List AOper := [
 oM 17 6,
 oO 18 (.bin .neq 30 (.tmp 17) (kI 0))]
def ac14_3 : List AOper := [
 oO 19 (.build [(.d (.v (.int .i64 0))), (.d (.v (.int .i64 0))), (.d (.v (.int .i64 0))), (.d (.v (.int .i64 0))), (.d (.v (.int .i64 0))), (.d (.v (.int .i64 0)))] []),
 oM 20 6,
 oD (.store 6 (.tmp 2) (.tmp 19)),
 oM 3 20]
def ac14_4 : List AOper := [
 oO 21 (.load true 3 (.tmp 4)),
 oO 22 (.call 37 [(.tmp 21)]),
 oO 23 (.len (.tmp 22)),
 oO 24 (.bin .gtr 3 (.tmp 23) (kI 0))]
def ac14_5 : List AOper := [
 oO 25 (.build [(.d (.v (.int .i64 0))), (.d (.v (.int .i64 0))), (.d (.v (.int .i64 0))), (.d (.v (.int .i64 0))), (.d (.v (.int .i64 0))), (.d (.v (.int .i64 0)))] []),
 oD (.store 6 (.tmp 2) (.tmp 25)),
 oO 3 (.mv (kI 16))]
def ac14_6 : List AOper := [
 oO 7 (.alloc [(.d (.v (.int .i64 0))), (.d (.v (.int .i64 0))), (.d (.v (.int .i64 0))), (.d (.v (.int .i64 0)))])]
def ac14_7 : List AOper := [
 oO 26 (.faddr 0 (.tmp 4)),
 oO 27 (.load false 1 (.tmp 26)),
 oO 28 (.len (.tmp 27)),
 oO 29 (.mv (kI 0))]
def ac14_8 : List AOper := [
 oO 30 (.bin .lss 3 (.tmp 29) (.tmp 28))]
def ac14_9 : List AOper := [
 oM 31 29,
 oO 32 (.iaddr 1 none (.tmp 27) (.tmp 29)),
 oO 33 (.load false 1 (.tmp 32)),
 oM 8 31,
 oM 9 33]
def ac14_10 : List AOper := [
 oM 34 8,
 oO 35 (.bin .rem 3 (.tmp 34) (kI 4)),
 oO 36 (.iaddr 1 (some 4) (.tmp 7) (.tmp 35)),
 oO 37 (.load false 1 (.tmp 36)),
 oM 38 9,
 oO 39 (.bin .add 3 (.tmp 37) (.tmp 38)),
 oO 40 (.iaddr 1 (some 4) (.tmp 7) (.tmp 35)),
 oD (.store 1 (.tmp 40) (.tmp 39))]
def ac14_11 : List AOper := [
 oO 41 (.bin .add 3 (.tmp 29) (kI 1)),
 oM 29 41]
def ac14_12 : List AOper := [
 oO 42 (.faddr 0 (.tmp 4)),
 oO 43 (.load false 1 (.tmp 42)),
 oO 44 (.len (.tmp 43)),
 oM 10 44]
def ac14_13 : List AOper := [
 oO 45 (.iaddr 1 (some 4) (.tmp 7) (kI 0)),
 oO 46 (.load false 1 (.tmp 45)),
 oO 47 (.iaddr 1 (some 4) (.tmp 7) (kI 1)),
 oO 48 (.load false 1 (.tmp 47)),
 oO 49 (.bin .add 3 (.tmp 46) (.tmp 48)),
 oO 50 (.iaddr 1 (some 4) (.tmp 7) (kI 2)),
 oO 51 (.load false 1 (.tmp 50)),
 oO 52 (.bin .add 3 (.tmp 49) (.tmp 51)),
 oO 53 (.iaddr 1 (some 4) (.tmp 7) (kI 3)),
 oO 54 (.load false 1 (.tmp 53)),
 oO 55 (.bin .add 3 (.tmp 52) (.tmp 54)),
 oM 56 10,
 oO 57 (.faddr 1 (.tmp 4)),
 oO 58 (.load false 1 (.tmp 57)),
 oO 59 (.bin .mul 3 (.tmp 56) (.tmp 58)),
 oO 60 (.call 38 [(.tmp 55), (.tmp 59)]),
 oO 61 (.iaddr 1 (some 4) (.tmp 7) (kI 0)),
 oO 62 (.load false 1 (.tmp 61)),
 oO 63 (.iaddr 1 (some 4) (.tmp 7) (kI 2)),
 oO 64 (.load false 1 (.tmp 63)),
 oO 65 (.bin .sub 3 (.tmp 62) (.tmp 64)),
 oM 66 10,
 oO 67 (.bin .quo 3 (.tmp 66) (kI 2)),
 oO 68 (.faddr 1 (.tmp 4)),
 oO 69 (.load false 1 (.tmp 68)),
 oO 70 (.bin .mul 3 (.tmp 67) (.tmp 69)),
 oO 71 (.call 38 [(.tmp 65), (.tmp 70)]),
 oO 72 (.iaddr 1 (some 4) (.tmp 7) (kI 1)),
 oO 73 (.load false 1 (.tmp 72)),
 oO 74 (.iaddr 1 (some 4) (.tmp 7) (kI 3)),
 oO 75 (.load false 1 (.tmp 74)),
 oO 76 (.bin .sub 3 (.tmp 73) (.tmp 75)),
 oM 77 10,
 oO 78 (.bin .quo 3 (.tmp 77) (kI 2)),
 oO 79 (.faddr 1 (.tmp 4)),
 oO 80 (.load false 1 (.tmp 79)),
 oO 81 (.bin .mul 3 (.tmp 78) (.tmp 80)),
 oO 82 (.call 38 [(.tmp 76), (.tmp 81)]),
 oO 83 (.build [(.d (.v (.int .i64 0))), (.d (.v (.int .i64 0))), (.d (.v (.int .i64 0))), (.d (.v (.int .i64 0))), (.d (.v (.int .i64 0))), (.d (.v (.int .i64 0)))] [(0, 2, (.tmp 60)), (2, 2, (.tmp 71)), (4, 2, (.tmp 82))]),
 oD (.store 6 (.tmp 2) (.tmp 83)),
 oO 3 (.mv (kI 0))]
def tr14 : List (Nat × Tidy) := [tF 0 [1, 2], tF 1 [2, 4, 6], tF 2 [2, 4, 6, 18], tF 3 [2, 3], tF 4 [2, 4, 24], tF 5 [2, 3], tF 6 [2, 4, 7], tF 7 [2, 4, 7, 27, 28, 29], tF 8 [2, 4, 7, 27, 28, 29, 30], tF 9 [2, 4, 7, 8, 9, 27, 28, 29], tF 10 [2, 4, 7, 27, 28, 29], tF 11 [2, 4, 7, 27, 28, 29], tF 12 [2, 4, 7, 10], tF 13 [2, 3]]
def tl14 : List (Nat × Tidy) := [(8, ⟨[2, 4, 7, 27, 28, 29], true, [⟨false, 27, 0, 20027, 0⟩, ⟨false, 29, 0, 20029, 0⟩, ⟨true, 4, 0, 30400, 0⟩], []⟩)]
def ac14 : ACode := (.seq (.region ac14_0 [] (some ⟨[1, 2], false, [], []⟩)) (.seq (.region ac14_1 [] (some ⟨[2, 4, 6], false, [], []⟩)) (.seq (.seq (.region ac14_2 [] (some ⟨[2, 4, 6, 18], false, [], []⟩)) (.cond (.tmp 18) (.seq (.region ac14_3 [] (some ⟨[2, 3], false, [], []⟩)) .ret) .skip)) (.seq (.seq (.region ac14_4 [] (some ⟨[2, 4, 24], false, [], []⟩)) (.cond (.tmp 24) (.seq (.region ac14_5 [] (some ⟨[2, 3], false, [], []⟩)) .ret) .skip)) (.seq (.region ac14_6 [] (some ⟨[2, 4, 7], false, [], []⟩)) (.seq (.seq (.region ac14_7 [] (some ⟨[2, 4, 7, 27, 28, 29], false, [], []⟩)) (.block 0 (.loop (some ⟨[2, 4, 7, 27, 28, 29], true, [⟨false, 27, 0, 20027, 0⟩, ⟨false, 29, 0, 20029, 0⟩, ⟨true, 4, 0, 30400, 0⟩], []⟩) (.seq (.region ac14_8 [] (some ⟨[2, 4, 7, 27, 28, 29, 30], false, [], []⟩)) (.seq (.cond (.tmp 30) .skip (.exit 0)) (.seq (.block 1 (.seq (.region ac14_9 [] (some ⟨[2, 4, 7, 8, 9, 27, 28, 29], false, [], []⟩)) (.region ac14_10 [] (some ⟨[2, 4, 7, 27, 28, 29], false, [], []⟩)))) (.region ac14_11 [] (some ⟨[2, 4, 7, 27, 28, 29], false, [], []⟩)))))))) (.seq (.region ac14_12 [] (some ⟨[2, 4, 7, 10], false, [], []⟩)) (.seq (.region ac14_13 [(15, 17), (15, 19), (15, 24), (15, 28), (26, 28), (15, 30), (26, 30), (15, 35), (26, 35)] (some ⟨[2, 3], false, [], []⟩)) .ret))))))))
def rs14 : List AResV := [.cell 2 true 6, .tmp 3]
def ft14 : FnT := ⟨84, tr14, tl14, ac14, rs14⟩
theorem is14 : FnIs Try.prog 14 84 tr14 tl14 ac14 rs14 := ⟨Try.f14, Try.func14, rfl, by kernel_rfl, by kernel_rfl, by kernel_rfl⟩
def ac44_0 : List AOper := [
 oO 1 (.box (.tmp 0)),
 oO 2 (.alloc [(.d (.v (.int .i64 0))), (.d (.v (.int .i64 0))), (.d (.v (.int .i64 0))), (.d (.v (.int .i64 0)))]),
 oO 3 (.mv (kI 0))]
def ac44_1 : List AOper := [
 oO 11 (.load true 6 (.tmp 1)),
 oO 12 (.call 42 [(.tmp 11)]),
 oM 4 12]
def ac44_2 : List AOper := [
 oM 13 4,
 oO 14 (.bin .neq 30 (.tmp 13) (kI 0))]
def ac44_3 : List AOper := [
 oO 15 (.build [(.d (.v (.int .i64 0))), (.d (.v (.int .i64 0))), (.d (.v (.int .i64 0))), (.d (.v (.int .i64 0)))] []),
 oM 16 4,
 oD (.store 4 (.tmp 2) (.tmp 15)),
 oM 3 16]
def ac44_4 : List AOper := [
 oO 17 (.faddr 0 (.tmp 1)),
 oO 18 (.faddr 0 (.tmp 17)),
 oO 19 (.load false 1 (.tmp 18)),
 oO 20 (.bin .leq 3 (.tmp 19) (kI 0))]
def ac44_5 : List AOper := [
 oO 21 (.build [(.d (.v (.int .i64 0))), (.d (.v (.int .i64 0))), (.d (.v (.int .i64 0))), (.d (.v (.int .i64 0)))] []),
 oD (.store 4 (.tmp 2) (.tmp 21)),
 oO 3 (.mv (kI 9))]
def ac44_6 : List AOper := [
 oO 5 (.alloc [(.d (.v (.int .i64 0))), (.d (.v (.int .i64 0))), (.d (.v (.int .i64 0))), (.d (.v (.int .i64 0)))])]
def ac44_7 : List AOper := [
 oO 22 (.faddr 2 (.tmp 1)),
 oO 23 (.load true 2 (.tmp 22)),
 oO 24 (.faddr 4 (.tmp 1)),
 oO 25 (.load true 2 (.tmp 24)),
 oO 26 (.build [(.d (.v (.int .i64 0))), (.d (.v (.int .i64 0))), (.d (.v (.int .i64 0))), (.d (.v (.int .i64 0)))] [(0, 2, (.tmp 23)), (2, 2, (.tmp 25))]),
 oO 27 (.mv (kI 0))]
def ac44_8 : List AOper := [
 oO 28 (.bin .lss 3 (.tmp 27) (kI 2))]
def ac44_9 : List AOper := [
 oM 29 27,
 oO 30 (.index true 2 2 (.tmp 26) (.tmp 27)),
 oO 7 (.alloc [(.d (.v (.int .i64 0))), (.d (.v (.int .i64 0)))]),
 oM 6 29,
 oD (.store 2 (.tmp 7) (.tmp 30))]
def ac44_10 : List AOper := [
 oO 31 (.faddr 0 (.tmp 1)),
 oO 32 (.faddr 1 (.tmp 31)),
 oO 33 (.load false 1 (.tmp 32)),
 oO 34 (.faddr 0 (.tmp 1)),
 oO 35 (.faddr 0 (.tmp 34)),
 oO 36 (.load false 1 (.tmp 35)),
 oM 8 33,
 oM 9 36]
def ac44_11 : List AOper := [
 oO 37 (.faddr 0 (.tmp 7)),
 oO 38 (.load false 1 (.tmp 37)),
 oO 39 (.bin .lss 3 (.tmp 38) (kI 0))]
def ac44_12 : List AOper := [
 oO 40 (.faddr 0 (.tmp 1)),
 oO 41 (.faddr 0 (.tmp 40)),
 oO 42 (.load false 1 (.tmp 41)),
 oM 8 42]
def ac44_13 : List AOper := [
 oO 43 (.faddr 1 (.tmp 7)),
 oO 44 (.load false 1 (.tmp 43)),
 oO 45 (.bin .lss 3 (.tmp 44) (kI 0))]
def ac44_14 : List AOper := [
 oO 46 (.faddr 0 (.tmp 1)),
 oO 47 (.faddr 1 (.tmp 46)),
 oO 48 (.load false 1 (.tmp 47)),
 oM 9 48]
def ac44_15 : List AOper := [
 oO 10 (.mv (kI 0))]
def ac44_16 : List AOper := [
 oM 50 6,
 oO 51 (.faddr 0 (.tmp 7)),
 oO 52 (.load false 1 (.tmp 51)),
 oO 53 (.bin .mul 3 (kI 2) (.tmp 52)),
 oO 54 (.bin .mul 3 (.tmp 53) (kI 1048576)),
 oM 55 8,
 oO 56 (.call 48 [(.tmp 54), (.tmp 55)]),
 oO 57 (.faddr 1 (.tmp 7)),
 oO 58 (.load false 1 (.tmp 57)),
 oO 59 (.bin .mul 3 (kI 2) (.tmp 58)),
 oO 60 (.bin .mul 3 (.tmp 59) (kI 1048576)),
 oM 61 9,
 oO 62 (.call 49 [(.tmp 60), (.tmp 61)]),
 oO 63 (.build [(.d (.v (.int .i64 0))), (.d (.v (.int .i64 0)))] [(0, 1, (.tmp 56)), (1, 1, (.tmp 62))]),
 oO 64 (.call 51 [(.tmp 63)]),
 oM 49 64,
 oO 65 (.extract 0 (.tmp 49)),
 oO 66 (.extract 1 (.tmp 49)),
 oO 67 (.iaddr 2 (some 2) (.tmp 5) (.tmp 50)),
 oD (.store 2 (.tmp 67) (.tmp 65)),
 oM 10 66]
def ac44_17 : List AOper := [
 oM 68 10,
 oO 69 (.bin .neq 30 (.tmp 68) (kI 0))]
def ac44_18 : List AOper := [
 oO 70 (.build [(.d (.v (.int .i64 0))), (.d (.v (.int .i64 0))), (.d (.v (.int .i64 0))), (.d (.v (.int .i64 0)))] []),
 oM 71 10,
 oD (.store 4 (.tmp 2) (.tmp 70)),
 oM 3 71]
def ac44_19 : List AOper := [
 oO 72 (.bin .add 3 (.tmp 27) (kI 1)),
 oM 27 72]
def ac44_20 : List AOper := [
 oO 73 (.load true 4 (.tmp 5)),
 oD (.store 4 (.tmp 2) (.tmp 73)),
 oO 3 (.mv (kI 0))]
def tr44 : List (Nat × Tidy) := [tF 0 [1, 2], tF 1 [1, 2, 4], tF 2 [1, 2, 4, 14], tF 3 [2, 3], tF 4 [1, 2, 20], tF 5 [2, 3], tF 6 [1, 2, 5], tF 7 [1, 2, 5, 26, 27], tF 8 [1, 2, 5, 26, 27, 28], tF 9 [1, 2, 5, 6, 7, 26, 27], tF 10 [1, 2, 5, 6, 7, 8, 9, 26, 27], tF 11 [1, 2, 5, 6, 7, 8, 9, 26, 27, 39], tF 12 [1, 2, 5, 6, 7, 8, 9, 26, 27], tF 13 [1, 2, 5, 6, 7, 8, 9, 26, 27, 45], tF 14 [1, 2, 5, 6, 7, 8, 9, 26, 27], tF 15 [1, 2, 5, 6, 7, 8, 9, 26, 27], tF 16 [1, 2, 5, 10, 26, 27], tF 17 [1, 2, 5, 10, 26, 27, 69], tF 18 [2, 3], tF 19 [1, 2, 5, 26, 27], tF 20 [2, 3]]
def tl44 : List (Nat × Tidy) := [(8, ⟨[1, 2, 5, 26, 27], true, [⟨false, 27, 0, 20027, 0⟩], []⟩)]
def ac44 : ACode := (.seq (.region ac44_0 [] (some ⟨[1, 2], false, [], []⟩)) (.seq (.seq (.region ac44_1 [] (some ⟨[1, 2, 4], false, [], []⟩)) (.seq (.region ac44_2 [] (some ⟨[1, 2, 4, 14], false, [], []⟩)) (.cond (.tmp 14) (.seq (.region ac44_3 [] (some ⟨[2, 3], false, [], []⟩)) .ret) .skip))) (.seq (.seq (.region ac44_4 [] (some ⟨[1, 2, 20], false, [], []⟩)) (.cond (.tmp 20) (.seq (.region ac44_5 [] (some ⟨[2, 3], false, [], []⟩)) .ret) .skip)) (.seq (.region ac44_6 [] (some ⟨[1, 2, 5], false, [], []⟩)) (.seq (.seq (.region ac44_7 [] (some ⟨[1, 2, 5, 26, 27], false, [], []⟩)) (.block 0 (.loop (some ⟨[1, 2, 5, 26, 27], true, [⟨false, 27, 0, 20027, 0⟩], []⟩) (.seq (.region ac44_8 [] (some ⟨[1, 2, 5, 26, 27, 28], false, [], []⟩)) (.seq (.cond (.tmp 28) .skip (.exit 0)) (.seq (.block 1 (.seq (.region ac44_9 [] (some ⟨[1, 2, 5, 6, 7, 26, 27], false, [], []⟩)) (.seq (.region ac44_10 [] (some ⟨[1, 2, 5, 6, 7, 8, 9, 26, 27], false, [], []⟩)) (.seq (.seq (.region ac44_11 [] (some ⟨[1, 2, 5, 6, 7, 8, 9, 26, 27, 39], false, [], []⟩)) (.cond (.tmp 39) (.region ac44_12 [] (some ⟨[1, 2, 5, 6, 7, 8, 9, 26, 27], false, [], []⟩)) .skip)) (.seq (.seq (.region ac44_13 [] (some ⟨[1, 2, 5, 6, 7, 8, 9, 26, 27, 45], false, [], []⟩)) (.cond (.tmp 45) (.region ac44_14 [] (some ⟨[1, 2, 5, 6, 7, 8, 9, 26, 27], false, [], []⟩)) .skip)) (.seq (.region ac44_15 [] (some ⟨[1, 2, 5, 6, 7, 8, 9, 26, 27], false, [], []⟩)) (.seq (.region ac44_16 [(6, 8)] (some ⟨[1, 2, 5, 10, 26, 27], false, [], []⟩)) (.seq (.region ac44_17 [] (some ⟨[1, 2, 5, 10, 26, 27, 69], false, [], []⟩)) (.cond (.tmp 69) (.seq (.region ac44_18 [] (some ⟨[2, 3], false, [], []⟩)) .ret) .skip))))))))) (.region ac44_19 [] (some ⟨[1, 2, 5, 26, 27], false, [], []⟩)))))))) (.seq (.region ac44_20 [] (some ⟨[2, 3], false, [], []⟩)) .ret))))))
def rs44 : List AResV := [.cell 2 true 4, .tmp 3]
def ft44 : FnT := ⟨74, tr44, tl44, ac44, rs44⟩
theorem is44 : FnIs Try.prog 44 74 tr44 tl44 ac44 rs44 := ⟨Try.f44, Try.func44, rfl, by kernel_rfl, by kernel_rfl, by kernel_rfl⟩
def ac18_0 : List AOper := [
 oO 1 (.box (.tmp 0)),
 ⟨(some 2), (.alloc [(.d (.v (.string ⟨#[]⟩))), (.d (.v (.int .i64 0))), (.d (.v (.int .i64 0))), (.d (.v (.int .i64 0))), (.d (.v (.int .i64 0))), (.d (.v (.int .i64 0))), (.d (.v (.int .i64 0))), (.d (.v (.int .i64 0))), (.d (.v (.int .i64 0))), (.d (.v (.int .i64 0)))]), none⟩,
 oO 3 (.mv (kI 0))]
def ac18_1 : List AOper := [
 oO 26 (.faddr 16 (.tmp 1)),
 oO 27 (.load true 3 (.tmp 26)),
 oO 4 (.alloc [(.d (.v (.int .i64 0))), (.d (.v (.int .i64 0))), (.d (.v (.int .i64 0)))]),
 oD (.store 3 (.tmp 4) (.tmp 27))]
def ac18_2 : List AOper := [
 oO 28 (.faddr 0 (.tmp 1)),
 oO 29 (.load false 1 (.tmp 28)),
 oO 30 (.faddr 1 (.tmp 1)),
 oO 31 (.load false 1 (.tmp 30)),
 oO 32 (.faddr 2 (.tmp 1)),
 oO 33 (.load true 2 (.tmp 32)),
 oO 34 (.call 41 [(.tmp 29), (.tmp 31), (.tmp 33)]),
 oO 35 (.faddr 4 (.tmp 1)),
 oO 36 (.load true 6 (.tmp 35)),
 oO 37 (.call 42 [(.tmp 36)]),
 oO 38 (.faddr 10 (.tmp 1)),
 oO 39 (.load true 6 (.tmp 38)),
 oO 40 (.call 42 [(.tmp 39)]),
 oO 41 (.load true 3 (.tmp 4)),
 oO 42 (.call 43 [(.tmp 41)]),
 oO 43 (.build [(.d (.v (.int .i64 0))), (.d (.v (.int .i64 0))), (.d (.v (.int .i64 0))), (.d (.v (.int .i64 0)))] [(0, 1, (.tmp 34)), (1, 1, (.tmp 37)), (2, 1, (.tmp 40)), (3, 1, (.tmp 42))]),
 oO 44 (.mv (kI 0))]
def ac18_3 : List AOper := [
 oO 45 (.bin .lss 3 (.tmp 44) (kI 4))]
def ac18_4 : List AOper := [
 oO 46 (.index false 4 1 (.tmp 43) (.tmp 44)),
 oM 6 46]
def ac18_5 : List AOper := [
 oM 47 6,
 oO 48 (.bin .neq 30 (.tmp 47) (kI 0))]
def ac18_6 : List AOper := [
 ⟨(some 49), (.build [(.d (.v (.string ⟨#[]⟩))), (.d (.v (.int .i64 0))), (.d (.v (.int .i64 0))), (.d (.v (.int .i64 0))), (.d (.v (.int .i64 0))), (.d (.v (.int .i64 0))), (.d (.v (.int .i64 0))), (.d (.v (.int .i64 0))), (.d (.v (.int .i64 0))), (.d (.v (.int .i64 0)))] []), none⟩,
 oM 50 6,
 oD (.store 10 (.tmp 2) (.tmp 49)),
 oM 3 50]
def ac18_7 : List AOper := [
 oO 51 (.bin .add 3 (.tmp 44) (kI 1)),
 oM 44 51]
def ac18_8 : List AOper := [
 oO 52 (.faddr 1 (.tmp 4)),
 oO 53 (.load false 1 (.tmp 52)),
 oO 54 (.bin .eql 3 (.tmp 53) (kI 0))]
def ac18_9 : List AOper := [
 ⟨(some 55), (.build [(.d (.v (.string ⟨#[]⟩))), (.d (.v (.int .i64 0))), (.d (.v (.int .i64 0))), (.d (.v (.int .i64 0))), (.d (.v (.int .i64 0))), (.d (.v (.int .i64 0))), (.d (.v (.int .i64 0))), (.d (.v (.int .i64 0))), (.d (.v (.int .i64 0))), (.d (.v (.int .i64 0)))] []), none⟩,
 oD (.store 10 (.tmp 2) (.tmp 55)),
 oO 3 (.mv (kI 9))]
def ac18_10 : List AOper := [
 oO 57 (.faddr 4 (.tmp 1)),
 oO 58 (.load true 6 (.tmp 57)),
 oO 59 (.call 44 [(.tmp 58)]),
 oM 56 59,
 oO 60 (.extract 0 (.tmp 56)),
 oO 61 (.extract 1 (.tmp 56)),
 oO 7 (.alloc [(.d (.v (.int .i64 0))), (.d (.v (.int .i64 0))), (.d (.v (.int .i64 0))), (.d (.v (.int .i64 0)))]),
 oD (.store 4 (.tmp 7) (.tmp 60)),
 oM 8 61]
def ac18_11 : List AOper := [
 oM 62 8,
 oO 63 (.bin .neq 30 (.tmp 62) (kI 0))]
def ac18_12 : List AOper := [
 ⟨(some 64), (.build [(.d (.v (.string ⟨#[]⟩))), (.d (.v (.int .i64 0))), (.d (.v (.int .i64 0))), (.d (.v (.int .i64 0))), (.d (.v (.int .i64 0))), (.d (.v (.int .i64 0))), (.d (.v (.int .i64 0))), (.d (.v (.int .i64 0))), (.d (.v (.int .i64 0))), (.d (.v (.int .i64 0)))] []), none⟩,
 oM 65 8,
 oD (.store 10 (.tmp 2) (.tmp 64)),
 oM 3 65]
def ac18_13 : List AOper := [
 oO 67 (.faddr 10 (.tmp 1)),
 oO 68 (.load true 6 (.tmp 67)),
 oO 69 (.call 44 [(.tmp 68)]),
 oM 66 69,
 oO 70 (.extract 0 (.tmp 66)),
 oO 71 (.extract 1 (.tmp 66)),
 oO 9 (.alloc [(.d (.v (.int .i64 0))), (.d (.v (.int .i64 0))), (.d (.v (.int .i64 0))), (.d (.v (.int .i64 0)))]),
 oD (.store 4 (.tmp 9) (.tmp 70)),
 oM 8 71]
def ac18_14 : List AOper := [
 oM 72 8,
 oO 73 (.bin .neq 30 (.tmp 72) (kI 0))]
def ac18_15 : List AOper := [
 ⟨(some 74), (.build [(.d (.v (.string ⟨#[]⟩))), (.d (.v (.int .i64 0))), (.d (.v (.int .i64 0))), (.d (.v (.int .i64 0))), (.d (.v (.int .i64 0))), (.d (.v (.int .i64 0))), (.d (.v (.int .i64 0))), (.d (.v (.int .i64 0))), (.d (.v (.int .i64 0))), (.d (.v (.int .i64 0)))] []), none⟩,
 oM 75 8,
 oD (.store 10 (.tmp 2) (.tmp 74)),
 oM 3 75]
def ac18_16 : List AOper := [
 oO 76 (.mkfn 45 [(.tmp 4)]),
 oM 10 76]
def ac18_17 : List AOper := [
 oO 77 (.faddr 0 (.tmp 1)),
 oO 78 (.load false 1 (.tmp 77)),
 oO 79 (.faddr 1 (.tmp 1)),
 oO 80 (.load false 1 (.tmp 79)),
 oO 81 (.faddr 2 (.tmp 1)),
 oO 82 (.load true 2 (.tmp 81)),
 ⟨(some 83), (.build [(.d (.v (.string ⟨#[]⟩))), (.d (.v (.int .i64 0))), (.d (.v (.int .i64 0))), (.d (.v (.int .i64 0))), (.d (.v (.int .i64 0))), (.d (.v (.int .i64 0))), (.d (.v (.int .i64 0))), (.d (.v (.int .i64 0))), (.d (.v (.int .i64 0))), (.d (.v (.int .i64 0)))] [(0, 1, (.tmp 78)), (1, 1, (.tmp 80)), (2, 2, (.tmp 82))]), none⟩,
 ⟨(some 11), (.alloc [(.d (.v (.string ⟨#[]⟩))), (.d (.v (.int .i64 0))), (.d (.v (.int .i64 0))), (.d (.v (.int .i64 0))), (.d (.v (.int .i64 0))), (.d (.v (.int .i64 0))), (.d (.v (.int .i64 0))), (.d (.v (.int .i64 0))), (.d (.v (.int .i64 0))), (.d (.v (.int .i64 0)))]), none⟩,
 oD (.store 10 (.tmp 11) (.tmp 83))]
def ac18_18 : List AOper := [
 oM 85 10,
 oO 86 (.iaddr 2 (some 2) (.tmp 7) (kI 0)),
 oO 87 (.load true 2 (.tmp 86)),
 oO 88 (.calld (.tmp 85) [(.tmp 87)]),
 oM 89 10,
 oO 90 (.iaddr 2 (some 2) (.tmp 9) (kI 0)),
 oO 91 (.load true 2 (.tmp 90)),
 oO 92 (.calld (.tmp 89) [(.tmp 91)]),
 oO 93 (.call 50 [(.tmp 88), (.tmp 92)]),
 oM 84 93,
 oO 94 (.extract 0 (.tmp 84)),
 oO 95 (.extract 1 (.tmp 84)),
 oO 12 (.alloc [(.d (.v (.int .i64 0))), (.d (.v (.int .i64 0)))]),
 oD (.store 2 (.tmp 12) (.tmp 94)),
 oM 13 95]
def ac18_19 : List AOper := [
 oM 96 13,
 oO 97 (.pure (oB (.unOp .not 4 (.tmp 96)) 4))]
def ac18_20 : List AOper := [
 ⟨(some 98), (.build [(.d (.v (.string ⟨#[]⟩))), (.d (.v (.int .i64 0))), (.d (.v (.int .i64 0))), (.d (.v (.int .i64 0))), (.d (.v (.int .i64 0))), (.d (.v (.int .i64 0))), (.d (.v (.int .i64 0))), (.d (.v (.int .i64 0))), (.d (.v (.int .i64 0))), (.d (.v (.int .i64 0)))] []), none⟩,
 oD (.store 10 (.tmp 2) (.tmp 98)),
 oO 3 (.mv (kI 14))]
def ac18_21 : List AOper := [
 oO 99 (.load true 2 (.tmp 12)),
 oO 100 (.faddr 4 (.tmp 11)),
 oD (.store 2 (.tmp 100) (.tmp 99))]
def ac18_22 : List AOper := [
 oO 101 (.iaddr 2 (some 2) (.tmp 7) (kI 1)),
 oO 102 (.load true 2 (.tmp 101)),
 oO 103 (.iaddr 2 (some 2) (.tmp 9) (kI 1)),
 oO 104 (.load true 2 (.tmp 103)),
 oO 105 (.build [(.d (.v (.int .i64 0))), (.d (.v (.int .i64 0))), (.d (.v (.int .i64 0))), (.d (.v (.int .i64 0)))] [(0, 2, (.tmp 102)), (2, 2, (.tmp 104))]),
 oO 106 (.mv (kI 0))]
def ac18_23 : List AOper := [
 oO 107 (.bin .lss 3 (.tmp 106) (kI 2))]
def ac18_24 : List AOper := [
 oM 108 106,
 oO 109 (.index true 2 2 (.tmp 105) (.tmp 106)),
 oO 15 (.alloc [(.d (.v (.int .i64 0))), (.d (.v (.int .i64 0)))]),
 oM 14 108,
 oD (.store 2 (.tmp 15) (.tmp 109))]
def ac18_25 : List AOper := [
 oO 16 (.mv (.const (.slice none 0 0))),
 oO 17 (.mv (.const (.slice none 0 0)))]
def ac18_26 : List AOper := [
 oO 110 (.faddr 0 (.tmp 15)),
 oO 111 (.load false 1 (.tmp 110)),
 oO 112 (.faddr 1 (.tmp 15)),
 oO 113 (.load false 1 (.tmp 112)),
 oO 114 (.build [(.d (.v (.int .i64 0))), (.d (.v (.int .i64 0)))] [(0, 1, (.tmp 111)), (1, 1, (.tmp 113))]),
 oO 115 (.mv (kI 0))]
def ac18_27 : List AOper := [
 oO 116 (.bin .lss 3 (.tmp 115) (kI 2))]
def ac18_28 : List AOper := [
 oO 117 (.index false 2 1 (.tmp 114) (.tmp 115)),
 oM 19 117]
def ac18_29 : List AOper := [
 oO 118 (.faddr 0 (.tmp 12)),
 oO 119 (.load false 1 (.tmp 118)),
 oO 120 (.faddr 1 (.tmp 12)),
 oO 121 (.load false 1 (.tmp 120)),
 oO 122 (.build [(.d (.v (.int .i64 0))), (.d (.v (.int .i64 0)))] [(0, 1, (.tmp 119)), (1, 1, (.tmp 121))]),
 oO 123 (.mv (kI 0))]
def ac18_30 : List AOper := [
 oO 124 (.bin .lss 3 (.tmp 123) (kI 2))]
def ac18_31 : List AOper := [
 oO 125 (.index false 2 1 (.tmp 122) (.tmp 123)),
 oM 21 125]
def ac18_32 : List AOper := [
 oM 126 19,
 oO 127 (.faddr 2 (.tmp 4)),
 oO 128 (.load false 1 (.tmp 127)),
 oO 129 (.bin .mul 3 (.tmp 128) (kI 1048576)),
 oM 130 21,
 oO 131 (.faddr 0 (.tmp 4)),
 oO 132 (.load false 1 (.tmp 131)),
 oO 133 (.bin .mul 3 (.tmp 130) (.tmp 132)),
 oO 134 (.bin .sub 3 (.tmp 129) (.tmp 133)),
 oO 135 (.bin .mul 3 (.tmp 126) (.tmp 134)),
 oO 136 (.faddr 1 (.tmp 4)),
 oO 137 (.load false 1 (.tmp 136)),
 oO 138 (.bin .mul 3 (.tmp 137) (kI 1048576)),
 oM 22 135,
 oM 23 138]
def ac18_33 : List AOper := [
 oM 139 16,
 oM 140 22,
 oM 141 23,
 oO 142 (.call 48 [(.tmp 140), (.tmp 141)]),
 oO 143 (.bslice 1 1 [(.v (.int .i64 0))] [(0, (.tmp 142))]),
 oO 144 (.append 1 8 (.tmp 139) (.tmp 143)),
 oM 145 17,
 oM 146 22,
 oM 147 23,
 oO 148 (.call 49 [(.tmp 146), (.tmp 147)]),
 oO 149 (.bslice 1 1 [(.v (.int .i64 0))] [(0, (.tmp 148))]),
 oO 150 (.append 1 8 (.tmp 145) (.tmp 149)),
 oM 16 144,
 oM 17 150]
def ac18_34 : List AOper := [
 oO 151 (.bin .add 3 (.tmp 123) (kI 1)),
 oM 123 151]
def ac18_35 : List AOper := [
 oO 152 (.bin .add 3 (.tmp 115) (kI 1)),
 oM 115 152]
def ac18_36 : List AOper := [
 oM 154 16,
 oO 155 (.call 52 [(.tmp 154)]),
 oM 156 17,
 oO 157 (.call 53 [(.tmp 156)]),
 oO 158 (.build [(.d (.v (.int .i64 0))), (.d (.v (.int .i64 0)))] [(0, 1, (.tmp 155)), (1, 1, (.tmp 157))]),
 oO 159 (.call 51 [(.tmp 158)]),
 oM 153 159,
 oO 160 (.extract 0 (.tmp 153)),
 oO 161 (.extract 1 (.tmp 153)),
 oO 24 (.alloc [(.d (.v (.int .i64 0))), (.d (.v (.int .i64 0)))]),
 oD (.store 2 (.tmp 24) (.tmp 160)),
 oM 25 161]
def ac18_37 : List AOper := [
 oM 162 25,
 oO 163 (.bin .neq 30 (.tmp 162) (kI 0))]
def ac18_38 : List AOper := [
 ⟨(some 164), (.build [(.d (.v (.string ⟨#[]⟩))), (.d (.v (.int .i64 0))), (.d (.v (.int .i64 0))), (.d (.v (.int .i64 0))), (.d (.v (.int .i64 0))), (.d (.v (.int .i64 0))), (.d (.v (.int .i64 0))), (.d (.v (.int .i64 0))), (.d (.v (.int .i64 0))), (.d (.v (.int .i64 0)))] []), none⟩,
 oM 165 25,
 oD (.store 10 (.tmp 2) (.tmp 164)),
 oM 3 165]
def ac18_39 : List AOper := [
 oO 166 (.faddr 6 (.tmp 11)),
 oO 167 (.faddr 8 (.tmp 11)),
 oO 168 (.build [(.d (.v (.pointer none))), (.d (.v (.pointer none)))] [(0, 1, (.tmp 166)), (1, 1, (.tmp 167))]),
 oM 169 14,
 oO 170 (.index false 2 1 (.tmp 168) (.tmp 169)),
 oO 171 (.load true 2 (.tmp 24)),
 oO 172 (.nilchk (.tmp 170)),
 oD (.store 2 (.tmp 172) (.tmp 171))]
def ac18_40 : List AOper := [
 oO 173 (.bin .add 3 (.tmp 106) (kI 1)),
 oM 106 173]
def ac18_41 : List AOper := [
 oO 174 (.load true 10 (.tmp 11)),
 oD (.store 10 (.tmp 2) (.tmp 174)),
 oO 3 (.mv (kI 0))]
def tr18 : List (Nat × Tidy) := [tF 0 [1, 2], tF 1 [1, 2, 4], tF 2 [1, 2, 4, 43, 44], tF 3 [1, 2, 4, 43, 44, 45], tF 4 [1, 2, 4, 6, 43, 44], tF 5 [1, 2, 4, 6, 43, 44, 48], tF 6 [2, 3], tF 7 [1, 2, 4, 43, 44], tF 8 [1, 2, 4, 54], tF 9 [2, 3], tF 10 [1, 2, 4, 7, 8], tF 11 [1, 2, 4, 7, 8, 63], tF 12 [2, 3], tF 13 [1, 2, 4, 7, 8, 9], tF 14 [1, 2, 4, 7, 8, 9, 73], tF 15 [2, 3], tF 16 [1, 2, 4, 7, 9, 10], tF 17 [2, 4, 7, 9, 10, 11], tF 18 [2, 4, 7, 9, 11, 12, 13], tF 19 [2, 4, 7, 9, 11, 12, 97], tF 20 [2, 3], tF 21 [2, 4, 7, 9, 11, 12], tF 22 [2, 4, 11, 12, 105, 106], tF 23 [2, 4, 11, 12, 105, 106, 107], tF 24 [2, 4, 11, 12, 14, 15, 105, 106], tF 25 [2, 4, 11, 12, 14, 15, 16, 17, 105, 106], tF 26 [2, 4, 11, 12, 14, 16, 17, 105, 106, 114, 115], tF 27 [2, 4, 11, 12, 14, 16, 17, 105, 106, 114, 115, 116], tF 28 [2, 4, 11, 12, 14, 16, 17, 19, 105, 106, 114, 115], tF 29 [2, 4, 11, 12, 14, 16, 17, 19, 105, 106, 114, 115, 122, 123], tF 30 [2, 4, 11, 12, 14, 16, 17, 19, 105, 106, 114, 115, 122, 123, 124], tF 31 [2, 4, 11, 12, 14, 16, 17, 19, 21, 105, 106, 114, 115, 122, 123], tF 32 [2, 4, 11, 12, 14, 16, 17, 19, 22, 23, 105, 106, 114, 115, 122, 123], tF 33 [2, 4, 11, 12, 14, 16, 17, 19, 105, 106, 114, 115, 122, 123], tF 34 [2, 4, 11, 12, 14, 16, 17, 19, 105, 106, 114, 115, 122, 123], tF 35 [2, 4, 11, 12, 14, 16, 17, 105, 106, 114, 115], tF 36 [2, 4, 11, 12, 14, 24, 25, 105, 106], tF 37 [2, 4, 11, 12, 14, 24, 25, 105, 106, 163], tF 38 [2, 3], tF 39 [2, 4, 11, 12, 105, 106], tF 40 [2, 4, 11, 12, 105, 106], tF 41 [2, 3]]
def tl18 : List (Nat × Tidy) := [(3, ⟨[1, 2, 4, 43, 44], true, [⟨false, 44, 0, 20044, 0⟩], []⟩), (23, ⟨[2, 4, 11, 12, 105, 106], true, [⟨false, 106, 0, 20106, 0⟩], []⟩), (27, ⟨[2, 4, 11, 12, 14, 16, 17, 105, 106, 114, 115], true, [⟨false, 14, 0, 20014, 0⟩, ⟨false, 16, 0, 20016, 0⟩, ⟨false, 17, 0, 20017, 0⟩, ⟨false, 106, 0, 20106, 0⟩, ⟨false, 115, 0, 20115, 0⟩], []⟩), (30, ⟨[2, 4, 11, 12, 14, 16, 17, 19, 105, 106, 114, 115, 122, 123], true, [⟨false, 14, 0, 20014, 0⟩, ⟨false, 16, 0, 20016, 0⟩, ⟨false, 17, 0, 20017, 0⟩, ⟨false, 19, 0, 20019, 0⟩, ⟨false, 106, 0, 20106, 0⟩, ⟨false, 115, 0, 20115, 0⟩, ⟨false, 123, 0, 20123, 0⟩], []⟩)]
def ac18 : ACode := (.seq (.region ac18_0 [] (some ⟨[1, 2], false, [], []⟩)) (.seq (.region ac18_1 [] (some ⟨[1, 2, 4], false, [], []⟩)) (.seq (.seq (.region ac18_2 [(6, 8), (6, 11), (9, 11), (6, 13), (9, 13), (12, 13)] (some ⟨[1, 2, 4, 43, 44], false, [], []⟩)) (.block 0 (.loop (some ⟨[1, 2, 4, 43, 44], true, [⟨false, 44, 0, 20044, 0⟩], []⟩) (.seq (.region ac18_3 [] (some ⟨[1, 2, 4, 43, 44, 45], false, [], []⟩)) (.seq (.cond (.tmp 45) .skip (.exit 0)) (.seq (.block 1 (.seq (.region ac18_4 [] (some ⟨[1, 2, 4, 6, 43, 44], false, [], []⟩)) (.seq (.region ac18_5 [] (some ⟨[1, 2, 4, 6, 43, 44, 48], false, [], []⟩)) (.cond (.tmp 48) (.seq (.region ac18_6 [] (some ⟨[2, 3], false, [], []⟩)) .ret) .skip)))) (.region ac18_7 [] (some ⟨[1, 2, 4, 43, 44], false, [], []⟩)))))))) (.seq (.seq (.region ac18_8 [] (some ⟨[1, 2, 4, 54], false, [], []⟩)) (.cond (.tmp 54) (.seq (.region ac18_9 [] (some ⟨[2, 3], false, [], []⟩)) .ret) .skip)) (.seq (.region ac18_10 [] (some ⟨[1, 2, 4, 7, 8], false, [], []⟩)) (.seq (.seq (.region ac18_11 [] (some ⟨[1, 2, 4, 7, 8, 63], false, [], []⟩)) (.cond (.tmp 63) (.seq (.region ac18_12 [] (some ⟨[2, 3], false, [], []⟩)) .ret) .skip)) (.seq (.region ac18_13 [] (some ⟨[1, 2, 4, 7, 8, 9], false, [], []⟩)) (.seq (.seq (.region ac18_14 [] (some ⟨[1, 2, 4, 7, 8, 9, 73], false, [], []⟩)) (.cond (.tmp 73) (.seq (.region ac18_15 [] (some ⟨[2, 3], false, [], []⟩)) .ret) .skip)) (.seq (.region ac18_16 [] (some ⟨[1, 2, 4, 7, 9, 10], false, [], []⟩)) (.seq (.region ac18_17 [] (some ⟨[2, 4, 7, 9, 10, 11], false, [], []⟩)) (.seq (.region ac18_18 [(3, 6), (2, 12), (3, 12), (6, 12), (7, 12), (8, 12)] (some ⟨[2, 4, 7, 9, 11, 12, 13], false, [], []⟩)) (.seq (.seq (.region ac18_19 [] (some ⟨[2, 4, 7, 9, 11, 12, 97], false, [], []⟩)) (.cond (.tmp 97) (.seq (.region ac18_20 [] (some ⟨[2, 3], false, [], []⟩)) .ret) .skip)) (.seq (.region ac18_21 [] (some ⟨[2, 4, 7, 9, 11, 12], false, [], []⟩)) (.seq (.seq (.region ac18_22 [] (some ⟨[2, 4, 11, 12, 105, 106], false, [], []⟩)) (.block 2 (.loop (some ⟨[2, 4, 11, 12, 105, 106], true, [⟨false, 106, 0, 20106, 0⟩], []⟩) (.seq (.region ac18_23 [] (some ⟨[2, 4, 11, 12, 105, 106, 107], false, [], []⟩)) (.seq (.cond (.tmp 107) .skip (.exit 2)) (.seq (.block 3 (.seq (.region ac18_24 [] (some ⟨[2, 4, 11, 12, 14, 15, 105, 106], false, [], []⟩)) (.seq (.region ac18_25 [] (some ⟨[2, 4, 11, 12, 14, 15, 16, 17, 105, 106], false, [], []⟩)) (.seq (.seq (.region ac18_26 [] (some ⟨[2, 4, 11, 12, 14, 16, 17, 105, 106, 114, 115], false, [], []⟩)) (.block 4 (.loop (some ⟨[2, 4, 11, 12, 14, 16, 17, 105, 106, 114, 115], true, [⟨false, 14, 0, 20014, 0⟩, ⟨false, 16, 0, 20016, 0⟩, ⟨false, 17, 0, 20017, 0⟩, ⟨false, 106, 0, 20106, 0⟩, ⟨false, 115, 0, 20115, 0⟩], []⟩) (.seq (.region ac18_27 [] (some ⟨[2, 4, 11, 12, 14, 16, 17, 105, 106, 114, 115, 116], false, [], []⟩)) (.seq (.cond (.tmp 116) .skip (.exit 4)) (.seq (.block 5 (.seq (.region ac18_28 [] (some ⟨[2, 4, 11, 12, 14, 16, 17, 19, 105, 106, 114, 115], false, [], []⟩)) (.seq (.region ac18_29 [] (some ⟨[2, 4, 11, 12, 14, 16, 17, 19, 105, 106, 114, 115, 122, 123], false, [], []⟩)) (.block 6 (.loop (some ⟨[2, 4, 11, 12, 14, 16, 17, 19, 105, 106, 114, 115, 122, 123], true, [⟨false, 14, 0, 20014, 0⟩, ⟨false, 16, 0, 20016, 0⟩, ⟨false, 17, 0, 20017, 0⟩, ⟨false, 19, 0, 20019, 0⟩, ⟨false, 106, 0, 20106, 0⟩, ⟨false, 115, 0, 20115, 0⟩, ⟨false, 123, 0, 20123, 0⟩], []⟩) (.seq (.region ac18_30 [] (some ⟨[2, 4, 11, 12, 14, 16, 17, 19, 105, 106, 114, 115, 122, 123, 124], false, [], []⟩)) (.seq (.cond (.tmp 124) .skip (.exit 6)) (.seq (.block 7 (.seq (.region ac18_31 [] (some ⟨[2, 4, 11, 12, 14, 16, 17, 19, 21, 105, 106, 114, 115, 122, 123], false, [], []⟩)) (.seq (.region ac18_32 [] (some ⟨[2, 4, 11, 12, 14, 16, 17, 19, 22, 23, 105, 106, 114, 115, 122, 123], false, [], []⟩)) (.region ac18_33 [] (some ⟨[2, 4, 11, 12, 14, 16, 17, 19, 105, 106, 114, 115, 122, 123], false, [], []⟩))))) (.region ac18_34 [] (some ⟨[2, 4, 11, 12, 14, 16, 17, 19, 105, 106, 114, 115, 122, 123], false, [], []⟩)))))))))) (.region ac18_35 [] (some ⟨[2, 4, 11, 12, 14, 16, 17, 105, 106, 114, 115], false, [], []⟩)))))))) (.seq (.region ac18_36 [] (some ⟨[2, 4, 11, 12, 14, 24, 25, 105, 106], false, [], []⟩)) (.seq (.seq (.region ac18_37 [] (some ⟨[2, 4, 11, 12, 14, 24, 25, 105, 106, 163], false, [], []⟩)) (.cond (.tmp 163) (.seq (.region ac18_38 [] (some ⟨[2, 3], false, [], []⟩)) .ret) .skip)) (.region ac18_39 [] (some ⟨[2, 4, 11, 12, 105, 106], false, [], []⟩)))))))) (.region ac18_40 [] (some ⟨[2, 4, 11, 12, 105, 106], false, [], []⟩)))))))) (.seq (.region ac18_41 [] (some ⟨[2, 3], false, [], []⟩)) .ret)))))))))))))))
def rs18 : List AResV := [.cell 2 true 10, .tmp 3]
def ft18 : FnT := ⟨175, tr18, tl18, ac18, rs18⟩
theorem is18 : FnIs Try.prog 18 175 tr18 tl18 ac18 rs18 := ⟨Try.f18, Try.func18, rfl, by kernel_rfl, by kernel_rfl, by kernel_rfl⟩
def ac54_0 : List AOper := [
 oO 1 (.box (.tmp 0)),
 oO 2 (.mv (kI 0))]
def ac54_1 : List AOper := [
 oO 4 (.faddr 0 (.tmp 1)),
 oO 5 (.load false 1 (.tmp 4)),
 oO 6 (.faddr 1 (.tmp 1)),
 oO 7 (.load false 1 (.tmp 6)),
 oO 8 (.faddr 2 (.tmp 1)),
 oO 9 (.load true 2 (.tmp 8)),
 oO 10 (.call 41 [(.tmp 5), (.tmp 7), (.tmp 9)]),
 oM 3 10]
def ac54_2 : List AOper := [
 oM 11 3,
 oO 12 (.bin .neq 30 (.tmp 11) (kI 0))]
def ac54_3 : List AOper := [
 oM 13 3,
 oM 2 13]
def ac54_4 : List AOper := [
 oO 14 (.faddr 4 (.tmp 1)),
 oO 15 (.load true 2 (.tmp 14)),
 oO 16 (.faddr 6 (.tmp 1)),
 oO 17 (.load true 2 (.tmp 16)),
 oO 18 (.faddr 8 (.tmp 1)),
 oO 19 (.load true 2 (.tmp 18)),
 oO 20 (.bslice 2 3 [(.v (.int .i64 0)), (.v (.int .i64 0))] [(0, (.tmp 15)), (1, (.tmp 17)), (2, (.tmp 19))]),
 oO 21 (.call 68 [(kI 1048576), (.tmp 20)]),
 oM 2 21]
def tr54 : List (Nat × Tidy) := [tF 0 [1], tF 1 [1, 3], tF 2 [1, 3, 12], tF 3 [2], tF 4 [2]]
def tl54 : List (Nat × Tidy) := []
def ac54 : ACode := (.seq (.region ac54_0 [] (some ⟨[1], false, [], []⟩)) (.seq (.seq (.region ac54_1 [] (some ⟨[1, 3], false, [], []⟩)) (.seq (.region ac54_2 [] (some ⟨[1, 3, 12], false, [], []⟩)) (.cond (.tmp 12) (.seq (.region ac54_3 [] (some ⟨[2], false, [], []⟩)) .ret) .skip))) (.seq (.region ac54_4 [] (some ⟨[2], false, [], []⟩)) .ret)))
def rs54 : List AResV := [.tmp 2]
def ft54 : FnT := ⟨22, tr54, tl54, ac54, rs54⟩
theorem is54 : FnIs Try.prog 54 22 tr54 tl54 ac54 rs54 := ⟨Try.f54, Try.func54, rfl, by kernel_rfl, by kernel_rfl, by kernel_rfl⟩
def ac20_0 : List AOper := [
 oO 1 (.box (.tmp 0)),
 oO 2 (.alloc [(.d (.v (.int .i64 0))), (.d (.v (.int .i64 0)))]),
 oO 3 (.mv (kI 0))]
def ac20_1 : List AOper := [
 oO 9 (.load true 10 (.tmp 1)),
 oO 10 (.call 54 [(.tmp 9)]),
 oM 4 10]
def ac20_2 : List AOper := [
 oM 11 4,
 oO 12 (.bin .neq 30 (.tmp 11) (kI 0))]
def ac20_3 : List AOper := [
 oO 13 (.build [(.d (.v (.int .i64 0))), (.d (.v (.int .i64 0)))] []),
 oM 14 4,
 oD (.store 2 (.tmp 2) (.tmp 13)),
 oM 3 14]
def ac20_4 : List AOper := [
 oO 15 (.build [(.d (.v (.int .i64 0))), (.d (.v (.int .i64 0)))] [(0, 1, (kI 0)), (1, 1, (kI 1024))]),
 oO 5 (.alloc [(.d (.v (.int .i64 0))), (.d (.v (.int .i64 0)))]),
 oD (.store 2 (.tmp 5) (.tmp 15))]
def ac20_5 : List AOper := [
 oO 6 (.alloc [(.d (.v (.bool false)))]),
 oD (.store 1 (.tmp 6) (.const (.bool false)))]
def ac20_6 : List AOper := [
 oM 7 16]
def ac20_7 : List AOper := [
 oO 8 (.alloc [(.d (.v (.int .i64 0))), (.d (.v (.int .i64 0)))]),
 oD (.store 2 (.tmp 8) (.tmp 17))]
def ac20_8 : List AOper := [
 oO 18 (.faddr 0 (.tmp 8)),
 oO 19 (.load false 1 (.tmp 18)),
 oO 20 (.faddr 4 (.tmp 1)),
 oO 21 (.faddr 1 (.tmp 20)),
 oO 22 (.load false 1 (.tmp 21)),
 oO 23 (.bin .geq 3 (.tmp 19) (.tmp 22))]
def ac20_9 : List AOper := [
 oM 24 7,
 oO 25 (.faddr 0 (.tmp 5)),
 oD (.store 1 (.tmp 25) (.tmp 24))]
def ac20_10 : List AOper := [
 oO 26 (.faddr 1 (.tmp 8)),
 oO 27 (.load false 1 (.tmp 26)),
 oO 28 (.faddr 4 (.tmp 1)),
 oO 29 (.faddr 0 (.tmp 28)),
 oO 30 (.load false 1 (.tmp 29)),
 oO 31 (.bin .leq 3 (.tmp 27) (.tmp 30)),
 oM 32 31,
 oG 33 (.load false 1 (.tmp 6)) 32 true,
 oG 34 (.pure (oB (.unOp .not 4 (.tmp 33)) 4)) 32 true,
 oO 35 (.pick (.tmp 32) (.tmp 34) (.const (.bool false)))]
def ac20_11 : List AOper := [
 oM 36 7,
 oO 37 (.faddr 1 (.tmp 5)),
 oD (.store 1 (.tmp 37) (.tmp 36)),
 oD (.store 1 (.tmp 6) (.const (.bool true)))]
def ac20_12 : List AOper := [
 oO 38 (.load true 2 (.tmp 5)),
 oD (.store 2 (.tmp 2) (.tmp 38)),
 oO 3 (.mv (kI 0))]
def tr20 : List (Nat × Tidy) := [tF 0 [1, 2, 3], tF 1 [1, 2, 3, 4], tF 2 [1, 2, 3, 4, 12], tF 3 [2, 3], tF 4 [1, 2, 3, 5], tF 5 [1, 2, 3, 5, 6], tF 6 [1, 2, 3, 5, 6, 7, 17], tF 7 [1, 2, 3, 5, 6, 7, 8], tF 8 [1, 2, 3, 5, 6, 7, 8, 23], tF 9 [1, 2, 3, 5, 6, 7, 8], tF 10 [1, 2, 3, 5, 6, 7, 35], tF 11 [1, 2, 3, 5, 6], tF 12 [2, 3]]
def tl20 : List (Nat × Tidy) := [(8, ⟨[1, 2, 3, 5, 6], true, [⟨false, 3, 0, 20003, 0⟩], []⟩)]
def ac20 : ACode := (.seq (.region ac20_0 [] (some ⟨[1, 2, 3], false, [], []⟩)) (.seq (.seq (.region ac20_1 [] (some ⟨[1, 2, 3, 4], false, [], []⟩)) (.seq (.region ac20_2 [] (some ⟨[1, 2, 3, 4, 12], false, [], []⟩)) (.cond (.tmp 12) (.seq (.region ac20_3 [] (some ⟨[2, 3], false, [], []⟩)) .ret) .skip))) (.seq (.region ac20_4 [] (some ⟨[1, 2, 3, 5], false, [], []⟩)) (.seq (.region ac20_5 [] (some ⟨[1, 2, 3, 5, 6], false, [], []⟩)) (.seq (.block 0 (.rangeF (.func 55) [16, 17] (some ⟨[1, 2, 3, 5, 6], true, [⟨false, 3, 0, 20003, 0⟩], []⟩) (.seq (.region ac20_6 [] (some ⟨[1, 2, 3, 5, 6, 7, 17], false, [], []⟩)) (.region ac20_7 [] (some ⟨[1, 2, 3, 5, 6, 7, 8], false, [], []⟩))) (.block 1 (.seq (.seq (.region ac20_8 [] (some ⟨[1, 2, 3, 5, 6, 7, 8, 23], false, [], []⟩)) (.cond (.tmp 23) (.region ac20_9 [] (some ⟨[1, 2, 3, 5, 6, 7, 8], false, [], []⟩)) .skip)) (.seq (.region ac20_10 [] (some ⟨[1, 2, 3, 5, 6, 7, 35], false, [], []⟩)) (.cond (.tmp 35) (.region ac20_11 [] (some ⟨[1, 2, 3, 5, 6], false, [], []⟩)) .skip)))))) (.seq (.region ac20_12 [] (some ⟨[2, 3], false, [], []⟩)) .ret))))))
def rs20 : List AResV := [.cell 2 true 2, .tmp 3]
def ft20 : FnT := ⟨39, tr20, tl20, ac20, rs20⟩
theorem is20 : FnIs Try.prog 20 39 tr20 tl20 ac20 rs20 := ⟨Try.f20, Try.func20, rfl, by kernel_rfl, by kernel_rfl, by kernel_rfl⟩
def ac56_0 : List AOper := [
 oO 4 (.mv (.const (.bool false)))]
def ac56_1 : List AOper := [
 oM 5 0,
 oO 6 (.pure (oB (.call { callee := .builtin .real, args := #[(.tmp 5)], argTypes := #[48] }) 118)),
 oO 7 (.pure (oB (.call { callee := .value (.func 72), args := #[(.tmp 6)], argTypes := #[118] }) 127)),
 oM 8 1,
 oO 9 (.pure (oB (.call { callee := .builtin .real, args := #[(.tmp 8)], argTypes := #[48] }) 118)),
 oO 10 (.pure (oB (.call { callee := .value (.func 72), args := #[(.tmp 9)], argTypes := #[118] }) 127)),
 oO 11 (.bin .eql 127 (.tmp 7) (.tmp 10)),
 oM 12 11,
 oG 13 (.mv (.tmp 0)) 12 true,
 oG 14 (.pure (oB (.call { callee := .builtin .imag, args := #[(.tmp 13)], argTypes := #[48] }) 118)) 12 true,
 oG 15 (.pure (oB (.call { callee := .value (.func 72), args := #[(.tmp 14)], argTypes := #[118] }) 127)) 12 true,
 oG 16 (.mv (.tmp 1)) 12 true,
 oG 17 (.pure (oB (.call { callee := .builtin .imag, args := #[(.tmp 16)], argTypes := #[48] }) 118)) 12 true,
 oG 18 (.pure (oB (.call { callee := .value (.func 72), args := #[(.tmp 17)], argTypes := #[118] }) 127)) 12 true,
 oG 19 (.bin .eql 127 (.tmp 15) (.tmp 18)) 12 true,
 oO 20 (.pick (.tmp 12) (.tmp 19) (.const (.bool false))),
 oM 4 20]
def tr56 : List (Nat × Tidy) := [tF 0 [0, 1], tF 1 [4]]
def tl56 : List (Nat × Tidy) := []
def ac56 : ACode := (.seq (.region ac56_0 [] (some ⟨[0, 1], false, [], []⟩)) (.seq (.region ac56_1 [] (some ⟨[4], false, [], []⟩)) .ret))
def rs56 : List AResV := [.tmp 4]
def ft56 : FnT := ⟨21, tr56, tl56, ac56, rs56⟩
theorem is56 : FnIs Try.prog 56 21 tr56 tl56 ac56 rs56 := ⟨Try.f56, Try.func56, rfl, by kernel_rfl, by kernel_rfl, by kernel_rfl⟩
def ac42_0 : List AOper := [
 oO 1 (.box (.tmp 0)),
 oO 2 (.mv (kI 0))]
def ac42_1 : List AOper := [
 oO 3 (.faddr 0 (.tmp 1)),
 oO 4 (.load true 2 (.tmp 3)),
 oO 5 (.faddr 2 (.tmp 1)),
 oO 6 (.load true 2 (.tmp 5)),
 oO 7 (.faddr 4 (.tmp 1)),
 oO 8 (.load true 2 (.tmp 7)),
 oO 9 (.bslice 2 3 [(.v (.int .i64 0)), (.v (.int .i64 0))] [(0, (.tmp 4)), (1, (.tmp 6)), (2, (.tmp 8))]),
 oO 10 (.call 68 [(kI 10000000), (.tmp 9)]),
 oM 2 10]
def tr42 : List (Nat × Tidy) := [tF 0 [1], tF 1 [2]]
def tl42 : List (Nat × Tidy) := []
def ac42 : ACode := (.seq (.region ac42_0 [] (some ⟨[1], false, [], []⟩)) (.seq (.region ac42_1 [] (some ⟨[2], false, [], []⟩)) .ret))
def rs42 : List AResV := [.tmp 2]
def ft42 : FnT := ⟨11, tr42, tl42, ac42, rs42⟩
theorem is42 : FnIs Try.prog 42 11 tr42 tl42 ac42 rs42 := ⟨Try.f42, Try.func42, rfl, by kernel_rfl, by kernel_rfl, by kernel_rfl⟩
def ac16_0 : List AOper := [
 oO 0 (.alloc [.nils, (.d (.v (.int .i64 0))), (.d (.v (.int .i64 0)))])]
def ac16_1 : List AOper := [
 oO 1 (.bslice 1 4 [(.v (.float Go.FloatKind.f32 0))] [(0, (.const (.float Go.FloatKind.f32 1106247680))), (1, (.const (.float Go.FloatKind.f32 1101004800))), (2, (.const (.float Go.FloatKind.f32 1092616192))), (3, (.const (.float Go.FloatKind.f32 1101004800)))]),
 oO 2 (.build [.nils, (.d (.v (.int .i64 0))), (.d (.v (.int .i64 0)))] [(0, 1, (.tmp 1)), (1, 1, (kI 1)), (2, 1, (kI 65536))]),
 oD (.store 3 (.tmp 0) (.tmp 2))]
def tr16 : List (Nat × Tidy) := [tF 0 [0], tF 1 [0]]
def tl16 : List (Nat × Tidy) := []
def ac16 : ACode := (.seq (.region ac16_0 [] (some ⟨[0], false, [], []⟩)) (.seq (.region ac16_1 [] (some ⟨[0], false, [], []⟩)) .ret))
def rs16 : List AResV := [.cell 0 true 3]
def ft16 : FnT := ⟨3, tr16, tl16, ac16, rs16⟩
theorem is16 : FnIs Try.prog 16 3 tr16 tl16 ac16 rs16 := ⟨Try.f16, Try.func16, rfl, by kernel_rfl, by kernel_rfl, by kernel_rfl⟩
def ac19_0 : List AOper := [
 oO 0 (.alloc [(.d (.v (.int .i64 0))), (.d (.v (.int .i64 0))), (.d (.v (.int .i64 0))), (.d (.v (.int .i64 0))), (.d (.v (.int .i64 0))), (.d (.v (.int .i64 0)))])]
def ac19_1 : List AOper := [
 oO 1 (.build [(.d (.v (.int .i64 0))), (.d (.v (.int .i64 0)))] [(0, 1, (kI 80)), (1, 1, (kI 80))]),
 oO 2 (.build [(.d (.v (.int .i64 0))), (.d (.v (.int .i64 0)))] [(0, 1, (kI 20)), (1, 1, (kI 20))]),
 oO 3 (.build [(.d (.v (.int .i64 0))), (.d (.v (.int .i64 0))), (.d (.v (.int .i64 0))), (.d (.v (.int .i64 0))), (.d (.v (.int .i64 0))), (.d (.v (.int .i64 0)))] [(0, 2, (.tmp 1)), (2, 2, (.tmp 2))]),
 oD (.store 6 (.tmp 0) (.tmp 3))]
def tr19 : List (Nat × Tidy) := [tF 0 [0], tF 1 [0]]
def tl19 : List (Nat × Tidy) := []
def ac19 : ACode := (.seq (.region ac19_0 [] (some ⟨[0], false, [], []⟩)) (.seq (.region ac19_1 [] (some ⟨[0], false, [], []⟩)) .ret))
def rs19 : List AResV := [.cell 0 true 6]
def ft19 : FnT := ⟨4, tr19, tl19, ac19, rs19⟩
theorem is19 : FnIs Try.prog 19 4 tr19 tl19 ac19 rs19 := ⟨Try.f19, Try.func19, rfl, by kernel_rfl, by kernel_rfl, by kernel_rfl⟩
def ac36_0 : List AOper := [
 oO 1 (.box (.tmp 0)),
 oO 2 (.alloc [.nils, (.d (.v (.int .i64 0))), (.d (.v (.int .i64 0)))]),
 oO 3 (.mv (kI 0)),
 oO 4 (.mv (kI 0))]
def ac36_1 : List AOper := [
 oO 11 (.faddr 0 (.tmp 1)),
 oO 12 (.load false 1 (.tmp 11)),
 oO 13 (.len (.tmp 12)),
 oM 5 13]
def ac36_2 : List AOper := [
 oM 15 5,
 oO 16 (.bin .rem 3 (.tmp 15) (kI 4)),
 oO 17 (.bin .neq 3 (.tmp 16) (kI 0)),
 oM 18 17,
 oG 19 (.mv (.tmp 5)) 18 false,
 oG 20 (.call 62 [(.tmp 19), (kI 4), (kI 64)]) 18 false,
 oG 21 (.pure (oB (.unOp .not 4 (.tmp 20)) 4)) 18 false,
 oO 22 (.pick (.tmp 18) (.const (.bool true)) (.tmp 21)),
 oM 14 22]
def ac36_3 : List AOper := [
 oO 23 (.build [.nils, (.d (.v (.int .i64 0))), (.d (.v (.int .i64 0)))] []),
 oD (.store 3 (.tmp 2) (.tmp 23)),
 oO 3 (.mv (kI 0)),
 oO 4 (.mv (kI 12))]
def ac36_4 : List AOper := [
 oO 25 (.faddr 1 (.tmp 1)),
 oO 26 (.load false 1 (.tmp 25)),
 oO 27 (.call 62 [(.tmp 26), (kI 0), (kI 65535)]),
 oO 28 (.pure (oB (.unOp .not 4 (.tmp 27)) 4)),
 oM 29 28,
 oG 30 (.faddr 2 (.tmp 1)) 29 false,
 oG 31 (.load false 1 (.tmp 30)) 29 false,
 oG 32 (.call 62 [(.tmp 31), (kI 1), (kI 65536)]) 29 false,
 oG 33 (.pure (oB (.unOp .not 4 (.tmp 32)) 4)) 29 false,
 oO 34 (.pick (.tmp 29) (.const (.bool true)) (.tmp 33)),
 oM 24 34]
def ac36_5 : List AOper := [
 oO 35 (.build [.nils, (.d (.v (.int .i64 0))), (.d (.v (.int .i64 0)))] []),
 oD (.store 3 (.tmp 2) (.tmp 35)),
 oO 3 (.mv (kI 0)),
 oO 4 (.mv (kI 2))]
def ac36_6 : List AOper := [
 oO 36 (.faddr 1 (.tmp 1)),
 oO 37 (.load false 1 (.tmp 36)),
 oO 38 (.faddr 2 (.tmp 1)),
 oO 39 (.load false 1 (.tmp 38)),
 oO 40 (.build [.nils, (.d (.v (.int .i64 0))), (.d (.v (.int .i64 0)))] [(1, 1, (.tmp 37)), (2, 1, (.tmp 39))]),
 oO 6 (.alloc [.nils, (.d (.v (.int .i64 0))), (.d (.v (.int .i64 0)))]),
 oD (.store 3 (.tmp 6) (.tmp 40))]
def ac36_7 : List AOper := [
 oO 41 (.faddr 0 (.tmp 1)),
 oO 42 (.load false 1 (.tmp 41)),
 oO 43 (.len (.tmp 42)),
 oO 44 (.mv (kI 0))]
def ac36_8 : List AOper := [
 oO 45 (.bin .lss 3 (.tmp 44) (.tmp 43))]
def ac36_9 : List AOper := [
 oM 46 44,
 oO 47 (.iaddr 1 none (.tmp 42) (.tmp 44)),
 oO 48 (.load false 1 (.tmp 47)),
 oM 7 46,
 oM 8 48]
def ac36_10 : List AOper := [
 oM 50 8,
 oO 51 (.call 65 [(.tmp 50), (kI 0), (kI 65535)]),
 oM 49 51,
 oO 52 (.extract 0 (.tmp 49)),
 oO 53 (.extract 1 (.tmp 49)),
 oM 9 52,
 oM 10 53]
def ac36_11 : List AOper := [
 oM 54 10,
 oO 55 (.bin .neq 30 (.tmp 54) (kI 0))]
def ac36_12 : List AOper := [
 oO 56 (.build [.nils, (.d (.v (.int .i64 0))), (.d (.v (.int .i64 0)))] []),
 oM 57 7,
 oM 58 10,
 oD (.store 3 (.tmp 2) (.tmp 56)),
 oM 3 57,
 oM 4 58]
def ac36_13 : List AOper := [
 oO 59 (.faddr 0 (.tmp 6)),
 oO 60 (.load false 1 (.tmp 59)),
 oM 61 9,
 oO 62 (.bslice 1 1 [(.v (.int .i64 0))] [(0, (.tmp 61))]),
 oO 63 (.append 1 8 (.tmp 60) (.tmp 62)),
 oO 64 (.faddr 0 (.tmp 6)),
 oD (.store 1 (.tmp 64) (.tmp 63))]
def ac36_14 : List AOper := [
 oO 65 (.bin .add 3 (.tmp 44) (kI 1)),
 oM 44 65]
def ac36_15 : List AOper := [
 oO 66 (.load true 3 (.tmp 6)),
 oD (.store 3 (.tmp 2) (.tmp 66)),
 oO 3 (.mv (kI 0)),
 oO 4 (.mv (kI 0))]
def tr36 : List (Nat × Tidy) := [tF 0 [1, 2], tF 1 [1, 2, 5], tF 2 [1, 2, 14], tF 3 [2, 3, 4], tF 4 [1, 2, 24], tF 5 [2, 3, 4], tF 6 [1, 2, 6], tF 7 [2, 6, 42, 43, 44], tF 8 [2, 6, 42, 43, 44, 45], tF 9 [2, 6, 7, 8, 42, 43, 44], tF 10 [2, 6, 7, 9, 10, 42, 43, 44], tF 11 [2, 6, 7, 9, 10, 42, 43, 44, 55], tF 12 [2, 3, 4], tF 13 [2, 6, 42, 43, 44], tF 14 [2, 6, 42, 43, 44], tF 15 [2, 3, 4]]
def tl36 : List (Nat × Tidy) := [(8, ⟨[2, 6, 42, 43, 44], true, [⟨false, 42, 0, 20042, 0⟩, ⟨false, 44, 0, 20044, 0⟩, ⟨true, 2, 0, 30200, 0⟩, ⟨true, 6, 0, 30600, 0⟩], []⟩)]
def ac36 : ACode := (.seq (.region ac36_0 [] (some ⟨[1, 2], false, [], []⟩)) (.seq (.seq (.region ac36_1 [] (some ⟨[1, 2, 5], false, [], []⟩)) (.block 0 (.seq (.region ac36_2 [] (some ⟨[1, 2, 14], false, [], []⟩)) (.cond (.tmp 14) (.seq (.region ac36_3 [] (some ⟨[2, 3, 4], false, [], []⟩)) .ret) (.seq (.region ac36_4 [] (some ⟨[1, 2, 24], false, [], []⟩)) (.cond (.tmp 24) (.seq (.region ac36_5 [] (some ⟨[2, 3, 4], false, [], []⟩)) .ret) .skip)))))) (.seq (.region ac36_6 [] (some ⟨[1, 2, 6], false, [], []⟩)) (.seq (.seq (.region ac36_7 [] (some ⟨[2, 6, 42, 43, 44], false, [], []⟩)) (.block 1 (.loop (some ⟨[2, 6, 42, 43, 44], true, [⟨false, 42, 0, 20042, 0⟩, ⟨false, 44, 0, 20044, 0⟩, ⟨true, 2, 0, 30200, 0⟩, ⟨true, 6, 0, 30600, 0⟩], []⟩) (.seq (.region ac36_8 [] (some ⟨[2, 6, 42, 43, 44, 45], false, [], []⟩)) (.seq (.cond (.tmp 45) .skip (.exit 1)) (.seq (.block 2 (.seq (.region ac36_9 [] (some ⟨[2, 6, 7, 8, 42, 43, 44], false, [], []⟩)) (.seq (.region ac36_10 [] (some ⟨[2, 6, 7, 9, 10, 42, 43, 44], false, [], []⟩)) (.seq (.seq (.region ac36_11 [] (some ⟨[2, 6, 7, 9, 10, 42, 43, 44, 55], false, [], []⟩)) (.cond (.tmp 55) (.seq (.region ac36_12 [] (some ⟨[2, 3, 4], false, [], []⟩)) .ret) .skip)) (.region ac36_13 [] (some ⟨[2, 6, 42, 43, 44], false, [], []⟩)))))) (.region ac36_14 [] (some ⟨[2, 6, 42, 43, 44], false, [], []⟩)))))))) (.seq (.region ac36_15 [] (some ⟨[2, 3, 4], false, [], []⟩)) .ret)))))
def rs36 : List AResV := [.cell 2 true 3, .tmp 3, .tmp 4]
def ft36 : FnT := ⟨67, tr36, tl36, ac36, rs36⟩
theorem is36 : FnIs Try.prog 36 67 tr36 tl36 ac36 rs36 := ⟨Try.f36, Try.func36, rfl, by kernel_rfl, by kernel_rfl, by kernel_rfl⟩
def ac39_0 : List AOper := [
 oO 4 (.alloc [(.d (.v (.int .i64 0))), (.d (.v (.int .i64 0)))])]
def ac39_1 : List AOper := [
 oO 5 (.alloc [(.d (.v (.int .i64 0))), (.d (.v (.int .i64 0)))])]
def ac39_2 : List AOper := [
 oM 8 0,
 oO 9 (.len (.tmp 8)),
 oO 10 (.mv (kI 0))]
def ac39_3 : List AOper := [
 oO 11 (.bin .lss 3 (.tmp 10) (.tmp 9))]
def ac39_4 : List AOper := [
 oM 12 10,
 oO 13 (.iaddr 2 none (.tmp 8) (.tmp 10)),
 oO 14 (.load true 2 (.tmp 13)),
 oO 7 (.alloc [(.d (.v (.int .i64 0))), (.d (.v (.int .i64 0)))]),
 oM 6 12,
 oD (.store 2 (.tmp 7) (.tmp 14))]
def ac39_5 : List AOper := [
 oO 15 (.load true 2 (.tmp 7)),
 oM 16 6,
 oO 17 (.bin .rem 3 (.tmp 16) (kI 4)),
 oM 18 1,
 oO 19 (.bin .rem 3 (.tmp 18) (kI 4)),
 oO 20 (.bin .mul 3 (.tmp 17) (.tmp 19)),
 oO 21 (.call 66 [(.tmp 15), (.tmp 20)]),
 oD (.store 2 (.tmp 7) (.tmp 21))]
def ac39_6 : List AOper := [
 oO 22 (.faddr 0 (.tmp 5)),
 oO 23 (.load false 1 (.tmp 22)),
 oO 24 (.faddr 0 (.tmp 7)),
 oO 25 (.load false 1 (.tmp 24)),
 oO 26 (.bin .add 3 (.tmp 23) (.tmp 25)),
 oO 27 (.faddr 1 (.tmp 5)),
 oO 28 (.load false 1 (.tmp 27)),
 oO 29 (.faddr 1 (.tmp 7)),
 oO 30 (.load false 1 (.tmp 29)),
 oO 31 (.bin .add 3 (.tmp 28) (.tmp 30)),
 oO 32 (.build [(.d (.v (.int .i64 0))), (.d (.v (.int .i64 0)))] [(0, 1, (.tmp 26)), (1, 1, (.tmp 31))]),
 oD (.store 2 (.tmp 5) (.tmp 32))]
def ac39_7 : List AOper := [
 oO 33 (.bin .add 3 (.tmp 10) (kI 1)),
 oM 10 33]
def ac39_8 : List AOper := [
 oO 34 (.load true 2 (.tmp 5)),
 oD (.store 2 (.tmp 4) (.tmp 34))]
def tr39 : List (Nat × Tidy) := [tF 0 [0, 1, 4], tF 1 [0, 1, 4, 5], tF 2 [1, 4, 5, 8, 9, 10], tF 3 [1, 4, 5, 8, 9, 10, 11], tF 4 [1, 4, 5, 6, 7, 8, 9, 10], tF 5 [1, 4, 5, 7, 8, 9, 10], tF 6 [1, 4, 5, 8, 9, 10], tF 7 [1, 4, 5, 8, 9, 10], tF 8 [4]]
def tl39 : List (Nat × Tidy) := [(3, ⟨[1, 4, 5, 8, 9, 10], true, [⟨false, 8, 0, 20008, 0⟩, ⟨false, 10, 0, 20010, 0⟩], []⟩)]
def ac39 : ACode := (.seq (.region ac39_0 [] (some ⟨[0, 1, 4], false, [], []⟩)) (.seq (.region ac39_1 [] (some ⟨[0, 1, 4, 5], false, [], []⟩)) (.seq (.seq (.region ac39_2 [] (some ⟨[1, 4, 5, 8, 9, 10], false, [], []⟩)) (.block 0 (.loop (some ⟨[1, 4, 5, 8, 9, 10], true, [⟨false, 8, 0, 20008, 0⟩, ⟨false, 10, 0, 20010, 0⟩], []⟩) (.seq (.region ac39_3 [] (some ⟨[1, 4, 5, 8, 9, 10, 11], false, [], []⟩)) (.seq (.cond (.tmp 11) .skip (.exit 0)) (.seq (.block 1 (.seq (.region ac39_4 [] (some ⟨[1, 4, 5, 6, 7, 8, 9, 10], false, [], []⟩)) (.seq (.region ac39_5 [] (some ⟨[1, 4, 5, 7, 8, 9, 10], false, [], []⟩)) (.region ac39_6 [] (some ⟨[1, 4, 5, 8, 9, 10], false, [], []⟩))))) (.region ac39_7 [] (some ⟨[1, 4, 5, 8, 9, 10], false, [], []⟩)))))))) (.seq (.region ac39_8 [] (some ⟨[4], false, [], []⟩)) .ret))))
def rs39 : List AResV := [.cell 4 true 2]
def ft39 : FnT := ⟨35, tr39, tl39, ac39, rs39⟩
theorem is39 : FnIs Try.prog 39 35 tr39 tl39 ac39 rs39 := ⟨Try.f39, Try.func39, rfl, by kernel_rfl, by kernel_rfl, by kernel_rfl⟩
def ac40_0 : List AOper := [
 oO 1 (.box (.tmp 0)),
 oO 2 (.mv (.const (.complex Go.FloatKind.f64 0 0)))]
def ac40_1 : List AOper := [
 oO 3 (.faddr 0 (.tmp 1)),
 oO 4 (.load false 1 (.tmp 3)),
 oO 5 (.pure (oB (.convert 3 118 (.tmp 4)) 118)),
 oO 6 (.faddr 1 (.tmp 1)),
 oO 7 (.load false 1 (.tmp 6)),
 oO 8 (.pure (oB (.convert 3 118 (.tmp 7)) 118)),
 oO 9 (.pure (oB (.call { callee := .builtin .complex, args := #[(.tmp 5), (.tmp 8)], argTypes := #[118, 118] }) 48)),
 oM 2 9]
def tr40 : List (Nat × Tidy) := [tF 0 [1], tF 1 [2]]
def tl40 : List (Nat × Tidy) := []
def ac40 : ACode := (.seq (.region ac40_0 [] (some ⟨[1], false, [], []⟩)) (.seq (.region ac40_1 [] (some ⟨[2], false, [], []⟩)) .ret))
def rs40 : List AResV := [.tmp 2]
def ft40 : FnT := ⟨10, tr40, tl40, ac40, rs40⟩
theorem is40 : FnIs Try.prog 40 10 tr40 tl40 ac40 rs40 := ⟨Try.f40, Try.func40, rfl, by kernel_rfl, by kernel_rfl, by kernel_rfl⟩
def ac37_0 : List AOper := [
 oO 1 (.box (.tmp 0)),
 oO 2 (.mv (.const (.slice none 0 0)))]
def ac37_1 : List AOper := [
 oO 3 (.mv (.const (.slice none 0 0)))]
def ac37_2 : List AOper := [
 oO 6 (.faddr 0 (.tmp 1)),
 oO 7 (.load false 1 (.tmp 6)),
 oO 8 (.len (.tmp 7)),
 oO 9 (.mv (kI 0))]
def ac37_3 : List AOper := [
 oO 10 (.bin .lss 3 (.tmp 9) (.tmp 8))]
def ac37_4 : List AOper := [
 oM 11 9,
 oO 12 (.iaddr 1 none (.tmp 7) (.tmp 9)),
 oO 13 (.load false 1 (.tmp 12)),
 oM 4 11,
 oM 5 13]
def ac37_5 : List AOper := [
 oM 14 5,
 oO 15 (.faddr 2 (.tmp 1)),
 oO 16 (.load false 1 (.tmp 15)),
 oO 17 (.bin .geq 3 (.tmp 14) (.tmp 16))]
def ac37_6 : List AOper := [
 oM 18 3,
 oM 19 4,
 oO 20 (.bslice 1 1 [(.v (.int .i64 0))] [(0, (.tmp 19))]),
 oO 21 (.append 1 8 (.tmp 18) (.tmp 20)),
 oM 3 21]
def ac37_7 : List AOper := [
 oO 22 (.bin .add 3 (.tmp 9) (kI 1)),
 oM 9 22]
def ac37_8 : List AOper := [
 oM 23 3,
 oM 2 23]
def tr37 : List (Nat × Tidy) := [tF 0 [1], tF 1 [1, 3], tF 2 [1, 3, 7, 8, 9], tF 3 [1, 3, 7, 8, 9, 10], tF 4 [1, 3, 4, 5, 7, 8, 9], tF 5 [1, 3, 4, 7, 8, 9, 17], tF 6 [1, 3, 7, 8, 9], tF 7 [1, 3, 7, 8, 9], tF 8 [2]]
def tl37 : List (Nat × Tidy) := [(3, ⟨[1, 3, 7, 8, 9], true, [⟨false, 3, 0, 20003, 0⟩, ⟨false, 7, 0, 20007, 0⟩, ⟨false, 9, 0, 20009, 0⟩], []⟩)]
def ac37 : ACode := (.seq (.region ac37_0 [] (some ⟨[1], false, [], []⟩)) (.seq (.region ac37_1 [] (some ⟨[1, 3], false, [], []⟩)) (.seq (.seq (.region ac37_2 [] (some ⟨[1, 3, 7, 8, 9], false, [], []⟩)) (.block 0 (.loop (some ⟨[1, 3, 7, 8, 9], true, [⟨false, 3, 0, 20003, 0⟩, ⟨false, 7, 0, 20007, 0⟩, ⟨false, 9, 0, 20009, 0⟩], []⟩) (.seq (.region ac37_3 [] (some ⟨[1, 3, 7, 8, 9, 10], false, [], []⟩)) (.seq (.cond (.tmp 10) .skip (.exit 0)) (.seq (.block 1 (.seq (.region ac37_4 [] (some ⟨[1, 3, 4, 5, 7, 8, 9], false, [], []⟩)) (.seq (.region ac37_5 [] (some ⟨[1, 3, 4, 7, 8, 9, 17], false, [], []⟩)) (.cond (.tmp 17) (.region ac37_6 [] (some ⟨[1, 3, 7, 8, 9], false, [], []⟩)) .skip)))) (.region ac37_7 [] (some ⟨[1, 3, 7, 8, 9], false, [], []⟩)))))))) (.seq (.region ac37_8 [] (some ⟨[2], false, [], []⟩)) .ret))))
def rs37 : List AResV := [.tmp 2]
def ft37 : FnT := ⟨24, tr37, tl37, ac37, rs37⟩
theorem is37 : FnIs Try.prog 37 24 tr37 tl37 ac37 rs37 := ⟨Try.f37, Try.func37, rfl, by kernel_rfl, by kernel_rfl, by kernel_rfl⟩
def ac38_0 : List AOper := [
 oO 4 (.alloc [(.d (.v (.int .i64 0))), (.d (.v (.int .i64 0)))])]
def ac38_1 : List AOper := [
 oM 5 0,
 oM 6 1,
 oO 7 (.bin .sub 3 (.tmp 5) (.tmp 6)),
 oM 8 0,
 oM 9 1,
 oO 10 (.bin .add 3 (.tmp 8) (.tmp 9)),
 oO 11 (.build [(.d (.v (.int .i64 0))), (.d (.v (.int .i64 0)))] [(0, 1, (.tmp 7)), (1, 1, (.tmp 10))]),
 oD (.store 2 (.tmp 4) (.tmp 11))]
def tr38 : List (Nat × Tidy) := [tF 0 [0, 1, 4], tF 1 [4]]
def tl38 : List (Nat × Tidy) := []
def ac38 : ACode := (.seq (.region ac38_0 [] (some ⟨[0, 1, 4], false, [], []⟩)) (.seq (.region ac38_1 [] (some ⟨[4], false, [], []⟩)) .ret))
def rs38 : List AResV := [.cell 4 true 2]
def ft38 : FnT := ⟨12, tr38, tl38, ac38, rs38⟩
theorem is38 : FnIs Try.prog 38 12 tr38 tl38 ac38 rs38 := ⟨Try.f38, Try.func38, rfl, by kernel_rfl, by kernel_rfl, by kernel_rfl⟩
def ac51_0 : List AOper := [
 oO 1 (.box (.tmp 0)),
 oO 2 (.alloc [(.d (.v (.int .i64 0))), (.d (.v (.int .i64 0)))]),
 oO 3 (.mv (kI 0))]
def ac51_1 : List AOper := [
 oO 4 (.faddr 0 (.tmp 1)),
 oO 5 (.load false 1 (.tmp 4)),
 oO 6 (.bin .gtr 3 (.tmp 5) (kI 1048576)),
 oM 7 6,
 oG 8 (.faddr 1 (.tmp 1)) 7 false,
 oG 9 (.load false 1 (.tmp 8)) 7 false,
 oG 10 (.bin .lss 3 (.tmp 9) (kI (-1048576))) 7 false,
 oO 11 (.pick (.tmp 7) (.const (.bool true)) (.tmp 10))]
def ac51_2 : List AOper := [
 oO 12 (.build [(.d (.v (.int .i64 0))), (.d (.v (.int .i64 0)))] []),
 oD (.store 2 (.tmp 2) (.tmp 12)),
 oO 3 (.mv (kI 24))]
def ac51_3 : List AOper := [
 oO 13 (.faddr 0 (.tmp 1)),
 oO 14 (.load false 1 (.tmp 13)),
 oO 15 (.pure (oB (.call { callee := .builtin .max, args := #[(.tmp 14), (kI (-1048576))], argTypes := #[3, 3] }) 3)),
 oO 16 (.faddr 1 (.tmp 1)),
 oO 17 (.load false 1 (.tmp 16)),
 oO 18 (.pure (oB (.call { callee := .builtin .min, args := #[(.tmp 17), (kI 1048576)], argTypes := #[3, 3] }) 3)),
 oO 19 (.build [(.d (.v (.int .i64 0))), (.d (.v (.int .i64 0)))] [(0, 1, (.tmp 15)), (1, 1, (.tmp 18))]),
 oD (.store 2 (.tmp 2) (.tmp 19)),
 oO 3 (.mv (kI 0))]
def tr51 : List (Nat × Tidy) := [tF 0 [1, 2], tF 1 [1, 2, 11], tF 2 [2, 3], tF 3 [2, 3]]
def tl51 : List (Nat × Tidy) := []
def ac51 : ACode := (.seq (.region ac51_0 [] (some ⟨[1, 2], false, [], []⟩)) (.seq (.seq (.region ac51_1 [] (some ⟨[1, 2, 11], false, [], []⟩)) (.cond (.tmp 11) (.seq (.region ac51_2 [] (some ⟨[2, 3], false, [], []⟩)) .ret) .skip)) (.seq (.region ac51_3 [] (some ⟨[2, 3], false, [], []⟩)) .ret)))
def rs51 : List AResV := [.cell 2 true 2, .tmp 3]
def ft51 : FnT := ⟨20, tr51, tl51, ac51, rs51⟩
theorem is51 : FnIs Try.prog 51 20 tr51 tl51 ac51 rs51 := ⟨Try.f51, Try.func51, rfl, by kernel_rfl, by kernel_rfl, by kernel_rfl⟩
def ac48_0 : List AOper := [
 oO 4 (.mv (kI 0))]
def ac48_1 : List AOper := [
 oM 6 0,
 oM 7 1,
 oO 8 (.bin .quo 3 (.tmp 6) (.tmp 7)),
 oM 5 8]
def ac48_2 : List AOper := [
 oM 9 0,
 oM 10 1,
 oO 11 (.bin .rem 3 (.tmp 9) (.tmp 10)),
 oO 12 (.bin .neq 3 (.tmp 11) (kI 0)),
 oM 13 12,
 oG 14 (.mv (.tmp 0)) 13 true,
 oG 15 (.bin .lss 3 (.tmp 14) (kI 0)) 13 true,
 oG 16 (.mv (.tmp 1)) 13 true,
 oG 17 (.bin .lss 3 (.tmp 16) (kI 0)) 13 true,
 oG 18 (.bin .neq 4 (.tmp 15) (.tmp 17)) 13 true,
 oO 19 (.pick (.tmp 13) (.tmp 18) (.const (.bool false)))]
def ac48_3 : List AOper := [
 oM 20 5,
 oO 21 (.bin .sub 3 (.tmp 20) (kI 1)),
 oM 5 21]
def ac48_4 : List AOper := [
 oM 22 5,
 oM 4 22]
def tr48 : List (Nat × Tidy) := [tF 0 [0, 1], tF 1 [0, 1, 5], tF 2 [5, 19], tF 3 [5], tF 4 [4]]
def tl48 : List (Nat × Tidy) := []
def ac48 : ACode := (.seq (.region ac48_0 [] (some ⟨[0, 1], false, [], []⟩)) (.seq (.region ac48_1 [] (some ⟨[0, 1, 5], false, [], []⟩)) (.seq (.seq (.region ac48_2 [] (some ⟨[5, 19], false, [], []⟩)) (.cond (.tmp 19) (.region ac48_3 [] (some ⟨[5], false, [], []⟩)) .skip)) (.seq (.region ac48_4 [] (some ⟨[4], false, [], []⟩)) .ret))))
def rs48 : List AResV := [.tmp 4]
def ft48 : FnT := ⟨23, tr48, tl48, ac48, rs48⟩
theorem is48 : FnIs Try.prog 48 23 tr48 tl48 ac48 rs48 := ⟨Try.f48, Try.func48, rfl, by kernel_rfl, by kernel_rfl, by kernel_rfl⟩
def ac49_0 : List AOper := [
 oO 4 (.mv (kI 0))]
def ac49_1 : List AOper := [
 oM 5 0,
 oO 6 (.pure (oB (.unOp .neg 3 (.tmp 5)) 3)),
 oM 7 1,
 oO 8 (.call 48 [(.tmp 6), (.tmp 7)]),
 oO 9 (.pure (oB (.unOp .neg 3 (.tmp 8)) 3)),
 oM 4 9]
def tr49 : List (Nat × Tidy) := [tF 0 [0, 1], tF 1 [4]]
def tl49 : List (Nat × Tidy) := []
def ac49 : ACode := (.seq (.region ac49_0 [] (some ⟨[0, 1], false, [], []⟩)) (.seq (.region ac49_1 [] (some ⟨[4], false, [], []⟩)) .ret))
def rs49 : List AResV := [.tmp 4]
def ft49 : FnT := ⟨10, tr49, tl49, ac49, rs49⟩
theorem is49 : FnIs Try.prog 49 10 tr49 tl49 ac49 rs49 := ⟨Try.f49, Try.func49, rfl, by kernel_rfl, by kernel_rfl, by kernel_rfl⟩
def ac41_0 : List AOper := [
 oO 5 (.box (.tmp 2)),
 oO 6 (.mv (kI 0))]
def ac41_1 : List AOper := [
 oM 8 0,
 oO 9 (.call 67 [(.tmp 8)]),
 oO 10 (.pure (oB (.unOp .not 4 (.tmp 9)) 4)),
 oM 7 10]
def ac41_2 : List AOper := [
 oO 6 (.mv (kI 3))]
def ac41_3 : List AOper := [
 oM 12 1,
 oO 13 (.call 62 [(.tmp 12), (kI 1000), (kI 200000)]),
 oO 14 (.pure (oB (.unOp .not 4 (.tmp 13)) 4)),
 oM 15 14,
 oG 16 (.faddr 0 (.tmp 5)) 15 false,
 oG 17 (.load false 1 (.tmp 16)) 15 false,
 oG 18 (.call 62 [(.tmp 17), (kI 5000), (kI 80000)]) 15 false,
 oG 19 (.pure (oB (.unOp .not 4 (.tmp 18)) 4)) 15 false,
 oO 20 (.pick (.tmp 15) (.const (.bool true)) (.tmp 19)),
 oM 21 20,
 oG 22 (.faddr 1 (.tmp 5)) 21 false,
 oG 23 (.load false 1 (.tmp 22)) 21 false,
 oG 24 (.call 62 [(.tmp 23), (kI 0), (kI 9999)]) 21 false,
 oG 25 (.pure (oB (.unOp .not 4 (.tmp 24)) 4)) 21 false,
 oO 26 (.pick (.tmp 21) (.const (.bool true)) (.tmp 25)),
 oM 11 26]
def ac41_4 : List AOper := [
 oO 6 (.mv (kI 2))]
def ac41_5 : List AOper := [
 oO 6 (.mv (kI 0))]
def tr41 : List (Nat × Tidy) := [tF 0 [0, 1, 5], tF 1 [1, 5, 7], tF 2 [6], tF 3 [11], tF 4 [6], tF 5 [6]]
def tl41 : List (Nat × Tidy) := []
def ac41 : ACode := (.seq (.region ac41_0 [] (some ⟨[0, 1, 5], false, [], []⟩)) (.seq (.block 0 (.seq (.region ac41_1 [] (some ⟨[1, 5, 7], false, [], []⟩)) (.cond (.tmp 7) (.seq (.region ac41_2 [] (some ⟨[6], false, [], []⟩)) .ret) (.seq (.region ac41_3 [] (some ⟨[11], false, [], []⟩)) (.cond (.tmp 11) (.seq (.region ac41_4 [] (some ⟨[6], false, [], []⟩)) .ret) .skip))))) (.seq (.region ac41_5 [] (some ⟨[6], false, [], []⟩)) .ret)))
def rs41 : List AResV := [.tmp 6]
def ft41 : FnT := ⟨27, tr41, tl41, ac41, rs41⟩
theorem is41 : FnIs Try.prog 41 27 tr41 tl41 ac41 rs41 := ⟨Try.f41, Try.func41, rfl, by kernel_rfl, by kernel_rfl, by kernel_rfl⟩
def ac43_0 : List AOper := [
 oO 1 (.box (.tmp 0)),
 oO 2 (.mv (kI 0))]
def ac43_1 : List AOper := [
 oO 4 (.faddr 2 (.tmp 1)),
 oO 5 (.load false 1 (.tmp 4)),
 oO 6 (.bin .lss 3 (.tmp 5) (kI 1)),
 oM 7 6,
 oG 8 (.faddr 2 (.tmp 1)) 7 false,
 oG 9 (.load false 1 (.tmp 8)) 7 false,
 oG 10 (.bin .gtr 3 (.tmp 9) (kI 1000)) 7 false,
 oO 11 (.pick (.tmp 7) (.const (.bool true)) (.tmp 10)),
 oM 3 11]
def ac43_2 : List AOper := [
 oO 2 (.mv (kI 2))]
def ac43_3 : List AOper := [
 oO 13 (.faddr 0 (.tmp 1)),
 oO 14 (.load false 1 (.tmp 13)),
 oO 15 (.faddr 2 (.tmp 1)),
 oO 16 (.load false 1 (.tmp 15)),
 oO 17 (.call 69 [(.tmp 14), (.tmp 16)]),
 oO 18 (.pure (oB (.unOp .not 4 (.tmp 17)) 4)),
 oM 19 18,
 oG 20 (.faddr 1 (.tmp 1)) 19 false,
 oG 21 (.load false 1 (.tmp 20)) 19 false,
 oG 22 (.faddr 2 (.tmp 1)) 19 false,
 oG 23 (.load false 1 (.tmp 22)) 19 false,
 oG 24 (.call 69 [(.tmp 21), (.tmp 23)]) 19 false,
 oG 25 (.pure (oB (.unOp .not 4 (.tmp 24)) 4)) 19 false,
 oO 26 (.pick (.tmp 19) (.const (.bool true)) (.tmp 25)),
 oM 27 26,
 oG 28 (.faddr 0 (.tmp 1)) 27 false,
 oG 29 (.load false 1 (.tmp 28)) 27 false,
 oG 30 (.faddr 0 (.tmp 1)) 27 false,
 oG 31 (.load false 1 (.tmp 30)) 27 false,
 oG 32 (.bin .mul 3 (.tmp 29) (.tmp 31)) 27 false,
 oG 33 (.faddr 1 (.tmp 1)) 27 false,
 oG 34 (.load false 1 (.tmp 33)) 27 false,
 oG 35 (.faddr 1 (.tmp 1)) 27 false,
 oG 36 (.load false 1 (.tmp 35)) 27 false,
 oG 37 (.bin .mul 3 (.tmp 34) (.tmp 36)) 27 false,
 oG 38 (.bin .add 3 (.tmp 32) (.tmp 37)) 27 false,
 oG 39 (.faddr 2 (.tmp 1)) 27 false,
 oG 40 (.load false 1 (.tmp 39)) 27 false,
 oG 41 (.faddr 2 (.tmp 1)) 27 false,
 oG 42 (.load false 1 (.tmp 41)) 27 false,
 oG 43 (.bin .mul 3 (.tmp 40) (.tmp 42)) 27 false,
 oG 44 (.bin .neq 3 (.tmp 38) (.tmp 43)) 27 false,
 oO 45 (.pick (.tmp 27) (.const (.bool true)) (.tmp 44)),
 oM 12 45]
def ac43_4 : List AOper := [
 oO 2 (.mv (kI 12))]
def ac43_5 : List AOper := [
 oO 2 (.mv (kI 0))]
def tr43 : List (Nat × Tidy) := [tF 0 [1], tF 1 [1, 3], tF 2 [2], tF 3 [12], tF 4 [2], tF 5 [2]]
def tl43 : List (Nat × Tidy) := []
def ac43 : ACode := (.seq (.region ac43_0 [] (some ⟨[1], false, [], []⟩)) (.seq (.block 0 (.seq (.region ac43_1 [] (some ⟨[1, 3], false, [], []⟩)) (.cond (.tmp 3) (.seq (.region ac43_2 [] (some ⟨[2], false, [], []⟩)) .ret) (.seq (.region ac43_3 [] (some ⟨[12], false, [], []⟩)) (.cond (.tmp 12) (.seq (.region ac43_4 [] (some ⟨[2], false, [], []⟩)) .ret) .skip))))) (.seq (.region ac43_5 [] (some ⟨[2], false, [], []⟩)) .ret)))
def rs43 : List AResV := [.tmp 2]
def ft43 : FnT := ⟨46, tr43, tl43, ac43, rs43⟩
theorem is43 : FnIs Try.prog 43 46 tr43 tl43 ac43 rs43 := ⟨Try.f43, Try.func43, rfl, by kernel_rfl, by kernel_rfl, by kernel_rfl⟩
def ac45_0 : List AOper := [
 oO 2 (.box (.tmp 0)),
 oO 3 (.alloc [(.d (.v (.int .i64 0))), (.d (.v (.int .i64 0)))])]
def ac45_1 : List AOper := [
 oO 6 (.mkfn 46 [(.tmp 1)]),
 oM 4 6]
def ac45_2 : List AOper := [
 oO 7 (.mkfn 47 [(.tmp 1)]),
 oM 5 7]
def ac45_3 : List AOper := [
 oM 8 4,
 oO 9 (.faddr 1 (.tmp 2)),
 oO 10 (.load false 1 (.tmp 9)),
 oO 11 (.calld (.tmp 8) [(.tmp 10)]),
 oM 12 5,
 oO 13 (.faddr 1 (.tmp 2)),
 oO 14 (.load false 1 (.tmp 13)),
 oO 15 (.calld (.tmp 12) [(.tmp 14)]),
 oO 16 (.call 48 [(.tmp 11), (.tmp 15)]),
 oM 17 4,
 oO 18 (.faddr 0 (.tmp 2)),
 oO 19 (.load false 1 (.tmp 18)),
 oO 20 (.calld (.tmp 17) [(.tmp 19)]),
 oM 21 5,
 oO 22 (.faddr 0 (.tmp 2)),
 oO 23 (.load false 1 (.tmp 22)),
 oO 24 (.calld (.tmp 21) [(.tmp 23)]),
 oO 25 (.call 49 [(.tmp 20), (.tmp 24)]),
 oO 26 (.build [(.d (.v (.int .i64 0))), (.d (.v (.int .i64 0)))] [(0, 1, (.tmp 16)), (1, 1, (.tmp 25))]),
 oD (.store 2 (.tmp 3) (.tmp 26))]
def tr45 : List (Nat × Tidy) := [tF 0 [1, 2, 3], tF 1 [1, 2, 3, 4], tF 2 [2, 3, 4, 5], tF 3 [3]]
def tl45 : List (Nat × Tidy) := []
def ac45 : ACode := (.seq (.region ac45_0 [] (some ⟨[1, 2, 3], false, [], []⟩)) (.seq (.region ac45_1 [] (some ⟨[1, 2, 3, 4], false, [], []⟩)) (.seq (.region ac45_2 [] (some ⟨[2, 3, 4, 5], false, [], []⟩)) (.seq (.region ac45_3 [(3, 6), (3, 11), (7, 11), (8, 11), (3, 15), (7, 15), (8, 15), (12, 15)] (some ⟨[3], false, [], []⟩)) .ret))))
def rs45 : List AResV := [.cell 3 true 2]
def ft45 : FnT := ⟨27, tr45, tl45, ac45, rs45⟩
theorem is45 : FnIs Try.prog 45 27 tr45 tl45 ac45 rs45 := ⟨Try.f45, Try.func45, rfl, by kernel_rfl, by kernel_rfl, by kernel_rfl⟩
def ac46_0 : List AOper := [
 oO 3 (.mv (kI 0))]
def ac46_1 : List AOper := [
 oO 4 (.faddr 0 (.tmp 1)),
 oO 5 (.load false 1 (.tmp 4)),
 oO 6 (.bin .mul 3 (.tmp 5) (kI 1048576)),
 oM 7 0,
 oO 8 (.faddr 2 (.tmp 1)),
 oO 9 (.load false 1 (.tmp 8)),
 oO 10 (.bin .mul 3 (.tmp 7) (.tmp 9)),
 oO 11 (.bin .sub 3 (.tmp 6) (.tmp 10)),
 oO 12 (.bin .mul 3 (.tmp 11) (kI 1048576)),
 oM 3 12]
def tr46 : List (Nat × Tidy) := [tF 0 [0, 1], tF 1 [3]]
def tl46 : List (Nat × Tidy) := []
def ac46 : ACode := (.seq (.region ac46_0 [] (some ⟨[0, 1], false, [], []⟩)) (.seq (.region ac46_1 [] (some ⟨[3], false, [], []⟩)) .ret))
def rs46 : List AResV := [.tmp 3]
def ft46 : FnT := ⟨13, tr46, tl46, ac46, rs46⟩
theorem is46 : FnIs Try.prog 46 13 tr46 tl46 ac46 rs46 := ⟨Try.f46, Try.func46, rfl, by kernel_rfl, by kernel_rfl, by kernel_rfl⟩
def ac47_0 : List AOper := [
 oO 3 (.mv (kI 0))]
def ac47_1 : List AOper := [
 oO 4 (.faddr 2 (.tmp 1)),
 oO 5 (.load false 1 (.tmp 4)),
 oO 6 (.bin .mul 3 (.tmp 5) (kI 1048576)),
 oM 7 0,
 oO 8 (.faddr 0 (.tmp 1)),
 oO 9 (.load false 1 (.tmp 8)),
 oO 10 (.bin .mul 3 (.tmp 7) (.tmp 9)),
 oO 11 (.bin .sub 3 (.tmp 6) (.tmp 10)),
 oM 3 11]
def tr47 : List (Nat × Tidy) := [tF 0 [0, 1], tF 1 [3]]
def tl47 : List (Nat × Tidy) := []
def ac47 : ACode := (.seq (.region ac47_0 [] (some ⟨[0, 1], false, [], []⟩)) (.seq (.region ac47_1 [] (some ⟨[3], false, [], []⟩)) .ret))
def rs47 : List AResV := [.tmp 3]
def ft47 : FnT := ⟨12, tr47, tl47, ac47, rs47⟩
theorem is47 : FnIs Try.prog 47 12 tr47 tl47 ac47 rs47 := ⟨Try.f47, Try.func47, rfl, by kernel_rfl, by kernel_rfl, by kernel_rfl⟩
def ac50_0 : List AOper := [
 oO 2 (.box (.tmp 0)),
 oO 3 (.box (.tmp 1)),
 oO 4 (.alloc [(.d (.v (.int .i64 0))), (.d (.v (.int .i64 0)))]),
 oO 5 (.mv (.const (.bool false)))]
def ac50_1 : List AOper := [
 oO 7 (.faddr 0 (.tmp 2)),
 oO 8 (.load false 1 (.tmp 7)),
 oO 9 (.faddr 0 (.tmp 3)),
 oO 10 (.load false 1 (.tmp 9)),
 oO 11 (.pure (oB (.call { callee := .builtin .max, args := #[(.tmp 8), (.tmp 10)], argTypes := #[3, 3] }) 3)),
 oO 12 (.faddr 1 (.tmp 2)),
 oO 13 (.load false 1 (.tmp 12)),
 oO 14 (.faddr 1 (.tmp 3)),
 oO 15 (.load false 1 (.tmp 14)),
 oO 16 (.pure (oB (.call { callee := .builtin .min, args := #[(.tmp 13), (.tmp 15)], argTypes := #[3, 3] }) 3)),
 oO 17 (.build [(.d (.v (.int .i64 0))), (.d (.v (.int .i64 0)))] [(0, 1, (.tmp 11)), (1, 1, (.tmp 16))]),
 oO 6 (.alloc [(.d (.v (.int .i64 0))), (.d (.v (.int .i64 0)))]),
 oD (.store 2 (.tmp 6) (.tmp 17))]
def ac50_2 : List AOper := [
 oO 18 (.load true 2 (.tmp 6)),
 oO 19 (.faddr 0 (.tmp 6)),
 oO 20 (.load false 1 (.tmp 19)),
 oO 21 (.faddr 1 (.tmp 6)),
 oO 22 (.load false 1 (.tmp 21)),
 oO 23 (.bin .leq 3 (.tmp 20) (.tmp 22)),
 oD (.store 2 (.tmp 4) (.tmp 18)),
 oM 5 23]
def tr50 : List (Nat × Tidy) := [tF 0 [2, 3, 4], tF 1 [4, 6], tF 2 [4, 5]]
def tl50 : List (Nat × Tidy) := []
def ac50 : ACode := (.seq (.region ac50_0 [] (some ⟨[2, 3, 4], false, [], []⟩)) (.seq (.region ac50_1 [] (some ⟨[4, 6], false, [], []⟩)) (.seq (.region ac50_2 [(2, 6), (4, 6)] (some ⟨[4, 5], false, [], []⟩)) .ret)))
def rs50 : List AResV := [.cell 4 true 2, .tmp 5]
def ft50 : FnT := ⟨24, tr50, tl50, ac50, rs50⟩
theorem is50 : FnIs Try.prog 50 24 tr50 tl50 ac50 rs50 := ⟨Try.f50, Try.func50, rfl, by kernel_rfl, by kernel_rfl, by kernel_rfl⟩
def ac52_0 : List AOper := [
 oO 2 (.mv (kI 0))]
def ac52_1 : List AOper := [
 oM 5 0,
 oO 6 (.len (.tmp 5)),
 oO 7 (.bin .lss 3 (.tmp 6) (kI 1))]
def ac52_2 : List AOper := [
 ⟨(some 8), (.ifc 9 (.const (.string ⟨#[115, 108, 105, 99, 101, 115, 46, 77, 105, 110, 58, 32, 101, 109, 112, 116, 121, 32, 108, 105, 115, 116]⟩))), none⟩,
 ⟨none, .bad, none⟩]
def ac52_3 : List AOper := [
 oM 9 0,
 oO 10 (.iaddr 1 none (.tmp 9) (kI 0)),
 oO 11 (.load false 1 (.tmp 10)),
 oM 3 11]
def ac52_4 : List AOper := [
 oO 4 (.mv (kI 1))]
def ac52_5 : List AOper := [
 oM 12 4,
 oM 13 0,
 oO 14 (.len (.tmp 13)),
 oO 15 (.bin .lss 3 (.tmp 12) (.tmp 14))]
def ac52_6 : List AOper := [
 oM 18 3,
 oM 19 0,
 oM 20 4,
 oO 21 (.iaddr 1 none (.tmp 19) (.tmp 20)),
 oO 22 (.load false 1 (.tmp 21)),
 oO 23 (.pure (oB (.call { callee := .builtin .min, args := #[(.tmp 18), (.tmp 22)], argTypes := #[3, 3] }) 3)),
 oM 3 23]
def ac52_7 : List AOper := [
 oM 16 4,
 oO 17 (.bin .add 3 (.tmp 16) (kI 1)),
 oM 4 17]
def ac52_8 : List AOper := [
 oM 24 3,
 oM 2 24]
def tr52 : List (Nat × Tidy) := [tF 0 [0], tF 1 [0, 7], tF 2 [0], tF 3 [0, 3], tF 4 [0, 3, 4], tF 5 [0, 3, 4, 15], tF 7 [0, 3, 4], tF 6 [0, 3, 4], tF 8 [2]]
def tl52 : List (Nat × Tidy) := [(5, ⟨[0, 3, 4], true, [⟨false, 3, 0, 20003, 0⟩, ⟨false, 4, 0, 20004, 0⟩], []⟩)]
def ac52 : ACode := (.seq (.region ac52_0 [] (some ⟨[0], false, [], []⟩)) (.seq (.seq (.region ac52_1 [] (some ⟨[0, 7], false, [], []⟩)) (.cond (.tmp 7) (.region ac52_2 [] (some ⟨[0], false, [], []⟩)) .skip)) (.seq (.region ac52_3 [] (some ⟨[0, 3], false, [], []⟩)) (.seq (.seq (.region ac52_4 [] (some ⟨[0, 3, 4], false, [], []⟩)) (.block 0 (.loop (some ⟨[0, 3, 4], true, [⟨false, 3, 0, 20003, 0⟩, ⟨false, 4, 0, 20004, 0⟩], []⟩) (.seq (.seq (.region ac52_5 [] (some ⟨[0, 3, 4, 15], false, [], []⟩)) (.cond (.tmp 15) .skip (.exit 0))) (.seq (.block 1 (.region ac52_6 [] (some ⟨[0, 3, 4], false, [], []⟩))) (.region ac52_7 [] (some ⟨[0, 3, 4], false, [], []⟩))))))) (.seq (.region ac52_8 [] (some ⟨[2], false, [], []⟩)) .ret)))))
def rs52 : List AResV := [.tmp 2]
def ft52 : FnT := ⟨25, tr52, tl52, ac52, rs52⟩
theorem is52 : FnIs Try.prog 52 25 tr52 tl52 ac52 rs52 := ⟨Try.f52, Try.func52, rfl, by kernel_rfl, by kernel_rfl, by kernel_rfl⟩
def ac53_0 : List AOper := [
 oO 2 (.mv (kI 0))]
def ac53_1 : List AOper := [
 oM 5 0,
 oO 6 (.len (.tmp 5)),
 oO 7 (.bin .lss 3 (.tmp 6) (kI 1))]
def ac53_2 : List AOper := [
 ⟨(some 8), (.ifc 9 (.const (.string ⟨#[115, 108, 105, 99, 101, 115, 46, 77, 97, 120, 58, 32, 101, 109, 112, 116, 121, 32, 108, 105, 115, 116]⟩))), none⟩,
 ⟨none, .bad, none⟩]
def ac53_3 : List AOper := [
 oM 9 0,
 oO 10 (.iaddr 1 none (.tmp 9) (kI 0)),
 oO 11 (.load false 1 (.tmp 10)),
 oM 3 11]
def ac53_4 : List AOper := [
 oO 4 (.mv (kI 1))]
def ac53_5 : List AOper := [
 oM 12 4,
 oM 13 0,
 oO 14 (.len (.tmp 13)),
 oO 15 (.bin .lss 3 (.tmp 12) (.tmp 14))]
def ac53_6 : List AOper := [
 oM 18 3,
 oM 19 0,
 oM 20 4,
 oO 21 (.iaddr 1 none (.tmp 19) (.tmp 20)),
 oO 22 (.load false 1 (.tmp 21)),
 oO 23 (.pure (oB (.call { callee := .builtin .max, args := #[(.tmp 18), (.tmp 22)], argTypes := #[3, 3] }) 3)),
 oM 3 23]
def ac53_7 : List AOper := [
 oM 16 4,
 oO 17 (.bin .add 3 (.tmp 16) (kI 1)),
 oM 4 17]
def ac53_8 : List AOper := [
 oM 24 3,
 oM 2 24]
def tr53 : List (Nat × Tidy) := [tF 0 [0], tF 1 [0, 7], tF 2 [0], tF 3 [0, 3], tF 4 [0, 3, 4], tF 5 [0, 3, 4, 15], tF 7 [0, 3, 4], tF 6 [0, 3, 4], tF 8 [2]]
def tl53 : List (Nat × Tidy) := [(5, ⟨[0, 3, 4], true, [⟨false, 3, 0, 20003, 0⟩, ⟨false, 4, 0, 20004, 0⟩], []⟩)]
def ac53 : ACode := (.seq (.region ac53_0 [] (some ⟨[0], false, [], []⟩)) (.seq (.seq (.region ac53_1 [] (some ⟨[0, 7], false, [], []⟩)) (.cond (.tmp 7) (.region ac53_2 [] (some ⟨[0], false, [], []⟩)) .skip)) (.seq (.region ac53_3 [] (some ⟨[0, 3], false, [], []⟩)) (.seq (.seq (.region ac53_4 [] (some ⟨[0, 3, 4], false, [], []⟩)) (.block 0 (.loop (some ⟨[0, 3, 4], true, [⟨false, 3, 0, 20003, 0⟩, ⟨false, 4, 0, 20004, 0⟩], []⟩) (.seq (.seq (.region ac53_5 [] (some ⟨[0, 3, 4, 15], false, [], []⟩)) (.cond (.tmp 15) .skip (.exit 0))) (.seq (.block 1 (.region ac53_6 [] (some ⟨[0, 3, 4], false, [], []⟩))) (.region ac53_7 [] (some ⟨[0, 3, 4], false, [], []⟩))))))) (.seq (.region ac53_8 [] (some ⟨[2], false, [], []⟩)) .ret)))))
def rs53 : List AResV := [.tmp 2]
def ft53 : FnT := ⟨25, tr53, tl53, ac53, rs53⟩
theorem is53 : FnIs Try.prog 53 25 tr53 tl53 ac53 rs53 := ⟨Try.f53, Try.func53, rfl, by kernel_rfl, by kernel_rfl, by kernel_rfl⟩
def ac68_0 : List AOper := [
 oO 4 (.mv (kI 0))]
def ac68_1 : List AOper := [
 oM 8 1,
 oO 9 (.len (.tmp 8)),
 oO 10 (.mv (kI 0))]
def ac68_2 : List AOper := [
 oO 11 (.bin .lss 3 (.tmp 10) (.tmp 9))]
def ac68_3 : List AOper := [
 oO 12 (.iaddr 2 none (.tmp 8) (.tmp 10)),
 oO 13 (.load true 2 (.tmp 12)),
 oO 6 (.alloc [(.d (.v (.int .i64 0))), (.d (.v (.int .i64 0)))]),
 oD (.store 2 (.tmp 6) (.tmp 13))]
def ac68_4 : List AOper := [
 oO 14 (.load true 2 (.tmp 6)),
 oM 15 0,
 oO 16 (.call 73 [(.tmp 14), (.tmp 15)]),
 oM 7 16]
def ac68_5 : List AOper := [
 oM 17 7,
 oO 18 (.bin .neq 30 (.tmp 17) (kI 0))]
def ac68_6 : List AOper := [
 oM 19 7,
 oM 4 19]
def ac68_7 : List AOper := [
 oO 20 (.bin .add 3 (.tmp 10) (kI 1)),
 oM 10 20]
def ac68_8 : List AOper := [
 oO 4 (.mv (kI 0))]
def tr68 : List (Nat × Tidy) := [tF 0 [0, 1], tF 1 [0, 8, 9, 10], tF 2 [0, 8, 9, 10, 11], tF 3 [0, 6, 8, 9, 10], tF 4 [0, 7, 8, 9, 10], tF 5 [0, 7, 8, 9, 10, 18], tF 6 [4], tF 7 [0, 8, 9, 10], tF 8 [4]]
def tl68 : List (Nat × Tidy) := [(2, ⟨[0, 8, 9, 10], true, [⟨false, 8, 0, 20008, 0⟩, ⟨false, 10, 0, 20010, 0⟩], []⟩)]
def ac68 : ACode := (.seq (.region ac68_0 [] (some ⟨[0, 1], false, [], []⟩)) (.seq (.seq (.region ac68_1 [] (some ⟨[0, 8, 9, 10], false, [], []⟩)) (.block 0 (.loop (some ⟨[0, 8, 9, 10], true, [⟨false, 8, 0, 20008, 0⟩, ⟨false, 10, 0, 20010, 0⟩], []⟩) (.seq (.region ac68_2 [] (some ⟨[0, 8, 9, 10, 11], false, [], []⟩)) (.seq (.cond (.tmp 11) .skip (.exit 0)) (.seq (.block 1 (.seq (.region ac68_3 [] (some ⟨[0, 6, 8, 9, 10], false, [], []⟩)) (.seq (.region ac68_4 [] (some ⟨[0, 7, 8, 9, 10], false, [], []⟩)) (.seq (.region ac68_5 [] (some ⟨[0, 7, 8, 9, 10, 18], false, [], []⟩)) (.cond (.tmp 18) (.seq (.region ac68_6 [] (some ⟨[4], false, [], []⟩)) .ret) .skip))))) (.region ac68_7 [] (some ⟨[0, 8, 9, 10], false, [], []⟩)))))))) (.seq (.region ac68_8 [] (some ⟨[4], false, [], []⟩)) .ret)))
def rs68 : List AResV := [.tmp 4]
def ft68 : FnT := ⟨21, tr68, tl68, ac68, rs68⟩
theorem is68 : FnIs Try.prog 68 21 tr68 tl68 ac68 rs68 := ⟨Try.f68, Try.func68, rfl, by kernel_rfl, by kernel_rfl, by kernel_rfl⟩
def ac62_0 : List AOper := [
 oO 6 (.mv (.const (.bool false)))]
def ac62_1 : List AOper := [
 oM 7 1,
 oM 8 0,
 oO 9 (.bin .leq 3 (.tmp 7) (.tmp 8)),
 oM 10 9,
 oG 11 (.mv (.tmp 0)) 10 true,
 oG 12 (.mv (.tmp 2)) 10 true,
 oG 13 (.bin .leq 3 (.tmp 11) (.tmp 12)) 10 true,
 oO 14 (.pick (.tmp 10) (.tmp 13) (.const (.bool false))),
 oM 6 14]
def tr62 : List (Nat × Tidy) := [tF 0 [0, 1, 2], tF 1 [6]]
def tl62 : List (Nat × Tidy) := []
def ac62 : ACode := (.seq (.region ac62_0 [] (some ⟨[0, 1, 2], false, [], []⟩)) (.seq (.region ac62_1 [] (some ⟨[6], false, [], []⟩)) .ret))
def rs62 : List AResV := [.tmp 6]
def ft62 : FnT := ⟨15, tr62, tl62, ac62, rs62⟩
theorem is62 : FnIs Try.prog 62 15 tr62 tl62 ac62 rs62 := ⟨Try.f62, Try.func62, rfl, by kernel_rfl, by kernel_rfl, by kernel_rfl⟩
def ac58_0 : List AOper := [
 oO 4 (.mv (.const (.bool false)))]
def ac58_1 : List AOper := [
 oM 5 0,
 oM 6 1,
 oO 7 (.pure (oB (.unOp .neg 3 (.tmp 6)) 3)),
 oM 8 1,
 oO 9 (.call 62 [(.tmp 5), (.tmp 7), (.tmp 8)]),
 oM 4 9]
def tr58 : List (Nat × Tidy) := [tF 0 [0, 1], tF 1 [4]]
def tl58 : List (Nat × Tidy) := []
def ac58 : ACode := (.seq (.region ac58_0 [] (some ⟨[0, 1], false, [], []⟩)) (.seq (.region ac58_1 [] (some ⟨[4], false, [], []⟩)) .ret))
def rs58 : List AResV := [.tmp 4]
def ft58 : FnT := ⟨10, tr58, tl58, ac58, rs58⟩
theorem is58 : FnIs Try.prog 58 10 tr58 tl58 ac58 rs58 := ⟨Try.f58, Try.func58, rfl, by kernel_rfl, by kernel_rfl, by kernel_rfl⟩
def ac65_0 : List AOper := [
 oO 6 (.mv (kI 0)),
 oO 7 (.mv (kI 0))]
def ac65_1 : List AOper := [
 oM 9 0,
 oM 10 0,
 oO 11 (.bin .neq 88 (.tmp 9) (.tmp 10)),
 oM 12 11,
 oG 13 (.mv (.tmp 0)) 12 false,
 oG 14 (.mv (.tmp 0)) 12 false,
 oG 15 (.bin .sub 88 (.tmp 13) (.tmp 14)) 12 false,
 oG 16 (.bin .neq 88 (.tmp 15) (.const (.float Go.FloatKind.f32 0))) 12 false,
 oO 17 (.pick (.tmp 12) (.const (.bool true)) (.tmp 16)),
 oM 8 17]
def ac65_2 : List AOper := [
 oO 6 (.mv (kI 0)),
 oO 7 (.mv (kI 27))]
def ac65_3 : List AOper := [
 oM 19 0,
 oO 20 (.bin .gtr 88 (.tmp 19) (.const (.float Go.FloatKind.f32 1317011456))),
 oM 21 20,
 oG 22 (.mv (.tmp 0)) 21 false,
 oG 23 (.bin .lss 88 (.tmp 22) (.const (.float Go.FloatKind.f32 3464495104))) 21 false,
 oO 24 (.pick (.tmp 21) (.const (.bool true)) (.tmp 23)),
 oM 18 24]
def ac65_4 : List AOper := [
 oO 6 (.mv (kI 0)),
 oO 7 (.mv (kI 2))]
def ac65_5 : List AOper := [
 oM 26 0,
 oO 27 (.pure (oB (.convert 88 3 (.tmp 26)) 3)),
 oO 28 (.pure (oB (.convert 3 88 (.tmp 27)) 88)),
 oM 29 0,
 oO 30 (.bin .neq 88 (.tmp 28) (.tmp 29)),
 oM 25 30]
def ac65_6 : List AOper := [
 oO 6 (.mv (kI 0)),
 oO 7 (.mv (kI 27))]
def ac65_7 : List AOper := [
 oM 32 0,
 oO 33 (.pure (oB (.convert 88 3 (.tmp 32)) 3)),
 oM 34 1,
 oM 35 2,
 oO 36 (.call 62 [(.tmp 33), (.tmp 34), (.tmp 35)]),
 oO 37 (.pure (oB (.unOp .not 4 (.tmp 36)) 4)),
 oM 31 37]
def ac65_8 : List AOper := [
 oO 6 (.mv (kI 0)),
 oO 7 (.mv (kI 2))]
def ac65_9 : List AOper := [
 oM 38 0,
 oO 39 (.pure (oB (.convert 88 3 (.tmp 38)) 3)),
 oM 6 39,
 oO 7 (.mv (kI 0))]
def tr65 : List (Nat × Tidy) := [tF 0 [0, 1, 2], tF 1 [0, 1, 2, 8], tF 2 [6, 7], tF 3 [0, 1, 2, 18], tF 4 [6, 7], tF 5 [0, 1, 2, 25], tF 6 [6, 7], tF 7 [0, 31], tF 8 [6, 7], tF 9 [6, 7]]
def tl65 : List (Nat × Tidy) := []
def ac65 : ACode := (.seq (.region ac65_0 [] (some ⟨[0, 1, 2], false, [], []⟩)) (.seq (.block 0 (.seq (.region ac65_1 [] (some ⟨[0, 1, 2, 8], false, [], []⟩)) (.cond (.tmp 8) (.seq (.region ac65_2 [] (some ⟨[6, 7], false, [], []⟩)) .ret) (.seq (.region ac65_3 [] (some ⟨[0, 1, 2, 18], false, [], []⟩)) (.cond (.tmp 18) (.seq (.region ac65_4 [] (some ⟨[6, 7], false, [], []⟩)) .ret) (.seq (.region ac65_5 [] (some ⟨[0, 1, 2, 25], false, [], []⟩)) (.cond (.tmp 25) (.seq (.region ac65_6 [] (some ⟨[6, 7], false, [], []⟩)) .ret) (.seq (.region ac65_7 [] (some ⟨[0, 31], false, [], []⟩)) (.cond (.tmp 31) (.seq (.region ac65_8 [] (some ⟨[6, 7], false, [], []⟩)) .ret) .skip))))))))) (.seq (.region ac65_9 [] (some ⟨[6, 7], false, [], []⟩)) .ret)))
def rs65 : List AResV := [.tmp 6, .tmp 7]
def ft65 : FnT := ⟨40, tr65, tl65, ac65, rs65⟩
theorem is65 : FnIs Try.prog 65 40 tr65 tl65 ac65 rs65 := ⟨Try.f65, Try.func65, rfl, by kernel_rfl, by kernel_rfl, by kernel_rfl⟩
def ac66_0 : List AOper := [
 oO 2 (.box (.tmp 0)),
 oO 4 (.alloc [(.d (.v (.int .i64 0))), (.d (.v (.int .i64 0)))])]
def ac66_1 : List AOper := [
 oM 5 1,
 oO 6 (.bin .rem 3 (.tmp 5) (kI 4)),
 oO 7 (.bin .add 3 (.tmp 6) (kI 4)),
 oO 8 (.bin .rem 3 (.tmp 7) (kI 4))]
def ac66_2 : List AOper := [
 oO 10 (.bin .eql 3 (.tmp 8) (kI 1)),
 oM 9 10]
def ac66_3 : List AOper := [
 oO 11 (.faddr 1 (.tmp 2)),
 oO 12 (.load false 1 (.tmp 11)),
 oO 13 (.pure (oB (.unOp .neg 3 (.tmp 12)) 3)),
 oO 14 (.faddr 0 (.tmp 2)),
 oO 15 (.load false 1 (.tmp 14)),
 oO 16 (.build [(.d (.v (.int .i64 0))), (.d (.v (.int .i64 0)))] [(0, 1, (.tmp 13)), (1, 1, (.tmp 15))]),
 oD (.store 2 (.tmp 4) (.tmp 16))]
def ac66_4 : List AOper := [
 oO 18 (.bin .eql 3 (.tmp 8) (kI 2)),
 oM 17 18]
def ac66_5 : List AOper := [
 oO 19 (.faddr 0 (.tmp 2)),
 oO 20 (.load false 1 (.tmp 19)),
 oO 21 (.pure (oB (.unOp .neg 3 (.tmp 20)) 3)),
 oO 22 (.faddr 1 (.tmp 2)),
 oO 23 (.load false 1 (.tmp 22)),
 oO 24 (.pure (oB (.unOp .neg 3 (.tmp 23)) 3)),
 oO 25 (.build [(.d (.v (.int .i64 0))), (.d (.v (.int .i64 0)))] [(0, 1, (.tmp 21)), (1, 1, (.tmp 24))]),
 oD (.store 2 (.tmp 4) (.tmp 25))]
def ac66_6 : List AOper := [
 oO 27 (.bin .eql 3 (.tmp 8) (kI 3)),
 oM 26 27]
def ac66_7 : List AOper := [
 oO 28 (.faddr 1 (.tmp 2)),
 oO 29 (.load false 1 (.tmp 28)),
 oO 30 (.faddr 0 (.tmp 2)),
 oO 31 (.load false 1 (.tmp 30)),
 oO 32 (.pure (oB (.unOp .neg 3 (.tmp 31)) 3)),
 oO 33 (.build [(.d (.v (.int .i64 0))), (.d (.v (.int .i64 0)))] [(0, 1, (.tmp 29)), (1, 1, (.tmp 32))]),
 oD (.store 2 (.tmp 4) (.tmp 33))]
def ac66_8 : List AOper := [
 oO 34 (.load true 2 (.tmp 2)),
 oD (.store 2 (.tmp 4) (.tmp 34))]
def tr66 : List (Nat × Tidy) := [tF 0 [1, 2, 4], tF 1 [2, 4, 8], tF 2 [2, 4, 8, 9], tF 3 [4], tF 4 [2, 4, 8, 17], tF 5 [4], tF 6 [2, 4, 26], tF 7 [4], tF 8 [4]]
def tl66 : List (Nat × Tidy) := []
def ac66 : ACode := (.seq (.region ac66_0 [] (some ⟨[1, 2, 4], false, [], []⟩)) (.seq (.seq (.region ac66_1 [] (some ⟨[2, 4, 8], false, [], []⟩)) (.block 0 (.seq (.region ac66_2 [] (some ⟨[2, 4, 8, 9], false, [], []⟩)) (.cond (.tmp 9) (.seq (.region ac66_3 [] (some ⟨[4], false, [], []⟩)) .ret) (.seq (.region ac66_4 [] (some ⟨[2, 4, 8, 17], false, [], []⟩)) (.cond (.tmp 17) (.seq (.region ac66_5 [] (some ⟨[4], false, [], []⟩)) .ret) (.seq (.region ac66_6 [] (some ⟨[2, 4, 26], false, [], []⟩)) (.cond (.tmp 26) (.seq (.region ac66_7 [] (some ⟨[4], false, [], []⟩)) .ret) .skip)))))))) (.seq (.region ac66_8 [] (some ⟨[4], false, [], []⟩)) .ret)))
def rs66 : List AResV := [.cell 4 true 2]
def ft66 : FnT := ⟨35, tr66, tl66, ac66, rs66⟩
theorem is66 : FnIs Try.prog 66 35 tr66 tl66 ac66 rs66 := ⟨Try.f66, Try.func66, rfl, by kernel_rfl, by kernel_rfl, by kernel_rfl⟩
def ac67_0 : List AOper := [
 oO 2 (.mv (.const (.bool false)))]
def ac67_1 : List AOper := [
 oM 6 0,
 oO 7 (.bytes (.tmp 6)),
 oO 8 (.len (.tmp 7)),
 oO 9 (.mv (kI 0))]
def ac67_2 : List AOper := [
 oO 10 (.bin .lss 3 (.tmp 9) (.tmp 8))]
def ac67_3 : List AOper := [
 oM 11 9,
 oO 12 (.iaddr 1 none (.tmp 7) (.tmp 9)),
 oO 13 (.load false 1 (.tmp 12)),
 oM 3 11,
 oM 4 13]
def ac67_4 : List AOper := [
 oM 14 4,
 oO 15 (.bin .geq 5 (.tmp 14) (.const (.int .u8 97))),
 oM 16 15,
 oG 17 (.mv (.tmp 4)) 16 true,
 oG 18 (.bin .leq 5 (.tmp 17) (.const (.int .u8 122))) 16 true,
 oO 19 (.pick (.tmp 16) (.tmp 18) (.const (.bool false))),
 oM 20 19,
 oG 21 (.mv (.tmp 4)) 20 false,
 oG 22 (.bin .geq 5 (.tmp 21) (.const (.int .u8 65))) 20 false,
 oG 23 (.mv (.tmp 22)) 20 false,
 oG 24 (.mv (.tmp 4)) 23 true,
 oG 25 (.bin .leq 5 (.tmp 24) (.const (.int .u8 90))) 23 true,
 oG 26 (.pick (.tmp 23) (.tmp 25) (.const (.bool false))) 20 false,
 oO 27 (.pick (.tmp 20) (.const (.bool true)) (.tmp 26)),
 oM 5 27]
def ac67_5 : List AOper := [
 oM 28 5,
 oO 29 (.pure (oB (.unOp .not 4 (.tmp 28)) 4)),
 oM 30 29,
 oG 31 (.mv (.tmp 3)) 30 true,
 oG 32 (.bin .eql 3 (.tmp 31) (kI 0)) 30 true,
 oG 33 (.mv (.tmp 32)) 30 true,
 oG 34 (.mv (.tmp 4)) 33 false,
 oG 35 (.bin .neq 5 (.tmp 34) (.const (.int .u8 45))) 33 false,
 oG 36 (.mv (.tmp 35)) 33 false,
 oG 37 (.mv (.tmp 4)) 36 true,
 oG 38 (.bin .lss 5 (.tmp 37) (.const (.int .u8 48))) 36 true,
 oG 39 (.mv (.tmp 38)) 36 true,
 oG 40 (.mv (.tmp 4)) 39 false,
 oG 41 (.bin .gtr 5 (.tmp 40) (.const (.int .u8 57))) 39 false,
 oG 42 (.pick (.tmp 39) (.const (.bool true)) (.tmp 41)) 36 true,
 oG 43 (.pick (.tmp 36) (.tmp 42) (.const (.bool false))) 33 false,
 oG 44 (.pick (.tmp 33) (.const (.bool true)) (.tmp 43)) 30 true,
 oO 45 (.pick (.tmp 30) (.tmp 44) (.const (.bool false)))]
def ac67_6 : List AOper := [
 oO 2 (.mv (.const (.bool false)))]
def ac67_7 : List AOper := [
 oO 46 (.bin .add 3 (.tmp 9) (kI 1)),
 oM 9 46]
def ac67_8 : List AOper := [
 oM 47 0,
 ⟨(some 48), (.bin .neq 9 (.tmp 47) (.const (.string ⟨#[]⟩))), none⟩,
 oM 49 48,
 oG 50 (.mv (.tmp 0)) 49 true,
 oG 51 (.pure (oB (.call { callee := .builtin .len, args := #[(.tmp 50)], argTypes := #[9] }) 3)) 49 true,
 oG 52 (.bin .leq 3 (.tmp 51) (kI 12)) 49 true,
 oO 53 (.pick (.tmp 49) (.tmp 52) (.const (.bool false))),
 oM 2 53]
def tr67 : List (Nat × Tidy) := [tF 0 [0], tF 1 [0, 7, 8, 9], tF 2 [0, 7, 8, 9, 10], tF 3 [0, 3, 4, 7, 8, 9], tF 4 [0, 3, 4, 5, 7, 8, 9], tF 5 [0, 7, 8, 9, 45], tF 6 [2], tF 7 [0, 7, 8, 9], tF 8 [2]]
def tl67 : List (Nat × Tidy) := [(2, ⟨[0, 7, 8, 9], true, [⟨false, 7, 0, 20007, 0⟩, ⟨false, 9, 0, 20009, 0⟩], []⟩)]
def ac67 : ACode := (.seq (.region ac67_0 [] (some ⟨[0], false, [], []⟩)) (.seq (.seq (.region ac67_1 [] (some ⟨[0, 7, 8, 9], false, [], []⟩)) (.block 0 (.loop (some ⟨[0, 7, 8, 9], true, [⟨false, 7, 0, 20007, 0⟩, ⟨false, 9, 0, 20009, 0⟩], []⟩) (.seq (.region ac67_2 [] (some ⟨[0, 7, 8, 9, 10], false, [], []⟩)) (.seq (.cond (.tmp 10) .skip (.exit 0)) (.seq (.block 1 (.seq (.region ac67_3 [] (some ⟨[0, 3, 4, 7, 8, 9], false, [], []⟩)) (.seq (.region ac67_4 [] (some ⟨[0, 3, 4, 5, 7, 8, 9], false, [], []⟩)) (.seq (.region ac67_5 [] (some ⟨[0, 7, 8, 9, 45], false, [], []⟩)) (.cond (.tmp 45) (.seq (.region ac67_6 [] (some ⟨[2], false, [], []⟩)) .ret) .skip))))) (.region ac67_7 [] (some ⟨[0, 7, 8, 9], false, [], []⟩)))))))) (.seq (.region ac67_8 [] (some ⟨[2], false, [], []⟩)) .ret)))
def rs67 : List AResV := [.tmp 2]
def ft67 : FnT := ⟨54, tr67, tl67, ac67, rs67⟩
theorem is67 : FnIs Try.prog 67 54 tr67 tl67 ac67 rs67 := ⟨Try.f67, Try.func67, rfl, by kernel_rfl, by kernel_rfl, by kernel_rfl⟩
def ac69_0 : List AOper := [
 oO 4 (.mv (.const (.bool false)))]
def ac69_1 : List AOper := [
 oM 5 1,
 oO 6 (.pure (oB (.unOp .neg 3 (.tmp 5)) 3)),
 oM 7 0,
 oO 8 (.bin .leq 3 (.tmp 6) (.tmp 7)),
 oM 9 8,
 oG 10 (.mv (.tmp 0)) 9 true,
 oG 11 (.mv (.tmp 1)) 9 true,
 oG 12 (.bin .leq 3 (.tmp 10) (.tmp 11)) 9 true,
 oO 13 (.pick (.tmp 9) (.tmp 12) (.const (.bool false))),
 oM 4 13]
def tr69 : List (Nat × Tidy) := [tF 0 [0, 1], tF 1 [4]]
def tl69 : List (Nat × Tidy) := []
def ac69 : ACode := (.seq (.region ac69_0 [] (some ⟨[0, 1], false, [], []⟩)) (.seq (.region ac69_1 [] (some ⟨[4], false, [], []⟩)) .ret))
def rs69 : List AResV := [.tmp 4]
def ft69 : FnT := ⟨14, tr69, tl69, ac69, rs69⟩
theorem is69 : FnIs Try.prog 69 14 tr69 tl69 ac69 rs69 := ⟨Try.f69, Try.func69, rfl, by kernel_rfl, by kernel_rfl, by kernel_rfl⟩
def ac73_0 : List AOper := [
 oO 2 (.box (.tmp 0)),
 oO 4 (.mv (kI 0))]
def ac73_1 : List AOper := [
 oO 6 (.faddr 0 (.tmp 2)),
 oO 7 (.load false 1 (.tmp 6)),
 oM 8 1,
 oO 9 (.call 58 [(.tmp 7), (.tmp 8)]),
 oO 10 (.pure (oB (.unOp .not 4 (.tmp 9)) 4)),
 oM 11 10,
 oG 12 (.faddr 1 (.tmp 2)) 11 false,
 oG 13 (.load false 1 (.tmp 12)) 11 false,
 oG 14 (.mv (.tmp 1)) 11 false,
 oG 15 (.call 58 [(.tmp 13), (.tmp 14)]) 11 false,
 oG 16 (.pure (oB (.unOp .not 4 (.tmp 15)) 4)) 11 false,
 oO 17 (.pick (.tmp 11) (.const (.bool true)) (.tmp 16)),
 oM 5 17]
def ac73_2 : List AOper := [
 oO 4 (.mv (kI 2))]
def ac73_3 : List AOper := [
 oO 19 (.faddr 0 (.tmp 2)),
 oO 20 (.load false 1 (.tmp 19)),
 oO 21 (.faddr 1 (.tmp 2)),
 oO 22 (.load false 1 (.tmp 21)),
 oO 23 (.bin .gtr 3 (.tmp 20) (.tmp 22)),
 oM 18 23]
def ac73_4 : List AOper := [
 oO 4 (.mv (kI 10))]
def ac73_5 : List AOper := [
 oO 4 (.mv (kI 0))]
def tr73 : List (Nat × Tidy) := [tF 0 [1, 2], tF 1 [2, 5], tF 2 [4], tF 3 [18], tF 4 [4], tF 5 [4]]
def tl73 : List (Nat × Tidy) := []
def ac73 : ACode := (.seq (.region ac73_0 [] (some ⟨[1, 2], false, [], []⟩)) (.seq (.block 0 (.seq (.region ac73_1 [] (some ⟨[2, 5], false, [], []⟩)) (.cond (.tmp 5) (.seq (.region ac73_2 [] (some ⟨[4], false, [], []⟩)) .ret) (.seq (.region ac73_3 [] (some ⟨[18], false, [], []⟩)) (.cond (.tmp 18) (.seq (.region ac73_4 [] (some ⟨[4], false, [], []⟩)) .ret) .skip))))) (.seq (.region ac73_5 [] (some ⟨[4], false, [], []⟩)) .ret)))
def rs73 : List AResV := [.tmp 4]
def ft73 : FnT := ⟨24, tr73, tl73, ac73, rs73⟩
theorem is73 : FnIs Try.prog 73 24 tr73 tl73 ac73 rs73 := ⟨Try.f73, Try.func73, rfl, by kernel_rfl, by kernel_rfl, by kernel_rfl⟩
def tblM : List (Nat × FnT) := [(5, ft5), (17, ft17), (15, ft15), (21, ft21), (14, ft14), (44, ft44), (18, ft18), (54, ft54), (20, ft20), (56, ft56), (42, ft42), (16, ft16), (19, ft19), (36, ft36), (39, ft39), (40, ft40), (37, ft37), (38, ft38), (51, ft51), (48, ft48), (49, ft49), (41, ft41), (43, ft43), (45, ft45), (46, ft46), (47, ft47), (50, ft50), (52, ft52), (53, ft53), (68, ft68), (62, ft62), (58, ft58), (65, ft65), (66, ft66), (67, ft67), (69, ft69), (73, ft73)]
theorem tblMOk : TblOk Try.prog tblM := ⟨is5, is17, is15, is21, is14, is44, is18, is54, is20, is56, is42, is16, is19, is36, is39, is40, is37, is38, is51, is48, is49, is41, is43, is45, is46, is47, is50, is52, is53, is68, is62, is58, is65, is66, is67, is69, is73, trivial⟩
end Go.AM
