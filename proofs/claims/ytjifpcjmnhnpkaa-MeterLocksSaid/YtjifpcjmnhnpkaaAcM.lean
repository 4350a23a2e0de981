/- The code of the functions that the first examples of chapter 6 run. -/
import Derived.Test.YtjifpcjmnhnpkaaAMc
import Derived.Test.YtjifpcjmnhnpkaaProg
namespace Go.AM
open Go.Proofs
set_option maxRecDepth 100000
set_option linter.unusedVariables false
def ac15_0 : List AOper := [
 oO 0 (.mv (.const (.bool false)))]
def ac15_1 : List AOper := [
 oO 10 (.call 65 []),
 oO 11 (.call 17 [(.tmp 10)]),
 oO 12 (.call 21 [(.tmp 11)]),
 oM 9 12,
 oO 13 (.extract 0 (.tmp 9)),
 oO 14 (.extract 1 (.tmp 9)),
 oO 1 (.alloc [(.d (.v (.int .i64 0))), (.d (.v (.int .i64 0))), (.d (.v (.int .i64 0))), (.d (.v (.int .i64 0))), (.d (.v (.int .i64 0))), (.d (.v (.int .i64 0)))]),
 oD (.store 6 (.tmp 1) (.tmp 13)),
 oM 2 14]
def ac15_2 : List AOper := [
 oO 16 (.call 65 []),
 oO 17 (.call 17 [(.tmp 16)]),
 oO 18 (.call 16 [(.tmp 17)]),
 oM 15 18,
 oO 19 (.extract 0 (.tmp 15)),
 oO 20 (.extract 1 (.tmp 15)),
 oO 3 (.alloc [(.d (.v (.complex Go.FloatKind.f64 0 0))), (.d (.v (.complex Go.FloatKind.f64 0 0))), (.d (.v (.complex Go.FloatKind.f64 0 0))), (.d (.v (.complex Go.FloatKind.f64 0 0)))]),
 oD (.store 4 (.tmp 3) (.tmp 19)),
 oM 4 20]
def ac15_3 : List AOper := [
 oO 22 (.build [(.d (.v (.int .i64 0))), (.d (.v (.int .i64 0)))] [(0, 1, (kI 10000)), (1, 1, (kI 7071))]),
 oO 23 (.call 66 []),
 oO 24 (.call 66 []),
 oO 25 (.build [(.d (.v (.int .i64 0))), (.d (.v (.int .i64 0))), (.d (.v (.int .i64 0)))] [(1, 1, (kI 1)), (2, 1, (kI 1))]),
 ⟨(some 26), (.build [(.d (.v (.string ⟨#[]⟩))), (.d (.v (.int .i64 0))), (.d (.v (.int .i64 0))), (.d (.v (.int .i64 0))), (.d (.v (.int .i64 0))), (.d (.v (.int .i64 0))), (.d (.v (.int .i64 0))), (.d (.v (.int .i64 0))), (.d (.v (.int .i64 0))), (.d (.v (.int .i64 0))), (.d (.v (.int .i64 0))), (.d (.v (.int .i64 0))), (.d (.v (.int .i64 0))), (.d (.v (.int .i64 0))), (.d (.v (.int .i64 0))), (.d (.v (.int .i64 0))), (.d (.v (.int .i64 0))), (.d (.v (.int .i64 0))), (.d (.v (.int .i64 0)))] [(0, 1, (.const (.string ⟨#[112]⟩))), (1, 1, (kI 6328)), (2, 2, (.tmp 22)), (4, 6, (.tmp 23)), (10, 6, (.tmp 24)), (16, 3, (.tmp 25))]), none⟩,
 oO 27 (.call 26 [(.tmp 26)]),
 oM 21 27,
 oO 28 (.extract 0 (.tmp 21)),
 oO 29 (.extract 1 (.tmp 21)),
 ⟨(some 5), (.alloc [(.d (.v (.string ⟨#[]⟩))), (.d (.v (.int .i64 0))), (.d (.v (.int .i64 0))), (.d (.v (.int .i64 0))), (.d (.v (.int .i64 0))), (.d (.v (.int .i64 0))), (.d (.v (.int .i64 0))), (.d (.v (.int .i64 0))), (.d (.v (.int .i64 0))), (.d (.v (.int .i64 0)))]), none⟩,
 oD (.store 10 (.tmp 5) (.tmp 28)),
 oM 6 29]
def ac15_4 : List AOper := [
 oO 31 (.build [(.d (.v (.int .i64 0))), (.d (.v (.int .i64 0)))] [(0, 1, (kI 10000)), (1, 1, (kI 7071))]),
 oO 32 (.build [(.d (.v (.int .i64 0))), (.d (.v (.int .i64 0)))] [(0, 1, (kI (-524288))), (1, 1, (kI (-524288)))]),
 ⟨(some 33), (.build [(.d (.v (.string ⟨#[]⟩))), (.d (.v (.int .i64 0))), (.d (.v (.int .i64 0))), (.d (.v (.int .i64 0))), (.d (.v (.int .i64 0))), (.d (.v (.int .i64 0))), (.d (.v (.int .i64 0))), (.d (.v (.int .i64 0))), (.d (.v (.int .i64 0))), (.d (.v (.int .i64 0)))] [(0, 1, (.const (.string ⟨#[112]⟩))), (1, 1, (kI 6328)), (2, 2, (.tmp 31)), (4, 2, (.tmp 32))]), none⟩,
 oO 34 (.call 48 [(.tmp 33)]),
 oM 30 34,
 oO 35 (.extract 0 (.tmp 30)),
 oO 36 (.extract 1 (.tmp 30)),
 oO 7 (.alloc [(.d (.v (.int .i64 0))), (.d (.v (.int .i64 0)))]),
 oD (.store 2 (.tmp 7) (.tmp 35)),
 oM 8 36]
def ac15_5 : List AOper := [
 oM 37 2,
 oO 38 (.bin .eql 28 (.tmp 37) (kI 0)),
 oM 39 38,
 oG 40 (.load true 6 (.tmp 1)) 39 true,
 oG 41 (.build [(.d (.v (.int .i64 0))), (.d (.v (.int .i64 0)))] [(0, 1, (kI 76)), (1, 1, (kI 84))]) 39 true,
 oG 42 (.build [(.d (.v (.int .i64 0))), (.d (.v (.int .i64 0)))] [(0, 1, (kI 18)), (1, 1, (kI 22))]) 39 true,
 oG 43 (.build [(.d (.v (.int .i64 0))), (.d (.v (.int .i64 0)))] [(0, 1, (kI (-2))), (1, 1, (kI 2))]) 39 true,
 oG 44 (.build [(.d (.v (.int .i64 0))), (.d (.v (.int .i64 0))), (.d (.v (.int .i64 0))), (.d (.v (.int .i64 0))), (.d (.v (.int .i64 0))), (.d (.v (.int .i64 0)))] [(0, 2, (.tmp 41)), (2, 2, (.tmp 42)), (4, 2, (.tmp 43))]) 39 true,
 oG 45 (.bin .eql 40 (.tmp 40) (.tmp 44)) 39 true,
 oO 46 (.pick (.tmp 39) (.tmp 45) (.const (.bool false))),
 oM 47 46,
 oG 48 (.mv (.tmp 4)) 47 true,
 oG 49 (.bin .eql 28 (.tmp 48) (kI 0)) 47 true,
 oO 50 (.pick (.tmp 47) (.tmp 49) (.const (.bool false))),
 oM 51 50,
 oG 52 (.aslice 1 4 (.tmp 3)) 51 true,
 oG 53 (.bslice 1 4 [(.v (.complex Go.FloatKind.f64 0 0))] [(0, (.const (.complex Go.FloatKind.f64 4635329916471083008 0))), (1, (.const (.complex Go.FloatKind.f64 4626322717216342016 0))), (2, (.const (.complex Go.FloatKind.f64 0 0))), (3, (.const (.complex Go.FloatKind.f64 4626322717216342016 0)))]) 51 true,
 oG 54 (.call 20 [(.tmp 52), (.tmp 53)]) 51 true,
 oO 55 (.pick (.tmp 51) (.tmp 54) (.const (.bool false))),
 oM 56 55,
 oG 57 (.mv (.tmp 6)) 56 true,
 oG 58 (.bin .eql 28 (.tmp 57) (kI 0)) 56 true,
 oO 59 (.pick (.tmp 56) (.tmp 58) (.const (.bool false))),
 oM 60 59,
 oG 61 (.faddr 4 (.tmp 5)) 60 true,
 oG 62 (.load true 2 (.tmp 61)) 60 true,
 oG 63 (.build [(.d (.v (.int .i64 0))), (.d (.v (.int .i64 0)))] [(0, 1, (kI (-524288))), (1, 1, (kI (-524288)))]) 60 true,
 oG 64 (.bin .eql 38 (.tmp 62) (.tmp 63)) 60 true,
 oO 65 (.pick (.tmp 60) (.tmp 64) (.const (.bool false))),
 oM 66 65,
 oG 67 (.mv (.tmp 8)) 66 true,
 oG 68 (.bin .eql 28 (.tmp 67) (kI 0)) 66 true,
 oO 69 (.pick (.tmp 66) (.tmp 68) (.const (.bool false))),
 oM 70 69,
 oG 71 (.load true 2 (.tmp 7)) 70 true,
 oG 72 (.build [(.d (.v (.int .i64 0))), (.d (.v (.int .i64 0)))] [(0, 1, (kI 682)), (1, 1, (kI 683))]) 70 true,
 oG 73 (.bin .eql 38 (.tmp 71) (.tmp 72)) 70 true,
 oO 74 (.pick (.tmp 70) (.tmp 73) (.const (.bool false))),
 oM 0 74]
def tr15 : List (Nat × Tidy) := [tF 0 [], tF 1 [1, 2], tF 2 [1, 2, 3, 4], tF 3 [1, 2, 3, 4, 5, 6], (4, ⟨[1, 2, 3, 4, 5, 6, 7, 8], false, [], [3]⟩), tF 5 [0]]
def tl15 : List (Nat × Tidy) := []
def ac15 : ACode := (.seq (.region ac15_0 [] (some ⟨[], false, [], []⟩)) (.seq (.region ac15_1 [] (some ⟨[1, 2], false, [], []⟩)) (.seq (.region ac15_2 [] (some ⟨[1, 2, 3, 4], false, [], []⟩)) (.seq (.region ac15_3 [] (some ⟨[1, 2, 3, 4, 5, 6], false, [], []⟩)) (.seq (.region ac15_4 [] (some ⟨[1, 2, 3, 4, 5, 6, 7, 8], false, [], [3]⟩)) (.seq (.region ac15_5 [] (some ⟨[0], false, [], []⟩)) .ret))))))
def rs15 : List AResV := [.tmp 0]
def ft15 : FnT := ⟨75, tr15, tl15, ac15, rs15⟩
theorem is15 : FnIs Try.prog 15 75 tr15 tl15 ac15 rs15 := ⟨Try.f15, Try.func15, rfl, by kernel_rfl, by kernel_rfl, by kernel_rfl⟩
def ac16_0 : List AOper := [
 oO 1 (.box (.tmp 0)),
 oO 2 (.alloc [(.d (.v (.complex Go.FloatKind.f64 0 0))), (.d (.v (.complex Go.FloatKind.f64 0 0))), (.d (.v (.complex Go.FloatKind.f64 0 0))), (.d (.v (.complex Go.FloatKind.f64 0 0)))]),
 oO 3 (.mv (kI 0))]
def ac16_1 : List AOper := [
 oO 13 (.load true 3 (.tmp 1)),
 oO 14 (.call 67 [(.tmp 13)]),
 oM 12 14,
 oO 15 (.extract 0 (.tmp 12)),
 oO 16 (.extract 1 (.tmp 12)),
 oO 17 (.extract 2 (.tmp 12)),
 oO 4 (.alloc [.nils, (.d (.v (.int .i64 0))), (.d (.v (.int .i64 0)))]),
 oD (.store 3 (.tmp 4) (.tmp 15)),
 oM 5 16,
 oM 6 17]
def ac16_2 : List AOper := [
 oM 18 6,
 oO 19 (.bin .neq 28 (.tmp 18) (kI 0))]
def ac16_3 : List AOper := [
 oO 20 (.build [(.d (.v (.complex Go.FloatKind.f64 0 0))), (.d (.v (.complex Go.FloatKind.f64 0 0))), (.d (.v (.complex Go.FloatKind.f64 0 0))), (.d (.v (.complex Go.FloatKind.f64 0 0)))] []),
 oM 21 6,
 oD (.store 4 (.tmp 2) (.tmp 20)),
 oM 3 21]
def ac16_4 : List AOper := [
 oO 7 (.mv (.const (.slice none 0 0)))]
def ac16_5 : List AOper := [
 oO 22 (.faddr 0 (.tmp 4)),
 oO 23 (.load false 1 (.tmp 22)),
 oO 24 (.len (.tmp 23)),
 oO 25 (.mv (kI 0))]
def ac16_6 : List AOper := [
 oO 26 (.bin .lss 3 (.tmp 25) (.tmp 24))]
def ac16_7 : List AOper := [
 oO 27 (.iaddr 1 none (.tmp 23) (.tmp 25)),
 oO 28 (.load false 1 (.tmp 27)),
 oM 9 28]
def ac16_8 : List AOper := [
 oM 29 7,
 oM 30 9,
 oO 31 (.build [(.d (.v (.int .i64 0))), (.d (.v (.int .i64 0)))] [(0, 1, (.tmp 30)), (1, 1, (kI 0))]),
 oO 32 (.bslice 2 1 [(.v (.int .i64 0)), (.v (.int .i64 0))] [(0, (.tmp 31))]),
 oO 33 (.append 2 16 (.tmp 29) (.tmp 32)),
 oM 7 33]
def ac16_9 : List AOper := [
 oO 34 (.bin .add 3 (.tmp 25) (kI 1)),
 oM 25 34]
def ac16_10 : List AOper := [
 oO 10 (.alloc [(.d (.v (.complex Go.FloatKind.f64 0 0))), (.d (.v (.complex Go.FloatKind.f64 0 0))), (.d (.v (.complex Go.FloatKind.f64 0 0))), (.d (.v (.complex Go.FloatKind.f64 0 0)))])]
def ac16_11 : List AOper := [
 oO 35 (.mv (kI 0))]
def ac16_12 : List AOper := [
 oO 36 (.bin .lss 3 (.tmp 35) (kI 4))]
def ac16_13 : List AOper := [
 oM 37 35,
 oM 11 37]
def ac16_14 : List AOper := [
 oM 38 11,
 oM 39 7,
 oM 40 11,
 oO 41 (.pure (oB (.unOp .neg 3 (.tmp 40)) 3)),
 oO 42 (.call 68 [(.tmp 39), (.tmp 41)]),
 oO 43 (.call 69 [(.tmp 42)]),
 oO 44 (.iaddr 1 (some 4) (.tmp 10) (.tmp 38)),
 oD (.store 1 (.tmp 44) (.tmp 43))]
def ac16_15 : List AOper := [
 oO 45 (.bin .add 3 (.tmp 35) (kI 1)),
 oM 35 45]
def ac16_16 : List AOper := [
 oO 46 (.load true 4 (.tmp 10)),
 oD (.store 4 (.tmp 2) (.tmp 46)),
 oO 3 (.mv (kI 0))]
def tr16 : List (Nat × Tidy) := [tF 0 [1, 2], tF 1 [2, 4, 6], tF 2 [2, 4, 6, 19], tF 3 [2, 3], tF 4 [2, 4, 7], tF 5 [2, 7, 23, 24, 25], tF 6 [2, 7, 23, 24, 25, 26], tF 7 [2, 7, 9, 23, 24, 25], tF 8 [2, 7, 23, 24, 25], tF 9 [2, 7, 23, 24, 25], tF 10 [2, 7, 10], tF 11 [2, 7, 10, 35], tF 12 [2, 7, 10, 35, 36], tF 13 [2, 7, 10, 11, 35], tF 14 [2, 7, 10, 35], tF 15 [2, 7, 10, 35], tF 16 [2, 3]]
def tl16 : List (Nat × Tidy) := [(6, ⟨[2, 7, 23, 24, 25], true, [⟨false, 7, 0, 20007, 0⟩, ⟨false, 23, 0, 20023, 0⟩, ⟨false, 25, 0, 20025, 0⟩, ⟨true, 4, 0, 30400, 0⟩], []⟩), (12, ⟨[2, 7, 10, 35], true, [⟨false, 7, 0, 20007, 0⟩, ⟨false, 35, 0, 20035, 0⟩, ⟨true, 4, 0, 30400, 0⟩], []⟩)]
def ac16 : ACode := (.seq (.region ac16_0 [] (some ⟨[1, 2], false, [], []⟩)) (.seq (.region ac16_1 [] (some ⟨[2, 4, 6], false, [], []⟩)) (.seq (.seq (.region ac16_2 [] (some ⟨[2, 4, 6, 19], false, [], []⟩)) (.cond (.tmp 19) (.seq (.region ac16_3 [] (some ⟨[2, 3], false, [], []⟩)) .ret) .skip)) (.seq (.region ac16_4 [] (some ⟨[2, 4, 7], false, [], []⟩)) (.seq (.seq (.region ac16_5 [] (some ⟨[2, 7, 23, 24, 25], false, [], []⟩)) (.block 0 (.loop (some ⟨[2, 7, 23, 24, 25], true, [⟨false, 7, 0, 20007, 0⟩, ⟨false, 23, 0, 20023, 0⟩, ⟨false, 25, 0, 20025, 0⟩, ⟨true, 4, 0, 30400, 0⟩], []⟩) (.seq (.region ac16_6 [] (some ⟨[2, 7, 23, 24, 25, 26], false, [], []⟩)) (.seq (.cond (.tmp 26) .skip (.exit 0)) (.seq (.block 1 (.seq (.region ac16_7 [] (some ⟨[2, 7, 9, 23, 24, 25], false, [], []⟩)) (.region ac16_8 [] (some ⟨[2, 7, 23, 24, 25], false, [], []⟩)))) (.region ac16_9 [] (some ⟨[2, 7, 23, 24, 25], false, [], []⟩)))))))) (.seq (.region ac16_10 [] (some ⟨[2, 7, 10], false, [], []⟩)) (.seq (.seq (.region ac16_11 [] (some ⟨[2, 7, 10, 35], false, [], []⟩)) (.block 2 (.loop (some ⟨[2, 7, 10, 35], true, [⟨false, 7, 0, 20007, 0⟩, ⟨false, 35, 0, 20035, 0⟩, ⟨true, 4, 0, 30400, 0⟩], []⟩) (.seq (.region ac16_12 [] (some ⟨[2, 7, 10, 35, 36], false, [], []⟩)) (.seq (.cond (.tmp 36) .skip (.exit 2)) (.seq (.block 3 (.seq (.region ac16_13 [] (some ⟨[2, 7, 10, 11, 35], false, [], []⟩)) (.region ac16_14 [] (some ⟨[2, 7, 10, 35], false, [], []⟩)))) (.region ac16_15 [] (some ⟨[2, 7, 10, 35], false, [], []⟩)))))))) (.seq (.region ac16_16 [] (some ⟨[2, 3], false, [], []⟩)) .ret))))))))
def rs16 : List AResV := [.cell 2 true 4, .tmp 3]
def ft16 : FnT := ⟨47, tr16, tl16, ac16, rs16⟩
theorem is16 : FnIs Try.prog 16 47 tr16 tl16 ac16 rs16 := ⟨Try.f16, Try.func16, rfl, by kernel_rfl, by kernel_rfl, by kernel_rfl⟩
def ac17_0 : List AOper := [
 oO 1 (.box (.tmp 0)),
 oO 2 (.alloc [.nils, (.d (.v (.int .i64 0))), (.d (.v (.int .i64 0)))])]
def ac17_1 : List AOper := [
 oO 3 (.bslice 1 0 [(.v (.float Go.FloatKind.f32 0))] []),
 oO 4 (.faddr 0 (.tmp 1)),
 oO 5 (.load false 1 (.tmp 4)),
 oO 6 (.append 1 4 (.tmp 3) (.tmp 5)),
 oO 7 (.faddr 0 (.tmp 1)),
 oD (.store 1 (.tmp 7) (.tmp 6))]
def ac17_2 : List AOper := [
 oO 8 (.load true 3 (.tmp 1)),
 oD (.store 3 (.tmp 2) (.tmp 8))]
def tr17 : List (Nat × Tidy) := [tF 0 [1, 2], tF 1 [1, 2], tF 2 [2]]
def tl17 : List (Nat × Tidy) := []
def ac17 : ACode := (.seq (.region ac17_0 [] (some ⟨[1, 2], false, [], []⟩)) (.seq (.region ac17_1 [] (some ⟨[1, 2], false, [], []⟩)) (.seq (.region ac17_2 [] (some ⟨[2], false, [], []⟩)) .ret)))
def rs17 : List AResV := [.cell 2 true 3]
def ft17 : FnT := ⟨9, tr17, tl17, ac17, rs17⟩
theorem is17 : FnIs Try.prog 17 9 tr17 tl17 ac17 rs17 := ⟨Try.f17, Try.func17, rfl, by kernel_rfl, by kernel_rfl, by kernel_rfl⟩
def ac20_0 : List AOper := [
 oO 4 (.mv (.const (.bool false)))]
def ac20_1 : List AOper := [
 oM 6 0,
 oO 7 (.len (.tmp 6)),
 oM 8 1,
 oO 9 (.len (.tmp 8)),
 oO 10 (.bin .neq 3 (.tmp 7) (.tmp 9))]
def ac20_2 : List AOper := [
 oO 4 (.mv (.const (.bool false)))]
def ac20_3 : List AOper := [
 oO 5 (.mv (kI 0))]
def ac20_4 : List AOper := [
 oM 11 5,
 oM 12 0,
 oO 13 (.len (.tmp 12)),
 oO 14 (.bin .lss 3 (.tmp 11) (.tmp 13))]
def ac20_5 : List AOper := [
 oM 17 0,
 oM 18 5,
 oO 19 (.iaddr 1 none (.tmp 17) (.tmp 18)),
 oO 20 (.load false 1 (.tmp 19)),
 oM 21 1,
 oM 22 5,
 oO 23 (.iaddr 1 none (.tmp 21) (.tmp 22)),
 oO 24 (.load false 1 (.tmp 23)),
 oO 25 (.call 57 [(.tmp 20), (.tmp 24)]),
 oO 26 (.pure (oB (.unOp .not 4 (.tmp 25)) 4))]
def ac20_6 : List AOper := [
 oO 4 (.mv (.const (.bool false)))]
def ac20_7 : List AOper := [
 oM 15 5,
 oO 16 (.bin .add 3 (.tmp 15) (kI 1)),
 oM 5 16]
def ac20_8 : List AOper := [
 oO 4 (.mv (.const (.bool true)))]
def tr20 : List (Nat × Tidy) := [tF 0 [0, 1], tF 1 [0, 1, 10], tF 2 [4], tF 3 [0, 1, 5], tF 4 [0, 1, 5, 14], tF 6 [0, 1, 5, 26], tF 7 [4], tF 5 [0, 1, 5], tF 8 [4]]
def tl20 : List (Nat × Tidy) := [(4, ⟨[0, 1, 5], true, [⟨false, 5, 0, 20005, 0⟩], []⟩)]
def ac20 : ACode := (.seq (.region ac20_0 [] (some ⟨[0, 1], false, [], []⟩)) (.seq (.seq (.region ac20_1 [] (some ⟨[0, 1, 10], false, [], []⟩)) (.cond (.tmp 10) (.seq (.region ac20_2 [] (some ⟨[4], false, [], []⟩)) .ret) .skip)) (.seq (.seq (.region ac20_3 [] (some ⟨[0, 1, 5], false, [], []⟩)) (.block 0 (.loop (some ⟨[0, 1, 5], true, [⟨false, 5, 0, 20005, 0⟩], []⟩) (.seq (.seq (.region ac20_4 [] (some ⟨[0, 1, 5, 14], false, [], []⟩)) (.cond (.tmp 14) .skip (.exit 0))) (.seq (.block 1 (.seq (.region ac20_5 [] (some ⟨[0, 1, 5, 26], false, [], []⟩)) (.cond (.tmp 26) (.seq (.region ac20_6 [] (some ⟨[4], false, [], []⟩)) .ret) .skip))) (.region ac20_7 [] (some ⟨[0, 1, 5], false, [], []⟩))))))) (.seq (.region ac20_8 [] (some ⟨[4], false, [], []⟩)) .ret))))
def rs20 : List AResV := [.tmp 4]
def ft20 : FnT := ⟨27, tr20, tl20, ac20, rs20⟩
theorem is20 : FnIs Try.prog 20 27 tr20 tl20 ac20 rs20 := ⟨Try.f20, Try.func20, rfl, by kernel_rfl, by kernel_rfl, by kernel_rfl⟩
def ac21_0 : List AOper := [
 oO 1 (.box (.tmp 0)),
 oO 2 (.alloc [(.d (.v (.int .i64 0))), (.d (.v (.int .i64 0))), (.d (.v (.int .i64 0))), (.d (.v (.int .i64 0))), (.d (.v (.int .i64 0))), (.d (.v (.int .i64 0)))]),
 oO 3 (.mv (kI 0))]
def ac21_1 : List AOper := [
 oO 12 (.load true 3 (.tmp 1)),
 oO 13 (.call 67 [(.tmp 12)]),
 oM 11 13,
 oO 14 (.extract 0 (.tmp 11)),
 oO 15 (.extract 1 (.tmp 11)),
 oO 16 (.extract 2 (.tmp 11)),
 oO 4 (.alloc [.nils, (.d (.v (.int .i64 0))), (.d (.v (.int .i64 0)))]),
 oD (.store 3 (.tmp 4) (.tmp 14)),
 oM 5 15,
 oM 6 16]
def ac21_2 : List AOper := [
 oM 17 6,
 oO 18 (.bin .neq 28 (.tmp 17) (kI 0))]
def ac21_3 : List AOper := [
 oO 19 (.build [(.d (.v (.int .i64 0))), (.d (.v (.int .i64 0))), (.d (.v (.int .i64 0))), (.d (.v (.int .i64 0))), (.d (.v (.int .i64 0))), (.d (.v (.int .i64 0)))] []),
 oM 20 6,
 oD (.store 6 (.tmp 2) (.tmp 19)),
 oM 3 20]
def ac21_4 : List AOper := [
 oO 21 (.load true 3 (.tmp 4)),
 oO 22 (.call 75 [(.tmp 21)]),
 oO 23 (.len (.tmp 22)),
 oO 24 (.bin .gtr 3 (.tmp 23) (kI 0))]
def ac21_5 : List AOper := [
 oO 25 (.build [(.d (.v (.int .i64 0))), (.d (.v (.int .i64 0))), (.d (.v (.int .i64 0))), (.d (.v (.int .i64 0))), (.d (.v (.int .i64 0))), (.d (.v (.int .i64 0)))] []),
 oD (.store 6 (.tmp 2) (.tmp 25)),
 oO 3 (.mv (kI 16))]
def ac21_6 : List AOper := [
 oO 7 (.alloc [(.d (.v (.int .i64 0))), (.d (.v (.int .i64 0))), (.d (.v (.int .i64 0))), (.d (.v (.int .i64 0)))])]
def ac21_7 : List AOper := [
 oO 26 (.faddr 0 (.tmp 4)),
 oO 27 (.load false 1 (.tmp 26)),
 oO 28 (.len (.tmp 27)),
 oO 29 (.mv (kI 0))]
def ac21_8 : List AOper := [
 oO 30 (.bin .lss 3 (.tmp 29) (.tmp 28))]
def ac21_9 : List AOper := [
 oM 31 29,
 oO 32 (.iaddr 1 none (.tmp 27) (.tmp 29)),
 oO 33 (.load false 1 (.tmp 32)),
 oM 8 31,
 oM 9 33]
def ac21_10 : List AOper := [
 oM 34 8,
 oO 35 (.bin .rem 3 (.tmp 34) (kI 4)),
 oO 36 (.iaddr 1 (some 4) (.tmp 7) (.tmp 35)),
 oO 37 (.load false 1 (.tmp 36)),
 oM 38 9,
 oO 39 (.bin .add 3 (.tmp 37) (.tmp 38)),
 oO 40 (.iaddr 1 (some 4) (.tmp 7) (.tmp 35)),
 oD (.store 1 (.tmp 40) (.tmp 39))]
def ac21_11 : List AOper := [
 oO 41 (.bin .add 3 (.tmp 29) (kI 1)),
 oM 29 41]
def ac21_12 : List AOper := [
 oO 42 (.faddr 0 (.tmp 4)),
 oO 43 (.load false 1 (.tmp 42)),
 oO 44 (.len (.tmp 43)),
 oM 10 44]
def ac21_13 : List AOper := [
 oO 45 (.iaddr 1 (some 4) (.tmp 7) (kI 0)),
 oO 46 (.load false 1 (.tmp 45)),
 oO 47 (.iaddr 1 (some 4) (.tmp 7) (kI 1)),
 oO 48 (.load false 1 (.tmp 47)),
 oO 49 (.bin .add 3 (.tmp 46) (.tmp 48)),
 oO 50 (.iaddr 1 (some 4) (.tmp 7) (kI 2)),
 oO 51 (.load false 1 (.tmp 50)),
 oO 52 (.bin .add 3 (.tmp 49) (.tmp 51)),
 oO 53 (.iaddr 1 (some 4) (.tmp 7) (kI 3)),
 oO 54 (.load false 1 (.tmp 53)),
 oO 55 (.bin .add 3 (.tmp 52) (.tmp 54)),
 oM 56 10,
 oO 57 (.faddr 1 (.tmp 4)),
 oO 58 (.load false 1 (.tmp 57)),
 oO 59 (.bin .mul 3 (.tmp 56) (.tmp 58)),
 oO 60 (.call 76 [(.tmp 55), (.tmp 59)]),
 oO 61 (.iaddr 1 (some 4) (.tmp 7) (kI 0)),
 oO 62 (.load false 1 (.tmp 61)),
 oO 63 (.iaddr 1 (some 4) (.tmp 7) (kI 2)),
 oO 64 (.load false 1 (.tmp 63)),
 oO 65 (.bin .sub 3 (.tmp 62) (.tmp 64)),
 oM 66 10,
 oO 67 (.bin .quo 3 (.tmp 66) (kI 2)),
 oO 68 (.faddr 1 (.tmp 4)),
 oO 69 (.load false 1 (.tmp 68)),
 oO 70 (.bin .mul 3 (.tmp 67) (.tmp 69)),
 oO 71 (.call 76 [(.tmp 65), (.tmp 70)]),
 oO 72 (.iaddr 1 (some 4) (.tmp 7) (kI 1)),
 oO 73 (.load false 1 (.tmp 72)),
 oO 74 (.iaddr 1 (some 4) (.tmp 7) (kI 3)),
 oO 75 (.load false 1 (.tmp 74)),
 oO 76 (.bin .sub 3 (.tmp 73) (.tmp 75)),
 oM 77 10,
 oO 78 (.bin .quo 3 (.tmp 77) (kI 2)),
 oO 79 (.faddr 1 (.tmp 4)),
 oO 80 (.load false 1 (.tmp 79)),
 oO 81 (.bin .mul 3 (.tmp 78) (.tmp 80)),
 oO 82 (.call 76 [(.tmp 76), (.tmp 81)]),
 oO 83 (.build [(.d (.v (.int .i64 0))), (.d (.v (.int .i64 0))), (.d (.v (.int .i64 0))), (.d (.v (.int .i64 0))), (.d (.v (.int .i64 0))), (.d (.v (.int .i64 0)))] [(0, 2, (.tmp 60)), (2, 2, (.tmp 71)), (4, 2, (.tmp 82))]),
 oD (.store 6 (.tmp 2) (.tmp 83)),
 oO 3 (.mv (kI 0))]
def tr21 : List (Nat × Tidy) := [tF 0 [1, 2], tF 1 [2, 4, 6], tF 2 [2, 4, 6, 18], tF 3 [2, 3], tF 4 [2, 4, 24], tF 5 [2, 3], tF 6 [2, 4, 7], tF 7 [2, 4, 7, 27, 28, 29], tF 8 [2, 4, 7, 27, 28, 29, 30], tF 9 [2, 4, 7, 8, 9, 27, 28, 29], tF 10 [2, 4, 7, 27, 28, 29], tF 11 [2, 4, 7, 27, 28, 29], tF 12 [2, 4, 7, 10], tF 13 [2, 3]]
def tl21 : List (Nat × Tidy) := [(8, ⟨[2, 4, 7, 27, 28, 29], true, [⟨false, 27, 0, 20027, 0⟩, ⟨false, 29, 0, 20029, 0⟩, ⟨true, 4, 0, 30400, 0⟩], []⟩)]
def ac21 : ACode := (.seq (.region ac21_0 [] (some ⟨[1, 2], false, [], []⟩)) (.seq (.region ac21_1 [] (some ⟨[2, 4, 6], false, [], []⟩)) (.seq (.seq (.region ac21_2 [] (some ⟨[2, 4, 6, 18], false, [], []⟩)) (.cond (.tmp 18) (.seq (.region ac21_3 [] (some ⟨[2, 3], false, [], []⟩)) .ret) .skip)) (.seq (.seq (.region ac21_4 [] (some ⟨[2, 4, 24], false, [], []⟩)) (.cond (.tmp 24) (.seq (.region ac21_5 [] (some ⟨[2, 3], false, [], []⟩)) .ret) .skip)) (.seq (.region ac21_6 [] (some ⟨[2, 4, 7], false, [], []⟩)) (.seq (.seq (.region ac21_7 [] (some ⟨[2, 4, 7, 27, 28, 29], false, [], []⟩)) (.block 0 (.loop (some ⟨[2, 4, 7, 27, 28, 29], true, [⟨false, 27, 0, 20027, 0⟩, ⟨false, 29, 0, 20029, 0⟩, ⟨true, 4, 0, 30400, 0⟩], []⟩) (.seq (.region ac21_8 [] (some ⟨[2, 4, 7, 27, 28, 29, 30], false, [], []⟩)) (.seq (.cond (.tmp 30) .skip (.exit 0)) (.seq (.block 1 (.seq (.region ac21_9 [] (some ⟨[2, 4, 7, 8, 9, 27, 28, 29], false, [], []⟩)) (.region ac21_10 [] (some ⟨[2, 4, 7, 27, 28, 29], false, [], []⟩)))) (.region ac21_11 [] (some ⟨[2, 4, 7, 27, 28, 29], false, [], []⟩)))))))) (.seq (.region ac21_12 [] (some ⟨[2, 4, 7, 10], false, [], []⟩)) (.seq (.region ac21_13 [(15, 17), (15, 19), (15, 24), (15, 28), (26, 28), (15, 30), (26, 30), (15, 35), (26, 35)] (some ⟨[2, 3], false, [], []⟩)) .ret))))))))
def rs21 : List AResV := [.cell 2 true 6, .tmp 3]
def ft21 : FnT := ⟨84, tr21, tl21, ac21, rs21⟩
theorem is21 : FnIs Try.prog 21 84 tr21 tl21 ac21 rs21 := ⟨Try.f21, Try.func21, rfl, by kernel_rfl, by kernel_rfl, by kernel_rfl⟩
def ac23_0 : List AOper := [
 oO 1 (.box (.tmp 0)),
 oO 2 (.alloc [(.d (.v (.int .i64 0))), (.d (.v (.int .i64 0))), (.d (.v (.int .i64 0))), (.d (.v (.int .i64 0)))]),
 oO 3 (.mv (kI 0))]
def ac23_1 : List AOper := [
 oO 11 (.load true 6 (.tmp 1)),
 oO 12 (.call 60 [(.tmp 11)]),
 oM 4 12]
def ac23_2 : List AOper := [
 oM 13 4,
 oO 14 (.bin .neq 28 (.tmp 13) (kI 0))]
def ac23_3 : List AOper := [
 oO 15 (.build [(.d (.v (.int .i64 0))), (.d (.v (.int .i64 0))), (.d (.v (.int .i64 0))), (.d (.v (.int .i64 0)))] []),
 oM 16 4,
 oD (.store 4 (.tmp 2) (.tmp 15)),
 oM 3 16]
def ac23_4 : List AOper := [
 oO 17 (.faddr 0 (.tmp 1)),
 oO 18 (.faddr 0 (.tmp 17)),
 oO 19 (.load false 1 (.tmp 18)),
 oO 20 (.bin .leq 3 (.tmp 19) (kI 0))]
def ac23_5 : List AOper := [
 oO 21 (.build [(.d (.v (.int .i64 0))), (.d (.v (.int .i64 0))), (.d (.v (.int .i64 0))), (.d (.v (.int .i64 0)))] []),
 oD (.store 4 (.tmp 2) (.tmp 21)),
 oO 3 (.mv (kI 9))]
def ac23_6 : List AOper := [
 oO 5 (.alloc [(.d (.v (.int .i64 0))), (.d (.v (.int .i64 0))), (.d (.v (.int .i64 0))), (.d (.v (.int .i64 0)))])]
def ac23_7 : List AOper := [
 oO 22 (.faddr 2 (.tmp 1)),
 oO 23 (.load true 2 (.tmp 22)),
 oO 24 (.faddr 4 (.tmp 1)),
 oO 25 (.load true 2 (.tmp 24)),
 oO 26 (.build [(.d (.v (.int .i64 0))), (.d (.v (.int .i64 0))), (.d (.v (.int .i64 0))), (.d (.v (.int .i64 0)))] [(0, 2, (.tmp 23)), (2, 2, (.tmp 25))]),
 oO 27 (.mv (kI 0))]
def ac23_8 : List AOper := [
 oO 28 (.bin .lss 3 (.tmp 27) (kI 2))]
def ac23_9 : List AOper := [
 oM 29 27,
 oO 30 (.index true 2 2 (.tmp 26) (.tmp 27)),
 oO 7 (.alloc [(.d (.v (.int .i64 0))), (.d (.v (.int .i64 0)))]),
 oM 6 29,
 oD (.store 2 (.tmp 7) (.tmp 30))]
def ac23_10 : List AOper := [
 oO 31 (.faddr 0 (.tmp 1)),
 oO 32 (.faddr 1 (.tmp 31)),
 oO 33 (.load false 1 (.tmp 32)),
 oO 34 (.faddr 0 (.tmp 1)),
 oO 35 (.faddr 0 (.tmp 34)),
 oO 36 (.load false 1 (.tmp 35)),
 oM 8 33,
 oM 9 36]
def ac23_11 : List AOper := [
 oO 37 (.faddr 0 (.tmp 7)),
 oO 38 (.load false 1 (.tmp 37)),
 oO 39 (.bin .lss 3 (.tmp 38) (kI 0))]
def ac23_12 : List AOper := [
 oO 40 (.faddr 0 (.tmp 1)),
 oO 41 (.faddr 0 (.tmp 40)),
 oO 42 (.load false 1 (.tmp 41)),
 oM 8 42]
def ac23_13 : List AOper := [
 oO 43 (.faddr 1 (.tmp 7)),
 oO 44 (.load false 1 (.tmp 43)),
 oO 45 (.bin .lss 3 (.tmp 44) (kI 0))]
def ac23_14 : List AOper := [
 oO 46 (.faddr 0 (.tmp 1)),
 oO 47 (.faddr 1 (.tmp 46)),
 oO 48 (.load false 1 (.tmp 47)),
 oM 9 48]
def ac23_15 : List AOper := [
 oO 10 (.mv (kI 0))]
def ac23_16 : List AOper := [
 oM 50 6,
 oO 51 (.faddr 0 (.tmp 7)),
 oO 52 (.load false 1 (.tmp 51)),
 oO 53 (.bin .mul 3 (kI 2) (.tmp 52)),
 oO 54 (.bin .mul 3 (.tmp 53) (kI 1048576)),
 oM 55 8,
 oO 56 (.call 78 [(.tmp 54), (.tmp 55)]),
 oO 57 (.faddr 1 (.tmp 7)),
 oO 58 (.load false 1 (.tmp 57)),
 oO 59 (.bin .mul 3 (kI 2) (.tmp 58)),
 oO 60 (.bin .mul 3 (.tmp 59) (kI 1048576)),
 oM 61 9,
 oO 62 (.call 79 [(.tmp 60), (.tmp 61)]),
 oO 63 (.build [(.d (.v (.int .i64 0))), (.d (.v (.int .i64 0)))] [(0, 1, (.tmp 56)), (1, 1, (.tmp 62))]),
 oO 64 (.call 77 [(.tmp 63)]),
 oM 49 64,
 oO 65 (.extract 0 (.tmp 49)),
 oO 66 (.extract 1 (.tmp 49)),
 oO 67 (.iaddr 2 (some 2) (.tmp 5) (.tmp 50)),
 oD (.store 2 (.tmp 67) (.tmp 65)),
 oM 10 66]
def ac23_17 : List AOper := [
 oM 68 10,
 oO 69 (.bin .neq 28 (.tmp 68) (kI 0))]
def ac23_18 : List AOper := [
 oO 70 (.build [(.d (.v (.int .i64 0))), (.d (.v (.int .i64 0))), (.d (.v (.int .i64 0))), (.d (.v (.int .i64 0)))] []),
 oM 71 10,
 oD (.store 4 (.tmp 2) (.tmp 70)),
 oM 3 71]
def ac23_19 : List AOper := [
 oO 72 (.bin .add 3 (.tmp 27) (kI 1)),
 oM 27 72]
def ac23_20 : List AOper := [
 oO 73 (.load true 4 (.tmp 5)),
 oD (.store 4 (.tmp 2) (.tmp 73)),
 oO 3 (.mv (kI 0))]
def tr23 : List (Nat × Tidy) := [tF 0 [1, 2], tF 1 [1, 2, 4], tF 2 [1, 2, 4, 14], tF 3 [2, 3], tF 4 [1, 2, 20], tF 5 [2, 3], tF 6 [1, 2, 5], tF 7 [1, 2, 5, 26, 27], tF 8 [1, 2, 5, 26, 27, 28], tF 9 [1, 2, 5, 6, 7, 26, 27], tF 10 [1, 2, 5, 6, 7, 8, 9, 26, 27], tF 11 [1, 2, 5, 6, 7, 8, 9, 26, 27, 39], tF 12 [1, 2, 5, 6, 7, 8, 9, 26, 27], tF 13 [1, 2, 5, 6, 7, 8, 9, 26, 27, 45], tF 14 [1, 2, 5, 6, 7, 8, 9, 26, 27], tF 15 [1, 2, 5, 6, 7, 8, 9, 26, 27], tF 16 [1, 2, 5, 10, 26, 27], tF 17 [1, 2, 5, 10, 26, 27, 69], tF 18 [2, 3], tF 19 [1, 2, 5, 26, 27], tF 20 [2, 3]]
def tl23 : List (Nat × Tidy) := [(8, ⟨[1, 2, 5, 26, 27], true, [⟨false, 27, 0, 20027, 0⟩], []⟩)]
def ac23 : ACode := (.seq (.region ac23_0 [] (some ⟨[1, 2], false, [], []⟩)) (.seq (.seq (.region ac23_1 [] (some ⟨[1, 2, 4], false, [], []⟩)) (.seq (.region ac23_2 [] (some ⟨[1, 2, 4, 14], false, [], []⟩)) (.cond (.tmp 14) (.seq (.region ac23_3 [] (some ⟨[2, 3], false, [], []⟩)) .ret) .skip))) (.seq (.seq (.region ac23_4 [] (some ⟨[1, 2, 20], false, [], []⟩)) (.cond (.tmp 20) (.seq (.region ac23_5 [] (some ⟨[2, 3], false, [], []⟩)) .ret) .skip)) (.seq (.region ac23_6 [] (some ⟨[1, 2, 5], false, [], []⟩)) (.seq (.seq (.region ac23_7 [] (some ⟨[1, 2, 5, 26, 27], false, [], []⟩)) (.block 0 (.loop (some ⟨[1, 2, 5, 26, 27], true, [⟨false, 27, 0, 20027, 0⟩], []⟩) (.seq (.region ac23_8 [] (some ⟨[1, 2, 5, 26, 27, 28], false, [], []⟩)) (.seq (.cond (.tmp 28) .skip (.exit 0)) (.seq (.block 1 (.seq (.region ac23_9 [] (some ⟨[1, 2, 5, 6, 7, 26, 27], false, [], []⟩)) (.seq (.region ac23_10 [] (some ⟨[1, 2, 5, 6, 7, 8, 9, 26, 27], false, [], []⟩)) (.seq (.seq (.region ac23_11 [] (some ⟨[1, 2, 5, 6, 7, 8, 9, 26, 27, 39], false, [], []⟩)) (.cond (.tmp 39) (.region ac23_12 [] (some ⟨[1, 2, 5, 6, 7, 8, 9, 26, 27], false, [], []⟩)) .skip)) (.seq (.seq (.region ac23_13 [] (some ⟨[1, 2, 5, 6, 7, 8, 9, 26, 27, 45], false, [], []⟩)) (.cond (.tmp 45) (.region ac23_14 [] (some ⟨[1, 2, 5, 6, 7, 8, 9, 26, 27], false, [], []⟩)) .skip)) (.seq (.region ac23_15 [] (some ⟨[1, 2, 5, 6, 7, 8, 9, 26, 27], false, [], []⟩)) (.seq (.region ac23_16 [(6, 8)] (some ⟨[1, 2, 5, 10, 26, 27], false, [], []⟩)) (.seq (.region ac23_17 [] (some ⟨[1, 2, 5, 10, 26, 27, 69], false, [], []⟩)) (.cond (.tmp 69) (.seq (.region ac23_18 [] (some ⟨[2, 3], false, [], []⟩)) .ret) .skip))))))))) (.region ac23_19 [] (some ⟨[1, 2, 5, 26, 27], false, [], []⟩)))))))) (.seq (.region ac23_20 [] (some ⟨[2, 3], false, [], []⟩)) .ret))))))
def rs23 : List AResV := [.cell 2 true 4, .tmp 3]
def ft23 : FnT := ⟨74, tr23, tl23, ac23, rs23⟩
theorem is23 : FnIs Try.prog 23 74 tr23 tl23 ac23 rs23 := ⟨Try.f23, Try.func23, rfl, by kernel_rfl, by kernel_rfl, by kernel_rfl⟩
def ac26_0 : List AOper := [
 oO 1 (.box (.tmp 0)),
 ⟨(some 2), (.alloc [(.d (.v (.string ⟨#[]⟩))), (.d (.v (.int .i64 0))), (.d (.v (.int .i64 0))), (.d (.v (.int .i64 0))), (.d (.v (.int .i64 0))), (.d (.v (.int .i64 0))), (.d (.v (.int .i64 0))), (.d (.v (.int .i64 0))), (.d (.v (.int .i64 0))), (.d (.v (.int .i64 0)))]), none⟩,
 oO 3 (.mv (kI 0))]
def ac26_1 : List AOper := [
 oO 26 (.faddr 16 (.tmp 1)),
 oO 27 (.load true 3 (.tmp 26)),
 oO 4 (.alloc [(.d (.v (.int .i64 0))), (.d (.v (.int .i64 0))), (.d (.v (.int .i64 0)))]),
 oD (.store 3 (.tmp 4) (.tmp 27))]
def ac26_2 : List AOper := [
 oO 28 (.faddr 0 (.tmp 1)),
 oO 29 (.load false 1 (.tmp 28)),
 oO 30 (.faddr 1 (.tmp 1)),
 oO 31 (.load false 1 (.tmp 30)),
 oO 32 (.faddr 2 (.tmp 1)),
 oO 33 (.load true 2 (.tmp 32)),
 oO 34 (.call 83 [(.tmp 29), (.tmp 31), (.tmp 33)]),
 oO 35 (.faddr 4 (.tmp 1)),
 oO 36 (.load true 6 (.tmp 35)),
 oO 37 (.call 60 [(.tmp 36)]),
 oO 38 (.faddr 10 (.tmp 1)),
 oO 39 (.load true 6 (.tmp 38)),
 oO 40 (.call 60 [(.tmp 39)]),
 oO 41 (.load true 3 (.tmp 4)),
 oO 42 (.call 84 [(.tmp 41)]),
 oO 43 (.build [(.d (.v (.int .i64 0))), (.d (.v (.int .i64 0))), (.d (.v (.int .i64 0))), (.d (.v (.int .i64 0)))] [(0, 1, (.tmp 34)), (1, 1, (.tmp 37)), (2, 1, (.tmp 40)), (3, 1, (.tmp 42))]),
 oO 44 (.mv (kI 0))]
def ac26_3 : List AOper := [
 oO 45 (.bin .lss 3 (.tmp 44) (kI 4))]
def ac26_4 : List AOper := [
 oO 46 (.index false 4 1 (.tmp 43) (.tmp 44)),
 oM 6 46]
def ac26_5 : List AOper := [
 oM 47 6,
 oO 48 (.bin .neq 28 (.tmp 47) (kI 0))]
def ac26_6 : List AOper := [
 ⟨(some 49), (.build [(.d (.v (.string ⟨#[]⟩))), (.d (.v (.int .i64 0))), (.d (.v (.int .i64 0))), (.d (.v (.int .i64 0))), (.d (.v (.int .i64 0))), (.d (.v (.int .i64 0))), (.d (.v (.int .i64 0))), (.d (.v (.int .i64 0))), (.d (.v (.int .i64 0))), (.d (.v (.int .i64 0)))] []), none⟩,
 oM 50 6,
 oD (.store 10 (.tmp 2) (.tmp 49)),
 oM 3 50]
def ac26_7 : List AOper := [
 oO 51 (.bin .add 3 (.tmp 44) (kI 1)),
 oM 44 51]
def ac26_8 : List AOper := [
 oO 52 (.faddr 1 (.tmp 4)),
 oO 53 (.load false 1 (.tmp 52)),
 oO 54 (.bin .eql 3 (.tmp 53) (kI 0))]
def ac26_9 : List AOper := [
 ⟨(some 55), (.build [(.d (.v (.string ⟨#[]⟩))), (.d (.v (.int .i64 0))), (.d (.v (.int .i64 0))), (.d (.v (.int .i64 0))), (.d (.v (.int .i64 0))), (.d (.v (.int .i64 0))), (.d (.v (.int .i64 0))), (.d (.v (.int .i64 0))), (.d (.v (.int .i64 0))), (.d (.v (.int .i64 0)))] []), none⟩,
 oD (.store 10 (.tmp 2) (.tmp 55)),
 oO 3 (.mv (kI 9))]
def ac26_10 : List AOper := [
 oO 57 (.faddr 4 (.tmp 1)),
 oO 58 (.load true 6 (.tmp 57)),
 oO 59 (.call 23 [(.tmp 58)]),
 oM 56 59,
 oO 60 (.extract 0 (.tmp 56)),
 oO 61 (.extract 1 (.tmp 56)),
 oO 7 (.alloc [(.d (.v (.int .i64 0))), (.d (.v (.int .i64 0))), (.d (.v (.int .i64 0))), (.d (.v (.int .i64 0)))]),
 oD (.store 4 (.tmp 7) (.tmp 60)),
 oM 8 61]
def ac26_11 : List AOper := [
 oM 62 8,
 oO 63 (.bin .neq 28 (.tmp 62) (kI 0))]
def ac26_12 : List AOper := [
 ⟨(some 64), (.build [(.d (.v (.string ⟨#[]⟩))), (.d (.v (.int .i64 0))), (.d (.v (.int .i64 0))), (.d (.v (.int .i64 0))), (.d (.v (.int .i64 0))), (.d (.v (.int .i64 0))), (.d (.v (.int .i64 0))), (.d (.v (.int .i64 0))), (.d (.v (.int .i64 0))), (.d (.v (.int .i64 0)))] []), none⟩,
 oM 65 8,
 oD (.store 10 (.tmp 2) (.tmp 64)),
 oM 3 65]
def ac26_13 : List AOper := [
 oO 67 (.faddr 10 (.tmp 1)),
 oO 68 (.load true 6 (.tmp 67)),
 oO 69 (.call 23 [(.tmp 68)]),
 oM 66 69,
 oO 70 (.extract 0 (.tmp 66)),
 oO 71 (.extract 1 (.tmp 66)),
 oO 9 (.alloc [(.d (.v (.int .i64 0))), (.d (.v (.int .i64 0))), (.d (.v (.int .i64 0))), (.d (.v (.int .i64 0)))]),
 oD (.store 4 (.tmp 9) (.tmp 70)),
 oM 8 71]
def ac26_14 : List AOper := [
 oM 72 8,
 oO 73 (.bin .neq 28 (.tmp 72) (kI 0))]
def ac26_15 : List AOper := [
 ⟨(some 74), (.build [(.d (.v (.string ⟨#[]⟩))), (.d (.v (.int .i64 0))), (.d (.v (.int .i64 0))), (.d (.v (.int .i64 0))), (.d (.v (.int .i64 0))), (.d (.v (.int .i64 0))), (.d (.v (.int .i64 0))), (.d (.v (.int .i64 0))), (.d (.v (.int .i64 0))), (.d (.v (.int .i64 0)))] []), none⟩,
 oM 75 8,
 oD (.store 10 (.tmp 2) (.tmp 74)),
 oM 3 75]
def ac26_16 : List AOper := [
 oO 76 (.mkfn 85 [(.tmp 4)]),
 oM 10 76]
def ac26_17 : List AOper := [
 oO 77 (.faddr 0 (.tmp 1)),
 oO 78 (.load false 1 (.tmp 77)),
 oO 79 (.faddr 1 (.tmp 1)),
 oO 80 (.load false 1 (.tmp 79)),
 oO 81 (.faddr 2 (.tmp 1)),
 oO 82 (.load true 2 (.tmp 81)),
 ⟨(some 83), (.build [(.d (.v (.string ⟨#[]⟩))), (.d (.v (.int .i64 0))), (.d (.v (.int .i64 0))), (.d (.v (.int .i64 0))), (.d (.v (.int .i64 0))), (.d (.v (.int .i64 0))), (.d (.v (.int .i64 0))), (.d (.v (.int .i64 0))), (.d (.v (.int .i64 0))), (.d (.v (.int .i64 0)))] [(0, 1, (.tmp 78)), (1, 1, (.tmp 80)), (2, 2, (.tmp 82))]), none⟩,
 ⟨(some 11), (.alloc [(.d (.v (.string ⟨#[]⟩))), (.d (.v (.int .i64 0))), (.d (.v (.int .i64 0))), (.d (.v (.int .i64 0))), (.d (.v (.int .i64 0))), (.d (.v (.int .i64 0))), (.d (.v (.int .i64 0))), (.d (.v (.int .i64 0))), (.d (.v (.int .i64 0))), (.d (.v (.int .i64 0)))]), none⟩,
 oD (.store 10 (.tmp 11) (.tmp 83))]
def ac26_18 : List AOper := [
 oM 85 10,
 oO 86 (.iaddr 2 (some 2) (.tmp 7) (kI 0)),
 oO 87 (.load true 2 (.tmp 86)),
 oO 88 (.calld (.tmp 85) [(.tmp 87)]),
 oM 89 10,
 oO 90 (.iaddr 2 (some 2) (.tmp 9) (kI 0)),
 oO 91 (.load true 2 (.tmp 90)),
 oO 92 (.calld (.tmp 89) [(.tmp 91)]),
 oO 93 (.call 88 [(.tmp 88), (.tmp 92)]),
 oM 84 93,
 oO 94 (.extract 0 (.tmp 84)),
 oO 95 (.extract 1 (.tmp 84)),
 oO 12 (.alloc [(.d (.v (.int .i64 0))), (.d (.v (.int .i64 0)))]),
 oD (.store 2 (.tmp 12) (.tmp 94)),
 oM 13 95]
def ac26_19 : List AOper := [
 oM 96 13,
 oO 97 (.pure (oB (.unOp .not 4 (.tmp 96)) 4))]
def ac26_20 : List AOper := [
 ⟨(some 98), (.build [(.d (.v (.string ⟨#[]⟩))), (.d (.v (.int .i64 0))), (.d (.v (.int .i64 0))), (.d (.v (.int .i64 0))), (.d (.v (.int .i64 0))), (.d (.v (.int .i64 0))), (.d (.v (.int .i64 0))), (.d (.v (.int .i64 0))), (.d (.v (.int .i64 0))), (.d (.v (.int .i64 0)))] []), none⟩,
 oD (.store 10 (.tmp 2) (.tmp 98)),
 oO 3 (.mv (kI 14))]
def ac26_21 : List AOper := [
 oO 99 (.load true 2 (.tmp 12)),
 oO 100 (.faddr 4 (.tmp 11)),
 oD (.store 2 (.tmp 100) (.tmp 99))]
def ac26_22 : List AOper := [
 oO 101 (.iaddr 2 (some 2) (.tmp 7) (kI 1)),
 oO 102 (.load true 2 (.tmp 101)),
 oO 103 (.iaddr 2 (some 2) (.tmp 9) (kI 1)),
 oO 104 (.load true 2 (.tmp 103)),
 oO 105 (.build [(.d (.v (.int .i64 0))), (.d (.v (.int .i64 0))), (.d (.v (.int .i64 0))), (.d (.v (.int .i64 0)))] [(0, 2, (.tmp 102)), (2, 2, (.tmp 104))]),
 oO 106 (.mv (kI 0))]
def ac26_23 : List AOper := [
 oO 107 (.bin .lss 3 (.tmp 106) (kI 2))]
def ac26_24 : List AOper := [
 oM 108 106,
 oO 109 (.index true 2 2 (.tmp 105) (.tmp 106)),
 oO 15 (.alloc [(.d (.v (.int .i64 0))), (.d (.v (.int .i64 0)))]),
 oM 14 108,
 oD (.store 2 (.tmp 15) (.tmp 109))]
def ac26_25 : List AOper := [
 oO 16 (.mv (.const (.slice none 0 0))),
 oO 17 (.mv (.const (.slice none 0 0)))]
def ac26_26 : List AOper := [
 oO 110 (.faddr 0 (.tmp 15)),
 oO 111 (.load false 1 (.tmp 110)),
 oO 112 (.faddr 1 (.tmp 15)),
 oO 113 (.load false 1 (.tmp 112)),
 oO 114 (.build [(.d (.v (.int .i64 0))), (.d (.v (.int .i64 0)))] [(0, 1, (.tmp 111)), (1, 1, (.tmp 113))]),
 oO 115 (.mv (kI 0))]
def ac26_27 : List AOper := [
 oO 116 (.bin .lss 3 (.tmp 115) (kI 2))]
def ac26_28 : List AOper := [
 oO 117 (.index false 2 1 (.tmp 114) (.tmp 115)),
 oM 19 117]
def ac26_29 : List AOper := [
 oO 118 (.faddr 0 (.tmp 12)),
 oO 119 (.load false 1 (.tmp 118)),
 oO 120 (.faddr 1 (.tmp 12)),
 oO 121 (.load false 1 (.tmp 120)),
 oO 122 (.build [(.d (.v (.int .i64 0))), (.d (.v (.int .i64 0)))] [(0, 1, (.tmp 119)), (1, 1, (.tmp 121))]),
 oO 123 (.mv (kI 0))]
def ac26_30 : List AOper := [
 oO 124 (.bin .lss 3 (.tmp 123) (kI 2))]
def ac26_31 : List AOper := [
 oO 125 (.index false 2 1 (.tmp 122) (.tmp 123)),
 oM 21 125]
def ac26_32 : List AOper := [
 oM 126 19,
 oO 127 (.faddr 2 (.tmp 4)),
 oO 128 (.load false 1 (.tmp 127)),
 oO 129 (.bin .mul 3 (.tmp 128) (kI 1048576)),
 oM 130 21,
 oO 131 (.faddr 0 (.tmp 4)),
 oO 132 (.load false 1 (.tmp 131)),
 oO 133 (.bin .mul 3 (.tmp 130) (.tmp 132)),
 oO 134 (.bin .sub 3 (.tmp 129) (.tmp 133)),
 oO 135 (.bin .mul 3 (.tmp 126) (.tmp 134)),
 oO 136 (.faddr 1 (.tmp 4)),
 oO 137 (.load false 1 (.tmp 136)),
 oO 138 (.bin .mul 3 (.tmp 137) (kI 1048576)),
 oM 22 135,
 oM 23 138]
def ac26_33 : List AOper := [
 oM 139 16,
 oM 140 22,
 oM 141 23,
 oO 142 (.call 78 [(.tmp 140), (.tmp 141)]),
 oO 143 (.bslice 1 1 [(.v (.int .i64 0))] [(0, (.tmp 142))]),
 oO 144 (.append 1 8 (.tmp 139) (.tmp 143)),
 oM 145 17,
 oM 146 22,
 oM 147 23,
 oO 148 (.call 79 [(.tmp 146), (.tmp 147)]),
 oO 149 (.bslice 1 1 [(.v (.int .i64 0))] [(0, (.tmp 148))]),
 oO 150 (.append 1 8 (.tmp 145) (.tmp 149)),
 oM 16 144,
 oM 17 150]
def ac26_34 : List AOper := [
 oO 151 (.bin .add 3 (.tmp 123) (kI 1)),
 oM 123 151]
def ac26_35 : List AOper := [
 oO 152 (.bin .add 3 (.tmp 115) (kI 1)),
 oM 115 152]
def ac26_36 : List AOper := [
 oM 154 16,
 oO 155 (.call 89 [(.tmp 154)]),
 oM 156 17,
 oO 157 (.call 90 [(.tmp 156)]),
 oO 158 (.build [(.d (.v (.int .i64 0))), (.d (.v (.int .i64 0)))] [(0, 1, (.tmp 155)), (1, 1, (.tmp 157))]),
 oO 159 (.call 77 [(.tmp 158)]),
 oM 153 159,
 oO 160 (.extract 0 (.tmp 153)),
 oO 161 (.extract 1 (.tmp 153)),
 oO 24 (.alloc [(.d (.v (.int .i64 0))), (.d (.v (.int .i64 0)))]),
 oD (.store 2 (.tmp 24) (.tmp 160)),
 oM 25 161]
def ac26_37 : List AOper := [
 oM 162 25,
 oO 163 (.bin .neq 28 (.tmp 162) (kI 0))]
def ac26_38 : List AOper := [
 ⟨(some 164), (.build [(.d (.v (.string ⟨#[]⟩))), (.d (.v (.int .i64 0))), (.d (.v (.int .i64 0))), (.d (.v (.int .i64 0))), (.d (.v (.int .i64 0))), (.d (.v (.int .i64 0))), (.d (.v (.int .i64 0))), (.d (.v (.int .i64 0))), (.d (.v (.int .i64 0))), (.d (.v (.int .i64 0)))] []), none⟩,
 oM 165 25,
 oD (.store 10 (.tmp 2) (.tmp 164)),
 oM 3 165]
def ac26_39 : List AOper := [
 oO 166 (.faddr 6 (.tmp 11)),
 oO 167 (.faddr 8 (.tmp 11)),
 oO 168 (.build [(.d (.v (.pointer none))), (.d (.v (.pointer none)))] [(0, 1, (.tmp 166)), (1, 1, (.tmp 167))]),
 oM 169 14,
 oO 170 (.index false 2 1 (.tmp 168) (.tmp 169)),
 oO 171 (.load true 2 (.tmp 24)),
 oO 172 (.nilchk (.tmp 170)),
 oD (.store 2 (.tmp 172) (.tmp 171))]
def ac26_40 : List AOper := [
 oO 173 (.bin .add 3 (.tmp 106) (kI 1)),
 oM 106 173]
def ac26_41 : List AOper := [
 oO 174 (.load true 10 (.tmp 11)),
 oD (.store 10 (.tmp 2) (.tmp 174)),
 oO 3 (.mv (kI 0))]
def tr26 : List (Nat × Tidy) := [tF 0 [1, 2], tF 1 [1, 2, 4], tF 2 [1, 2, 4, 43, 44], tF 3 [1, 2, 4, 43, 44, 45], tF 4 [1, 2, 4, 6, 43, 44], tF 5 [1, 2, 4, 6, 43, 44, 48], tF 6 [2, 3], tF 7 [1, 2, 4, 43, 44], tF 8 [1, 2, 4, 54], tF 9 [2, 3], tF 10 [1, 2, 4, 7, 8], tF 11 [1, 2, 4, 7, 8, 63], tF 12 [2, 3], tF 13 [1, 2, 4, 7, 8, 9], tF 14 [1, 2, 4, 7, 8, 9, 73], tF 15 [2, 3], tF 16 [1, 2, 4, 7, 9, 10], tF 17 [2, 4, 7, 9, 10, 11], tF 18 [2, 4, 7, 9, 11, 12, 13], tF 19 [2, 4, 7, 9, 11, 12, 97], tF 20 [2, 3], tF 21 [2, 4, 7, 9, 11, 12], tF 22 [2, 4, 11, 12, 105, 106], tF 23 [2, 4, 11, 12, 105, 106, 107], tF 24 [2, 4, 11, 12, 14, 15, 105, 106], tF 25 [2, 4, 11, 12, 14, 15, 16, 17, 105, 106], tF 26 [2, 4, 11, 12, 14, 16, 17, 105, 106, 114, 115], tF 27 [2, 4, 11, 12, 14, 16, 17, 105, 106, 114, 115, 116], tF 28 [2, 4, 11, 12, 14, 16, 17, 19, 105, 106, 114, 115], tF 29 [2, 4, 11, 12, 14, 16, 17, 19, 105, 106, 114, 115, 122, 123], tF 30 [2, 4, 11, 12, 14, 16, 17, 19, 105, 106, 114, 115, 122, 123, 124], tF 31 [2, 4, 11, 12, 14, 16, 17, 19, 21, 105, 106, 114, 115, 122, 123], tF 32 [2, 4, 11, 12, 14, 16, 17, 19, 22, 23, 105, 106, 114, 115, 122, 123], tF 33 [2, 4, 11, 12, 14, 16, 17, 19, 105, 106, 114, 115, 122, 123], tF 34 [2, 4, 11, 12, 14, 16, 17, 19, 105, 106, 114, 115, 122, 123], tF 35 [2, 4, 11, 12, 14, 16, 17, 105, 106, 114, 115], tF 36 [2, 4, 11, 12, 14, 24, 25, 105, 106], tF 37 [2, 4, 11, 12, 14, 24, 25, 105, 106, 163], tF 38 [2, 3], tF 39 [2, 4, 11, 12, 105, 106], tF 40 [2, 4, 11, 12, 105, 106], tF 41 [2, 3]]
def tl26 : List (Nat × Tidy) := [(3, ⟨[1, 2, 4, 43, 44], true, [⟨false, 44, 0, 20044, 0⟩], []⟩), (23, ⟨[2, 4, 11, 12, 105, 106], true, [⟨false, 106, 0, 20106, 0⟩], []⟩), (27, ⟨[2, 4, 11, 12, 14, 16, 17, 105, 106, 114, 115], true, [⟨false, 14, 0, 20014, 0⟩, ⟨false, 16, 0, 20016, 0⟩, ⟨false, 17, 0, 20017, 0⟩, ⟨false, 106, 0, 20106, 0⟩, ⟨false, 115, 0, 20115, 0⟩], []⟩), (30, ⟨[2, 4, 11, 12, 14, 16, 17, 19, 105, 106, 114, 115, 122, 123], true, [⟨false, 14, 0, 20014, 0⟩, ⟨false, 16, 0, 20016, 0⟩, ⟨false, 17, 0, 20017, 0⟩, ⟨false, 19, 0, 20019, 0⟩, ⟨false, 106, 0, 20106, 0⟩, ⟨false, 115, 0, 20115, 0⟩, ⟨false, 123, 0, 20123, 0⟩], []⟩)]
def ac26 : ACode := (.seq (.region ac26_0 [] (some ⟨[1, 2], false, [], []⟩)) (.seq (.region ac26_1 [] (some ⟨[1, 2, 4], false, [], []⟩)) (.seq (.seq (.region ac26_2 [(6, 8), (6, 11), (9, 11), (6, 13), (9, 13), (12, 13)] (some ⟨[1, 2, 4, 43, 44], false, [], []⟩)) (.block 0 (.loop (some ⟨[1, 2, 4, 43, 44], true, [⟨false, 44, 0, 20044, 0⟩], []⟩) (.seq (.region ac26_3 [] (some ⟨[1, 2, 4, 43, 44, 45], false, [], []⟩)) (.seq (.cond (.tmp 45) .skip (.exit 0)) (.seq (.block 1 (.seq (.region ac26_4 [] (some ⟨[1, 2, 4, 6, 43, 44], false, [], []⟩)) (.seq (.region ac26_5 [] (some ⟨[1, 2, 4, 6, 43, 44, 48], false, [], []⟩)) (.cond (.tmp 48) (.seq (.region ac26_6 [] (some ⟨[2, 3], false, [], []⟩)) .ret) .skip)))) (.region ac26_7 [] (some ⟨[1, 2, 4, 43, 44], false, [], []⟩)))))))) (.seq (.seq (.region ac26_8 [] (some ⟨[1, 2, 4, 54], false, [], []⟩)) (.cond (.tmp 54) (.seq (.region ac26_9 [] (some ⟨[2, 3], false, [], []⟩)) .ret) .skip)) (.seq (.region ac26_10 [] (some ⟨[1, 2, 4, 7, 8], false, [], []⟩)) (.seq (.seq (.region ac26_11 [] (some ⟨[1, 2, 4, 7, 8, 63], false, [], []⟩)) (.cond (.tmp 63) (.seq (.region ac26_12 [] (some ⟨[2, 3], false, [], []⟩)) .ret) .skip)) (.seq (.region ac26_13 [] (some ⟨[1, 2, 4, 7, 8, 9], false, [], []⟩)) (.seq (.seq (.region ac26_14 [] (some ⟨[1, 2, 4, 7, 8, 9, 73], false, [], []⟩)) (.cond (.tmp 73) (.seq (.region ac26_15 [] (some ⟨[2, 3], false, [], []⟩)) .ret) .skip)) (.seq (.region ac26_16 [] (some ⟨[1, 2, 4, 7, 9, 10], false, [], []⟩)) (.seq (.region ac26_17 [] (some ⟨[2, 4, 7, 9, 10, 11], false, [], []⟩)) (.seq (.region ac26_18 [(3, 6), (2, 12), (3, 12), (6, 12), (7, 12), (8, 12)] (some ⟨[2, 4, 7, 9, 11, 12, 13], false, [], []⟩)) (.seq (.seq (.region ac26_19 [] (some ⟨[2, 4, 7, 9, 11, 12, 97], false, [], []⟩)) (.cond (.tmp 97) (.seq (.region ac26_20 [] (some ⟨[2, 3], false, [], []⟩)) .ret) .skip)) (.seq (.region ac26_21 [] (some ⟨[2, 4, 7, 9, 11, 12], false, [], []⟩)) (.seq (.seq (.region ac26_22 [] (some ⟨[2, 4, 11, 12, 105, 106], false, [], []⟩)) (.block 2 (.loop (some ⟨[2, 4, 11, 12, 105, 106], true, [⟨false, 106, 0, 20106, 0⟩], []⟩) (.seq (.region ac26_23 [] (some ⟨[2, 4, 11, 12, 105, 106, 107], false, [], []⟩)) (.seq (.cond (.tmp 107) .skip (.exit 2)) (.seq (.block 3 (.seq (.region ac26_24 [] (some ⟨[2, 4, 11, 12, 14, 15, 105, 106], false, [], []⟩)) (.seq (.region ac26_25 [] (some ⟨[2, 4, 11, 12, 14, 15, 16, 17, 105, 106], false, [], []⟩)) (.seq (.seq (.region ac26_26 [] (some ⟨[2, 4, 11, 12, 14, 16, 17, 105, 106, 114, 115], false, [], []⟩)) (.block 4 (.loop (some ⟨[2, 4, 11, 12, 14, 16, 17, 105, 106, 114, 115], true, [⟨false, 14, 0, 20014, 0⟩, ⟨false, 16, 0, 20016, 0⟩, ⟨false, 17, 0, 20017, 0⟩, ⟨false, 106, 0, 20106, 0⟩, ⟨false, 115, 0, 20115, 0⟩], []⟩) (.seq (.region ac26_27 [] (some ⟨[2, 4, 11, 12, 14, 16, 17, 105, 106, 114, 115, 116], false, [], []⟩)) (.seq (.cond (.tmp 116) .skip (.exit 4)) (.seq (.block 5 (.seq (.region ac26_28 [] (some ⟨[2, 4, 11, 12, 14, 16, 17, 19, 105, 106, 114, 115], false, [], []⟩)) (.seq (.region ac26_29 [] (some ⟨[2, 4, 11, 12, 14, 16, 17, 19, 105, 106, 114, 115, 122, 123], false, [], []⟩)) (.block 6 (.loop (some ⟨[2, 4, 11, 12, 14, 16, 17, 19, 105, 106, 114, 115, 122, 123], true, [⟨false, 14, 0, 20014, 0⟩, ⟨false, 16, 0, 20016, 0⟩, ⟨false, 17, 0, 20017, 0⟩, ⟨false, 19, 0, 20019, 0⟩, ⟨false, 106, 0, 20106, 0⟩, ⟨false, 115, 0, 20115, 0⟩, ⟨false, 123, 0, 20123, 0⟩], []⟩) (.seq (.region ac26_30 [] (some ⟨[2, 4, 11, 12, 14, 16, 17, 19, 105, 106, 114, 115, 122, 123, 124], false, [], []⟩)) (.seq (.cond (.tmp 124) .skip (.exit 6)) (.seq (.block 7 (.seq (.region ac26_31 [] (some ⟨[2, 4, 11, 12, 14, 16, 17, 19, 21, 105, 106, 114, 115, 122, 123], false, [], []⟩)) (.seq (.region ac26_32 [] (some ⟨[2, 4, 11, 12, 14, 16, 17, 19, 22, 23, 105, 106, 114, 115, 122, 123], false, [], []⟩)) (.region ac26_33 [] (some ⟨[2, 4, 11, 12, 14, 16, 17, 19, 105, 106, 114, 115, 122, 123], false, [], []⟩))))) (.region ac26_34 [] (some ⟨[2, 4, 11, 12, 14, 16, 17, 19, 105, 106, 114, 115, 122, 123], false, [], []⟩)))))))))) (.region ac26_35 [] (some ⟨[2, 4, 11, 12, 14, 16, 17, 105, 106, 114, 115], false, [], []⟩)))))))) (.seq (.region ac26_36 [] (some ⟨[2, 4, 11, 12, 14, 24, 25, 105, 106], false, [], []⟩)) (.seq (.seq (.region ac26_37 [] (some ⟨[2, 4, 11, 12, 14, 24, 25, 105, 106, 163], false, [], []⟩)) (.cond (.tmp 163) (.seq (.region ac26_38 [] (some ⟨[2, 3], false, [], []⟩)) .ret) .skip)) (.region ac26_39 [] (some ⟨[2, 4, 11, 12, 105, 106], false, [], []⟩)))))))) (.region ac26_40 [] (some ⟨[2, 4, 11, 12, 105, 106], false, [], []⟩)))))))) (.seq (.region ac26_41 [] (some ⟨[2, 3], false, [], []⟩)) .ret)))))))))))))))
def rs26 : List AResV := [.cell 2 true 10, .tmp 3]
def ft26 : FnT := ⟨175, tr26, tl26, ac26, rs26⟩
theorem is26 : FnIs Try.prog 26 175 tr26 tl26 ac26 rs26 := ⟨Try.f26, Try.func26, rfl, by kernel_rfl, by kernel_rfl, by kernel_rfl⟩
def ac28_0 : List AOper := [
 oO 1 (.box (.tmp 0)),
 oO 2 (.mv (kI 0))]
def ac28_1 : List AOper := [
 oO 4 (.faddr 0 (.tmp 1)),
 oO 5 (.load false 1 (.tmp 4)),
 oO 6 (.faddr 1 (.tmp 1)),
 oO 7 (.load false 1 (.tmp 6)),
 oO 8 (.faddr 2 (.tmp 1)),
 oO 9 (.load true 2 (.tmp 8)),
 oO 10 (.call 83 [(.tmp 5), (.tmp 7), (.tmp 9)]),
 oM 3 10]
def ac28_2 : List AOper := [
 oM 11 3,
 oO 12 (.bin .neq 28 (.tmp 11) (kI 0))]
def ac28_3 : List AOper := [
 oM 13 3,
 oM 2 13]
def ac28_4 : List AOper := [
 oO 14 (.faddr 4 (.tmp 1)),
 oO 15 (.load true 2 (.tmp 14)),
 oO 16 (.faddr 6 (.tmp 1)),
 oO 17 (.load true 2 (.tmp 16)),
 oO 18 (.faddr 8 (.tmp 1)),
 oO 19 (.load true 2 (.tmp 18)),
 oO 20 (.bslice 2 3 [(.v (.int .i64 0)), (.v (.int .i64 0))] [(0, (.tmp 15)), (1, (.tmp 17)), (2, (.tmp 19))]),
 oO 21 (.call 96 [(kI 1048576), (.tmp 20)]),
 oM 2 21]
def tr28 : List (Nat × Tidy) := [tF 0 [1], tF 1 [1, 3], tF 2 [1, 3, 12], tF 3 [2], tF 4 [2]]
def tl28 : List (Nat × Tidy) := []
def ac28 : ACode := (.seq (.region ac28_0 [] (some ⟨[1], false, [], []⟩)) (.seq (.seq (.region ac28_1 [] (some ⟨[1, 3], false, [], []⟩)) (.seq (.region ac28_2 [] (some ⟨[1, 3, 12], false, [], []⟩)) (.cond (.tmp 12) (.seq (.region ac28_3 [] (some ⟨[2], false, [], []⟩)) .ret) .skip))) (.seq (.region ac28_4 [] (some ⟨[2], false, [], []⟩)) .ret)))
def rs28 : List AResV := [.tmp 2]
def ft28 : FnT := ⟨22, tr28, tl28, ac28, rs28⟩
theorem is28 : FnIs Try.prog 28 22 tr28 tl28 ac28 rs28 := ⟨Try.f28, Try.func28, rfl, by kernel_rfl, by kernel_rfl, by kernel_rfl⟩
def ac48_0 : List AOper := [
 oO 1 (.box (.tmp 0)),
 oO 2 (.alloc [(.d (.v (.int .i64 0))), (.d (.v (.int .i64 0)))]),
 oO 3 (.mv (kI 0))]
def ac48_1 : List AOper := [
 oO 9 (.load true 10 (.tmp 1)),
 oO 10 (.call 28 [(.tmp 9)]),
 oM 4 10]
def ac48_2 : List AOper := [
 oM 11 4,
 oO 12 (.bin .neq 28 (.tmp 11) (kI 0))]
def ac48_3 : List AOper := [
 oO 13 (.build [(.d (.v (.int .i64 0))), (.d (.v (.int .i64 0)))] []),
 oM 14 4,
 oD (.store 2 (.tmp 2) (.tmp 13)),
 oM 3 14]
def ac48_4 : List AOper := [
 oO 15 (.build [(.d (.v (.int .i64 0))), (.d (.v (.int .i64 0)))] [(0, 1, (kI 0)), (1, 1, (kI 1024))]),
 oO 5 (.alloc [(.d (.v (.int .i64 0))), (.d (.v (.int .i64 0)))]),
 oD (.store 2 (.tmp 5) (.tmp 15))]
def ac48_5 : List AOper := [
 oO 6 (.alloc [(.d (.v (.bool false)))]),
 oD (.store 1 (.tmp 6) (.const (.bool false)))]
def ac48_6 : List AOper := [
 oM 7 16]
def ac48_7 : List AOper := [
 oO 8 (.alloc [(.d (.v (.int .i64 0))), (.d (.v (.int .i64 0)))]),
 oD (.store 2 (.tmp 8) (.tmp 17))]
def ac48_8 : List AOper := [
 oO 18 (.faddr 0 (.tmp 8)),
 oO 19 (.load false 1 (.tmp 18)),
 oO 20 (.faddr 4 (.tmp 1)),
 oO 21 (.faddr 1 (.tmp 20)),
 oO 22 (.load false 1 (.tmp 21)),
 oO 23 (.bin .geq 3 (.tmp 19) (.tmp 22))]
def ac48_9 : List AOper := [
 oM 24 7,
 oO 25 (.faddr 0 (.tmp 5)),
 oD (.store 1 (.tmp 25) (.tmp 24))]
def ac48_10 : List AOper := [
 oO 26 (.faddr 1 (.tmp 8)),
 oO 27 (.load false 1 (.tmp 26)),
 oO 28 (.faddr 4 (.tmp 1)),
 oO 29 (.faddr 0 (.tmp 28)),
 oO 30 (.load false 1 (.tmp 29)),
 oO 31 (.bin .leq 3 (.tmp 27) (.tmp 30)),
 oM 32 31,
 oG 33 (.load false 1 (.tmp 6)) 32 true,
 oG 34 (.pure (oB (.unOp .not 4 (.tmp 33)) 4)) 32 true,
 oO 35 (.pick (.tmp 32) (.tmp 34) (.const (.bool false)))]
def ac48_11 : List AOper := [
 oM 36 7,
 oO 37 (.faddr 1 (.tmp 5)),
 oD (.store 1 (.tmp 37) (.tmp 36)),
 oD (.store 1 (.tmp 6) (.const (.bool true)))]
def ac48_12 : List AOper := [
 oO 38 (.load true 2 (.tmp 5)),
 oD (.store 2 (.tmp 2) (.tmp 38)),
 oO 3 (.mv (kI 0))]
def tr48 : List (Nat × Tidy) := [tF 0 [1, 2, 3], tF 1 [1, 2, 3, 4], tF 2 [1, 2, 3, 4, 12], tF 3 [2, 3], tF 4 [1, 2, 3, 5], tF 5 [1, 2, 3, 5, 6], tF 6 [1, 2, 3, 5, 6, 7, 17], tF 7 [1, 2, 3, 5, 6, 7, 8], tF 8 [1, 2, 3, 5, 6, 7, 8, 23], tF 9 [1, 2, 3, 5, 6, 7, 8], tF 10 [1, 2, 3, 5, 6, 7, 35], tF 11 [1, 2, 3, 5, 6], tF 12 [2, 3]]
def tl48 : List (Nat × Tidy) := [(8, ⟨[1, 2, 3, 5, 6], true, [⟨false, 3, 0, 20003, 0⟩], []⟩)]
def ac48 : ACode := (.seq (.region ac48_0 [] (some ⟨[1, 2, 3], false, [], []⟩)) (.seq (.seq (.region ac48_1 [] (some ⟨[1, 2, 3, 4], false, [], []⟩)) (.seq (.region ac48_2 [] (some ⟨[1, 2, 3, 4, 12], false, [], []⟩)) (.cond (.tmp 12) (.seq (.region ac48_3 [] (some ⟨[2, 3], false, [], []⟩)) .ret) .skip))) (.seq (.region ac48_4 [] (some ⟨[1, 2, 3, 5], false, [], []⟩)) (.seq (.region ac48_5 [] (some ⟨[1, 2, 3, 5, 6], false, [], []⟩)) (.seq (.block 0 (.rangeF (.func 102) [16, 17] (some ⟨[1, 2, 3, 5, 6], true, [⟨false, 3, 0, 20003, 0⟩], []⟩) (.seq (.region ac48_6 [] (some ⟨[1, 2, 3, 5, 6, 7, 17], false, [], []⟩)) (.region ac48_7 [] (some ⟨[1, 2, 3, 5, 6, 7, 8], false, [], []⟩))) (.block 1 (.seq (.seq (.region ac48_8 [] (some ⟨[1, 2, 3, 5, 6, 7, 8, 23], false, [], []⟩)) (.cond (.tmp 23) (.region ac48_9 [] (some ⟨[1, 2, 3, 5, 6, 7, 8], false, [], []⟩)) .skip)) (.seq (.region ac48_10 [] (some ⟨[1, 2, 3, 5, 6, 7, 35], false, [], []⟩)) (.cond (.tmp 35) (.region ac48_11 [] (some ⟨[1, 2, 3, 5, 6], false, [], []⟩)) .skip)))))) (.seq (.region ac48_12 [] (some ⟨[2, 3], false, [], []⟩)) .ret))))))
def rs48 : List AResV := [.cell 2 true 2, .tmp 3]
def ft48 : FnT := ⟨39, tr48, tl48, ac48, rs48⟩
theorem is48 : FnIs Try.prog 48 39 tr48 tl48 ac48 rs48 := ⟨Try.f48, Try.func48, rfl, by kernel_rfl, by kernel_rfl, by kernel_rfl⟩
def ac57_0 : List AOper := [
 oO 4 (.mv (.const (.bool false)))]
def ac57_1 : List AOper := [
 oM 5 0,
 oO 6 (.pure (oB (.call { callee := .builtin .real, args := #[(.tmp 5)], argTypes := #[26] }) 112)),
 oO 7 (.pure (oB (.call { callee := .value (.func 110), args := #[(.tmp 6)], argTypes := #[112] }) 191)),
 oM 8 1,
 oO 9 (.pure (oB (.call { callee := .builtin .real, args := #[(.tmp 8)], argTypes := #[26] }) 112)),
 oO 10 (.pure (oB (.call { callee := .value (.func 110), args := #[(.tmp 9)], argTypes := #[112] }) 191)),
 oO 11 (.bin .eql 191 (.tmp 7) (.tmp 10)),
 oM 12 11,
 oG 13 (.mv (.tmp 0)) 12 true,
 oG 14 (.pure (oB (.call { callee := .builtin .imag, args := #[(.tmp 13)], argTypes := #[26] }) 112)) 12 true,
 oG 15 (.pure (oB (.call { callee := .value (.func 110), args := #[(.tmp 14)], argTypes := #[112] }) 191)) 12 true,
 oG 16 (.mv (.tmp 1)) 12 true,
 oG 17 (.pure (oB (.call { callee := .builtin .imag, args := #[(.tmp 16)], argTypes := #[26] }) 112)) 12 true,
 oG 18 (.pure (oB (.call { callee := .value (.func 110), args := #[(.tmp 17)], argTypes := #[112] }) 191)) 12 true,
 oG 19 (.bin .eql 191 (.tmp 15) (.tmp 18)) 12 true,
 oO 20 (.pick (.tmp 12) (.tmp 19) (.const (.bool false))),
 oM 4 20]
def tr57 : List (Nat × Tidy) := [tF 0 [0, 1], tF 1 [4]]
def tl57 : List (Nat × Tidy) := []
def ac57 : ACode := (.seq (.region ac57_0 [] (some ⟨[0, 1], false, [], []⟩)) (.seq (.region ac57_1 [] (some ⟨[4], false, [], []⟩)) .ret))
def rs57 : List AResV := [.tmp 4]
def ft57 : FnT := ⟨21, tr57, tl57, ac57, rs57⟩
theorem is57 : FnIs Try.prog 57 21 tr57 tl57 ac57 rs57 := ⟨Try.f57, Try.func57, rfl, by kernel_rfl, by kernel_rfl, by kernel_rfl⟩
def ac60_0 : List AOper := [
 oO 1 (.box (.tmp 0)),
 oO 2 (.mv (kI 0))]
def ac60_1 : List AOper := [
 oO 3 (.faddr 0 (.tmp 1)),
 oO 4 (.load true 2 (.tmp 3)),
 oO 5 (.faddr 2 (.tmp 1)),
 oO 6 (.load true 2 (.tmp 5)),
 oO 7 (.faddr 4 (.tmp 1)),
 oO 8 (.load true 2 (.tmp 7)),
 oO 9 (.bslice 2 3 [(.v (.int .i64 0)), (.v (.int .i64 0))] [(0, (.tmp 4)), (1, (.tmp 6)), (2, (.tmp 8))]),
 oO 10 (.call 96 [(kI 10000000), (.tmp 9)]),
 oM 2 10]
def tr60 : List (Nat × Tidy) := [tF 0 [1], tF 1 [2]]
def tl60 : List (Nat × Tidy) := []
def ac60 : ACode := (.seq (.region ac60_0 [] (some ⟨[1], false, [], []⟩)) (.seq (.region ac60_1 [] (some ⟨[2], false, [], []⟩)) .ret))
def rs60 : List AResV := [.tmp 2]
def ft60 : FnT := ⟨11, tr60, tl60, ac60, rs60⟩
theorem is60 : FnIs Try.prog 60 11 tr60 tl60 ac60 rs60 := ⟨Try.f60, Try.func60, rfl, by kernel_rfl, by kernel_rfl, by kernel_rfl⟩
def ac65_0 : List AOper := [
 oO 0 (.alloc [.nils, (.d (.v (.int .i64 0))), (.d (.v (.int .i64 0)))])]
def ac65_1 : List AOper := [
 oO 1 (.bslice 1 4 [(.v (.float Go.FloatKind.f32 0))] [(0, (.const (.float Go.FloatKind.f32 1106247680))), (1, (.const (.float Go.FloatKind.f32 1101004800))), (2, (.const (.float Go.FloatKind.f32 1092616192))), (3, (.const (.float Go.FloatKind.f32 1101004800)))]),
 oO 2 (.build [.nils, (.d (.v (.int .i64 0))), (.d (.v (.int .i64 0)))] [(0, 1, (.tmp 1)), (1, 1, (kI 1)), (2, 1, (kI 65536))]),
 oD (.store 3 (.tmp 0) (.tmp 2))]
def tr65 : List (Nat × Tidy) := [tF 0 [0], tF 1 [0]]
def tl65 : List (Nat × Tidy) := []
def ac65 : ACode := (.seq (.region ac65_0 [] (some ⟨[0], false, [], []⟩)) (.seq (.region ac65_1 [] (some ⟨[0], false, [], []⟩)) .ret))
def rs65 : List AResV := [.cell 0 true 3]
def ft65 : FnT := ⟨3, tr65, tl65, ac65, rs65⟩
theorem is65 : FnIs Try.prog 65 3 tr65 tl65 ac65 rs65 := ⟨Try.f65, Try.func65, rfl, by kernel_rfl, by kernel_rfl, by kernel_rfl⟩
def ac66_0 : List AOper := [
 oO 0 (.alloc [(.d (.v (.int .i64 0))), (.d (.v (.int .i64 0))), (.d (.v (.int .i64 0))), (.d (.v (.int .i64 0))), (.d (.v (.int .i64 0))), (.d (.v (.int .i64 0)))])]
def ac66_1 : List AOper := [
 oO 1 (.build [(.d (.v (.int .i64 0))), (.d (.v (.int .i64 0)))] [(0, 1, (kI 80)), (1, 1, (kI 80))]),
 oO 2 (.build [(.d (.v (.int .i64 0))), (.d (.v (.int .i64 0)))] [(0, 1, (kI 20)), (1, 1, (kI 20))]),
 oO 3 (.build [(.d (.v (.int .i64 0))), (.d (.v (.int .i64 0))), (.d (.v (.int .i64 0))), (.d (.v (.int .i64 0))), (.d (.v (.int .i64 0))), (.d (.v (.int .i64 0)))] [(0, 2, (.tmp 1)), (2, 2, (.tmp 2))]),
 oD (.store 6 (.tmp 0) (.tmp 3))]
def tr66 : List (Nat × Tidy) := [tF 0 [0], tF 1 [0]]
def tl66 : List (Nat × Tidy) := []
def ac66 : ACode := (.seq (.region ac66_0 [] (some ⟨[0], false, [], []⟩)) (.seq (.region ac66_1 [] (some ⟨[0], false, [], []⟩)) .ret))
def rs66 : List AResV := [.cell 0 true 6]
def ft66 : FnT := ⟨4, tr66, tl66, ac66, rs66⟩
theorem is66 : FnIs Try.prog 66 4 tr66 tl66 ac66 rs66 := ⟨Try.f66, Try.func66, rfl, by kernel_rfl, by kernel_rfl, by kernel_rfl⟩
def ac67_0 : List AOper := [
 oO 1 (.box (.tmp 0)),
 oO 2 (.alloc [.nils, (.d (.v (.int .i64 0))), (.d (.v (.int .i64 0)))]),
 oO 3 (.mv (kI 0)),
 oO 4 (.mv (kI 0))]
def ac67_1 : List AOper := [
 oO 11 (.faddr 0 (.tmp 1)),
 oO 12 (.load false 1 (.tmp 11)),
 oO 13 (.len (.tmp 12)),
 oM 5 13]
def ac67_2 : List AOper := [
 oM 15 5,
 oO 16 (.bin .rem 3 (.tmp 15) (kI 4)),
 oO 17 (.bin .neq 3 (.tmp 16) (kI 0)),
 oM 18 17,
 oG 19 (.mv (.tmp 5)) 18 false,
 oG 20 (.call 98 [(.tmp 19), (kI 4), (kI 64)]) 18 false,
 oG 21 (.pure (oB (.unOp .not 4 (.tmp 20)) 4)) 18 false,
 oO 22 (.pick (.tmp 18) (.const (.bool true)) (.tmp 21)),
 oM 14 22]
def ac67_3 : List AOper := [
 oO 23 (.build [.nils, (.d (.v (.int .i64 0))), (.d (.v (.int .i64 0)))] []),
 oD (.store 3 (.tmp 2) (.tmp 23)),
 oO 3 (.mv (kI 0)),
 oO 4 (.mv (kI 12))]
def ac67_4 : List AOper := [
 oO 25 (.faddr 1 (.tmp 1)),
 oO 26 (.load false 1 (.tmp 25)),
 oO 27 (.call 98 [(.tmp 26), (kI 0), (kI 65535)]),
 oO 28 (.pure (oB (.unOp .not 4 (.tmp 27)) 4)),
 oM 29 28,
 oG 30 (.faddr 2 (.tmp 1)) 29 false,
 oG 31 (.load false 1 (.tmp 30)) 29 false,
 oG 32 (.call 98 [(.tmp 31), (kI 1), (kI 65536)]) 29 false,
 oG 33 (.pure (oB (.unOp .not 4 (.tmp 32)) 4)) 29 false,
 oO 34 (.pick (.tmp 29) (.const (.bool true)) (.tmp 33)),
 oM 24 34]
def ac67_5 : List AOper := [
 oO 35 (.build [.nils, (.d (.v (.int .i64 0))), (.d (.v (.int .i64 0)))] []),
 oD (.store 3 (.tmp 2) (.tmp 35)),
 oO 3 (.mv (kI 0)),
 oO 4 (.mv (kI 2))]
def ac67_6 : List AOper := [
 oO 36 (.faddr 1 (.tmp 1)),
 oO 37 (.load false 1 (.tmp 36)),
 oO 38 (.faddr 2 (.tmp 1)),
 oO 39 (.load false 1 (.tmp 38)),
 oO 40 (.build [.nils, (.d (.v (.int .i64 0))), (.d (.v (.int .i64 0)))] [(1, 1, (.tmp 37)), (2, 1, (.tmp 39))]),
 oO 6 (.alloc [.nils, (.d (.v (.int .i64 0))), (.d (.v (.int .i64 0)))]),
 oD (.store 3 (.tmp 6) (.tmp 40))]
def ac67_7 : List AOper := [
 oO 41 (.faddr 0 (.tmp 1)),
 oO 42 (.load false 1 (.tmp 41)),
 oO 43 (.len (.tmp 42)),
 oO 44 (.mv (kI 0))]
def ac67_8 : List AOper := [
 oO 45 (.bin .lss 3 (.tmp 44) (.tmp 43))]
def ac67_9 : List AOper := [
 oM 46 44,
 oO 47 (.iaddr 1 none (.tmp 42) (.tmp 44)),
 oO 48 (.load false 1 (.tmp 47)),
 oM 7 46,
 oM 8 48]
def ac67_10 : List AOper := [
 oM 50 8,
 oO 51 (.call 118 [(.tmp 50), (kI 0), (kI 65535)]),
 oM 49 51,
 oO 52 (.extract 0 (.tmp 49)),
 oO 53 (.extract 1 (.tmp 49)),
 oM 9 52,
 oM 10 53]
def ac67_11 : List AOper := [
 oM 54 10,
 oO 55 (.bin .neq 28 (.tmp 54) (kI 0))]
def ac67_12 : List AOper := [
 oO 56 (.build [.nils, (.d (.v (.int .i64 0))), (.d (.v (.int .i64 0)))] []),
 oM 57 7,
 oM 58 10,
 oD (.store 3 (.tmp 2) (.tmp 56)),
 oM 3 57,
 oM 4 58]
def ac67_13 : List AOper := [
 oO 59 (.faddr 0 (.tmp 6)),
 oO 60 (.load false 1 (.tmp 59)),
 oM 61 9,
 oO 62 (.bslice 1 1 [(.v (.int .i64 0))] [(0, (.tmp 61))]),
 oO 63 (.append 1 8 (.tmp 60) (.tmp 62)),
 oO 64 (.faddr 0 (.tmp 6)),
 oD (.store 1 (.tmp 64) (.tmp 63))]
def ac67_14 : List AOper := [
 oO 65 (.bin .add 3 (.tmp 44) (kI 1)),
 oM 44 65]
def ac67_15 : List AOper := [
 oO 66 (.load true 3 (.tmp 6)),
 oD (.store 3 (.tmp 2) (.tmp 66)),
 oO 3 (.mv (kI 0)),
 oO 4 (.mv (kI 0))]
def tr67 : List (Nat × Tidy) := [tF 0 [1, 2], tF 1 [1, 2, 5], tF 2 [1, 2, 14], tF 3 [2, 3, 4], tF 4 [1, 2, 24], tF 5 [2, 3, 4], tF 6 [1, 2, 6], tF 7 [2, 6, 42, 43, 44], tF 8 [2, 6, 42, 43, 44, 45], tF 9 [2, 6, 7, 8, 42, 43, 44], tF 10 [2, 6, 7, 9, 10, 42, 43, 44], tF 11 [2, 6, 7, 9, 10, 42, 43, 44, 55], tF 12 [2, 3, 4], tF 13 [2, 6, 42, 43, 44], tF 14 [2, 6, 42, 43, 44], tF 15 [2, 3, 4]]
def tl67 : List (Nat × Tidy) := [(8, ⟨[2, 6, 42, 43, 44], true, [⟨false, 42, 0, 20042, 0⟩, ⟨false, 44, 0, 20044, 0⟩, ⟨true, 2, 0, 30200, 0⟩, ⟨true, 6, 0, 30600, 0⟩], []⟩)]
def ac67 : ACode := (.seq (.region ac67_0 [] (some ⟨[1, 2], false, [], []⟩)) (.seq (.seq (.region ac67_1 [] (some ⟨[1, 2, 5], false, [], []⟩)) (.block 0 (.seq (.region ac67_2 [] (some ⟨[1, 2, 14], false, [], []⟩)) (.cond (.tmp 14) (.seq (.region ac67_3 [] (some ⟨[2, 3, 4], false, [], []⟩)) .ret) (.seq (.region ac67_4 [] (some ⟨[1, 2, 24], false, [], []⟩)) (.cond (.tmp 24) (.seq (.region ac67_5 [] (some ⟨[2, 3, 4], false, [], []⟩)) .ret) .skip)))))) (.seq (.region ac67_6 [] (some ⟨[1, 2, 6], false, [], []⟩)) (.seq (.seq (.region ac67_7 [] (some ⟨[2, 6, 42, 43, 44], false, [], []⟩)) (.block 1 (.loop (some ⟨[2, 6, 42, 43, 44], true, [⟨false, 42, 0, 20042, 0⟩, ⟨false, 44, 0, 20044, 0⟩, ⟨true, 2, 0, 30200, 0⟩, ⟨true, 6, 0, 30600, 0⟩], []⟩) (.seq (.region ac67_8 [] (some ⟨[2, 6, 42, 43, 44, 45], false, [], []⟩)) (.seq (.cond (.tmp 45) .skip (.exit 1)) (.seq (.block 2 (.seq (.region ac67_9 [] (some ⟨[2, 6, 7, 8, 42, 43, 44], false, [], []⟩)) (.seq (.region ac67_10 [] (some ⟨[2, 6, 7, 9, 10, 42, 43, 44], false, [], []⟩)) (.seq (.seq (.region ac67_11 [] (some ⟨[2, 6, 7, 9, 10, 42, 43, 44, 55], false, [], []⟩)) (.cond (.tmp 55) (.seq (.region ac67_12 [] (some ⟨[2, 3, 4], false, [], []⟩)) .ret) .skip)) (.region ac67_13 [] (some ⟨[2, 6, 42, 43, 44], false, [], []⟩)))))) (.region ac67_14 [] (some ⟨[2, 6, 42, 43, 44], false, [], []⟩)))))))) (.seq (.region ac67_15 [] (some ⟨[2, 3, 4], false, [], []⟩)) .ret)))))
def rs67 : List AResV := [.cell 2 true 3, .tmp 3, .tmp 4]
def ft67 : FnT := ⟨67, tr67, tl67, ac67, rs67⟩
theorem is67 : FnIs Try.prog 67 67 tr67 tl67 ac67 rs67 := ⟨Try.f67, Try.func67, rfl, by kernel_rfl, by kernel_rfl, by kernel_rfl⟩
def ac68_0 : List AOper := [
 oO 4 (.alloc [(.d (.v (.int .i64 0))), (.d (.v (.int .i64 0)))])]
def ac68_1 : List AOper := [
 oO 5 (.alloc [(.d (.v (.int .i64 0))), (.d (.v (.int .i64 0)))])]
def ac68_2 : List AOper := [
 oM 8 0,
 oO 9 (.len (.tmp 8)),
 oO 10 (.mv (kI 0))]
def ac68_3 : List AOper := [
 oO 11 (.bin .lss 3 (.tmp 10) (.tmp 9))]
def ac68_4 : List AOper := [
 oM 12 10,
 oO 13 (.iaddr 2 none (.tmp 8) (.tmp 10)),
 oO 14 (.load true 2 (.tmp 13)),
 oO 7 (.alloc [(.d (.v (.int .i64 0))), (.d (.v (.int .i64 0)))]),
 oM 6 12,
 oD (.store 2 (.tmp 7) (.tmp 14))]
def ac68_5 : List AOper := [
 oO 15 (.load true 2 (.tmp 7)),
 oM 16 6,
 oO 17 (.bin .rem 3 (.tmp 16) (kI 4)),
 oM 18 1,
 oO 19 (.bin .rem 3 (.tmp 18) (kI 4)),
 oO 20 (.bin .mul 3 (.tmp 17) (.tmp 19)),
 oO 21 (.call 119 [(.tmp 15), (.tmp 20)]),
 oD (.store 2 (.tmp 7) (.tmp 21))]
def ac68_6 : List AOper := [
 oO 22 (.faddr 0 (.tmp 5)),
 oO 23 (.load false 1 (.tmp 22)),
 oO 24 (.faddr 0 (.tmp 7)),
 oO 25 (.load false 1 (.tmp 24)),
 oO 26 (.bin .add 3 (.tmp 23) (.tmp 25)),
 oO 27 (.faddr 1 (.tmp 5)),
 oO 28 (.load false 1 (.tmp 27)),
 oO 29 (.faddr 1 (.tmp 7)),
 oO 30 (.load false 1 (.tmp 29)),
 oO 31 (.bin .add 3 (.tmp 28) (.tmp 30)),
 oO 32 (.build [(.d (.v (.int .i64 0))), (.d (.v (.int .i64 0)))] [(0, 1, (.tmp 26)), (1, 1, (.tmp 31))]),
 oD (.store 2 (.tmp 5) (.tmp 32))]
def ac68_7 : List AOper := [
 oO 33 (.bin .add 3 (.tmp 10) (kI 1)),
 oM 10 33]
def ac68_8 : List AOper := [
 oO 34 (.load true 2 (.tmp 5)),
 oD (.store 2 (.tmp 4) (.tmp 34))]
def tr68 : List (Nat × Tidy) := [tF 0 [0, 1, 4], tF 1 [0, 1, 4, 5], tF 2 [1, 4, 5, 8, 9, 10], tF 3 [1, 4, 5, 8, 9, 10, 11], tF 4 [1, 4, 5, 6, 7, 8, 9, 10], tF 5 [1, 4, 5, 7, 8, 9, 10], tF 6 [1, 4, 5, 8, 9, 10], tF 7 [1, 4, 5, 8, 9, 10], tF 8 [4]]
def tl68 : List (Nat × Tidy) := [(3, ⟨[1, 4, 5, 8, 9, 10], true, [⟨false, 8, 0, 20008, 0⟩, ⟨false, 10, 0, 20010, 0⟩], []⟩)]
def ac68 : ACode := (.seq (.region ac68_0 [] (some ⟨[0, 1, 4], false, [], []⟩)) (.seq (.region ac68_1 [] (some ⟨[0, 1, 4, 5], false, [], []⟩)) (.seq (.seq (.region ac68_2 [] (some ⟨[1, 4, 5, 8, 9, 10], false, [], []⟩)) (.block 0 (.loop (some ⟨[1, 4, 5, 8, 9, 10], true, [⟨false, 8, 0, 20008, 0⟩, ⟨false, 10, 0, 20010, 0⟩], []⟩) (.seq (.region ac68_3 [] (some ⟨[1, 4, 5, 8, 9, 10, 11], false, [], []⟩)) (.seq (.cond (.tmp 11) .skip (.exit 0)) (.seq (.block 1 (.seq (.region ac68_4 [] (some ⟨[1, 4, 5, 6, 7, 8, 9, 10], false, [], []⟩)) (.seq (.region ac68_5 [] (some ⟨[1, 4, 5, 7, 8, 9, 10], false, [], []⟩)) (.region ac68_6 [] (some ⟨[1, 4, 5, 8, 9, 10], false, [], []⟩))))) (.region ac68_7 [] (some ⟨[1, 4, 5, 8, 9, 10], false, [], []⟩)))))))) (.seq (.region ac68_8 [] (some ⟨[4], false, [], []⟩)) .ret))))
def rs68 : List AResV := [.cell 4 true 2]
def ft68 : FnT := ⟨35, tr68, tl68, ac68, rs68⟩
theorem is68 : FnIs Try.prog 68 35 tr68 tl68 ac68 rs68 := ⟨Try.f68, Try.func68, rfl, by kernel_rfl, by kernel_rfl, by kernel_rfl⟩
def ac69_0 : List AOper := [
 oO 1 (.box (.tmp 0)),
 oO 2 (.mv (.const (.complex Go.FloatKind.f64 0 0)))]
def ac69_1 : List AOper := [
 oO 3 (.faddr 0 (.tmp 1)),
 oO 4 (.load false 1 (.tmp 3)),
 oO 5 (.pure (oB (.convert 3 112 (.tmp 4)) 112)),
 oO 6 (.faddr 1 (.tmp 1)),
 oO 7 (.load false 1 (.tmp 6)),
 oO 8 (.pure (oB (.convert 3 112 (.tmp 7)) 112)),
 oO 9 (.pure (oB (.call { callee := .builtin .complex, args := #[(.tmp 5), (.tmp 8)], argTypes := #[112, 112] }) 26)),
 oM 2 9]
def tr69 : List (Nat × Tidy) := [tF 0 [1], tF 1 [2]]
def tl69 : List (Nat × Tidy) := []
def ac69 : ACode := (.seq (.region ac69_0 [] (some ⟨[1], false, [], []⟩)) (.seq (.region ac69_1 [] (some ⟨[2], false, [], []⟩)) .ret))
def rs69 : List AResV := [.tmp 2]
def ft69 : FnT := ⟨10, tr69, tl69, ac69, rs69⟩
theorem is69 : FnIs Try.prog 69 10 tr69 tl69 ac69 rs69 := ⟨Try.f69, Try.func69, rfl, by kernel_rfl, by kernel_rfl, by kernel_rfl⟩
def ac75_0 : List AOper := [
 oO 1 (.box (.tmp 0)),
 oO 2 (.mv (.const (.slice none 0 0)))]
def ac75_1 : List AOper := [
 oO 3 (.mv (.const (.slice none 0 0)))]
def ac75_2 : List AOper := [
 oO 6 (.faddr 0 (.tmp 1)),
 oO 7 (.load false 1 (.tmp 6)),
 oO 8 (.len (.tmp 7)),
 oO 9 (.mv (kI 0))]
def ac75_3 : List AOper := [
 oO 10 (.bin .lss 3 (.tmp 9) (.tmp 8))]
def ac75_4 : List AOper := [
 oM 11 9,
 oO 12 (.iaddr 1 none (.tmp 7) (.tmp 9)),
 oO 13 (.load false 1 (.tmp 12)),
 oM 4 11,
 oM 5 13]
def ac75_5 : List AOper := [
 oM 14 5,
 oO 15 (.faddr 2 (.tmp 1)),
 oO 16 (.load false 1 (.tmp 15)),
 oO 17 (.bin .geq 3 (.tmp 14) (.tmp 16))]
def ac75_6 : List AOper := [
 oM 18 3,
 oM 19 4,
 oO 20 (.bslice 1 1 [(.v (.int .i64 0))] [(0, (.tmp 19))]),
 oO 21 (.append 1 8 (.tmp 18) (.tmp 20)),
 oM 3 21]
def ac75_7 : List AOper := [
 oO 22 (.bin .add 3 (.tmp 9) (kI 1)),
 oM 9 22]
def ac75_8 : List AOper := [
 oM 23 3,
 oM 2 23]
def tr75 : List (Nat × Tidy) := [tF 0 [1], tF 1 [1, 3], tF 2 [1, 3, 7, 8, 9], tF 3 [1, 3, 7, 8, 9, 10], tF 4 [1, 3, 4, 5, 7, 8, 9], tF 5 [1, 3, 4, 7, 8, 9, 17], tF 6 [1, 3, 7, 8, 9], tF 7 [1, 3, 7, 8, 9], tF 8 [2]]
def tl75 : List (Nat × Tidy) := [(3, ⟨[1, 3, 7, 8, 9], true, [⟨false, 3, 0, 20003, 0⟩, ⟨false, 7, 0, 20007, 0⟩, ⟨false, 9, 0, 20009, 0⟩], []⟩)]
def ac75 : ACode := (.seq (.region ac75_0 [] (some ⟨[1], false, [], []⟩)) (.seq (.region ac75_1 [] (some ⟨[1, 3], false, [], []⟩)) (.seq (.seq (.region ac75_2 [] (some ⟨[1, 3, 7, 8, 9], false, [], []⟩)) (.block 0 (.loop (some ⟨[1, 3, 7, 8, 9], true, [⟨false, 3, 0, 20003, 0⟩, ⟨false, 7, 0, 20007, 0⟩, ⟨false, 9, 0, 20009, 0⟩], []⟩) (.seq (.region ac75_3 [] (some ⟨[1, 3, 7, 8, 9, 10], false, [], []⟩)) (.seq (.cond (.tmp 10) .skip (.exit 0)) (.seq (.block 1 (.seq (.region ac75_4 [] (some ⟨[1, 3, 4, 5, 7, 8, 9], false, [], []⟩)) (.seq (.region ac75_5 [] (some ⟨[1, 3, 4, 7, 8, 9, 17], false, [], []⟩)) (.cond (.tmp 17) (.region ac75_6 [] (some ⟨[1, 3, 7, 8, 9], false, [], []⟩)) .skip)))) (.region ac75_7 [] (some ⟨[1, 3, 7, 8, 9], false, [], []⟩)))))))) (.seq (.region ac75_8 [] (some ⟨[2], false, [], []⟩)) .ret))))
def rs75 : List AResV := [.tmp 2]
def ft75 : FnT := ⟨24, tr75, tl75, ac75, rs75⟩
theorem is75 : FnIs Try.prog 75 24 tr75 tl75 ac75 rs75 := ⟨Try.f75, Try.func75, rfl, by kernel_rfl, by kernel_rfl, by kernel_rfl⟩
def ac76_0 : List AOper := [
 oO 4 (.alloc [(.d (.v (.int .i64 0))), (.d (.v (.int .i64 0)))])]
def ac76_1 : List AOper := [
 oM 5 0,
 oM 6 1,
 oO 7 (.bin .sub 3 (.tmp 5) (.tmp 6)),
 oM 8 0,
 oM 9 1,
 oO 10 (.bin .add 3 (.tmp 8) (.tmp 9)),
 oO 11 (.build [(.d (.v (.int .i64 0))), (.d (.v (.int .i64 0)))] [(0, 1, (.tmp 7)), (1, 1, (.tmp 10))]),
 oD (.store 2 (.tmp 4) (.tmp 11))]
def tr76 : List (Nat × Tidy) := [tF 0 [0, 1, 4], tF 1 [4]]
def tl76 : List (Nat × Tidy) := []
def ac76 : ACode := (.seq (.region ac76_0 [] (some ⟨[0, 1, 4], false, [], []⟩)) (.seq (.region ac76_1 [] (some ⟨[4], false, [], []⟩)) .ret))
def rs76 : List AResV := [.cell 4 true 2]
def ft76 : FnT := ⟨12, tr76, tl76, ac76, rs76⟩
theorem is76 : FnIs Try.prog 76 12 tr76 tl76 ac76 rs76 := ⟨Try.f76, Try.func76, rfl, by kernel_rfl, by kernel_rfl, by kernel_rfl⟩
def ac77_0 : List AOper := [
 oO 1 (.box (.tmp 0)),
 oO 2 (.alloc [(.d (.v (.int .i64 0))), (.d (.v (.int .i64 0)))]),
 oO 3 (.mv (kI 0))]
def ac77_1 : List AOper := [
 oO 4 (.faddr 0 (.tmp 1)),
 oO 5 (.load false 1 (.tmp 4)),
 oO 6 (.bin .gtr 3 (.tmp 5) (kI 1048576)),
 oM 7 6,
 oG 8 (.faddr 1 (.tmp 1)) 7 false,
 oG 9 (.load false 1 (.tmp 8)) 7 false,
 oG 10 (.bin .lss 3 (.tmp 9) (kI (-1048576))) 7 false,
 oO 11 (.pick (.tmp 7) (.const (.bool true)) (.tmp 10))]
def ac77_2 : List AOper := [
 oO 12 (.build [(.d (.v (.int .i64 0))), (.d (.v (.int .i64 0)))] []),
 oD (.store 2 (.tmp 2) (.tmp 12)),
 oO 3 (.mv (kI 24))]
def ac77_3 : List AOper := [
 oO 13 (.faddr 0 (.tmp 1)),
 oO 14 (.load false 1 (.tmp 13)),
 oO 15 (.pure (oB (.call { callee := .builtin .max, args := #[(.tmp 14), (kI (-1048576))], argTypes := #[3, 3] }) 3)),
 oO 16 (.faddr 1 (.tmp 1)),
 oO 17 (.load false 1 (.tmp 16)),
 oO 18 (.pure (oB (.call { callee := .builtin .min, args := #[(.tmp 17), (kI 1048576)], argTypes := #[3, 3] }) 3)),
 oO 19 (.build [(.d (.v (.int .i64 0))), (.d (.v (.int .i64 0)))] [(0, 1, (.tmp 15)), (1, 1, (.tmp 18))]),
 oD (.store 2 (.tmp 2) (.tmp 19)),
 oO 3 (.mv (kI 0))]
def tr77 : List (Nat × Tidy) := [tF 0 [1, 2], tF 1 [1, 2, 11], tF 2 [2, 3], tF 3 [2, 3]]
def tl77 : List (Nat × Tidy) := []
def ac77 : ACode := (.seq (.region ac77_0 [] (some ⟨[1, 2], false, [], []⟩)) (.seq (.seq (.region ac77_1 [] (some ⟨[1, 2, 11], false, [], []⟩)) (.cond (.tmp 11) (.seq (.region ac77_2 [] (some ⟨[2, 3], false, [], []⟩)) .ret) .skip)) (.seq (.region ac77_3 [] (some ⟨[2, 3], false, [], []⟩)) .ret)))
def rs77 : List AResV := [.cell 2 true 2, .tmp 3]
def ft77 : FnT := ⟨20, tr77, tl77, ac77, rs77⟩
theorem is77 : FnIs Try.prog 77 20 tr77 tl77 ac77 rs77 := ⟨Try.f77, Try.func77, rfl, by kernel_rfl, by kernel_rfl, by kernel_rfl⟩
def ac78_0 : List AOper := [
 oO 4 (.mv (kI 0))]
def ac78_1 : List AOper := [
 oM 6 0,
 oM 7 1,
 oO 8 (.bin .quo 3 (.tmp 6) (.tmp 7)),
 oM 5 8]
def ac78_2 : List AOper := [
 oM 9 0,
 oM 10 1,
 oO 11 (.bin .rem 3 (.tmp 9) (.tmp 10)),
 oO 12 (.bin .neq 3 (.tmp 11) (kI 0)),
 oM 13 12,
 oG 14 (.mv (.tmp 0)) 13 true,
 oG 15 (.bin .lss 3 (.tmp 14) (kI 0)) 13 true,
 oG 16 (.mv (.tmp 1)) 13 true,
 oG 17 (.bin .lss 3 (.tmp 16) (kI 0)) 13 true,
 oG 18 (.bin .neq 4 (.tmp 15) (.tmp 17)) 13 true,
 oO 19 (.pick (.tmp 13) (.tmp 18) (.const (.bool false)))]
def ac78_3 : List AOper := [
 oM 20 5,
 oO 21 (.bin .sub 3 (.tmp 20) (kI 1)),
 oM 5 21]
def ac78_4 : List AOper := [
 oM 22 5,
 oM 4 22]
def tr78 : List (Nat × Tidy) := [tF 0 [0, 1], tF 1 [0, 1, 5], tF 2 [5, 19], tF 3 [5], tF 4 [4]]
def tl78 : List (Nat × Tidy) := []
def ac78 : ACode := (.seq (.region ac78_0 [] (some ⟨[0, 1], false, [], []⟩)) (.seq (.region ac78_1 [] (some ⟨[0, 1, 5], false, [], []⟩)) (.seq (.seq (.region ac78_2 [] (some ⟨[5, 19], false, [], []⟩)) (.cond (.tmp 19) (.region ac78_3 [] (some ⟨[5], false, [], []⟩)) .skip)) (.seq (.region ac78_4 [] (some ⟨[4], false, [], []⟩)) .ret))))
def rs78 : List AResV := [.tmp 4]
def ft78 : FnT := ⟨23, tr78, tl78, ac78, rs78⟩
theorem is78 : FnIs Try.prog 78 23 tr78 tl78 ac78 rs78 := ⟨Try.f78, Try.func78, rfl, by kernel_rfl, by kernel_rfl, by kernel_rfl⟩
def ac79_0 : List AOper := [
 oO 4 (.mv (kI 0))]
def ac79_1 : List AOper := [
 oM 5 0,
 oO 6 (.pure (oB (.unOp .neg 3 (.tmp 5)) 3)),
 oM 7 1,
 oO 8 (.call 78 [(.tmp 6), (.tmp 7)]),
 oO 9 (.pure (oB (.unOp .neg 3 (.tmp 8)) 3)),
 oM 4 9]
def tr79 : List (Nat × Tidy) := [tF 0 [0, 1], tF 1 [4]]
def tl79 : List (Nat × Tidy) := []
def ac79 : ACode := (.seq (.region ac79_0 [] (some ⟨[0, 1], false, [], []⟩)) (.seq (.region ac79_1 [] (some ⟨[4], false, [], []⟩)) .ret))
def rs79 : List AResV := [.tmp 4]
def ft79 : FnT := ⟨10, tr79, tl79, ac79, rs79⟩
theorem is79 : FnIs Try.prog 79 10 tr79 tl79 ac79 rs79 := ⟨Try.f79, Try.func79, rfl, by kernel_rfl, by kernel_rfl, by kernel_rfl⟩
def ac83_0 : List AOper := [
 oO 5 (.box (.tmp 2)),
 oO 6 (.mv (kI 0))]
def ac83_1 : List AOper := [
 oM 8 0,
 oO 9 (.call 121 [(.tmp 8)]),
 oO 10 (.pure (oB (.unOp .not 4 (.tmp 9)) 4)),
 oM 7 10]
def ac83_2 : List AOper := [
 oO 6 (.mv (kI 3))]
def ac83_3 : List AOper := [
 oM 12 1,
 oO 13 (.call 98 [(.tmp 12), (kI 1000), (kI 200000)]),
 oO 14 (.pure (oB (.unOp .not 4 (.tmp 13)) 4)),
 oM 15 14,
 oG 16 (.faddr 0 (.tmp 5)) 15 false,
 oG 17 (.load false 1 (.tmp 16)) 15 false,
 oG 18 (.call 98 [(.tmp 17), (kI 5000), (kI 80000)]) 15 false,
 oG 19 (.pure (oB (.unOp .not 4 (.tmp 18)) 4)) 15 false,
 oO 20 (.pick (.tmp 15) (.const (.bool true)) (.tmp 19)),
 oM 21 20,
 oG 22 (.faddr 1 (.tmp 5)) 21 false,
 oG 23 (.load false 1 (.tmp 22)) 21 false,
 oG 24 (.call 98 [(.tmp 23), (kI 0), (kI 9999)]) 21 false,
 oG 25 (.pure (oB (.unOp .not 4 (.tmp 24)) 4)) 21 false,
 oO 26 (.pick (.tmp 21) (.const (.bool true)) (.tmp 25)),
 oM 11 26]
def ac83_4 : List AOper := [
 oO 6 (.mv (kI 2))]
def ac83_5 : List AOper := [
 oO 6 (.mv (kI 0))]
def tr83 : List (Nat × Tidy) := [tF 0 [0, 1, 5], tF 1 [1, 5, 7], tF 2 [6], tF 3 [11], tF 4 [6], tF 5 [6]]
def tl83 : List (Nat × Tidy) := []
def ac83 : ACode := (.seq (.region ac83_0 [] (some ⟨[0, 1, 5], false, [], []⟩)) (.seq (.block 0 (.seq (.region ac83_1 [] (some ⟨[1, 5, 7], false, [], []⟩)) (.cond (.tmp 7) (.seq (.region ac83_2 [] (some ⟨[6], false, [], []⟩)) .ret) (.seq (.region ac83_3 [] (some ⟨[11], false, [], []⟩)) (.cond (.tmp 11) (.seq (.region ac83_4 [] (some ⟨[6], false, [], []⟩)) .ret) .skip))))) (.seq (.region ac83_5 [] (some ⟨[6], false, [], []⟩)) .ret)))
def rs83 : List AResV := [.tmp 6]
def ft83 : FnT := ⟨27, tr83, tl83, ac83, rs83⟩
theorem is83 : FnIs Try.prog 83 27 tr83 tl83 ac83 rs83 := ⟨Try.f83, Try.func83, rfl, by kernel_rfl, by kernel_rfl, by kernel_rfl⟩
def ac84_0 : List AOper := [
 oO 1 (.box (.tmp 0)),
 oO 2 (.mv (kI 0))]
def ac84_1 : List AOper := [
 oO 4 (.faddr 2 (.tmp 1)),
 oO 5 (.load false 1 (.tmp 4)),
 oO 6 (.bin .lss 3 (.tmp 5) (kI 1)),
 oM 7 6,
 oG 8 (.faddr 2 (.tmp 1)) 7 false,
 oG 9 (.load false 1 (.tmp 8)) 7 false,
 oG 10 (.bin .gtr 3 (.tmp 9) (kI 1000)) 7 false,
 oO 11 (.pick (.tmp 7) (.const (.bool true)) (.tmp 10)),
 oM 3 11]
def ac84_2 : List AOper := [
 oO 2 (.mv (kI 2))]
def ac84_3 : List AOper := [
 oO 13 (.faddr 0 (.tmp 1)),
 oO 14 (.load false 1 (.tmp 13)),
 oO 15 (.faddr 2 (.tmp 1)),
 oO 16 (.load false 1 (.tmp 15)),
 oO 17 (.call 122 [(.tmp 14), (.tmp 16)]),
 oO 18 (.pure (oB (.unOp .not 4 (.tmp 17)) 4)),
 oM 19 18,
 oG 20 (.faddr 1 (.tmp 1)) 19 false,
 oG 21 (.load false 1 (.tmp 20)) 19 false,
 oG 22 (.faddr 2 (.tmp 1)) 19 false,
 oG 23 (.load false 1 (.tmp 22)) 19 false,
 oG 24 (.call 122 [(.tmp 21), (.tmp 23)]) 19 false,
 oG 25 (.pure (oB (.unOp .not 4 (.tmp 24)) 4)) 19 false,
 oO 26 (.pick (.tmp 19) (.const (.bool true)) (.tmp 25)),
 oM 27 26,
 oG 28 (.faddr 0 (.tmp 1)) 27 false,
 oG 29 (.load false 1 (.tmp 28)) 27 false,
 oG 30 (.faddr 0 (.tmp 1)) 27 false,
 oG 31 (.load false 1 (.tmp 30)) 27 false,
 oG 32 (.bin .mul 3 (.tmp 29) (.tmp 31)) 27 false,
 oG 33 (.faddr 1 (.tmp 1)) 27 false,
 oG 34 (.load false 1 (.tmp 33)) 27 false,
 oG 35 (.faddr 1 (.tmp 1)) 27 false,
 oG 36 (.load false 1 (.tmp 35)) 27 false,
 oG 37 (.bin .mul 3 (.tmp 34) (.tmp 36)) 27 false,
 oG 38 (.bin .add 3 (.tmp 32) (.tmp 37)) 27 false,
 oG 39 (.faddr 2 (.tmp 1)) 27 false,
 oG 40 (.load false 1 (.tmp 39)) 27 false,
 oG 41 (.faddr 2 (.tmp 1)) 27 false,
 oG 42 (.load false 1 (.tmp 41)) 27 false,
 oG 43 (.bin .mul 3 (.tmp 40) (.tmp 42)) 27 false,
 oG 44 (.bin .neq 3 (.tmp 38) (.tmp 43)) 27 false,
 oO 45 (.pick (.tmp 27) (.const (.bool true)) (.tmp 44)),
 oM 12 45]
def ac84_4 : List AOper := [
 oO 2 (.mv (kI 12))]
def ac84_5 : List AOper := [
 oO 2 (.mv (kI 0))]
def tr84 : List (Nat × Tidy) := [tF 0 [1], tF 1 [1, 3], tF 2 [2], tF 3 [12], tF 4 [2], tF 5 [2]]
def tl84 : List (Nat × Tidy) := []
def ac84 : ACode := (.seq (.region ac84_0 [] (some ⟨[1], false, [], []⟩)) (.seq (.block 0 (.seq (.region ac84_1 [] (some ⟨[1, 3], false, [], []⟩)) (.cond (.tmp 3) (.seq (.region ac84_2 [] (some ⟨[2], false, [], []⟩)) .ret) (.seq (.region ac84_3 [] (some ⟨[12], false, [], []⟩)) (.cond (.tmp 12) (.seq (.region ac84_4 [] (some ⟨[2], false, [], []⟩)) .ret) .skip))))) (.seq (.region ac84_5 [] (some ⟨[2], false, [], []⟩)) .ret)))
def rs84 : List AResV := [.tmp 2]
def ft84 : FnT := ⟨46, tr84, tl84, ac84, rs84⟩
theorem is84 : FnIs Try.prog 84 46 tr84 tl84 ac84 rs84 := ⟨Try.f84, Try.func84, rfl, by kernel_rfl, by kernel_rfl, by kernel_rfl⟩
def ac85_0 : List AOper := [
 oO 2 (.box (.tmp 0)),
 oO 3 (.alloc [(.d (.v (.int .i64 0))), (.d (.v (.int .i64 0)))])]
def ac85_1 : List AOper := [
 oO 6 (.mkfn 86 [(.tmp 1)]),
 oM 4 6]
def ac85_2 : List AOper := [
 oO 7 (.mkfn 87 [(.tmp 1)]),
 oM 5 7]
def ac85_3 : List AOper := [
 oM 8 4,
 oO 9 (.faddr 1 (.tmp 2)),
 oO 10 (.load false 1 (.tmp 9)),
 oO 11 (.calld (.tmp 8) [(.tmp 10)]),
 oM 12 5,
 oO 13 (.faddr 1 (.tmp 2)),
 oO 14 (.load false 1 (.tmp 13)),
 oO 15 (.calld (.tmp 12) [(.tmp 14)]),
 oO 16 (.call 78 [(.tmp 11), (.tmp 15)]),
 oM 17 4,
 oO 18 (.faddr 0 (.tmp 2)),
 oO 19 (.load false 1 (.tmp 18)),
 oO 20 (.calld (.tmp 17) [(.tmp 19)]),
 oM 21 5,
 oO 22 (.faddr 0 (.tmp 2)),
 oO 23 (.load false 1 (.tmp 22)),
 oO 24 (.calld (.tmp 21) [(.tmp 23)]),
 oO 25 (.call 79 [(.tmp 20), (.tmp 24)]),
 oO 26 (.build [(.d (.v (.int .i64 0))), (.d (.v (.int .i64 0)))] [(0, 1, (.tmp 16)), (1, 1, (.tmp 25))]),
 oD (.store 2 (.tmp 3) (.tmp 26))]
def tr85 : List (Nat × Tidy) := [tF 0 [1, 2, 3], tF 1 [1, 2, 3, 4], tF 2 [2, 3, 4, 5], tF 3 [3]]
def tl85 : List (Nat × Tidy) := []
def ac85 : ACode := (.seq (.region ac85_0 [] (some ⟨[1, 2, 3], false, [], []⟩)) (.seq (.region ac85_1 [] (some ⟨[1, 2, 3, 4], false, [], []⟩)) (.seq (.region ac85_2 [] (some ⟨[2, 3, 4, 5], false, [], []⟩)) (.seq (.region ac85_3 [(3, 6), (3, 11), (7, 11), (8, 11), (3, 15), (7, 15), (8, 15), (12, 15)] (some ⟨[3], false, [], []⟩)) .ret))))
def rs85 : List AResV := [.cell 3 true 2]
def ft85 : FnT := ⟨27, tr85, tl85, ac85, rs85⟩
theorem is85 : FnIs Try.prog 85 27 tr85 tl85 ac85 rs85 := ⟨Try.f85, Try.func85, rfl, by kernel_rfl, by kernel_rfl, by kernel_rfl⟩
def ac86_0 : List AOper := [
 oO 3 (.mv (kI 0))]
def ac86_1 : List AOper := [
 oO 4 (.faddr 0 (.tmp 1)),
 oO 5 (.load false 1 (.tmp 4)),
 oO 6 (.bin .mul 3 (.tmp 5) (kI 1048576)),
 oM 7 0,
 oO 8 (.faddr 2 (.tmp 1)),
 oO 9 (.load false 1 (.tmp 8)),
 oO 10 (.bin .mul 3 (.tmp 7) (.tmp 9)),
 oO 11 (.bin .sub 3 (.tmp 6) (.tmp 10)),
 oO 12 (.bin .mul 3 (.tmp 11) (kI 1048576)),
 oM 3 12]
def tr86 : List (Nat × Tidy) := [tF 0 [0, 1], tF 1 [3]]
def tl86 : List (Nat × Tidy) := []
def ac86 : ACode := (.seq (.region ac86_0 [] (some ⟨[0, 1], false, [], []⟩)) (.seq (.region ac86_1 [] (some ⟨[3], false, [], []⟩)) .ret))
def rs86 : List AResV := [.tmp 3]
def ft86 : FnT := ⟨13, tr86, tl86, ac86, rs86⟩
theorem is86 : FnIs Try.prog 86 13 tr86 tl86 ac86 rs86 := ⟨Try.f86, Try.func86, rfl, by kernel_rfl, by kernel_rfl, by kernel_rfl⟩
def ac87_0 : List AOper := [
 oO 3 (.mv (kI 0))]
def ac87_1 : List AOper := [
 oO 4 (.faddr 2 (.tmp 1)),
 oO 5 (.load false 1 (.tmp 4)),
 oO 6 (.bin .mul 3 (.tmp 5) (kI 1048576)),
 oM 7 0,
 oO 8 (.faddr 0 (.tmp 1)),
 oO 9 (.load false 1 (.tmp 8)),
 oO 10 (.bin .mul 3 (.tmp 7) (.tmp 9)),
 oO 11 (.bin .sub 3 (.tmp 6) (.tmp 10)),
 oM 3 11]
def tr87 : List (Nat × Tidy) := [tF 0 [0, 1], tF 1 [3]]
def tl87 : List (Nat × Tidy) := []
def ac87 : ACode := (.seq (.region ac87_0 [] (some ⟨[0, 1], false, [], []⟩)) (.seq (.region ac87_1 [] (some ⟨[3], false, [], []⟩)) .ret))
def rs87 : List AResV := [.tmp 3]
def ft87 : FnT := ⟨12, tr87, tl87, ac87, rs87⟩
theorem is87 : FnIs Try.prog 87 12 tr87 tl87 ac87 rs87 := ⟨Try.f87, Try.func87, rfl, by kernel_rfl, by kernel_rfl, by kernel_rfl⟩
def ac88_0 : List AOper := [
 oO 2 (.box (.tmp 0)),
 oO 3 (.box (.tmp 1)),
 oO 4 (.alloc [(.d (.v (.int .i64 0))), (.d (.v (.int .i64 0)))]),
 oO 5 (.mv (.const (.bool false)))]
def ac88_1 : List AOper := [
 oO 7 (.faddr 0 (.tmp 2)),
 oO 8 (.load false 1 (.tmp 7)),
 oO 9 (.faddr 0 (.tmp 3)),
 oO 10 (.load false 1 (.tmp 9)),
 oO 11 (.pure (oB (.call { callee := .builtin .max, args := #[(.tmp 8), (.tmp 10)], argTypes := #[3, 3] }) 3)),
 oO 12 (.faddr 1 (.tmp 2)),
 oO 13 (.load false 1 (.tmp 12)),
 oO 14 (.faddr 1 (.tmp 3)),
 oO 15 (.load false 1 (.tmp 14)),
 oO 16 (.pure (oB (.call { callee := .builtin .min, args := #[(.tmp 13), (.tmp 15)], argTypes := #[3, 3] }) 3)),
 oO 17 (.build [(.d (.v (.int .i64 0))), (.d (.v (.int .i64 0)))] [(0, 1, (.tmp 11)), (1, 1, (.tmp 16))]),
 oO 6 (.alloc [(.d (.v (.int .i64 0))), (.d (.v (.int .i64 0)))]),
 oD (.store 2 (.tmp 6) (.tmp 17))]
def ac88_2 : List AOper := [
 oO 18 (.load true 2 (.tmp 6)),
 oO 19 (.faddr 0 (.tmp 6)),
 oO 20 (.load false 1 (.tmp 19)),
 oO 21 (.faddr 1 (.tmp 6)),
 oO 22 (.load false 1 (.tmp 21)),
 oO 23 (.bin .leq 3 (.tmp 20) (.tmp 22)),
 oD (.store 2 (.tmp 4) (.tmp 18)),
 oM 5 23]
def tr88 : List (Nat × Tidy) := [tF 0 [2, 3, 4], tF 1 [4, 6], tF 2 [4, 5]]
def tl88 : List (Nat × Tidy) := []
def ac88 : ACode := (.seq (.region ac88_0 [] (some ⟨[2, 3, 4], false, [], []⟩)) (.seq (.region ac88_1 [] (some ⟨[4, 6], false, [], []⟩)) (.seq (.region ac88_2 [(2, 6), (4, 6)] (some ⟨[4, 5], false, [], []⟩)) .ret)))
def rs88 : List AResV := [.cell 4 true 2, .tmp 5]
def ft88 : FnT := ⟨24, tr88, tl88, ac88, rs88⟩
theorem is88 : FnIs Try.prog 88 24 tr88 tl88 ac88 rs88 := ⟨Try.f88, Try.func88, rfl, by kernel_rfl, by kernel_rfl, by kernel_rfl⟩
def ac89_0 : List AOper := [
 oO 2 (.mv (kI 0))]
def ac89_1 : List AOper := [
 oM 5 0,
 oO 6 (.len (.tmp 5)),
 oO 7 (.bin .lss 3 (.tmp 6) (kI 1))]
def ac89_2 : List AOper := [
 ⟨(some 8), (.ifc 9 (.const (.string ⟨#[115, 108, 105, 99, 101, 115, 46, 77, 105, 110, 58, 32, 101, 109, 112, 116, 121, 32, 108, 105, 115, 116]⟩))), none⟩,
 ⟨none, .bad, none⟩]
def ac89_3 : List AOper := [
 oM 9 0,
 oO 10 (.iaddr 1 none (.tmp 9) (kI 0)),
 oO 11 (.load false 1 (.tmp 10)),
 oM 3 11]
def ac89_4 : List AOper := [
 oO 4 (.mv (kI 1))]
def ac89_5 : List AOper := [
 oM 12 4,
 oM 13 0,
 oO 14 (.len (.tmp 13)),
 oO 15 (.bin .lss 3 (.tmp 12) (.tmp 14))]
def ac89_6 : List AOper := [
 oM 18 3,
 oM 19 0,
 oM 20 4,
 oO 21 (.iaddr 1 none (.tmp 19) (.tmp 20)),
 oO 22 (.load false 1 (.tmp 21)),
 oO 23 (.pure (oB (.call { callee := .builtin .min, args := #[(.tmp 18), (.tmp 22)], argTypes := #[3, 3] }) 3)),
 oM 3 23]
def ac89_7 : List AOper := [
 oM 16 4,
 oO 17 (.bin .add 3 (.tmp 16) (kI 1)),
 oM 4 17]
def ac89_8 : List AOper := [
 oM 24 3,
 oM 2 24]
def tr89 : List (Nat × Tidy) := [tF 0 [0], tF 1 [0, 7], tF 2 [0], tF 3 [0, 3], tF 4 [0, 3, 4], tF 5 [0, 3, 4, 15], tF 7 [0, 3, 4], tF 6 [0, 3, 4], tF 8 [2]]
def tl89 : List (Nat × Tidy) := [(5, ⟨[0, 3, 4], true, [⟨false, 3, 0, 20003, 0⟩, ⟨false, 4, 0, 20004, 0⟩], []⟩)]
def ac89 : ACode := (.seq (.region ac89_0 [] (some ⟨[0], false, [], []⟩)) (.seq (.seq (.region ac89_1 [] (some ⟨[0, 7], false, [], []⟩)) (.cond (.tmp 7) (.region ac89_2 [] (some ⟨[0], false, [], []⟩)) .skip)) (.seq (.region ac89_3 [] (some ⟨[0, 3], false, [], []⟩)) (.seq (.seq (.region ac89_4 [] (some ⟨[0, 3, 4], false, [], []⟩)) (.block 0 (.loop (some ⟨[0, 3, 4], true, [⟨false, 3, 0, 20003, 0⟩, ⟨false, 4, 0, 20004, 0⟩], []⟩) (.seq (.seq (.region ac89_5 [] (some ⟨[0, 3, 4, 15], false, [], []⟩)) (.cond (.tmp 15) .skip (.exit 0))) (.seq (.block 1 (.region ac89_6 [] (some ⟨[0, 3, 4], false, [], []⟩))) (.region ac89_7 [] (some ⟨[0, 3, 4], false, [], []⟩))))))) (.seq (.region ac89_8 [] (some ⟨[2], false, [], []⟩)) .ret)))))
def rs89 : List AResV := [.tmp 2]
def ft89 : FnT := ⟨25, tr89, tl89, ac89, rs89⟩
theorem is89 : FnIs Try.prog 89 25 tr89 tl89 ac89 rs89 := ⟨Try.f89, Try.func89, rfl, by kernel_rfl, by kernel_rfl, by kernel_rfl⟩
def ac90_0 : List AOper := [
 oO 2 (.mv (kI 0))]
def ac90_1 : List AOper := [
 oM 5 0,
 oO 6 (.len (.tmp 5)),
 oO 7 (.bin .lss 3 (.tmp 6) (kI 1))]
def ac90_2 : List AOper := [
 ⟨(some 8), (.ifc 9 (.const (.string ⟨#[115, 108, 105, 99, 101, 115, 46, 77, 97, 120, 58, 32, 101, 109, 112, 116, 121, 32, 108, 105, 115, 116]⟩))), none⟩,
 ⟨none, .bad, none⟩]
def ac90_3 : List AOper := [
 oM 9 0,
 oO 10 (.iaddr 1 none (.tmp 9) (kI 0)),
 oO 11 (.load false 1 (.tmp 10)),
 oM 3 11]
def ac90_4 : List AOper := [
 oO 4 (.mv (kI 1))]
def ac90_5 : List AOper := [
 oM 12 4,
 oM 13 0,
 oO 14 (.len (.tmp 13)),
 oO 15 (.bin .lss 3 (.tmp 12) (.tmp 14))]
def ac90_6 : List AOper := [
 oM 18 3,
 oM 19 0,
 oM 20 4,
 oO 21 (.iaddr 1 none (.tmp 19) (.tmp 20)),
 oO 22 (.load false 1 (.tmp 21)),
 oO 23 (.pure (oB (.call { callee := .builtin .max, args := #[(.tmp 18), (.tmp 22)], argTypes := #[3, 3] }) 3)),
 oM 3 23]
def ac90_7 : List AOper := [
 oM 16 4,
 oO 17 (.bin .add 3 (.tmp 16) (kI 1)),
 oM 4 17]
def ac90_8 : List AOper := [
 oM 24 3,
 oM 2 24]
def tr90 : List (Nat × Tidy) := [tF 0 [0], tF 1 [0, 7], tF 2 [0], tF 3 [0, 3], tF 4 [0, 3, 4], tF 5 [0, 3, 4, 15], tF 7 [0, 3, 4], tF 6 [0, 3, 4], tF 8 [2]]
def tl90 : List (Nat × Tidy) := [(5, ⟨[0, 3, 4], true, [⟨false, 3, 0, 20003, 0⟩, ⟨false, 4, 0, 20004, 0⟩], []⟩)]
def ac90 : ACode := (.seq (.region ac90_0 [] (some ⟨[0], false, [], []⟩)) (.seq (.seq (.region ac90_1 [] (some ⟨[0, 7], false, [], []⟩)) (.cond (.tmp 7) (.region ac90_2 [] (some ⟨[0], false, [], []⟩)) .skip)) (.seq (.region ac90_3 [] (some ⟨[0, 3], false, [], []⟩)) (.seq (.seq (.region ac90_4 [] (some ⟨[0, 3, 4], false, [], []⟩)) (.block 0 (.loop (some ⟨[0, 3, 4], true, [⟨false, 3, 0, 20003, 0⟩, ⟨false, 4, 0, 20004, 0⟩], []⟩) (.seq (.seq (.region ac90_5 [] (some ⟨[0, 3, 4, 15], false, [], []⟩)) (.cond (.tmp 15) .skip (.exit 0))) (.seq (.block 1 (.region ac90_6 [] (some ⟨[0, 3, 4], false, [], []⟩))) (.region ac90_7 [] (some ⟨[0, 3, 4], false, [], []⟩))))))) (.seq (.region ac90_8 [] (some ⟨[2], false, [], []⟩)) .ret)))))
def rs90 : List AResV := [.tmp 2]
def ft90 : FnT := ⟨25, tr90, tl90, ac90, rs90⟩
theorem is90 : FnIs Try.prog 90 25 tr90 tl90 ac90 rs90 := ⟨Try.f90, Try.func90, rfl, by kernel_rfl, by kernel_rfl, by kernel_rfl⟩
def ac96_0 : List AOper := [
 oO 4 (.mv (kI 0))]
def ac96_1 : List AOper := [
 oM 8 1,
 oO 9 (.len (.tmp 8)),
 oO 10 (.mv (kI 0))]
def ac96_2 : List AOper := [
 oO 11 (.bin .lss 3 (.tmp 10) (.tmp 9))]
def ac96_3 : List AOper := [
 oO 12 (.iaddr 2 none (.tmp 8) (.tmp 10)),
 oO 13 (.load true 2 (.tmp 12)),
 oO 6 (.alloc [(.d (.v (.int .i64 0))), (.d (.v (.int .i64 0)))]),
 oD (.store 2 (.tmp 6) (.tmp 13))]
def ac96_4 : List AOper := [
 oO 14 (.load true 2 (.tmp 6)),
 oM 15 0,
 oO 16 (.call 125 [(.tmp 14), (.tmp 15)]),
 oM 7 16]
def ac96_5 : List AOper := [
 oM 17 7,
 oO 18 (.bin .neq 28 (.tmp 17) (kI 0))]
def ac96_6 : List AOper := [
 oM 19 7,
 oM 4 19]
def ac96_7 : List AOper := [
 oO 20 (.bin .add 3 (.tmp 10) (kI 1)),
 oM 10 20]
def ac96_8 : List AOper := [
 oO 4 (.mv (kI 0))]
def tr96 : List (Nat × Tidy) := [tF 0 [0, 1], tF 1 [0, 8, 9, 10], tF 2 [0, 8, 9, 10, 11], tF 3 [0, 6, 8, 9, 10], tF 4 [0, 7, 8, 9, 10], tF 5 [0, 7, 8, 9, 10, 18], tF 6 [4], tF 7 [0, 8, 9, 10], tF 8 [4]]
def tl96 : List (Nat × Tidy) := [(2, ⟨[0, 8, 9, 10], true, [⟨false, 8, 0, 20008, 0⟩, ⟨false, 10, 0, 20010, 0⟩], []⟩)]
def ac96 : ACode := (.seq (.region ac96_0 [] (some ⟨[0, 1], false, [], []⟩)) (.seq (.seq (.region ac96_1 [] (some ⟨[0, 8, 9, 10], false, [], []⟩)) (.block 0 (.loop (some ⟨[0, 8, 9, 10], true, [⟨false, 8, 0, 20008, 0⟩, ⟨false, 10, 0, 20010, 0⟩], []⟩) (.seq (.region ac96_2 [] (some ⟨[0, 8, 9, 10, 11], false, [], []⟩)) (.seq (.cond (.tmp 11) .skip (.exit 0)) (.seq (.block 1 (.seq (.region ac96_3 [] (some ⟨[0, 6, 8, 9, 10], false, [], []⟩)) (.seq (.region ac96_4 [] (some ⟨[0, 7, 8, 9, 10], false, [], []⟩)) (.seq (.region ac96_5 [] (some ⟨[0, 7, 8, 9, 10, 18], false, [], []⟩)) (.cond (.tmp 18) (.seq (.region ac96_6 [] (some ⟨[4], false, [], []⟩)) .ret) .skip))))) (.region ac96_7 [] (some ⟨[0, 8, 9, 10], false, [], []⟩)))))))) (.seq (.region ac96_8 [] (some ⟨[4], false, [], []⟩)) .ret)))
def rs96 : List AResV := [.tmp 4]
def ft96 : FnT := ⟨21, tr96, tl96, ac96, rs96⟩
theorem is96 : FnIs Try.prog 96 21 tr96 tl96 ac96 rs96 := ⟨Try.f96, Try.func96, rfl, by kernel_rfl, by kernel_rfl, by kernel_rfl⟩
def ac98_0 : List AOper := [
 oO 6 (.mv (.const (.bool false)))]
def ac98_1 : List AOper := [
 oM 7 1,
 oM 8 0,
 oO 9 (.bin .leq 3 (.tmp 7) (.tmp 8)),
 oM 10 9,
 oG 11 (.mv (.tmp 0)) 10 true,
 oG 12 (.mv (.tmp 2)) 10 true,
 oG 13 (.bin .leq 3 (.tmp 11) (.tmp 12)) 10 true,
 oO 14 (.pick (.tmp 10) (.tmp 13) (.const (.bool false))),
 oM 6 14]
def tr98 : List (Nat × Tidy) := [tF 0 [0, 1, 2], tF 1 [6]]
def tl98 : List (Nat × Tidy) := []
def ac98 : ACode := (.seq (.region ac98_0 [] (some ⟨[0, 1, 2], false, [], []⟩)) (.seq (.region ac98_1 [] (some ⟨[6], false, [], []⟩)) .ret))
def rs98 : List AResV := [.tmp 6]
def ft98 : FnT := ⟨15, tr98, tl98, ac98, rs98⟩
theorem is98 : FnIs Try.prog 98 15 tr98 tl98 ac98 rs98 := ⟨Try.f98, Try.func98, rfl, by kernel_rfl, by kernel_rfl, by kernel_rfl⟩
def ac109_0 : List AOper := [
 oO 4 (.mv (.const (.bool false)))]
def ac109_1 : List AOper := [
 oM 5 0,
 oM 6 1,
 oO 7 (.pure (oB (.unOp .neg 3 (.tmp 6)) 3)),
 oM 8 1,
 oO 9 (.call 98 [(.tmp 5), (.tmp 7), (.tmp 8)]),
 oM 4 9]
def tr109 : List (Nat × Tidy) := [tF 0 [0, 1], tF 1 [4]]
def tl109 : List (Nat × Tidy) := []
def ac109 : ACode := (.seq (.region ac109_0 [] (some ⟨[0, 1], false, [], []⟩)) (.seq (.region ac109_1 [] (some ⟨[4], false, [], []⟩)) .ret))
def rs109 : List AResV := [.tmp 4]
def ft109 : FnT := ⟨10, tr109, tl109, ac109, rs109⟩
theorem is109 : FnIs Try.prog 109 10 tr109 tl109 ac109 rs109 := ⟨Try.f109, Try.func109, rfl, by kernel_rfl, by kernel_rfl, by kernel_rfl⟩
def ac118_0 : List AOper := [
 oO 6 (.mv (kI 0)),
 oO 7 (.mv (kI 0))]
def ac118_1 : List AOper := [
 oM 9 0,
 oM 10 0,
 oO 11 (.bin .neq 74 (.tmp 9) (.tmp 10)),
 oM 12 11,
 oG 13 (.mv (.tmp 0)) 12 false,
 oG 14 (.mv (.tmp 0)) 12 false,
 oG 15 (.bin .sub 74 (.tmp 13) (.tmp 14)) 12 false,
 oG 16 (.bin .neq 74 (.tmp 15) (.const (.float Go.FloatKind.f32 0))) 12 false,
 oO 17 (.pick (.tmp 12) (.const (.bool true)) (.tmp 16)),
 oM 8 17]
def ac118_2 : List AOper := [
 oO 6 (.mv (kI 0)),
 oO 7 (.mv (kI 27))]
def ac118_3 : List AOper := [
 oM 19 0,
 oO 20 (.bin .gtr 74 (.tmp 19) (.const (.float Go.FloatKind.f32 1317011456))),
 oM 21 20,
 oG 22 (.mv (.tmp 0)) 21 false,
 oG 23 (.bin .lss 74 (.tmp 22) (.const (.float Go.FloatKind.f32 3464495104))) 21 false,
 oO 24 (.pick (.tmp 21) (.const (.bool true)) (.tmp 23)),
 oM 18 24]
def ac118_4 : List AOper := [
 oO 6 (.mv (kI 0)),
 oO 7 (.mv (kI 2))]
def ac118_5 : List AOper := [
 oM 26 0,
 oO 27 (.pure (oB (.convert 74 3 (.tmp 26)) 3)),
 oO 28 (.pure (oB (.convert 3 74 (.tmp 27)) 74)),
 oM 29 0,
 oO 30 (.bin .neq 74 (.tmp 28) (.tmp 29)),
 oM 25 30]
def ac118_6 : List AOper := [
 oO 6 (.mv (kI 0)),
 oO 7 (.mv (kI 27))]
def ac118_7 : List AOper := [
 oM 32 0,
 oO 33 (.pure (oB (.convert 74 3 (.tmp 32)) 3)),
 oM 34 1,
 oM 35 2,
 oO 36 (.call 98 [(.tmp 33), (.tmp 34), (.tmp 35)]),
 oO 37 (.pure (oB (.unOp .not 4 (.tmp 36)) 4)),
 oM 31 37]
def ac118_8 : List AOper := [
 oO 6 (.mv (kI 0)),
 oO 7 (.mv (kI 2))]
def ac118_9 : List AOper := [
 oM 38 0,
 oO 39 (.pure (oB (.convert 74 3 (.tmp 38)) 3)),
 oM 6 39,
 oO 7 (.mv (kI 0))]
def tr118 : List (Nat × Tidy) := [tF 0 [0, 1, 2], tF 1 [0, 1, 2, 8], tF 2 [6, 7], tF 3 [0, 1, 2, 18], tF 4 [6, 7], tF 5 [0, 1, 2, 25], tF 6 [6, 7], tF 7 [0, 31], tF 8 [6, 7], tF 9 [6, 7]]
def tl118 : List (Nat × Tidy) := []
def ac118 : ACode := (.seq (.region ac118_0 [] (some ⟨[0, 1, 2], false, [], []⟩)) (.seq (.block 0 (.seq (.region ac118_1 [] (some ⟨[0, 1, 2, 8], false, [], []⟩)) (.cond (.tmp 8) (.seq (.region ac118_2 [] (some ⟨[6, 7], false, [], []⟩)) .ret) (.seq (.region ac118_3 [] (some ⟨[0, 1, 2, 18], false, [], []⟩)) (.cond (.tmp 18) (.seq (.region ac118_4 [] (some ⟨[6, 7], false, [], []⟩)) .ret) (.seq (.region ac118_5 [] (some ⟨[0, 1, 2, 25], false, [], []⟩)) (.cond (.tmp 25) (.seq (.region ac118_6 [] (some ⟨[6, 7], false, [], []⟩)) .ret) (.seq (.region ac118_7 [] (some ⟨[0, 31], false, [], []⟩)) (.cond (.tmp 31) (.seq (.region ac118_8 [] (some ⟨[6, 7], false, [], []⟩)) .ret) .skip))))))))) (.seq (.region ac118_9 [] (some ⟨[6, 7], false, [], []⟩)) .ret)))
def rs118 : List AResV := [.tmp 6, .tmp 7]
def ft118 : FnT := ⟨40, tr118, tl118, ac118, rs118⟩
theorem is118 : FnIs Try.prog 118 40 tr118 tl118 ac118 rs118 := ⟨Try.f118, Try.func118, rfl, by kernel_rfl, by kernel_rfl, by kernel_rfl⟩
def ac119_0 : List AOper := [
 oO 2 (.box (.tmp 0)),
 oO 4 (.alloc [(.d (.v (.int .i64 0))), (.d (.v (.int .i64 0)))])]
def ac119_1 : List AOper := [
 oM 5 1,
 oO 6 (.bin .rem 3 (.tmp 5) (kI 4)),
 oO 7 (.bin .add 3 (.tmp 6) (kI 4)),
 oO 8 (.bin .rem 3 (.tmp 7) (kI 4))]
def ac119_2 : List AOper := [
 oO 10 (.bin .eql 3 (.tmp 8) (kI 1)),
 oM 9 10]
def ac119_3 : List AOper := [
 oO 11 (.faddr 1 (.tmp 2)),
 oO 12 (.load false 1 (.tmp 11)),
 oO 13 (.pure (oB (.unOp .neg 3 (.tmp 12)) 3)),
 oO 14 (.faddr 0 (.tmp 2)),
 oO 15 (.load false 1 (.tmp 14)),
 oO 16 (.build [(.d (.v (.int .i64 0))), (.d (.v (.int .i64 0)))] [(0, 1, (.tmp 13)), (1, 1, (.tmp 15))]),
 oD (.store 2 (.tmp 4) (.tmp 16))]
def ac119_4 : List AOper := [
 oO 18 (.bin .eql 3 (.tmp 8) (kI 2)),
 oM 17 18]
def ac119_5 : List AOper := [
 oO 19 (.faddr 0 (.tmp 2)),
 oO 20 (.load false 1 (.tmp 19)),
 oO 21 (.pure (oB (.unOp .neg 3 (.tmp 20)) 3)),
 oO 22 (.faddr 1 (.tmp 2)),
 oO 23 (.load false 1 (.tmp 22)),
 oO 24 (.pure (oB (.unOp .neg 3 (.tmp 23)) 3)),
 oO 25 (.build [(.d (.v (.int .i64 0))), (.d (.v (.int .i64 0)))] [(0, 1, (.tmp 21)), (1, 1, (.tmp 24))]),
 oD (.store 2 (.tmp 4) (.tmp 25))]
def ac119_6 : List AOper := [
 oO 27 (.bin .eql 3 (.tmp 8) (kI 3)),
 oM 26 27]
def ac119_7 : List AOper := [
 oO 28 (.faddr 1 (.tmp 2)),
 oO 29 (.load false 1 (.tmp 28)),
 oO 30 (.faddr 0 (.tmp 2)),
 oO 31 (.load false 1 (.tmp 30)),
 oO 32 (.pure (oB (.unOp .neg 3 (.tmp 31)) 3)),
 oO 33 (.build [(.d (.v (.int .i64 0))), (.d (.v (.int .i64 0)))] [(0, 1, (.tmp 29)), (1, 1, (.tmp 32))]),
 oD (.store 2 (.tmp 4) (.tmp 33))]
def ac119_8 : List AOper := [
 oO 34 (.load true 2 (.tmp 2)),
 oD (.store 2 (.tmp 4) (.tmp 34))]
def tr119 : List (Nat × Tidy) := [tF 0 [1, 2, 4], tF 1 [2, 4, 8], tF 2 [2, 4, 8, 9], tF 3 [4], tF 4 [2, 4, 8, 17], tF 5 [4], tF 6 [2, 4, 26], tF 7 [4], tF 8 [4]]
def tl119 : List (Nat × Tidy) := []
def ac119 : ACode := (.seq (.region ac119_0 [] (some ⟨[1, 2, 4], false, [], []⟩)) (.seq (.seq (.region ac119_1 [] (some ⟨[2, 4, 8], false, [], []⟩)) (.block 0 (.seq (.region ac119_2 [] (some ⟨[2, 4, 8, 9], false, [], []⟩)) (.cond (.tmp 9) (.seq (.region ac119_3 [] (some ⟨[4], false, [], []⟩)) .ret) (.seq (.region ac119_4 [] (some ⟨[2, 4, 8, 17], false, [], []⟩)) (.cond (.tmp 17) (.seq (.region ac119_5 [] (some ⟨[4], false, [], []⟩)) .ret) (.seq (.region ac119_6 [] (some ⟨[2, 4, 26], false, [], []⟩)) (.cond (.tmp 26) (.seq (.region ac119_7 [] (some ⟨[4], false, [], []⟩)) .ret) .skip)))))))) (.seq (.region ac119_8 [] (some ⟨[4], false, [], []⟩)) .ret)))
def rs119 : List AResV := [.cell 4 true 2]
def ft119 : FnT := ⟨35, tr119, tl119, ac119, rs119⟩
theorem is119 : FnIs Try.prog 119 35 tr119 tl119 ac119 rs119 := ⟨Try.f119, Try.func119, rfl, by kernel_rfl, by kernel_rfl, by kernel_rfl⟩
def ac121_0 : List AOper := [
 oO 2 (.mv (.const (.bool false)))]
def ac121_1 : List AOper := [
 oM 6 0,
 oO 7 (.bytes (.tmp 6)),
 oO 8 (.len (.tmp 7)),
 oO 9 (.mv (kI 0))]
def ac121_2 : List AOper := [
 oO 10 (.bin .lss 3 (.tmp 9) (.tmp 8))]
def ac121_3 : List AOper := [
 oM 11 9,
 oO 12 (.iaddr 1 none (.tmp 7) (.tmp 9)),
 oO 13 (.load false 1 (.tmp 12)),
 oM 3 11,
 oM 4 13]
def ac121_4 : List AOper := [
 oM 14 4,
 oO 15 (.bin .geq 5 (.tmp 14) (.const (.int .u8 97))),
 oM 16 15,
 oG 17 (.mv (.tmp 4)) 16 true,
 oG 18 (.bin .leq 5 (.tmp 17) (.const (.int .u8 122))) 16 true,
 oO 19 (.pick (.tmp 16) (.tmp 18) (.const (.bool false))),
 oM 20 19,
 oG 21 (.mv (.tmp 4)) 20 false,
 oG 22 (.bin .geq 5 (.tmp 21) (.const (.int .u8 65))) 20 false,
 oG 23 (.mv (.tmp 22)) 20 false,
 oG 24 (.mv (.tmp 4)) 23 true,
 oG 25 (.bin .leq 5 (.tmp 24) (.const (.int .u8 90))) 23 true,
 oG 26 (.pick (.tmp 23) (.tmp 25) (.const (.bool false))) 20 false,
 oO 27 (.pick (.tmp 20) (.const (.bool true)) (.tmp 26)),
 oM 5 27]
def ac121_5 : List AOper := [
 oM 28 5,
 oO 29 (.pure (oB (.unOp .not 4 (.tmp 28)) 4)),
 oM 30 29,
 oG 31 (.mv (.tmp 3)) 30 true,
 oG 32 (.bin .eql 3 (.tmp 31) (kI 0)) 30 true,
 oG 33 (.mv (.tmp 32)) 30 true,
 oG 34 (.mv (.tmp 4)) 33 false,
 oG 35 (.bin .neq 5 (.tmp 34) (.const (.int .u8 45))) 33 false,
 oG 36 (.mv (.tmp 35)) 33 false,
 oG 37 (.mv (.tmp 4)) 36 true,
 oG 38 (.bin .lss 5 (.tmp 37) (.const (.int .u8 48))) 36 true,
 oG 39 (.mv (.tmp 38)) 36 true,
 oG 40 (.mv (.tmp 4)) 39 false,
 oG 41 (.bin .gtr 5 (.tmp 40) (.const (.int .u8 57))) 39 false,
 oG 42 (.pick (.tmp 39) (.const (.bool true)) (.tmp 41)) 36 true,
 oG 43 (.pick (.tmp 36) (.tmp 42) (.const (.bool false))) 33 false,
 oG 44 (.pick (.tmp 33) (.const (.bool true)) (.tmp 43)) 30 true,
 oO 45 (.pick (.tmp 30) (.tmp 44) (.const (.bool false)))]
def ac121_6 : List AOper := [
 oO 2 (.mv (.const (.bool false)))]
def ac121_7 : List AOper := [
 oO 46 (.bin .add 3 (.tmp 9) (kI 1)),
 oM 9 46]
def ac121_8 : List AOper := [
 oM 47 0,
 ⟨(some 48), (.bin .neq 9 (.tmp 47) (.const (.string ⟨#[]⟩))), none⟩,
 oM 49 48,
 oG 50 (.mv (.tmp 0)) 49 true,
 oG 51 (.pure (oB (.call { callee := .builtin .len, args := #[(.tmp 50)], argTypes := #[9] }) 3)) 49 true,
 oG 52 (.bin .leq 3 (.tmp 51) (kI 12)) 49 true,
 oO 53 (.pick (.tmp 49) (.tmp 52) (.const (.bool false))),
 oM 2 53]
def tr121 : List (Nat × Tidy) := [tF 0 [0], tF 1 [0, 7, 8, 9], tF 2 [0, 7, 8, 9, 10], tF 3 [0, 3, 4, 7, 8, 9], tF 4 [0, 3, 4, 5, 7, 8, 9], tF 5 [0, 7, 8, 9, 45], tF 6 [2], tF 7 [0, 7, 8, 9], tF 8 [2]]
def tl121 : List (Nat × Tidy) := [(2, ⟨[0, 7, 8, 9], true, [⟨false, 7, 0, 20007, 0⟩, ⟨false, 9, 0, 20009, 0⟩], []⟩)]
def ac121 : ACode := (.seq (.region ac121_0 [] (some ⟨[0], false, [], []⟩)) (.seq (.seq (.region ac121_1 [] (some ⟨[0, 7, 8, 9], false, [], []⟩)) (.block 0 (.loop (some ⟨[0, 7, 8, 9], true, [⟨false, 7, 0, 20007, 0⟩, ⟨false, 9, 0, 20009, 0⟩], []⟩) (.seq (.region ac121_2 [] (some ⟨[0, 7, 8, 9, 10], false, [], []⟩)) (.seq (.cond (.tmp 10) .skip (.exit 0)) (.seq (.block 1 (.seq (.region ac121_3 [] (some ⟨[0, 3, 4, 7, 8, 9], false, [], []⟩)) (.seq (.region ac121_4 [] (some ⟨[0, 3, 4, 5, 7, 8, 9], false, [], []⟩)) (.seq (.region ac121_5 [] (some ⟨[0, 7, 8, 9, 45], false, [], []⟩)) (.cond (.tmp 45) (.seq (.region ac121_6 [] (some ⟨[2], false, [], []⟩)) .ret) .skip))))) (.region ac121_7 [] (some ⟨[0, 7, 8, 9], false, [], []⟩)))))))) (.seq (.region ac121_8 [] (some ⟨[2], false, [], []⟩)) .ret)))
def rs121 : List AResV := [.tmp 2]
def ft121 : FnT := ⟨54, tr121, tl121, ac121, rs121⟩
theorem is121 : FnIs Try.prog 121 54 tr121 tl121 ac121 rs121 := ⟨Try.f121, Try.func121, rfl, by kernel_rfl, by kernel_rfl, by kernel_rfl⟩
def ac122_0 : List AOper := [
 oO 4 (.mv (.const (.bool false)))]
def ac122_1 : List AOper := [
 oM 5 1,
 oO 6 (.pure (oB (.unOp .neg 3 (.tmp 5)) 3)),
 oM 7 0,
 oO 8 (.bin .leq 3 (.tmp 6) (.tmp 7)),
 oM 9 8,
 oG 10 (.mv (.tmp 0)) 9 true,
 oG 11 (.mv (.tmp 1)) 9 true,
 oG 12 (.bin .leq 3 (.tmp 10) (.tmp 11)) 9 true,
 oO 13 (.pick (.tmp 9) (.tmp 12) (.const (.bool false))),
 oM 4 13]
def tr122 : List (Nat × Tidy) := [tF 0 [0, 1], tF 1 [4]]
def tl122 : List (Nat × Tidy) := []
def ac122 : ACode := (.seq (.region ac122_0 [] (some ⟨[0, 1], false, [], []⟩)) (.seq (.region ac122_1 [] (some ⟨[4], false, [], []⟩)) .ret))
def rs122 : List AResV := [.tmp 4]
def ft122 : FnT := ⟨14, tr122, tl122, ac122, rs122⟩
theorem is122 : FnIs Try.prog 122 14 tr122 tl122 ac122 rs122 := ⟨Try.f122, Try.func122, rfl, by kernel_rfl, by kernel_rfl, by kernel_rfl⟩
def ac125_0 : List AOper := [
 oO 2 (.box (.tmp 0)),
 oO 4 (.mv (kI 0))]
def ac125_1 : List AOper := [
 oO 6 (.faddr 0 (.tmp 2)),
 oO 7 (.load false 1 (.tmp 6)),
 oM 8 1,
 oO 9 (.call 109 [(.tmp 7), (.tmp 8)]),
 oO 10 (.pure (oB (.unOp .not 4 (.tmp 9)) 4)),
 oM 11 10,
 oG 12 (.faddr 1 (.tmp 2)) 11 false,
 oG 13 (.load false 1 (.tmp 12)) 11 false,
 oG 14 (.mv (.tmp 1)) 11 false,
 oG 15 (.call 109 [(.tmp 13), (.tmp 14)]) 11 false,
 oG 16 (.pure (oB (.unOp .not 4 (.tmp 15)) 4)) 11 false,
 oO 17 (.pick (.tmp 11) (.const (.bool true)) (.tmp 16)),
 oM 5 17]
def ac125_2 : List AOper := [
 oO 4 (.mv (kI 2))]
def ac125_3 : List AOper := [
 oO 19 (.faddr 0 (.tmp 2)),
 oO 20 (.load false 1 (.tmp 19)),
 oO 21 (.faddr 1 (.tmp 2)),
 oO 22 (.load false 1 (.tmp 21)),
 oO 23 (.bin .gtr 3 (.tmp 20) (.tmp 22)),
 oM 18 23]
def ac125_4 : List AOper := [
 oO 4 (.mv (kI 10))]
def ac125_5 : List AOper := [
 oO 4 (.mv (kI 0))]
def tr125 : List (Nat × Tidy) := [tF 0 [1, 2], tF 1 [2, 5], tF 2 [4], tF 3 [18], tF 4 [4], tF 5 [4]]
def tl125 : List (Nat × Tidy) := []
def ac125 : ACode := (.seq (.region ac125_0 [] (some ⟨[1, 2], false, [], []⟩)) (.seq (.block 0 (.seq (.region ac125_1 [] (some ⟨[2, 5], false, [], []⟩)) (.cond (.tmp 5) (.seq (.region ac125_2 [] (some ⟨[4], false, [], []⟩)) .ret) (.seq (.region ac125_3 [] (some ⟨[18], false, [], []⟩)) (.cond (.tmp 18) (.seq (.region ac125_4 [] (some ⟨[4], false, [], []⟩)) .ret) .skip))))) (.seq (.region ac125_5 [] (some ⟨[4], false, [], []⟩)) .ret)))
def rs125 : List AResV := [.tmp 4]
def ft125 : FnT := ⟨24, tr125, tl125, ac125, rs125⟩
theorem is125 : FnIs Try.prog 125 24 tr125 tl125 ac125 rs125 := ⟨Try.f125, Try.func125, rfl, by kernel_rfl, by kernel_rfl, by kernel_rfl⟩
def tblM : List (Nat × FnT) := [(15, ft15), (16, ft16), (17, ft17), (20, ft20), (21, ft21), (23, ft23), (26, ft26), (28, ft28), (48, ft48), (57, ft57), (60, ft60), (65, ft65), (66, ft66), (67, ft67), (68, ft68), (69, ft69), (75, ft75), (76, ft76), (77, ft77), (78, ft78), (79, ft79), (83, ft83), (84, ft84), (85, ft85), (86, ft86), (87, ft87), (88, ft88), (89, ft89), (90, ft90), (96, ft96), (98, ft98), (109, ft109), (118, ft118), (119, ft119), (121, ft121), (122, ft122), (125, ft125)]
theorem tblMOk : TblOk Try.prog tblM := ⟨is15, is16, is17, is20, is21, is23, is26, is28, is48, is57, is60, is65, is66, is67, is68, is69, is75, is76, is77, is78, is79, is83, is84, is85, is86, is87, is88, is89, is90, is96, is98, is109, is118, is119, is121, is122, is125, trivial⟩
end Go.AM
