/- The code of the functions that the first examples of chapter 2 run. -/
import Derived.Test.YtehamglokkjipaaAMc
import Derived.Test.YtehamglokkjipaaProg
namespace Go.AM
open Go.Proofs
set_option maxRecDepth 100000
set_option linter.unusedVariables false
def ac7_0 : List AOper := [
 oO 0 (.mv (.const (.bool false)))]
def ac7_1 : List AOper := [
 oO 10 (.call 19 []),
 oO 11 (.call 18 [(.tmp 10), (kI 5003)]),
 oM 9 11,
 oO 12 (.extract 0 (.tmp 9)),
 oO 13 (.extract 1 (.tmp 9)),
 oO 1 (.alloc [(.d (.v (.int .i64 0))), (.d (.v (.int .i64 0)))]),
 oD (.store 2 (.tmp 1) (.tmp 12)),
 oM 2 13]
def ac7_2 : List AOper := [
 oO 15 (.call 19 []),
 oO 16 (.call 20 [(.tmp 15), (kI 5250)]),
 oM 14 16,
 oO 17 (.extract 0 (.tmp 14)),
 oO 18 (.extract 1 (.tmp 14)),
 oO 3 (.alloc [(.d (.v (.int .i64 0))), (.d (.v (.int .i64 0)))]),
 oD (.store 2 (.tmp 3) (.tmp 17)),
 oM 4 18]
def ac7_3 : List AOper := [
 oO 20 (.call 12 [(kI 20000), (kI 10000), (kI 5000)]),
 oM 19 20,
 oO 21 (.extract 0 (.tmp 19)),
 oO 22 (.extract 1 (.tmp 19)),
 oO 5 (.alloc [(.d (.v (.int .i64 0))), (.d (.v (.int .i64 0)))]),
 oD (.store 2 (.tmp 5) (.tmp 21)),
 oM 6 22]
def ac7_4 : List AOper := [
 oO 24 (.bslice 1 4 [(.v (.int .i64 0))] [(0, (kI 1)), (1, (kI 2)), (2, (kI 0)), (3, (kI 0))]),
 oO 25 (.call 21 [(.tmp 24)]),
 oM 23 25,
 oO 26 (.extract 0 (.tmp 23)),
 oO 27 (.extract 1 (.tmp 23)),
 oM 7 26,
 oM 8 27]
def ac7_5 : List AOper := [
 oM 28 2,
 oO 29 (.bin .eql 29 (.tmp 28) (kI 0)),
 oM 30 29,
 oG 31 (.load true 2 (.tmp 1)) 30 true,
 oG 32 (.build [(.d (.v (.int .i64 0))), (.d (.v (.int .i64 0)))] [(0, 1, (kI 14997)), (1, 1, (kI 101))]) 30 true,
 oG 33 (.bin .eql 24 (.tmp 31) (.tmp 32)) 30 true,
 oO 34 (.pick (.tmp 30) (.tmp 33) (.const (.bool false))),
 oM 35 34,
 oG 36 (.mv (.tmp 4)) 35 true,
 oG 37 (.bin .eql 29 (.tmp 36) (kI 0)) 35 true,
 oO 38 (.pick (.tmp 35) (.tmp 37) (.const (.bool false))),
 oM 39 38,
 oG 40 (.load true 2 (.tmp 3)) 39 true,
 oG 41 (.build [(.d (.v (.int .i64 0))), (.d (.v (.int .i64 0)))] [(0, 1, (kI 20000)), (1, 1, (kI 20000))]) 39 true,
 oG 42 (.bin .eql 36 (.tmp 40) (.tmp 41)) 39 true,
 oO 43 (.pick (.tmp 39) (.tmp 42) (.const (.bool false))),
 oM 44 43,
 oG 45 (.mv (.tmp 6)) 44 true,
 oG 46 (.bin .eql 29 (.tmp 45) (kI 0)) 44 true,
 oO 47 (.pick (.tmp 44) (.tmp 46) (.const (.bool false))),
 oM 48 47,
 oG 49 (.load true 2 (.tmp 5)) 48 true,
 oG 50 (.build [(.d (.v (.int .i64 0))), (.d (.v (.int .i64 0)))] [(0, 1, (kI 12649)), (1, 1, (kI 15812))]) 48 true,
 oG 51 (.bin .eql 36 (.tmp 49) (.tmp 50)) 48 true,
 oO 52 (.pick (.tmp 48) (.tmp 51) (.const (.bool false))),
 oM 53 52,
 oG 54 (.mv (.tmp 8)) 53 true,
 oG 55 (.bin .eql 29 (.tmp 54) (kI 0)) 53 true,
 oO 56 (.pick (.tmp 53) (.tmp 55) (.const (.bool false))),
 oM 57 56,
 oG 58 (.mv (.tmp 7)) 57 true,
 oG 59 (.call 23 [(kI 3145728), (kI 0), (kI 0)]) 57 true,
 oG 60 (.call 23 [(kI 1048576), (kI 2097152), (kI 0)]) 57 true,
 oG 61 (.call 23 [(kI (-1048576)), (kI 0), (kI 0)]) 57 true,
 oG 62 (.call 23 [(kI 1048576), (kI (-2097152)), (kI 0)]) 57 true,
 oG 63 (.bslice 2 4 [(.v (.complex Go.FloatKind.f64 0 0)), (.v (.int .i64 0))] [(0, (.tmp 59)), (1, (.tmp 60)), (2, (.tmp 61)), (3, (.tmp 62))]) 57 true,
 oG 64 (.call 22 [(.tmp 58), (.tmp 63)]) 57 true,
 oO 65 (.pick (.tmp 57) (.tmp 64) (.const (.bool false))),
 oM 0 65]
def tr7 : List (Nat × Tidy) := [tF 0 [], tF 1 [1, 2], tF 2 [1, 2, 3, 4], tF 3 [1, 2, 3, 4, 5, 6], tF 4 [1, 2, 3, 4, 5, 6, 7, 8], tF 5 [0]]
def tl7 : List (Nat × Tidy) := []
def ac7 : ACode := (.seq (.region ac7_0 [] (some ⟨[], false, [], []⟩)) (.seq (.region ac7_1 [] (some ⟨[1, 2], false, [], []⟩)) (.seq (.region ac7_2 [] (some ⟨[1, 2, 3, 4], false, [], []⟩)) (.seq (.region ac7_3 [] (some ⟨[1, 2, 3, 4, 5, 6], false, [], []⟩)) (.seq (.region ac7_4 [] (some ⟨[1, 2, 3, 4, 5, 6, 7, 8], false, [], []⟩)) (.seq (.region ac7_5 [] (some ⟨[0], false, [], []⟩)) .ret))))))
def rs7 : List AResV := [.tmp 0]
def ft7 : FnT := ⟨66, tr7, tl7, ac7, rs7⟩
theorem is7 : FnIs Try.prog 7 66 tr7 tl7 ac7 rs7 := ⟨Try.f7, Try.func7, rfl, by kernel_rfl, by kernel_rfl, by kernel_rfl⟩
def ac9_0 : List AOper := [
 oO 1 (.box (.tmp 0)),
 oO 2 (.mv (kI 0)),
 oO 3 (.mv (kI 0))]
def ac9_1 : List AOper := [
 oO 5 (.faddr 0 (.tmp 1)),
 oO 6 (.load false 1 (.tmp 5)),
 oO 7 (.call 25 [(.tmp 6)]),
 oO 8 (.pure (oB (.unOp .not 4 (.tmp 7)) 4)),
 oM 4 8]
def ac9_2 : List AOper := [
 oO 2 (.mv (kI 0)),
 oO 3 (.mv (kI 3))]
def ac9_3 : List AOper := [
 oO 10 (.faddr 1 (.tmp 1)),
 oO 11 (.load false 1 (.tmp 10)),
 oO 12 (.bin .eql 3 (.tmp 11) (kI 1)),
 oM 9 12]
def ac9_4 : List AOper := [
 oO 13 (.load true 7 (.tmp 1)),
 oO 14 (.call 26 [(.tmp 13)]),
 oO 15 (.extract 0 (.tmp 14)),
 oO 16 (.extract 1 (.tmp 14)),
 oM 2 15,
 oM 3 16]
def ac9_5 : List AOper := [
 oO 18 (.faddr 1 (.tmp 1)),
 oO 19 (.load false 1 (.tmp 18)),
 oO 20 (.bin .neq 3 (.tmp 19) (kI 2)),
 oM 17 20]
def ac9_6 : List AOper := [
 oO 2 (.mv (kI 0)),
 oO 3 (.mv (kI 11))]
def ac9_7 : List AOper := [
 oO 22 (.faddr 2 (.tmp 1)),
 oO 23 (.load false 1 (.tmp 22)),
 oO 24 (.len (.tmp 23)),
 oO 25 (.faddr 3 (.tmp 1)),
 oO 26 (.load false 1 (.tmp 25)),
 oO 27 (.len (.tmp 26)),
 oO 28 (.bin .add 3 (.tmp 24) (.tmp 27)),
 oO 29 (.faddr 4 (.tmp 1)),
 oO 30 (.load false 1 (.tmp 29)),
 oO 31 (.len (.tmp 30)),
 oO 32 (.bin .add 3 (.tmp 28) (.tmp 31)),
 oO 33 (.bin .gtr 3 (.tmp 32) (kI 0)),
 oM 21 33]
def ac9_8 : List AOper := [
 oO 2 (.mv (kI 0)),
 oO 3 (.mv (kI 13))]
def ac9_9 : List AOper := [
 oO 35 (.faddr 5 (.tmp 1)),
 oO 36 (.load true 2 (.tmp 35)),
 oO 37 (.call 27 [(.tmp 36)]),
 oO 38 (.pure (oB (.unOp .not 4 (.tmp 37)) 4)),
 oM 34 38]
def ac9_10 : List AOper := [
 oO 2 (.mv (kI 0)),
 oO 3 (.mv (kI 2))]
def ac9_11 : List AOper := [
 oO 2 (.mv (kI 0)),
 oO 3 (.mv (kI 0))]
def tr9 : List (Nat × Tidy) := [tF 0 [1], tF 1 [1, 4], tF 2 [2, 3], tF 3 [1, 9], tF 4 [2, 3], tF 5 [1, 17], tF 6 [2, 3], tF 7 [1, 21], tF 8 [2, 3], tF 9 [34], tF 10 [2, 3], tF 11 [2, 3]]
def tl9 : List (Nat × Tidy) := []
def ac9 : ACode := (.seq (.region ac9_0 [] (some ⟨[1], false, [], []⟩)) (.seq (.block 0 (.seq (.region ac9_1 [] (some ⟨[1, 4], false, [], []⟩)) (.cond (.tmp 4) (.seq (.region ac9_2 [] (some ⟨[2, 3], false, [], []⟩)) .ret) (.seq (.region ac9_3 [] (some ⟨[1, 9], false, [], []⟩)) (.cond (.tmp 9) (.seq (.region ac9_4 [] (some ⟨[2, 3], false, [], []⟩)) .ret) (.seq (.region ac9_5 [] (some ⟨[1, 17], false, [], []⟩)) (.cond (.tmp 17) (.seq (.region ac9_6 [] (some ⟨[2, 3], false, [], []⟩)) .ret) (.seq (.region ac9_7 [] (some ⟨[1, 21], false, [], []⟩)) (.cond (.tmp 21) (.seq (.region ac9_8 [] (some ⟨[2, 3], false, [], []⟩)) .ret) (.seq (.region ac9_9 [] (some ⟨[34], false, [], []⟩)) (.cond (.tmp 34) (.seq (.region ac9_10 [] (some ⟨[2, 3], false, [], []⟩)) .ret) .skip))))))))))) (.seq (.region ac9_11 [] (some ⟨[2, 3], false, [], []⟩)) .ret)))
def rs9 : List AResV := [.tmp 2, .tmp 3]
def ft9 : FnT := ⟨39, tr9, tl9, ac9, rs9⟩
theorem is9 : FnIs Try.prog 9 39 tr9 tl9 ac9 rs9 := ⟨Try.f9, Try.func9, rfl, by kernel_rfl, by kernel_rfl, by kernel_rfl⟩
def ac12_0 : List AOper := [
 oO 3 (.box (.tmp 0)),
 oO 4 (.box (.tmp 1)),
 oO 6 (.alloc [(.d (.v (.int .i64 0))), (.d (.v (.int .i64 0)))]),
 oO 7 (.mv (kI 0))]
def ac12_1 : List AOper := [
 oO 12 (.load false 1 (.tmp 3)),
 oO 13 (.load false 1 (.tmp 4)),
 oO 14 (.bslice 1 2 [(.v (.int .i64 0))] [(0, (.tmp 12)), (1, (.tmp 13))]),
 oO 15 (.call 33 [(.tmp 14)]),
 oM 8 15]
def ac12_2 : List AOper := [
 oM 16 8,
 oO 17 (.bin .neq 29 (.tmp 16) (kI 0))]
def ac12_3 : List AOper := [
 oO 18 (.build [(.d (.v (.int .i64 0))), (.d (.v (.int .i64 0)))] []),
 oM 19 8,
 oD (.store 2 (.tmp 6) (.tmp 18)),
 oM 7 19]
def ac12_4 : List AOper := [
 oM 20 2,
 oO 21 (.call 34 [(.tmp 20), (kI 0), (kI 10000)]),
 oO 22 (.pure (oB (.unOp .not 4 (.tmp 21)) 4))]
def ac12_5 : List AOper := [
 oO 23 (.build [(.d (.v (.int .i64 0))), (.d (.v (.int .i64 0)))] []),
 oD (.store 2 (.tmp 6) (.tmp 23)),
 oO 7 (.mv (kI 2))]
def ac12_6 : List AOper := [
 oM 24 2,
 oO 25 (.bin .sub 3 (kI 10000) (.tmp 24)),
 oM 9 25]
def ac12_7 : List AOper := [
 oM 26 2,
 oO 27 (.load false 1 (.tmp 4)),
 oO 28 (.bin .mul 3 (.tmp 26) (.tmp 27)),
 oO 29 (.load false 1 (.tmp 4)),
 oO 30 (.bin .mul 3 (.tmp 28) (.tmp 29)),
 oM 31 9,
 oO 32 (.load false 1 (.tmp 3)),
 oO 33 (.bin .mul 3 (.tmp 31) (.tmp 32)),
 oO 34 (.load false 1 (.tmp 3)),
 oO 35 (.bin .mul 3 (.tmp 33) (.tmp 34)),
 oO 36 (.bin .add 3 (.tmp 30) (.tmp 35)),
 oM 37 2,
 oO 38 (.load false 1 (.tmp 3)),
 oO 39 (.bin .mul 3 (.tmp 37) (.tmp 38)),
 oO 40 (.load false 1 (.tmp 3)),
 oO 41 (.bin .mul 3 (.tmp 39) (.tmp 40)),
 oM 42 9,
 oO 43 (.load false 1 (.tmp 4)),
 oO 44 (.bin .mul 3 (.tmp 42) (.tmp 43)),
 oO 45 (.load false 1 (.tmp 4)),
 oO 46 (.bin .mul 3 (.tmp 44) (.tmp 45)),
 oO 47 (.bin .add 3 (.tmp 41) (.tmp 46)),
 oO 10 (.alloc [(.d (.v (.int .i64 0)))]),
 oO 11 (.alloc [(.d (.v (.int .i64 0)))]),
 oD (.store 1 (.tmp 10) (.tmp 36)),
 oD (.store 1 (.tmp 11) (.tmp 47))]
def ac12_8 : List AOper := [
 oO 48 (.mkfn 36 [(.tmp 10), (.tmp 3), (.tmp 4)]),
 oO 49 (.call 35 [(kI 80000), (.tmp 48)]),
 oO 50 (.mkfn 38 [(.tmp 11)]),
 oO 51 (.call 35 [(kI 80000), (.tmp 50)]),
 oO 52 (.bin .add 3 (kI 1) (.tmp 51)),
 oO 53 (.build [(.d (.v (.int .i64 0))), (.d (.v (.int .i64 0)))] [(0, 1, (.tmp 49)), (1, 1, (.tmp 52))]),
 oD (.store 2 (.tmp 6) (.tmp 53)),
 oO 7 (.mv (kI 0))]
def tr12 : List (Nat × Tidy) := [tF 0 [2, 3, 4, 6], tF 1 [2, 3, 4, 6, 8], tF 2 [2, 3, 4, 6, 8, 17], tF 3 [6, 7], tF 4 [2, 3, 4, 6, 22], tF 5 [6, 7], tF 6 [2, 3, 4, 6, 9], tF 7 [3, 4, 6, 10, 11], tF 8 [6, 7]]
def tl12 : List (Nat × Tidy) := []
def ac12 : ACode := (.seq (.region ac12_0 [] (some ⟨[2, 3, 4, 6], false, [], []⟩)) (.seq (.seq (.region ac12_1 [] (some ⟨[2, 3, 4, 6, 8], false, [], []⟩)) (.seq (.region ac12_2 [] (some ⟨[2, 3, 4, 6, 8, 17], false, [], []⟩)) (.cond (.tmp 17) (.seq (.region ac12_3 [] (some ⟨[6, 7], false, [], []⟩)) .ret) .skip))) (.seq (.seq (.region ac12_4 [] (some ⟨[2, 3, 4, 6, 22], false, [], []⟩)) (.cond (.tmp 22) (.seq (.region ac12_5 [] (some ⟨[6, 7], false, [], []⟩)) .ret) .skip)) (.seq (.region ac12_6 [] (some ⟨[2, 3, 4, 6, 9], false, [], []⟩)) (.seq (.region ac12_7 [(1, 22), (3, 22), (6, 22), (8, 22), (12, 22), (14, 22), (17, 22), (19, 22), (1, 23), (3, 23), (6, 23), (8, 23), (12, 23), (14, 23), (17, 23), (19, 23), (22, 23), (12, 24), (14, 24), (17, 24), (19, 24)] (some ⟨[3, 4, 6, 10, 11], false, [], []⟩)) (.seq (.region ac12_8 [] (some ⟨[6, 7], false, [], []⟩)) .ret))))))
def rs12 : List AResV := [.cell 6 true 2, .tmp 7]
def ft12 : FnT := ⟨54, tr12, tl12, ac12, rs12⟩
theorem is12 : FnIs Try.prog 12 54 tr12 tl12 ac12 rs12 := ⟨Try.f12, Try.func12, rfl, by kernel_rfl, by kernel_rfl, by kernel_rfl⟩
def ac18_0 : List AOper := [
 oO 2 (.box (.tmp 0)),
 oO 4 (.alloc [(.d (.v (.int .i64 0))), (.d (.v (.int .i64 0)))]),
 oO 5 (.mv (kI 0))]
def ac18_1 : List AOper := [
 oO 10 (.load true 7 (.tmp 2)),
 oM 11 1,
 oO 12 (.call 47 [(.tmp 10), (.tmp 11)]),
 oM 9 12,
 oO 13 (.extract 0 (.tmp 9)),
 oO 14 (.extract 1 (.tmp 9)),
 oM 6 13,
 oM 7 14]
def ac18_2 : List AOper := [
 oM 15 7,
 oO 16 (.bin .neq 29 (.tmp 15) (kI 0))]
def ac18_3 : List AOper := [
 oO 17 (.build [(.d (.v (.int .i64 0))), (.d (.v (.int .i64 0)))] []),
 oM 18 7,
 oD (.store 2 (.tmp 4) (.tmp 17)),
 oM 5 18]
def ac18_4 : List AOper := [
 oM 19 6,
 oM 20 1,
 oO 21 (.inv "etalon/glass.at" (.tmp 19) [(.tmp 20)]),
 oO 8 (.alloc [(.d (.v (.int .i64 0))), (.d (.v (.int .i64 0))), (.d (.v (.int .i64 0))), (.d (.v (.int .i64 0)))]),
 oD (.store 4 (.tmp 8) (.tmp 21))]
def ac18_5 : List AOper := [
 oO 22 (.iaddr 2 (some 2) (.tmp 8) (kI 0)),
 oO 23 (.load true 2 (.tmp 22)),
 oO 24 (.call 48 [(.tmp 23)]),
 oO 25 (.iaddr 2 (some 2) (.tmp 8) (kI 1)),
 oO 26 (.load true 2 (.tmp 25)),
 oO 27 (.call 48 [(.tmp 26)]),
 oO 28 (.build [(.d (.v (.int .i64 0))), (.d (.v (.int .i64 0)))] [(0, 1, (.tmp 24)), (1, 1, (.tmp 27))]),
 oD (.store 2 (.tmp 4) (.tmp 28)),
 oO 5 (.mv (kI 0))]
def tr18 : List (Nat × Tidy) := [tF 0 [1, 2, 4], tF 1 [1, 4, 6, 7], tF 2 [1, 4, 6, 7, 16], tF 3 [4, 5], tF 4 [4, 8], tF 5 [4, 5]]
def tl18 : List (Nat × Tidy) := []
def ac18 : ACode := (.seq (.region ac18_0 [] (some ⟨[1, 2, 4], false, [], []⟩)) (.seq (.region ac18_1 [] (some ⟨[1, 4, 6, 7], false, [], []⟩)) (.seq (.seq (.region ac18_2 [] (some ⟨[1, 4, 6, 7, 16], false, [], []⟩)) (.cond (.tmp 16) (.seq (.region ac18_3 [] (some ⟨[4, 5], false, [], []⟩)) .ret) .skip)) (.seq (.region ac18_4 [] (some ⟨[4, 8], false, [], []⟩)) (.seq (.region ac18_5 [(2, 4)] (some ⟨[4, 5], false, [], []⟩)) .ret)))))
def rs18 : List AResV := [.cell 4 true 2, .tmp 5]
def ft18 : FnT := ⟨29, tr18, tl18, ac18, rs18⟩
theorem is18 : FnIs Try.prog 18 29 tr18 tl18 ac18 rs18 := ⟨Try.f18, Try.func18, rfl, by kernel_rfl, by kernel_rfl, by kernel_rfl⟩
def ac19_0 : List AOper := [
 ⟨(some 0), (.alloc [(.d (.v (.string ⟨#[]⟩))), (.d (.v (.int .i64 0))), .nils, .nils, .nils, (.d (.v (.int .i64 0))), (.d (.v (.int .i64 0)))]), none⟩]
def ac19_1 : List AOper := [
 oO 1 (.bslice 1 2 [(.v (.int .i64 0))] [(0, (kI 5000)), (1, (kI 6000))]),
 oO 2 (.bslice 1 2 [(.v (.float Go.FloatKind.f32 0))] [(0, (.const (.float Go.FloatKind.f32 1181376512))), (1, (.const (.float Go.FloatKind.f32 1180352512)))]),
 oO 3 (.bslice 1 2 [(.v (.float Go.FloatKind.f32 0))] [(0, (.const (.float Go.FloatKind.f32 1120403456))), (1, (.const (.float Go.FloatKind.f32 1133903872)))]),
 ⟨(some 4), (.build [(.d (.v (.string ⟨#[]⟩))), (.d (.v (.int .i64 0))), .nils, .nils, .nils, (.d (.v (.int .i64 0))), (.d (.v (.int .i64 0)))] [(0, 1, (.const (.string ⟨#[116, 119, 111]⟩))), (1, 1, (kI 1)), (2, 1, (.tmp 1)), (3, 1, (.tmp 2)), (4, 1, (.tmp 3))]), none⟩,
 oD (.store 7 (.tmp 0) (.tmp 4))]
def tr19 : List (Nat × Tidy) := [tF 0 [0], tF 1 [0]]
def tl19 : List (Nat × Tidy) := []
def ac19 : ACode := (.seq (.region ac19_0 [] (some ⟨[0], false, [], []⟩)) (.seq (.region ac19_1 [] (some ⟨[0], false, [], []⟩)) .ret))
def rs19 : List AResV := [.cell 0 true 7]
def ft19 : FnT := ⟨5, tr19, tl19, ac19, rs19⟩
theorem is19 : FnIs Try.prog 19 5 tr19 tl19 ac19 rs19 := ⟨Try.f19, Try.func19, rfl, by kernel_rfl, by kernel_rfl, by kernel_rfl⟩
def ac20_0 : List AOper := [
 oO 2 (.box (.tmp 0)),
 oO 4 (.alloc [(.d (.v (.int .i64 0))), (.d (.v (.int .i64 0)))]),
 oO 5 (.mv (kI 0))]
def ac20_1 : List AOper := [
 oO 11 (.load true 7 (.tmp 2)),
 oM 12 1,
 oO 13 (.call 47 [(.tmp 11), (.tmp 12)]),
 oM 10 13,
 oO 14 (.extract 0 (.tmp 10)),
 oO 15 (.extract 1 (.tmp 10)),
 oM 6 14,
 oM 7 15]
def ac20_2 : List AOper := [
 oM 16 7,
 oO 17 (.bin .neq 29 (.tmp 16) (kI 0))]
def ac20_3 : List AOper := [
 oO 18 (.build [(.d (.v (.int .i64 0))), (.d (.v (.int .i64 0)))] []),
 oM 19 7,
 oD (.store 2 (.tmp 4) (.tmp 18)),
 oM 5 19]
def ac20_4 : List AOper := [
 oM 21 6,
 oM 22 1,
 oO 23 (.inv "etalon/glass.group" (.tmp 21) [(.tmp 22)]),
 oM 20 23,
 oO 24 (.extract 0 (.tmp 20)),
 oO 25 (.extract 1 (.tmp 20)),
 oO 8 (.alloc [(.d (.v (.int .i64 0))), (.d (.v (.int .i64 0)))]),
 oD (.store 2 (.tmp 8) (.tmp 24)),
 oM 9 25]
def ac20_5 : List AOper := [
 oM 26 9,
 oO 27 (.pure (oB (.unOp .not 4 (.tmp 26)) 4))]
def ac20_6 : List AOper := [
 oO 28 (.build [(.d (.v (.int .i64 0))), (.d (.v (.int .i64 0)))] []),
 oD (.store 2 (.tmp 4) (.tmp 28)),
 oO 5 (.mv (kI 12))]
def ac20_7 : List AOper := [
 oO 29 (.load true 2 (.tmp 8)),
 oO 30 (.call 39 [(.tmp 29)]),
 oD (.store 2 (.tmp 4) (.tmp 30)),
 oO 5 (.mv (kI 0))]
def tr20 : List (Nat × Tidy) := [tF 0 [1, 2, 4], tF 1 [1, 4, 6, 7], tF 2 [1, 4, 6, 7, 17], tF 3 [4, 5], tF 4 [4, 8, 9], tF 5 [4, 8, 27], tF 6 [4, 5], tF 7 [4, 5]]
def tl20 : List (Nat × Tidy) := []
def ac20 : ACode := (.seq (.region ac20_0 [] (some ⟨[1, 2, 4], false, [], []⟩)) (.seq (.region ac20_1 [] (some ⟨[1, 4, 6, 7], false, [], []⟩)) (.seq (.seq (.region ac20_2 [] (some ⟨[1, 4, 6, 7, 17], false, [], []⟩)) (.cond (.tmp 17) (.seq (.region ac20_3 [] (some ⟨[4, 5], false, [], []⟩)) .ret) .skip)) (.seq (.region ac20_4 [] (some ⟨[4, 8, 9], false, [], []⟩)) (.seq (.seq (.region ac20_5 [] (some ⟨[4, 8, 27], false, [], []⟩)) (.cond (.tmp 27) (.seq (.region ac20_6 [] (some ⟨[4, 5], false, [], []⟩)) .ret) .skip)) (.seq (.region ac20_7 [] (some ⟨[4, 5], false, [], []⟩)) .ret))))))
def rs20 : List AResV := [.cell 4 true 2, .tmp 5]
def ft20 : FnT := ⟨31, tr20, tl20, ac20, rs20⟩
theorem is20 : FnIs Try.prog 20 31 tr20 tl20 ac20 rs20 := ⟨Try.f20, Try.func20, rfl, by kernel_rfl, by kernel_rfl, by kernel_rfl⟩
def ac21_0 : List AOper := [
 oO 1 (.box (.tmp 0)),
 oO 2 (.mv (.const (.slice none 0 0))),
 oO 3 (.mv (kI 0))]
def ac21_1 : List AOper := [
 oO 9 (.load false 1 (.tmp 1)),
 oO 10 (.len (.tmp 9)),
 oO 11 (.call 49 [(.tmp 10)]),
 oM 4 11]
def ac21_2 : List AOper := [
 oM 12 4,
 oO 13 (.bin .neq 29 (.tmp 12) (kI 0))]
def ac21_3 : List AOper := [
 oM 14 4,
 oO 2 (.mv (.const (.slice none 0 0))),
 oM 3 14]
def ac21_4 : List AOper := [
 oO 15 (.load false 1 (.tmp 1)),
 oO 16 (.len (.tmp 15)),
 oO 17 (.mv (kI 0))]
def ac21_5 : List AOper := [
 oO 18 (.bin .lss 3 (.tmp 17) (.tmp 16))]
def ac21_6 : List AOper := [
 oO 19 (.iaddr 1 none (.tmp 15) (.tmp 17)),
 oO 20 (.load false 1 (.tmp 19)),
 oM 6 20]
def ac21_7 : List AOper := [
 oM 21 6,
 oO 22 (.call 34 [(.tmp 21), (kI (-1000)), (kI 1000)]),
 oO 23 (.pure (oB (.unOp .not 4 (.tmp 22)) 4))]
def ac21_8 : List AOper := [
 oO 2 (.mv (.const (.slice none 0 0))),
 oO 3 (.mv (kI 2))]
def ac21_9 : List AOper := [
 oO 24 (.bin .add 3 (.tmp 17) (kI 1)),
 oM 17 24]
def ac21_10 : List AOper := [
 oO 26 (.load false 1 (.tmp 1)),
 oO 27 (.len (.tmp 26)),
 oO 28 (.mkfn 51 [(.tmp 1)]),
 oO 29 (.call 50 [(.tmp 27), (.tmp 28)]),
 oM 25 29,
 oO 30 (.extract 0 (.tmp 25)),
 oO 31 (.extract 1 (.tmp 25)),
 oM 7 30,
 oM 8 31]
def ac21_11 : List AOper := [
 oM 32 8,
 oO 33 (.pure (oB (.unOp .not 4 (.tmp 32)) 4))]
def ac21_12 : List AOper := [
 oO 2 (.mv (.const (.slice none 0 0))),
 oO 3 (.mv (kI 8))]
def ac21_13 : List AOper := [
 oM 34 7,
 oM 2 34,
 oO 3 (.mv (kI 0))]
def tr21 : List (Nat × Tidy) := [tF 0 [1], tF 1 [1, 4], tF 2 [1, 4, 13], tF 3 [2, 3], tF 4 [1, 15, 16, 17], tF 5 [1, 15, 16, 17, 18], tF 6 [1, 6, 15, 16, 17], tF 7 [1, 15, 16, 17, 23], tF 8 [2, 3], tF 9 [1, 15, 16, 17], tF 10 [7, 8], tF 11 [7, 33], tF 12 [2, 3], tF 13 [2, 3]]
def tl21 : List (Nat × Tidy) := [(5, ⟨[1, 15, 16, 17], true, [⟨false, 15, 0, 20015, 0⟩, ⟨false, 17, 0, 20017, 0⟩], []⟩)]
def ac21 : ACode := (.seq (.region ac21_0 [] (some ⟨[1], false, [], []⟩)) (.seq (.seq (.region ac21_1 [] (some ⟨[1, 4], false, [], []⟩)) (.seq (.region ac21_2 [] (some ⟨[1, 4, 13], false, [], []⟩)) (.cond (.tmp 13) (.seq (.region ac21_3 [] (some ⟨[2, 3], false, [], []⟩)) .ret) .skip))) (.seq (.seq (.region ac21_4 [] (some ⟨[1, 15, 16, 17], false, [], []⟩)) (.block 0 (.loop (some ⟨[1, 15, 16, 17], true, [⟨false, 15, 0, 20015, 0⟩, ⟨false, 17, 0, 20017, 0⟩], []⟩) (.seq (.region ac21_5 [] (some ⟨[1, 15, 16, 17, 18], false, [], []⟩)) (.seq (.cond (.tmp 18) .skip (.exit 0)) (.seq (.block 1 (.seq (.region ac21_6 [] (some ⟨[1, 6, 15, 16, 17], false, [], []⟩)) (.seq (.region ac21_7 [] (some ⟨[1, 15, 16, 17, 23], false, [], []⟩)) (.cond (.tmp 23) (.seq (.region ac21_8 [] (some ⟨[2, 3], false, [], []⟩)) .ret) .skip)))) (.region ac21_9 [] (some ⟨[1, 15, 16, 17], false, [], []⟩)))))))) (.seq (.region ac21_10 [] (some ⟨[7, 8], false, [], []⟩)) (.seq (.seq (.region ac21_11 [] (some ⟨[7, 33], false, [], []⟩)) (.cond (.tmp 33) (.seq (.region ac21_12 [] (some ⟨[2, 3], false, [], []⟩)) .ret) .skip)) (.seq (.region ac21_13 [] (some ⟨[2, 3], false, [], []⟩)) .ret))))))
def rs21 : List AResV := [.tmp 2, .tmp 3]
def ft21 : FnT := ⟨35, tr21, tl21, ac21, rs21⟩
theorem is21 : FnIs Try.prog 21 35 tr21 tl21 ac21 rs21 := ⟨Try.f21, Try.func21, rfl, by kernel_rfl, by kernel_rfl, by kernel_rfl⟩
def ac22_0 : List AOper := [
 oO 4 (.mv (.const (.bool false)))]
def ac22_1 : List AOper := [
 oM 6 0,
 oO 7 (.len (.tmp 6)),
 oM 8 1,
 oO 9 (.len (.tmp 8)),
 oO 10 (.bin .neq 3 (.tmp 7) (.tmp 9))]
def ac22_2 : List AOper := [
 oO 4 (.mv (.const (.bool false)))]
def ac22_3 : List AOper := [
 oO 5 (.mv (kI 0))]
def ac22_4 : List AOper := [
 oM 11 5,
 oM 12 0,
 oO 13 (.len (.tmp 12)),
 oO 14 (.bin .lss 3 (.tmp 11) (.tmp 13))]
def ac22_5 : List AOper := [
 oM 17 0,
 oM 18 5,
 oO 19 (.iaddr 2 none (.tmp 17) (.tmp 18)),
 oO 20 (.load true 2 (.tmp 19)),
 oM 21 1,
 oM 22 5,
 oO 23 (.iaddr 2 none (.tmp 21) (.tmp 22)),
 oO 24 (.load true 2 (.tmp 23)),
 oO 25 (.call 54 [(.tmp 20), (.tmp 24)]),
 oO 26 (.pure (oB (.unOp .not 4 (.tmp 25)) 4))]
def ac22_6 : List AOper := [
 oO 4 (.mv (.const (.bool false)))]
def ac22_7 : List AOper := [
 oM 15 5,
 oO 16 (.bin .add 3 (.tmp 15) (kI 1)),
 oM 5 16]
def ac22_8 : List AOper := [
 oO 4 (.mv (.const (.bool true)))]
def tr22 : List (Nat × Tidy) := [tF 0 [0, 1], tF 1 [0, 1, 10], tF 2 [4], tF 3 [0, 1, 5], tF 4 [0, 1, 5, 14], tF 6 [0, 1, 5, 26], tF 7 [4], tF 5 [0, 1, 5], tF 8 [4]]
def tl22 : List (Nat × Tidy) := [(4, ⟨[0, 1, 5], true, [⟨false, 5, 0, 20005, 0⟩], []⟩)]
def ac22 : ACode := (.seq (.region ac22_0 [] (some ⟨[0, 1], false, [], []⟩)) (.seq (.seq (.region ac22_1 [] (some ⟨[0, 1, 10], false, [], []⟩)) (.cond (.tmp 10) (.seq (.region ac22_2 [] (some ⟨[4], false, [], []⟩)) .ret) .skip)) (.seq (.seq (.region ac22_3 [] (some ⟨[0, 1, 5], false, [], []⟩)) (.block 0 (.loop (some ⟨[0, 1, 5], true, [⟨false, 5, 0, 20005, 0⟩], []⟩) (.seq (.seq (.region ac22_4 [] (some ⟨[0, 1, 5, 14], false, [], []⟩)) (.cond (.tmp 14) .skip (.exit 0))) (.seq (.block 1 (.seq (.region ac22_5 [] (some ⟨[0, 1, 5, 26], false, [], []⟩)) (.cond (.tmp 26) (.seq (.region ac22_6 [] (some ⟨[4], false, [], []⟩)) .ret) .skip))) (.region ac22_7 [] (some ⟨[0, 1, 5], false, [], []⟩))))))) (.seq (.region ac22_8 [] (some ⟨[4], false, [], []⟩)) .ret))))
def rs22 : List AResV := [.tmp 4]
def ft22 : FnT := ⟨27, tr22, tl22, ac22, rs22⟩
theorem is22 : FnIs Try.prog 22 27 tr22 tl22 ac22 rs22 := ⟨Try.f22, Try.func22, rfl, by kernel_rfl, by kernel_rfl, by kernel_rfl⟩
def ac23_0 : List AOper := [
 oO 6 (.alloc [(.d (.v (.complex Go.FloatKind.f64 0 0))), (.d (.v (.int .i64 0)))])]
def ac23_1 : List AOper := [
 oM 7 0,
 oM 8 1,
 oO 9 (.call 55 [(.tmp 7), (.tmp 8)]),
 oM 10 2,
 oO 11 (.build [(.d (.v (.complex Go.FloatKind.f64 0 0))), (.d (.v (.int .i64 0)))] [(0, 1, (.tmp 9)), (1, 1, (.tmp 10))]),
 oD (.store 2 (.tmp 6) (.tmp 11))]
def tr23 : List (Nat × Tidy) := [tF 0 [0, 1, 2, 6], tF 1 [6]]
def tl23 : List (Nat × Tidy) := []
def ac23 : ACode := (.seq (.region ac23_0 [] (some ⟨[0, 1, 2, 6], false, [], []⟩)) (.seq (.region ac23_1 [] (some ⟨[6], false, [], []⟩)) .ret))
def rs23 : List AResV := [.cell 6 true 2]
def ft23 : FnT := ⟨12, tr23, tl23, ac23, rs23⟩
theorem is23 : FnIs Try.prog 23 12 tr23 tl23 ac23 rs23 := ⟨Try.f23, Try.func23, rfl, by kernel_rfl, by kernel_rfl, by kernel_rfl⟩
def ac25_0 : List AOper := [
 oO 2 (.mv (.const (.bool false)))]
def ac25_1 : List AOper := [
 oM 6 0,
 oO 7 (.bytes (.tmp 6)),
 oO 8 (.len (.tmp 7)),
 oO 9 (.mv (kI 0))]
def ac25_2 : List AOper := [
 oO 10 (.bin .lss 3 (.tmp 9) (.tmp 8))]
def ac25_3 : List AOper := [
 oM 11 9,
 oO 12 (.iaddr 1 none (.tmp 7) (.tmp 9)),
 oO 13 (.load false 1 (.tmp 12)),
 oM 3 11,
 oM 4 13]
def ac25_4 : List AOper := [
 oM 14 4,
 oO 15 (.bin .geq 5 (.tmp 14) (.const (.int .u8 97))),
 oM 16 15,
 oG 17 (.mv (.tmp 4)) 16 true,
 oG 18 (.bin .leq 5 (.tmp 17) (.const (.int .u8 122))) 16 true,
 oO 19 (.pick (.tmp 16) (.tmp 18) (.const (.bool false))),
 oM 20 19,
 oG 21 (.mv (.tmp 4)) 20 false,
 oG 22 (.bin .geq 5 (.tmp 21) (.const (.int .u8 65))) 20 false,
 oG 23 (.mv (.tmp 22)) 20 false,
 oG 24 (.mv (.tmp 4)) 23 true,
 oG 25 (.bin .leq 5 (.tmp 24) (.const (.int .u8 90))) 23 true,
 oG 26 (.pick (.tmp 23) (.tmp 25) (.const (.bool false))) 20 false,
 oO 27 (.pick (.tmp 20) (.const (.bool true)) (.tmp 26)),
 oM 5 27]
def ac25_5 : List AOper := [
 oM 28 5,
 oO 29 (.pure (oB (.unOp .not 4 (.tmp 28)) 4)),
 oM 30 29,
 oG 31 (.mv (.tmp 3)) 30 true,
 oG 32 (.bin .eql 3 (.tmp 31) (kI 0)) 30 true,
 oG 33 (.mv (.tmp 32)) 30 true,
 oG 34 (.mv (.tmp 4)) 33 false,
 oG 35 (.bin .neq 5 (.tmp 34) (.const (.int .u8 45))) 33 false,
 oG 36 (.mv (.tmp 35)) 33 false,
 oG 37 (.mv (.tmp 4)) 36 true,
 oG 38 (.bin .lss 5 (.tmp 37) (.const (.int .u8 48))) 36 true,
 oG 39 (.mv (.tmp 38)) 36 true,
 oG 40 (.mv (.tmp 4)) 39 false,
 oG 41 (.bin .gtr 5 (.tmp 40) (.const (.int .u8 57))) 39 false,
 oG 42 (.pick (.tmp 39) (.const (.bool true)) (.tmp 41)) 36 true,
 oG 43 (.pick (.tmp 36) (.tmp 42) (.const (.bool false))) 33 false,
 oG 44 (.pick (.tmp 33) (.const (.bool true)) (.tmp 43)) 30 true,
 oO 45 (.pick (.tmp 30) (.tmp 44) (.const (.bool false)))]
def ac25_6 : List AOper := [
 oO 2 (.mv (.const (.bool false)))]
def ac25_7 : List AOper := [
 oO 46 (.bin .add 3 (.tmp 9) (kI 1)),
 oM 9 46]
def ac25_8 : List AOper := [
 oM 47 0,
 ⟨(some 48), (.bin .neq 9 (.tmp 47) (.const (.string ⟨#[]⟩))), none⟩,
 oM 49 48,
 oG 50 (.mv (.tmp 0)) 49 true,
 oG 51 (.pure (oB (.call { callee := .builtin .len, args := #[(.tmp 50)], argTypes := #[9] }) 3)) 49 true,
 oG 52 (.bin .leq 3 (.tmp 51) (kI 12)) 49 true,
 oO 53 (.pick (.tmp 49) (.tmp 52) (.const (.bool false))),
 oM 2 53]
def tr25 : List (Nat × Tidy) := [tF 0 [0], tF 1 [0, 7, 8, 9], tF 2 [0, 7, 8, 9, 10], tF 3 [0, 3, 4, 7, 8, 9], tF 4 [0, 3, 4, 5, 7, 8, 9], tF 5 [0, 7, 8, 9, 45], tF 6 [2], tF 7 [0, 7, 8, 9], tF 8 [2]]
def tl25 : List (Nat × Tidy) := [(2, ⟨[0, 7, 8, 9], true, [⟨false, 7, 0, 20007, 0⟩, ⟨false, 9, 0, 20009, 0⟩], []⟩)]
def ac25 : ACode := (.seq (.region ac25_0 [] (some ⟨[0], false, [], []⟩)) (.seq (.seq (.region ac25_1 [] (some ⟨[0, 7, 8, 9], false, [], []⟩)) (.block 0 (.loop (some ⟨[0, 7, 8, 9], true, [⟨false, 7, 0, 20007, 0⟩, ⟨false, 9, 0, 20009, 0⟩], []⟩) (.seq (.region ac25_2 [] (some ⟨[0, 7, 8, 9, 10], false, [], []⟩)) (.seq (.cond (.tmp 10) .skip (.exit 0)) (.seq (.block 1 (.seq (.region ac25_3 [] (some ⟨[0, 3, 4, 7, 8, 9], false, [], []⟩)) (.seq (.region ac25_4 [] (some ⟨[0, 3, 4, 5, 7, 8, 9], false, [], []⟩)) (.seq (.region ac25_5 [] (some ⟨[0, 7, 8, 9, 45], false, [], []⟩)) (.cond (.tmp 45) (.seq (.region ac25_6 [] (some ⟨[2], false, [], []⟩)) .ret) .skip))))) (.region ac25_7 [] (some ⟨[0, 7, 8, 9], false, [], []⟩)))))))) (.seq (.region ac25_8 [] (some ⟨[2], false, [], []⟩)) .ret)))
def rs25 : List AResV := [.tmp 2]
def ft25 : FnT := ⟨54, tr25, tl25, ac25, rs25⟩
theorem is25 : FnIs Try.prog 25 54 tr25 tl25 ac25 rs25 := ⟨Try.f25, Try.func25, rfl, by kernel_rfl, by kernel_rfl, by kernel_rfl⟩
def ac26_0 : List AOper := [
 oO 1 (.box (.tmp 0)),
 oO 2 (.mv (kI 0)),
 oO 3 (.mv (kI 0))]
def ac26_1 : List AOper := [
 oO 8 (.faddr 5 (.tmp 1)),
 oO 9 (.load true 2 (.tmp 8)),
 oO 10 (.build [(.d (.v (.int .i64 0))), (.d (.v (.int .i64 0)))] []),
 oO 11 (.bin .neq 24 (.tmp 9) (.tmp 10)),
 oM 7 11]
def ac26_2 : List AOper := [
 oO 2 (.mv (kI 0)),
 oO 3 (.mv (kI 13))]
def ac26_3 : List AOper := [
 oO 13 (.faddr 2 (.tmp 1)),
 oO 14 (.load false 1 (.tmp 13)),
 oO 15 (.len (.tmp 14)),
 oO 16 (.bin .eql 3 (.tmp 15) (kI 0)),
 oM 17 16,
 oG 18 (.faddr 3 (.tmp 1)) 17 false,
 oG 19 (.load false 1 (.tmp 18)) 17 false,
 oG 20 (.len (.tmp 19)) 17 false,
 oG 21 (.faddr 2 (.tmp 1)) 17 false,
 oG 22 (.load false 1 (.tmp 21)) 17 false,
 oG 23 (.len (.tmp 22)) 17 false,
 oG 24 (.bin .neq 3 (.tmp 20) (.tmp 23)) 17 false,
 oO 25 (.pick (.tmp 17) (.const (.bool true)) (.tmp 24)),
 oM 26 25,
 oG 27 (.faddr 4 (.tmp 1)) 26 false,
 oG 28 (.load false 1 (.tmp 27)) 26 false,
 oG 29 (.len (.tmp 28)) 26 false,
 oG 30 (.faddr 2 (.tmp 1)) 26 false,
 oG 31 (.load false 1 (.tmp 30)) 26 false,
 oG 32 (.len (.tmp 31)) 26 false,
 oG 33 (.bin .neq 3 (.tmp 29) (.tmp 32)) 26 false,
 oO 34 (.pick (.tmp 26) (.const (.bool true)) (.tmp 33)),
 oM 12 34]
def ac26_4 : List AOper := [
 oO 2 (.mv (kI 0)),
 oO 3 (.mv (kI 12))]
def ac26_5 : List AOper := [
 oO 36 (.faddr 2 (.tmp 1)),
 oO 37 (.load false 1 (.tmp 36)),
 oO 38 (.len (.tmp 37)),
 oO 39 (.bin .gtr 3 (.tmp 38) (kI 64)),
 oM 35 39]
def ac26_6 : List AOper := [
 oO 2 (.mv (kI 0)),
 oO 3 (.mv (kI 8))]
def ac26_7 : List AOper := [
 oO 40 (.faddr 2 (.tmp 1)),
 oO 41 (.load false 1 (.tmp 40)),
 oO 42 (.len (.tmp 41)),
 oO 43 (.mv (kI 0))]
def ac26_8 : List AOper := [
 oO 44 (.bin .lss 3 (.tmp 43) (.tmp 42))]
def ac26_9 : List AOper := [
 oM 45 43,
 oO 46 (.iaddr 1 none (.tmp 41) (.tmp 43)),
 oO 47 (.load false 1 (.tmp 46)),
 oM 4 45,
 oM 5 47]
def ac26_10 : List AOper := [
 oM 48 5,
 oO 49 (.faddr 3 (.tmp 1)),
 oO 50 (.load false 1 (.tmp 49)),
 oM 51 4,
 oO 52 (.iaddr 1 none (.tmp 50) (.tmp 51)),
 oO 53 (.load false 1 (.tmp 52)),
 oO 54 (.faddr 4 (.tmp 1)),
 oO 55 (.load false 1 (.tmp 54)),
 oM 56 4,
 oO 57 (.iaddr 1 none (.tmp 55) (.tmp 56)),
 oO 58 (.load false 1 (.tmp 57)),
 oO 59 (.call 56 [(.tmp 48), (.tmp 53), (.tmp 58)]),
 oM 6 59]
def ac26_11 : List AOper := [
 oM 60 6,
 oO 61 (.bin .neq 29 (.tmp 60) (kI 0))]
def ac26_12 : List AOper := [
 oM 62 4,
 oM 63 6,
 oM 2 62,
 oM 3 63]
def ac26_13 : List AOper := [
 oM 64 4,
 oO 65 (.bin .gtr 3 (.tmp 64) (kI 0)),
 oM 66 65,
 oG 67 (.mv (.tmp 5)) 66 true,
 oG 68 (.faddr 2 (.tmp 1)) 66 true,
 oG 69 (.load false 1 (.tmp 68)) 66 true,
 oG 70 (.mv (.tmp 4)) 66 true,
 oG 71 (.bin .sub 3 (.tmp 70) (kI 1)) 66 true,
 oG 72 (.iaddr 1 none (.tmp 69) (.tmp 71)) 66 true,
 oG 73 (.load false 1 (.tmp 72)) 66 true,
 oG 74 (.bin .leq 3 (.tmp 67) (.tmp 73)) 66 true,
 oO 75 (.pick (.tmp 66) (.tmp 74) (.const (.bool false)))]
def ac26_14 : List AOper := [
 oM 76 4,
 oM 2 76,
 oO 3 (.mv (kI 10))]
def ac26_15 : List AOper := [
 oO 77 (.bin .add 3 (.tmp 43) (kI 1)),
 oM 43 77]
def ac26_16 : List AOper := [
 oO 2 (.mv (kI 0)),
 oO 3 (.mv (kI 0))]
def tr26 : List (Nat × Tidy) := [tF 0 [1], tF 1 [1, 7], tF 2 [2, 3], tF 3 [1, 12], tF 4 [2, 3], tF 5 [1, 35], tF 6 [2, 3], tF 7 [1, 41, 42, 43], tF 8 [1, 41, 42, 43, 44], tF 9 [1, 4, 5, 41, 42, 43], tF 10 [1, 4, 5, 6, 41, 42, 43], tF 11 [1, 4, 5, 6, 41, 42, 43, 61], tF 12 [2, 3], tF 13 [1, 4, 41, 42, 43, 75], tF 14 [2, 3], tF 15 [1, 41, 42, 43], tF 16 [2, 3]]
def tl26 : List (Nat × Tidy) := [(8, ⟨[1, 41, 42, 43], true, [⟨false, 41, 0, 20041, 0⟩, ⟨false, 43, 0, 20043, 0⟩], []⟩)]
def ac26 : ACode := (.seq (.region ac26_0 [] (some ⟨[1], false, [], []⟩)) (.seq (.block 0 (.seq (.region ac26_1 [] (some ⟨[1, 7], false, [], []⟩)) (.cond (.tmp 7) (.seq (.region ac26_2 [] (some ⟨[2, 3], false, [], []⟩)) .ret) (.seq (.region ac26_3 [] (some ⟨[1, 12], false, [], []⟩)) (.cond (.tmp 12) (.seq (.region ac26_4 [] (some ⟨[2, 3], false, [], []⟩)) .ret) (.seq (.region ac26_5 [] (some ⟨[1, 35], false, [], []⟩)) (.cond (.tmp 35) (.seq (.region ac26_6 [] (some ⟨[2, 3], false, [], []⟩)) .ret) .skip))))))) (.seq (.seq (.region ac26_7 [] (some ⟨[1, 41, 42, 43], false, [], []⟩)) (.block 1 (.loop (some ⟨[1, 41, 42, 43], true, [⟨false, 41, 0, 20041, 0⟩, ⟨false, 43, 0, 20043, 0⟩], []⟩) (.seq (.region ac26_8 [] (some ⟨[1, 41, 42, 43, 44], false, [], []⟩)) (.seq (.cond (.tmp 44) .skip (.exit 1)) (.seq (.block 2 (.seq (.region ac26_9 [] (some ⟨[1, 4, 5, 41, 42, 43], false, [], []⟩)) (.seq (.seq (.region ac26_10 [] (some ⟨[1, 4, 5, 6, 41, 42, 43], false, [], []⟩)) (.seq (.region ac26_11 [] (some ⟨[1, 4, 5, 6, 41, 42, 43, 61], false, [], []⟩)) (.cond (.tmp 61) (.seq (.region ac26_12 [] (some ⟨[2, 3], false, [], []⟩)) .ret) .skip))) (.seq (.region ac26_13 [] (some ⟨[1, 4, 41, 42, 43, 75], false, [], []⟩)) (.cond (.tmp 75) (.seq (.region ac26_14 [] (some ⟨[2, 3], false, [], []⟩)) .ret) .skip))))) (.region ac26_15 [] (some ⟨[1, 41, 42, 43], false, [], []⟩)))))))) (.seq (.region ac26_16 [] (some ⟨[2, 3], false, [], []⟩)) .ret))))
def rs26 : List AResV := [.tmp 2, .tmp 3]
def ft26 : FnT := ⟨78, tr26, tl26, ac26, rs26⟩
theorem is26 : FnIs Try.prog 26 78 tr26 tl26 ac26 rs26 := ⟨Try.f26, Try.func26, rfl, by kernel_rfl, by kernel_rfl, by kernel_rfl⟩
def ac27_0 : List AOper := [
 oO 1 (.box (.tmp 0)),
 oO 2 (.mv (.const (.bool false)))]
def ac27_1 : List AOper := [
 oO 3 (.iaddr 1 (some 2) (.tmp 1) (kI 0)),
 oO 4 (.load false 1 (.tmp 3)),
 oO 5 (.call 34 [(.tmp 4), (kI 5000), (kI 60000)]),
 oM 6 5,
 oG 7 (.iaddr 1 (some 2) (.tmp 1) (kI 1)) 6 true,
 oG 8 (.load false 1 (.tmp 7)) 6 true,
 oG 9 (.call 34 [(.tmp 8), (kI 0), (kI 20000)]) 6 true,
 oO 10 (.pick (.tmp 6) (.tmp 9) (.const (.bool false))),
 oM 2 10]
def tr27 : List (Nat × Tidy) := [tF 0 [1], tF 1 [2]]
def tl27 : List (Nat × Tidy) := []
def ac27 : ACode := (.seq (.region ac27_0 [] (some ⟨[1], false, [], []⟩)) (.seq (.region ac27_1 [] (some ⟨[2], false, [], []⟩)) .ret))
def rs27 : List AResV := [.tmp 2]
def ft27 : FnT := ⟨11, tr27, tl27, ac27, rs27⟩
theorem is27 : FnIs Try.prog 27 11 tr27 tl27 ac27 rs27 := ⟨Try.f27, Try.func27, rfl, by kernel_rfl, by kernel_rfl, by kernel_rfl⟩
def ac33_0 : List AOper := [
 oO 2 (.mv (kI 0))]
def ac33_1 : List AOper := [
 oM 5 0,
 oO 6 (.len (.tmp 5)),
 oO 7 (.mv (kI 0))]
def ac33_2 : List AOper := [
 oO 8 (.bin .lss 3 (.tmp 7) (.tmp 6))]
def ac33_3 : List AOper := [
 oO 9 (.iaddr 1 none (.tmp 5) (.tmp 7)),
 oO 10 (.load false 1 (.tmp 9)),
 oM 4 10]
def ac33_4 : List AOper := [
 oM 11 4,
 oO 12 (.call 57 [(.tmp 11)]),
 oO 13 (.pure (oB (.unOp .not 4 (.tmp 12)) 4))]
def ac33_5 : List AOper := [
 oO 2 (.mv (kI 2))]
def ac33_6 : List AOper := [
 oO 14 (.bin .add 3 (.tmp 7) (kI 1)),
 oM 7 14]
def ac33_7 : List AOper := [
 oO 2 (.mv (kI 0))]
def tr33 : List (Nat × Tidy) := [tF 0 [0], tF 1 [5, 6, 7], tF 2 [5, 6, 7, 8], tF 3 [4, 5, 6, 7], tF 4 [5, 6, 7, 13], tF 5 [2], tF 6 [5, 6, 7], tF 7 [2]]
def tl33 : List (Nat × Tidy) := [(2, ⟨[5, 6, 7], true, [⟨false, 5, 0, 20005, 0⟩, ⟨false, 7, 0, 20007, 0⟩], []⟩)]
def ac33 : ACode := (.seq (.region ac33_0 [] (some ⟨[0], false, [], []⟩)) (.seq (.seq (.region ac33_1 [] (some ⟨[5, 6, 7], false, [], []⟩)) (.block 0 (.loop (some ⟨[5, 6, 7], true, [⟨false, 5, 0, 20005, 0⟩, ⟨false, 7, 0, 20007, 0⟩], []⟩) (.seq (.region ac33_2 [] (some ⟨[5, 6, 7, 8], false, [], []⟩)) (.seq (.cond (.tmp 8) .skip (.exit 0)) (.seq (.block 1 (.seq (.region ac33_3 [] (some ⟨[4, 5, 6, 7], false, [], []⟩)) (.seq (.region ac33_4 [] (some ⟨[5, 6, 7, 13], false, [], []⟩)) (.cond (.tmp 13) (.seq (.region ac33_5 [] (some ⟨[2], false, [], []⟩)) .ret) .skip)))) (.region ac33_6 [] (some ⟨[5, 6, 7], false, [], []⟩)))))))) (.seq (.region ac33_7 [] (some ⟨[2], false, [], []⟩)) .ret)))
def rs33 : List AResV := [.tmp 2]
def ft33 : FnT := ⟨15, tr33, tl33, ac33, rs33⟩
theorem is33 : FnIs Try.prog 33 15 tr33 tl33 ac33 rs33 := ⟨Try.f33, Try.func33, rfl, by kernel_rfl, by kernel_rfl, by kernel_rfl⟩
def ac34_0 : List AOper := [
 oO 6 (.mv (.const (.bool false)))]
def ac34_1 : List AOper := [
 oM 7 0,
 oM 8 1,
 oO 9 (.bin .geq 3 (.tmp 7) (.tmp 8)),
 oM 10 9,
 oG 11 (.mv (.tmp 0)) 10 true,
 oG 12 (.mv (.tmp 2)) 10 true,
 oG 13 (.bin .leq 3 (.tmp 11) (.tmp 12)) 10 true,
 oO 14 (.pick (.tmp 10) (.tmp 13) (.const (.bool false))),
 oM 6 14]
def tr34 : List (Nat × Tidy) := [tF 0 [0, 1, 2], tF 1 [6]]
def tl34 : List (Nat × Tidy) := []
def ac34 : ACode := (.seq (.region ac34_0 [] (some ⟨[0, 1, 2], false, [], []⟩)) (.seq (.region ac34_1 [] (some ⟨[6], false, [], []⟩)) .ret))
def rs34 : List AResV := [.tmp 6]
def ft34 : FnT := ⟨15, tr34, tl34, ac34, rs34⟩
theorem is34 : FnIs Try.prog 34 15 tr34 tl34 ac34 rs34 := ⟨Try.f34, Try.func34, rfl, by kernel_rfl, by kernel_rfl, by kernel_rfl⟩
def ac35_0 : List AOper := [
 oO 4 (.mv (kI 0))]
def ac35_1 : List AOper := [
 oM 8 0,
 oO 5 (.mv (kI 0)),
 oM 6 8]
def ac35_2 : List AOper := [
 oM 9 5,
 oM 10 6,
 oO 11 (.bin .lss 3 (.tmp 9) (.tmp 10))]
def ac35_3 : List AOper := [
 oM 12 5,
 oM 13 6,
 oO 14 (.bin .add 3 (.tmp 12) (.tmp 13)),
 oO 15 (.bin .add 3 (.tmp 14) (kI 1)),
 oO 16 (.bin .quo 3 (.tmp 15) (kI 2)),
 oM 7 16]
def ac35_4 : List AOper := [
 oM 17 1,
 oM 18 7,
 oO 19 (.calld (.tmp 17) [(.tmp 18)])]
def ac35_5 : List AOper := [
 oM 20 7,
 oM 5 20]
def ac35_6 : List AOper := [
 oM 21 7,
 oO 22 (.bin .sub 3 (.tmp 21) (kI 1)),
 oM 6 22]
def ac35_7 : List AOper := [
 oM 23 5,
 oM 4 23]
def tr35 : List (Nat × Tidy) := [tF 0 [0, 1], tF 1 [1, 5, 6], tF 2 [1, 5, 6, 11], tF 3 [1, 5, 6, 7], tF 4 [1, 5, 6, 7, 19], tF 5 [1, 5, 6], tF 6 [1, 5, 6], tF 7 [4]]
def tl35 : List (Nat × Tidy) := [(2, ⟨[1, 5, 6], true, [⟨false, 5, 0, 20005, 0⟩, ⟨false, 6, 0, 20006, 0⟩], []⟩)]
def ac35 : ACode := (.seq (.region ac35_0 [] (some ⟨[0, 1], false, [], []⟩)) (.seq (.region ac35_1 [] (some ⟨[1, 5, 6], false, [], []⟩)) (.seq (.block 0 (.loop (some ⟨[1, 5, 6], true, [⟨false, 5, 0, 20005, 0⟩, ⟨false, 6, 0, 20006, 0⟩], []⟩) (.seq (.seq (.region ac35_2 [] (some ⟨[1, 5, 6, 11], false, [], []⟩)) (.cond (.tmp 11) .skip (.exit 0))) (.block 1 (.seq (.region ac35_3 [] (some ⟨[1, 5, 6, 7], false, [], []⟩)) (.seq (.region ac35_4 [] (some ⟨[1, 5, 6, 7, 19], false, [], []⟩)) (.cond (.tmp 19) (.region ac35_5 [] (some ⟨[1, 5, 6], false, [], []⟩)) (.region ac35_6 [] (some ⟨[1, 5, 6], false, [], []⟩))))))))) (.seq (.region ac35_7 [] (some ⟨[4], false, [], []⟩)) .ret))))
def rs35 : List AResV := [.tmp 4]
def ft35 : FnT := ⟨24, tr35, tl35, ac35, rs35⟩
theorem is35 : FnIs Try.prog 35 24 tr35 tl35 ac35 rs35 := ⟨Try.f35, Try.func35, rfl, by kernel_rfl, by kernel_rfl, by kernel_rfl⟩
def ac36_0 : List AOper := [
 oO 5 (.mv (.const (.bool false)))]
def ac36_1 : List AOper := [
 oM 6 0,
 oM 7 0,
 oO 8 (.bin .mul 3 (.tmp 6) (.tmp 7)),
 oO 9 (.load false 1 (.tmp 1)),
 oO 10 (.load false 1 (.tmp 2)),
 oO 11 (.load false 1 (.tmp 2)),
 oO 12 (.bin .mul 3 (.tmp 10) (.tmp 11)),
 oO 13 (.load false 1 (.tmp 3)),
 oO 14 (.bin .mul 3 (kI 10000) (.tmp 13)),
 oO 15 (.load false 1 (.tmp 3)),
 oO 16 (.bin .mul 3 (.tmp 14) (.tmp 15)),
 oO 17 (.call 37 [(.tmp 8), (.tmp 9), (.tmp 12), (.tmp 16)]),
 oO 18 (.bin .leq 3 (.tmp 17) (kI 0)),
 oM 5 18]
def tr36 : List (Nat × Tidy) := [tF 0 [0, 1, 2, 3], tF 1 [5]]
def tl36 : List (Nat × Tidy) := []
def ac36 : ACode := (.seq (.region ac36_0 [] (some ⟨[0, 1, 2, 3], false, [], []⟩)) (.seq (.region ac36_1 [] (some ⟨[5], false, [], []⟩)) .ret))
def rs36 : List AResV := [.tmp 5]
def ft36 : FnT := ⟨19, tr36, tl36, ac36, rs36⟩
theorem is36 : FnIs Try.prog 36 19 tr36 tl36 ac36 rs36 := ⟨Try.f36, Try.func36, rfl, by kernel_rfl, by kernel_rfl, by kernel_rfl⟩
def ac37_0 : List AOper := [
 oO 8 (.mv (kI 0))]
def ac37_1 : List AOper := [
 oM 14 0,
 oO 15 (.pure (oB (.convert 3 96 (.tmp 14)) 96)),
 oM 16 1,
 oO 17 (.pure (oB (.convert 3 96 (.tmp 16)) 96)),
 oO 18 (.call 58 [(.tmp 15), (.tmp 17)]),
 oM 13 18,
 oO 19 (.extract 0 (.tmp 13)),
 oO 20 (.extract 1 (.tmp 13)),
 oM 9 19,
 oM 10 20]
def ac37_2 : List AOper := [
 oM 22 2,
 oO 23 (.pure (oB (.convert 3 96 (.tmp 22)) 96)),
 oM 24 3,
 oO 25 (.pure (oB (.convert 3 96 (.tmp 24)) 96)),
 oO 26 (.call 58 [(.tmp 23), (.tmp 25)]),
 oM 21 26,
 oO 27 (.extract 0 (.tmp 21)),
 oO 28 (.extract 1 (.tmp 21)),
 oM 11 27,
 oM 12 28]
def ac37_3 : List AOper := [
 oM 29 9,
 oM 30 11,
 oO 31 (.call 60 [(.tmp 29), (.tmp 30)]),
 oM 32 10,
 oM 33 12,
 oO 34 (.call 60 [(.tmp 32), (.tmp 33)]),
 oO 35 (.bslice 1 2 [(.v (.int .i64 0))] [(0, (.tmp 31)), (1, (.tmp 34))]),
 oO 36 (.call 59 [(.tmp 35)]),
 oM 8 36]
def tr37 : List (Nat × Tidy) := [tF 0 [0, 1, 2, 3], tF 1 [2, 3, 9, 10], tF 2 [9, 10, 11, 12], tF 3 [8]]
def tl37 : List (Nat × Tidy) := []
def ac37 : ACode := (.seq (.region ac37_0 [] (some ⟨[0, 1, 2, 3], false, [], []⟩)) (.seq (.region ac37_1 [] (some ⟨[2, 3, 9, 10], false, [], []⟩)) (.seq (.region ac37_2 [] (some ⟨[9, 10, 11, 12], false, [], []⟩)) (.seq (.region ac37_3 [] (some ⟨[8], false, [], []⟩)) .ret))))
def rs37 : List AResV := [.tmp 8]
def ft37 : FnT := ⟨37, tr37, tl37, ac37, rs37⟩
theorem is37 : FnIs Try.prog 37 37 tr37 tl37 ac37 rs37 := ⟨Try.f37, Try.func37, rfl, by kernel_rfl, by kernel_rfl, by kernel_rfl⟩
def ac38_0 : List AOper := [
 oO 3 (.mv (.const (.bool false)))]
def ac38_1 : List AOper := [
 oM 4 0,
 oO 5 (.bin .mul 3 (kI 10000) (.tmp 4)),
 oM 6 0,
 oO 7 (.bin .mul 3 (.tmp 5) (.tmp 6)),
 oO 8 (.load false 1 (.tmp 1)),
 oO 9 (.bin .lss 3 (.tmp 7) (.tmp 8)),
 oM 3 9]
def tr38 : List (Nat × Tidy) := [tF 0 [0, 1], tF 1 [3]]
def tl38 : List (Nat × Tidy) := []
def ac38 : ACode := (.seq (.region ac38_0 [] (some ⟨[0, 1], false, [], []⟩)) (.seq (.region ac38_1 [] (some ⟨[3], false, [], []⟩)) .ret))
def rs38 : List AResV := [.tmp 3]
def ft38 : FnT := ⟨10, tr38, tl38, ac38, rs38⟩
theorem is38 : FnIs Try.prog 38 10 tr38 tl38 ac38 rs38 := ⟨Try.f38, Try.func38, rfl, by kernel_rfl, by kernel_rfl, by kernel_rfl⟩
def ac39_0 : List AOper := [
 oO 1 (.box (.tmp 0)),
 oO 2 (.alloc [(.d (.v (.int .i64 0))), (.d (.v (.int .i64 0)))])]
def ac39_1 : List AOper := [
 oO 3 (.load true 2 (.tmp 1)),
 oO 4 (.call 61 [(.tmp 3)]),
 oO 5 (.load true 2 (.tmp 1)),
 oO 6 (.call 62 [(.tmp 5)]),
 oO 7 (.build [(.d (.v (.int .i64 0))), (.d (.v (.int .i64 0)))] [(0, 1, (.tmp 4)), (1, 1, (.tmp 6))]),
 oD (.store 2 (.tmp 2) (.tmp 7))]
def tr39 : List (Nat × Tidy) := [tF 0 [1, 2], tF 1 [2]]
def tl39 : List (Nat × Tidy) := []
def ac39 : ACode := (.seq (.region ac39_0 [] (some ⟨[1, 2], false, [], []⟩)) (.seq (.region ac39_1 [(1, 2)] (some ⟨[2], false, [], []⟩)) .ret))
def rs39 : List AResV := [.cell 2 true 2]
def ft39 : FnT := ⟨8, tr39, tl39, ac39, rs39⟩
theorem is39 : FnIs Try.prog 39 8 tr39 tl39 ac39 rs39 := ⟨Try.f39, Try.func39, rfl, by kernel_rfl, by kernel_rfl, by kernel_rfl⟩
def ac45_0 : List AOper := [
 oO 1 (.box (.tmp 0)),
 oO 2 (.mv (.const .nilIface)),
 oO 3 (.mv (kI 0))]
def ac45_1 : List AOper := [
 oO 7 (.load true 7 (.tmp 1)),
 oO 8 (.call 9 [(.tmp 7)]),
 oM 6 8,
 oO 9 (.extract 0 (.tmp 6)),
 oO 10 (.extract 1 (.tmp 6)),
 oM 4 9,
 oM 5 10]
def ac45_2 : List AOper := [
 oM 11 5,
 oO 12 (.bin .neq 29 (.tmp 11) (kI 0))]
def ac45_3 : List AOper := [
 oM 13 5,
 oO 2 (.mv (.const .nilIface)),
 oM 3 13]
def ac45_4 : List AOper := [
 oO 14 (.faddr 1 (.tmp 1)),
 oO 15 (.load false 1 (.tmp 14)),
 oO 16 (.bin .eql 3 (.tmp 15) (kI 1))]
def ac45_5 : List AOper := [
 oO 17 (.load true 7 (.tmp 1)),
 ⟨(some 18), (.build [(.d (.v (.string ⟨#[]⟩))), (.d (.v (.int .i64 0))), .nils, .nils, .nils, (.d (.v (.int .i64 0))), (.d (.v (.int .i64 0)))] [(0, 7, (.tmp 17))]), none⟩,
 oO 19 (.ifc 102 (.tmp 18)),
 oM 2 19,
 oO 3 (.mv (kI 0))]
def ac45_6 : List AOper := [
 oO 20 (.faddr 5 (.tmp 1)),
 oO 21 (.iaddr 1 (some 2) (.tmp 20) (kI 0)),
 oO 22 (.load false 1 (.tmp 21)),
 oO 23 (.faddr 5 (.tmp 1)),
 oO 24 (.iaddr 1 (some 2) (.tmp 23) (kI 1)),
 oO 25 (.load false 1 (.tmp 24)),
 oO 26 (.build [(.d (.v (.int .i64 0))), (.d (.v (.int .i64 0)))] [(0, 1, (.tmp 22)), (1, 1, (.tmp 25))]),
 oO 27 (.ifc 104 (.tmp 26)),
 oM 2 27,
 oO 3 (.mv (kI 0))]
def tr45 : List (Nat × Tidy) := [tF 0 [1], tF 1 [1, 5], tF 2 [1, 5, 12], tF 3 [2, 3], tF 4 [1, 16], tF 5 [2, 3], tF 6 [2, 3]]
def tl45 : List (Nat × Tidy) := []
def ac45 : ACode := (.seq (.region ac45_0 [] (some ⟨[1], false, [], []⟩)) (.seq (.seq (.region ac45_1 [] (some ⟨[1, 5], false, [], []⟩)) (.seq (.region ac45_2 [] (some ⟨[1, 5, 12], false, [], []⟩)) (.cond (.tmp 12) (.seq (.region ac45_3 [] (some ⟨[2, 3], false, [], []⟩)) .ret) .skip))) (.seq (.seq (.region ac45_4 [] (some ⟨[1, 16], false, [], []⟩)) (.cond (.tmp 16) (.seq (.region ac45_5 [] (some ⟨[2, 3], false, [], []⟩)) .ret) .skip)) (.seq (.region ac45_6 [] (some ⟨[2, 3], false, [], []⟩)) .ret))))
def rs45 : List AResV := [.tmp 2, .tmp 3]
def ft45 : FnT := ⟨28, tr45, tl45, ac45, rs45⟩
theorem is45 : FnIs Try.prog 45 28 tr45 tl45 ac45 rs45 := ⟨Try.f45, Try.func45, rfl, by kernel_rfl, by kernel_rfl, by kernel_rfl⟩
def ac46_0 : List AOper := [
 oO 2 (.mv (.const (.bool false)))]
def ac46_1 : List AOper := [
 oM 3 0,
 oO 4 (.call 34 [(.tmp 3), (kI 1000), (kI 200000)]),
 oM 2 4]
def tr46 : List (Nat × Tidy) := [tF 0 [0], tF 1 [2]]
def tl46 : List (Nat × Tidy) := []
def ac46 : ACode := (.seq (.region ac46_0 [] (some ⟨[0], false, [], []⟩)) (.seq (.region ac46_1 [] (some ⟨[2], false, [], []⟩)) .ret))
def rs46 : List AResV := [.tmp 2]
def ft46 : FnT := ⟨5, tr46, tl46, ac46, rs46⟩
theorem is46 : FnIs Try.prog 46 5 tr46 tl46 ac46 rs46 := ⟨Try.f46, Try.func46, rfl, by kernel_rfl, by kernel_rfl, by kernel_rfl⟩
def ac47_0 : List AOper := [
 oO 2 (.box (.tmp 0)),
 oO 4 (.mv (.const .nilIface)),
 oO 5 (.mv (kI 0))]
def ac47_1 : List AOper := [
 oO 9 (.load true 7 (.tmp 2)),
 oO 10 (.call 45 [(.tmp 9)]),
 oM 8 10,
 oO 11 (.extract 0 (.tmp 8)),
 oO 12 (.extract 1 (.tmp 8)),
 oM 6 11,
 oM 7 12]
def ac47_2 : List AOper := [
 oM 14 7,
 oO 15 (.bin .neq 29 (.tmp 14) (kI 0)),
 oM 13 15]
def ac47_3 : List AOper := [
 oM 16 7,
 oO 4 (.mv (.const .nilIface)),
 oM 5 16]
def ac47_4 : List AOper := [
 oM 18 1,
 oO 19 (.call 46 [(.tmp 18)]),
 oO 20 (.pure (oB (.unOp .not 4 (.tmp 19)) 4)),
 oM 17 20]
def ac47_5 : List AOper := [
 oO 4 (.mv (.const .nilIface)),
 oO 5 (.mv (kI 2))]
def ac47_6 : List AOper := [
 oM 22 6,
 oM 23 1,
 oO 24 (.inv "etalon/glass.covers" (.tmp 22) [(.tmp 23)]),
 oO 25 (.pure (oB (.unOp .not 4 (.tmp 24)) 4)),
 oM 21 25]
def ac47_7 : List AOper := [
 oO 4 (.mv (.const .nilIface)),
 oO 5 (.mv (kI 17))]
def ac47_8 : List AOper := [
 oM 26 6,
 oM 4 26,
 oO 5 (.mv (kI 0))]
def tr47 : List (Nat × Tidy) := [tF 0 [1, 2], tF 1 [1, 6, 7], tF 2 [1, 6, 7, 13], tF 3 [4, 5], tF 4 [1, 6, 17], tF 5 [4, 5], tF 6 [6, 21], tF 7 [4, 5], tF 8 [4, 5]]
def tl47 : List (Nat × Tidy) := []
def ac47 : ACode := (.seq (.region ac47_0 [] (some ⟨[1, 2], false, [], []⟩)) (.seq (.region ac47_1 [] (some ⟨[1, 6, 7], false, [], []⟩)) (.seq (.block 0 (.seq (.region ac47_2 [] (some ⟨[1, 6, 7, 13], false, [], []⟩)) (.cond (.tmp 13) (.seq (.region ac47_3 [] (some ⟨[4, 5], false, [], []⟩)) .ret) (.seq (.region ac47_4 [] (some ⟨[1, 6, 17], false, [], []⟩)) (.cond (.tmp 17) (.seq (.region ac47_5 [] (some ⟨[4, 5], false, [], []⟩)) .ret) (.seq (.region ac47_6 [] (some ⟨[6, 21], false, [], []⟩)) (.cond (.tmp 21) (.seq (.region ac47_7 [] (some ⟨[4, 5], false, [], []⟩)) .ret) .skip))))))) (.seq (.region ac47_8 [] (some ⟨[4, 5], false, [], []⟩)) .ret))))
def rs47 : List AResV := [.tmp 4, .tmp 5]
def ft47 : FnT := ⟨27, tr47, tl47, ac47, rs47⟩
theorem is47 : FnIs Try.prog 47 27 tr47 tl47 ac47 rs47 := ⟨Try.f47, Try.func47, rfl, by kernel_rfl, by kernel_rfl, by kernel_rfl⟩
def ac48_0 : List AOper := [
 oO 1 (.box (.tmp 0)),
 oO 2 (.mv (kI 0))]
def ac48_1 : List AOper := [
 oO 3 (.faddr 0 (.tmp 1)),
 oO 4 (.load false 1 (.tmp 3)),
 oO 5 (.bin .mul 3 (kI 2) (.tmp 4)),
 oO 6 (.faddr 1 (.tmp 1)),
 oO 7 (.load false 1 (.tmp 6)),
 oO 8 (.bin .add 3 (.tmp 5) (.tmp 7)),
 oO 9 (.faddr 1 (.tmp 1)),
 oO 10 (.load false 1 (.tmp 9)),
 oO 11 (.bin .mul 3 (kI 2) (.tmp 10)),
 oO 12 (.build [(.d (.v (.int .i64 0))), (.d (.v (.int .i64 0)))] [(0, 1, (.tmp 8)), (1, 1, (.tmp 11))]),
 oO 13 (.call 61 [(.tmp 12)]),
 oM 2 13]
def tr48 : List (Nat × Tidy) := [tF 0 [1], tF 1 [2]]
def tl48 : List (Nat × Tidy) := []
def ac48 : ACode := (.seq (.region ac48_0 [] (some ⟨[1], false, [], []⟩)) (.seq (.region ac48_1 [] (some ⟨[2], false, [], []⟩)) .ret))
def rs48 : List AResV := [.tmp 2]
def ft48 : FnT := ⟨14, tr48, tl48, ac48, rs48⟩
theorem is48 : FnIs Try.prog 48 14 tr48 tl48 ac48 rs48 := ⟨Try.f48, Try.func48, rfl, by kernel_rfl, by kernel_rfl, by kernel_rfl⟩
def ac49_0 : List AOper := [
 oO 2 (.mv (kI 0))]
def ac49_1 : List AOper := [
 oM 3 0,
 oO 4 (.call 34 [(.tmp 3), (kI 2), (kI 32)]),
 oO 5 (.pure (oB (.unOp .not 4 (.tmp 4)) 4)),
 oM 6 5,
 oG 7 (.mv (.tmp 0)) 6 false,
 oG 8 (.mv (.tmp 0)) 6 false,
 oG 9 (.bin .sub 3 (.tmp 8) (kI 1)) 6 false,
 oG 10 (.bin .and 3 (.tmp 7) (.tmp 9)) 6 false,
 oG 11 (.bin .neq 3 (.tmp 10) (kI 0)) 6 false,
 oO 12 (.pick (.tmp 6) (.const (.bool true)) (.tmp 11))]
def ac49_2 : List AOper := [
 oO 2 (.mv (kI 12))]
def ac49_3 : List AOper := [
 oO 2 (.mv (kI 0))]
def tr49 : List (Nat × Tidy) := [tF 0 [0], tF 1 [12], tF 2 [2], tF 3 [2]]
def tl49 : List (Nat × Tidy) := []
def ac49 : ACode := (.seq (.region ac49_0 [] (some ⟨[0], false, [], []⟩)) (.seq (.seq (.region ac49_1 [] (some ⟨[12], false, [], []⟩)) (.cond (.tmp 12) (.seq (.region ac49_2 [] (some ⟨[2], false, [], []⟩)) .ret) .skip)) (.seq (.region ac49_3 [] (some ⟨[2], false, [], []⟩)) .ret)))
def rs49 : List AResV := [.tmp 2]
def ft49 : FnT := ⟨13, tr49, tl49, ac49, rs49⟩
theorem is49 : FnIs Try.prog 49 13 tr49 tl49 ac49 rs49 := ⟨Try.f49, Try.func49, rfl, by kernel_rfl, by kernel_rfl, by kernel_rfl⟩
def ac50_0 : List AOper := [
 oO 4 (.mv (.const (.slice none 0 0))),
 oO 5 (.mv (.const (.bool false)))]
def ac50_1 : List AOper := [
 oO 6 (.mv (.const (.slice none 0 0)))]
def ac50_2 : List AOper := [
 oM 10 0,
 oO 11 (.mv (kI 0))]
def ac50_3 : List AOper := [
 oO 12 (.bin .lss 3 (.tmp 11) (.tmp 10))]
def ac50_4 : List AOper := [
 oM 13 11,
 oM 7 13]
def ac50_5 : List AOper := [
 oO 8 (.alloc [(.d (.v (.complex Go.FloatKind.f64 0 0))), (.d (.v (.int .i64 0))), (.d (.v (.bool false)))])]
def ac50_6 : List AOper := [
 oM 14 0,
 oO 15 (.mv (kI 0))]
def ac50_7 : List AOper := [
 oO 16 (.bin .lss 3 (.tmp 15) (.tmp 14))]
def ac50_8 : List AOper := [
 oM 17 15,
 oM 9 17]
def ac50_9 : List AOper := [
 oM 18 1,
 oM 19 7,
 oM 20 9,
 oO 21 (.calld (.tmp 18) [(.tmp 19), (.tmp 20)]),
 oO 22 (.extract 0 (.tmp 21)),
 oO 23 (.extract 1 (.tmp 21)),
 oO 24 (.call 63 [(.tmp 8), (.tmp 22), (.tmp 23)])]
def ac50_10 : List AOper := [
 oO 25 (.bin .add 3 (.tmp 15) (kI 1)),
 oM 15 25]
def ac50_11 : List AOper := [
 oO 26 (.faddr 2 (.tmp 8)),
 oO 27 (.load false 1 (.tmp 26))]
def ac50_12 : List AOper := [
 oO 4 (.mv (.const (.slice none 0 0))),
 oO 5 (.mv (.const (.bool false)))]
def ac50_13 : List AOper := [
 oM 28 6,
 oO 29 (.faddr 0 (.tmp 8)),
 oO 30 (.load true 2 (.tmp 29)),
 oO 31 (.bslice 2 1 [(.v (.complex Go.FloatKind.f64 0 0)), (.v (.int .i64 0))] [(0, (.tmp 30))]),
 oO 32 (.append 2 24 (.tmp 28) (.tmp 31)),
 oM 6 32]
def ac50_14 : List AOper := [
 oO 33 (.bin .add 3 (.tmp 11) (kI 1)),
 oM 11 33]
def ac50_15 : List AOper := [
 oM 34 6,
 oM 4 34,
 oO 5 (.mv (.const (.bool true)))]
def tr50 : List (Nat × Tidy) := [tF 0 [0, 1], tF 1 [0, 1, 6], tF 2 [0, 1, 6, 10, 11], tF 3 [0, 1, 6, 10, 11, 12], tF 4 [0, 1, 6, 7, 10, 11], tF 5 [0, 1, 6, 7, 8, 10, 11], tF 6 [0, 1, 6, 7, 8, 10, 11, 14, 15], tF 7 [0, 1, 6, 7, 8, 10, 11, 14, 15, 16], tF 8 [0, 1, 6, 7, 8, 9, 10, 11, 14, 15], tF 9 [0, 1, 6, 7, 8, 10, 11, 14, 15], tF 10 [0, 1, 6, 7, 8, 10, 11, 14, 15], tF 11 [0, 1, 6, 8, 10, 11, 27], tF 12 [4, 5], tF 13 [0, 1, 6, 10, 11], tF 14 [0, 1, 6, 10, 11], tF 15 [4, 5]]
def tl50 : List (Nat × Tidy) := [(3, ⟨[0, 1, 6, 10, 11], true, [⟨false, 6, 0, 20006, 0⟩, ⟨false, 10, 0, 20010, 0⟩, ⟨false, 11, 0, 20011, 0⟩], []⟩), (7, ⟨[0, 1, 6, 7, 8, 10, 11, 14, 15], true, [⟨false, 6, 0, 20006, 0⟩, ⟨false, 7, 0, 20007, 0⟩, ⟨false, 10, 0, 20010, 0⟩, ⟨false, 11, 0, 20011, 0⟩, ⟨false, 14, 0, 20014, 0⟩, ⟨false, 15, 0, 20015, 0⟩], []⟩)]
def ac50 : ACode := (.seq (.region ac50_0 [] (some ⟨[0, 1], false, [], []⟩)) (.seq (.region ac50_1 [] (some ⟨[0, 1, 6], false, [], []⟩)) (.seq (.seq (.region ac50_2 [] (some ⟨[0, 1, 6, 10, 11], false, [], []⟩)) (.block 0 (.loop (some ⟨[0, 1, 6, 10, 11], true, [⟨false, 6, 0, 20006, 0⟩, ⟨false, 10, 0, 20010, 0⟩, ⟨false, 11, 0, 20011, 0⟩], []⟩) (.seq (.region ac50_3 [] (some ⟨[0, 1, 6, 10, 11, 12], false, [], []⟩)) (.seq (.cond (.tmp 12) .skip (.exit 0)) (.seq (.block 1 (.seq (.region ac50_4 [] (some ⟨[0, 1, 6, 7, 10, 11], false, [], []⟩)) (.seq (.region ac50_5 [] (some ⟨[0, 1, 6, 7, 8, 10, 11], false, [], []⟩)) (.seq (.seq (.region ac50_6 [] (some ⟨[0, 1, 6, 7, 8, 10, 11, 14, 15], false, [], []⟩)) (.block 2 (.loop (some ⟨[0, 1, 6, 7, 8, 10, 11, 14, 15], true, [⟨false, 6, 0, 20006, 0⟩, ⟨false, 7, 0, 20007, 0⟩, ⟨false, 10, 0, 20010, 0⟩, ⟨false, 11, 0, 20011, 0⟩, ⟨false, 14, 0, 20014, 0⟩, ⟨false, 15, 0, 20015, 0⟩], []⟩) (.seq (.region ac50_7 [] (some ⟨[0, 1, 6, 7, 8, 10, 11, 14, 15, 16], false, [], []⟩)) (.seq (.cond (.tmp 16) .skip (.exit 2)) (.seq (.block 3 (.seq (.region ac50_8 [] (some ⟨[0, 1, 6, 7, 8, 9, 10, 11, 14, 15], false, [], []⟩)) (.region ac50_9 [] (some ⟨[0, 1, 6, 7, 8, 10, 11, 14, 15], false, [], []⟩)))) (.region ac50_10 [] (some ⟨[0, 1, 6, 7, 8, 10, 11, 14, 15], false, [], []⟩)))))))) (.seq (.seq (.region ac50_11 [] (some ⟨[0, 1, 6, 8, 10, 11, 27], false, [], []⟩)) (.cond (.tmp 27) (.seq (.region ac50_12 [] (some ⟨[4, 5], false, [], []⟩)) .ret) .skip)) (.region ac50_13 [] (some ⟨[0, 1, 6, 10, 11], false, [], []⟩))))))) (.region ac50_14 [] (some ⟨[0, 1, 6, 10, 11], false, [], []⟩)))))))) (.seq (.region ac50_15 [] (some ⟨[4, 5], false, [], []⟩)) .ret))))
def rs50 : List AResV := [.tmp 4, .tmp 5]
def ft50 : FnT := ⟨35, tr50, tl50, ac50, rs50⟩
theorem is50 : FnIs Try.prog 50 35 tr50 tl50 ac50 rs50 := ⟨Try.f50, Try.func50, rfl, by kernel_rfl, by kernel_rfl, by kernel_rfl⟩
def ac51_0 : List AOper := [
 oO 5 (.alloc [(.d (.v (.complex Go.FloatKind.f64 0 0))), (.d (.v (.int .i64 0)))]),
 oO 6 (.mv (kI 0))]
def ac51_1 : List AOper := [
 oM 7 0,
 oM 8 1,
 oO 9 (.bin .mul 3 (.tmp 7) (.tmp 8)),
 oO 10 (.load false 1 (.tmp 2)),
 oO 11 (.len (.tmp 10)),
 oO 12 (.call 53 [(.tmp 9), (.tmp 11)]),
 oO 13 (.load false 1 (.tmp 2)),
 oM 14 1,
 oO 15 (.iaddr 1 none (.tmp 13) (.tmp 14)),
 oO 16 (.load false 1 (.tmp 15)),
 oO 17 (.call 52 [(.tmp 12), (.tmp 16)]),
 oD (.store 2 (.tmp 5) (.tmp 17)),
 oO 6 (.mv (kI 0))]
def tr51 : List (Nat × Tidy) := [tF 0 [0, 1, 2, 5], tF 1 [5, 6]]
def tl51 : List (Nat × Tidy) := []
def ac51 : ACode := (.seq (.region ac51_0 [] (some ⟨[0, 1, 2, 5], false, [], []⟩)) (.seq (.region ac51_1 [(5, 6), (5, 8), (5, 9)] (some ⟨[5, 6], false, [], []⟩)) .ret))
def rs51 : List AResV := [.cell 5 true 2, .tmp 6]
def ft51 : FnT := ⟨18, tr51, tl51, ac51, rs51⟩
theorem is51 : FnIs Try.prog 51 18 tr51 tl51 ac51 rs51 := ⟨Try.f51, Try.func51, rfl, by kernel_rfl, by kernel_rfl, by kernel_rfl⟩
def ac52_0 : List AOper := [
 oO 2 (.box (.tmp 0)),
 oO 4 (.alloc [(.d (.v (.complex Go.FloatKind.f64 0 0))), (.d (.v (.int .i64 0)))])]
def ac52_1 : List AOper := [
 oO 6 (.faddr 0 (.tmp 2)),
 oO 7 (.load false 1 (.tmp 6)),
 oM 8 1,
 oO 9 (.pure (oB (.convert 3 65 (.tmp 8)) 65)),
 oO 10 (.pure (oB (.call { callee := .builtin .complex, args := #[(.tmp 9), (.const (.float Go.FloatKind.f64 0))], argTypes := #[65, 65] }) 55)),
 oO 11 (.bin .mul 55 (.tmp 7) (.tmp 10)),
 oM 5 11]
def ac52_2 : List AOper := [
 oM 12 5,
 oO 13 (.pure (oB (.call { callee := .builtin .real, args := #[(.tmp 12)], argTypes := #[55] }) 65)),
 oO 14 (.bin .add 65 (.tmp 13) (.const (.float Go.FloatKind.f64 0))),
 oM 15 5,
 oO 16 (.pure (oB (.call { callee := .builtin .imag, args := #[(.tmp 15)], argTypes := #[55] }) 65)),
 oO 17 (.bin .add 65 (.tmp 16) (.const (.float Go.FloatKind.f64 0))),
 oO 18 (.pure (oB (.call { callee := .builtin .complex, args := #[(.tmp 14), (.tmp 17)], argTypes := #[65, 65] }) 55)),
 oO 19 (.faddr 1 (.tmp 2)),
 oO 20 (.load false 1 (.tmp 19)),
 oM 21 1,
 oM 22 1,
 oO 23 (.pure (oB (.unOp .neg 3 (.tmp 22)) 3)),
 oO 24 (.pure (oB (.call { callee := .builtin .max, args := #[(.tmp 21), (.tmp 23)], argTypes := #[3, 3] }) 3)),
 oO 25 (.bin .mul 3 (.tmp 20) (.tmp 24)),
 oO 26 (.build [(.d (.v (.complex Go.FloatKind.f64 0 0))), (.d (.v (.int .i64 0)))] [(0, 1, (.tmp 18)), (1, 1, (.tmp 25))]),
 oD (.store 2 (.tmp 4) (.tmp 26))]
def tr52 : List (Nat × Tidy) := [tF 0 [1, 2, 4], tF 1 [1, 2, 4, 5], tF 2 [4]]
def tl52 : List (Nat × Tidy) := []
def ac52 : ACode := (.seq (.region ac52_0 [] (some ⟨[1, 2, 4], false, [], []⟩)) (.seq (.region ac52_1 [] (some ⟨[1, 2, 4, 5], false, [], []⟩)) (.seq (.region ac52_2 [] (some ⟨[4], false, [], []⟩)) .ret)))
def rs52 : List AResV := [.cell 4 true 2]
def ft52 : FnT := ⟨27, tr52, tl52, ac52, rs52⟩
theorem is52 : FnIs Try.prog 52 27 tr52 tl52 ac52 rs52 := ⟨Try.f52, Try.func52, rfl, by kernel_rfl, by kernel_rfl, by kernel_rfl⟩
def ac53_0 : List AOper := [
 oO 4 (.alloc [(.d (.v (.complex Go.FloatKind.f64 0 0))), (.d (.v (.int .i64 0)))])]
def ac53_1 : List AOper := [
 oM 8 0,
 oM 9 1,
 oO 10 (.call 64 [(.tmp 8), (.tmp 9)]),
 oM 7 10,
 oO 11 (.extract 0 (.tmp 7)),
 oO 12 (.extract 1 (.tmp 7)),
 oO 5 (.alloc [(.d (.v (.complex Go.FloatKind.f64 0 0))), (.d (.v (.int .i64 0)))]),
 oD (.store 2 (.tmp 5) (.tmp 11)),
 oM 6 12]
def ac53_2 : List AOper := [
 oO 13 (.load true 2 (.tmp 5)),
 oD (.store 2 (.tmp 4) (.tmp 13))]
def tr53 : List (Nat × Tidy) := [tF 0 [0, 1, 4], tF 1 [4, 5], tF 2 [4]]
def tl53 : List (Nat × Tidy) := []
def ac53 : ACode := (.seq (.region ac53_0 [] (some ⟨[0, 1, 4], false, [], []⟩)) (.seq (.region ac53_1 [] (some ⟨[4, 5], false, [], []⟩)) (.seq (.region ac53_2 [] (some ⟨[4], false, [], []⟩)) .ret)))
def rs53 : List AResV := [.cell 4 true 2]
def ft53 : FnT := ⟨14, tr53, tl53, ac53, rs53⟩
theorem is53 : FnIs Try.prog 53 14 tr53 tl53 ac53 rs53 := ⟨Try.f53, Try.func53, rfl, by kernel_rfl, by kernel_rfl, by kernel_rfl⟩
def ac54_0 : List AOper := [
 oO 2 (.box (.tmp 0)),
 oO 3 (.box (.tmp 1)),
 oO 4 (.mv (.const (.bool false)))]
def ac54_1 : List AOper := [
 oO 5 (.faddr 0 (.tmp 2)),
 oO 6 (.load false 1 (.tmp 5)),
 oO 7 (.faddr 0 (.tmp 3)),
 oO 8 (.load false 1 (.tmp 7)),
 oO 9 (.call 65 [(.tmp 6), (.tmp 8)]),
 oM 10 9,
 oG 11 (.faddr 1 (.tmp 2)) 10 true,
 oG 12 (.load false 1 (.tmp 11)) 10 true,
 oG 13 (.faddr 1 (.tmp 3)) 10 true,
 oG 14 (.load false 1 (.tmp 13)) 10 true,
 oG 15 (.bin .eql 3 (.tmp 12) (.tmp 14)) 10 true,
 oO 16 (.pick (.tmp 10) (.tmp 15) (.const (.bool false))),
 oM 4 16]
def tr54 : List (Nat × Tidy) := [tF 0 [2, 3], tF 1 [4]]
def tl54 : List (Nat × Tidy) := []
def ac54 : ACode := (.seq (.region ac54_0 [] (some ⟨[2, 3], false, [], []⟩)) (.seq (.region ac54_1 [] (some ⟨[4], false, [], []⟩)) .ret))
def rs54 : List AResV := [.tmp 4]
def ft54 : FnT := ⟨17, tr54, tl54, ac54, rs54⟩
theorem is54 : FnIs Try.prog 54 17 tr54 tl54 ac54 rs54 := ⟨Try.f54, Try.func54, rfl, by kernel_rfl, by kernel_rfl, by kernel_rfl⟩
def ac55_0 : List AOper := [
 oO 4 (.mv (.const (.complex Go.FloatKind.f64 0 0)))]
def ac55_1 : List AOper := [
 oM 5 0,
 oO 6 (.pure (oB (.convert 3 65 (.tmp 5)) 65)),
 oM 7 1,
 oO 8 (.pure (oB (.convert 3 65 (.tmp 7)) 65)),
 oO 9 (.pure (oB (.call { callee := .builtin .complex, args := #[(.tmp 6), (.tmp 8)], argTypes := #[65, 65] }) 55)),
 oM 4 9]
def tr55 : List (Nat × Tidy) := [tF 0 [0, 1], tF 1 [4]]
def tl55 : List (Nat × Tidy) := []
def ac55 : ACode := (.seq (.region ac55_0 [] (some ⟨[0, 1], false, [], []⟩)) (.seq (.region ac55_1 [] (some ⟨[4], false, [], []⟩)) .ret))
def rs55 : List AResV := [.tmp 4]
def ft55 : FnT := ⟨10, tr55, tl55, ac55, rs55⟩
theorem is55 : FnIs Try.prog 55 10 tr55 tl55 ac55 rs55 := ⟨Try.f55, Try.func55, rfl, by kernel_rfl, by kernel_rfl, by kernel_rfl⟩
def ac56_0 : List AOper := [
 oO 6 (.mv (kI 0))]
def ac56_1 : List AOper := [
 oM 11 0,
 oO 12 (.call 46 [(.tmp 11)]),
 oO 13 (.pure (oB (.unOp .not 4 (.tmp 12)) 4))]
def ac56_2 : List AOper := [
 oO 6 (.mv (kI 2))]
def ac56_3 : List AOper := [
 oM 15 1,
 oO 16 (.call 66 [(.tmp 15)]),
 oM 14 16,
 oO 17 (.extract 0 (.tmp 14)),
 oO 18 (.extract 1 (.tmp 14)),
 oM 7 17,
 oM 8 18]
def ac56_4 : List AOper := [
 oM 20 2,
 oO 21 (.call 66 [(.tmp 20)]),
 oM 19 21,
 oO 22 (.extract 0 (.tmp 19)),
 oO 23 (.extract 1 (.tmp 19)),
 oM 9 22,
 oM 10 23]
def ac56_5 : List AOper := [
 oM 25 8,
 oO 26 (.pure (oB (.unOp .not 4 (.tmp 25)) 4)),
 oM 27 26,
 oG 28 (.mv (.tmp 10)) 27 false,
 oG 29 (.pure (oB (.unOp .not 4 (.tmp 28)) 4)) 27 false,
 oO 30 (.pick (.tmp 27) (.const (.bool true)) (.tmp 29)),
 oM 24 30]
def ac56_6 : List AOper := [
 oO 6 (.mv (kI 27))]
def ac56_7 : List AOper := [
 oM 32 7,
 oO 33 (.call 57 [(.tmp 32)]),
 oO 34 (.pure (oB (.unOp .not 4 (.tmp 33)) 4)),
 oM 35 34,
 oG 36 (.mv (.tmp 9)) 35 false,
 oG 37 (.call 67 [(.tmp 36)]) 35 false,
 oG 38 (.pure (oB (.unOp .not 4 (.tmp 37)) 4)) 35 false,
 oO 39 (.pick (.tmp 35) (.const (.bool true)) (.tmp 38)),
 oM 31 39]
def ac56_8 : List AOper := [
 oO 6 (.mv (kI 2))]
def ac56_9 : List AOper := [
 oO 6 (.mv (kI 0))]
def tr56 : List (Nat × Tidy) := [tF 0 [0, 1, 2], tF 1 [1, 2, 13], tF 2 [6], tF 3 [2, 7, 8], tF 4 [7, 8, 9, 10], tF 5 [7, 9, 24], tF 6 [6], tF 7 [31], tF 8 [6], tF 9 [6]]
def tl56 : List (Nat × Tidy) := []
def ac56 : ACode := (.seq (.region ac56_0 [] (some ⟨[0, 1, 2], false, [], []⟩)) (.seq (.seq (.region ac56_1 [] (some ⟨[1, 2, 13], false, [], []⟩)) (.cond (.tmp 13) (.seq (.region ac56_2 [] (some ⟨[6], false, [], []⟩)) .ret) .skip)) (.seq (.region ac56_3 [] (some ⟨[2, 7, 8], false, [], []⟩)) (.seq (.region ac56_4 [] (some ⟨[7, 8, 9, 10], false, [], []⟩)) (.seq (.block 0 (.seq (.region ac56_5 [] (some ⟨[7, 9, 24], false, [], []⟩)) (.cond (.tmp 24) (.seq (.region ac56_6 [] (some ⟨[6], false, [], []⟩)) .ret) (.seq (.region ac56_7 [] (some ⟨[31], false, [], []⟩)) (.cond (.tmp 31) (.seq (.region ac56_8 [] (some ⟨[6], false, [], []⟩)) .ret) .skip))))) (.seq (.region ac56_9 [] (some ⟨[6], false, [], []⟩)) .ret))))))
def rs56 : List AResV := [.tmp 6]
def ft56 : FnT := ⟨40, tr56, tl56, ac56, rs56⟩
theorem is56 : FnIs Try.prog 56 40 tr56 tl56 ac56 rs56 := ⟨Try.f56, Try.func56, rfl, by kernel_rfl, by kernel_rfl, by kernel_rfl⟩
def ac57_0 : List AOper := [
 oO 2 (.mv (.const (.bool false)))]
def ac57_1 : List AOper := [
 oM 3 0,
 oO 4 (.call 34 [(.tmp 3), (kI 5000), (kI 80000)]),
 oM 2 4]
def tr57 : List (Nat × Tidy) := [tF 0 [0], tF 1 [2]]
def tl57 : List (Nat × Tidy) := []
def ac57 : ACode := (.seq (.region ac57_0 [] (some ⟨[0], false, [], []⟩)) (.seq (.region ac57_1 [] (some ⟨[2], false, [], []⟩)) .ret))
def rs57 : List AResV := [.tmp 2]
def ft57 : FnT := ⟨5, tr57, tl57, ac57, rs57⟩
theorem is57 : FnIs Try.prog 57 5 tr57 tl57 ac57 rs57 := ⟨Try.f57, Try.func57, rfl, by kernel_rfl, by kernel_rfl, by kernel_rfl⟩
def ac58_0 : List AOper := [
 oO 4 (.mv (.const (.int .u64 0))),
 oO 5 (.mv (.const (.int .u64 0)))]
def ac58_1 : List AOper := [
 oM 14 0,
 oO 15 (.bin .and 96 (.tmp 14) (.const (.int .u64 4294967295))),
 oM 6 15]
def ac58_2 : List AOper := [
 oM 16 0,
 oO 17 (.bin .shr 96 (.tmp 16) (.const (.int .u64 32))),
 oM 7 17]
def ac58_3 : List AOper := [
 oM 18 1,
 oO 19 (.bin .and 96 (.tmp 18) (.const (.int .u64 4294967295))),
 oM 8 19]
def ac58_4 : List AOper := [
 oM 20 1,
 oO 21 (.bin .shr 96 (.tmp 20) (.const (.int .u64 32))),
 oM 9 21]
def ac58_5 : List AOper := [
 oM 22 6,
 oM 23 8,
 oO 24 (.bin .mul 96 (.tmp 22) (.tmp 23)),
 oM 10 24]
def ac58_6 : List AOper := [
 oM 25 7,
 oM 26 8,
 oO 27 (.bin .mul 96 (.tmp 25) (.tmp 26)),
 oM 28 10,
 oO 29 (.bin .shr 96 (.tmp 28) (.const (.int .u64 32))),
 oO 30 (.bin .add 96 (.tmp 27) (.tmp 29)),
 oM 11 30]
def ac58_7 : List AOper := [
 oM 31 11,
 oO 32 (.bin .and 96 (.tmp 31) (.const (.int .u64 4294967295))),
 oM 12 32]
def ac58_8 : List AOper := [
 oM 33 11,
 oO 34 (.bin .shr 96 (.tmp 33) (.const (.int .u64 32))),
 oM 13 34]
def ac58_9 : List AOper := [
 oM 35 12,
 oM 36 6,
 oM 37 9,
 oO 38 (.bin .mul 96 (.tmp 36) (.tmp 37)),
 oO 39 (.bin .add 96 (.tmp 35) (.tmp 38)),
 oM 12 39]
def ac58_10 : List AOper := [
 oM 40 7,
 oM 41 9,
 oO 42 (.bin .mul 96 (.tmp 40) (.tmp 41)),
 oM 43 13,
 oO 44 (.bin .add 96 (.tmp 42) (.tmp 43)),
 oM 45 12,
 oO 46 (.bin .shr 96 (.tmp 45) (.const (.int .u64 32))),
 oO 47 (.bin .add 96 (.tmp 44) (.tmp 46)),
 oM 4 47]
def ac58_11 : List AOper := [
 oM 48 0,
 oM 49 1,
 oO 50 (.bin .mul 96 (.tmp 48) (.tmp 49)),
 oM 5 50]
def tr58 : List (Nat × Tidy) := [tF 0 [0, 1], tF 1 [0, 1, 6], tF 2 [0, 1, 6, 7], tF 3 [0, 1, 6, 7, 8], tF 4 [0, 1, 6, 7, 8, 9], tF 5 [0, 1, 6, 7, 8, 9, 10], tF 6 [0, 1, 6, 7, 9, 11], tF 7 [0, 1, 6, 7, 9, 11, 12], tF 8 [0, 1, 6, 7, 9, 12, 13], tF 9 [0, 1, 7, 9, 12, 13], tF 10 [0, 1, 4], tF 11 [4, 5]]
def tl58 : List (Nat × Tidy) := []
def ac58 : ACode := (.seq (.region ac58_0 [] (some ⟨[0, 1], false, [], []⟩)) (.seq (.region ac58_1 [] (some ⟨[0, 1, 6], false, [], []⟩)) (.seq (.region ac58_2 [] (some ⟨[0, 1, 6, 7], false, [], []⟩)) (.seq (.region ac58_3 [] (some ⟨[0, 1, 6, 7, 8], false, [], []⟩)) (.seq (.region ac58_4 [] (some ⟨[0, 1, 6, 7, 8, 9], false, [], []⟩)) (.seq (.region ac58_5 [] (some ⟨[0, 1, 6, 7, 8, 9, 10], false, [], []⟩)) (.seq (.region ac58_6 [] (some ⟨[0, 1, 6, 7, 9, 11], false, [], []⟩)) (.seq (.region ac58_7 [] (some ⟨[0, 1, 6, 7, 9, 11, 12], false, [], []⟩)) (.seq (.region ac58_8 [] (some ⟨[0, 1, 6, 7, 9, 12, 13], false, [], []⟩)) (.seq (.region ac58_9 [] (some ⟨[0, 1, 7, 9, 12, 13], false, [], []⟩)) (.seq (.region ac58_10 [] (some ⟨[0, 1, 4], false, [], []⟩)) (.seq (.region ac58_11 [] (some ⟨[4, 5], false, [], []⟩)) .ret))))))))))))
def rs58 : List AResV := [.tmp 4, .tmp 5]
def ft58 : FnT := ⟨51, tr58, tl58, ac58, rs58⟩
theorem is58 : FnIs Try.prog 58 51 tr58 tl58 ac58 rs58 := ⟨Try.f58, Try.func58, rfl, by kernel_rfl, by kernel_rfl, by kernel_rfl⟩
def ac59_0 : List AOper := [
 oO 2 (.mv (kI 0))]
def ac59_1 : List AOper := [
 oO 3 (.mv (kI 0))]
def ac59_2 : List AOper := [
 oM 6 0,
 oO 7 (.len (.tmp 6)),
 oO 8 (.mv (kI 0))]
def ac59_3 : List AOper := [
 oO 9 (.bin .lss 3 (.tmp 8) (.tmp 7))]
def ac59_4 : List AOper := [
 oO 10 (.iaddr 1 none (.tmp 6) (.tmp 8)),
 oO 11 (.load false 1 (.tmp 10)),
 oM 5 11]
def ac59_5 : List AOper := [
 oM 12 5,
 oM 13 3,
 oO 14 (.bin .neq 3 (.tmp 12) (.tmp 13))]
def ac59_6 : List AOper := [
 oM 15 5,
 oM 2 15]
def ac59_7 : List AOper := [
 oO 16 (.bin .add 3 (.tmp 8) (kI 1)),
 oM 8 16]
def ac59_8 : List AOper := [
 oM 17 3,
 oM 2 17]
def tr59 : List (Nat × Tidy) := [tF 0 [0], tF 1 [0, 3], tF 2 [3, 6, 7, 8], tF 3 [3, 6, 7, 8, 9], tF 4 [3, 5, 6, 7, 8], tF 5 [3, 5, 6, 7, 8, 14], tF 6 [2], tF 7 [3, 6, 7, 8], tF 8 [2]]
def tl59 : List (Nat × Tidy) := [(3, ⟨[3, 6, 7, 8], true, [⟨false, 3, 0, 20003, 0⟩, ⟨false, 6, 0, 20006, 0⟩, ⟨false, 8, 0, 20008, 0⟩], []⟩)]
def ac59 : ACode := (.seq (.region ac59_0 [] (some ⟨[0], false, [], []⟩)) (.seq (.region ac59_1 [] (some ⟨[0, 3], false, [], []⟩)) (.seq (.seq (.region ac59_2 [] (some ⟨[3, 6, 7, 8], false, [], []⟩)) (.block 0 (.loop (some ⟨[3, 6, 7, 8], true, [⟨false, 3, 0, 20003, 0⟩, ⟨false, 6, 0, 20006, 0⟩, ⟨false, 8, 0, 20008, 0⟩], []⟩) (.seq (.region ac59_3 [] (some ⟨[3, 6, 7, 8, 9], false, [], []⟩)) (.seq (.cond (.tmp 9) .skip (.exit 0)) (.seq (.block 1 (.seq (.region ac59_4 [] (some ⟨[3, 5, 6, 7, 8], false, [], []⟩)) (.seq (.region ac59_5 [] (some ⟨[3, 5, 6, 7, 8, 14], false, [], []⟩)) (.cond (.tmp 14) (.seq (.region ac59_6 [] (some ⟨[2], false, [], []⟩)) .ret) .skip)))) (.region ac59_7 [] (some ⟨[3, 6, 7, 8], false, [], []⟩)))))))) (.seq (.region ac59_8 [] (some ⟨[2], false, [], []⟩)) .ret))))
def rs59 : List AResV := [.tmp 2]
def ft59 : FnT := ⟨18, tr59, tl59, ac59, rs59⟩
theorem is59 : FnIs Try.prog 59 18 tr59 tl59 ac59 rs59 := ⟨Try.f59, Try.func59, rfl, by kernel_rfl, by kernel_rfl, by kernel_rfl⟩
def ac60_0 : List AOper := [
 oO 4 (.mv (kI 0))]
def ac60_1 : List AOper := [
 oM 7 0,
 oO 8 (.call 68 [(.tmp 7)]),
 oM 5 8]
def ac60_2 : List AOper := [
 oM 9 1,
 oO 10 (.call 68 [(.tmp 9)]),
 oM 6 10]
def ac60_3 : List AOper := [
 oM 11 5]
def ac60_4 : List AOper := [
 oM 12 6]
def ac60_5 : List AOper := [
 oO 4 (.mv (kI 0))]
def ac60_6 : List AOper := [
 oO 4 (.mv (kI (-1)))]
def ac60_7 : List AOper := [
 oM 13 6]
def ac60_8 : List AOper := [
 oO 4 (.mv (kI 1))]
def ac60_9 : List AOper := [
 oM 14 0,
 oM 15 1,
 oO 16 (.bin .lss 96 (.tmp 14) (.tmp 15))]
def ac60_10 : List AOper := [
 oO 4 (.mv (kI (-1)))]
def ac60_11 : List AOper := [
 oM 17 0,
 oM 18 1,
 oO 19 (.bin .gtr 96 (.tmp 17) (.tmp 18))]
def ac60_12 : List AOper := [
 oO 4 (.mv (kI 1))]
def ac60_13 : List AOper := [
 oO 4 (.mv (kI 0))]
def tr60 : List (Nat × Tidy) := [tF 0 [0, 1], tF 1 [0, 1, 5], tF 2 [0, 1, 5, 6], tF 3 [0, 1, 6, 11], tF 4 [12], tF 5 [4], tF 6 [4], tF 7 [0, 1, 13], tF 8 [4], tF 9 [0, 1, 16], tF 10 [4], tF 11 [19], tF 12 [4], tF 13 [4]]
def tl60 : List (Nat × Tidy) := []
def ac60 : ACode := (.seq (.region ac60_0 [] (some ⟨[0, 1], false, [], []⟩)) (.seq (.region ac60_1 [] (some ⟨[0, 1, 5], false, [], []⟩)) (.seq (.region ac60_2 [] (some ⟨[0, 1, 5, 6], false, [], []⟩)) (.seq (.seq (.region ac60_3 [] (some ⟨[0, 1, 6, 11], false, [], []⟩)) (.cond (.tmp 11) (.seq (.seq (.region ac60_4 [] (some ⟨[12], false, [], []⟩)) (.cond (.tmp 12) (.seq (.region ac60_5 [] (some ⟨[4], false, [], []⟩)) .ret) .skip)) (.seq (.region ac60_6 [] (some ⟨[4], false, [], []⟩)) .ret)) .skip)) (.seq (.seq (.region ac60_7 [] (some ⟨[0, 1, 13], false, [], []⟩)) (.cond (.tmp 13) (.seq (.region ac60_8 [] (some ⟨[4], false, [], []⟩)) .ret) .skip)) (.seq (.seq (.region ac60_9 [] (some ⟨[0, 1, 16], false, [], []⟩)) (.cond (.tmp 16) (.seq (.region ac60_10 [] (some ⟨[4], false, [], []⟩)) .ret) .skip)) (.seq (.seq (.region ac60_11 [] (some ⟨[19], false, [], []⟩)) (.cond (.tmp 19) (.seq (.region ac60_12 [] (some ⟨[4], false, [], []⟩)) .ret) .skip)) (.seq (.region ac60_13 [] (some ⟨[4], false, [], []⟩)) .ret))))))))
def rs60 : List AResV := [.tmp 4]
def ft60 : FnT := ⟨20, tr60, tl60, ac60, rs60⟩
theorem is60 : FnIs Try.prog 60 20 tr60 tl60 ac60 rs60 := ⟨Try.f60, Try.func60, rfl, by kernel_rfl, by kernel_rfl, by kernel_rfl⟩
def ac61_0 : List AOper := [
 oO 1 (.box (.tmp 0)),
 oO 2 (.mv (kI 0))]
def ac61_1 : List AOper := [
 oO 4 (.faddr 0 (.tmp 1)),
 oO 5 (.load false 1 (.tmp 4)),
 oO 6 (.faddr 1 (.tmp 1)),
 oO 7 (.load false 1 (.tmp 6)),
 oO 8 (.bin .quo 3 (.tmp 5) (.tmp 7)),
 oM 3 8]
def ac61_2 : List AOper := [
 oO 9 (.faddr 0 (.tmp 1)),
 oO 10 (.load false 1 (.tmp 9)),
 oO 11 (.faddr 1 (.tmp 1)),
 oO 12 (.load false 1 (.tmp 11)),
 oO 13 (.bin .rem 3 (.tmp 10) (.tmp 12)),
 oO 14 (.bin .lss 3 (.tmp 13) (kI 0))]
def ac61_3 : List AOper := [
 oM 15 3,
 oO 16 (.bin .sub 3 (.tmp 15) (kI 1)),
 oM 3 16]
def ac61_4 : List AOper := [
 oM 17 3,
 oM 2 17]
def tr61 : List (Nat × Tidy) := [tF 0 [1], tF 1 [1, 3], tF 2 [3, 14], tF 3 [3], tF 4 [2]]
def tl61 : List (Nat × Tidy) := []
def ac61 : ACode := (.seq (.region ac61_0 [] (some ⟨[1], false, [], []⟩)) (.seq (.region ac61_1 [] (some ⟨[1, 3], false, [], []⟩)) (.seq (.seq (.region ac61_2 [] (some ⟨[3, 14], false, [], []⟩)) (.cond (.tmp 14) (.region ac61_3 [] (some ⟨[3], false, [], []⟩)) .skip)) (.seq (.region ac61_4 [] (some ⟨[2], false, [], []⟩)) .ret))))
def rs61 : List AResV := [.tmp 2]
def ft61 : FnT := ⟨18, tr61, tl61, ac61, rs61⟩
theorem is61 : FnIs Try.prog 61 18 tr61 tl61 ac61 rs61 := ⟨Try.f61, Try.func61, rfl, by kernel_rfl, by kernel_rfl, by kernel_rfl⟩
def ac62_0 : List AOper := [
 oO 1 (.box (.tmp 0)),
 oO 2 (.mv (kI 0))]
def ac62_1 : List AOper := [
 oO 3 (.faddr 0 (.tmp 1)),
 oO 4 (.load false 1 (.tmp 3)),
 oO 5 (.pure (oB (.unOp .neg 3 (.tmp 4)) 3)),
 oO 6 (.faddr 1 (.tmp 1)),
 oO 7 (.load false 1 (.tmp 6)),
 oO 8 (.build [(.d (.v (.int .i64 0))), (.d (.v (.int .i64 0)))] [(0, 1, (.tmp 5)), (1, 1, (.tmp 7))]),
 oO 9 (.call 61 [(.tmp 8)]),
 oO 10 (.pure (oB (.unOp .neg 3 (.tmp 9)) 3)),
 oM 2 10]
def tr62 : List (Nat × Tidy) := [tF 0 [1], tF 1 [2]]
def tl62 : List (Nat × Tidy) := []
def ac62 : ACode := (.seq (.region ac62_0 [] (some ⟨[1], false, [], []⟩)) (.seq (.region ac62_1 [] (some ⟨[2], false, [], []⟩)) .ret))
def rs62 : List AResV := [.tmp 2]
def ft62 : FnT := ⟨11, tr62, tl62, ac62, rs62⟩
theorem is62 : FnIs Try.prog 62 11 tr62 tl62 ac62 rs62 := ⟨Try.f62, Try.func62, rfl, by kernel_rfl, by kernel_rfl, by kernel_rfl⟩
def ac63_0 : List AOper := [
 oO 4 (.box (.tmp 1))]
def ac63_1 : List AOper := [
 oM 7 2,
 oO 8 (.bin .neq 29 (.tmp 7) (kI 0))]
def ac63_2 : List AOper := [
 oM 9 0,
 oO 10 (.nilchk (.tmp 9)),
 oO 11 (.faddr 2 (.tmp 10)),
 oD (.store 1 (.tmp 11) (.const (.bool true)))]
def ac63_3 : List AOper := [
 oM 12 0,
 oO 13 (.nilchk (.tmp 12)),
 oO 14 (.faddr 2 (.tmp 13)),
 oO 15 (.load false 1 (.tmp 14))]
def ac63_4 : List AOper := [
 oM 17 0,
 oO 18 (.nilchk (.tmp 17)),
 oO 19 (.faddr 0 (.tmp 18)),
 oO 20 (.load true 2 (.tmp 19)),
 oO 21 (.load true 2 (.tmp 4)),
 oO 22 (.call 69 [(.tmp 20), (.tmp 21)]),
 oM 16 22,
 oO 23 (.extract 0 (.tmp 16)),
 oO 24 (.extract 1 (.tmp 16)),
 oO 6 (.alloc [(.d (.v (.complex Go.FloatKind.f64 0 0))), (.d (.v (.int .i64 0)))]),
 oD (.store 2 (.tmp 6) (.tmp 23)),
 oM 2 24]
def ac63_5 : List AOper := [
 oM 25 0,
 oM 26 0,
 oO 27 (.load true 2 (.tmp 6)),
 oM 28 2,
 oO 29 (.bin .neq 29 (.tmp 28) (kI 0)),
 oO 30 (.nilchk (.tmp 25)),
 oO 31 (.faddr 0 (.tmp 30)),
 oD (.store 2 (.tmp 31) (.tmp 27)),
 oO 32 (.nilchk (.tmp 26)),
 oO 33 (.faddr 2 (.tmp 32)),
 oD (.store 1 (.tmp 33) (.tmp 29))]
def tr63 : List (Nat × Tidy) := [tF 0 [0, 2, 4], tF 1 [0, 4, 8], tF 2 [0, 4], tF 3 [0, 4, 15], tF 4 [0, 2, 6], tF 5 [0]]
def tl63 : List (Nat × Tidy) := []
def ac63 : ACode := (.seq (.region ac63_0 [] (some ⟨[0, 2, 4], false, [], []⟩)) (.seq (.seq (.region ac63_1 [] (some ⟨[0, 4, 8], false, [], []⟩)) (.cond (.tmp 8) (.region ac63_2 [] (some ⟨[0, 4], false, [], []⟩)) .skip)) (.seq (.seq (.region ac63_3 [] (some ⟨[0, 4, 15], false, [], []⟩)) (.cond (.tmp 15) .ret .skip)) (.seq (.region ac63_4 [(3, 9), (4, 9), (5, 9)] (some ⟨[0, 2, 6], false, [], []⟩)) (.region ac63_5 [] (some ⟨[0], false, [], []⟩))))))
def rs63 : List AResV := []
def ft63 : FnT := ⟨34, tr63, tl63, ac63, rs63⟩
theorem is63 : FnIs Try.prog 63 34 tr63 tl63 ac63 rs63 := ⟨Try.f63, Try.func63, rfl, by kernel_rfl, by kernel_rfl, by kernel_rfl⟩
def ac64_0 : List AOper := [
 oO 4 (.alloc [(.d (.v (.complex Go.FloatKind.f64 0 0))), (.d (.v (.int .i64 0)))]),
 oO 5 (.mv (kI 0))]
def ac64_1 : List AOper := [
 oM 6 0,
 oO 7 (.call 70 [(.tmp 6), (kI 1000000000)]),
 oO 8 (.pure (oB (.unOp .not 4 (.tmp 7)) 4)),
 oM 9 8,
 oG 10 (.mv (.tmp 1)) 9 false,
 oG 11 (.call 71 [(.tmp 10), (kI 1), (kI 1000000000)]) 9 false,
 oG 12 (.pure (oB (.unOp .not 4 (.tmp 11)) 4)) 9 false,
 oO 13 (.pick (.tmp 9) (.const (.bool true)) (.tmp 12))]
def ac64_2 : List AOper := [
 oO 14 (.build [(.d (.v (.complex Go.FloatKind.f64 0 0))), (.d (.v (.int .i64 0)))] []),
 oD (.store 2 (.tmp 4) (.tmp 14)),
 oO 5 (.mv (kI 2))]
def ac64_3 : List AOper := [
 oM 15 0,
 oO 16 (.bin .mul 3 (.tmp 15) (kI 4194304)),
 oM 17 1,
 oO 18 (.call 73 [(.tmp 16), (.tmp 17)]),
 oM 19 0,
 oO 20 (.bin .mul 3 (.tmp 19) (kI 4194304)),
 oM 21 1,
 oO 22 (.call 74 [(.tmp 20), (.tmp 21)]),
 oO 23 (.call 72 [(.tmp 18), (.tmp 22)]),
 oO 24 (.extract 0 (.tmp 23)),
 oO 25 (.extract 1 (.tmp 23)),
 oD (.store 2 (.tmp 4) (.tmp 24)),
 oM 5 25]
def tr64 : List (Nat × Tidy) := [tF 0 [0, 1, 4], tF 1 [0, 1, 4, 13], tF 2 [4, 5], tF 3 [4, 5]]
def tl64 : List (Nat × Tidy) := []
def ac64 : ACode := (.seq (.region ac64_0 [] (some ⟨[0, 1, 4], false, [], []⟩)) (.seq (.seq (.region ac64_1 [] (some ⟨[0, 1, 4, 13], false, [], []⟩)) (.cond (.tmp 13) (.seq (.region ac64_2 [] (some ⟨[4, 5], false, [], []⟩)) .ret) .skip)) (.seq (.region ac64_3 [] (some ⟨[4, 5], false, [], []⟩)) .ret)))
def rs64 : List AResV := [.cell 4 true 2, .tmp 5]
def ft64 : FnT := ⟨26, tr64, tl64, ac64, rs64⟩
theorem is64 : FnIs Try.prog 64 26 tr64 tl64 ac64 rs64 := ⟨Try.f64, Try.func64, rfl, by kernel_rfl, by kernel_rfl, by kernel_rfl⟩
def ac65_0 : List AOper := [
 oO 4 (.mv (.const (.bool false)))]
def ac65_1 : List AOper := [
 oM 5 0,
 oO 6 (.pure (oB (.call { callee := .builtin .real, args := #[(.tmp 5)], argTypes := #[55] }) 65)),
 oO 7 (.pure (oB (.call { callee := .value (.func 75), args := #[(.tmp 6)], argTypes := #[65] }) 96)),
 oM 8 1,
 oO 9 (.pure (oB (.call { callee := .builtin .real, args := #[(.tmp 8)], argTypes := #[55] }) 65)),
 oO 10 (.pure (oB (.call { callee := .value (.func 75), args := #[(.tmp 9)], argTypes := #[65] }) 96)),
 oO 11 (.bin .eql 96 (.tmp 7) (.tmp 10)),
 oM 12 11,
 oG 13 (.mv (.tmp 0)) 12 true,
 oG 14 (.pure (oB (.call { callee := .builtin .imag, args := #[(.tmp 13)], argTypes := #[55] }) 65)) 12 true,
 oG 15 (.pure (oB (.call { callee := .value (.func 75), args := #[(.tmp 14)], argTypes := #[65] }) 96)) 12 true,
 oG 16 (.mv (.tmp 1)) 12 true,
 oG 17 (.pure (oB (.call { callee := .builtin .imag, args := #[(.tmp 16)], argTypes := #[55] }) 65)) 12 true,
 oG 18 (.pure (oB (.call { callee := .value (.func 75), args := #[(.tmp 17)], argTypes := #[65] }) 96)) 12 true,
 oG 19 (.bin .eql 96 (.tmp 15) (.tmp 18)) 12 true,
 oO 20 (.pick (.tmp 12) (.tmp 19) (.const (.bool false))),
 oM 4 20]
def tr65 : List (Nat × Tidy) := [tF 0 [0, 1], tF 1 [4]]
def tl65 : List (Nat × Tidy) := []
def ac65 : ACode := (.seq (.region ac65_0 [] (some ⟨[0, 1], false, [], []⟩)) (.seq (.region ac65_1 [] (some ⟨[4], false, [], []⟩)) .ret))
def rs65 : List AResV := [.tmp 4]
def ft65 : FnT := ⟨21, tr65, tl65, ac65, rs65⟩
theorem is65 : FnIs Try.prog 65 21 tr65 tl65 ac65 rs65 := ⟨Try.f65, Try.func65, rfl, by kernel_rfl, by kernel_rfl, by kernel_rfl⟩
def ac66_0 : List AOper := [
 oO 2 (.mv (kI 0)),
 oO 3 (.mv (.const (.bool false)))]
def ac66_1 : List AOper := [
 oM 5 0,
 oO 6 (.pure (oB (.convert 66 65 (.tmp 5)) 65)),
 oM 4 6]
def ac66_2 : List AOper := [
 oM 7 4,
 oO 8 (.call 76 [(.tmp 7)]),
 oM 9 8,
 oG 10 (.mv (.tmp 4)) 9 false,
 oG 11 (.call 77 [(.tmp 10), (kI 0)]) 9 false,
 oO 12 (.pick (.tmp 9) (.const (.bool true)) (.tmp 11)),
 oM 13 12,
 oG 14 (.mv (.tmp 4)) 13 false,
 oG 15 (.call 78 [(.tmp 14)]) 13 false,
 oG 16 (.mv (.tmp 4)) 13 false,
 oG 17 (.bin .neq 65 (.tmp 15) (.tmp 16)) 13 false,
 oO 18 (.pick (.tmp 13) (.const (.bool true)) (.tmp 17))]
def ac66_3 : List AOper := [
 oO 2 (.mv (kI 0)),
 oO 3 (.mv (.const (.bool false)))]
def ac66_4 : List AOper := [
 oM 19 4,
 oO 20 (.pure (oB (.call { callee := .builtin .min, args := #[(.const (.float Go.FloatKind.f64 4741671816366391296)), (.tmp 19)], argTypes := #[65, 65] }) 65)),
 oO 21 (.pure (oB (.call { callee := .builtin .max, args := #[(.const (.float Go.FloatKind.f64 13965043853221167104)), (.tmp 20)], argTypes := #[65, 65] }) 65)),
 oO 22 (.pure (oB (.convert 65 3 (.tmp 21)) 3)),
 oM 2 22,
 oO 3 (.mv (.const (.bool true)))]
def tr66 : List (Nat × Tidy) := [tF 0 [0], tF 1 [4], tF 2 [4, 18], tF 3 [2, 3], tF 4 [2, 3]]
def tl66 : List (Nat × Tidy) := []
def ac66 : ACode := (.seq (.region ac66_0 [] (some ⟨[0], false, [], []⟩)) (.seq (.region ac66_1 [] (some ⟨[4], false, [], []⟩)) (.seq (.seq (.region ac66_2 [] (some ⟨[4, 18], false, [], []⟩)) (.cond (.tmp 18) (.seq (.region ac66_3 [] (some ⟨[2, 3], false, [], []⟩)) .ret) .skip)) (.seq (.region ac66_4 [] (some ⟨[2, 3], false, [], []⟩)) .ret))))
def rs66 : List AResV := [.tmp 2, .tmp 3]
def ft66 : FnT := ⟨23, tr66, tl66, ac66, rs66⟩
theorem is66 : FnIs Try.prog 66 23 tr66 tl66 ac66 rs66 := ⟨Try.f66, Try.func66, rfl, by kernel_rfl, by kernel_rfl, by kernel_rfl⟩
def ac67_0 : List AOper := [
 oO 2 (.mv (.const (.bool false)))]
def ac67_1 : List AOper := [
 oM 3 0,
 oO 4 (.call 34 [(.tmp 3), (kI 0), (kI 80000)]),
 oM 2 4]
def tr67 : List (Nat × Tidy) := [tF 0 [0], tF 1 [2]]
def tl67 : List (Nat × Tidy) := []
def ac67 : ACode := (.seq (.region ac67_0 [] (some ⟨[0], false, [], []⟩)) (.seq (.region ac67_1 [] (some ⟨[2], false, [], []⟩)) .ret))
def rs67 : List AResV := [.tmp 2]
def ft67 : FnT := ⟨5, tr67, tl67, ac67, rs67⟩
theorem is67 : FnIs Try.prog 67 5 tr67 tl67 ac67 rs67 := ⟨Try.f67, Try.func67, rfl, by kernel_rfl, by kernel_rfl, by kernel_rfl⟩
def ac68_0 : List AOper := [
 oO 2 (.mv (.const (.bool false)))]
def ac68_1 : List AOper := [
 oM 3 0,
 oM 4 0,
 oO 5 (.bin .neq 96 (.tmp 3) (.tmp 4)),
 oM 2 5]
def tr68 : List (Nat × Tidy) := [tF 0 [0], tF 1 [2]]
def tl68 : List (Nat × Tidy) := []
def ac68 : ACode := (.seq (.region ac68_0 [] (some ⟨[0], false, [], []⟩)) (.seq (.region ac68_1 [] (some ⟨[2], false, [], []⟩)) .ret))
def rs68 : List AResV := [.tmp 2]
def ft68 : FnT := ⟨6, tr68, tl68, ac68, rs68⟩
theorem is68 : FnIs Try.prog 68 6 tr68 tl68 ac68 rs68 := ⟨Try.f68, Try.func68, rfl, by kernel_rfl, by kernel_rfl, by kernel_rfl⟩
def ac69_0 : List AOper := [
 oO 2 (.box (.tmp 0)),
 oO 3 (.box (.tmp 1)),
 oO 4 (.alloc [(.d (.v (.complex Go.FloatKind.f64 0 0))), (.d (.v (.int .i64 0)))]),
 oO 5 (.mv (kI 0))]
def ac69_1 : List AOper := [
 oO 6 (.load true 2 (.tmp 2)),
 oO 7 (.load true 2 (.tmp 3)),
 oO 8 (.call 79 [(.tmp 6), (.tmp 7), (.func 80)]),
 oO 9 (.extract 0 (.tmp 8)),
 oO 10 (.extract 1 (.tmp 8)),
 oD (.store 2 (.tmp 4) (.tmp 9)),
 oM 5 10]
def tr69 : List (Nat × Tidy) := [tF 0 [2, 3, 4], tF 1 [4, 5]]
def tl69 : List (Nat × Tidy) := []
def ac69 : ACode := (.seq (.region ac69_0 [] (some ⟨[2, 3, 4], false, [], []⟩)) (.seq (.region ac69_1 [] (some ⟨[4, 5], false, [], []⟩)) .ret))
def rs69 : List AResV := [.cell 4 true 2, .tmp 5]
def ft69 : FnT := ⟨11, tr69, tl69, ac69, rs69⟩
theorem is69 : FnIs Try.prog 69 11 tr69 tl69 ac69 rs69 := ⟨Try.f69, Try.func69, rfl, by kernel_rfl, by kernel_rfl, by kernel_rfl⟩
def ac70_0 : List AOper := [
 oO 4 (.mv (.const (.bool false)))]
def ac70_1 : List AOper := [
 oM 5 0,
 oM 6 1,
 oO 7 (.pure (oB (.unOp .neg 3 (.tmp 6)) 3)),
 oM 8 1,
 oO 9 (.call 71 [(.tmp 5), (.tmp 7), (.tmp 8)]),
 oM 4 9]
def tr70 : List (Nat × Tidy) := [tF 0 [0, 1], tF 1 [4]]
def tl70 : List (Nat × Tidy) := []
def ac70 : ACode := (.seq (.region ac70_0 [] (some ⟨[0, 1], false, [], []⟩)) (.seq (.region ac70_1 [] (some ⟨[4], false, [], []⟩)) .ret))
def rs70 : List AResV := [.tmp 4]
def ft70 : FnT := ⟨10, tr70, tl70, ac70, rs70⟩
theorem is70 : FnIs Try.prog 70 10 tr70 tl70 ac70 rs70 := ⟨Try.f70, Try.func70, rfl, by kernel_rfl, by kernel_rfl, by kernel_rfl⟩
def ac71_0 : List AOper := [
 oO 6 (.mv (.const (.bool false)))]
def ac71_1 : List AOper := [
 oM 7 1,
 oM 8 0,
 oO 9 (.bin .leq 3 (.tmp 7) (.tmp 8)),
 oM 10 9,
 oG 11 (.mv (.tmp 0)) 10 true,
 oG 12 (.mv (.tmp 2)) 10 true,
 oG 13 (.bin .leq 3 (.tmp 11) (.tmp 12)) 10 true,
 oO 14 (.pick (.tmp 10) (.tmp 13) (.const (.bool false))),
 oM 6 14]
def tr71 : List (Nat × Tidy) := [tF 0 [0, 1, 2], tF 1 [6]]
def tl71 : List (Nat × Tidy) := []
def ac71 : ACode := (.seq (.region ac71_0 [] (some ⟨[0, 1, 2], false, [], []⟩)) (.seq (.region ac71_1 [] (some ⟨[6], false, [], []⟩)) .ret))
def rs71 : List AResV := [.tmp 6]
def ft71 : FnT := ⟨15, tr71, tl71, ac71, rs71⟩
theorem is71 : FnIs Try.prog 71 15 tr71 tl71 ac71 rs71 := ⟨Try.f71, Try.func71, rfl, by kernel_rfl, by kernel_rfl, by kernel_rfl⟩
def ac72_0 : List AOper := [
 oO 4 (.alloc [(.d (.v (.complex Go.FloatKind.f64 0 0))), (.d (.v (.int .i64 0)))]),
 oO 5 (.mv (kI 0))]
def ac72_1 : List AOper := [
 oM 13 0,
 oM 14 1,
 oO 15 (.bin .add 3 (.tmp 13) (.tmp 14)),
 oO 16 (.call 73 [(.tmp 15), (kI 2)]),
 oM 6 16]
def ac72_2 : List AOper := [
 oM 17 6,
 oO 18 (.call 82 [(.tmp 17)]),
 oO 7 (.alloc [(.d (.v (.int .i64 0))), (.d (.v (.int .i64 0)))]),
 oD (.store 2 (.tmp 7) (.tmp 18))]
def ac72_3 : List AOper := [
 oO 20 (.faddr 0 (.tmp 7)),
 oO 21 (.load false 1 (.tmp 20)),
 oO 22 (.call 83 [(.tmp 21), (kI 64)]),
 oM 19 22,
 oO 23 (.extract 0 (.tmp 19)),
 oO 24 (.extract 1 (.tmp 19)),
 oM 8 23,
 oM 9 24]
def ac72_4 : List AOper := [
 oO 26 (.faddr 1 (.tmp 7)),
 oO 27 (.load false 1 (.tmp 26)),
 oO 28 (.call 83 [(.tmp 27), (kI 64)]),
 oM 25 28,
 oO 29 (.extract 0 (.tmp 25)),
 oO 30 (.extract 1 (.tmp 25)),
 oM 10 29,
 oM 11 30]
def ac72_5 : List AOper := [
 oM 31 8,
 oM 32 10,
 oO 33 (.build [(.d (.v (.int .i64 0))), (.d (.v (.int .i64 0)))] [(0, 1, (.tmp 31)), (1, 1, (.tmp 32))]),
 oM 34 1,
 oM 35 6,
 oO 36 (.bin .sub 3 (.tmp 34) (.tmp 35)),
 oO 37 (.bin .mul 3 (kI 11) (.tmp 36)),
 oO 38 (.call 74 [(.tmp 37), (kI 7)]),
 oO 39 (.bin .add 3 (kI 2) (.tmp 38)),
 oO 40 (.build [(.d (.v (.int .i64 0))), (.d (.v (.int .i64 0))), (.d (.v (.int .i64 0)))] [(0, 2, (.tmp 33)), (2, 1, (.tmp 39))]),
 oO 12 (.alloc [(.d (.v (.int .i64 0))), (.d (.v (.int .i64 0))), (.d (.v (.int .i64 0)))]),
 oD (.store 3 (.tmp 12) (.tmp 40))]
def ac72_6 : List AOper := [
 oM 41 0,
 oM 42 1,
 oO 43 (.bin .eql 3 (.tmp 41) (.tmp 42)),
 oM 44 43,
 oG 45 (.mv (.tmp 0)) 44 true,
 oG 46 (.bin .rem 3 (.tmp 45) (kI 1048576)) 44 true,
 oG 47 (.bin .eql 3 (.tmp 46) (kI 0)) 44 true,
 oO 48 (.pick (.tmp 44) (.tmp 47) (.const (.bool false)))]
def ac72_7 : List AOper := [
 oO 49 (.faddr 2 (.tmp 12)),
 oD (.store 1 (.tmp 49) (kI 0))]
def ac72_8 : List AOper := [
 oO 50 (.load true 3 (.tmp 12)),
 oO 51 (.call 84 [(.tmp 50)]),
 oO 52 (.extract 0 (.tmp 51)),
 oO 53 (.extract 1 (.tmp 51)),
 oD (.store 2 (.tmp 4) (.tmp 52)),
 oM 5 53]
def tr72 : List (Nat × Tidy) := [tF 0 [0, 1, 4], tF 1 [0, 1, 4, 6], tF 2 [0, 1, 4, 6, 7], tF 3 [0, 1, 4, 6, 7, 8], tF 4 [0, 1, 4, 6, 8, 10], tF 5 [0, 1, 4, 12], tF 6 [4, 12, 48], tF 7 [4, 12], tF 8 [4, 5]]
def tl72 : List (Nat × Tidy) := []
def ac72 : ACode := (.seq (.region ac72_0 [] (some ⟨[0, 1, 4], false, [], []⟩)) (.seq (.region ac72_1 [] (some ⟨[0, 1, 4, 6], false, [], []⟩)) (.seq (.region ac72_2 [] (some ⟨[0, 1, 4, 6, 7], false, [], []⟩)) (.seq (.region ac72_3 [] (some ⟨[0, 1, 4, 6, 7, 8], false, [], []⟩)) (.seq (.region ac72_4 [] (some ⟨[0, 1, 4, 6, 8, 10], false, [], []⟩)) (.seq (.region ac72_5 [] (some ⟨[0, 1, 4, 12], false, [], []⟩)) (.seq (.seq (.region ac72_6 [] (some ⟨[4, 12, 48], false, [], []⟩)) (.cond (.tmp 48) (.region ac72_7 [] (some ⟨[4, 12], false, [], []⟩)) .skip)) (.seq (.region ac72_8 [] (some ⟨[4, 5], false, [], []⟩)) .ret))))))))
def rs72 : List AResV := [.cell 4 true 2, .tmp 5]
def ft72 : FnT := ⟨54, tr72, tl72, ac72, rs72⟩
theorem is72 : FnIs Try.prog 72 54 tr72 tl72 ac72 rs72 := ⟨Try.f72, Try.func72, rfl, by kernel_rfl, by kernel_rfl, by kernel_rfl⟩
def ac73_0 : List AOper := [
 oO 4 (.mv (kI 0))]
def ac73_1 : List AOper := [
 oM 6 0,
 oM 7 1,
 oO 8 (.bin .quo 3 (.tmp 6) (.tmp 7)),
 oM 5 8]
def ac73_2 : List AOper := [
 oM 9 0,
 oM 10 1,
 oO 11 (.bin .rem 3 (.tmp 9) (.tmp 10)),
 oO 12 (.bin .lss 3 (.tmp 11) (kI 0))]
def ac73_3 : List AOper := [
 oM 13 5,
 oO 14 (.bin .sub 3 (.tmp 13) (kI 1)),
 oM 5 14]
def ac73_4 : List AOper := [
 oM 15 5,
 oM 4 15]
def tr73 : List (Nat × Tidy) := [tF 0 [0, 1], tF 1 [0, 1, 5], tF 2 [5, 12], tF 3 [5], tF 4 [4]]
def tl73 : List (Nat × Tidy) := []
def ac73 : ACode := (.seq (.region ac73_0 [] (some ⟨[0, 1], false, [], []⟩)) (.seq (.region ac73_1 [] (some ⟨[0, 1, 5], false, [], []⟩)) (.seq (.seq (.region ac73_2 [] (some ⟨[5, 12], false, [], []⟩)) (.cond (.tmp 12) (.region ac73_3 [] (some ⟨[5], false, [], []⟩)) .skip)) (.seq (.region ac73_4 [] (some ⟨[4], false, [], []⟩)) .ret))))
def rs73 : List AResV := [.tmp 4]
def ft73 : FnT := ⟨16, tr73, tl73, ac73, rs73⟩
theorem is73 : FnIs Try.prog 73 16 tr73 tl73 ac73 rs73 := ⟨Try.f73, Try.func73, rfl, by kernel_rfl, by kernel_rfl, by kernel_rfl⟩
def ac74_0 : List AOper := [
 oO 4 (.mv (kI 0))]
def ac74_1 : List AOper := [
 oM 5 0,
 oO 6 (.pure (oB (.unOp .neg 3 (.tmp 5)) 3)),
 oM 7 1,
 oO 8 (.call 73 [(.tmp 6), (.tmp 7)]),
 oO 9 (.pure (oB (.unOp .neg 3 (.tmp 8)) 3)),
 oM 4 9]
def tr74 : List (Nat × Tidy) := [tF 0 [0, 1], tF 1 [4]]
def tl74 : List (Nat × Tidy) := []
def ac74 : ACode := (.seq (.region ac74_0 [] (some ⟨[0, 1], false, [], []⟩)) (.seq (.region ac74_1 [] (some ⟨[4], false, [], []⟩)) .ret))
def rs74 : List AResV := [.tmp 4]
def ft74 : FnT := ⟨10, tr74, tl74, ac74, rs74⟩
theorem is74 : FnIs Try.prog 74 10 tr74 tl74 ac74 rs74 := ⟨Try.f74, Try.func74, rfl, by kernel_rfl, by kernel_rfl, by kernel_rfl⟩
def ac76_0 : List AOper := [
 oO 2 (.mv (.const (.bool false)))]
def ac76_1 : List AOper := [
 oM 3 0,
 oM 4 0,
 oO 5 (.bin .neq 65 (.tmp 3) (.tmp 4)),
 oM 2 5]
def tr76 : List (Nat × Tidy) := [tF 0 [0], tF 1 [2]]
def tl76 : List (Nat × Tidy) := []
def ac76 : ACode := (.seq (.region ac76_0 [] (some ⟨[0], false, [], []⟩)) (.seq (.region ac76_1 [] (some ⟨[2], false, [], []⟩)) .ret))
def rs76 : List AResV := [.tmp 2]
def ft76 : FnT := ⟨6, tr76, tl76, ac76, rs76⟩
theorem is76 : FnIs Try.prog 76 6 tr76 tl76 ac76 rs76 := ⟨Try.f76, Try.func76, rfl, by kernel_rfl, by kernel_rfl, by kernel_rfl⟩
def ac77_0 : List AOper := [
 oO 4 (.mv (.const (.bool false)))]
def ac77_1 : List AOper := [
 oM 5 1,
 oO 6 (.bin .eql 3 (.tmp 5) (kI 0))]
def ac77_2 : List AOper := [
 oM 7 0,
 oO 8 (.call 85 [(.tmp 7)]),
 oM 0 8]
def ac77_3 : List AOper := [
 oM 9 1,
 oO 10 (.bin .lss 3 (.tmp 9) (kI 0))]
def ac77_4 : List AOper := [
 oM 11 0,
 oO 12 (.pure (oB (.unOp .neg 65 (.tmp 11)) 65)),
 oM 0 12]
def ac77_5 : List AOper := [
 oM 13 0,
 oO 14 (.bin .gtr 65 (.tmp 13) (.const (.float Go.FloatKind.f64 9218868437227405311))),
 oM 4 14]
def tr77 : List (Nat × Tidy) := [tF 0 [0, 1], tF 1 [0, 1, 6], tF 2 [0], tF 3 [0, 10], tF 4 [0], tF 5 [4]]
def tl77 : List (Nat × Tidy) := []
def ac77 : ACode := (.seq (.region ac77_0 [] (some ⟨[0, 1], false, [], []⟩)) (.seq (.seq (.region ac77_1 [] (some ⟨[0, 1, 6], false, [], []⟩)) (.cond (.tmp 6) (.region ac77_2 [] (some ⟨[0], false, [], []⟩)) (.seq (.region ac77_3 [] (some ⟨[0, 10], false, [], []⟩)) (.cond (.tmp 10) (.region ac77_4 [] (some ⟨[0], false, [], []⟩)) .skip)))) (.seq (.region ac77_5 [] (some ⟨[4], false, [], []⟩)) .ret)))
def rs77 : List AResV := [.tmp 4]
def ft77 : FnT := ⟨15, tr77, tl77, ac77, rs77⟩
theorem is77 : FnIs Try.prog 77 15 tr77 tl77 ac77 rs77 := ⟨Try.f77, Try.func77, rfl, by kernel_rfl, by kernel_rfl, by kernel_rfl⟩
def ac78_0 : List AOper := [
 oO 2 (.mv (.const (.float Go.FloatKind.f64 0)))]
def ac78_1 : List AOper := [
 oM 3 0,
 oO 4 (.pure (oB (.call { callee := .value (.func 86), args := #[(.tmp 3)], argTypes := #[65] }) 65)),
 oM 2 4]
def ac78_2 : List AOper := [
 oM 5 0,
 oO 6 (.call 87 [(.tmp 5)]),
 oM 2 6]
def tr78 : List (Nat × Tidy) := [tF 0 [0], tF 1 [2], tF 2 [2]]
def tl78 : List (Nat × Tidy) := []
def ac78 : ACode := (.seq (.region ac78_0 [] (some ⟨[0], false, [], []⟩)) (.seq (.cond (.const (.bool true)) (.seq (.region ac78_1 [] (some ⟨[2], false, [], []⟩)) .ret) .skip) (.seq (.region ac78_2 [] (some ⟨[2], false, [], []⟩)) .ret)))
def rs78 : List AResV := [.tmp 2]
def ft78 : FnT := ⟨7, tr78, tl78, ac78, rs78⟩
theorem is78 : FnIs Try.prog 78 7 tr78 tl78 ac78 rs78 := ⟨Try.f78, Try.func78, rfl, by kernel_rfl, by kernel_rfl, by kernel_rfl⟩
def ac79_0 : List AOper := [
 oO 3 (.box (.tmp 0)),
 oO 4 (.box (.tmp 1)),
 oO 5 (.box (.tmp 2)),
 oO 6 (.alloc [(.d (.v (.complex Go.FloatKind.f64 0 0))), (.d (.v (.int .i64 0)))]),
 oO 7 (.mv (kI 0))]
def ac79_1 : List AOper := [
 oO 11 (.load true 2 (.tmp 3)),
 oO 12 (.call 88 [(.tmp 11)]),
 oM 10 12,
 oO 13 (.extract 0 (.tmp 10)),
 oO 14 (.extract 1 (.tmp 10)),
 oO 8 (.alloc [(.d (.v (.int .i64 0))), (.d (.v (.int .i64 0))), (.d (.v (.int .i64 0)))]),
 oD (.store 3 (.tmp 8) (.tmp 13)),
 oM 9 14]
def ac79_2 : List AOper := [
 oM 15 9,
 oO 16 (.bin .neq 29 (.tmp 15) (kI 0))]
def ac79_3 : List AOper := [
 oO 17 (.build [(.d (.v (.complex Go.FloatKind.f64 0 0))), (.d (.v (.int .i64 0)))] []),
 oM 18 9,
 oD (.store 2 (.tmp 6) (.tmp 17)),
 oM 7 18]
def ac79_4 : List AOper := [
 oO 19 (.load true 2 (.tmp 4)),
 oO 20 (.mkfn 90 [(.tmp 5), (.tmp 8)]),
 oO 21 (.call 89 [(.tmp 19), (.tmp 20)]),
 oO 22 (.extract 0 (.tmp 21)),
 oO 23 (.extract 1 (.tmp 21)),
 oD (.store 2 (.tmp 6) (.tmp 22)),
 oM 7 23]
def tr79 : List (Nat × Tidy) := [tF 0 [3, 4, 5, 6], tF 1 [4, 5, 6, 8, 9], tF 2 [4, 5, 6, 8, 9, 16], tF 3 [6, 7], tF 4 [6, 7]]
def tl79 : List (Nat × Tidy) := []
def ac79 : ACode := (.seq (.region ac79_0 [] (some ⟨[3, 4, 5, 6], false, [], []⟩)) (.seq (.region ac79_1 [] (some ⟨[4, 5, 6, 8, 9], false, [], []⟩)) (.seq (.seq (.region ac79_2 [] (some ⟨[4, 5, 6, 8, 9, 16], false, [], []⟩)) (.cond (.tmp 16) (.seq (.region ac79_3 [] (some ⟨[6, 7], false, [], []⟩)) .ret) .skip)) (.seq (.region ac79_4 [] (some ⟨[6, 7], false, [], []⟩)) .ret))))
def rs79 : List AResV := [.cell 6 true 2, .tmp 7]
def ft79 : FnT := ⟨24, tr79, tl79, ac79, rs79⟩
theorem is79 : FnIs Try.prog 79 24 tr79 tl79 ac79 rs79 := ⟨Try.f79, Try.func79, rfl, by kernel_rfl, by kernel_rfl, by kernel_rfl⟩
def ac80_0 : List AOper := [
 oO 2 (.box (.tmp 0)),
 oO 3 (.box (.tmp 1)),
 oO 4 (.alloc [(.d (.v (.int .i64 0))), (.d (.v (.int .i64 0))), (.d (.v (.int .i64 0)))]),
 oO 5 (.mv (kI 0))]
def ac80_1 : List AOper := [
 oO 6 (.faddr 0 (.tmp 2)),
 oO 7 (.load true 2 (.tmp 6)),
 oO 8 (.faddr 0 (.tmp 3)),
 oO 9 (.load true 2 (.tmp 8)),
 oO 10 (.call 81 [(.tmp 7), (.tmp 9)]),
 oO 11 (.faddr 2 (.tmp 2)),
 oO 12 (.load false 1 (.tmp 11)),
 oO 13 (.faddr 2 (.tmp 3)),
 oO 14 (.load false 1 (.tmp 13)),
 oO 15 (.bin .add 3 (.tmp 12) (.tmp 14)),
 oO 16 (.build [(.d (.v (.int .i64 0))), (.d (.v (.int .i64 0))), (.d (.v (.int .i64 0)))] [(0, 2, (.tmp 10)), (2, 1, (.tmp 15))]),
 oD (.store 3 (.tmp 4) (.tmp 16)),
 oO 5 (.mv (kI 0))]
def tr80 : List (Nat × Tidy) := [tF 0 [2, 3, 4], tF 1 [4, 5]]
def tl80 : List (Nat × Tidy) := []
def ac80 : ACode := (.seq (.region ac80_0 [] (some ⟨[2, 3, 4], false, [], []⟩)) (.seq (.region ac80_1 [(4, 6), (4, 8)] (some ⟨[4, 5], false, [], []⟩)) .ret))
def rs80 : List AResV := [.cell 4 true 3, .tmp 5]
def ft80 : FnT := ⟨17, tr80, tl80, ac80, rs80⟩
theorem is80 : FnIs Try.prog 80 17 tr80 tl80 ac80 rs80 := ⟨Try.f80, Try.func80, rfl, by kernel_rfl, by kernel_rfl, by kernel_rfl⟩
def ac81_0 : List AOper := [
 oO 2 (.box (.tmp 0)),
 oO 3 (.box (.tmp 1)),
 oO 4 (.alloc [(.d (.v (.int .i64 0))), (.d (.v (.int .i64 0)))])]
def ac81_1 : List AOper := [
 oO 5 (.faddr 0 (.tmp 2)),
 oO 6 (.load false 1 (.tmp 5)),
 oO 7 (.faddr 0 (.tmp 3)),
 oO 8 (.load false 1 (.tmp 7)),
 oO 9 (.bin .add 3 (.tmp 6) (.tmp 8)),
 oO 10 (.faddr 1 (.tmp 2)),
 oO 11 (.load false 1 (.tmp 10)),
 oO 12 (.faddr 1 (.tmp 3)),
 oO 13 (.load false 1 (.tmp 12)),
 oO 14 (.bin .add 3 (.tmp 11) (.tmp 13)),
 oO 15 (.build [(.d (.v (.int .i64 0))), (.d (.v (.int .i64 0)))] [(0, 1, (.tmp 9)), (1, 1, (.tmp 14))]),
 oD (.store 2 (.tmp 4) (.tmp 15))]
def tr81 : List (Nat × Tidy) := [tF 0 [2, 3, 4], tF 1 [4]]
def tl81 : List (Nat × Tidy) := []
def ac81 : ACode := (.seq (.region ac81_0 [] (some ⟨[2, 3, 4], false, [], []⟩)) (.seq (.region ac81_1 [] (some ⟨[4], false, [], []⟩)) .ret))
def rs81 : List AResV := [.cell 4 true 2]
def ft81 : FnT := ⟨16, tr81, tl81, ac81, rs81⟩
theorem is81 : FnIs Try.prog 81 16 tr81 tl81 ac81 rs81 := ⟨Try.f81, Try.func81, rfl, by kernel_rfl, by kernel_rfl, by kernel_rfl⟩
def ac82_0 : List AOper := [
 oO 2 (.alloc [(.d (.v (.int .i64 0))), (.d (.v (.int .i64 0)))])]
def ac82_1 : List AOper := [
 oM 4 0,
 oM 5 0,
 oO 6 (.call 73 [(.tmp 5), (kI 4194304)]),
 oO 7 (.bin .mul 3 (kI 4194304) (.tmp 6)),
 oO 8 (.bin .sub 3 (.tmp 4) (.tmp 7)),
 oM 0 8]
def ac82_2 : List AOper := [
 oM 10 0,
 oO 11 (.bin .geq 3 (.tmp 10) (kI 2097152)),
 oM 9 11]
def ac82_3 : List AOper := [
 oM 12 0,
 oO 13 (.bin .sub 3 (.tmp 12) (kI 2097152)),
 oO 14 (.call 82 [(.tmp 13)]),
 oO 15 (.call 91 [(.tmp 14), (kI 2)]),
 oD (.store 2 (.tmp 2) (.tmp 15))]
def ac82_4 : List AOper := [
 oM 17 0,
 oO 18 (.bin .geq 3 (.tmp 17) (kI 1048576)),
 oM 16 18]
def ac82_5 : List AOper := [
 oM 19 0,
 oO 20 (.bin .sub 3 (.tmp 19) (kI 1048576)),
 oO 21 (.call 82 [(.tmp 20)]),
 oO 22 (.call 91 [(.tmp 21), (kI 1)]),
 oD (.store 2 (.tmp 2) (.tmp 22))]
def ac82_6 : List AOper := [
 oM 24 0,
 oO 25 (.bin .gtr 3 (.tmp 24) (kI 524288)),
 oM 23 25]
def ac82_7 : List AOper := [
 oM 26 0,
 oO 27 (.bin .sub 3 (kI 1048576) (.tmp 26)),
 oO 28 (.call 92 [(.tmp 27)]),
 oO 3 (.alloc [(.d (.v (.int .i64 0))), (.d (.v (.int .i64 0)))]),
 oD (.store 2 (.tmp 3) (.tmp 28))]
def ac82_8 : List AOper := [
 oO 29 (.faddr 1 (.tmp 3)),
 oO 30 (.load false 1 (.tmp 29)),
 oO 31 (.faddr 0 (.tmp 3)),
 oO 32 (.load false 1 (.tmp 31)),
 oO 33 (.build [(.d (.v (.int .i64 0))), (.d (.v (.int .i64 0)))] [(0, 1, (.tmp 30)), (1, 1, (.tmp 32))]),
 oD (.store 2 (.tmp 2) (.tmp 33))]
def ac82_9 : List AOper := [
 oM 34 0,
 oO 35 (.call 92 [(.tmp 34)]),
 oD (.store 2 (.tmp 2) (.tmp 35))]
def tr82 : List (Nat × Tidy) := [tF 0 [0, 2], tF 1 [0, 2], tF 2 [0, 2, 9], tF 3 [2], tF 4 [0, 2, 16], tF 5 [2], tF 6 [0, 2, 23], tF 7 [2, 3], tF 8 [2], tF 9 [2]]
def tl82 : List (Nat × Tidy) := []
def ac82 : ACode := (.seq (.region ac82_0 [] (some ⟨[0, 2], false, [], []⟩)) (.seq (.region ac82_1 [] (some ⟨[0, 2], false, [], []⟩)) (.seq (.block 0 (.seq (.region ac82_2 [] (some ⟨[0, 2, 9], false, [], []⟩)) (.cond (.tmp 9) (.seq (.region ac82_3 [] (some ⟨[2], false, [], []⟩)) .ret) (.seq (.region ac82_4 [] (some ⟨[0, 2, 16], false, [], []⟩)) (.cond (.tmp 16) (.seq (.region ac82_5 [] (some ⟨[2], false, [], []⟩)) .ret) (.seq (.region ac82_6 [] (some ⟨[0, 2, 23], false, [], []⟩)) (.cond (.tmp 23) (.seq (.region ac82_7 [] (some ⟨[2, 3], false, [], []⟩)) (.seq (.region ac82_8 [] (some ⟨[2], false, [], []⟩)) .ret)) .skip))))))) (.seq (.region ac82_9 [] (some ⟨[2], false, [], []⟩)) .ret))))
def rs82 : List AResV := [.cell 2 true 2]
def ft82 : FnT := ⟨36, tr82, tl82, ac82, rs82⟩
theorem is82 : FnIs Try.prog 82 36 tr82 tl82 ac82 rs82 := ⟨Try.f82, Try.func82, rfl, by kernel_rfl, by kernel_rfl, by kernel_rfl⟩
def ac83_0 : List AOper := [
 oO 4 (.mv (kI 0)),
 oO 5 (.mv (.const (.bool false)))]
def ac83_1 : List AOper := [
 oM 6 0,
 oO 7 (.bin .mul 3 (kI 2) (.tmp 6)),
 oM 8 1,
 oO 9 (.bin .add 3 (.tmp 7) (.tmp 8)),
 oM 10 1,
 oO 11 (.bin .mul 3 (kI 2) (.tmp 10)),
 oO 12 (.call 73 [(.tmp 9), (.tmp 11)]),
 oM 13 0,
 oM 14 1,
 oO 15 (.bin .rem 3 (.tmp 13) (.tmp 14)),
 oO 16 (.bin .neq 3 (.tmp 15) (kI 0)),
 oM 4 12,
 oM 5 16]
def tr83 : List (Nat × Tidy) := [tF 0 [0, 1], tF 1 [4, 5]]
def tl83 : List (Nat × Tidy) := []
def ac83 : ACode := (.seq (.region ac83_0 [] (some ⟨[0, 1], false, [], []⟩)) (.seq (.region ac83_1 [] (some ⟨[4, 5], false, [], []⟩)) .ret))
def rs83 : List AResV := [.tmp 4, .tmp 5]
def ft83 : FnT := ⟨17, tr83, tl83, ac83, rs83⟩
theorem is83 : FnIs Try.prog 83 17 tr83 tl83 ac83 rs83 := ⟨Try.f83, Try.func83, rfl, by kernel_rfl, by kernel_rfl, by kernel_rfl⟩
def ac84_0 : List AOper := [
 oO 1 (.box (.tmp 0)),
 oO 2 (.alloc [(.d (.v (.complex Go.FloatKind.f64 0 0))), (.d (.v (.int .i64 0)))]),
 oO 3 (.mv (kI 0))]
def ac84_1 : List AOper := [
 oO 4 (.faddr 0 (.tmp 1)),
 oO 5 (.faddr 0 (.tmp 4)),
 oO 6 (.load false 1 (.tmp 5)),
 oO 7 (.call 70 [(.tmp 6), (kI 67108864)]),
 oO 8 (.pure (oB (.unOp .not 4 (.tmp 7)) 4)),
 oM 9 8,
 oG 10 (.faddr 0 (.tmp 1)) 9 false,
 oG 11 (.faddr 1 (.tmp 10)) 9 false,
 oG 12 (.load false 1 (.tmp 11)) 9 false,
 oG 13 (.call 70 [(.tmp 12), (kI 67108864)]) 9 false,
 oG 14 (.pure (oB (.unOp .not 4 (.tmp 13)) 4)) 9 false,
 oO 15 (.pick (.tmp 9) (.const (.bool true)) (.tmp 14)),
 oM 16 15,
 oG 17 (.faddr 2 (.tmp 1)) 16 false,
 oG 18 (.load false 1 (.tmp 17)) 16 false,
 oG 19 (.call 71 [(.tmp 18), (kI 0), (kI 67108864)]) 16 false,
 oG 20 (.pure (oB (.unOp .not 4 (.tmp 19)) 4)) 16 false,
 oO 21 (.pick (.tmp 16) (.const (.bool true)) (.tmp 20))]
def ac84_2 : List AOper := [
 oO 22 (.build [(.d (.v (.complex Go.FloatKind.f64 0 0))), (.d (.v (.int .i64 0)))] []),
 oD (.store 2 (.tmp 2) (.tmp 22)),
 oO 3 (.mv (kI 8))]
def ac84_3 : List AOper := [
 oO 23 (.faddr 0 (.tmp 1)),
 oO 24 (.load true 2 (.tmp 23)),
 oO 25 (.call 93 [(.tmp 24)]),
 oO 26 (.faddr 2 (.tmp 1)),
 oO 27 (.load false 1 (.tmp 26)),
 oO 28 (.build [(.d (.v (.complex Go.FloatKind.f64 0 0))), (.d (.v (.int .i64 0)))] [(0, 1, (.tmp 25)), (1, 1, (.tmp 27))]),
 oD (.store 2 (.tmp 2) (.tmp 28)),
 oO 3 (.mv (kI 0))]
def tr84 : List (Nat × Tidy) := [tF 0 [1, 2], tF 1 [1, 2, 21], tF 2 [2, 3], tF 3 [2, 3]]
def tl84 : List (Nat × Tidy) := []
def ac84 : ACode := (.seq (.region ac84_0 [] (some ⟨[1, 2], false, [], []⟩)) (.seq (.seq (.region ac84_1 [] (some ⟨[1, 2, 21], false, [], []⟩)) (.cond (.tmp 21) (.seq (.region ac84_2 [] (some ⟨[2, 3], false, [], []⟩)) .ret) .skip)) (.seq (.region ac84_3 [(2, 4)] (some ⟨[2, 3], false, [], []⟩)) .ret)))
def rs84 : List AResV := [.cell 2 true 2, .tmp 3]
def ft84 : FnT := ⟨29, tr84, tl84, ac84, rs84⟩
theorem is84 : FnIs Try.prog 84 29 tr84 tl84 ac84 rs84 := ⟨Try.f84, Try.func84, rfl, by kernel_rfl, by kernel_rfl, by kernel_rfl⟩
def ac85_0 : List AOper := [
 oO 2 (.mv (.const (.float Go.FloatKind.f64 0)))]
def ac85_1 : List AOper := [
 oM 3 0,
 oO 4 (.pure (oB (.call { callee := .value (.func 75), args := #[(.tmp 3)], argTypes := #[65] }) 96)),
 oO 5 (.bin .andNot 96 (.tmp 4) (.const (.int .u64 9223372036854775808))),
 oO 6 (.pure (oB (.call { callee := .value (.func 94), args := #[(.tmp 5)], argTypes := #[96] }) 65)),
 oM 2 6]
def tr85 : List (Nat × Tidy) := [tF 0 [0], tF 1 [2]]
def tl85 : List (Nat × Tidy) := []
def ac85 : ACode := (.seq (.region ac85_0 [] (some ⟨[0], false, [], []⟩)) (.seq (.region ac85_1 [] (some ⟨[2], false, [], []⟩)) .ret))
def rs85 : List AResV := [.tmp 2]
def ft85 : FnT := ⟨7, tr85, tl85, ac85, rs85⟩
theorem is85 : FnIs Try.prog 85 7 tr85 tl85 ac85 rs85 := ⟨Try.f85, Try.func85, rfl, by kernel_rfl, by kernel_rfl, by kernel_rfl⟩
def ac87_0 : List AOper := [
 oO 2 (.mv (.const (.float Go.FloatKind.f64 0)))]
def ac87_1 : List AOper := [
 oM 5 0,
 oO 6 (.call 85 [(.tmp 5)]),
 oO 7 (.bin .lss 65 (.tmp 6) (.const (.float Go.FloatKind.f64 4607182418800017408)))]
def ac87_2 : List AOper := [
 oM 8 0,
 oO 9 (.call 95 [(.const (.float Go.FloatKind.f64 0)), (.tmp 8)]),
 oM 2 9]
def ac87_3 : List AOper := [
 oM 10 0,
 oO 11 (.pure (oB (.call { callee := .value (.func 75), args := #[(.tmp 10)], argTypes := #[65] }) 96)),
 oM 3 11]
def ac87_4 : List AOper := [
 oM 12 3,
 oO 13 (.bin .shr 96 (.tmp 12) (.const (.int .u64 52))),
 oO 14 (.bin .and 112 (.tmp 13) (.const (.int .u64 2047))),
 oO 15 (.bin .sub 112 (.tmp 14) (.const (.int .u64 1023))),
 oM 4 15]
def ac87_5 : List AOper := [
 oM 16 4,
 oO 17 (.bin .lss 112 (.tmp 16) (.const (.int .u64 52)))]
def ac87_6 : List AOper := [
 oM 18 3,
 oM 19 4,
 oO 20 (.bin .sub 112 (.const (.int .u64 52)) (.tmp 19)),
 oO 21 (.bin .shl 96 (.const (.int .u64 1)) (.tmp 20)),
 oO 22 (.bin .sub 96 (.tmp 21) (.const (.int .u64 1))),
 oO 23 (.bin .andNot 96 (.tmp 18) (.tmp 22)),
 oM 3 23]
def ac87_7 : List AOper := [
 oM 24 3,
 oO 25 (.pure (oB (.call { callee := .value (.func 94), args := #[(.tmp 24)], argTypes := #[96] }) 65)),
 oM 2 25]
def tr87 : List (Nat × Tidy) := [tF 0 [0], tF 1 [0, 7], tF 2 [2], tF 3 [3], tF 4 [3, 4], tF 5 [3, 4, 17], tF 6 [3], tF 7 [2]]
def tl87 : List (Nat × Tidy) := []
def ac87 : ACode := (.seq (.region ac87_0 [] (some ⟨[0], false, [], []⟩)) (.seq (.seq (.region ac87_1 [] (some ⟨[0, 7], false, [], []⟩)) (.cond (.tmp 7) (.seq (.region ac87_2 [] (some ⟨[2], false, [], []⟩)) .ret) .skip)) (.seq (.region ac87_3 [] (some ⟨[3], false, [], []⟩)) (.seq (.region ac87_4 [] (some ⟨[3, 4], false, [], []⟩)) (.seq (.seq (.region ac87_5 [] (some ⟨[3, 4, 17], false, [], []⟩)) (.cond (.tmp 17) (.region ac87_6 [] (some ⟨[3], false, [], []⟩)) .skip)) (.seq (.region ac87_7 [] (some ⟨[2], false, [], []⟩)) .ret))))))
def rs87 : List AResV := [.tmp 2]
def ft87 : FnT := ⟨26, tr87, tl87, ac87, rs87⟩
theorem is87 : FnIs Try.prog 87 26 tr87 tl87 ac87 rs87 := ⟨Try.f87, Try.func87, rfl, by kernel_rfl, by kernel_rfl, by kernel_rfl⟩
def ac88_0 : List AOper := [
 oO 1 (.box (.tmp 0)),
 oO 2 (.alloc [(.d (.v (.int .i64 0))), (.d (.v (.int .i64 0))), (.d (.v (.int .i64 0)))]),
 oO 3 (.mv (kI 0))]
def ac88_1 : List AOper := [
 oO 7 (.faddr 0 (.tmp 1)),
 oO 8 (.load false 1 (.tmp 7)),
 oO 9 (.call 96 [(.tmp 8), (.const (.float Go.FloatKind.f64 4724276009111650304))]),
 oM 6 9,
 oO 10 (.extract 0 (.tmp 6)),
 oO 11 (.extract 1 (.tmp 6)),
 oO 4 (.alloc [(.d (.v (.int .i64 0))), (.d (.v (.int .i64 0)))]),
 oD (.store 2 (.tmp 4) (.tmp 10)),
 oM 5 11]
def ac88_2 : List AOper := [
 oM 12 5,
 oO 13 (.bin .eql 29 (.tmp 12) (kI 0)),
 oM 14 13,
 oG 15 (.faddr 1 (.tmp 1)) 14 true,
 oG 16 (.load false 1 (.tmp 15)) 14 true,
 oG 17 (.call 71 [(.tmp 16), (kI 0), (kI 67108864)]) 14 true,
 oG 18 (.pure (oB (.unOp .not 4 (.tmp 17)) 4)) 14 true,
 oO 19 (.pick (.tmp 14) (.tmp 18) (.const (.bool false)))]
def ac88_3 : List AOper := [
 oO 5 (.mv (kI 2))]
def ac88_4 : List AOper := [
 oO 20 (.load true 2 (.tmp 4)),
 oO 21 (.faddr 1 (.tmp 1)),
 oO 22 (.load false 1 (.tmp 21)),
 oO 23 (.build [(.d (.v (.int .i64 0))), (.d (.v (.int .i64 0))), (.d (.v (.int .i64 0)))] [(0, 2, (.tmp 20)), (2, 1, (.tmp 22))]),
 oM 24 5,
 oD (.store 3 (.tmp 2) (.tmp 23)),
 oM 3 24]
def tr88 : List (Nat × Tidy) := [tF 0 [1, 2], tF 1 [1, 2, 4, 5], tF 2 [1, 2, 4, 5, 19], tF 3 [1, 2, 4, 5], tF 4 [2, 3]]
def tl88 : List (Nat × Tidy) := []
def ac88 : ACode := (.seq (.region ac88_0 [] (some ⟨[1, 2], false, [], []⟩)) (.seq (.region ac88_1 [] (some ⟨[1, 2, 4, 5], false, [], []⟩)) (.seq (.seq (.region ac88_2 [] (some ⟨[1, 2, 4, 5, 19], false, [], []⟩)) (.cond (.tmp 19) (.region ac88_3 [] (some ⟨[1, 2, 4, 5], false, [], []⟩)) .skip)) (.seq (.region ac88_4 [] (some ⟨[2, 3], false, [], []⟩)) .ret))))
def rs88 : List AResV := [.cell 2 true 3, .tmp 3]
def ft88 : FnT := ⟨25, tr88, tl88, ac88, rs88⟩
theorem is88 : FnIs Try.prog 88 25 tr88 tl88 ac88 rs88 := ⟨Try.f88, Try.func88, rfl, by kernel_rfl, by kernel_rfl, by kernel_rfl⟩
def ac89_0 : List AOper := [
 oO 2 (.box (.tmp 0)),
 oO 4 (.alloc [(.d (.v (.complex Go.FloatKind.f64 0 0))), (.d (.v (.int .i64 0)))]),
 oO 5 (.mv (kI 0))]
def ac89_1 : List AOper := [
 oO 9 (.load true 2 (.tmp 2)),
 oO 10 (.call 88 [(.tmp 9)]),
 oM 8 10,
 oO 11 (.extract 0 (.tmp 8)),
 oO 12 (.extract 1 (.tmp 8)),
 oO 6 (.alloc [(.d (.v (.int .i64 0))), (.d (.v (.int .i64 0))), (.d (.v (.int .i64 0)))]),
 oD (.store 3 (.tmp 6) (.tmp 11)),
 oM 7 12]
def ac89_2 : List AOper := [
 oM 13 7,
 oO 14 (.bin .neq 29 (.tmp 13) (kI 0))]
def ac89_3 : List AOper := [
 oO 15 (.build [(.d (.v (.complex Go.FloatKind.f64 0 0))), (.d (.v (.int .i64 0)))] []),
 oM 16 7,
 oD (.store 2 (.tmp 4) (.tmp 15)),
 oM 5 16]
def ac89_4 : List AOper := [
 oM 18 1,
 oO 19 (.load true 3 (.tmp 6)),
 oO 20 (.calld (.tmp 18) [(.tmp 19)]),
 oM 17 20,
 oO 21 (.extract 0 (.tmp 17)),
 oO 22 (.extract 1 (.tmp 17)),
 oD (.store 3 (.tmp 6) (.tmp 21)),
 oM 7 22]
def ac89_5 : List AOper := [
 oM 23 7,
 oO 24 (.bin .neq 29 (.tmp 23) (kI 0))]
def ac89_6 : List AOper := [
 oO 25 (.build [(.d (.v (.complex Go.FloatKind.f64 0 0))), (.d (.v (.int .i64 0)))] []),
 oM 26 7,
 oD (.store 2 (.tmp 4) (.tmp 25)),
 oM 5 26]
def ac89_7 : List AOper := [
 oO 27 (.load true 3 (.tmp 6)),
 oO 28 (.call 84 [(.tmp 27)]),
 oO 29 (.extract 0 (.tmp 28)),
 oO 30 (.extract 1 (.tmp 28)),
 oD (.store 2 (.tmp 4) (.tmp 29)),
 oM 5 30]
def tr89 : List (Nat × Tidy) := [tF 0 [1, 2, 4], tF 1 [1, 4, 6, 7], tF 2 [1, 4, 6, 7, 14], tF 3 [4, 5], tF 4 [4, 6, 7], tF 5 [4, 6, 7, 24], tF 6 [4, 5], tF 7 [4, 5]]
def tl89 : List (Nat × Tidy) := []
def ac89 : ACode := (.seq (.region ac89_0 [] (some ⟨[1, 2, 4], false, [], []⟩)) (.seq (.region ac89_1 [] (some ⟨[1, 4, 6, 7], false, [], []⟩)) (.seq (.seq (.region ac89_2 [] (some ⟨[1, 4, 6, 7, 14], false, [], []⟩)) (.cond (.tmp 14) (.seq (.region ac89_3 [] (some ⟨[4, 5], false, [], []⟩)) .ret) .skip)) (.seq (.seq (.region ac89_4 [] (some ⟨[4, 6, 7], false, [], []⟩)) (.seq (.region ac89_5 [] (some ⟨[4, 6, 7, 24], false, [], []⟩)) (.cond (.tmp 24) (.seq (.region ac89_6 [] (some ⟨[4, 5], false, [], []⟩)) .ret) .skip))) (.seq (.region ac89_7 [] (some ⟨[4, 5], false, [], []⟩)) .ret)))))
def rs89 : List AResV := [.cell 4 true 2, .tmp 5]
def ft89 : FnT := ⟨31, tr89, tl89, ac89, rs89⟩
theorem is89 : FnIs Try.prog 89 31 tr89 tl89 ac89 rs89 := ⟨Try.f89, Try.func89, rfl, by kernel_rfl, by kernel_rfl, by kernel_rfl⟩
def ac90_0 : List AOper := [
 oO 3 (.box (.tmp 0)),
 oO 4 (.alloc [(.d (.v (.int .i64 0))), (.d (.v (.int .i64 0))), (.d (.v (.int .i64 0)))]),
 oO 5 (.mv (kI 0))]
def ac90_1 : List AOper := [
 oO 6 (.load false 1 (.tmp 1)),
 oO 7 (.load true 3 (.tmp 2)),
 oO 8 (.load true 3 (.tmp 3)),
 oO 9 (.calld (.tmp 6) [(.tmp 7), (.tmp 8)]),
 oO 10 (.extract 0 (.tmp 9)),
 oO 11 (.extract 1 (.tmp 9)),
 oD (.store 3 (.tmp 4) (.tmp 10)),
 oM 5 11]
def tr90 : List (Nat × Tidy) := [tF 0 [1, 2, 3, 4], tF 1 [4, 5]]
def tl90 : List (Nat × Tidy) := []
def ac90 : ACode := (.seq (.region ac90_0 [] (some ⟨[1, 2, 3, 4], false, [], []⟩)) (.seq (.region ac90_1 [] (some ⟨[4, 5], false, [], []⟩)) .ret))
def rs90 : List AResV := [.cell 4 true 3, .tmp 5]
def ft90 : FnT := ⟨12, tr90, tl90, ac90, rs90⟩
theorem is90 : FnIs Try.prog 90 12 tr90 tl90 ac90 rs90 := ⟨Try.f90, Try.func90, rfl, by kernel_rfl, by kernel_rfl, by kernel_rfl⟩
def ac91_0 : List AOper := [
 oO 2 (.box (.tmp 0)),
 oO 4 (.alloc [(.d (.v (.int .i64 0))), (.d (.v (.int .i64 0)))])]
def ac91_1 : List AOper := [
 oM 5 1,
 oO 6 (.mv (kI 0))]
def ac91_2 : List AOper := [
 oO 7 (.bin .lss 3 (.tmp 6) (.tmp 5))]
def ac91_3 : List AOper := [
 oO 8 (.faddr 1 (.tmp 2)),
 oO 9 (.load false 1 (.tmp 8)),
 oO 10 (.pure (oB (.unOp .neg 3 (.tmp 9)) 3)),
 oO 11 (.faddr 0 (.tmp 2)),
 oO 12 (.load false 1 (.tmp 11)),
 oO 13 (.build [(.d (.v (.int .i64 0))), (.d (.v (.int .i64 0)))] [(0, 1, (.tmp 10)), (1, 1, (.tmp 12))]),
 oD (.store 2 (.tmp 2) (.tmp 13))]
def ac91_4 : List AOper := [
 oO 14 (.bin .add 3 (.tmp 6) (kI 1)),
 oM 6 14]
def ac91_5 : List AOper := [
 oO 15 (.load true 2 (.tmp 2)),
 oD (.store 2 (.tmp 4) (.tmp 15))]
def tr91 : List (Nat × Tidy) := [tF 0 [1, 2, 4], tF 1 [2, 4, 5, 6], tF 2 [2, 4, 5, 6, 7], tF 3 [2, 4, 5, 6], tF 4 [2, 4, 5, 6], tF 5 [4]]
def tl91 : List (Nat × Tidy) := [(2, ⟨[2, 4, 5, 6], true, [⟨false, 5, 0, 20005, 0⟩, ⟨false, 6, 0, 20006, 0⟩], []⟩)]
def ac91 : ACode := (.seq (.region ac91_0 [] (some ⟨[1, 2, 4], false, [], []⟩)) (.seq (.seq (.region ac91_1 [] (some ⟨[2, 4, 5, 6], false, [], []⟩)) (.block 0 (.loop (some ⟨[2, 4, 5, 6], true, [⟨false, 5, 0, 20005, 0⟩, ⟨false, 6, 0, 20006, 0⟩], []⟩) (.seq (.region ac91_2 [] (some ⟨[2, 4, 5, 6, 7], false, [], []⟩)) (.seq (.cond (.tmp 7) .skip (.exit 0)) (.seq (.block 1 (.region ac91_3 [] (some ⟨[2, 4, 5, 6], false, [], []⟩))) (.region ac91_4 [] (some ⟨[2, 4, 5, 6], false, [], []⟩)))))))) (.seq (.region ac91_5 [] (some ⟨[4], false, [], []⟩)) .ret)))
def rs91 : List AResV := [.cell 4 true 2]
def ft91 : FnT := ⟨16, tr91, tl91, ac91, rs91⟩
theorem is91 : FnIs Try.prog 91 16 tr91 tl91 ac91 rs91 := ⟨Try.f91, Try.func91, rfl, by kernel_rfl, by kernel_rfl, by kernel_rfl⟩
def ac92_0 : List AOper := [
 oO 2 (.alloc [(.d (.v (.int .i64 0))), (.d (.v (.int .i64 0)))])]
def ac92_1 : List AOper := [
 oO 10 (.call 97 [(kI 2251799813685248)]),
 oM 3 10]
def ac92_2 : List AOper := [
 oO 11 (.build [(.d (.v (.int .i64 0))), (.d (.v (.int .i64 0)))] [(0, 1, (kI 67108864))]),
 oM 12 3,
 oM 13 3,
 oO 14 (.build [(.d (.v (.int .i64 0))), (.d (.v (.int .i64 0)))] [(0, 1, (.tmp 12)), (1, 1, (.tmp 13))]),
 oO 4 (.alloc [(.d (.v (.int .i64 0))), (.d (.v (.int .i64 0)))]),
 oO 5 (.alloc [(.d (.v (.int .i64 0))), (.d (.v (.int .i64 0)))]),
 oD (.store 2 (.tmp 4) (.tmp 11)),
 oD (.store 2 (.tmp 5) (.tmp 14))]
def ac92_3 : List AOper := [
 oO 6 (.mv (kI 0)),
 oO 7 (.mv (kI 524288))]
def ac92_4 : List AOper := [
 oM 15 0,
 oM 16 6,
 oO 17 (.bin .neq 3 (.tmp 15) (.tmp 16)),
 oM 18 17,
 oG 19 (.mv (.tmp 0)) 18 true,
 oG 20 (.mv (.tmp 7)) 18 true,
 oG 21 (.bin .neq 3 (.tmp 19) (.tmp 20)) 18 true,
 oO 22 (.pick (.tmp 18) (.tmp 21) (.const (.bool false)))]
def ac92_5 : List AOper := [
 oM 23 6,
 oM 24 7,
 oO 25 (.bin .add 3 (.tmp 23) (.tmp 24)),
 oO 26 (.bin .quo 3 (.tmp 25) (kI 2)),
 oM 8 26]
def ac92_6 : List AOper := [
 oO 27 (.load true 2 (.tmp 4)),
 oO 28 (.load true 2 (.tmp 5)),
 oO 29 (.call 98 [(.tmp 27), (.tmp 28)]),
 oO 9 (.alloc [(.d (.v (.int .i64 0))), (.d (.v (.int .i64 0)))]),
 oD (.store 2 (.tmp 9) (.tmp 29))]
def ac92_7 : List AOper := [
 oM 30 0,
 oM 31 8,
 oO 32 (.bin .geq 3 (.tmp 30) (.tmp 31))]
def ac92_8 : List AOper := [
 oM 33 8,
 oO 34 (.load true 2 (.tmp 9)),
 oM 6 33,
 oD (.store 2 (.tmp 4) (.tmp 34))]
def ac92_9 : List AOper := [
 oM 35 8,
 oO 36 (.load true 2 (.tmp 9)),
 oM 7 35,
 oD (.store 2 (.tmp 5) (.tmp 36))]
def ac92_10 : List AOper := [
 oM 37 0,
 oM 38 6,
 oO 39 (.bin .eql 3 (.tmp 37) (.tmp 38))]
def ac92_11 : List AOper := [
 oO 40 (.load true 2 (.tmp 4)),
 oD (.store 2 (.tmp 2) (.tmp 40))]
def ac92_12 : List AOper := [
 oO 41 (.load true 2 (.tmp 5)),
 oD (.store 2 (.tmp 2) (.tmp 41))]
def tr92 : List (Nat × Tidy) := [tF 0 [0, 2], tF 1 [0, 2, 3], tF 2 [0, 2, 4, 5], tF 3 [0, 2, 4, 5, 6, 7], tF 4 [0, 2, 4, 5, 6, 7, 22], tF 5 [0, 2, 4, 5, 6, 7, 8], tF 6 [0, 2, 4, 5, 6, 7, 8, 9], tF 7 [0, 2, 4, 5, 6, 7, 8, 9, 32], tF 8 [0, 2, 4, 5, 6, 7], tF 9 [0, 2, 4, 5, 6, 7], tF 10 [2, 4, 5, 39], tF 11 [2], tF 12 [2]]
def tl92 : List (Nat × Tidy) := [(4, ⟨[0, 2, 4, 5, 6, 7], true, [⟨false, 6, 0, 20006, 0⟩, ⟨false, 7, 0, 20007, 0⟩], []⟩)]
def ac92 : ACode := (.seq (.region ac92_0 [] (some ⟨[0, 2], false, [], []⟩)) (.seq (.region ac92_1 [] (some ⟨[0, 2, 3], false, [], []⟩)) (.seq (.region ac92_2 [] (some ⟨[0, 2, 4, 5], false, [], []⟩)) (.seq (.region ac92_3 [] (some ⟨[0, 2, 4, 5, 6, 7], false, [], []⟩)) (.seq (.block 0 (.loop (some ⟨[0, 2, 4, 5, 6, 7], true, [⟨false, 6, 0, 20006, 0⟩, ⟨false, 7, 0, 20007, 0⟩], []⟩) (.seq (.seq (.region ac92_4 [] (some ⟨[0, 2, 4, 5, 6, 7, 22], false, [], []⟩)) (.cond (.tmp 22) .skip (.exit 0))) (.block 1 (.seq (.region ac92_5 [] (some ⟨[0, 2, 4, 5, 6, 7, 8], false, [], []⟩)) (.seq (.region ac92_6 [] (some ⟨[0, 2, 4, 5, 6, 7, 8, 9], false, [], []⟩)) (.seq (.region ac92_7 [] (some ⟨[0, 2, 4, 5, 6, 7, 8, 9, 32], false, [], []⟩)) (.cond (.tmp 32) (.region ac92_8 [] (some ⟨[0, 2, 4, 5, 6, 7], false, [], []⟩)) (.region ac92_9 [] (some ⟨[0, 2, 4, 5, 6, 7], false, [], []⟩)))))))))) (.seq (.seq (.region ac92_10 [] (some ⟨[2, 4, 5, 39], false, [], []⟩)) (.cond (.tmp 39) (.seq (.region ac92_11 [] (some ⟨[2], false, [], []⟩)) .ret) .skip)) (.seq (.region ac92_12 [] (some ⟨[2], false, [], []⟩)) .ret)))))))
def rs92 : List AResV := [.cell 2 true 2]
def ft92 : FnT := ⟨42, tr92, tl92, ac92, rs92⟩
theorem is92 : FnIs Try.prog 92 42 tr92 tl92 ac92 rs92 := ⟨Try.f92, Try.func92, rfl, by kernel_rfl, by kernel_rfl, by kernel_rfl⟩
def ac93_0 : List AOper := [
 oO 1 (.box (.tmp 0)),
 oO 2 (.mv (.const (.complex Go.FloatKind.f64 0 0)))]
def ac93_1 : List AOper := [
 oO 3 (.faddr 0 (.tmp 1)),
 oO 4 (.load false 1 (.tmp 3)),
 oO 5 (.pure (oB (.convert 3 65 (.tmp 4)) 65)),
 oO 6 (.faddr 1 (.tmp 1)),
 oO 7 (.load false 1 (.tmp 6)),
 oO 8 (.pure (oB (.convert 3 65 (.tmp 7)) 65)),
 oO 9 (.pure (oB (.call { callee := .builtin .complex, args := #[(.tmp 5), (.tmp 8)], argTypes := #[65, 65] }) 55)),
 oM 2 9]
def tr93 : List (Nat × Tidy) := [tF 0 [1], tF 1 [2]]
def tl93 : List (Nat × Tidy) := []
def ac93 : ACode := (.seq (.region ac93_0 [] (some ⟨[1], false, [], []⟩)) (.seq (.region ac93_1 [] (some ⟨[2], false, [], []⟩)) .ret))
def rs93 : List AResV := [.tmp 2]
def ft93 : FnT := ⟨10, tr93, tl93, ac93, rs93⟩
theorem is93 : FnIs Try.prog 93 10 tr93 tl93 ac93 rs93 := ⟨Try.f93, Try.func93, rfl, by kernel_rfl, by kernel_rfl, by kernel_rfl⟩
def ac95_0 : List AOper := [
 oO 4 (.mv (.const (.float Go.FloatKind.f64 0)))]
def ac95_1 : List AOper := [
 oM 5 0,
 oO 6 (.pure (oB (.call { callee := .value (.func 75), args := #[(.tmp 5)], argTypes := #[65] }) 96)),
 oO 7 (.bin .andNot 96 (.tmp 6) (.const (.int .u64 9223372036854775808))),
 oM 8 1,
 oO 9 (.pure (oB (.call { callee := .value (.func 75), args := #[(.tmp 8)], argTypes := #[65] }) 96)),
 oO 10 (.bin .and 96 (.tmp 9) (.const (.int .u64 9223372036854775808))),
 oO 11 (.bin .or 96 (.tmp 7) (.tmp 10)),
 oO 12 (.pure (oB (.call { callee := .value (.func 94), args := #[(.tmp 11)], argTypes := #[96] }) 65)),
 oM 4 12]
def tr95 : List (Nat × Tidy) := [tF 0 [0, 1], tF 1 [4]]
def tl95 : List (Nat × Tidy) := []
def ac95 : ACode := (.seq (.region ac95_0 [] (some ⟨[0, 1], false, [], []⟩)) (.seq (.region ac95_1 [] (some ⟨[4], false, [], []⟩)) .ret))
def rs95 : List AResV := [.tmp 4]
def ft95 : FnT := ⟨13, tr95, tl95, ac95, rs95⟩
theorem is95 : FnIs Try.prog 95 13 tr95 tl95 ac95 rs95 := ⟨Try.f95, Try.func95, rfl, by kernel_rfl, by kernel_rfl, by kernel_rfl⟩
def ac96_0 : List AOper := [
 oO 4 (.alloc [(.d (.v (.int .i64 0))), (.d (.v (.int .i64 0)))]),
 oO 5 (.mv (kI 0))]
def ac96_1 : List AOper := [
 oM 11 0,
 oO 12 (.pure (oB (.call { callee := .builtin .real, args := #[(.tmp 11)], argTypes := #[55] }) 65)),
 oM 13 0,
 oO 14 (.pure (oB (.call { callee := .builtin .imag, args := #[(.tmp 13)], argTypes := #[55] }) 65)),
 oO 15 (.build [(.d (.v (.float Go.FloatKind.f64 0))), (.d (.v (.float Go.FloatKind.f64 0)))] [(0, 1, (.tmp 12)), (1, 1, (.tmp 14))]),
 oO 6 (.alloc [(.d (.v (.float Go.FloatKind.f64 0))), (.d (.v (.float Go.FloatKind.f64 0)))]),
 oD (.store 2 (.tmp 6) (.tmp 15))]
def ac96_2 : List AOper := [
 oO 16 (.load true 2 (.tmp 6)),
 oO 17 (.mv (kI 0))]
def ac96_3 : List AOper := [
 oO 18 (.bin .lss 3 (.tmp 17) (kI 2))]
def ac96_4 : List AOper := [
 oO 19 (.index false 2 1 (.tmp 16) (.tmp 17)),
 oM 8 19]
def ac96_5 : List AOper := [
 oM 20 8,
 oO 21 (.call 99 [(.tmp 20)]),
 oO 22 (.pure (oB (.unOp .not 4 (.tmp 21)) 4))]
def ac96_6 : List AOper := [
 oO 23 (.build [(.d (.v (.int .i64 0))), (.d (.v (.int .i64 0)))] []),
 oD (.store 2 (.tmp 4) (.tmp 23)),
 oO 5 (.mv (kI 27))]
def ac96_7 : List AOper := [
 oO 24 (.bin .add 3 (.tmp 17) (kI 1)),
 oM 17 24]
def ac96_8 : List AOper := [
 oO 25 (.load true 2 (.tmp 6)),
 oO 26 (.mv (kI 0))]
def ac96_9 : List AOper := [
 oO 27 (.bin .lss 3 (.tmp 26) (kI 2))]
def ac96_10 : List AOper := [
 oO 28 (.index false 2 1 (.tmp 25) (.tmp 26)),
 oM 10 28]
def ac96_11 : List AOper := [
 oM 29 10,
 oO 30 (.call 85 [(.tmp 29)]),
 oM 31 1,
 oO 32 (.bin .gtr 65 (.tmp 30) (.tmp 31))]
def ac96_12 : List AOper := [
 oO 33 (.build [(.d (.v (.int .i64 0))), (.d (.v (.int .i64 0)))] []),
 oD (.store 2 (.tmp 4) (.tmp 33)),
 oO 5 (.mv (kI 2))]
def ac96_13 : List AOper := [
 oO 34 (.bin .add 3 (.tmp 26) (kI 1)),
 oM 26 34]
def ac96_14 : List AOper := [
 oM 35 0,
 oO 36 (.call 100 [(.tmp 35)]),
 oD (.store 2 (.tmp 4) (.tmp 36)),
 oO 5 (.mv (kI 0))]
def tr96 : List (Nat × Tidy) := [tF 0 [0, 1, 4], tF 1 [0, 1, 4, 6], tF 2 [0, 1, 4, 6, 16, 17], tF 3 [0, 1, 4, 6, 16, 17, 18], tF 4 [0, 1, 4, 6, 8, 16, 17], tF 5 [0, 1, 4, 6, 16, 17, 22], tF 6 [4, 5], tF 7 [0, 1, 4, 6, 16, 17], tF 8 [0, 1, 4, 25, 26], tF 9 [0, 1, 4, 25, 26, 27], tF 10 [0, 1, 4, 10, 25, 26], tF 11 [0, 1, 4, 25, 26, 32], tF 12 [4, 5], tF 13 [0, 1, 4, 25, 26], tF 14 [4, 5]]
def tl96 : List (Nat × Tidy) := [(3, ⟨[0, 1, 4, 6, 16, 17], true, [⟨false, 17, 0, 20017, 0⟩], []⟩), (9, ⟨[0, 1, 4, 25, 26], true, [⟨false, 26, 0, 20026, 0⟩], []⟩)]
def ac96 : ACode := (.seq (.region ac96_0 [] (some ⟨[0, 1, 4], false, [], []⟩)) (.seq (.region ac96_1 [] (some ⟨[0, 1, 4, 6], false, [], []⟩)) (.seq (.seq (.region ac96_2 [] (some ⟨[0, 1, 4, 6, 16, 17], false, [], []⟩)) (.block 0 (.loop (some ⟨[0, 1, 4, 6, 16, 17], true, [⟨false, 17, 0, 20017, 0⟩], []⟩) (.seq (.region ac96_3 [] (some ⟨[0, 1, 4, 6, 16, 17, 18], false, [], []⟩)) (.seq (.cond (.tmp 18) .skip (.exit 0)) (.seq (.block 1 (.seq (.region ac96_4 [] (some ⟨[0, 1, 4, 6, 8, 16, 17], false, [], []⟩)) (.seq (.region ac96_5 [] (some ⟨[0, 1, 4, 6, 16, 17, 22], false, [], []⟩)) (.cond (.tmp 22) (.seq (.region ac96_6 [] (some ⟨[4, 5], false, [], []⟩)) .ret) .skip)))) (.region ac96_7 [] (some ⟨[0, 1, 4, 6, 16, 17], false, [], []⟩)))))))) (.seq (.seq (.region ac96_8 [] (some ⟨[0, 1, 4, 25, 26], false, [], []⟩)) (.block 2 (.loop (some ⟨[0, 1, 4, 25, 26], true, [⟨false, 26, 0, 20026, 0⟩], []⟩) (.seq (.region ac96_9 [] (some ⟨[0, 1, 4, 25, 26, 27], false, [], []⟩)) (.seq (.cond (.tmp 27) .skip (.exit 2)) (.seq (.block 3 (.seq (.region ac96_10 [] (some ⟨[0, 1, 4, 10, 25, 26], false, [], []⟩)) (.seq (.region ac96_11 [] (some ⟨[0, 1, 4, 25, 26, 32], false, [], []⟩)) (.cond (.tmp 32) (.seq (.region ac96_12 [] (some ⟨[4, 5], false, [], []⟩)) .ret) .skip)))) (.region ac96_13 [] (some ⟨[0, 1, 4, 25, 26], false, [], []⟩)))))))) (.seq (.region ac96_14 [] (some ⟨[4, 5], false, [], []⟩)) .ret)))))
def rs96 : List AResV := [.cell 4 true 2, .tmp 5]
def ft96 : FnT := ⟨37, tr96, tl96, ac96, rs96⟩
theorem is96 : FnIs Try.prog 96 37 tr96 tl96 ac96 rs96 := ⟨Try.f96, Try.func96, rfl, by kernel_rfl, by kernel_rfl, by kernel_rfl⟩
def ac97_0 : List AOper := [
 oO 2 (.mv (kI 0))]
def ac97_1 : List AOper := [
 oM 4 0,
 oO 5 (.pure (oB (.convert 3 65 (.tmp 4)) 65)),
 oO 6 (.call 101 [(.tmp 5)]),
 oO 7 (.pure (oB (.convert 65 3 (.tmp 6)) 3)),
 oM 3 7]
def ac97_2 : List AOper := [
 oM 8 3,
 oM 9 3,
 oO 10 (.bin .mul 3 (.tmp 8) (.tmp 9)),
 oM 11 0,
 oO 12 (.bin .gtr 3 (.tmp 10) (.tmp 11))]
def ac97_3 : List AOper := [
 oM 13 3,
 oO 14 (.bin .sub 3 (.tmp 13) (kI 1)),
 oM 3 14]
def ac97_4 : List AOper := [
 oM 15 3,
 oO 16 (.bin .add 3 (.tmp 15) (kI 1)),
 oM 17 3,
 oO 18 (.bin .add 3 (.tmp 17) (kI 1)),
 oO 19 (.bin .mul 3 (.tmp 16) (.tmp 18)),
 oM 20 0,
 oO 21 (.bin .leq 3 (.tmp 19) (.tmp 20))]
def ac97_5 : List AOper := [
 oM 22 3,
 oO 23 (.bin .add 3 (.tmp 22) (kI 1)),
 oM 3 23]
def ac97_6 : List AOper := [
 oM 24 3,
 oM 2 24]
def tr97 : List (Nat × Tidy) := [tF 0 [0], tF 1 [0, 3], tF 2 [0, 3, 12], tF 3 [0, 3], tF 4 [0, 3, 21], tF 5 [0, 3], tF 6 [2]]
def tl97 : List (Nat × Tidy) := [(2, ⟨[0, 3], true, [⟨false, 3, 0, 20003, 0⟩], []⟩), (4, ⟨[0, 3], true, [⟨false, 3, 0, 20003, 0⟩], []⟩)]
def ac97 : ACode := (.seq (.region ac97_0 [] (some ⟨[0], false, [], []⟩)) (.seq (.region ac97_1 [] (some ⟨[0, 3], false, [], []⟩)) (.seq (.block 0 (.loop (some ⟨[0, 3], true, [⟨false, 3, 0, 20003, 0⟩], []⟩) (.seq (.seq (.region ac97_2 [] (some ⟨[0, 3, 12], false, [], []⟩)) (.cond (.tmp 12) .skip (.exit 0))) (.block 1 (.region ac97_3 [] (some ⟨[0, 3], false, [], []⟩)))))) (.seq (.block 2 (.loop (some ⟨[0, 3], true, [⟨false, 3, 0, 20003, 0⟩], []⟩) (.seq (.seq (.region ac97_4 [] (some ⟨[0, 3, 21], false, [], []⟩)) (.cond (.tmp 21) .skip (.exit 2))) (.block 3 (.region ac97_5 [] (some ⟨[0, 3], false, [], []⟩)))))) (.seq (.region ac97_6 [] (some ⟨[2], false, [], []⟩)) .ret)))))
def rs97 : List AResV := [.tmp 2]
def ft97 : FnT := ⟨25, tr97, tl97, ac97, rs97⟩
theorem is97 : FnIs Try.prog 97 25 tr97 tl97 ac97 rs97 := ⟨Try.f97, Try.func97, rfl, by kernel_rfl, by kernel_rfl, by kernel_rfl⟩
def ac98_0 : List AOper := [
 oO 2 (.box (.tmp 0)),
 oO 3 (.box (.tmp 1)),
 oO 4 (.alloc [(.d (.v (.int .i64 0))), (.d (.v (.int .i64 0)))])]
def ac98_1 : List AOper := [
 oO 7 (.load true 2 (.tmp 2)),
 oO 8 (.load true 2 (.tmp 3)),
 oO 9 (.call 81 [(.tmp 7), (.tmp 8)]),
 oO 5 (.alloc [(.d (.v (.int .i64 0))), (.d (.v (.int .i64 0)))]),
 oD (.store 2 (.tmp 5) (.tmp 9))]
def ac98_2 : List AOper := [
 oO 10 (.load true 2 (.tmp 5)),
 oO 11 (.call 102 [(.tmp 10)]),
 oO 12 (.call 97 [(.tmp 11)]),
 oM 6 12]
def ac98_3 : List AOper := [
 oO 13 (.faddr 0 (.tmp 5)),
 oO 14 (.load false 1 (.tmp 13)),
 oO 15 (.bin .mul 3 (.tmp 14) (kI 67108864)),
 oM 16 6,
 oO 17 (.bin .quo 3 (.tmp 15) (.tmp 16)),
 oO 18 (.faddr 1 (.tmp 5)),
 oO 19 (.load false 1 (.tmp 18)),
 oO 20 (.bin .mul 3 (.tmp 19) (kI 67108864)),
 oM 21 6,
 oO 22 (.bin .quo 3 (.tmp 20) (.tmp 21)),
 oO 23 (.build [(.d (.v (.int .i64 0))), (.d (.v (.int .i64 0)))] [(0, 1, (.tmp 17)), (1, 1, (.tmp 22))]),
 oD (.store 2 (.tmp 4) (.tmp 23))]
def tr98 : List (Nat × Tidy) := [tF 0 [2, 3, 4], tF 1 [4, 5], tF 2 [4, 5, 6], tF 3 [4]]
def tl98 : List (Nat × Tidy) := []
def ac98 : ACode := (.seq (.region ac98_0 [] (some ⟨[2, 3, 4], false, [], []⟩)) (.seq (.region ac98_1 [] (some ⟨[4, 5], false, [], []⟩)) (.seq (.region ac98_2 [] (some ⟨[4, 5, 6], false, [], []⟩)) (.seq (.region ac98_3 [] (some ⟨[4], false, [], []⟩)) .ret))))
def rs98 : List AResV := [.cell 4 true 2]
def ft98 : FnT := ⟨24, tr98, tl98, ac98, rs98⟩
theorem is98 : FnIs Try.prog 98 24 tr98 tl98 ac98 rs98 := ⟨Try.f98, Try.func98, rfl, by kernel_rfl, by kernel_rfl, by kernel_rfl⟩
def ac99_0 : List AOper := [
 oO 2 (.mv (.const (.bool false)))]
def ac99_1 : List AOper := [
 oM 3 0,
 oO 4 (.call 78 [(.tmp 3)]),
 oM 5 0,
 oO 6 (.bin .eql 65 (.tmp 4) (.tmp 5)),
 oM 7 6,
 oG 8 (.mv (.tmp 0)) 7 true,
 oG 9 (.call 77 [(.tmp 8), (kI 0)]) 7 true,
 oG 10 (.pure (oB (.unOp .not 4 (.tmp 9)) 4)) 7 true,
 oO 11 (.pick (.tmp 7) (.tmp 10) (.const (.bool false))),
 oM 2 11]
def tr99 : List (Nat × Tidy) := [tF 0 [0], tF 1 [2]]
def tl99 : List (Nat × Tidy) := []
def ac99 : ACode := (.seq (.region ac99_0 [] (some ⟨[0], false, [], []⟩)) (.seq (.region ac99_1 [] (some ⟨[2], false, [], []⟩)) .ret))
def rs99 : List AResV := [.tmp 2]
def ft99 : FnT := ⟨12, tr99, tl99, ac99, rs99⟩
theorem is99 : FnIs Try.prog 99 12 tr99 tl99 ac99 rs99 := ⟨Try.f99, Try.func99, rfl, by kernel_rfl, by kernel_rfl, by kernel_rfl⟩
def ac100_0 : List AOper := [
 oO 2 (.alloc [(.d (.v (.int .i64 0))), (.d (.v (.int .i64 0)))])]
def ac100_1 : List AOper := [
 oM 3 0,
 oO 4 (.pure (oB (.call { callee := .builtin .real, args := #[(.tmp 3)], argTypes := #[55] }) 65)),
 oO 5 (.pure (oB (.convert 65 3 (.tmp 4)) 3)),
 oM 6 0,
 oO 7 (.pure (oB (.call { callee := .builtin .imag, args := #[(.tmp 6)], argTypes := #[55] }) 65)),
 oO 8 (.pure (oB (.convert 65 3 (.tmp 7)) 3)),
 oO 9 (.build [(.d (.v (.int .i64 0))), (.d (.v (.int .i64 0)))] [(0, 1, (.tmp 5)), (1, 1, (.tmp 8))]),
 oD (.store 2 (.tmp 2) (.tmp 9))]
def tr100 : List (Nat × Tidy) := [tF 0 [0, 2], tF 1 [2]]
def tl100 : List (Nat × Tidy) := []
def ac100 : ACode := (.seq (.region ac100_0 [] (some ⟨[0, 2], false, [], []⟩)) (.seq (.region ac100_1 [] (some ⟨[2], false, [], []⟩)) .ret))
def rs100 : List AResV := [.cell 2 true 2]
def ft100 : FnT := ⟨10, tr100, tl100, ac100, rs100⟩
theorem is100 : FnIs Try.prog 100 10 tr100 tl100 ac100 rs100 := ⟨Try.f100, Try.func100, rfl, by kernel_rfl, by kernel_rfl, by kernel_rfl⟩
def ac101_0 : List AOper := [
 oO 2 (.mv (.const (.float Go.FloatKind.f64 0)))]
def ac101_1 : List AOper := [
 oM 3 0,
 oO 4 (.pure (oB (.call { callee := .value (.func 103), args := #[(.tmp 3)], argTypes := #[65] }) 65)),
 oM 2 4]
def tr101 : List (Nat × Tidy) := [tF 0 [0], tF 1 [2]]
def tl101 : List (Nat × Tidy) := []
def ac101 : ACode := (.seq (.region ac101_0 [] (some ⟨[0], false, [], []⟩)) (.seq (.region ac101_1 [] (some ⟨[2], false, [], []⟩)) .ret))
def rs101 : List AResV := [.tmp 2]
def ft101 : FnT := ⟨5, tr101, tl101, ac101, rs101⟩
theorem is101 : FnIs Try.prog 101 5 tr101 tl101 ac101 rs101 := ⟨Try.f101, Try.func101, rfl, by kernel_rfl, by kernel_rfl, by kernel_rfl⟩
def ac102_0 : List AOper := [
 oO 1 (.box (.tmp 0)),
 oO 2 (.mv (kI 0))]
def ac102_1 : List AOper := [
 oO 3 (.faddr 0 (.tmp 1)),
 oO 4 (.load false 1 (.tmp 3)),
 oO 5 (.faddr 0 (.tmp 1)),
 oO 6 (.load false 1 (.tmp 5)),
 oO 7 (.bin .mul 3 (.tmp 4) (.tmp 6)),
 oO 8 (.faddr 1 (.tmp 1)),
 oO 9 (.load false 1 (.tmp 8)),
 oO 10 (.faddr 1 (.tmp 1)),
 oO 11 (.load false 1 (.tmp 10)),
 oO 12 (.bin .mul 3 (.tmp 9) (.tmp 11)),
 oO 13 (.bin .add 3 (.tmp 7) (.tmp 12)),
 oM 2 13]
def tr102 : List (Nat × Tidy) := [tF 0 [1], tF 1 [2]]
def tl102 : List (Nat × Tidy) := []
def ac102 : ACode := (.seq (.region ac102_0 [] (some ⟨[1], false, [], []⟩)) (.seq (.region ac102_1 [] (some ⟨[2], false, [], []⟩)) .ret))
def rs102 : List AResV := [.tmp 2]
def ft102 : FnT := ⟨14, tr102, tl102, ac102, rs102⟩
theorem is102 : FnIs Try.prog 102 14 tr102 tl102 ac102 rs102 := ⟨Try.f102, Try.func102, rfl, by kernel_rfl, by kernel_rfl, by kernel_rfl⟩
def ac119_0 : List AOper := [
 oO 2 (.box (.tmp 0)),
 oO 4 (.alloc [(.d (.v (.int .i64 0))), (.d (.v (.int .i64 0))), (.d (.v (.int .i64 0))), (.d (.v (.int .i64 0)))])]
def ac119_1 : List AOper := [
 oO 11 (.load true 7 (.tmp 2)),
 oM 12 1,
 oO 13 (.call 123 [(.tmp 11), (.tmp 12)]),
 oM 5 13]
def ac119_2 : List AOper := [
 oO 14 (.load true 7 (.tmp 2)),
 oM 15 5,
 oO 16 (.call 124 [(.tmp 14), (.tmp 15)]),
 oO 6 (.alloc [(.d (.v (.int .i64 0))), (.d (.v (.int .i64 0)))]),
 oD (.store 2 (.tmp 6) (.tmp 16))]
def ac119_3 : List AOper := [
 oO 17 (.faddr 0 (.tmp 2)),
 oO 18 (.faddr 2 (.tmp 17)),
 oO 19 (.load false 1 (.tmp 18)),
 oO 20 (.len (.tmp 19)),
 oO 21 (.bin .eql 3 (.tmp 20) (kI 1))]
def ac119_4 : List AOper := [
 oO 22 (.iaddr 1 (some 2) (.tmp 6) (kI 0)),
 oO 23 (.load false 1 (.tmp 22)),
 oO 24 (.build [(.d (.v (.int .i64 0))), (.d (.v (.int .i64 0)))] [(0, 1, (.tmp 23)), (1, 1, (kI 1))]),
 oO 25 (.iaddr 1 (some 2) (.tmp 6) (kI 1)),
 oO 26 (.load false 1 (.tmp 25)),
 oO 27 (.build [(.d (.v (.int .i64 0))), (.d (.v (.int .i64 0)))] [(0, 1, (.tmp 26)), (1, 1, (kI 1))]),
 oO 28 (.build [(.d (.v (.int .i64 0))), (.d (.v (.int .i64 0))), (.d (.v (.int .i64 0))), (.d (.v (.int .i64 0)))] [(0, 2, (.tmp 24)), (2, 2, (.tmp 27))]),
 oD (.store 4 (.tmp 4) (.tmp 28))]
def ac119_5 : List AOper := [
 oO 29 (.load true 7 (.tmp 2)),
 oM 30 5,
 oO 31 (.bin .add 3 (.tmp 30) (kI 1)),
 oO 32 (.call 124 [(.tmp 29), (.tmp 31)]),
 oO 33 (.faddr 0 (.tmp 2)),
 oO 34 (.faddr 2 (.tmp 33)),
 oO 35 (.load false 1 (.tmp 34)),
 oM 36 5,
 oO 37 (.bin .add 3 (.tmp 36) (kI 1)),
 oO 38 (.iaddr 1 none (.tmp 35) (.tmp 37)),
 oO 39 (.load false 1 (.tmp 38)),
 oO 40 (.faddr 0 (.tmp 2)),
 oO 41 (.faddr 2 (.tmp 40)),
 oO 42 (.load false 1 (.tmp 41)),
 oM 43 5,
 oO 44 (.iaddr 1 none (.tmp 42) (.tmp 43)),
 oO 45 (.load false 1 (.tmp 44)),
 oO 46 (.bin .sub 3 (.tmp 39) (.tmp 45)),
 oO 7 (.alloc [(.d (.v (.int .i64 0))), (.d (.v (.int .i64 0)))]),
 oD (.store 2 (.tmp 7) (.tmp 32)),
 oM 8 46]
def ac119_6 : List AOper := [
 oO 9 (.alloc [(.d (.v (.int .i64 0))), (.d (.v (.int .i64 0))), (.d (.v (.int .i64 0))), (.d (.v (.int .i64 0)))])]
def ac119_7 : List AOper := [
 oO 47 (.mv (kI 0))]
def ac119_8 : List AOper := [
 oO 48 (.bin .lss 3 (.tmp 47) (kI 2))]
def ac119_9 : List AOper := [
 oM 49 47,
 oM 10 49]
def ac119_10 : List AOper := [
 oM 50 10,
 oM 51 10,
 oO 52 (.iaddr 1 (some 2) (.tmp 6) (.tmp 51)),
 oO 53 (.load false 1 (.tmp 52)),
 oM 54 8,
 oO 55 (.bin .mul 3 (.tmp 53) (.tmp 54)),
 oM 56 10,
 oO 57 (.iaddr 1 (some 2) (.tmp 7) (.tmp 56)),
 oO 58 (.load false 1 (.tmp 57)),
 oM 59 10,
 oO 60 (.iaddr 1 (some 2) (.tmp 6) (.tmp 59)),
 oO 61 (.load false 1 (.tmp 60)),
 oO 62 (.bin .sub 3 (.tmp 58) (.tmp 61)),
 oM 63 1,
 oO 64 (.faddr 0 (.tmp 2)),
 oO 65 (.faddr 2 (.tmp 64)),
 oO 66 (.load false 1 (.tmp 65)),
 oM 67 5,
 oO 68 (.iaddr 1 none (.tmp 66) (.tmp 67)),
 oO 69 (.load false 1 (.tmp 68)),
 oO 70 (.bin .sub 3 (.tmp 63) (.tmp 69)),
 oO 71 (.bin .mul 3 (.tmp 62) (.tmp 70)),
 oO 72 (.bin .add 3 (.tmp 55) (.tmp 71)),
 oM 73 8,
 oO 74 (.build [(.d (.v (.int .i64 0))), (.d (.v (.int .i64 0)))] [(0, 1, (.tmp 72)), (1, 1, (.tmp 73))]),
 oO 75 (.iaddr 2 (some 2) (.tmp 9) (.tmp 50)),
 oD (.store 2 (.tmp 75) (.tmp 74))]
def ac119_11 : List AOper := [
 oO 76 (.bin .add 3 (.tmp 47) (kI 1)),
 oM 47 76]
def ac119_12 : List AOper := [
 oO 77 (.load true 4 (.tmp 9)),
 oD (.store 4 (.tmp 4) (.tmp 77))]
def tr119 : List (Nat × Tidy) := [tF 0 [1, 2, 4], tF 1 [1, 2, 4, 5], tF 2 [1, 2, 4, 5, 6], tF 3 [1, 2, 4, 5, 6, 21], tF 4 [4], tF 5 [1, 2, 4, 5, 6, 7, 8], tF 6 [1, 2, 4, 5, 6, 7, 8, 9], tF 7 [1, 2, 4, 5, 6, 7, 8, 9, 47], tF 8 [1, 2, 4, 5, 6, 7, 8, 9, 47, 48], tF 9 [1, 2, 4, 5, 6, 7, 8, 9, 10, 47], tF 10 [1, 2, 4, 5, 6, 7, 8, 9, 47], tF 11 [1, 2, 4, 5, 6, 7, 8, 9, 47], tF 12 [4]]
def tl119 : List (Nat × Tidy) := [(8, ⟨[1, 2, 4, 5, 6, 7, 8, 9, 47], true, [⟨false, 5, 0, 20005, 0⟩, ⟨false, 8, 0, 20008, 0⟩, ⟨false, 47, 0, 20047, 0⟩], []⟩)]
def ac119 : ACode := (.seq (.region ac119_0 [] (some ⟨[1, 2, 4], false, [], []⟩)) (.seq (.region ac119_1 [] (some ⟨[1, 2, 4, 5], false, [], []⟩)) (.seq (.region ac119_2 [] (some ⟨[1, 2, 4, 5, 6], false, [], []⟩)) (.seq (.seq (.region ac119_3 [] (some ⟨[1, 2, 4, 5, 6, 21], false, [], []⟩)) (.cond (.tmp 21) (.seq (.region ac119_4 [] (some ⟨[4], false, [], []⟩)) .ret) .skip)) (.seq (.region ac119_5 [(3, 6), (3, 9), (3, 10), (3, 13), (3, 15), (3, 16), (0, 18), (3, 18), (6, 18), (9, 18), (10, 18), (13, 18), (15, 18), (16, 18), (6, 19), (9, 19), (10, 19), (13, 19), (15, 19), (16, 19)] (some ⟨[1, 2, 4, 5, 6, 7, 8], false, [], []⟩)) (.seq (.region ac119_6 [] (some ⟨[1, 2, 4, 5, 6, 7, 8, 9], false, [], []⟩)) (.seq (.seq (.region ac119_7 [] (some ⟨[1, 2, 4, 5, 6, 7, 8, 9, 47], false, [], []⟩)) (.block 0 (.loop (some ⟨[1, 2, 4, 5, 6, 7, 8, 9, 47], true, [⟨false, 5, 0, 20005, 0⟩, ⟨false, 8, 0, 20008, 0⟩, ⟨false, 47, 0, 20047, 0⟩], []⟩) (.seq (.region ac119_8 [] (some ⟨[1, 2, 4, 5, 6, 7, 8, 9, 47, 48], false, [], []⟩)) (.seq (.cond (.tmp 48) .skip (.exit 0)) (.seq (.block 1 (.seq (.region ac119_9 [] (some ⟨[1, 2, 4, 5, 6, 7, 8, 9, 10, 47], false, [], []⟩)) (.region ac119_10 [] (some ⟨[1, 2, 4, 5, 6, 7, 8, 9, 47], false, [], []⟩)))) (.region ac119_11 [] (some ⟨[1, 2, 4, 5, 6, 7, 8, 9, 47], false, [], []⟩)))))))) (.seq (.region ac119_12 [] (some ⟨[4], false, [], []⟩)) .ret))))))))
def rs119 : List AResV := [.cell 4 true 4]
def ft119 : FnT := ⟨78, tr119, tl119, ac119, rs119⟩
theorem is119 : FnIs Try.prog 119 78 tr119 tl119 ac119 rs119 := ⟨Try.f119, Try.func119, rfl, by kernel_rfl, by kernel_rfl, by kernel_rfl⟩
def ac121_0 : List AOper := [
 oO 2 (.box (.tmp 0)),
 oO 4 (.mv (.const (.bool false)))]
def ac121_1 : List AOper := [
 oM 5 1,
 oO 6 (.faddr 0 (.tmp 2)),
 oO 7 (.faddr 2 (.tmp 6)),
 oO 8 (.load false 1 (.tmp 7)),
 oO 9 (.iaddr 1 none (.tmp 8) (kI 0)),
 oO 10 (.load false 1 (.tmp 9)),
 oO 11 (.faddr 0 (.tmp 2)),
 oO 12 (.faddr 2 (.tmp 11)),
 oO 13 (.load false 1 (.tmp 12)),
 oO 14 (.faddr 0 (.tmp 2)),
 oO 15 (.faddr 2 (.tmp 14)),
 oO 16 (.load false 1 (.tmp 15)),
 oO 17 (.len (.tmp 16)),
 oO 18 (.bin .sub 3 (.tmp 17) (kI 1)),
 oO 19 (.iaddr 1 none (.tmp 13) (.tmp 18)),
 oO 20 (.load false 1 (.tmp 19)),
 oO 21 (.call 34 [(.tmp 5), (.tmp 10), (.tmp 20)]),
 oM 4 21]
def tr121 : List (Nat × Tidy) := [tF 0 [1, 2], tF 1 [4]]
def tl121 : List (Nat × Tidy) := []
def ac121 : ACode := (.seq (.region ac121_0 [] (some ⟨[1, 2], false, [], []⟩)) (.seq (.region ac121_1 [] (some ⟨[4], false, [], []⟩)) .ret))
def rs121 : List AResV := [.tmp 4]
def ft121 : FnT := ⟨22, tr121, tl121, ac121, rs121⟩
theorem is121 : FnIs Try.prog 121 22 tr121 tl121 ac121 rs121 := ⟨Try.f121, Try.func121, rfl, by kernel_rfl, by kernel_rfl, by kernel_rfl⟩
def ac122_0 : List AOper := [
 oO 2 (.box (.tmp 0)),
 oO 4 (.alloc [(.d (.v (.int .i64 0))), (.d (.v (.int .i64 0)))]),
 oO 5 (.mv (.const (.bool false)))]
def ac122_1 : List AOper := [
 oO 10 (.faddr 0 (.tmp 2)),
 oO 11 (.faddr 2 (.tmp 10)),
 oO 12 (.load false 1 (.tmp 11)),
 oO 13 (.len (.tmp 12)),
 oO 14 (.bin .eql 3 (.tmp 13) (kI 1))]
def ac122_2 : List AOper := [
 oO 15 (.build [(.d (.v (.int .i64 0))), (.d (.v (.int .i64 0)))] []),
 oD (.store 2 (.tmp 4) (.tmp 15)),
 oO 5 (.mv (.const (.bool false)))]
def ac122_3 : List AOper := [
 oO 16 (.load true 7 (.tmp 2)),
 oM 17 1,
 oO 18 (.call 123 [(.tmp 16), (.tmp 17)]),
 oM 6 18]
def ac122_4 : List AOper := [
 oO 19 (.load true 7 (.tmp 2)),
 oM 20 6,
 oO 21 (.call 124 [(.tmp 19), (.tmp 20)]),
 oO 22 (.index false 2 1 (.tmp 21) (kI 0)),
 oO 23 (.load true 7 (.tmp 2)),
 oM 24 6,
 oO 25 (.bin .add 3 (.tmp 24) (kI 1)),
 oO 26 (.call 124 [(.tmp 23), (.tmp 25)]),
 oO 27 (.index false 2 1 (.tmp 26) (kI 0)),
 oO 28 (.faddr 0 (.tmp 2)),
 oO 29 (.faddr 2 (.tmp 28)),
 oO 30 (.load false 1 (.tmp 29)),
 oM 31 6,
 oO 32 (.bin .add 3 (.tmp 31) (kI 1)),
 oO 33 (.iaddr 1 none (.tmp 30) (.tmp 32)),
 oO 34 (.load false 1 (.tmp 33)),
 oO 35 (.faddr 0 (.tmp 2)),
 oO 36 (.faddr 2 (.tmp 35)),
 oO 37 (.load false 1 (.tmp 36)),
 oM 38 6,
 oO 39 (.iaddr 1 none (.tmp 37) (.tmp 38)),
 oO 40 (.load false 1 (.tmp 39)),
 oO 41 (.bin .sub 3 (.tmp 34) (.tmp 40)),
 oM 7 22,
 oM 8 27,
 oM 9 41]
def ac122_5 : List AOper := [
 oM 42 7,
 oM 43 9,
 oO 44 (.bin .mul 3 (.tmp 42) (.tmp 43)),
 oM 45 8,
 oM 46 7,
 oO 47 (.bin .sub 3 (.tmp 45) (.tmp 46)),
 oO 48 (.faddr 0 (.tmp 2)),
 oO 49 (.faddr 2 (.tmp 48)),
 oO 50 (.load false 1 (.tmp 49)),
 oM 51 6,
 oO 52 (.iaddr 1 none (.tmp 50) (.tmp 51)),
 oO 53 (.load false 1 (.tmp 52)),
 oO 54 (.bin .mul 3 (.tmp 47) (.tmp 53)),
 oO 55 (.bin .sub 3 (.tmp 44) (.tmp 54)),
 oM 56 9,
 oO 57 (.build [(.d (.v (.int .i64 0))), (.d (.v (.int .i64 0)))] [(0, 1, (.tmp 55)), (1, 1, (.tmp 56))]),
 oD (.store 2 (.tmp 4) (.tmp 57)),
 oO 5 (.mv (.const (.bool true)))]
def tr122 : List (Nat × Tidy) := [tF 0 [1, 2, 4], tF 1 [1, 2, 4, 14], tF 2 [4, 5], tF 3 [2, 4, 6], tF 4 [2, 4, 6, 7, 8, 9], tF 5 [4, 5]]
def tl122 : List (Nat × Tidy) := []
def ac122 : ACode := (.seq (.region ac122_0 [] (some ⟨[1, 2, 4], false, [], []⟩)) (.seq (.seq (.region ac122_1 [] (some ⟨[1, 2, 4, 14], false, [], []⟩)) (.cond (.tmp 14) (.seq (.region ac122_2 [] (some ⟨[4, 5], false, [], []⟩)) .ret) .skip)) (.seq (.region ac122_3 [] (some ⟨[2, 4, 6], false, [], []⟩)) (.seq (.region ac122_4 [(2, 4), (2, 11), (7, 11), (2, 14), (7, 14), (2, 15), (7, 15), (2, 18), (7, 18), (2, 20), (7, 20), (2, 21), (7, 21)] (some ⟨[2, 4, 6, 7, 8, 9], false, [], []⟩)) (.seq (.region ac122_5 [] (some ⟨[4, 5], false, [], []⟩)) .ret)))))
def rs122 : List AResV := [.cell 4 true 2, .tmp 5]
def ft122 : FnT := ⟨58, tr122, tl122, ac122, rs122⟩
theorem is122 : FnIs Try.prog 122 58 tr122 tl122 ac122 rs122 := ⟨Try.f122, Try.func122, rfl, by kernel_rfl, by kernel_rfl, by kernel_rfl⟩
def ac123_0 : List AOper := [
 oO 2 (.box (.tmp 0)),
 oO 4 (.mv (kI 0))]
def ac123_1 : List AOper := [
 oO 5 (.mv (kI 0))]
def ac123_2 : List AOper := [
 oM 6 5,
 oO 7 (.bin .add 3 (.tmp 6) (kI 2)),
 oO 8 (.faddr 0 (.tmp 2)),
 oO 9 (.faddr 2 (.tmp 8)),
 oO 10 (.load false 1 (.tmp 9)),
 oO 11 (.len (.tmp 10)),
 oO 12 (.bin .lss 3 (.tmp 7) (.tmp 11)),
 oM 13 12,
 oG 14 (.faddr 0 (.tmp 2)) 13 true,
 oG 15 (.faddr 2 (.tmp 14)) 13 true,
 oG 16 (.load false 1 (.tmp 15)) 13 true,
 oG 17 (.mv (.tmp 5)) 13 true,
 oG 18 (.bin .add 3 (.tmp 17) (kI 1)) 13 true,
 oG 19 (.iaddr 1 none (.tmp 16) (.tmp 18)) 13 true,
 oG 20 (.load false 1 (.tmp 19)) 13 true,
 oG 21 (.mv (.tmp 1)) 13 true,
 oG 22 (.bin .leq 3 (.tmp 20) (.tmp 21)) 13 true,
 oO 23 (.pick (.tmp 13) (.tmp 22) (.const (.bool false)))]
def ac123_3 : List AOper := [
 oM 24 5,
 oO 25 (.bin .add 3 (.tmp 24) (kI 1)),
 oM 5 25]
def ac123_4 : List AOper := [
 oM 26 5,
 oM 4 26]
def tr123 : List (Nat × Tidy) := [tF 0 [1, 2], tF 1 [1, 2, 5], tF 2 [1, 2, 5, 23], tF 3 [1, 2, 5], tF 4 [4]]
def tl123 : List (Nat × Tidy) := [(2, ⟨[1, 2, 5], true, [⟨false, 5, 0, 20005, 0⟩], []⟩)]
def ac123 : ACode := (.seq (.region ac123_0 [] (some ⟨[1, 2], false, [], []⟩)) (.seq (.region ac123_1 [] (some ⟨[1, 2, 5], false, [], []⟩)) (.seq (.block 0 (.loop (some ⟨[1, 2, 5], true, [⟨false, 5, 0, 20005, 0⟩], []⟩) (.seq (.seq (.region ac123_2 [] (some ⟨[1, 2, 5, 23], false, [], []⟩)) (.cond (.tmp 23) .skip (.exit 0))) (.block 1 (.region ac123_3 [] (some ⟨[1, 2, 5], false, [], []⟩)))))) (.seq (.region ac123_4 [] (some ⟨[4], false, [], []⟩)) .ret))))
def rs123 : List AResV := [.tmp 4]
def ft123 : FnT := ⟨27, tr123, tl123, ac123, rs123⟩
theorem is123 : FnIs Try.prog 123 27 tr123 tl123 ac123 rs123 := ⟨Try.f123, Try.func123, rfl, by kernel_rfl, by kernel_rfl, by kernel_rfl⟩
def ac124_0 : List AOper := [
 oO 2 (.box (.tmp 0)),
 oO 4 (.alloc [(.d (.v (.int .i64 0))), (.d (.v (.int .i64 0)))])]
def ac124_1 : List AOper := [
 oO 5 (.faddr 0 (.tmp 2)),
 oO 6 (.faddr 3 (.tmp 5)),
 oO 7 (.load false 1 (.tmp 6)),
 oM 8 1,
 oO 9 (.iaddr 1 none (.tmp 7) (.tmp 8)),
 oO 10 (.load false 1 (.tmp 9)),
 oO 11 (.pure (oB (.convert 66 3 (.tmp 10)) 3)),
 oO 12 (.faddr 0 (.tmp 2)),
 oO 13 (.faddr 4 (.tmp 12)),
 oO 14 (.load false 1 (.tmp 13)),
 oM 15 1,
 oO 16 (.iaddr 1 none (.tmp 14) (.tmp 15)),
 oO 17 (.load false 1 (.tmp 16)),
 oO 18 (.pure (oB (.convert 66 3 (.tmp 17)) 3)),
 oO 19 (.build [(.d (.v (.int .i64 0))), (.d (.v (.int .i64 0)))] [(0, 1, (.tmp 11)), (1, 1, (.tmp 18))]),
 oD (.store 2 (.tmp 4) (.tmp 19))]
def tr124 : List (Nat × Tidy) := [tF 0 [1, 2, 4], tF 1 [4]]
def tl124 : List (Nat × Tidy) := []
def ac124 : ACode := (.seq (.region ac124_0 [] (some ⟨[1, 2, 4], false, [], []⟩)) (.seq (.region ac124_1 [] (some ⟨[4], false, [], []⟩)) .ret))
def rs124 : List AResV := [.cell 4 true 2]
def ft124 : FnT := ⟨20, tr124, tl124, ac124, rs124⟩
theorem is124 : FnIs Try.prog 124 20 tr124 tl124 ac124 rs124 := ⟨Try.f124, Try.func124, rfl, by kernel_rfl, by kernel_rfl, by kernel_rfl⟩
def tblM : List (Nat × FnT) := [(7, ft7), (9, ft9), (12, ft12), (18, ft18), (19, ft19), (20, ft20), (21, ft21), (22, ft22), (23, ft23), (25, ft25), (26, ft26), (27, ft27), (33, ft33), (34, ft34), (35, ft35), (36, ft36), (37, ft37), (38, ft38), (39, ft39), (45, ft45), (46, ft46), (47, ft47), (48, ft48), (49, ft49), (50, ft50), (51, ft51), (52, ft52), (53, ft53), (54, ft54), (55, ft55), (56, ft56), (57, ft57), (58, ft58), (59, ft59), (60, ft60), (61, ft61), (62, ft62), (63, ft63), (64, ft64), (65, ft65), (66, ft66), (67, ft67), (68, ft68), (69, ft69), (70, ft70), (71, ft71), (72, ft72), (73, ft73), (74, ft74), (76, ft76), (77, ft77), (78, ft78), (79, ft79), (80, ft80), (81, ft81), (82, ft82), (83, ft83), (84, ft84), (85, ft85), (87, ft87), (88, ft88), (89, ft89), (90, ft90), (91, ft91), (92, ft92), (93, ft93), (95, ft95), (96, ft96), (97, ft97), (98, ft98), (99, ft99), (100, ft100), (101, ft101), (102, ft102), (119, ft119), (121, ft121), (122, ft122), (123, ft123), (124, ft124)]
theorem tblMOk : TblOk Try.prog tblM := ⟨is7, is9, is12, is18, is19, is20, is21, is22, is23, is25, is26, is27, is33, is34, is35, is36, is37, is38, is39, is45, is46, is47, is48, is49, is50, is51, is52, is53, is54, is55, is56, is57, is58, is59, is60, is61, is62, is63, is64, is65, is66, is67, is68, is69, is70, is71, is72, is73, is74, is76, is77, is78, is79, is80, is81, is82, is83, is84, is85, is87, is88, is89, is90, is91, is92, is93, is95, is96, is97, is98, is99, is100, is101, is102, is119, is121, is122, is123, is124, trivial⟩
end Go.AM
